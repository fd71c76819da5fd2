/- Texts of one proof, laid together: G, H, D, T, F, FW, FN, FI, FP, FE, Q, B, MP, M, O, A, K, CP. No condition. -/
import Derived.Test.YtmaokjojbjdpoaaGreatDoorQA1
import Derived.WalkKit
import Derived.WalkSpells
import Derived.WalkLawsBesides
import Derived.Maps.AppendAt
import Derived.Deep.AppendLies
import Derived.Deep.Draws
import Derived.Deep.QuietTactic
import Derived.BigQuiet
import Derived.Deep.RegionWith
import Derived.Deep.RegionHeld3
import Derived.Deep.DeepFit
import Derived.Deep.DeepMust
import Derived.Deep.Slices
import Derived.ProofKit
import Derived.Lib.SmallJoins
import Derived.Test.YtmaokjojbjdpoaaGreatDoorChecked
import Derived.RangeFuncNested
import Derived.RangeFuncBound
import Derived.RangeFuncCalls
import Derived.RangeFuncLeaves
import Derived.Shelf.Abstract
import Derived.Shelf.RegionOpen
import Derived.OwnWalkIn
import Derived.TacticsInMore
import Derived.LoopNIn
import Derived.LoopIn
import Derived.RangeFuncBox
import Derived.Laws.CopyRow
import Derived.Deep.RegionLaw
set_option linter.unusedSimpArgs false
set_option maxHeartbeats 2000000
set_option maxRecDepth 100000
namespace Go.Proofs.YtmaokjojbjdpoaaGreatDoor
open Go.RowKit
set_option linter.unusedVariables false

@[irreducible] def Hx (p:Prop):Prop:=p
theorem UA {p:Prop} (h:p):Hx p:=by unfold Hx;exact h
theorem Hx.out {p:Prop} (h:Hx p):p:=by unfold Hx at h;exact h

def JU {α:Type} (P:α→Value→Prop) (u:Value):Prop:=∃k,P k u
theorem JU.mk {α:Type} {P:α→Value→Prop} {u:Value} (k:α) (h:P k u):JU P u:=⟨k,h⟩
def Rel2 {α:Type} (P:α→Value→Value→Prop) (t i:Value):Prop:=∃k,P k t i
theorem Rel2.mk {α:Type} {P:α→Value→Value→Prop} {t i:Value} (k:α) (h:P k t i):Rel2 P t i:=⟨k,h⟩

theorem ZC3 {a b:Bool} (h:a=b):Ending.returned (.bool a)=.returned (.bool b):=by rw[h]
def Ext (w w':World):Prop:=Below w.heap.size w w'
theorem Ext.refl (w:World):Ext w w:=Below.refl _ _
theorem Ext.trans {a b c:World} (h:Ext a b) (k:Ext b c):Ext a c:=Below.trans h (Below.mono k h.size)
theorem Ext.alloc {a w:World} (h:Ext a w) (o:Obj):Ext a (w.alloc o):=Below.alloc h h.size o
theorem Ext.drew {a w:World} (h:Ext a w):Ext a w.drew:=Below.drew h
theorem Ext.drewN {a w:World} (h:Ext a w) (n:Nat):Ext a (w.drewN n):=⟨h.os,h.tape,h.output,h.size,h.block⟩
theorem Ext.setCell {a w:World} (h:Ext a w) {p:Addr} (hp:a.heap.size≤p.block) (u:Value):Ext a (w.setCell p u):=Below.setCell h hp u
theorem Ext.size {a w:World} (h:Ext a w):a.heap.size≤w.heap.size:=Below.size h
theorem Ext.cellAt {a w:World} (h:Ext a w) {b o:Nat} {v:Value} (hc:a.cell? ⟨b,o,none⟩=some v):w.cell? ⟨b,o,none⟩=some v:=
 (Below.cell (p:=⟨b,o,none⟩) h (World.block_lt_of_cell? a _ hc)).trans hc
theorem Ext.cells {a w:World} (h:Ext a w):∀b o,b<a.heap.size→w.cell? ⟨b,o,none⟩=a.cell? ⟨b,o,none⟩:=fun b o hb=>Below.cell (p:=⟨b,o,none⟩) h hb
theorem Ext.grown {a w w':World} {row:Option Nat} (h:Ext a w) (hg:w.grownBy w' row) (hr:∀k,row=some k→a.heap.size≤k):Ext a w':=Below.grown h hg h.size hr
theorem Ext.below {a w:World} (h:Ext a w):Below a.heap.size a w:=h
theorem KB {w:World} {b o:Nat} {v:Value} (h:w.cell? ⟨b,o,none⟩=some v):b<w.heap.size:=World.block_lt_of_cell? w _ h

section
variable {α β:Type}
def SlR (size:Nat) (R:World→Nat→Nat→α→Prop) (w:World) (v:Value) (xs:List α):Prop:=
 ∃A c,v=.slice A xs.length c∧xs.length≤c∧c≤maxLen∧(0<xs.length→∃b off,A=some ⟨b,off,none⟩∧∀(j:Nat) (x:α),xs[j]? = some x→R w b (off+j*size) x)

def PT (R:World→Nat→Nat→α→Prop):Prop:=∀w w' b o x,Ext w w'→R w b o x→R w' b o x
theorem SlR.ext {size:Nat} {R:World→Nat→Nat→α→Prop} (hR:PT R) {w w':World} {v:Value} {xs:List α} (h:SlR size R w v xs) (he:Ext w w'):SlR size R w' v xs:=by
 obtain⟨A,c,hv,hl,hm,hc⟩:=h
 refine⟨A,c,hv,hl,hm,fun h0=>?_⟩
 obtain⟨b,off,hA,hj⟩:=hc h0
 exact⟨b,off,hA,fun j x hx=>hR _ _ _ _ _ he (hj j x hx)⟩
theorem SlR.nil (size:Nat) (R:World→Nat→Nat→α→Prop) (w:World):SlR size R w (.slice none 0 0) []:=⟨none,0,rfl,by simp,by simp[maxLen],by simp⟩

def One (enc:α→Value) (w:World) (b o:Nat) (x:α):Prop:=w.cell? ⟨b,o,none⟩=some (enc x)
theorem One.keeps (enc:α→Value):PT (One enc):=fun _ _ _ _ _ he h=>Ext.cellAt he h
def Sl (enc:α→Value) (w:World) (v:Value) (xs:List α):Prop:=SlR 1 (One enc) w v xs
theorem Sl.ext {enc:α→Value} {w w':World} {v:Value} {xs:List α} (h:Sl enc w v xs) (he:Ext w w'):Sl enc w' v xs:=SlR.ext (One.keeps enc) h he
theorem Sl.nil (enc:α→Value) (w:World):Sl enc w (.slice none 0 0) []:=SlR.nil _ _ _
theorem Sl.form {enc:α→Value} {w:World} {v:Value} {xs:List α} (h:Sl enc w v xs):∃A c,v=.slice A xs.length c∧xs.length≤c∧c≤maxLen∧(0<xs.length→∃b off,A=some ⟨b,off,none⟩∧b<w.heap.size ∧
  ∀(j:Nat) (hj:j<xs.length),w.cell? ⟨b,off+j,none⟩=some (enc xs[j])):=by
 obtain⟨A,c,hv,hl,hm,hc⟩:=h
 refine⟨A,c,hv,hl,hm,fun h0=>?_⟩
 obtain⟨b,off,hA,hj⟩:=hc h0
 have JF:∀(j:Nat) (hj:j<xs.length),w.cell? ⟨b,off+j,none⟩=some (enc xs[j]):=fun j hj'=>by
  have:=hj j xs[j] (ah hj')
  rwa [iq]at this
 exact⟨b,off,hA,KB (JF 0 h0),JF⟩
theorem Sl.mk {enc:α→Value} {w:World} {A:Option Addr} {n c:Nat} {xs:List α} (hn:n=xs.length) (hl:n≤c) (hm:c≤maxLen)
  (h:0<n→∃b off,A=some ⟨b,off,none⟩∧∀(j:Nat) (hj:j<xs.length),w.cell? ⟨b,off+j,none⟩=some (enc xs[j])):Sl enc w (.slice A n c) xs:=by
 subst hn
 refine⟨A,c,rfl,hl,hm,fun h0=>?_⟩
 obtain⟨b,off,hA,hj⟩:=h h0
 refine⟨b,off,hA,fun j x hx=>?_⟩
 obtain⟨yA,rfl⟩:=ak.1 hx
 rw[iq]
 exact hj j yA
theorem Sl.take {enc:α→Value} {w:World} {A:Option Addr} {n c:Nat} {xs:List α} (h:Sl enc w (.slice A n c) xs) (k:Nat) (hk:k≤n):Sl enc w (.slice A k c) (xs.take k):=by
 obtain⟨A',c',hv,hl,hm,hc⟩:=h.form
 injection hv with hA hn hc';subst hA;subst hc';subst hn
 refine Sl.mk (by rw[cf];omega) oM hm (fun h0=>?_)
 obtain⟨b,off,hA,_,hj⟩:=hc oM
 exact⟨b,off,hA,fun j hj'=>by rw[List.getElem_take];exact hj j (by rw[cf]at hj';omega)⟩
theorem Sl.drop {enc:α→Value} {w:World} {A A':Option Addr} {n c:Nat} {xs:List α} (h:Sl enc w (.slice A n c) xs) (k:Nat) (hk:k≤n)
  (hA':∀b off,A=some ⟨b,off,none⟩→k<n→A'=some ⟨b,off+k,none⟩):Sl enc w (.slice A' (n-k) (c-k)) (xs.drop k):=by
 obtain⟨A0,c0,hv,hl,hm,hc⟩:=h.form
 injection hv with hA hn hc';subst hA;subst hc';subst hn
 refine Sl.mk (by rw[ea]) oM oM (fun h0=>?_)
 obtain⟨b,off,hA,_,hj⟩:=hc oM
 refine⟨b,off+k,hA' b off hA oM,fun j hj'=>?_⟩
 have yA:k+j<xs.length:=by rw[ea]at hj';omega
 rw[List.getElem_drop,ct]
 exact hj (k+j) yA
end

def Own {α:Type} (enc:α→Value) (e:TypeId) (w:World) (B:Nat) (v:Value) (xs:List α):Prop:=w.ownsRow B e 1 v xs.length (xs.map enc)
def Grw (w:World) (v:Value) (w':World) (v':Value):Prop:=w.grownBy w' v.ownBlock∧∀k,v'.ownBlock=some k→v.ownBlock=some k∨w.heap.size≤k

section
variable {α:Type} {enc:α→Value} {e:TypeId} {w w':World} {B:Nat} {v v':Value} {xs:List α}
theorem Grw.refl (w:World) (v:Value):Grw w v w v:=⟨World.grownBy.refl _ _,fun _ h=>.inl h⟩
theorem Grw.trans {w2:World} {v2:Value} (h:Grw w v w' v') (k:Grw w' v' w2 v2):Grw w v w2 v2:=by
 refine⟨⟨k.1.os.trans h.1.os,k.1.tape.trans h.1.tape,k.1.output.trans h.1.output,dh h.1.size k.1.size,fun i hi VG=>?_⟩,fun i hi=>?_⟩
 ·rw[k.1.block i (fc hi h.1.size) ?_,h.1.block i hi VG]
  intro he
  rcases h.2 i he.symm with h'|h'
  ·exact VG h'.symm
  ·omega
 ·rcases k.2 i hi with h'|h'
  ·exact h.2 i h'
  ·exact .inr (dh h.1.size h')
theorem Grw.alloc (h:Grw w v w' v') (o:Obj):Grw w v (w'.alloc o) v':=
 h.trans ⟨World.grownBy_alloc _ _ _,fun _ hk=>.inl hk⟩
theorem Grw.drew (h:Grw w v w' v'):Grw w v w'.drew v':=⟨⟨h.1.os,h.1.tape,h.1.output,h.1.size,h.1.block⟩,h.2⟩
theorem Grw.below (h:Grw w v w' v') (hv:∀k,v.ownBlock=some k→B≤k) (hB:B≤w.heap.size):Below B w w':=(Below.refl B w).grown h.1 hB hv
theorem Grw.ext (h:Grw w v w' v') (hv:v.ownBlock=none):Ext w w':=Grw.below h (fun k hk=>by rw[hv]at hk;cases hk) (ai _)
theorem Own.lt (h:Own enc e w B v xs):∀k,v.ownBlock=some k→B≤k∧k<w.heap.size:=World.ownsRow.lt h
theorem Own.nil (enc:α→Value) (e:TypeId) (w:World) (B:Nat):Own enc e w B (.slice none 0 0) []:=World.ownsRow_nil _ _ _ _
theorem Own.alloc (h:Own enc e w B v xs) (o:Obj):Own enc e (w.alloc o) B v xs:=World.ownsRow.alloc h o
theorem Own.drew (h:Own enc e w B v xs):Own enc e w.drew B v xs:=h
theorem Own.drewN (h:Own enc e w B v xs) (n:Nat):Own enc e (w.drewN n) B v xs:=h
theorem Own.ext (h:Own enc e w B v xs) (he:Ext w w'):Own enc e w' B v xs:=
 World.ownsRow.kept (row:=none) h ⟨he.os,he.tape,he.output,he.size,fun k hk _=>he.block k hk⟩ (by cases v.ownBlock<;>simp)
theorem Own.kept (h:Own enc e w B v xs) {row:Option Nat} (hg:w.grownBy w' row) (VG:v.ownBlock=none∨v.ownBlock≠row):Own enc e w' B v xs:=World.ownsRow.kept h hg VG
theorem Own.mono {B':Nat} (h:Own enc e w B v xs) (hB:B'≤B):Own enc e w B' v xs:=by
 obtain⟨h1,h2⟩:=h
 refine⟨h1,?_⟩
 rcases h2 with h2|⟨g,cap,cur,hv,hb,rest⟩
 ·exact .inl h2
 ·exact .inr ⟨g,cap,cur,hv,dh hB hb,rest⟩
theorem Own.sl (h:Own enc e w B v xs):Sl enc w v xs:=by
 rcases h.2 with ⟨hv,hn⟩|⟨g,cap,cur,hv,hb,hg,hnc,iM,fX,ht⟩
 ·have hx:xs=[]:=co hn
  subst hx;subst hv
  exact Sl.nil _ _
 ·subst hv
  refine Sl.mk rfl hnc iM (fun _=>⟨g,0,rfl,fun j hj=>?_⟩)
  have:=World.ownsRow.cells h (g:=g) rfl j (enc xs[j]) (by simp[ah hj])
  have e0:(⟨g,0,none⟩:Addr).add j=⟨g,0+j,none⟩:=by unfold Addr.add;split<;>simp_all
  rwa [e0]at this
theorem Own.form (h:Own enc e w B v xs):∃A c,v=.slice A xs.length c∧xs.length≤c∧c≤maxLen:=by
 obtain⟨A,c,hv,hl,hm,_⟩:=h.sl
 exact⟨A,c,hv,hl,hm⟩
theorem Own.made (w:World) (cs:Array Value) (hB:B≤w.heap.size) (hm:xs.length≤maxLen) (hc:cs=(xs.map enc).toArray) :
  Own enc e (w.alloc (.cells cs e)) B (.slice (some ⟨w.heap.size,0,none⟩) xs.length xs.length) xs:=by
 subst hc
 refine⟨by simp,.inr ⟨w.heap.size,xs.length,_,rfl,hB,heap_alloc_new w _,ai _,hm,by simp,?_⟩⟩
 rw[iq]
 exact cr kS
end

theorem Sl.made {α:Type} {enc:α→Value} (e:TypeId) (w:World) {cs:Array Value} {n:Nat} (xs:List α) (hn:n=xs.length) (hm:n≤maxLen) (hc:cs=(xs.map enc).toArray) :
  Sl enc (w.alloc (.cells cs e)) (.slice (some ⟨w.heap.size,0,none⟩) n n) xs:=by
 subst hn
 exact (Own.made (B:=0) w cs (aj _) hm hc).sl

theorem Ext.more {a w w':World} (h:Ext a w) (k:Below a.heap.size w w'):Ext a w':=Below.trans h k
def byt (x:UInt8):Value:=.int .u8 (x.toNat:Int)
theorem Sl.drewN {α:Type} {enc:α→Value} {w:World} {v:Value} {xs:List α} (h:Sl enc w v xs) (n:Nat):Sl enc (w.drewN n) v xs:=h.ext ((Ext.refl w).drewN n)

section
variable {P:Program} {α:Type} {enc:α→Value} {w:World} {A:Option Addr} {n c:Nat} {xs:List α}
theorem Sl.len {v:Value} (h:Sl enc w v xs):∃A c,v=.slice A xs.length c:=by obtain⟨A,c,hv,_⟩:=h.form;exact⟨A,c,hv⟩
end
theorem H9 (n k:Nat) (kI:Int) (hk:kI=k) (h:n+k≤9223372036854775807):IntKind.i64.wrap ((n:Int)+kI)=(n:Int)+kI∧((n:Int)+kI).toNat=n+k∧0≤(n:Int)+kI:=by
 subst hk
 refine⟨?_,by omega,by omega⟩
 rw[IntKind.wrap_i64];omega
end Go.Proofs.YtmaokjojbjdpoaaGreatDoor
namespace Go.Proofs.YtmaokjojbjdpoaaGreatDoor
open Go.RowKit Go.ChangeShapes Go.WideShapes Go.Deep
set_option linter.unusedVariables false

theorem Q9 {α:Type} {p:Nat→α→Prop}:∀n:Nat,(∀i,i<n→∃x,p i x)→∃xs:List α,xs.length=n∧∀(j:Nat) (x:α),xs[j]? = some x→p j x
 |0,_=>⟨[],rfl,fun j x h=>by simp at h⟩
 |n+1,h=>by
   obtain⟨xs,hl,hx⟩:=Q9 n (fun i hi=>h i (jy hi))
   obtain⟨y,hy⟩:=h n (jz n)
   refine⟨xs++[y],by simp[hl],fun j x hj=>?_⟩
   rcases bj j n with yA|xH
   ·rw[aw oM]at hj;exact hx j x hj
   ·rw[ar oM]at hj
    rcases Nat.eq_or_lt_of_le xH with he|hgt
    ·subst he
     rw[hl,eh]at hj
     simp at hj
     subst hj;exact hy
    ·rw[bu (by simp;omega)]at hj;cases hj

theorem L9 {w:World} {x:Addr} {v:Value} (h:w.cell? x=some v):x.spot=none:=by
 unfold World.cell? at h
 split at h
 ·split at h
  ·cases h
  ·rename_i hs;simpa using hs
 ·cases h

section
variable {α:Type}
def TRV (P:Program) (e:TypeId) (V:World→Value→α→Prop):Prop:=
 ∀(H:Type) (enc:TypeId×Value→H) (w:World) (base:Nat) (spare:Nat→Bool) (held:Bool) (fuel:Nat) (v:Value) (x:DataW H×List MemPlace),DataW.trod enc P w base spare held fuel e [v]=some x→∃y,V w v y
def TRR (P:Program) (e:TypeId) (size:Nat) (R:World→Nat→Nat→α→Prop):Prop:=
 ∀(H:Type) (enc:TypeId×Value→H) (w:World) (base:Nat) (spare:Nat→Bool) (held:Bool) (fuel:Nat) (b o:Nat) (cs:List Value) (x:DataW H×List MemPlace),cs.length=size →
  (∀j (hj:j<cs.length),w.cell? ⟨b,o+j,none⟩=some cs[j])→DataW.trod enc P w base spare held fuel e cs=some x→∃y,R w b o y
theorem TRV.mono {P:Program} {e:TypeId} {V V':World→Value→α→Prop} (h:TRV P e V) (hv:∀w v y,V w v y→V' w v y):TRV P e V':=
 fun H enc w base spare held fuel v x hx=>let ⟨y,hy⟩:=h H enc w base spare held fuel v x hx;⟨y,hv _ _ _ hy⟩
theorem TRV.cell {P:Program} {e:TypeId} {V:World→Value→α→Prop} (h:TRV P e V):TRR P e 1 (fun w b o y=>∃v,w.cell? ⟨b,o,none⟩=some v∧V w v y):=by
 intro H enc w base spare held fuel b o cs x hl hc hx
 match cs,hl with
 |[v],_ =>
   obtain⟨y,hy⟩:=h H enc w base spare held fuel v x hx
   exact⟨y,v,by simpa using hc 0 kS,hy⟩
theorem TRR.mono {P:Program} {e:TypeId} {size:Nat} {R R':World→Nat→Nat→α→Prop} (h:TRR P e size R) (hr:∀w b o y,R w b o y→R' w b o y):TRR P e size R':=
 fun H enc w base spare held fuel b o cs x hl hc hx=>let ⟨y,hy⟩:=h H enc w base spare held fuel b o cs x hl hc hx;⟨y,hr _ _ _ _ hy⟩
end

theorem SlR.mono {α:Type} {size:Nat} {R R':World→Nat→Nat→α→Prop} {w:World} {v:Value} {xs:List α} (h:SlR size R w v xs) (hr:∀b o y,R w b o y→R' w b o y):SlR size R' w v xs:=by
 obtain⟨A,c,hv,hl,hm,hc⟩:=h
 refine⟨A,c,hv,hl,hm,fun h0=>?_⟩
 obtain⟨b,off,hA,hj⟩:=hc h0
 exact⟨b,off,hA,fun j x hx=>hr _ _ _ (hj j x hx)⟩
end Go.Proofs.YtmaokjojbjdpoaaGreatDoor
namespace Go.Proofs.YtmaokjojbjdpoaaGreatDoor
open Go.RowKit
set_option linter.unusedVariables false

structure Asg where
 v:Int
 val:Int
structure Ev where
 kind:Int
 peer:Int
 msg:Int
 time:Int
 asg:List Asg
structure Vr where
 name:ByteArray
 init:Int
structure Pr where
 name:ByteArray
 vars:List Vr
 evs:List Ev
abbrev Tr:=List Pr

def RAsg (w:World) (b o:Nat) (x:Asg):Prop:=w.cell? ⟨b,o,none⟩=some (.int .i64 x.v)∧w.cell? ⟨b,o+1,none⟩=some (.int .i64 x.val)
def RVr (w:World) (b o:Nat) (x:Vr):Prop:=w.cell? ⟨b,o,none⟩=some (.string x.name)∧w.cell? ⟨b,o+1,none⟩=some (.int .i64 x.init)∧x.name.size≤maxLen
def REv (w:World) (b o:Nat) (x:Ev):Prop:=
 w.cell? ⟨b,o,none⟩=some (.int .i64 x.kind)∧w.cell? ⟨b,o+1,none⟩=some (.int .i64 x.peer)∧w.cell? ⟨b,o+2,none⟩=some (.int .i64 x.msg)∧w.cell? ⟨b,o+3,none⟩=some (.int .i64 x.time) ∧
  ∃v,w.cell? ⟨b,o+4,none⟩=some v∧SlR 2 RAsg w v x.asg
def RPr (w:World) (b o:Nat) (x:Pr):Prop:=
 (w.cell? ⟨b,o,none⟩=some (.string x.name)∧x.name.size≤maxLen)∧(∃v,w.cell? ⟨b,o+1,none⟩=some v∧SlR 2 RVr w v x.vars)∧∃v,w.cell? ⟨b,o+2,none⟩=some v∧SlR 5 REv w v x.evs
def VTr (w:World) (v:Value) (t:Tr):Prop:=∃u,v=.agg #[u]∧SlR 3 RPr w u t
theorem RAsg.keeps:PT RAsg:=fun _ _ _ _ _ he ⟨h1,h2⟩=>⟨he.cellAt h1,he.cellAt h2⟩
theorem RVr.keeps:PT RVr:=fun _ _ _ _ _ he ⟨h1,h2,h3⟩=>⟨he.cellAt h1,he.cellAt h2,h3⟩
theorem REv.keeps:PT REv:=fun _ _ _ _ _ he ⟨h1,h2,h3,h4,v,h5,h6⟩=>⟨he.cellAt h1,he.cellAt h2,he.cellAt h3,he.cellAt h4,v,he.cellAt h5,h6.ext RAsg.keeps he⟩
theorem RPr.keeps:PT RPr:=fun _ _ _ _ _ he ⟨⟨h1,h2⟩,⟨v,h3,h4⟩,u,h5,h6⟩=>⟨⟨he.cellAt h1,h2⟩,⟨v,he.cellAt h3,h4.ext RVr.keeps he⟩,u,he.cellAt h5,h6.ext REv.keeps he⟩
theorem VTr.ext {w w':World} {v:Value} {t:Tr} (h:VTr w v t) (he:Ext w w'):VTr w' v t:=by
 obtain⟨u,hv,hs⟩:=h
 exact⟨u,hv,hs.ext RPr.keeps he⟩

theorem SlR.at_ {α:Type} {size:Nat} {R:World→Nat→Nat→α→Prop} {w:World} {v:Value} {xs:List α} (h:SlR size R w v xs):∃A c,v=.slice A xs.length c∧xs.length≤c∧c≤maxLen∧(0<xs.length→∃b off,A=some ⟨b,off,none⟩∧∀(k:Nat) (hk:k<xs.length),R w b (off+k*size) xs[k]):=by
 obtain⟨A,c,hv,hl,hm,hc⟩:=h
 refine⟨A,c,hv,hl,hm,fun h0=>?_⟩
 obtain⟨b,off,hA,hj⟩:=hc h0
 exact⟨b,off,hA,fun k hk=>hj k _ (ah hk)⟩
end Go.Proofs.YtmaokjojbjdpoaaGreatDoor
namespace Go.Proofs.YtmaokjojbjdpoaaGreatDoor
set_option linter.unusedVariables false

def letterB (c:UInt8):Bool:=(decide ((97:Int)≤(c.toNat:Int))&&decide ((c.toNat:Int)≤122))||(decide ((65:Int)≤(c.toNat:Int))&&decide ((c.toNat:Int)≤90))
def digitB (c:UInt8):Bool:=decide ((48:Int)≤(c.toNat:Int))&&decide ((c.toNat:Int)≤57)
def SG (c:UInt8):Bool:=letterB c||digitB c||(c.toNat:Int)==95
def EW (l:List UInt8):Bool:=decide (1≤l.length)&&decide (l.length≤16)&&letterB (l.getD 0 0)&&l.all SG
def nD (s:ByteArray):Bool:=EW s.data.toList
def lK (n:Int):Bool:=decide (-1073741824≤n)&&decide (n≤1073741824)
def inB (x lo hi:Int):Bool:=decide (lo≤x)&&decide (x≤hi)

def uB (f:Nat→Nat):Nat→Nat
 |0=>0
 |n+1=>if uB f n=0 then f n else uB f n
theorem GG {f:Nat→Nat}:∀{n:Nat},uB f n=0↔∀i,i<n→f i=0
 |0=>by simp[uB]
 |n+1=>by
   rw[uB]
   split
   ·rename_i h
    have:=(GG (n:=n)).1 h
    constructor
    ·intro h2 i hi
     rcases iz.1 hi with h3|rfl
     ·exact this i h3
     ·exact h2
    ·intro h2;exact h2 n (jz n)
   ·rename_i h
    constructor
    ·intro h2;exact absurd h2 h
    ·intro h2;exact absurd ((GG (n:=n)).2 fun i hi=>h2 i (jy hi)) h
theorem aC {f:Nat→Nat} {k:Nat} (h0:uB f k=0) (hk:f k≠0):∀{n:Nat},k<n→uB f n=f k
 |0,h=>absurd h (gq _)
 |n+1,h=>by
   rcases iz.1 h with h1|rfl
   ·have:=aC h0 hk h1
    rw[uB,if_neg (by rw[this];exact hk),this]
   ·rw[uB,if_pos h0]
theorem IG {f:Nat→Nat} {k:Nat} (h0:uB f k=0) (hk:f k=0):uB f (k+1)=0:=by rw[uB,if_pos h0];exact hk

def qO:Vr:=⟨ByteArray.empty,0⟩
def TT:Asg:=⟨0,0⟩
def lI:Ev:=⟨0,0,0,0,[]⟩
def dfPr:Pr:=⟨ByteArray.empty,[],[]⟩

def aM (vs:List Vr) (i:Nat):Nat:=
 if !nD (vs.getD i qO).name||(vs.take i).any (fun y=>y.name.toList==(vs.getD i qO).name.toList) then 13
 else if !lK (vs.getD i qO).init then 2 else 0
def SC (t:Tr) (p:Nat):Nat:=
 if !nD (t.getD p dfPr).name||(t.take p).any (fun y=>y.name.toList==(t.getD p dfPr).name.toList) then 13
 else if 8<(t.getD p dfPr).vars.length then 5
 else if uB (aM (t.getD p dfPr).vars) (t.getD p dfPr).vars.length≠0 then uB (aM (t.getD p dfPr).vars) (t.getD p dfPr).vars.length
 else if 64<(t.getD p dfPr).evs.length then 5 else 0

def YJ (nv:Nat) (l:List Asg) (k:Nat):Nat:=
 if !(inB (l.getD k TT).v 0 ((nv:Int)-1))||!lK (l.getD k TT).val then 2
 else if (l.take k).any (fun b=>b.v==(l.getD k TT).v) then 8 else 0
def AA (np p:Nat) (e:Ev):Bool:=
 if e.kind==1 then e.peer==0&&e.msg==0
 else if e.kind==2||e.kind==3 then inB e.peer 0 ((np:Int)-1)&&e.peer != (p:Int)&&inB e.msg 0 199 else false
def iA (t:Tr) (p:Nat):List Ev:=(t.getD p dfPr).evs
def gA (t:Tr) (x:Nat×Nat):Ev:=(iA t x.1).getD (x.2-1) lI
def AH (t:Tr) (x:Nat×Nat):Int:=if 1<x.2 then ((iA t x.1).getD (x.2-2) lI).time else 0
def lC (t:Tr) (x:Nat×Nat):Nat:=
 if !AA t.length x.1 (gA t x) then 3
 else if !(inB (gA t x).time 0 1099511627776)||decide ((gA t x).time<AH t x) then 11
 else if 8<(gA t x).asg.length then 5
 else uB (YJ (t.getD x.1 dfPr).vars.length (gA t x).asg) (gA t x).asg.length

def PM (t:Tr) (p:Nat):List (Nat×Nat):=(List.range (iA t p).length).map fun i=>(p,i+1)
def ids (t:Tr):List (Nat×Nat):=(List.range t.length).flatMap (PM t)

def GC (t:Tr) (kind msg:Int):Option (Nat×Nat):=(ids t).find? fun x=>(gA t x).kind==kind&&(gA t x).msg==msg
def sendsB (t:Tr) (p:Nat) (m:Int) (to:Int):Bool:=(iA t p).any fun e=>e.kind==2&&e.msg==m&&e.peer==to
def ZD (t:Tr) (x:Nat×Nat):Nat:=
 if (gA t x).kind==2 then (if GC t 2 (gA t x).msg==some x then 0 else 8)
 else if (gA t x).kind==3 then
  (if GC t 3 (gA t x).msg==some x then (if sendsB t (gA t x).peer.toNat (gA t x).msg x.1 then 0 else 7) else 8)
 else 0

def Dir (t:Tr) (x y:Nat×Nat):Prop:=
 (y=(x.1,x.2+1)∧x.2<(iA t x.1).length)∨((gA t x).kind=2∧GC t 3 (gA t x).msg=some y)
inductive Hb (t:Tr):Nat×Nat→Nat×Nat→Prop
 |one {x y:Nat×Nat}:Dir t x y→Hb t x y
 |more {x y z:Nat×Nat}:Hb t x y→Dir t y z→Hb t x z

open Classical in
noncomputable def eE (t:Tr):(Nat×Nat)×Nat:=
 if t.length<1∨8<t.length then ((0,0),1)
 else match (List.range t.length).find? (fun p=>SC t p != 0) with
  |some p=>((p,0),SC t p)
  |none=>match (ids t).find? (fun x=>lC t x != 0) with
    |some x=>(x,lC t x)
    |none=>match (ids t).find? (fun x=>ZD t x != 0) with
      |some x=>(x,ZD t x)
      |none=>match (ids t).find? (fun x=>decide (Hb t x x)) with
        |some x=>(x,10)
        |none=>((0,0),0)
noncomputable def fD (t:Tr):Bool:=(eE t).2==0
open Go.RowKit

theorem zL (x lo hi:Int) (w:World):Calls Tryz.prog 86 #[.int .i64 x,.int .i64 lo,.int .i64 hi] w fun e w'=>e=.returned (.bool (inB x lo hi))∧w=w':=by
 have hc:((decide (lo≤x))=false)∨((decide (lo≤x))=true∧(decide (x≤hi))=false)∨((decide (lo≤x))=true∧(decide (x≤hi))=true):=by
  cases hc0:(decide (lo≤x))<;>cases pI:(decide (x≤hi))<;>simp
 rcases hc with pI|⟨pI,JR⟩|⟨pI,JR⟩
 all_goals
  go_enter Tryz.func86,Tryz.ntmps86
  go_wp2
  all_goals
   go_ret
   exact⟨by simp[inB, *],rfl⟩

theorem GR (c:UInt8) (w:World):Calls Tryz.prog 186 #[byt c] w fun e w'=>e=.returned (.bool (letterB c))∧w=w':=by
 unfold byt
 have hc:((decide ((97:Int)≤(c.toNat:Int)))=true∧(decide ((c.toNat:Int)≤122))=true)∨((decide ((97:Int)≤(c.toNat:Int)))=false∧(decide ((65:Int)≤(c.toNat:Int)))=true∧(decide ((c.toNat:Int)≤90))=true)∨((decide ((97:Int)≤(c.toNat:Int)))=true∧(decide ((c.toNat:Int)≤122))=false∧(decide ((65:Int)≤(c.toNat:Int)))=true∧(decide ((c.toNat:Int)≤90))=true)∨((decide ((97:Int)≤(c.toNat:Int)))=false∧(decide ((65:Int)≤(c.toNat:Int)))=false)∨((decide ((97:Int)≤(c.toNat:Int)))=false∧(decide ((65:Int)≤(c.toNat:Int)))=true∧(decide ((c.toNat:Int)≤90))=false)∨((decide ((97:Int)≤(c.toNat:Int)))=true∧(decide ((c.toNat:Int)≤122))=false∧(decide ((65:Int)≤(c.toNat:Int)))=false)∨((decide ((97:Int)≤(c.toNat:Int)))=true∧(decide ((c.toNat:Int)≤122))=false∧(decide ((65:Int)≤(c.toNat:Int)))=true∧(decide ((c.toNat:Int)≤90))=false):=by
  cases hc0:(decide ((97:Int)≤(c.toNat:Int)))<;>cases pI:(decide ((c.toNat:Int)≤122))<;>cases JR:(decide ((65:Int)≤(c.toNat:Int)))<;>cases VX:(decide ((c.toNat:Int)≤90))<;>simp
 rcases hc with ⟨pI,JR⟩|⟨pI,JR,VX⟩|⟨pI,JR,VX,hc4⟩|⟨pI,JR⟩|⟨pI,JR,VX⟩|⟨pI,JR,VX⟩|⟨pI,JR,VX,hc4⟩
 all_goals
  go_enter Tryz.func186,Tryz.ntmps186
  go_wp2
  all_goals
   go_ret
   exact⟨by simp[letterB, *],rfl⟩

theorem ZAj (c:UInt8) (w:World):Calls Tryz.prog 187 #[byt c] w fun e w'=>e=.returned (.bool (digitB c))∧w=w':=by
 unfold byt
 have hc:((decide ((48:Int)≤(c.toNat:Int)))=false)∨((decide ((48:Int)≤(c.toNat:Int)))=true∧(decide ((c.toNat:Int)≤57))=false)∨((decide ((48:Int)≤(c.toNat:Int)))=true∧(decide ((c.toNat:Int)≤57))=true):=by
  cases hc0:(decide ((48:Int)≤(c.toNat:Int)))<;>cases pI:(decide ((c.toNat:Int)≤57))<;>simp
 rcases hc with pI|⟨pI,JR⟩|⟨pI,JR⟩
 all_goals
  go_enter Tryz.func187,Tryz.ntmps187
  go_wp2
  all_goals
   go_ret
   exact⟨by simp[digitB, *],rfl⟩

theorem vP (c:UInt8) (w:World):Calls Tryz.prog 175 #[byt c] w fun e w'=>e=.returned (.bool (letterB c))∧w=w':=by
 unfold byt
 have hc:((decide ((65:Int)≤(c.toNat:Int)))=true∧(decide ((c.toNat:Int)≤90))=true)∨((decide ((65:Int)≤(c.toNat:Int)))=false∧(decide ((97:Int)≤(c.toNat:Int)))=true∧(decide ((c.toNat:Int)≤122))=true)∨((decide ((65:Int)≤(c.toNat:Int)))=true∧(decide ((c.toNat:Int)≤90))=false∧(decide ((97:Int)≤(c.toNat:Int)))=true∧(decide ((c.toNat:Int)≤122))=true)∨((decide ((65:Int)≤(c.toNat:Int)))=false∧(decide ((97:Int)≤(c.toNat:Int)))=false)∨((decide ((65:Int)≤(c.toNat:Int)))=false∧(decide ((97:Int)≤(c.toNat:Int)))=true∧(decide ((c.toNat:Int)≤122))=false)∨((decide ((65:Int)≤(c.toNat:Int)))=true∧(decide ((c.toNat:Int)≤90))=false∧(decide ((97:Int)≤(c.toNat:Int)))=false)∨((decide ((65:Int)≤(c.toNat:Int)))=true∧(decide ((c.toNat:Int)≤90))=false∧(decide ((97:Int)≤(c.toNat:Int)))=true∧(decide ((c.toNat:Int)≤122))=false):=by
  cases hc0:(decide ((65:Int)≤(c.toNat:Int)))<;>cases pI:(decide ((c.toNat:Int)≤90))<;>cases JR:(decide ((97:Int)≤(c.toNat:Int)))<;>cases VX:(decide ((c.toNat:Int)≤122))<;>simp
 rcases hc with ⟨pI,JR⟩|⟨pI,JR,VX⟩|⟨pI,JR,VX,hc4⟩|⟨pI,JR⟩|⟨pI,JR,VX⟩|⟨pI,JR,VX⟩|⟨pI,JR,VX,hc4⟩
 all_goals
  go_enter Tryz.func175,Tryz.ntmps175
  go_wp2
  all_goals
   go_ret
   exact⟨by simp[letterB, *],rfl⟩

theorem Y3 (c:UInt8) (w:World):Calls Tryz.prog 176 #[byt c] w fun e w'=>e=.returned (.bool (digitB c))∧w=w':=by
 unfold byt
 have hc:((decide ((48:Int)≤(c.toNat:Int)))=false)∨((decide ((48:Int)≤(c.toNat:Int)))=true∧(decide ((c.toNat:Int)≤57))=false)∨((decide ((48:Int)≤(c.toNat:Int)))=true∧(decide ((c.toNat:Int)≤57))=true):=by
  cases hc0:(decide ((48:Int)≤(c.toNat:Int)))<;>cases pI:(decide ((c.toNat:Int)≤57))<;>simp
 rcases hc with pI|⟨pI,JR⟩|⟨pI,JR⟩
 all_goals
  go_enter Tryz.func176,Tryz.ntmps176
  go_wp2
  all_goals
   go_ret
   exact⟨by simp[digitB, *],rfl⟩


theorem VZ (s:ByteArray) (k:Nat) (h:k<s.size):s.data.toList.getD k 0=s[k]:=by
 simp[List.getD,ah (show k<s.data.toList.length from h)];rfl
theorem ZCT (s:ByteArray) (k:Nat) (h:k<s.size):s.data.toList.take (k+1)=s.data.toList.take k++[s[k]]:=by
 rw[jc (by simpa using h)];rfl
theorem ZFT (s:ByteArray) (k:Nat) (h:k<s.size):s[k]∈s.data.toList:=by
 have:s[k]=s.data.toList[k]'(by simpa using h):=rfl
 rw[this];exact am _
theorem iU (s:ByteArray):s.toList.isEmpty=decide (s.size=0):=by
 rw[ByteArray.toList_eq]
 cases h:s.data.toList with
 | nil => have h2 : s.data.toList.length = 0 := by rw [h]; rfl
          have:s.size=0:=by simpa using h2
          simp[this]
 | cons a l => have h2 : s.data.toList.length = l.length + 1 := by rw [h]; rfl
               have:s.size=l.length+1:=by simpa using h2
               simp[this]
theorem qM {s:ByteArray} (h:¬(1≤s.size∧s.size≤16)):nD s=false:=by
 unfold nD EW
 have e:s.data.toList.length=s.size:=rfl
 rw[e]
 rcases bj s.size 1 with h1|h1
 ·rw[ag oM];simp
 ·rw[ae h1,ag oM];simp
theorem lR {s:ByteArray} (h0:0<s.size) (h:letterB s[0]=false):nD s=false:=by
 unfold nD EW;rw[VZ s 0 h0,h];simp
theorem fR {s:ByteArray} {k:Nat} (hk:k<s.size) (h:SG s[k]=false):nD s=false:=by
 unfold nD EW
 have:s.data.toList.all SG=false:=by
  rw[ew]
  exact⟨_,ZFT s k hk,by rw[h];simp⟩
 rw[this];simp
theorem HU {s:ByteArray} (h0:0<s.size) (h1:s.size≤16) (hl:letterB s[0]=true) (h:(s.data.toList.take s.size).all SG=true):nD s=true:=by
 unfold nD EW
 have e:s.data.toList.length=s.size:=rfl
 rw[cr (Nat.le_of_eq e)]at h
 rw[e,VZ s 0 h0,hl,h,ae oM,ae h1];rfl
theorem TI {s:ByteArray} {k:Nat} (hk:k<s.size) (h:(s.data.toList.take k).all SG=true) (hc:SG s[k]=true):(s.data.toList.take (k+1)).all SG=true:=by
 rw[ZCT s k hk,List.all_append,h];simp[hc]
theorem yY {c:UInt8} (h:letterB c=true):SG c=true:=by simp[SG,h]

theorem SR (s:ByteArray) (w:World) (hm:s.size≤maxLen):Calls Tryz.prog 166 #[.string s] w fun e w'=>e=.returned (.bool (nD s))∧w=w':=by
 unfold maxLen at hm
 have he:=iU s
 by_cases h0:0<s.size
 ·have he0:s.toList.isEmpty=false:=by rw[he,ag oM]
  have ZIr:decide ((s.size:Int)<1)=false:=by simp;omega
  clear he
  by_cases h16:s.size≤16
  ·have hd:decide ((16:Int)<(s.size:Int))=false:=by simp;omega
   have HL:=UA (fun w=>GR s[0] w)
   cases hl:letterB s[0]
   ·rw[hl]at HL
    have E:=UA (lR h0 hl)
    clear hl
    go_enter Tryz.func166,Tryz.ntmps166
    go_wp2_with fail
    refine (HL.out _).mono ?_
    rintro e w1 ⟨rfl,rfl⟩
    go_wp2_with fail
    go_ret
    exact⟨by rw[E.out];rfl,rfl⟩
   ·rw[hl]at HL
    have HL0:=UA hl
    go_enter Tryz.func166,Tryz.ntmps166
    go_wp2_with fail
    refine (HL.out _).mono ?_
    rintro e w1 ⟨rfl,rfl⟩
    clear hl
    go_wp2_with fail
    go_loop [19] (JU fun (k:Nat) i=>k≤s.size∧i=.int .i64 k∧(s.data.toList.take k).all SG=true) (fun i=>s.size-(intOf i).toNat)
    case atStart=>exact JU.mk 0 ⟨aj _,rfl,rfl⟩
    case round =>
     obtain⟨k,hk,rfl,JF⟩:=hrel
     have HALL:=UA JF
     clear JF
     by_cases yA:k<s.size
     ·have H1:=UA (fun w=>GR s[k] w)
      have H2:=UA (fun w=>ZAj s[k] w)
      have hc:(Hx (letterB s[k]=true)∧Hx (SG s[k]=true))∨(Hx (letterB s[k]=false)∧Hx (digitB s[k]=true)∧Hx (SG s[k]=true))∨(Hx (letterB s[k]=false)∧Hx (digitB s[k]=false)∧(((s[k].toNat:Int) != 95))=false∧Hx (SG s[k]=true))∨(Hx (letterB s[k]=false)∧Hx (digitB s[k]=false)∧(((s[k].toNat:Int) != 95))=true∧Hx (SG s[k]=false)):=by
       unfold Hx SG
       cases letterB s[k]<;>cases digitB s[k]<;>cases hz:((s[k].toNat:Int) != 95)<;>simp_all
      rcases hc with ⟨q0,qr⟩|⟨q0,q1,qr⟩|⟨q0,q1,q2,qr⟩|⟨q0,q1,q2,qr⟩
      ·go_wp2_with fail
       refine (H1.out _).mono ?_
       rintro e w1 ⟨rfl,rfl⟩
       rw[q0.out]
       go_wp2_with fail
       go_round
       case rel=>exact JU.mk (k+1) ⟨yA,by go_num,TI yA HALL.out qr.out⟩
       case measure=>simp[intOf];omega
      ·go_wp2_with fail
       refine (H1.out _).mono ?_
       rintro e w1 ⟨rfl,rfl⟩
       rw[q0.out]
       go_wp2_with fail
       refine (H2.out _).mono ?_
       rintro e w1 ⟨rfl,rfl⟩
       rw[q1.out]
       go_wp2_with fail
       go_round
       case rel=>exact JU.mk (k+1) ⟨yA,by go_num,TI yA HALL.out qr.out⟩
       case measure=>simp[intOf];omega
      ·go_wp2_with fail
       refine (H1.out _).mono ?_
       rintro e w1 ⟨rfl,rfl⟩
       rw[q0.out]
       go_wp2_with fail
       refine (H2.out _).mono ?_
       rintro e w1 ⟨rfl,rfl⟩
       rw[q1.out]
       go_wp2_with fail
       go_round
       case rel=>exact JU.mk (k+1) ⟨yA,by go_num,TI yA HALL.out qr.out⟩
       case measure=>simp[intOf];omega
      ·go_wp2_with fail
       refine (H1.out _).mono ?_
       rintro e w1 ⟨rfl,rfl⟩
       rw[q0.out]
       go_wp2_with fail
       refine (H2.out _).mono ?_
       rintro e w1 ⟨rfl,rfl⟩
       rw[q1.out]
       go_wp2_with fail
       go_ret
       exact⟨by rw[fR yA qr.out];rfl,rfl⟩
     ·obtain rfl:k=s.size:=by omega
      have E:=UA (HU h0 h16 HL0.out HALL.out)
      go_wp2_with fail
      go_ret
      exact⟨by rw[E.out];rfl,rfl⟩
  ·have hd:decide ((16:Int)<(s.size:Int))=true:=by simp;omega
   have E:=UA (qM (s:=s) oM)
   go_enter Tryz.func166,Tryz.ntmps166
   go_wp2_with fail
   go_ret
   exact⟨by rw[E.out];rfl,rfl⟩
 ·have he0:s.toList.isEmpty=true:=by rw[he,ae oM]
  have ZIr:decide ((s.size:Int)<1)=true:=by simp;omega
  clear he
  have E:=UA (qM (s:=s) oM)
  go_enter Tryz.func166,Tryz.ntmps166
  go_wp2_with fail
  go_ret
  exact⟨by rw[E.out];rfl,rfl⟩

theorem ZAE (s:ByteArray) (w:World) (hm:s.size≤maxLen):Calls Tryz.prog 144 #[.string s] w fun e w'=>e=.returned (.bool (nD s))∧w=w':=by
 unfold maxLen at hm
 have he:=iU s
 by_cases h0:0<s.size
 ·have he0:s.toList.isEmpty=false:=by rw[he,ag oM]
  have ZIr:decide ((s.size:Int)<1)=false:=by simp;omega
  clear he
  by_cases h16:s.size≤16
  ·have hd:decide ((16:Int)<(s.size:Int))=false:=by simp;omega
   have HL:=UA (fun w=>vP s[0] w)
   cases hl:letterB s[0]
   ·rw[hl]at HL
    have E:=UA (lR h0 hl)
    clear hl
    go_enter Tryz.func144,Tryz.ntmps144
    go_wp2_with fail
    refine (HL.out _).mono ?_
    rintro e w1 ⟨rfl,rfl⟩
    go_wp2_with fail
    go_ret
    exact⟨by rw[E.out];rfl,rfl⟩
   ·rw[hl]at HL
    have HL0:=UA hl
    go_enter Tryz.func144,Tryz.ntmps144
    go_wp2_with fail
    refine (HL.out _).mono ?_
    rintro e w1 ⟨rfl,rfl⟩
    clear hl
    go_wp2_with fail
    go_loop [3] (JU fun (k:Nat) i=>k≤s.size∧i=.int .i64 k∧(s.data.toList.take k).all SG=true) (fun i=>s.size-(intOf i).toNat)
    case atStart=>exact JU.mk 1 ⟨h0,rfl,by rw[show (1:Nat)=0+1 from rfl];exact TI (k:=0) h0 rfl (yY HL0.out)⟩
    case round =>
     obtain⟨k,hk,rfl,JF⟩:=hrel
     have HALL:=UA JF
     clear JF
     by_cases yA:k<s.size
     ·have H1:=UA (fun w=>vP s[k] w)
      have H2:=UA (fun w=>Y3 s[k] w)
      have hc:(Hx (letterB s[k]=true)∧Hx (SG s[k]=true))∨(Hx (letterB s[k]=false)∧Hx (digitB s[k]=true)∧Hx (SG s[k]=true))∨(Hx (letterB s[k]=false)∧Hx (digitB s[k]=false)∧(((s[k].toNat:Int) != 95))=false∧Hx (SG s[k]=true))∨(Hx (letterB s[k]=false)∧Hx (digitB s[k]=false)∧(((s[k].toNat:Int) != 95))=true∧Hx (SG s[k]=false)):=by
       unfold Hx SG
       cases letterB s[k]<;>cases digitB s[k]<;>cases hz:((s[k].toNat:Int) != 95)<;>simp_all
      rcases hc with ⟨q0,qr⟩|⟨q0,q1,qr⟩|⟨q0,q1,q2,qr⟩|⟨q0,q1,q2,qr⟩
      ·go_wp2_with fail
       refine (H1.out _).mono ?_
       rintro e w1 ⟨rfl,rfl⟩
       rw[q0.out]
       go_wp2_with fail
       go_round
       case rel=>exact JU.mk (k+1) ⟨yA,by go_num,TI yA HALL.out qr.out⟩
       case measure=>simp[intOf];omega
      ·go_wp2_with fail
       refine (H1.out _).mono ?_
       rintro e w1 ⟨rfl,rfl⟩
       rw[q0.out]
       go_wp2_with fail
       refine (H2.out _).mono ?_
       rintro e w1 ⟨rfl,rfl⟩
       rw[q1.out]
       go_wp2_with fail
       go_round
       case rel=>exact JU.mk (k+1) ⟨yA,by go_num,TI yA HALL.out qr.out⟩
       case measure=>simp[intOf];omega
      ·go_wp2_with fail
       refine (H1.out _).mono ?_
       rintro e w1 ⟨rfl,rfl⟩
       rw[q0.out]
       go_wp2_with fail
       refine (H2.out _).mono ?_
       rintro e w1 ⟨rfl,rfl⟩
       rw[q1.out]
       go_wp2_with fail
       go_round
       case rel=>exact JU.mk (k+1) ⟨yA,by go_num,TI yA HALL.out qr.out⟩
       case measure=>simp[intOf];omega
      ·go_wp2_with fail
       refine (H1.out _).mono ?_
       rintro e w1 ⟨rfl,rfl⟩
       rw[q0.out]
       go_wp2_with fail
       refine (H2.out _).mono ?_
       rintro e w1 ⟨rfl,rfl⟩
       rw[q1.out]
       go_wp2_with fail
       go_ret
       exact⟨by rw[fR yA qr.out];rfl,rfl⟩
     ·obtain rfl:k=s.size:=by omega
      have E:=UA (HU h0 h16 HL0.out HALL.out)
      go_wp2_with fail
      go_ret
      exact⟨by rw[E.out];rfl,rfl⟩
  ·have hd:decide ((16:Int)<(s.size:Int))=true:=by simp;omega
   have E:=UA (qM (s:=s) oM)
   go_enter Tryz.func144,Tryz.ntmps144
   go_wp2_with fail
   go_ret
   exact⟨by rw[E.out];rfl,rfl⟩
 ·have he0:s.toList.isEmpty=true:=by rw[he,ae oM]
  have ZIr:decide ((s.size:Int)<1)=true:=by simp;omega
  clear he
  have E:=UA (qM (s:=s) oM)
  go_enter Tryz.func144,Tryz.ntmps144
  go_wp2_with fail
  go_ret
  exact⟨by rw[E.out];rfl,rfl⟩


def QU (P:Nat→Bool):Nat→Int
 |0=>-1
 |n+1=>if QU P n=-1 then (if P n then (n:Int) else -1) else QU P n
theorem vH {P:Nat→Bool}:∀{n:Nat},(∀j,j<n→P j=false)→QU P n=-1
 |0,_=>rfl
 |n+1,h=>by rw[QU,if_pos (vH fun j hj=>h j (jy hj)),h n (jz n)];rfl
theorem NJ {P:Nat→Bool} {k:Nat} (h0:∀j,j<k→P j=false) (hk:P k=true):∀{n:Nat},k<n→QU P n=k
 |0,h=>absurd h (gq _)
 |n+1,h=>by
   rcases iz.1 h with h1|rfl
   ·have:=NJ h0 hk h1
    rw[QU,if_neg (by rw[this];omega),this]
   ·rw[QU,if_pos (vH h0),hk];rfl
def YU (P:Nat→Bool) (n:Nat):Bool:=(List.range n).any P
theorem least (P:Nat→Bool):∀n:Nat,(∀j,j<n→P j=false)∨∃k,k<n∧P k=true∧∀j,j<k→P j=false
 |0=>.inl fun j hj=>absurd hj (gq _)
 |n+1=>by
   rcases least P n with h|⟨k,hk,hp,h0⟩
   ·cases hn:P n
    ·exact .inl fun j hj=>by
      rcases iz.1 hj with h1|rfl
      ·exact h j h1
      ·exact hn
    ·exact .inr ⟨n,jz n,hn,h⟩
   ·exact .inr ⟨k,jy hk,hp,h0⟩
theorem uK {P:Nat→Bool} {k:Nat} (h:∀j,j<k→P j=false) (hk:P k=false):∀j,j<k+1→P j=false:=fun j hj=>by
 rcases iz.1 hj with h1|rfl
 ·exact h j h1
 ·exact hk
theorem ZAq {P:Nat→Bool} {n:Nat} (h:∀j,j<n→P j=false):YU P n=false:=by
 unfold YU;rw[fu]
 intro j hj
 rw[h j (ba.1 hj)];simp
theorem ZDU {P:Nat→Bool} {n k:Nat} (hk:k<n) (hp:P k=true):YU P n=true:=by
 unfold YU;rw[fe]
 exact⟨k,ba.2 hk,hp⟩
theorem ON (P:Nat→Bool) (n:Nat):decide (0≤QU P n)=YU P n:=by
 rcases least P n with h|⟨k,hk,hp,h0⟩
 ·rw[vH h,ZAq h];rfl
 ·rw[NJ h0 hp hk,ZDU hk hp];simp

def xX (P:Nat→Bool) (n:Nat) (w:World) (i:Value) (wr:World):Prop:=∃k:Nat,k≤n∧i=.int .i64 k∧(∀j,j<k→P j=false)∧Ext w wr

theorem wT (v:Value) (xs:List Pr) (F:Nat) (caps:Array Value) (P:Nat→Bool) (w:World) (hl:xs.length≤1000000) (hs:SlR 3 RPr w v xs)
  (hcf:∀(args:Array Value) (w:World),(callFunc F args).run Tryz.prog w=.ok (.enter F args) w)
  (hF:∀(k:Nat) (hk:k<xs.length) (v1 v2:Value) (w':World),Ext w w'→Calls Tryz.prog F (#[.agg #[.string xs[k].name,v1,v2]]++caps) w' fun e w''=>e=.returned (.bool (P k))∧Ext w' w'') :
  Calls Tryz.prog 188 #[v,.func (.func F) #[] caps] w fun e w'=>e=.returned (.int .i64 (QU P xs.length))∧Ext w w':=by
 obtain⟨A,c,rfl,_,_,hc⟩:=hs.at_
 clear hs
 have HF:=UA hF
 clear hF
 go_enter Tryz.func188,Tryz.ntmps188
 go_wp2_with fail
 go_loopw [8] (xX P xs.length w) (fun i _=>xs.length-(intOf i).toNat)
 case atStart=>exact⟨0,aj _,rfl,fun j hj=>absurd hj (gq _),Ext.refl _⟩
 case round =>
  obtain⟨k,hk,rfl,sO,OC⟩:=hrel
  have HN:=UA sO
  clear sO
  by_cases yA:k<xs.length
  ·obtain⟨b,off,rfl,mJ⟩:=hc oM
   obtain⟨⟨c0,_⟩,⟨v1,c1,_⟩,v2,c2,_⟩:=RPr.keeps _ _ _ _ _ OC (mJ k yA)
   clear mJ hc
   go_wp2_with fail
   refine (HF.out k yA v1 v2 _ ?_).mono ?_
   ·(repeat (first|exact Ext.refl _|assumption|apply Ext.alloc|apply Ext.drew|apply Ext.drewN|(refine Ext.trans ?_ aS)))
   rintro e w1 ⟨rfl,SH⟩
   cases i6:P k
   ·go_wp2_with fail
    go_roundw
    case rel=>exact⟨k+1,yA,by go_num,uK HN.out i6,OC.trans SH⟩
    case measure=>simp[intOf];omega
   ·go_wp2_with fail
    go_ret
    exact⟨by rw[NJ HN.out i6 yA];rfl,OC.trans SH⟩
  ·have hkn:k=xs.length:=by omega
   subst hkn
   go_wp2_with fail
   go_ret
   exact⟨by rw[vH HN.out];rfl,OC⟩
theorem rO (v:Value) (xs:List Pr) (F:Nat) (caps:Array Value) (P:Nat→Bool) (w:World) (hl:xs.length≤1000000) (hs:SlR 3 RPr w v xs)
  (hcf:∀(args:Array Value) (w:World),(callFunc F args).run Tryz.prog w=.ok (.enter F args) w)
  (hF:∀(k:Nat) (hk:k<xs.length) (v1 v2:Value) (w':World),Ext w w'→Calls Tryz.prog F (#[.agg #[.string xs[k].name,v1,v2]]++caps) w' fun e w''=>e=.returned (.bool (P k))∧Ext w' w'') :
  Calls Tryz.prog 167 #[v,.func (.func F) #[] caps] w fun e w'=>e=.returned (.bool (YU P xs.length))∧Ext w w':=by
 have HI:=UA (wT v xs F caps P w hl hs hcf hF)
 have HD:=UA (ON P xs.length)
 clear hF hs hcf
 go_enter Tryz.func167,Tryz.ntmps167
 go_wp2_with fail
 refine HI.out.mono ?_
 rintro e w1 ⟨rfl,he⟩
 go_wp2_with fail
 go_ret
 exact⟨by rw[HD.out];rfl,he⟩
theorem EV (v:Value) (xs:List Vr) (F:Nat) (caps:Array Value) (P:Nat→Bool) (w:World) (hl:xs.length≤1000000) (hs:SlR 2 RVr w v xs)
  (hcf:∀(args:Array Value) (w:World),(callFunc F args).run Tryz.prog w=.ok (.enter F args) w)
  (hF:∀(k:Nat) (hk:k<xs.length) (w':World),Ext w w'→Calls Tryz.prog F (#[.agg #[.string xs[k].name,.int .i64 xs[k].init]]++caps) w' fun e w''=>e=.returned (.bool (P k))∧Ext w' w'') :
  Calls Tryz.prog 95 #[v,.func (.func F) #[] caps] w fun e w'=>e=.returned (.int .i64 (QU P xs.length))∧Ext w w':=by
 obtain⟨A,c,rfl,_,_,hc⟩:=hs.at_
 clear hs
 have HF:=UA hF
 clear hF
 go_enter Tryz.func95,Tryz.ntmps95
 go_wp2_with fail
 go_loopw [8] (xX P xs.length w) (fun i _=>xs.length-(intOf i).toNat)
 case atStart=>exact⟨0,aj _,rfl,fun j hj=>absurd hj (gq _),Ext.refl _⟩
 case round =>
  obtain⟨k,hk,rfl,sO,OC⟩:=hrel
  have HN:=UA sO
  clear sO
  by_cases yA:k<xs.length
  ·obtain⟨b,off,rfl,mJ⟩:=hc oM
   obtain⟨c0,c1,_⟩:=RVr.keeps _ _ _ _ _ OC (mJ k yA)
   clear mJ hc
   go_wp2_with fail
   refine (HF.out k yA  _ ?_).mono ?_
   ·(repeat (first|exact Ext.refl _|assumption|apply Ext.alloc|apply Ext.drew|apply Ext.drewN|(refine Ext.trans ?_ aS)))
   rintro e w1 ⟨rfl,SH⟩
   cases i6:P k
   ·go_wp2_with fail
    go_roundw
    case rel=>exact⟨k+1,yA,by go_num,uK HN.out i6,OC.trans SH⟩
    case measure=>simp[intOf];omega
   ·go_wp2_with fail
    go_ret
    exact⟨by rw[NJ HN.out i6 yA];rfl,OC.trans SH⟩
  ·have hkn:k=xs.length:=by omega
   subst hkn
   go_wp2_with fail
   go_ret
   exact⟨by rw[vH HN.out];rfl,OC⟩
theorem VQ (v:Value) (xs:List Vr) (F:Nat) (caps:Array Value) (P:Nat→Bool) (w:World) (hl:xs.length≤1000000) (hs:SlR 2 RVr w v xs)
  (hcf:∀(args:Array Value) (w:World),(callFunc F args).run Tryz.prog w=.ok (.enter F args) w)
  (hF:∀(k:Nat) (hk:k<xs.length) (w':World),Ext w w'→Calls Tryz.prog F (#[.agg #[.string xs[k].name,.int .i64 xs[k].init]]++caps) w' fun e w''=>e=.returned (.bool (P k))∧Ext w' w'') :
  Calls Tryz.prog 46 #[v,.func (.func F) #[] caps] w fun e w'=>e=.returned (.bool (YU P xs.length))∧Ext w w':=by
 have HI:=UA (EV v xs F caps P w hl hs hcf hF)
 have HD:=UA (ON P xs.length)
 clear hF hs hcf
 go_enter Tryz.func46,Tryz.ntmps46
 go_wp2_with fail
 refine HI.out.mono ?_
 rintro e w1 ⟨rfl,he⟩
 go_wp2_with fail
 go_ret
 exact⟨by rw[HD.out];rfl,he⟩
theorem JQ (v:Value) (xs:List Asg) (F:Nat) (caps:Array Value) (P:Nat→Bool) (w:World) (hl:xs.length≤1000000) (hs:SlR 2 RAsg w v xs)
  (hcf:∀(args:Array Value) (w:World),(callFunc F args).run Tryz.prog w=.ok (.enter F args) w)
  (hF:∀(k:Nat) (hk:k<xs.length) (w':World),Ext w w'→Calls Tryz.prog F (#[.agg #[.int .i64 xs[k].v,.int .i64 xs[k].val]]++caps) w' fun e w''=>e=.returned (.bool (P k))∧Ext w' w'') :
  Calls Tryz.prog 189 #[v,.func (.func F) #[] caps] w fun e w'=>e=.returned (.int .i64 (QU P xs.length))∧Ext w w':=by
 obtain⟨A,c,rfl,_,_,hc⟩:=hs.at_
 clear hs
 have HF:=UA hF
 clear hF
 go_enter Tryz.func189,Tryz.ntmps189
 go_wp2_with fail
 go_loopw [8] (xX P xs.length w) (fun i _=>xs.length-(intOf i).toNat)
 case atStart=>exact⟨0,aj _,rfl,fun j hj=>absurd hj (gq _),Ext.refl _⟩
 case round =>
  obtain⟨k,hk,rfl,sO,OC⟩:=hrel
  have HN:=UA sO
  clear sO
  by_cases yA:k<xs.length
  ·obtain⟨b,off,rfl,mJ⟩:=hc oM
   obtain⟨c0,c1⟩:=RAsg.keeps _ _ _ _ _ OC (mJ k yA)
   clear mJ hc
   go_wp2_with fail
   refine (HF.out k yA  _ ?_).mono ?_
   ·(repeat (first|exact Ext.refl _|assumption|apply Ext.alloc|apply Ext.drew|apply Ext.drewN|(refine Ext.trans ?_ aS)))
   rintro e w1 ⟨rfl,SH⟩
   cases i6:P k
   ·go_wp2_with fail
    go_roundw
    case rel=>exact⟨k+1,yA,by go_num,uK HN.out i6,OC.trans SH⟩
    case measure=>simp[intOf];omega
   ·go_wp2_with fail
    go_ret
    exact⟨by rw[NJ HN.out i6 yA];rfl,OC.trans SH⟩
  ·have hkn:k=xs.length:=by omega
   subst hkn
   go_wp2_with fail
   go_ret
   exact⟨by rw[vH HN.out];rfl,OC⟩
theorem LM (v:Value) (xs:List Asg) (F:Nat) (caps:Array Value) (P:Nat→Bool) (w:World) (hl:xs.length≤1000000) (hs:SlR 2 RAsg w v xs)
  (hcf:∀(args:Array Value) (w:World),(callFunc F args).run Tryz.prog w=.ok (.enter F args) w)
  (hF:∀(k:Nat) (hk:k<xs.length) (w':World),Ext w w'→Calls Tryz.prog F (#[.agg #[.int .i64 xs[k].v,.int .i64 xs[k].val]]++caps) w' fun e w''=>e=.returned (.bool (P k))∧Ext w' w'') :
  Calls Tryz.prog 171 #[v,.func (.func F) #[] caps] w fun e w'=>e=.returned (.bool (YU P xs.length))∧Ext w w':=by
 have HI:=UA (JQ v xs F caps P w hl hs hcf hF)
 have HD:=UA (ON P xs.length)
 clear hF hs hcf
 go_enter Tryz.func171,Tryz.ntmps171
 go_wp2_with fail
 refine HI.out.mono ?_
 rintro e w1 ⟨rfl,he⟩
 go_wp2_with fail
 go_ret
 exact⟨by rw[HD.out];rfl,he⟩
theorem GQ (v:Value) (xs:List Ev) (F:Nat) (caps:Array Value) (P:Nat→Bool) (w:World) (hl:xs.length≤1000000) (hs:SlR 5 REv w v xs)
  (hcf:∀(args:Array Value) (w:World),(callFunc F args).run Tryz.prog w=.ok (.enter F args) w)
  (hF:∀(k:Nat) (hk:k<xs.length) (v1:Value) (w':World),Ext w w'→Calls Tryz.prog F (#[.agg #[.int .i64 xs[k].kind,.int .i64 xs[k].peer,.int .i64 xs[k].msg,.int .i64 xs[k].time,v1]]++caps) w' fun e w''=>e=.returned (.bool (P k))∧Ext w' w'') :
  Calls Tryz.prog 94 #[v,.func (.func F) #[] caps] w fun e w'=>e=.returned (.int .i64 (QU P xs.length))∧Ext w w':=by
 obtain⟨A,c,rfl,_,_,hc⟩:=hs.at_
 clear hs
 have HF:=UA hF
 clear hF
 go_enter Tryz.func94,Tryz.ntmps94
 go_wp2_with fail
 go_loopw [8] (xX P xs.length w) (fun i _=>xs.length-(intOf i).toNat)
 case atStart=>exact⟨0,aj _,rfl,fun j hj=>absurd hj (gq _),Ext.refl _⟩
 case round =>
  obtain⟨k,hk,rfl,sO,OC⟩:=hrel
  have HN:=UA sO
  clear sO
  by_cases yA:k<xs.length
  ·obtain⟨b,off,rfl,mJ⟩:=hc oM
   obtain⟨c0,c1,c2,c3,v1,c4,_⟩:=REv.keeps _ _ _ _ _ OC (mJ k yA)
   clear mJ hc
   go_wp2_with fail
   refine (HF.out k yA v1 _ ?_).mono ?_
   ·(repeat (first|exact Ext.refl _|assumption|apply Ext.alloc|apply Ext.drew|apply Ext.drewN|(refine Ext.trans ?_ aS)))
   rintro e w1 ⟨rfl,SH⟩
   cases i6:P k
   ·go_wp2_with fail
    go_roundw
    case rel=>exact⟨k+1,yA,by go_num,uK HN.out i6,OC.trans SH⟩
    case measure=>simp[intOf];omega
   ·go_wp2_with fail
    go_ret
    exact⟨by rw[NJ HN.out i6 yA];rfl,OC.trans SH⟩
  ·have hkn:k=xs.length:=by omega
   subst hkn
   go_wp2_with fail
   go_ret
   exact⟨by rw[vH HN.out];rfl,OC⟩
theorem jN (v:Value) (xs:List Ev) (F:Nat) (caps:Array Value) (P:Nat→Bool) (w:World) (hl:xs.length≤1000000) (hs:SlR 5 REv w v xs)
  (hcf:∀(args:Array Value) (w:World),(callFunc F args).run Tryz.prog w=.ok (.enter F args) w)
  (hF:∀(k:Nat) (hk:k<xs.length) (v1:Value) (w':World),Ext w w'→Calls Tryz.prog F (#[.agg #[.int .i64 xs[k].kind,.int .i64 xs[k].peer,.int .i64 xs[k].msg,.int .i64 xs[k].time,v1]]++caps) w' fun e w''=>e=.returned (.bool (P k))∧Ext w' w'') :
  Calls Tryz.prog 44 #[v,.func (.func F) #[] caps] w fun e w'=>e=.returned (.bool (YU P xs.length))∧Ext w w':=by
 have HI:=UA (GQ v xs F caps P w hl hs hcf hF)
 have HD:=UA (ON P xs.length)
 clear hF hs hcf
 go_enter Tryz.func44,Tryz.ntmps44
 go_wp2_with fail
 refine HI.out.mono ?_
 rintro e w1 ⟨rfl,he⟩
 go_wp2_with fail
 go_ret
 exact⟨by rw[HD.out];rfl,he⟩

theorem mC {P:Program} {f:FuncId} {fn:Func} {c:Code} (hf:P.funcs[f]? = some fn) (KU:(fn.name == "runtime.NumGoroutine")=false) (hb:fn.body=some c) (args:Array Value) (w:World) :
  (callFunc f args).run P w=.ok (.enter f args) w:=by
 have h1:fn.name≠ "runtime.NumGoroutine":=by simpa using KU
 simp[callFunc,hf,h1,hb]
theorem cf_p1 (args:Array Value) (w:World):(callFunc 168 args).run Tryz.prog w=.ok (.enter 168 args) w:=
 mC Tryz.func168 kE rfl args w
theorem cf_p2 (args:Array Value) (w:World):(callFunc 169 args).run Tryz.prog w=.ok (.enter 169 args) w:=
 mC Tryz.func169 kE rfl args w
theorem ZID (a b:ByteArray) (v1 v2:Value) (bk:Nat) (w:World) (hx:w.cell? ⟨bk,0,none⟩=some (.string b)) :
  Calls Tryz.prog 168 #[.agg #[.string a,v1,v2],.pointer (some ⟨bk,0,none⟩)] w fun e w'=>e=.returned (.bool (a.toList==b.toList))∧Ext w w':=by
 have yA:=KB hx
 go_enter Tryz.func168,Tryz.ntmps168
 go_wp2_with fail
 go_ret
 exact⟨rfl,(Ext.refl w).alloc _⟩
theorem ZIC (a b:ByteArray) (v1:Value) (bk:Nat) (w:World) (hx:w.cell? ⟨bk,0,none⟩=some (.string b)) :
  Calls Tryz.prog 169 #[.agg #[.string a,v1],.pointer (some ⟨bk,0,none⟩)] w fun e w'=>e=.returned (.bool (a.toList==b.toList))∧Ext w w':=by
 have yA:=KB hx
 go_enter Tryz.func169,Tryz.ntmps169
 go_wp2_with fail
 go_ret
 exact⟨rfl,(Ext.refl w).alloc _⟩
theorem ZCQ {α:Type} (d:α) (f:α→Bool) (l:List α) (p:Nat) (hp:p≤l.length):(l.take p).any f=YU (fun k=>f (l.getD k d)) p:=by
 unfold YU
 rw[dx,fe,fe]
 constructor
 ·rintro⟨x,hx,hf⟩
  obtain⟨k,hk,he⟩:=lf.1 hx
  refine⟨k,ba.2 oM,?_⟩
  rw[show l.getD k d=x by rw[ap,ah oM,he];rfl]
  exact hf
 ·rintro⟨k,hk,hf⟩
  have hk:=ba.1 hk
  refine⟨l.getD k d,?_,hf⟩
  rw[lf]
  exact⟨k,by omega,by rw[ap,ah oM];rfl⟩

theorem fG (w:World) (cs:Array Value) (e:TypeId) {g j:Nat} {v:Value} (hg:g=w.heap.size) (h:cs[j]? = some v):(w.alloc (.cells cs e)).cell? ⟨g,j,none⟩=some v:=by
 have h0:(w.alloc (.cells cs e)).heap[w.heap.size]? = some (.cells cs e):=heap_alloc_new w _
 subst hg
 unfold World.cell?
 rw[h0]
 exact h
theorem AN {α:Type} (d:α) (f:α→Bool) (l:List α):l.any f=YU (fun k=>f (l.getD k d)) l.length:=by
 have:=ZCQ d f l l.length (ai _)
 rwa [cr (ai _)]at this
theorem QB {α:Type} (d:α) (l:List α) {k:Nat} (h:k<l.length):l.getD k d=l[k]:=by
 rw[ap,ah h];rfl
theorem SlR.take {α:Type} {size:Nat} {R:World→Nat→Nat→α→Prop} {w:World} {A:Option Addr} {n c:Nat} {xs:List α} (h:SlR size R w (.slice A n c) xs) (k:Nat) (hk:k≤n):SlR size R w (.slice A k c) (xs.take k):=by
 obtain⟨A',c',hv,h1,h2,h3⟩:=h
 injection hv with e1 e2 e3
 subst e1;subst e3;subst e2
 have hl:(xs.take k).length=k:=by rw[cf];omega
 refine⟨A,c,by rw[hl],by omega,h2,fun h0=>?_⟩
 obtain⟨b,off,hA,hj⟩:=h3 oM
 exact⟨b,off,hA,fun j x hx=>hj j x (by
  rw[cz]at hx
  split at hx
  ·exact hx
  ·cases hx)⟩
theorem ZDA (v:Value) (xs:List Pr) (s:ByteArray) (bk:Nat) (w:World) (hl:xs.length≤1000000) (hs:SlR 3 RPr w v xs) (hx:w.cell? ⟨bk,0,none⟩=some (.string s)) :
  Calls Tryz.prog 167 #[v,.func (.func 168) #[] #[.pointer (some ⟨bk,0,none⟩)]] w fun e w'=>e=.returned (.bool (xs.any fun y=>y.name.toList==s.toList))∧Ext w w':=by
 rw[AN dfPr]
 refine rO v xs _ _ _ w hl hs cf_p1 fun k hk v1 v2 w' he=>?_
 simp only[QB dfPr xs hk]
 exact ZID _ s v1 v2 bk w' (he.cellAt hx)
theorem ZGE (v:Value) (xs:List Vr) (s:ByteArray) (bk:Nat) (w:World) (hl:xs.length≤1000000) (hs:SlR 2 RVr w v xs) (hx:w.cell? ⟨bk,0,none⟩=some (.string s)) :
  Calls Tryz.prog 46 #[v,.func (.func 169) #[] #[.pointer (some ⟨bk,0,none⟩)]] w fun e w'=>e=.returned (.bool (xs.any fun y=>y.name.toList==s.toList))∧Ext w w':=by
 rw[AN qO]
 refine VQ v xs _ _ _ w hl hs cf_p2 fun k hk w' he=>?_
 simp only[QB qO xs hk]
 exact ZIC _ s _ bk w' (he.cellAt hx)
theorem XM (t:Tr) (p:Nat) (hp:p<t.length):SC t p=if !nD t[p].name||(t.take p).any (fun y=>y.name.toList==t[p].name.toList) then 13
 else if 8<t[p].vars.length then 5
 else if uB (aM t[p].vars) t[p].vars.length≠0 then uB (aM t[p].vars) t[p].vars.length
 else if 64<t[p].evs.length then 5 else 0:=by
 unfold SC;rw[QB dfPr t hp]
theorem C7 (vs:List Vr) (i:Nat) (hi:i<vs.length):aM vs i=if !nD vs[i].name||(vs.take i).any (fun y=>y.name.toList==vs[i].name.toList) then 13
 else if !lK vs[i].init then 2 else 0:=by
 unfold aM;rw[QB qO vs hi]
def ZI6 (vs:List Vr) (w:World) (i:Value) (wr:World):Prop:=∃k:Nat,k≤vs.length∧i=.int .i64 k∧uB (aM vs) k=0∧Ext w wr

theorem iO (u:Value) (t:Tr) (p:Nat) (w:World) (hp:p<t.length) (hl:t.length≤1000000) (hv:t[p].vars.length≤1000000) (he:t[p].evs.length≤9223372036854775807) (hs:SlR 3 RPr w u t) :
  Calls Tryz.prog 134 #[.agg #[u],.int .i64 p] w fun e w'=>e=.returned (.int .i64 (SC t p))∧Ext w w':=by
 obtain⟨A,c,rfl,h1,h2,hc⟩:=hs.at_
 obtain⟨b,off,rfl,mJ⟩:=hc oM
 obtain⟨⟨c0,hm⟩,⟨v1,c1,LH⟩,v2,c2,uW⟩:=mJ p hp
 have hb:=KB c0
 have HS:=UA hs
 have HS1:=UA LH
 have HS2:=UA uW
 obtain⟨A1,k1,rfl,_,_,_⟩:=LH.at_
 obtain⟨A2,k2,rfl,_,_,_⟩:=uW.at_
 clear hs LH uW
 have HN:=UA (fun w=>SR t[p].name w hm)
 clear mJ hc
 go_enter Tryz.func134,Tryz.ntmps134
 go_wp2_with fail
 refine (HN.out _).mono ?_
 rintro e w1 ⟨rfl,rfl⟩
 cases hn:nD t[p].name
 ·go_wp2_with fail
  go_ret
  exact⟨by rw[XM t p hp,hn];rfl,((Ext.refl _).alloc _).alloc _⟩
 ·go_wp2_with fail
  refine (ZDA _ (t.take p) t[p].name _ _ ?_ ?_ ?_).mono ?_
  ·rw[cf];omega
  ·exact ((HS.out).take p oM).ext RPr.keeps (((Ext.refl _).alloc _).alloc _)
  ·exact fG _ _ _ kS rfl
  rintro e w1 ⟨rfl,SH⟩
  cases ha:(t.take p).any fun y=>y.name.toList==t[p].name.toList
  ·have d1:w1.cell? ⟨w.heap.size+1,1,none⟩=_:=SH.cellAt (fG _ _ _ kS rfl)
   have d2:w1.cell? ⟨w.heap.size+1,2,none⟩=_:=SH.cellAt (fG _ _ _ kS rfl)
   have IE:=(((Ext.refl w).alloc _).alloc _).trans SH
   have HE:=UA (XM t p hp)
   by_cases h8:8<t[p].vars.length
   ·go_wp2_with fail
    go_ret
    exact⟨by rw[HE.out,hn,ha];simp[h8],IE⟩
   ·go_wp2_with fail
    go_loopw [34] (ZI6 t[p].vars w1) (fun i _=>t[p].vars.length-(intOf i).toNat)
    case atStart=>exact⟨0,aj _,rfl,rfl,Ext.refl _⟩
    case round =>
     obtain⟨k,hk,rfl,hz,OC⟩:=hrel
     have HZ:=UA hz
     clear hz
     have d1':=OC.cellAt d1
     have d2':=OC.cellAt d2
     by_cases yA:k<t[p].vars.length
     ·have HSk:=UA (HS1.out.ext RVr.keeps (IE.trans OC))
      obtain⟨A1',k1',ev,g1,g2,g3⟩:=HSk.out.at_
      obtain⟨b1,off1,rfl,mJ⟩:=g3 oM
      injection ev with ev1 ev2 ev3
      subst ev1;subst ev3
      obtain⟨f0,f1,fm⟩:=mJ k yA
      have JJ:=KB f0
      have dQ:=KB d1'
      have HV:=UA (C7 t[p].vars k yA)
      have HN2:=UA (fun w=>SR t[p].vars[k].name w fm)
      have HI:=UA (fun w=>zL t[p].vars[k].init (-1073741824) 1073741824 w)
      clear mJ g3 ev2
      go_wp2_with fail
      refine (HN2.out _).mono ?_
      rintro e w2 ⟨rfl,rfl⟩
      cases hn2:nD t[p].vars[k].name
      ·have HF13:=UA (show aM t[p].vars k=13 by rw[HV.out,hn2];rfl)
       have HR:=UA (aC (n:=t[p].vars.length) HZ.out (by rw[HF13.out];decide) yA)
       go_wp2_with fail
       go_ret
       exact⟨by rw[HE.out,hn,ha,HR.out,HF13.out];simp[h8],(IE.trans OC).alloc _⟩
      ·go_wp2_with fail
       refine (ZGE _ (t[p].vars.take k) t[p].vars[k].name _ _ ?_ ?_ ?_).mono ?_
       ·rw[cf];omega
       ·exact ((HSk.out).take k oM).ext RVr.keeps ((Ext.refl _).alloc _)
       ·exact fG _ _ _ rfl rfl
       rintro e w3 ⟨rfl,he3⟩
       have he4:=((Ext.refl wr).alloc _).trans he3
       cases ha2:(t[p].vars.take k).any fun y=>y.name.toList==t[p].vars[k].name.toList
       ·have d3:w3.cell? ⟨wr.heap.size,1,none⟩=_:=he3.cellAt (fG _ _ _ rfl rfl)
        go_wp2_with fail
        refine (HI.out _).mono ?_
        rintro e w4 ⟨rfl,rfl⟩
        cases hv2:inB t[p].vars[k].init (-1073741824) 1073741824
        ·have HF2:=UA (show aM t[p].vars k=2 by rw[HV.out,hn2,ha2,show lK t[p].vars[k].init=false from hv2];rfl)
         have HR:=UA (aC (n:=t[p].vars.length) HZ.out (by rw[HF2.out];decide) yA)
         go_wp2_with fail
         go_ret
         exact⟨by rw[HE.out,hn,ha,HR.out,HF2.out];simp[h8],(IE.trans OC).trans he4⟩
        ·have HF0:=UA (show aM t[p].vars k=0 by rw[HV.out,hn2,ha2,show lK t[p].vars[k].init=true from hv2];rfl)
         go_wp2_with fail
         go_roundw
         case rel=>exact⟨k+1,yA,by go_num,IG HZ.out HF0.out,OC.trans he4⟩
         case measure=>simp[intOf];omega
       ·have HF13:=UA (show aM t[p].vars k=13 by rw[HV.out,hn2,ha2];rfl)
        have HR:=UA (aC (n:=t[p].vars.length) HZ.out (by rw[HF13.out];decide) yA)
        go_wp2_with fail
        go_ret
        exact⟨by rw[HE.out,hn,ha,HR.out,HF13.out];simp[h8],(IE.trans OC).trans he4⟩
     ·have hkn:k=t[p].vars.length:=by omega
      subst hkn
      by_cases h64:64<t[p].evs.length
      ·go_wp2_with fail
       go_ret
       exact⟨by rw[HE.out,hn,ha];simp[h8,h64,HZ.out],IE.trans OC⟩
      ·go_wp2_with fail
       go_ret
       exact⟨by rw[HE.out,hn,ha];simp[h8,h64,HZ.out],IE.trans OC⟩
  ·go_wp2_with fail
   go_ret
   exact⟨by rw[XM t p hp,hn,ha];rfl,(((Ext.refl _).alloc _).alloc _).trans SH⟩

theorem cf_s1 (args:Array Value) (w:World):(callFunc 174 args).run Tryz.prog w=.ok (.enter 174 args) w:=
 mC Tryz.func174 kE rfl args w
theorem cf_e1 (args:Array Value) (w:World):(callFunc 172 args).run Tryz.prog w=.ok (.enter 172 args) w:=
 mC Tryz.func172 kE rfl args w
theorem ZIZ (a x d:Int) (bk:Nat) (w:World) (hx:w.cell? ⟨bk,0,none⟩=some (.int .i64 d)) :
  Calls Tryz.prog 172 #[.agg #[.int .i64 a,.int .i64 x],.pointer (some ⟨bk,0,none⟩)] w fun e w'=>e=.returned (.bool (a==d))∧Ext w w':=by
 have yA:=KB hx
 go_enter Tryz.func172,Tryz.ntmps172
 go_wp2_with fail
 go_ret
 exact⟨rfl,(Ext.refl w).alloc _⟩
theorem G4 (u a:Value) (t:Tr) (p:Nat) (e:Ev) (w:World) (hl:t.length≤1000000) (hs:SlR 3 RPr w u t) :
  Calls Tryz.prog 170 #[.agg #[u],.int .i64 p,.agg #[.int .i64 e.kind,.int .i64 e.peer,.int .i64 e.msg,.int .i64 e.time,a]] w fun x w'=>x=.returned (.bool (AA t.length p e))∧Ext w w':=by
 obtain⟨A,c,rfl,h1,h2,hc⟩:=hs.at_
 clear hc hs
 have HP:=UA (fun w=>zL e.peer 0 ((t.length:Int)-1) w)
 have HM:=UA (fun w=>zL e.msg 0 199 w)
 have hE:∀o1 o2,Ext w ((w.alloc o1).alloc o2):=fun o1 o2=>((Ext.refl w).alloc o1).alloc o2
 go_enter Tryz.func170,Tryz.ntmps170
 cases k1:e.kind==1
 ·have hb:(((e.kind==2)=true∧(e.kind==3)=false)∨((e.kind==2)=false∧(e.kind==3)=true))∨((e.kind==2)=false∧(e.kind==3)=false):=by
   cases k2:e.kind==2<;>cases k3:e.kind==3<;>simp_all
  rcases hb with (⟨k2,k3⟩|⟨k2,k3⟩)|⟨k2,k3⟩
  ·go_wp2_with fail
   refine (HP.out _).mono ?_
   rintro x w1 ⟨rfl,rfl⟩
   cases hp:inB e.peer 0 ((t.length:Int)-1)
   ·go_wp2_with fail
    go_ret
    exact⟨by rw[AA,k1,k2,k3,hp];rfl,hE _ _⟩
   ·cases hq:e.peer != (p:Int)
    ·go_wp2_with fail
     go_ret
     exact⟨by rw[AA,k1,k2,k3,hp,hq];rfl,hE _ _⟩
    ·go_wp2_with fail
     refine (HM.out _).mono ?_
     rintro x w1 ⟨rfl,rfl⟩
     cases hm:inB e.msg 0 199
     ·go_wp2_with fail
      go_ret
      exact⟨by rw[AA,k1,k2,k3,hp,hq,hm];rfl,hE _ _⟩
     ·go_wp2_with fail
      go_ret
      exact⟨by rw[AA,k1,k2,k3,hp,hq,hm];rfl,hE _ _⟩
  ·go_wp2_with fail
   refine (HP.out _).mono ?_
   rintro x w1 ⟨rfl,rfl⟩
   cases hp:inB e.peer 0 ((t.length:Int)-1)
   ·go_wp2_with fail
    go_ret
    exact⟨by rw[AA,k1,k2,k3,hp];rfl,hE _ _⟩
   ·cases hq:e.peer != (p:Int)
    ·go_wp2_with fail
     go_ret
     exact⟨by rw[AA,k1,k2,k3,hp,hq];rfl,hE _ _⟩
    ·go_wp2_with fail
     refine (HM.out _).mono ?_
     rintro x w1 ⟨rfl,rfl⟩
     cases hm:inB e.msg 0 199
     ·go_wp2_with fail
      go_ret
      exact⟨by rw[AA,k1,k2,k3,hp,hq,hm];rfl,hE _ _⟩
     ·go_wp2_with fail
      go_ret
      exact⟨by rw[AA,k1,k2,k3,hp,hq,hm];rfl,hE _ _⟩
  ·go_wp2_with fail
   go_ret
   exact⟨by rw[AA,k1,k2,k3];rfl,hE _ _⟩
 ·cases k2:e.peer==0
  ·go_wp2_with fail
   go_ret
   exact⟨by rw[AA,k1,k2];rfl,hE _ _⟩
  ·cases k3:e.msg==0
   ·go_wp2_with fail
    go_ret
    exact⟨by rw[AA,k1,k2,k3];rfl,hE _ _⟩
   ·go_wp2_with fail
    go_ret
    exact⟨by rw[AA,k1,k2,k3];rfl,hE _ _⟩

theorem ZHy (e:Ev) (a:Value) (m to:Int) (bm bt:Nat) (w:World) (hm:w.cell? ⟨bm,0,none⟩=some (.int .i64 m)) (ht:w.cell? ⟨bt,0,none⟩=some (.int .i64 to)) :
  Calls Tryz.prog 174 #[.agg #[.int .i64 e.kind,.int .i64 e.peer,.int .i64 e.msg,.int .i64 e.time,a],.pointer (some ⟨bm,0,none⟩),.pointer (some ⟨bt,0,none⟩)] w fun x w'=>x=.returned (.bool (e.kind==2&&e.msg==m&&e.peer==to))∧Ext w w':=by
 have yA:=KB hm
 have ZOO:=KB ht
 go_enter Tryz.func174,Tryz.ntmps174
 cases k1:e.kind==2
 ·go_wp2_with fail
  go_ret
  exact⟨rfl,(Ext.refl w).alloc _⟩
 ·cases k2:e.msg==m
  ·go_wp2_with fail
   go_ret
   exact⟨rfl,(Ext.refl w).alloc _⟩
  ·go_wp2_with fail
   go_ret
   exact⟨rfl,(Ext.refl w).alloc _⟩
theorem ZCz (v:Value) (xs:List Ev) (m to:Int) (bm bt:Nat) (w:World) (hl:xs.length≤1000000) (hs:SlR 5 REv w v xs) (hm:w.cell? ⟨bm,0,none⟩=some (.int .i64 m)) (ht:w.cell? ⟨bt,0,none⟩=some (.int .i64 to)) :
  Calls Tryz.prog 44 #[v,.func (.func 174) #[] #[.pointer (some ⟨bm,0,none⟩),.pointer (some ⟨bt,0,none⟩)]] w fun e w'=>e=.returned (.bool (xs.any fun e=>e.kind==2&&e.msg==m&&e.peer==to))∧Ext w w':=by
 rw[AN lI]
 refine jN v xs _ _ _ w hl hs cf_s1 fun k hk v1 w' he=>?_
 simp only[QB lI xs hk]
 exact ZHy xs[k] v1 m to bm bt w' (he.cellAt hm) (he.cellAt ht)
theorem E9 (u:Value) (t:Tr) (p:Nat) (m to:Int) (w:World) (hp:p<t.length) (hl:t.length≤1000000) (he:t[p].evs.length≤1000000) (hs:SlR 3 RPr w u t) :
  Calls Tryz.prog 137 #[.agg #[u],.int .i64 p,.int .i64 m,.int .i64 to] w fun e w'=>e=.returned (.bool (sendsB t p m to))∧Ext w w':=by
 obtain⟨A,c,rfl,h1,h2,hc⟩:=hs.at_
 obtain⟨b,off,rfl,mJ⟩:=hc oM
 obtain⟨_,_,v2,c2,uW⟩:=mJ p hp
 have hb:=KB c2
 have JJ:b<w.heap.size+1:=by omega
 have dQ:b<w.heap.size+1+1:=by omega
 have HS2:=UA uW
 obtain⟨A2,k2,rfl,_,_,_⟩:=uW.at_
 clear hs uW mJ hc
 go_enter Tryz.func137,Tryz.ntmps137
 go_wp2_with fail
 refine (ZCz _ t[p].evs m to _ _ _ he ?_ ?_ ?_).mono ?_
 ·exact HS2.out.ext REv.keeps ((((Ext.refl _).alloc _).alloc _).alloc _)
 ·exact ((Ext.refl _).alloc _).cellAt (fG _ _ _ kS rfl)
 ·exact fG _ _ _ kS rfl
 rintro e w1 ⟨rfl,SH⟩
 go_wp2_with fail
 go_ret
 exact⟨by rw[sendsB,iA,QB dfPr t hp];rfl,((((Ext.refl _).alloc _).alloc _).alloc _).trans SH⟩
theorem K9 (v:Value) (xs:List Asg) (d:Int) (bk:Nat) (w:World) (hl:xs.length≤1000000) (hs:SlR 2 RAsg w v xs) (hx:w.cell? ⟨bk,0,none⟩=some (.int .i64 d)) :
  Calls Tryz.prog 171 #[v,.func (.func 172) #[] #[.pointer (some ⟨bk,0,none⟩)]] w fun e w'=>e=.returned (.bool (xs.any fun b=>b.v==d))∧Ext w w':=by
 rw[AN TT]
 refine LM v xs _ _ _ w hl hs cf_e1 fun k hk w' he=>?_
 simp only[QB TT xs hk]
 exact ZIZ xs[k].v xs[k].val d bk w' (he.cellAt hx)
theorem MW (nv:Nat) (l:List Asg) (k:Nat) (hk:k<l.length):YJ nv l k=if !(inB l[k].v 0 ((nv:Int)-1))||!lK l[k].val then 2
 else if (l.take k).any (fun b=>b.v==l[k].v) then 8 else 0:=by
 unfold YJ;rw[QB TT l hk]
def ZEI (nv:Nat) (l:List Asg) (w:World) (i:Value) (wr:World):Prop:=∃k:Nat,k≤l.length∧i=.int .i64 k∧uB (YJ nv l) k=0∧Ext w wr

theorem TU (t:Tr) (p j:Nat) (hp:p<t.length) (hj:j<t[p].evs.length):AH t (p,j+2)=t[p].evs[j].time:=by
 show (if 1<j+2 then ((iA t p).getD (j+2-2) lI).time else 0)=_
 rw[if_pos oM,show j+2-2=j by omega];unfold iA;rw[QB dfPr t hp,QB lI _ hj]
theorem FZ (t:Tr) (p i:Nat) (e:Ev) (L:Int) (hp:p<t.length) (hi0:1≤i) (hi:i≤t[p].evs.length) (hee:t[p].evs[i-1]=e) (hL:AH t (p,i)=L):lC t (p,i)=if !AA t.length p e then 3
 else if !(inB e.time 0 1099511627776)||decide (e.time<L) then 11
 else if 8<e.asg.length then 5
 else uB (YJ t[p].vars.length e.asg) e.asg.length:=by
 have h1:gA t (p,i)=e:=by unfold gA iA;simp only[QB dfPr t hp];rw[QB lI _ oM];exact hee
 unfold lC;rw[h1,hL];simp only[QB dfPr t hp]
theorem IQ (u a:Value) (t:Tr) (p i:Nat) (e:Ev) (w:World) (hp:p<t.length) (hi0:1≤i) (hi:i≤t[p].evs.length) (hee:t[p].evs[i-1]=e) (hl:t.length≤1000000) (hv:t[p].vars.length≤1000000) (he:t[p].evs.length≤1000000) (ha:e.asg.length≤1000000)
  (hs:SlR 3 RPr w u t) (hsa:SlR 2 RAsg w a e.asg) :
  Calls Tryz.prog 135 #[.agg #[u],.agg #[.int .i64 p,.int .i64 i],.agg #[.int .i64 e.kind,.int .i64 e.peer,.int .i64 e.msg,.int .i64 e.time,a]] w fun x w'=>x=.returned (.int .i64 (lC t (p,i)))∧Ext w w':=by
 have HFm:=UA fun w' (h:Ext w w')=>G4 u a t p e w' hl (hs.ext RPr.keeps h)
 obtain⟨A,c,rfl,h1,h2,hc⟩:=hs.at_
 obtain⟨b,off,rfl,mJ⟩:=hc oM
 obtain⟨⟨c0,hm⟩,⟨v1,c1,LH⟩,v2,c2,uW⟩:=mJ p hp
 have hb:=KB c0
 have JJ:b<w.heap.size+1:=by omega
 have dQ:b<w.heap.size+1+1:=by omega
 have hb3:b<w.heap.size+1+1+1:=by omega
 have HS2:=UA uW
 obtain⟨A1,k1,rfl,_,_,_⟩:=LH.at_
 obtain⟨A2,k2,rfl,q1,q2,q3⟩:=uW.at_
 obtain⟨b2,off2,rfl,q4⟩:=q3 oM
 have HSA:=UA hsa
 obtain⟨A3,k3,rfl,_,_,_⟩:=hsa.at_
 have HT:=UA (fun w=>zL e.time 0 1099511627776 w)
 clear hs LH uW hsa mJ hc
 go_enter Tryz.func135,Tryz.ntmps135
 by_cases h1i:1<i
 ·obtain⟨j,rfl⟩:∃j,i=j+2:=⟨i-2,by omega⟩
  obtain⟨_,_,_,e3,_⟩:=q4 j oM
  have hb2':=KB e3
  have ZL9:b2<w.heap.size+1:=by omega
  have ZLa:b2<w.heap.size+1+1:=by omega
  have ZOP:b2<w.heap.size+1+1+1:=by omega
  have HE:=UA (FZ t p (j+2) e t[p].evs[j].time hp oM hi hee (TU t p j hp oM))
  go_wp2_with fail
  refine (HFm.out _ (((((Ext.refl _).alloc _).alloc _).alloc _).alloc _)).mono ?_
  rintro x w1 ⟨rfl,SH⟩
  have IE:=(((((Ext.refl w).alloc _).alloc _).alloc _).alloc _).trans SH
  have y3:w1.cell? ⟨w.heap.size+1+1,3,none⟩=_:=SH.cellAt (((Ext.refl _).alloc _).cellAt (fG _ _ _ kS rfl))
  have y4:w1.cell? ⟨w.heap.size+1+1,4,none⟩=_:=SH.cellAt (((Ext.refl _).alloc _).cellAt (fG _ _ _ kS rfl))
  have x1:w1.cell? ⟨w.heap.size+1+1+1,1,none⟩=_:=SH.cellAt (fG _ _ _ kS rfl)
  cases hf:AA t.length p e
  ·go_wp2_with fail
   go_ret
   exact⟨by rw[HE.out,hf];rfl,IE⟩
  ·go_wp2_with fail
   refine (HT.out _).mono ?_
   rintro x w2 ⟨rfl,rfl⟩
   cases ht:inB e.time 0 1099511627776
   ·go_wp2_with fail
    go_ret
    exact⟨by rw[HE.out,hf,ht];rfl,IE⟩
   ·cases ZL:decide (e.time<t[p].evs[j].time)
    ·by_cases h8:8<e.asg.length
     ·go_wp2_with fail
      go_ret
      exact⟨by rw[HE.out,hf,ht,ZL];simp[h8],IE⟩
     ·go_wp2_with fail
      go_loopw [54] (ZEI t[p].vars.length e.asg w1) (fun i _=>e.asg.length-(intOf i).toNat)
      case atStart=>exact⟨0,aj _,rfl,rfl,Ext.refl _⟩
      case round =>
       obtain⟨k,hk,rfl,hz,OC⟩:=hrel
       have HZ:=UA hz
       clear hz
       have x1':=OC.cellAt x1
       have y4':=OC.cellAt y4
       by_cases yA:k<e.asg.length
       ·have HSk:=UA (HSA.out.ext RAsg.keeps (IE.trans OC))
        obtain⟨A1',k1',ev,g1,g2,g3⟩:=HSk.out.at_
        obtain⟨b5,off5,rfl,mJ⟩:=g3 oM
        injection ev with ev1 ev2 ev3
        subst ev1;subst ev3
        obtain⟨f0,f1⟩:=mJ k yA
        have hb5:=KB f0
        have hb6:=KB x1'
        have hb7:=KB y4'
        have HV:=UA (MW t[p].vars.length e.asg k yA)
        have HI1:=UA (fun w=>zL e.asg[k].v 0 ((t[p].vars.length:Int)-1) w)
        have HI2:=UA (fun w=>zL e.asg[k].val (-1073741824) 1073741824 w)
        clear mJ g3 ev2
        go_wp2_with fail
        refine (HI1.out _).mono ?_
        rintro x w2 ⟨rfl,rfl⟩
        cases hi1:inB e.asg[k].v 0 ((t[p].vars.length:Int)-1)
        ·have HF2:=UA (show YJ t[p].vars.length e.asg k=2 by rw[HV.out,hi1];rfl)
         have HR:=UA (aC (n:=e.asg.length) HZ.out (by rw[HF2.out];decide) yA)
         go_wp2_with fail
         go_ret
         exact⟨by rw[HE.out,hf,ht,ZL,HR.out,HF2.out];simp[h8],(IE.trans OC).alloc _⟩
        ·go_wp2_with fail
         refine (HI2.out _).mono ?_
         rintro x w2 ⟨rfl,rfl⟩
         cases hi2:inB e.asg[k].val (-1073741824) 1073741824
         ·have HF2:=UA (show YJ t[p].vars.length e.asg k=2 by rw[HV.out,hi1,show lK e.asg[k].val=false from hi2];rfl)
          have HR:=UA (aC (n:=e.asg.length) HZ.out (by rw[HF2.out];decide) yA)
          go_wp2_with fail
          go_ret
          exact⟨by rw[HE.out,hf,ht,ZL,HR.out,HF2.out];simp[h8],(IE.trans OC).alloc _⟩
         ·go_wp2_with fail
          refine (K9 _ (e.asg.take k) e.asg[k].v _ _ ?_ ?_ ?_).mono ?_
          ·rw[cf];omega
          ·exact ((HSk.out).take k oM).ext RAsg.keeps ((Ext.refl _).alloc _)
          ·exact fG _ _ _ rfl rfl
          rintro x w3 ⟨rfl,he3⟩
          have he4:=((Ext.refl wr).alloc _).trans he3
          cases ha2:(e.asg.take k).any fun b=>b.v==e.asg[k].v
          ·have HF0:=UA (show YJ t[p].vars.length e.asg k=0 by rw[HV.out,hi1,show lK e.asg[k].val=true from hi2,ha2];rfl)
           go_wp2_with fail
           go_roundw
           case rel=>exact⟨k+1,yA,by go_num,IG HZ.out HF0.out,OC.trans he4⟩
           case measure=>simp[intOf];omega
          ·have HF8:=UA (show YJ t[p].vars.length e.asg k=8 by rw[HV.out,hi1,show lK e.asg[k].val=true from hi2,ha2];rfl)
           have HR:=UA (aC (n:=e.asg.length) HZ.out (by rw[HF8.out];decide) yA)
           go_wp2_with fail
           go_ret
           exact⟨by rw[HE.out,hf,ht,ZL,HR.out,HF8.out];simp[h8],(IE.trans OC).trans he4⟩
       ·have hkn:k=e.asg.length:=by omega
        subst hkn
        go_wp2_with fail
        go_ret
        exact⟨by rw[HE.out,hf,ht,ZL];simp[h8,HZ.out],IE.trans OC⟩
    ·go_wp2_with fail
     go_ret
     exact⟨by rw[HE.out,hf,ht,ZL];rfl,IE⟩
 ·have HE:=UA (FZ t p i e 0 hp hi0 hi hee (by unfold AH;simp[h1i]))
  go_wp2_with fail
  refine (HFm.out _ (((((Ext.refl _).alloc _).alloc _).alloc _).alloc _)).mono ?_
  rintro x w1 ⟨rfl,SH⟩
  have IE:=(((((Ext.refl w).alloc _).alloc _).alloc _).alloc _).trans SH
  have y3:w1.cell? ⟨w.heap.size+1+1,3,none⟩=_:=SH.cellAt (((Ext.refl _).alloc _).cellAt (fG _ _ _ kS rfl))
  have y4:w1.cell? ⟨w.heap.size+1+1,4,none⟩=_:=SH.cellAt (((Ext.refl _).alloc _).cellAt (fG _ _ _ kS rfl))
  have x1:w1.cell? ⟨w.heap.size+1+1+1,1,none⟩=_:=SH.cellAt (fG _ _ _ kS rfl)
  cases hf:AA t.length p e
  ·go_wp2_with fail
   go_ret
   exact⟨by rw[HE.out,hf];rfl,IE⟩
  ·go_wp2_with fail
   refine (HT.out _).mono ?_
   rintro x w2 ⟨rfl,rfl⟩
   cases ht:inB e.time 0 1099511627776
   ·go_wp2_with fail
    go_ret
    exact⟨by rw[HE.out,hf,ht];rfl,IE⟩
   ·cases ZL:decide (e.time<0)
    ·by_cases h8:8<e.asg.length
     ·go_wp2_with fail
      go_ret
      exact⟨by rw[HE.out,hf,ht,ZL];simp[h8],IE⟩
     ·go_wp2_with fail
      go_loopw [54] (ZEI t[p].vars.length e.asg w1) (fun i _=>e.asg.length-(intOf i).toNat)
      case atStart=>exact⟨0,aj _,rfl,rfl,Ext.refl _⟩
      case round =>
       obtain⟨k,hk,rfl,hz,OC⟩:=hrel
       have HZ:=UA hz
       clear hz
       have x1':=OC.cellAt x1
       have y4':=OC.cellAt y4
       by_cases yA:k<e.asg.length
       ·have HSk:=UA (HSA.out.ext RAsg.keeps (IE.trans OC))
        obtain⟨A1',k1',ev,g1,g2,g3⟩:=HSk.out.at_
        obtain⟨b5,off5,rfl,mJ⟩:=g3 oM
        injection ev with ev1 ev2 ev3
        subst ev1;subst ev3
        obtain⟨f0,f1⟩:=mJ k yA
        have hb5:=KB f0
        have hb6:=KB x1'
        have hb7:=KB y4'
        have HV:=UA (MW t[p].vars.length e.asg k yA)
        have HI1:=UA (fun w=>zL e.asg[k].v 0 ((t[p].vars.length:Int)-1) w)
        have HI2:=UA (fun w=>zL e.asg[k].val (-1073741824) 1073741824 w)
        clear mJ g3 ev2
        go_wp2_with fail
        refine (HI1.out _).mono ?_
        rintro x w2 ⟨rfl,rfl⟩
        cases hi1:inB e.asg[k].v 0 ((t[p].vars.length:Int)-1)
        ·have HF2:=UA (show YJ t[p].vars.length e.asg k=2 by rw[HV.out,hi1];rfl)
         have HR:=UA (aC (n:=e.asg.length) HZ.out (by rw[HF2.out];decide) yA)
         go_wp2_with fail
         go_ret
         exact⟨by rw[HE.out,hf,ht,ZL,HR.out,HF2.out];simp[h8],(IE.trans OC).alloc _⟩
        ·go_wp2_with fail
         refine (HI2.out _).mono ?_
         rintro x w2 ⟨rfl,rfl⟩
         cases hi2:inB e.asg[k].val (-1073741824) 1073741824
         ·have HF2:=UA (show YJ t[p].vars.length e.asg k=2 by rw[HV.out,hi1,show lK e.asg[k].val=false from hi2];rfl)
          have HR:=UA (aC (n:=e.asg.length) HZ.out (by rw[HF2.out];decide) yA)
          go_wp2_with fail
          go_ret
          exact⟨by rw[HE.out,hf,ht,ZL,HR.out,HF2.out];simp[h8],(IE.trans OC).alloc _⟩
         ·go_wp2_with fail
          refine (K9 _ (e.asg.take k) e.asg[k].v _ _ ?_ ?_ ?_).mono ?_
          ·rw[cf];omega
          ·exact ((HSk.out).take k oM).ext RAsg.keeps ((Ext.refl _).alloc _)
          ·exact fG _ _ _ rfl rfl
          rintro x w3 ⟨rfl,he3⟩
          have he4:=((Ext.refl wr).alloc _).trans he3
          cases ha2:(e.asg.take k).any fun b=>b.v==e.asg[k].v
          ·have HF0:=UA (show YJ t[p].vars.length e.asg k=0 by rw[HV.out,hi1,show lK e.asg[k].val=true from hi2,ha2];rfl)
           go_wp2_with fail
           go_roundw
           case rel=>exact⟨k+1,yA,by go_num,IG HZ.out HF0.out,OC.trans he4⟩
           case measure=>simp[intOf];omega
          ·have HF8:=UA (show YJ t[p].vars.length e.asg k=8 by rw[HV.out,hi1,show lK e.asg[k].val=true from hi2,ha2];rfl)
           have HR:=UA (aC (n:=e.asg.length) HZ.out (by rw[HF8.out];decide) yA)
           go_wp2_with fail
           go_ret
           exact⟨by rw[HE.out,hf,ht,ZL,HR.out,HF8.out];simp[h8],(IE.trans OC).trans he4⟩
       ·have hkn:k=e.asg.length:=by omega
        subst hkn
        go_wp2_with fail
        go_ret
        exact⟨by rw[HE.out,hf,ht,ZL];simp[h8,HZ.out],IE.trans OC⟩
    ·go_wp2_with fail
     go_ret
     exact⟨by rw[HE.out,hf,ht,ZL];rfl,IE⟩
attribute [local go_sem] Oper.semAt_some

theorem tI (u:Value) (w:World):Calls Tryz.prog 88 #[.agg #[u]] w fun e w'=>e=.returned (.func (.func 138) #[] #[.pointer (some ⟨w.heap.size,0,none⟩)])∧w'=w.alloc (.cells #[u] 30):=by
 go_enter Tryz.func88,Tryz.ntmps88
 go_wp2_with fail
 go_ret
 exact⟨rfl,rfl⟩

def DT (w:World) (u:Value) (x:Nat×Nat):Value:=
 match u with
 |.slice (some a) _ _=>match w.cell? ⟨a.block,a.off+x.1*3+2,none⟩ with
   |some (.slice (some b) _ _)=>.agg #[(w.cell? ⟨b.block,b.off+(x.2-1)*5,none⟩).getD undef,(w.cell? ⟨b.block,b.off+(x.2-1)*5+1,none⟩).getD undef,(w.cell? ⟨b.block,b.off+(x.2-1)*5+2,none⟩).getD undef,(w.cell? ⟨b.block,b.off+(x.2-1)*5+3,none⟩).getD undef,(w.cell? ⟨b.block,b.off+(x.2-1)*5+4,none⟩).getD undef]
   |_=>undef
 |_=>undef
def IA (x:Nat×Nat):Value:=.agg #[.int .i64 x.1,.int .i64 x.2]
def VEv (w:World) (v:Value) (e:Ev):Prop:=∃a,v=.agg #[.int .i64 e.kind,.int .i64 e.peer,.int .i64 e.msg,.int .i64 e.time,a]∧SlR 2 RAsg w a e.asg
theorem VEv.ext {w w':World} {v:Value} {e:Ev} (h:VEv w v e) (he:Ext w w'):VEv w' v e:=by
 obtain⟨a,hv,hs⟩:=h
 exact⟨a,hv,hs.ext RAsg.keeps he⟩
theorem TC {t:Tr} {x:Nat×Nat}:x∈ids t↔∃(hp:x.1<t.length),1≤x.2∧x.2≤t[x.1].evs.length:=by
 obtain⟨p,i⟩:=x
 unfold ids PM
 simp only[jh,ba,cq,Prod.mk.injEq]
 constructor
 ·rintro⟨q,hq,j,hj,rfl,rfl⟩
  unfold iA at hj;rw[QB dfPr t hq]at hj
  exact⟨hq,by omega,by omega⟩
 ·rintro⟨hp,h1,h2⟩
  exact⟨p,hp,i-1,by unfold iA;rw[QB dfPr t hp];omega,rfl,by omega⟩
theorem FF {t:Tr} {p i:Nat} (hp:p<t.length) (hi:i<t[p].evs.length):gA t (p,i+1)=t[p].evs[i]:=by
 unfold gA iA;simp only[QB dfPr t hp,fa];exact QB lI _ hi
def pD (t:Tr) (p i:Nat):List (Nat×Nat):=(List.range p).flatMap (PM t)++(List.range i).map fun j=>(p,j+1)
theorem zG (t:Tr) (p i:Nat):pD t p (i+1)=pD t p i++[(p,i+1)]:=by
 unfold pD;rw[fq,bq,bh];rfl
theorem gF (t:Tr) (p:Nat) (hp:p<t.length):pD t p t[p].evs.length=pD t (p+1) 0:=by
 unfold pD
 rw[fq,ka]
 simp[PM,iA,ah hp]
theorem DJ (t:Tr):pD t t.length 0=ids t:=by simp[pD,ids]
theorem PH (t:Tr) (p i:Nat) (hp:p<t.length) (hi:i≤t[p].evs.length):pD t p i <+: ids t:=by
 have h1:ids t=pD t (p+1) 0++((List.range (t.length-(p+1))).map (· + (p+1))).flatMap (PM t):=by
  unfold pD ids
  have:List.range t.length=List.range (p+1)++(List.range (t.length-(p+1))).map (· + (p+1)):=by
   apply lh
   ·simp;omega
   ·intro j h1 h2
    rw[List.getElem_range,List.getElem_append]
    split
    ·simp
    ·rename_i h3
     simp at h3
     simp;omega
  rw[this,ka];simp
 have h2:pD t p i <+: pD t p t[p].evs.length:=by
  unfold pD
  rw[show t[p].evs.length=i+(t[p].evs.length-i) by omega,kb,bq,←bh]
  exact List.prefix_append _ _
 rw[h1]
 exact h2.trans (by rw[gF t p hp];exact List.prefix_append _ _)
theorem Ext.more' {a w w':World} (h:Ext a w) (k:Below a.heap.size w w'):Ext a w':=Below.trans h k
abbrev Idt (t:Tr):={x:Nat×Nat // x∈ids t}

theorem P4 (n:Nat) (hn:1≤n) (w0:World) (u:Value) (t:Tr) (l Bt N:Nat) (hl:t.length≤1000000) (CJ:∀x∈t,x.evs.length≤1000000) (hN:(ids t).length≤N) (hs:SlR 3 RPr w0 u t) (J Jx:List (Idt t)→World→Prop)
  (hJa:∀pre W o,J pre W→J pre (W.alloc o))
  (hY:∀pre x W,J pre W→pre.length<N→YieldAt Fence.wide (n-1) Tryz.prog l #[IA x.1,DT w0 u x.1] W fun e W' =>
   (e=.returned (.bool true)∧J (pre++[x]) W'∧Below w0.heap.size W W')∨(e=.returned (.bool false)∧Jx (pre++[x]) W'))
  (W:World) (OC:Ext w0 W) (hBt:W.cell? ⟨Bt,0,none⟩=some u) (hB0:w0.heap.size≤Bt) (h0:J [] W) :
  CallsIn Fence.wide n Tryz.prog 138 #[.func (.yield l) #[] #[],.pointer (some ⟨Bt,0,none⟩)] W fun e W'=>(∃v,e=.returned v) ∧
   ((∃ys,ys.map (·.1)=ids t∧J ys W')∨(∃pre,pre.map (·.1) <+: ids t∧Jx pre W')):=by
 refine callsIn_of_wp Tryz.func138 rfl trivial ?_ rfl
 simp only[Tryz.ntmps138,dq,ee,fh,Nat.reduceAdd,Nat.reduceSub,ib,ic,ie,ig,dw,da]
 obtain⟨A,c,rfl,_,_,hc⟩:=hs.at_
 have hJ0:=UA (hJa)
 clear hJa
 have HY:=UA hY
 clear hY
 gi_wp2
 gi_loopw [10] (fun i wr=>∃k:Nat,k≤t.length∧i=.int .i64 k∧(∃pre:List (Idt t),pre.map (·.1)=pD t k 0∧J pre wr)∧Ext w0 wr) (fun i _=>t.length-(intOf i).toNat)
 case atStart=>exact⟨0,aj _,rfl,⟨[],rfl,h0⟩,OC⟩
 case round =>
  obtain⟨k,hk,rfl,⟨pre,SK,hJp⟩,hex⟩:=hrel
  have HPre:=UA SK
  clear SK
  by_cases yA:k<t.length
  ·obtain⟨b,off,rfl,mJ⟩:=hc oM
   obtain⟨⟨d0,hm⟩,⟨v1,d1,LH⟩,v2,d2,uW⟩:=mJ k yA
   obtain⟨A2,cc2,rfl,h21,h22,VX⟩:=uW.at_
   have c0:=hex.cellAt d0
   have c1:=hex.cellAt d1
   have c2:=hex.cellAt d2
   obtain⟨A1,cc1,rfl,h11,h12,_⟩:=LH.at_
   have hlk:=CJ _ (am yA)
   clear LH
   gi_wp2
   have hJ1:=hJ0.out pre wr (Obj.cells #[Value.string t[k].name,Value.slice A1 t[k].vars.length cc1,Value.slice A2 t[k].evs.length cc2] 65) hJp
   have ZKP:=hex.alloc (Obj.cells #[Value.string t[k].name,Value.slice A1 t[k].vars.length cc1,Value.slice A2 t[k].evs.length cc2] 65)
   have D2:=UA d2
   clear uW c0 c1 c2 d0 d1 d2
   generalize wr.alloc (Obj.cells #[Value.string t[k].name,Value.slice A1 t[k].vars.length cc1,Value.slice A2 t[k].evs.length cc2] 65)=wo at hJ1 ZKP⊢
   gi_loopw [18] (fun i wi=>∃j:Nat,j≤t[k].evs.length∧i=.int .i64 j∧(∃pre:List (Idt t),pre.map (·.1)=pD t k j∧J pre wi)∧Ext w0 wi) (fun i _=>t[k].evs.length-(intOf i).toNat)
   case atStart=>exact⟨0,aj _,rfl,⟨pre,HPre.out,hJ1⟩,ZKP⟩
   case round =>
    obtain⟨j,hj,rfl,⟨pre,SK,hJp⟩,hex⟩:=hrel
    have HPre:=UA SK
    clear SK
    by_cases mK:j<t[k].evs.length
    ·obtain⟨b2,off2,rfl,J1⟩:=VX oM
     obtain⟨g0,g1,g2,g3,va,g4,hs4⟩:=J1 j mK
     have e0:=hex.cellAt g0
     have e1:=hex.cellAt g1
     have e2:=hex.cellAt g2
     have e3:=hex.cellAt g3
     have e4:=hex.cellAt g4
     obtain⟨A4,cc4,rfl,h41,h42,_⟩:=hs4.at_
     have hx:(k,j+1)∈ids t:=TC.2 ⟨yA,by simp,mK⟩
     have pC:pre.length<N:=by
      have h1:=(PH t k (j+1) yA mK).length_le
      rw[zG,aq,←HPre.out,aa]at h1
      simp at h1;omega
     obtain⟨fn,tmps,assign,body,hy,hR⟩:=HY.out _ ⟨(k,j+1),hx⟩ _ (hJ0.out _ _ (Obj.cells #[.int .i64 t[k].evs[j].kind,.int .i64 t[k].evs[j].peer,.int .i64 t[k].evs[j].msg,.int .i64 t[k].evs[j].time,Value.slice A4 t[k].evs[j].asg.length cc4] 68) hJp) pC
     have QQ:DT w0 (Value.slice (some {block:=b,off:=off}) (List.length t) c) (k,j+1)=.agg #[.int .i64 t[k].evs[j].kind,.int .i64 t[k].evs[j].peer,.int .i64 t[k].evs[j].msg,.int .i64 t[k].evs[j].time,Value.slice A4 t[k].evs[j].asg.length cc4]:=by
      unfold DT
      simp only[D2.out,fa,g0,g1,g2,g3,g4,fk]
     clear g0 g1 g2 g3 g4
     unfold IA at hy
     rw[QQ]at hy
     simp only at hy
     rw[show (((j+1:Nat):Nat):Int)=(j:Int)+1 from by push_cast;rfl]at hy
     clear QQ
     gi_wp2
     refine hR.mono ?_
     rintro e W3 (⟨rfl,hJ3,hk3⟩|⟨rfl,ZLb⟩)
     ·gi_wp2
      go_roundw
      case rel=>exact⟨j+1,by omega,by go_num,⟨_,by rw[bq,HPre.out,zG];rfl,hJ3⟩,hex.trans ((Ext.refl _).alloc _) |>.more' hk3⟩
      case measure=>simp[intOf];omega
     ·gi_wp2
      refine bodyPost_ret (results_none rfl _ _ _) rfl ?_
      exact⟨⟨_,rfl⟩,.inr ⟨_,by rw[bq,HPre.out];exact zG t k j▸PH t k (j+1) yA mK,ZLb⟩⟩
    ·have hjm:j=t[k].evs.length:=by omega
     have HP2:=UA (show pre.map (·.1)=pD t (k+1) 0 by rw[HPre.out,hjm,gF])
     clear hjm
     gi_wp2
     go_roundw
     case rel=>exact⟨k+1,by omega,by go_num,⟨_,HP2.out,hJp⟩,hex⟩
     case measure=>simp[intOf];omega
  ·obtain rfl:k=t.length:=by omega
   gi_wp2
   go_end0
   exact⟨⟨_,rfl⟩,.inl ⟨pre,by rw[HPre.out,DJ],hJp⟩⟩

theorem GS {w0:World} {u:Value} {t:Tr} (hs:SlR 3 RPr w0 u t) {x:Nat×Nat} (hx:x∈ids t):VEv w0 (DT w0 u x) (gA t x):=by
 obtain⟨p,i⟩:=x
 obtain⟨hp,h1,h2⟩:=TC.1 hx
 simp only at hp h1 h2
 obtain⟨j,rfl⟩:∃j,i=j+1:=⟨i-1,by omega⟩
 rw[FF hp oM]
 obtain⟨A,c,rfl,_,_,hc⟩:=hs.at_
 obtain⟨b,off,rfl,mJ⟩:=hc oM
 obtain⟨_,_,v2,d2,uW⟩:=mJ p hp
 obtain⟨A2,cc2,rfl,_,_,VX⟩:=uW.at_
 obtain⟨b2,off2,rfl,J1⟩:=VX oM
 obtain⟨g0,g1,g2,g3,va,g4,hs4⟩:=J1 j oM
 refine⟨va,?_,hs4⟩
 unfold DT
 simp only[d2,fa,g0,g1,g2,g3,g4,fk]

theorem DG (n:Nat) (hn:1≤n) (w0:World) (u:Value) (t:Tr) (Bt:Nat) (w:World) (hl:t.length≤1000000) (CJ:∀x∈t,x.evs.length≤1000000) (hs:SlR 3 RPr w0 u t) (OC:Ext w0 w) (hBt:w.cell? ⟨Bt,0,none⟩=some u) (hB0:w0.heap.size≤Bt) :
  SeqStopsK Fence.wide n Tryz.prog 138 #[.pointer (some ⟨Bt,0,none⟩)] (fun x:Idt t=>#[IA x.1,DT w0 u x.1]) (Below w0.heap.size) (fun ys=>ys.map (·.1)=ids t) (fun pre=>pre.map (·.1) <+: ids t) (ids t).length w:=fun l J Jx W hW hJ _ hY h0 =>
 P4 n hn w0 u t l Bt (ids t).length hl CJ (ai _) hs J Jx (fun pre W o h=>hJ pre W _ none h (World.grownBy_alloc W o none) (fun r e=>by cases e)) hY W (OC.trans (Below.mono hW (ai _))) (Ext.cellAt hW hBt) hB0 h0

def VA (W:World) (B:Nat) (t:TypeId) (cs:Array Value):Prop:=W.heap[B]? = some (.cells cs t (0,0))
theorem VA.lt {W:World} {B:Nat} {t:TypeId} {cs:Array Value} (h:VA W B t cs):B<W.heap.size:=(bo.1 h).1
theorem VA.cell {W:World} {B:Nat} {t:TypeId} {cs:Array Value} (h:VA W B t cs) {j:Nat} {v:Value} (hj:cs[j]? = some v):W.cell? ⟨B,j,none⟩=some v:=by
 simp[World.cell?,show W.heap[B]? = _ from h,hj]
theorem VA.frozen {W:World} {B:Nat} {t:TypeId} {cs:Array Value} (h:VA W B t cs) (j:Nat):W.frozen? ⟨B,j,none⟩=false:=by
 simp[World.frozen?,show W.heap[B]? = _ from h]
theorem VA.new (W:World) (t:TypeId) (cs:Array Value):VA (W.alloc (.cells cs t)) W.heap.size t cs:=World.alloc_heap_new W _
theorem VA.newAt {W:World} {B:Nat} (t:TypeId) (cs:Array Value) (h:B=W.heap.size):VA (W.alloc (.cells cs t)) B t cs:=by subst h;exact VA.new W t cs
theorem VA.kept {W W':World} {row:Option Nat} {B:Nat} {t:TypeId} {cs:Array Value} (h:VA W B t cs) (hg:W.grownBy W' row) (VG:some B≠row):VA W' B t cs:=(hg.block B h.lt VG).trans h
theorem VA.alloc {W:World} {B:Nat} {t:TypeId} {cs:Array Value} (h:VA W B t cs) (o:Obj):VA (W.alloc o) B t cs:=h.kept (World.grownBy_alloc W o none) kS
theorem VA.ext {W W':World} {B:Nat} {t:TypeId} {cs:Array Value} (h:VA W B t cs) (he:Ext W W'):VA W' B t cs:=(he.block B h.lt).trans h
theorem VA.below {W W':World} {B n:Nat} {t:TypeId} {cs:Array Value} (h:VA W B t cs) (he:Below n W W') (hB:B<n):VA W' B t cs:=(he.block B hB).trans h
theorem VA.drew {W:World} {B:Nat} {t:TypeId} {cs:Array Value} (h:VA W B t cs):VA W.drew B t cs:=h
theorem VA.drewN {W:World} {B:Nat} {t:TypeId} {cs:Array Value} (h:VA W B t cs) (n:Nat):VA (W.drewN n) B t cs:=h
theorem VA.set {W:World} {B:Nat} {t:TypeId} {cs:Array Value} (h:VA W B t cs) (j:Nat) (v:Value):VA (W.setCell ⟨B,j,none⟩ v) B t (cs.setIfInBounds j v):=by
 obtain⟨yA,hk⟩:=bo.1 h
 show (W.heap.modify B _)[B]? = _
 rw[ft (by rw[Array.size_modify];exact yA),Array.getElem_modify_self,hk]
 rfl
theorem VA.other {W:World} {B B' j:Nat} {t:TypeId} {cs:Array Value} (h:VA W B t cs) (VG:B≠B') (u:Value):VA (W.setCell ⟨B',j,none⟩ u) B t cs:=
 (Below.heap_setCell _ _ _ _ (by simpa using VG)).trans h
theorem VA.putObj {W:World} {B l:Nat} {t:TypeId} {cs:Array Value} {o:Obj} (h:VA W B t cs) (hl:W.heap[l]? = some o) (ho:o.isCells=false) (o':Obj):VA (W.putObj l o') B t cs:=
 h.kept (grownBy_putObj' W l o') (fun e=>by cases e;rw[show W.heap[B]? = _ from h]at hl;cases hl;cases ho)
theorem VA.same {W:World} {B:Nat} {t t':TypeId} {cs cs':Array Value} (h:VA W B t cs) (h':VA W B t' cs'):cs=cs':=by
 have:=(show W.heap[B]? = _ from h).symm.trans h';injection this with this;injection this
theorem ZAo {β:Type} (B n:Nat) (t:TypeId) (p:β→Array Value→Prop):OwnFrom n (fun s W=>∃cs,VA W B t cs∧p s cs):=by
 rintro s X Y row ⟨cs,h,hp⟩ hg sD
 exact⟨cs,h.kept hg (fun e'=>by obtain⟨_,o,ho,hc⟩:=sD B e'.symm;rw[show X.heap[B]? = _ from h]at ho;cases ho;cases hc),hp⟩
theorem uA {β:Type} (B n:Nat) (t:TypeId) (f:β→Array Value):OwnFrom n (fun s W=>VA W B t (f s)):=by
 rintro s X Y row h hg sD
 exact h.kept hg (fun e'=>by obtain⟨_,o,ho,hc⟩:=sD B e'.symm;rw[show X.heap[B]? = _ from h]at ho;cases ho;cases hc)
theorem PG {β:Type} {n:Nat} {w:World} (hn:w.heap.size≤n):OwnFrom n (fun (_:β) W=>Ext w W):=ownFrom_below (ai _) hn
theorem Ext.set {a w:World} (h:Ext a w) {B j:Nat} (hB:a.heap.size≤B) (u:Value):Ext a (w.setCell ⟨B,j,none⟩ u):=Below.setCell h (p:=⟨B,j,none⟩) hB u
theorem Ext.putObj {a w:World} {l:Nat} {o:Obj} (h:Ext a w) (hl:a.heap.size≤l) (hw:w.heap[l]? = some o) (o':Obj):Ext a (w.putObj l o'):=
 Below.grown h (grownBy_putObj' w l o') h.size (fun k e=>by cases e;exact hl)
theorem VA.set1 {W:World} {B:Nat} {t:TypeId} {a v:Value} (h:VA W B t #[a]):VA (W.setCell ⟨B,0,none⟩ v) B t #[v]:=h.set 0 v
theorem VA.set2_0 {W:World} {B:Nat} {t:TypeId} {a0 a1 v:Value} (h:VA W B t #[a0,a1]):VA (W.setCell ⟨B,0,none⟩ v) B t #[v,a1]:=h.set 0 v
theorem VA.set2_1 {W:World} {B:Nat} {t:TypeId} {a0 a1 v:Value} (h:VA W B t #[a0,a1]):VA (W.setCell ⟨B,1,none⟩ v) B t #[a0,v]:=h.set 1 v
theorem VA.set3_0 {W:World} {B:Nat} {t:TypeId} {a0 a1 a2 v:Value} (h:VA W B t #[a0,a1,a2]):VA (W.setCell ⟨B,0,none⟩ v) B t #[v,a1,a2]:=h.set 0 v
theorem VA.set3_1 {W:World} {B:Nat} {t:TypeId} {a0 a1 a2 v:Value} (h:VA W B t #[a0,a1,a2]):VA (W.setCell ⟨B,1,none⟩ v) B t #[a0,v,a2]:=h.set 1 v
theorem VA.set3_2 {W:World} {B:Nat} {t:TypeId} {a0 a1 a2 v:Value} (h:VA W B t #[a0,a1,a2]):VA (W.setCell ⟨B,2,none⟩ v) B t #[a0,a1,v]:=h.set 2 v
theorem VA.set4_0 {W:World} {B:Nat} {t:TypeId} {a0 a1 a2 a3 v:Value} (h:VA W B t #[a0,a1,a2,a3]):VA (W.setCell ⟨B,0,none⟩ v) B t #[v,a1,a2,a3]:=h.set 0 v
theorem VA.set4_1 {W:World} {B:Nat} {t:TypeId} {a0 a1 a2 a3 v:Value} (h:VA W B t #[a0,a1,a2,a3]):VA (W.setCell ⟨B,1,none⟩ v) B t #[a0,v,a2,a3]:=h.set 1 v
theorem VA.set4_2 {W:World} {B:Nat} {t:TypeId} {a0 a1 a2 a3 v:Value} (h:VA W B t #[a0,a1,a2,a3]):VA (W.setCell ⟨B,2,none⟩ v) B t #[a0,a1,v,a3]:=h.set 2 v
theorem VA.set4_3 {W:World} {B:Nat} {t:TypeId} {a0 a1 a2 a3 v:Value} (h:VA W B t #[a0,a1,a2,a3]):VA (W.setCell ⟨B,3,none⟩ v) B t #[a0,a1,a2,v]:=h.set 3 v
theorem VA.set5_0 {W:World} {B:Nat} {t:TypeId} {a0 a1 a2 a3 a4 v:Value} (h:VA W B t #[a0,a1,a2,a3,a4]):VA (W.setCell ⟨B,0,none⟩ v) B t #[v,a1,a2,a3,a4]:=h.set 0 v
theorem VA.set5_1 {W:World} {B:Nat} {t:TypeId} {a0 a1 a2 a3 a4 v:Value} (h:VA W B t #[a0,a1,a2,a3,a4]):VA (W.setCell ⟨B,1,none⟩ v) B t #[a0,v,a2,a3,a4]:=h.set 1 v
theorem VA.set5_2 {W:World} {B:Nat} {t:TypeId} {a0 a1 a2 a3 a4 v:Value} (h:VA W B t #[a0,a1,a2,a3,a4]):VA (W.setCell ⟨B,2,none⟩ v) B t #[a0,a1,v,a3,a4]:=h.set 2 v
theorem VA.set5_3 {W:World} {B:Nat} {t:TypeId} {a0 a1 a2 a3 a4 v:Value} (h:VA W B t #[a0,a1,a2,a3,a4]):VA (W.setCell ⟨B,3,none⟩ v) B t #[a0,a1,a2,v,a4]:=h.set 3 v
theorem VA.set5_4 {W:World} {B:Nat} {t:TypeId} {a0 a1 a2 a3 a4 v:Value} (h:VA W B t #[a0,a1,a2,a3,a4]):VA (W.setCell ⟨B,4,none⟩ v) B t #[a0,a1,a2,a3,v]:=h.set 4 v
theorem KF.set {B:Nat} {W X:World} (h:KeepsFrom B W X) (a:Addr) (v:Value):KeepsFrom B W (X.setCell a v):=h.trans ((KeepsOthers.setCell _ _ _).from _)
theorem KF.alloc {B:Nat} {W X:World} (h:KeepsFrom B W X) (o:Obj):KeepsFrom B W (X.alloc o):=h.trans ((KeepsOthers.alloc _ _).from _)
theorem KF.drew {B:Nat} {W X:World} (h:KeepsFrom B W X):KeepsFrom B W X.drew:=h.trans ((KeepsOthers.drew _).from _)
theorem KF.drewN {B:Nat} {W X:World} (h:KeepsFrom B W X) (n:Nat):KeepsFrom B W (X.drewN n):=⟨h.size,h.same⟩
theorem KF.ext {B:Nat} {W X Y:World} (h:KeepsFrom B W X) (he:Ext X Y):KeepsFrom B W Y:=
 h.trans ⟨he.size,fun k o _ hk _=>(he.block k (bo.1 hk).1).trans hk⟩
theorem BL.set {n:Nat} {W X:World} (h:Below n W X) (b j:Nat) (v:Value) (hb:n≤b):Below n W (X.setCell ⟨b,j,none⟩ v):=h.setCell (p:=⟨b,j,none⟩) hb v
theorem BL.alloc {n:Nat} {W X:World} (h:Below n W X) (o:Obj) (hn:n≤W.heap.size):Below n W (X.alloc o):=Below.alloc h (dh hn h.size) o
theorem BL.drew {n:Nat} {W X:World} (h:Below n W X):Below n W X.drew:=Below.drew h
theorem BL.drewN {n:Nat} {W X:World} (h:Below n W X) (k:Nat):Below n W (X.drewN k):=⟨h.os,h.tape,h.output,h.size,h.block⟩
theorem BL.ext {n:Nat} {W X Y:World} (h:Below n W X) (he:Ext X Y) (hn:n≤W.heap.size):Below n W Y:=h.trans (Below.mono he (dh hn h.size))

def MD (t:Tr) (kind m:Int) (x:Nat×Nat):Bool:=(gA t x).kind==kind&&(gA t x).msg==m
def qA (t:Tr) (l:List (Nat×Nat)) (kind m:Int):Nat×Nat:=(l.find? (MD t kind m)).getD (0,0)
def wF (t:Tr) (l:List (Nat×Nat)) (x:Nat×Nat):Nat:=
 if (gA t x).kind==2 then (if 0<(qA t l 2 (gA t x).msg).2 then 8 else 0)
 else if (gA t x).kind==3 then (if 0<(qA t l 3 (gA t x).msg).2 then 8 else if sendsB t (gA t x).peer.toNat (gA t x).msg x.1 then 0 else 7)
 else 0
def IT (t:Tr) (l:List (Nat×Nat)):Prop:=∀a x c,l=a++x::c→wF t a x=0
def wO (t:Tr) (l:List (Nat×Nat)) (cs:Array Value):Prop:=cs.size=800∧∀m:Nat,m<200 →
 cs[m*4]? = some (.int .i64 (qA t l 2 m).1)∧cs[m*4+1]? = some (.int .i64 (qA t l 2 m).2)∧cs[m*4+2]? = some (.int .i64 (qA t l 3 m).1)∧cs[m*4+3]? = some (.int .i64 (qA t l 3 m).2)

theorem dG {t:Tr} {x:Nat×Nat} (h:x∈ids t):1≤x.2:=(TC.1 h).2.1
theorem sH {np p:Nat} {e:Ev} (h:AA np p e=true) (h1:(e.kind==1)=false):∃m q:Nat,e.msg=m∧m<200∧e.peer=q∧q<np∧q≠p:=by
 unfold AA at h
 rw[h1]at h
 simp only[dn,if_false]at h
 split at h
 ·simp[inB]at h
  obtain⟨⟨⟨a,b⟩,c⟩,d,e1⟩:=h
  exact⟨e.msg.toNat,e.peer.toNat,by omega,by omega,by omega,by omega,by omega⟩
 ·cases h
theorem lN (t:Tr) (l:List (Nat×Nat)) (x:Nat×Nat) (k m:Int):qA t (l++[x]) k m=if (l.find? (MD t k m)).isSome then qA t l k m else if MD t k m x then x else (0,0):=by
 unfold qA
 rw[ez]
 cases h:l.find? (MD t k m) with
 |some y=>simp
 |none=>cases hk:MD t k m x<;>simp[hk]
theorem fN {t:Tr} {l:List (Nat×Nat)} {k m:Int} (hl:∀y∈l,1≤y.2) (h:¬0<(qA t l k m).2):l.find? (MD t k m)=none:=by
 unfold qA at h
 cases hf:l.find? (MD t k m) with
 |none=>rfl
 |some y=>rw[hf]at h;have:=hl y (fg hf);simp at h;omega
theorem TE {t:Tr} {l:List (Nat×Nat)} {x:Nat×Nat} {k m:Int} (h:MD t k m x=false):qA t (l++[x]) k m=qA t l k m:=by
 rw[lN,h]
 cases hf:l.find? (MD t k m) with
 |none=>simp[qA,hf]
 |some y=>simp
theorem lP {t:Tr} {l:List (Nat×Nat)} {x:Nat×Nat} {k m:Int} (hl:∀y∈l,1≤y.2) (h0:¬0<(qA t l k m).2) (h:MD t k m x=true):qA t (l++[x]) k m=x:=by
 rw[lN,fN hl h0,h];simp
theorem IT.snoc {t:Tr} {l:List (Nat×Nat)} {x:Nat×Nat} (h:IT t l) (hx:wF t l x=0):IT t (l++[x]):=by
 intro a y c he
 rcases List.eq_nil_or_concat c with rfl|⟨c',z,rfl⟩
 ·have h2:=List.append_inj' he rfl
  obtain⟨rfl,h3⟩:=h2
  injection h3 with h3;subst h3;exact hx
 ·rw[show a++y::(c'.concat z)=(a++y::c')++[z] by simp]at he
  have h2:=List.append_inj' he rfl
  exact h a y c' h2.1
theorem PN {cs:Array Value} {i j:Nat} {a b:Value} (hi:i+1<cs.size):((cs.setIfInBounds i a).setIfInBounds (i+1) b)[j]? = if j=i then some a else if j=i+1 then some b else cs[j]?:=by
 simp only[jm,la]
 by_cases h1:j=i
 ·subst h1;rw[if_neg oM,if_pos rfl,if_pos oM,if_pos rfl]
 ·by_cases h2:j=i+1
  ·subst h2;rw[if_pos rfl,if_pos hi,if_neg h1,if_pos rfl]
  ·rw[if_neg oM,if_neg oM,if_neg h1,if_neg h2]
theorem YG {t:Tr} (pre:List (Idt t)) (x:Idt t):(pre++[x]).map (·.1)=pre.map (·.1)++[x.1]:=by rw[bq];rfl
theorem wO.keep {t:Tr} {l:List (Nat×Nat)} {x:Nat×Nat} {cs:Array Value} (h:wO t l cs) (h2:((gA t x).kind==2)=false) (h3:((gA t x).kind==3)=false):wO t (l++[x]) cs:=by
 refine⟨h.1,fun m hm=>?_⟩
 rw[TE (by unfold MD;rw[h2];rfl),TE (by unfold MD;rw[h3];rfl)]
 exact h.2 m hm
theorem wO.from_ {t:Tr} {l:List (Nat×Nat)} {x:Nat×Nat} {cs:Array Value} {m:Nat} (h:wO t l cs) (hl:∀y∈l,1≤y.2) (hm:m<200) (h0:¬0<(qA t l 2 m).2) (hk:((gA t x).kind==2)=true) (hx:(gA t x).msg=m) :
  wO t (l++[x]) ((cs.setIfInBounds (m*4) (.int .i64 x.1)).setIfInBounds (m*4+1) (.int .i64 x.2)):=by
 have k2:(gA t x).kind=2:=by simpa using hk
 refine⟨by simpa using h.1,fun j hj=>?_⟩
 have e3:qA t (l++[x]) 3 j=qA t l 3 j:=TE (by simp[MD,k2])
 obtain⟨a,b,c,d⟩:=h.2 j hj
 have hs:=h.1
 rw[e3]
 by_cases hjm:j=m
 ·subst hjm
  rw[lP hl h0 (by simp[MD,k2,hx])]
  refine⟨?_,?_,?_,?_⟩<;>rw[PN oM]
  ·rw[if_pos rfl]
  ·rw[if_neg oM,if_pos rfl]
  ·rw[if_neg oM,if_neg oM];exact c
  ·rw[if_neg oM,if_neg oM];exact d
 ·rw[TE (by simp[MD,k2,hx];omega)]
  refine⟨?_,?_,?_,?_⟩<;>rw[PN oM,if_neg oM,if_neg oM]<;>assumption
theorem wO.to_ {t:Tr} {l:List (Nat×Nat)} {x:Nat×Nat} {cs:Array Value} {m:Nat} (h:wO t l cs) (hl:∀y∈l,1≤y.2) (hm:m<200) (h0:¬0<(qA t l 3 m).2) (hk:((gA t x).kind==3)=true) (hx:(gA t x).msg=m) :
  wO t (l++[x]) ((cs.setIfInBounds (m*4+2) (.int .i64 x.1)).setIfInBounds (m*4+2+1) (.int .i64 x.2)):=by
 have k3:(gA t x).kind=3:=by simpa using hk
 refine⟨by simpa using h.1,fun j hj=>?_⟩
 have e3:qA t (l++[x]) 2 j=qA t l 2 j:=TE (by simp[MD,k3])
 obtain⟨a,b,c,d⟩:=h.2 j hj
 have hs:=h.1
 rw[e3]
 by_cases hjm:j=m
 ·subst hjm
  rw[lP hl h0 (by simp[MD,k3,hx])]
  refine⟨?_,?_,?_,?_⟩<;>rw[PN oM]
  ·rw[if_neg oM,if_neg oM];exact a
  ·rw[if_neg oM,if_neg oM];exact b
  ·rw[if_pos rfl]
  ·rw[if_neg oM,if_pos rfl]
 ·rw[TE (by simp[MD,k3,hx];omega)]
  refine⟨?_,?_,?_,?_⟩<;>rw[PN oM,if_neg oM,if_neg oM]<;>assumption

theorem XY (t:Tr) (p:Nat):(PM t p).Nodup:=by
 unfold PM
 refine List.Pairwise.map _ (R:=(·≠·)) ?_ List.nodup_range
 intro a b hab he
 injection he with _ h2
 omega
theorem pR {f:Nat→List (Nat×Nat)} (hf:∀p x,x∈f p→x.1=p) (hn:∀p,(f p).Nodup):∀n:Nat,((List.range n).flatMap f).Nodup
 |0=>by simp
 |n+1=>by
   rw[fq,ka]
   refine ia.2 ⟨pR hf hn n,by simpa using hn n,?_⟩
   intro a ha b hb hab
   subst hab
   obtain⟨p,hp,hx⟩:=jh.1 ha
   have h1:=hf p a hx
   have h2:=hf n a (by simpa using hb)
   have:=ba.1 hp
   omega
theorem bU (t:Tr):(ids t).Nodup:=by
 refine pR (fun p x hx=>?_) (XY t) t.length
 unfold PM at hx
 obtain⟨i,_,rfl⟩:=cq.1 hx
 rfl
theorem H4 {α:Type} {p:α→Bool} {a c:List α} {x:α} (hx:p x=true):(a++x::c).find? p=match a.find? p with|some y=>some y|none=>some x:=by
 rw[ez]
 cases a.find? p<;>simp[hx]
theorem k9 {t:Tr} {a c:List (Nat×Nat)} {x:Nat×Nat} {k:Int} (h:ids t=a++x::c) (hk:(gA t x).kind=k):(GC t k (gA t x).msg==some x)=!decide (0<(qA t a k (gA t x).msg).2):=by
 have hn:=bU t
 rw[h]at hn
 have Q1:∀y∈a,1≤y.2:=fun y hy=>dG (t:=t) (by rw[h];simp[hy])
 have e:GC t k (gA t x).msg=(a++x::c).find? (MD t k (gA t x).msg):=by unfold GC;rw[h];rfl
 rw[e,H4 (by simp[MD,hk])]
 unfold qA
 cases hf:a.find? (MD t k (gA t x).msg) with
 |none=>simp
 |some y =>
   have hy:=fg hf
   have h1:=Q1 y hy
   have VG:y≠x:=fun e=>by
    subst e
    have:=ia.1 hn
    exact this.2.2 y hy y kS rfl
   have h2:decide (0<y.2)=true:=ae oM
   simp[VG,h2]
theorem cL {t:Tr} {a c:List (Nat×Nat)} {x:Nat×Nat} (h:ids t=a++x::c):ZD t x=wF t a x:=by
 unfold ZD wF
 by_cases h2:((gA t x).kind==2)=true
 ·rw[if_pos h2,if_pos h2,k9 h (by simpa using h2)]
  by_cases h0:0<(qA t a 2 (gA t x).msg).2<;>simp[h0]
 ·rw[if_neg h2,if_neg h2]
  by_cases h3:((gA t x).kind==3)=true
  ·rw[if_pos h3,if_pos h3,k9 h (by simpa using h3)]
   by_cases h0:0<(qA t a 3 (gA t x).msg).2<;>simp[h0]
  ·rw[if_neg h3,if_neg h3]
theorem ZAK {t:Tr} (h:IT t (ids t)):(ids t).find? (fun x=>ZD t x != 0)=none:=by
 rw[cw]
 intro x hx
 obtain⟨a,c,he⟩:=jv hx
 rw[cL he,h a x c he]
 simp
theorem ZAJ {t:Tr} {a:List (Nat×Nat)} {x:Nat×Nat} (hp:a++[x] <+: ids t) (hg:IT t a) (VG:wF t a x≠0):(ids t).find? (fun x=>ZD t x != 0)=some x∧ZD t x=wF t a x:=by
 obtain⟨c,hc⟩:=hp
 have he:ids t=a++x::c:=by rw[←hc];simp
 have hx:=cL he
 refine⟨?_,hx⟩
 rw[he,ez]
 have:a.find? (fun x=>ZD t x != 0)=none:=by
  rw[cw]
  intro y hy
  obtain⟨b,d,hb⟩:=jv hy
  rw[cL (a:=b) (c:=d++x::c) (by rw[he,hb];simp),hg b y d hb]
  simp
 rw[this]
 simp[hx,VG]
end Go.Proofs.YtmaokjojbjdpoaaGreatDoor
namespace Go.Proofs.YtmaokjojbjdpoaaGreatDoor
open Go.RowKit
set_option linter.unusedVariables false
attribute [local go_sem] Oper.semAt_some

def MI (t:Tr) (w:World) (u:Value) (l:List (Nat×Nat)) (W:World):Prop:=
 (((((((∃cs,VA W (w.heap.size+1+1+1+1) 181 cs∧wO t l cs)∧VA W (w.heap.size+1) 133 #[.pointer none])∧VA W (w.heap.size+1+1) 70 #[.int .i64 0,.int .i64 0])∧VA W (w.heap.size+1+1+1) 35 #[.int .i64 0]) ∧
   VA W (w.heap.size+1+1+1+1+1) 133 #[.pointer (some ⟨w.heap.size+1+1+1+1,0,none⟩)])∧VA W w.heap.size 30 #[u])∧Ext w W)∧IT t l

def MX (t:Tr) (w:World) (l:List (Nat×Nat)) (W:World):Prop:=
 ∃a x,((((l=a++[x]∧IT t a∧wF t a x≠0)∧VA W (w.heap.size+1) 133 #[.pointer none])∧VA W (w.heap.size+1+1) 70 #[.int .i64 x.1,.int .i64 x.2])∧VA W (w.heap.size+1+1+1) 35 #[.int .i64 (wF t a x)])∧Ext w W
def MPost (t:Tr) (w:World) (e:Ending) (w':World):Prop:=Ext w w' ∧
 ((∃x,(ids t).find? (fun x=>ZD t x != 0)=some x∧e=.returned (.tuple #[.pointer none,IA x,.int .i64 (ZD t x)])) ∨
  ((ids t).find? (fun x=>ZD t x != 0)=none∧∃b cs,w.heap.size≤b∧VA w' b 181 cs∧wO t (ids t) cs∧e=.returned (.tuple #[.pointer (some ⟨b,0,none⟩),IA (0,0),.int .i64 0])))
theorem eW (t:Tr) (w:World) (u:Value) {n:Nat} (hn:w.heap.size≤n):OwnFrom n (fun (pre:List (Idt t)) W=>MI t w u (pre.map (·.1)) W):=
 OwnFrom.and (OwnFrom.and (OwnFrom.and (OwnFrom.and (OwnFrom.and (OwnFrom.and (OwnFrom.and (ZAo _ _ _ _) (uA _ _ _ _)) (uA _ _ _ _)) (uA _ _ _ _)) (uA _ _ _ _)) (uA _ _ _ _)) (PG hn)) (ownFrom_pure _ _)
theorem ZFu (t:Tr) (w:World) {n:Nat} (hn:w.heap.size≤n):OwnFrom n (fun (pre:List (Idt t)) W=>MX t w (pre.map (·.1)) W):=by
 rintro s X Y row ⟨a,x,h⟩ hg hr
 refine⟨a,x,⟨⟨⟨h.1.1.1.1,?_⟩,?_⟩,?_⟩,PG hn () X Y row h.2 hg hr⟩
 ·exact uA _ n _ (fun (_:Unit)=>_) () X Y row h.1.1.1.2 hg hr
 ·exact uA _ n _ (fun (_:Unit)=>_) () X Y row h.1.1.2 hg hr
 ·exact uA _ n _ (fun (_:Unit)=>_) () X Y row h.1.2 hg hr
theorem bV:Tryz.zeroCells181=Array.replicate 800 (.int .i64 0):=by kernel_rfl
theorem wO.zero (t:Tr):wO t [] Tryz.zeroCells181:=by
 rw[bV]
 refine⟨by simp,fun m hm=>?_⟩
 unfold qA
 have h:∀k,k<800→(Array.replicate 800 (Value.int .i64 0))[k]? = some (.int .i64 0):=fun k hk=>by simp[hk]
 exact⟨h _ oM,h _ oM,h _ oM,h _ oM⟩

theorem kW0 {p:Prop} (h:p:=by (with_reducible repeat (first|assumption|exact KeepsFrom.refl _ _|refine KF.set ?_ _ _|refine KF.alloc ?_ _|refine KF.drew ?_|refine KF.drewN ?_ _|refine KF.ext ?_ aS|exact Below.refl _ _|refine BL.set ?_ _ _ _ oM|refine BL.alloc ?_ _ oM|refine BL.drew ?_|refine BL.drewN ?_ _|refine BL.ext ?_ aS oM|exact Ext.refl _|refine Ext.set ?_ oM _|refine Ext.alloc ?_ _|refine Ext.drew ?_|refine Ext.drewN ?_ _|refine Ext.trans ?_ aS|refine VA.alloc ?_ _|refine VA.drew ?_|refine VA.drewN ?_ _|refine VA.other ?_ oM _|refine VA.set ?_ _ _|apply VA.set1|apply VA.set2_1|apply VA.set2_0|refine VA.ext ?_ aS));done):p:=h
theorem dO (u:Value) (t:Tr) (w:World) (hl:t.length≤1000000) (CJ:∀x∈t,x.evs.length≤1000000) (hs:SlR 3 RPr w u t) (QL:∀x∈ids t,AA t.length x.1 (gA t x)=true) :
  Calls Tryz.prog 87 #[.agg #[u]] w fun e w'=>MPost t w e w':=by
 refine callsIn_wide (n:=9).1 ?_
 refine callsIn_of_wp_marks Tryz.func87 rfl trivial ?_ rfl
 simp only[Tryz.ntmps87,dq,ee,fh,Nat.reduceAdd,Nat.reduceSub,ib,ic,ie,ig,dw,da]
 gi_wp2_with (refine⟨trivial,?_⟩;gi_at_call 88;refine (callsIn_wide.2 (tI _ _)).mono ?_;rintro e w' ⟨rfl,rfl⟩)
 have b0:=(((((((VA.new w 30 #[u]).alloc (.cells #[.pointer none] 133)).alloc (.cells #[.int .i64 0,.int .i64 0] 70)).alloc (.cells #[.int .i64 0] 35)).alloc (.cells Tryz.zeroCells181 181)).alloc (.cells #[.pointer (some ⟨w.heap.size+1+1+1+1,0,none⟩)] 133)).alloc (.cells #[u] 30))
 obtain⟨W0,y6⟩:∃W0,(((((((w.alloc (Obj.cells #[u] 30)).alloc (Obj.cells #[Value.pointer none] 133)).alloc (Obj.cells #[Value.int IntKind.i64 0,Value.int IntKind.i64 0] 70)).alloc (Obj.cells #[Value.int IntKind.i64 0] 35)).alloc (Obj.cells Tryz.zeroCells181 181)).alloc (Obj.cells #[Value.pointer (some ⟨w.heap.size+1+1+1+1,0,none⟩)] 133)).alloc (Obj.cells #[u] 30))=W0:=⟨_,rfl⟩
 rw[y6]at b0⊢
 have zN:W0.heap.size=w.heap.size+1+1+1+1+1+1+1:=by rw[←y6];simp
 have hM0:MI t w u [] W0:=by
  rw[←y6]
  refine⟨⟨⟨⟨⟨⟨⟨⟨_,VA.alloc (VA.alloc (VA.newAt _ _ kS) _) _,wO.zero t⟩,?_⟩,?_⟩,?_⟩,?_⟩,?_⟩,?_⟩,?_⟩
  ·exact ((((((VA.newAt _ _ kS).alloc _).alloc _).alloc _).alloc _).alloc _)
  ·exact (((((VA.newAt _ _ kS).alloc _).alloc _).alloc _).alloc _)
  ·exact ((((VA.newAt _ _ kS).alloc _).alloc _).alloc _)
  ·exact ((VA.newAt _ _ kS).alloc _)
  ·rw[y6];exact b0
  ·exact (((((((Ext.refl w).alloc _).alloc _).alloc _).alloc _).alloc _).alloc _).alloc _
  ·intro a x c h;cases a<;>cases h
 have bt:VA W0 (w.heap.size+1+1+1+1+1+1) 30 #[u]:=by rw[←y6];exact VA.newAt _ _ kS
 clear y6
 have QP:Ext w W0:=hM0.1.2
 refine wpIn_rangeFunc_ownH rfl oM (gf:=138) (lb:=#[.pointer (some ⟨w.heap.size+1+1+1+1+1+1,0,none⟩)]) rfl trivial (mC Tryz.func138 kE rfl)
  (DG 8 oM w u t (w.heap.size+1+1+1+1+1+1) W0 hl CJ hs QP (bt.cell rfl) oM) belowK_t (belowK_b oM) (Below.refl _ _) (fun _=>rfl)
  (fun pre W=>MI t w u (pre.map (·.1)) W) (fun c pre W=>c=.ret∧MX t w (pre.map (·.1)) W) (eW t w u oM) (fun c=>OwnFrom.and (ownFrom_pure _ _) (ZFu t w oM)) hM0
  (fun x a' W=>∃B6 B7 A4 n4 c4 v13 v14,(w.heap.size+1+1+1+1+1<B6∧w.heap.size+1+1+1+1+1<B7)∧VA W B6 70 #[.int .i64 x.1.1,.int .i64 x.1.2]∧VA W B7 68 #[.int .i64 (gA t x.1).kind,.int .i64 (gA t x.1).peer,.int .i64 (gA t x.1).msg,.int .i64 (gA t x.1).time,.slice A4 n4 c4] ∧
   a'={tmps:=#[.agg #[u],.pointer (some ⟨w.heap.size,0,none⟩),.pointer (some ⟨w.heap.size+1,0,none⟩),.pointer (some ⟨w.heap.size+1+1,0,none⟩),.pointer (some ⟨w.heap.size+1+1+1,0,none⟩),.pointer (some ⟨w.heap.size+1+1+1+1+1,0,none⟩),.pointer (some ⟨B6,0,none⟩),.pointer (some ⟨B7,0,none⟩),undef,.agg Tryz.zeroCells181,.pointer (some ⟨w.heap.size+1+1+1+1,0,none⟩),.agg #[u],.func (.func 138) #[] #[.pointer (some ⟨w.heap.size+1+1+1+1+1+1,0,none⟩)],v13,v14,undef,undef,undef,undef,undef,undef,undef,undef,undef,undef,undef,undef,undef,undef,undef,undef,undef,undef,undef,undef,undef,undef,undef,undef,undef,undef,undef,undef,undef,undef,undef,undef,undef,undef,undef,undef,undef,undef,undef,undef,undef,undef,undef,undef,undef,undef,undef,undef,undef],defers:=[]})
  ?hax ?assign ?body ?done ?stop
 case hax =>
  rintro x a' _ X Y row ⟨B6,B7,A4,n4,c4,v13,v14,hB,b6,b7,ha⟩ hg hr
  exact⟨B6,B7,A4,n4,c4,v13,v14,hB,uA B6 _ _ (fun (_:Unit)=>_) () X Y row b6 hg hr,uA B7 _ _ (fun (_:Unit)=>_) () X Y row b7 hg hr,ha⟩
 case assign =>
  rintro l pre x W K hI hK
  obtain⟨a,hv,hsa⟩:=GS hs x.2
  obtain⟨A4,c4,rfl,_,_,_⟩:=hsa.at_
  clear hsa
  simp only[hv]
  have hsW:=hI.1.2.size
  unfold IA
  have h5:=hI.1.1.1.2.lt
  gi_wp2
  exact hK _ _ (((KeepsOthers.alloc _ _).trans (KeepsOthers.alloc _ _)).from _) (((Below.refl _ W).alloc hsW _).alloc (by simp;omega) _) ((eW t w u (ai _)).alloc _ ((eW t w u (ai _)).alloc _ hI))
   ⟨W.heap.size,W.heap.size+1,A4,_,c4,_,_,⟨h5,by omega⟩,(VA.new _ _ _).alloc _,VA.newAt _ _ kS,rfl⟩
 case body =>
  rintro l pre x a' W hlW ⟨r,hr⟩ hI ⟨B6,B7,A4,n4,c4,v13,v14,hB,b6,b7,rfl⟩ pC
  have hI0:=hI
  obtain⟨⟨⟨⟨⟨⟨⟨⟨cs,hb,hA⟩,r1⟩,r2⟩,r3⟩,lb⟩,tb⟩,hx⟩,hg⟩:=hI
  have HF:=UA (QL x.1 x.2)
  have hmx:Tryz.prog.follows .mixedOrders=true:=by kernel_rfl
  have k0:=b7.cell (j:=0) rfl
  have k1:=b7.cell (j:=1) rfl
  have k2:=b7.cell (j:=2) rfl
  have i0:=b6.cell (j:=0) rfl
  have i1:=b6.cell (j:=1) rfl
  have l0:=lb.cell (j:=0) rfl
  have t0:=tb.cell (j:=0) rfl
  have hsW:=hx.size
  have Q1:∀y∈pre.map (·.1),1≤y.2:=fun y hy=>by
   obtain⟨z,_,rfl⟩:=cq.1 hy
   exact dG z.2
  have HP:=UA Q1
  have q1:=r1.frozen 0
  have q2:=r2.frozen 0
  have q3:=r2.frozen 1
  have q4:=r3.frozen 0
  have p1:=r1.cell (j:=0) rfl
  have p2:=r2.cell (j:=0) rfl
  have p3:=r2.cell (j:=1) rfl
  have p4:=r3.cell (j:=0) rfl
  clear Q1
  cases z2:(gA t x.1).kind==2
  ·cases z3:(gA t x.1).kind==3
   ·have HA:=UA (hA.keep z2 z3)
    have HG:=UA (hg.snoc (x:=x.1) (by unfold wF;rw[z2,z3];rfl))
    have HI:=UA hI0
    gi_wp2
    refine⟨KeepsFrom.refl _ _,Below.refl _ _,?_⟩
    show MI t w u ((pre++[x]).map (·.1)) _
    rw[YG]
    exact⟨⟨⟨⟨⟨⟨⟨⟨cs,hb,HA.out⟩,r1⟩,r2⟩,r3⟩,lb⟩,tb⟩,hx⟩,HG.out⟩
   ·obtain⟨m,q,hm,b9,hq,FS,_⟩:=sH HF.out (by cases h1:(gA t x.1).kind==1<;>simp_all)
    rw[hm]at k2
    have hA1:=hb.cell (hA.2 m b9).2.2.2
    rw[hq]at k1
    have hq3:=CJ _ (am FS)
    have HS:=UA (fun w' (he:Ext w w')=>(CallsIn.inRound l (callsIn_wide (n:=6).2 (E9 u t q m x.1.1 w' FS hl hq3 (hs.ext RPr.keeps he)))))
    by_cases h0:0<(qA t (pre.map (·.1)) 3 m).2
    ·have hd0:decide ((0:Int)<((qA t (pre.map (·.1)) 3 m).2:Int))=true:=by simp;omega
     have HF8:=UA (show wF t (pre.map (·.1)) x.1=8 by unfold wF;rw[z2,if_neg kE];rw[if_pos z3,hm,if_pos h0])
     have HM:=UA hm
     have HQ:=UA hq
     clear hm hq
     gi_wp2
     gi_region_with_o (fail)
     all_goals gi_wp2
     all_goals refine⟨?_,rfl,pre.map (·.1),x.1,⟨⟨⟨⟨by rw[bq];rfl,hg,?_⟩,?_⟩,?_⟩,?_⟩,?_⟩
     all_goals first
      |(rw[HF8.out];decide)
      |(rw[HF8.out];show VA _ _ _ #[Value.int .i64 8];exact kW0)
      |exact kW0
    ·have hd0:decide ((0:Int)<((qA t (pre.map (·.1)) 3 m).2:Int))=false:=by simp;omega
     have HM:=UA hm
     have HQ:=UA hq
     have HA:=UA (hA.to_ HP.out b9 h0 z3 hm)
     have hf0:=hb.frozen (m*4+2)
     have hf1:=hb.frozen (m*4+2+1)
     have hg0:=hb.cell (hA.2 m b9).2.2.1
     have HL:=UA (show wF t (pre.map (·.1)) x.1=if sendsB t q m x.1.1 then 0 else 7 by unfold wF;rw[z2,if_neg kE,if_pos z3,hm,if_neg h0,hq];rfl)
     clear hm hq
     gi_wp2_with fail
     refine⟨trivial,?_⟩
     refine (HS.out _ hx).mono ?_
     rintro e w1 ⟨rfl,SH⟩
     have hx1:=hx.trans SH
     have ZOQ:=hx1.size
     have hKF:KeepsFrom W0.heap.size W w1:=KF.ext (KeepsFrom.refl _ _) SH
     have hBL:Below w.heap.size W w1:=BL.ext (Below.refl _ _) SH hsW
     have hb':=hb.ext SH
     have r1':=r1.ext SH
     have r2':=r2.ext SH
     have r3':=r3.ext SH
     have lb':=lb.ext SH
     have tb':=tb.ext SH
     have b6':=b6.ext SH
     have q1':=r1'.frozen 0
     have q2':=r2'.frozen 0
     have q3':=r2'.frozen 1
     have q4':=r3'.frozen 0
     have p1':=r1'.cell (j:=0) rfl
     have p2':=r2'.cell (j:=0) rfl
     have p3':=r2'.cell (j:=1) rfl
     have p4':=r3'.cell (j:=0) rfl
     have i0':=b6'.cell (j:=0) rfl
     have i1':=b6'.cell (j:=1) rfl
     have l0':=lb'.cell (j:=0) rfl
     have hf0':=hb'.frozen (m*4+2)
     have hf1':=hb'.frozen (m*4+2+1)
     have hg0':=hb'.cell (hA.2 m b9).2.2.1
     have hA1':=hb'.cell (hA.2 m b9).2.2.2
     clear hf0 hf1 hg0 q1 q2 q3 q4 p1 p2 p3 p4 i0 i1 l0 hA1
     cases hsd:sendsB t q m x.1.1
     ·have HF7:=UA (show wF t (pre.map (·.1)) x.1=7 by rw[HL.out,hsd];rfl)
      clear HL hsd
      gi_wp2
      gi_region_with_o (fail)
      all_goals gi_wp2
      all_goals refine⟨?_,rfl,pre.map (·.1),x.1,⟨⟨⟨⟨by rw[bq];rfl,hg,?_⟩,?_⟩,?_⟩,?_⟩,?_⟩
      all_goals first
       |(rw[HF7.out];decide)
       |(rw[HF7.out];show VA _ _ _ #[Value.int .i64 7];exact kW0)
       |exact kW0
     ·have HG:=UA (hg.snoc (x:=x.1) (by rw[HL.out,hsd];rfl))
      clear HL hsd
      gi_wp2
      gi_region_with_o (fail)
      all_goals gi_wp2
      all_goals refine⟨?_,?_,?_⟩
      all_goals first
       |(show MI t w u ((pre++[x]).map (·.1)) _;rw[YG];refine⟨⟨⟨⟨⟨⟨⟨⟨_,?_,HA.out⟩,?_⟩,?_⟩,?_⟩,?_⟩,?_⟩,?_⟩,HG.out⟩<;>exact kW0)
       |exact kW0
  ·obtain⟨m,q,hm,b9,hq,FS,_⟩:=sH HF.out (by cases h1:(gA t x.1).kind==1<;>simp_all)
   rw[hm]at k2
   have hA1:=hb.cell (hA.2 m b9).2.1
   by_cases h0:0<(qA t (pre.map (·.1)) 2 m).2
   ·have hd0:decide ((0:Int)<((qA t (pre.map (·.1)) 2 m).2:Int))=true:=by simp;omega
    have HF8:=UA (show wF t (pre.map (·.1)) x.1=8 by unfold wF;rw[if_pos z2,hm,if_pos h0])
    have HM:=UA hm
    have HQ:=UA hq
    clear hm hq
    gi_wp2
    gi_region_with_o (fail)
    all_goals gi_wp2
    all_goals refine⟨?_,rfl,pre.map (·.1),x.1,⟨⟨⟨⟨by rw[bq];rfl,hg,?_⟩,?_⟩,?_⟩,?_⟩,?_⟩
    all_goals first
     |(rw[HF8.out];decide)
     |(rw[HF8.out];show VA _ _ _ #[Value.int .i64 8];exact kW0)
     |exact kW0
   ·have hd0:decide ((0:Int)<((qA t (pre.map (·.1)) 2 m).2:Int))=false:=by simp;omega
    have HM:=UA hm
    have HQ:=UA hq
    have HA:=UA (hA.from_ HP.out b9 h0 z2 hm)
    have hf0:=hb.frozen (m*4)
    have hf1:=hb.frozen (m*4+1)
    have hg0:=hb.cell (hA.2 m b9).1
    have HG:=UA (hg.snoc (x:=x.1) (by unfold wF;rw[if_pos z2,hm,if_neg h0]))
    clear hm hq
    gi_wp2
    gi_region_with_o (fail)
    all_goals gi_wp2
    all_goals refine⟨?_,?_,?_⟩
    all_goals first
     |(show MI t w u ((pre++[x]).map (·.1)) _;rw[YG];refine⟨⟨⟨⟨⟨⟨⟨⟨_,?_,HA.out⟩,?_⟩,?_⟩,?_⟩,?_⟩,?_⟩,?_⟩,HG.out⟩<;>exact kW0)
     |exact kW0
 case done =>
  rintro D ys W hD hys ⟨⟨⟨⟨⟨⟨⟨⟨cs,hb,hA⟩,r1⟩,r2⟩,r3⟩,lb⟩,tb⟩,hx⟩,hg⟩ hK
  rw[hys]at hA hg
  have l0:=lb.cell (j:=0) rfl
  have q1:=r1.frozen 0
  have q2:=r2.frozen 0
  have q3:=r2.frozen 1
  have q4:=r3.frozen 0
  have p1:=r1.cell (j:=0) rfl
  have p2:=r2.cell (j:=0) rfl
  have p3:=r2.cell (j:=1) rfl
  have p4:=r3.cell (j:=0) rfl
  gi_wp2
  obtain⟨Wr,xI⟩:∃Wr,((((W.setCell ⟨w.heap.size+1,0,none⟩ (Value.pointer (some ⟨w.heap.size+1+1+1+1,0,none⟩))).setCell ⟨w.heap.size+1+1,0,none⟩ (Value.int .i64 0)).setCell ⟨w.heap.size+1+1,1,none⟩ (Value.int .i64 0)).setCell ⟨w.heap.size+1+1+1,0,none⟩ (Value.int .i64 0))=Wr:=⟨_,rfl⟩
  rw[xI]
  have s1:VA Wr (w.heap.size+1) 133 #[.pointer (some ⟨w.heap.size+1+1+1+1,0,none⟩)]:=by rw[←xI];exact kW0
  have s2:VA Wr (w.heap.size+1+1) 70 #[.int .i64 0,.int .i64 0]:=by rw[←xI];exact kW0
  have s3:VA Wr (w.heap.size+1+1+1) 35 #[.int .i64 0]:=by rw[←xI];exact kW0
  have sb:VA Wr (w.heap.size+1+1+1+1) 181 cs:=by rw[←xI];exact kW0
  have sx:Ext w Wr:=by rw[←xI];exact kW0
  have zR:Wr.heap[D]? = some (.deferred (some [])):=by rw[←xI];exact (KF.set (KF.set (KF.set (KF.set (KeepsFrom.refl W0.heap.size W) _ _) _ _) _ _) _ _).same D _ hD hK rfl
  clear xI
  have e1:=(s1.putObj zR rfl (.deferred none)).cell (j:=0) rfl
  have e2:=(s2.putObj zR rfl (.deferred none)).cell (j:=0) rfl
  have e3:=(s2.putObj zR rfl (.deferred none)).cell (j:=1) rfl
  have e4:=(s3.putObj zR rfl (.deferred none)).cell (j:=0) rfl
  refine⟨by simp,.inl ⟨_,_,rfl,run_takeDeferred zR,?_⟩⟩
  refine⟨.tuple #[.pointer (some ⟨w.heap.size+1+1+1+1,0,none⟩),IA (0,0),.int .i64 0],?_,sx.putObj oM zR _,.inr ⟨ZAK hg,_,cs,by omega,sb.putObj zR rfl _,hA,rfl⟩⟩
  simp[results,Tryz.f87,go_sem,e1,e2,e3,e4,IA]
 case stop =>
  rintro D c pre W hD SK ⟨rfl,a,x,⟨⟨⟨⟨hp,hg,VG⟩,r1⟩,r2⟩,r3⟩,hx⟩ hK
  rw[hp]at SK
  have pG:=UA (ZAJ SK hg VG)
  gi_wp2
  have e1:=(r1.putObj hK rfl (.deferred none)).cell (j:=0) rfl
  have e2:=(r2.putObj hK rfl (.deferred none)).cell (j:=0) rfl
  have e3:=(r2.putObj hK rfl (.deferred none)).cell (j:=1) rfl
  have e4:=(r3.putObj hK rfl (.deferred none)).cell (j:=0) rfl
  refine⟨by simp,.inl ⟨_,_,rfl,run_takeDeferred hK,?_⟩⟩
  refine⟨.tuple #[.pointer none,IA x,.int .i64 (wF t a x)],?_,hx.putObj oM hK _,.inl ⟨x,pG.out.1,by rw[pG.out.2]⟩⟩
  simp[results,Tryz.f87,go_sem,e1,e2,e3,e4,IA]

def SlC (size:Nat) (w:World) (v:Value) (m:Nat) (cs:List Value):Prop:=
 cs.length=m*size∧∃A c,v=.slice A m c∧m≤c∧c≤maxLen∧(0<m→∃b off,A=some ⟨b,off,none⟩∧∀j u,cs[j]? = some u→w.cell? ⟨b,off+j,none⟩=some u)
def vB (size:Nat) (e:TypeId) (w:World) (B:Nat) (v:Value) (n:Nat) (cs:List Value):Prop:=
 cs.length=n*size∧((v=.slice none 0 0∧n=0)∨∃g off cap cur,v=.slice (some ⟨g,off,none⟩) n cap∧B≤g∧VA w g e cur∧n≤cap∧cap≤maxLen∧off+cap*size≤cur.size∧∀j u,cs[j]? = some u→cur[off+j]? = some u)
structure ElS (P:Program) (t e:TypeId) (z:Value) (size bytes:Nat):Prop where
 ht:P.underlying t=some (.slice e)
 inf:∃i:TypeInfo,P.info? e=some i∧i.zero=some z∧i.size=size∧i.bytes=bytes
 zs:z.cells.size=size
 pos:0<size
 few:bytes≤128

theorem UM (b off j:Nat):(⟨b,off,none⟩:Addr).add j=⟨b,off+j,none⟩:=by unfold Addr.add;split<;>simp_all

section
variable {size:Nat} {e:TypeId} {w w':World} {B:Nat} {v v':Value} {n:Nat} {cs:List Value}
theorem vB.nil (size:Nat) (e:TypeId) (w:World) (B:Nat):vB size e w B (.slice none 0 0) 0 []:=⟨by simp,.inl ⟨rfl,rfl⟩⟩
theorem vB.kept (h:vB size e w B v n cs) {row:Option Nat} (hg:w.grownBy w' row) (VG:v.ownBlock=none∨v.ownBlock≠row):vB size e w' B v n cs:=by
 refine⟨h.1,?_⟩
 rcases h.2 with h2|⟨g,off,cap,cur,rfl,hB,hb,rest⟩
 ·exact .inl h2
 ·refine .inr ⟨g,off,cap,cur,rfl,hB,hb.kept hg ?_,rest⟩
  rcases VG with h3|h3
  ·cases h3
  ·exact h3
theorem vB.alloc (h:vB size e w B v n cs) (o:Obj):vB size e (w.alloc o) B v n cs:=h.kept (World.grownBy_alloc w o none) (by cases v.ownBlock<;>simp)
theorem vB.drew (h:vB size e w B v n cs):vB size e w.drew B v n cs:=h
theorem vB.drewN (h:vB size e w B v n cs) (k:Nat):vB size e (w.drewN k) B v n cs:=h
theorem vB.ext (h:vB size e w B v n cs) (he:Ext w w'):vB size e w' B v n cs:=
 h.kept (row:=none) ⟨he.os,he.tape,he.output,he.size,fun k hk _=>he.block k hk⟩ (by cases v.ownBlock<;>simp)
theorem vB.other (h:vB size e w B v n cs) {b j:Nat} (VG:v.ownBlock≠some b) (u:Value):vB size e (w.setCell ⟨b,j,none⟩ u) B v n cs:=by
 refine⟨h.1,?_⟩
 rcases h.2 with h2|⟨g,off,cap,cur,rfl,hB,hb,rest⟩
 ·exact .inl h2
 ·exact .inr ⟨g,off,cap,cur,rfl,hB,hb.other (fun e=>VG (by simp[Value.ownBlock,e])) u,rest⟩
theorem vB.mono {B':Nat} (h:vB size e w B v n cs) (hB:B'≤B):vB size e w B' v n cs:=by
 refine⟨h.1,?_⟩
 rcases h.2 with h2|⟨g,off,cap,cur,rfl,hb,rest⟩
 ·exact .inl h2
 ·exact .inr ⟨g,off,cap,cur,rfl,dh hB hb,rest⟩
theorem vB.blk (h:vB size e w B v n cs):∀k,v.ownBlock=some k→B≤k∧k<w.heap.size:=by
 intro k hk
 rcases h.2 with ⟨rfl,_⟩|⟨g,off,cap,cur,rfl,hb,hbox,_⟩
 ·cases hk
 ·simp[Value.ownBlock]at hk;subst hk;exact⟨hb,hbox.lt⟩
theorem vB.not_box (h:vB size e w B v n cs) {b:Nat} {t:TypeId} {xs:Array Value} (hb:VA w b t xs) (hte:t≠e):v.ownBlock≠some b:=by
 rcases h.2 with ⟨rfl,_⟩|⟨g,off,cap,cur,rfl,_,hbox,_⟩
 ·simp[Value.ownBlock]
 ·intro he
  simp[Value.ownBlock]at he
  subst he
  have:=(show w.heap[g]? = _ from hbox).symm.trans hb
  injection this with this
  injection this with _ h2 _
  exact hte h2.symm
theorem vB.form (h:vB size e w B v n cs):∃A c,v=.slice A n c∧n≤c∧c≤maxLen:=by
 rcases h.2 with ⟨rfl,rfl⟩|⟨g,off,cap,cur,rfl,_,_,h1,h2,_⟩
 ·exact⟨none,0,rfl,ai _,by simp[maxLen]⟩
 ·exact⟨_,cap,rfl,h1,h2⟩
theorem vB.slc (h:vB size e w B v n cs):SlC size w v n cs:=by
 refine⟨h.1,?_⟩
 rcases h.2 with ⟨rfl,rfl⟩|⟨g,off,cap,cur,rfl,_,hb,h1,h2,_,hc⟩
 ·exact⟨none,0,rfl,ai _,by simp[maxLen],fun h=>absurd h oM⟩
 ·exact⟨_,cap,rfl,h1,h2,fun _=>⟨g,off,rfl,fun j u hj=>hb.cell (hc j u hj)⟩⟩
theorem vB.open_ (h:vB size e w B v n cs) (h0:0<n):∃g off cap cur,v=.slice (some ⟨g,off,none⟩) n cap∧B≤g∧VA w g e cur∧n≤cap∧cap≤maxLen∧off+cap*size≤cur.size∧∀j u,cs[j]? = some u→cur[off+j]? = some u:=by
 rcases h.2 with ⟨_,h1⟩|h2
 ·omega
 ·exact h2
theorem vB.made (w:World) (xs:Array Value) (hB:B≤w.heap.size) (hm:n≤maxLen) (hc:xs.size=n*size):vB size e (w.alloc (.cells xs e)) B (.slice (some ⟨w.heap.size,0,none⟩) n n) n xs.toList:=
 ⟨by simpa using hc,.inr ⟨_,0,n,xs,rfl,hB,VA.new w e xs,ai _,hm,by omega,fun j u h=>by simpa using h⟩⟩
theorem vB.madeAt {w:World} {g:Nat} (hg:g=w.heap.size) (xs:Array Value) (hB:B≤w.heap.size) (hm:n≤maxLen) (hc:xs.size=n*size):vB size e (w.alloc (.cells xs e)) B (.slice (some ⟨g,0,none⟩) n n) n xs.toList:=by
 subst hg;exact vB.made w xs hB hm hc
theorem vB.take {A:Option Addr} {c:Nat} (h:vB size e w B (.slice A n c) n cs) (k:Nat) (hk:k≤n):vB size e w B (.slice A k c) k (cs.take (k*size)):=by
 have hl:(cs.take (k*size)).length=k*size:=by
  rw[cf,h.1];exact Nat.min_eq_left (ck _ hk)
 refine⟨hl,?_⟩
 rcases h.2 with ⟨hv,h0⟩|⟨g,off,cap,cur,hv,hB,hb,h1,h2,h3,hc⟩
 ·injection hv with e1 e2 e3;subst e1;subst e3
  obtain rfl:k=0:=by omega
  exact .inl ⟨rfl,rfl⟩
 ·injection hv with e1 e2 e3;subst e1;subst e3
  refine .inr ⟨g,off,_,cur,rfl,hB,hb,by omega,h2,h3,fun j u hj=>hc j u ?_⟩
  rw[cz]at hj
  split at hj
  ·exact hj
  ·cases hj
theorem vB.drop {A A':Option Addr} {c:Nat} (h:vB size e w B (.slice A n c) n cs) (k:Nat) (hk:k≤n) (hA:∀b off,A=some ⟨b,off,none⟩→A'=some ⟨b,off+k*size,none⟩∨(c=k∧A'=A)) (hA0:A=none→A'=none) :
  vB size e w B (.slice A' (n-k) (c-k)) (n-k) (cs.drop (k*size)):=by
 have hl:(cs.drop (k*size)).length=(n-k)*size:=by rw[ea,h.1,ii]
 refine⟨hl,?_⟩
 rcases h.2 with ⟨hv,h0⟩|⟨g,off,cap,cur,hv,hB,hb,h1,h2,h3,hc⟩
 ·injection hv with e1 e2 e3;subst e1;subst e3
  rw[hA0 rfl]
  obtain rfl:k=0:=by omega
  subst h0
  exact .inl ⟨rfl,rfl⟩
 ·injection hv with e1 e2 e3;subst e1;subst e3
  rcases hA g off rfl with rfl|⟨hk2,rfl⟩
  ·refine .inr ⟨g,off+k*size,_,cur,rfl,hB,hb,by omega,by omega,?_,fun j u hj=>?_⟩
   ·have:k*size+(c-k)*size=c*size:=by rw[←bp];congr 1;omega
    omega
   ·rw[de]at hj
    have:=hc _ u hj
    rwa [show off+k*size+j=off+(k*size+j) by omega]
  ·subst hk2
   obtain rfl:c=n:=by omega
   refine .inr ⟨g,off,_,cur,rfl,hB,hb,by omega,by omega,by simp;omega,fun j u hj=>?_⟩
   have:(cs.drop (c*size))=[]:=li (by rw[h.1];exact ai _)
   rw[this]at hj;cases hj
theorem vB.set {g off cap:Nat} (h:vB size e w B (.slice (some ⟨g,off,none⟩) n cap) n cs) (j:Nat) (hj:j<n*size) (u:Value):vB size e (w.setCell ⟨g,off+j,none⟩ u) B (.slice (some ⟨g,off,none⟩) n cap) n (cs.set j u):=by
 refine⟨by rw[dj];exact h.1,?_⟩
 rcases h.2 with ⟨hv,h0⟩|⟨g',off',cap',cur,hv,hB,hb,h1,h2,h3,hc⟩
 ·cases hv
 ·injection hv with e1 e2 e3
  injection e1 with e1
  injection e1 with e4 e5
  subst e3;subst e4;subst e5
  refine .inr ⟨g,off,cap,_,rfl,hB,hb.set _ _,h1,h2,by simpa using h3,fun k x hk=>?_⟩
  rw[jm]
  rw[jb]at hk
  by_cases hjk:j=k
  ·subst hjk
   rw[if_pos rfl]at hk⊢
   have:n*size≤cap*size:=ck _ h1
   rw[if_pos oM]
   rw[if_pos (by rw[h.1];exact hj)]at hk
   exact hk
  ·rw[if_neg hjk]at hk
   rw[if_neg oM]
   exact hc k x hk
theorem SlC.ext {m:Nat} {u:Value} (h:SlC size w u m cs) (he:Ext w w'):SlC size w' u m cs:=by
 obtain⟨hl,A,c,hv,h1,h2,h3⟩:=h
 refine⟨hl,A,c,hv,h1,h2,fun h0=>?_⟩
 obtain⟨b,off,hA,hc⟩:=h3 h0
 exact⟨b,off,hA,fun j u hj=>he.cellAt (hc j u hj)⟩
theorem SlC.nil (size:Nat) (w:World):SlC size w (.slice none 0 0) 0 []:=⟨by simp,none,0,rfl,ai _,by simp[maxLen],fun h=>absurd h oM⟩
theorem SlC.first {P:Program} {m:Nat} {u:Value} {ns:List Value} (h:SlC size w u m ns):∃A c,u=.slice A m c∧∀W,Ext w W→(Builtin.firstCells size m u).run P W=.ok ns.toArray W:=by
 obtain⟨hl,A,c,rfl,h1,h2,h3⟩:=h
 refine⟨A,c,rfl,fun W he=>?_⟩
 rcases jp m with rfl|h0
 ·have hn:ns=[]:=co (by rw[hl];simp)
  subst hn
  cases A<;>simp[Builtin.firstCells,loadCells,loadCellsFrom]
 ·obtain⟨b,off,rfl,hc⟩:=h3 h0
  exact run_firstCells_some W size m ⟨b,off,none⟩ m c ns hl (fun j x hx=>by rw[UM];exact he.cellAt (hc j x hx))

theorem wS {P:Program} {t:TypeId} {z:Value} {bytes:Nat} (I:ElS P t e z size bytes) (ty:TypeId) {u:Value} {m:Nat} {ns:List Value} (WF:vB size e w B v n cs) (hu:SlC size w u m ns) (h1:∀x∈ns,x.oneCell'=true)
  (h63:n+m≤1099511627776) (hB:B≤w.heap.size) :
  ∃v' w',(Builtin.append_ #[t,t] ty #[v,u]).run P w=.ok v' w'∧vB size e w' B v' (n+m) (cs++ns)∧w.grownBy w' v.ownBlock∧(v'.ownBlock=v.ownBlock∨v'.ownBlock=some w.heap.size):=by
 obtain⟨i,hi,hz,hs,hb⟩:=I.inf
 subst hs
 obtain⟨A,c,rfl,hf⟩:=hu.first (P:=P)
 have hl:=hu.1
 have jL:(n+m)*bytes≤140737488355328:=by
  calc (n+m)*bytes≤1099511627776*128:=Nat.mul_le_mul h63 I.few
   _≤140737488355328:=by decide
 have pC:(cs++ns).length=(n+m)*i.size:=by rw[aq,WF.1,hl,bp]
 have ZIa:n+m≤maxLen:=by simp only[maxLen];omega
 rcases WF.2 with ⟨rfl,rfl⟩|⟨g,off,cap,cur,rfl,hBg,hbox,hnc,iM,JI,hc⟩
 ·rcases jp m with rfl|h0
  ·have hn:ns=[]:=co (by rw[hl];simp)
   have fX:cs=[]:=co (by rw[WF.1];simp)
   subst hn;subst fX
   have:=hf w (Ext.refl w)
   refine⟨.slice none 0 0,w,?_,vB.nil _ _ _ _,World.grownBy.refl _ _,.inl rfl⟩
   simp[Builtin.append_,run_underlying I.ht,sizeOf,typeInfo,hi,Builtin.lenOf,this]
  ·obtain⟨_,A',c',hv,_,_,h3⟩:=hu
   injection hv with e1 _ e3;subst e1;subst e3
   obtain⟨b,off,rfl,QG⟩:=h3 h0
   have fX:cs=[]:=co (by rw[WF.1];simp)
   subst fX
   have hr:=run_append_nil (P:=P) w t ty e i z I.ht hi hz ⟨b,off,none⟩ m c ns hl (fun j x hx=>by rw[UM];exact QG j x hx) h0 oM (by rw[hb];simp at jL;omega)
   have xH:=grownCap_ge w m 0 e
   have iM:=grownCap_le_maxLen w m 0 e oM
   refine⟨_,_,hr,?_,⟨rfl,rfl,rfl,by simp,fun k hk _=>Below.heap_alloc w.drew _ k hk⟩,.inr rfl⟩
   rw[cm,dw]
   refine⟨hl,.inr ⟨w.heap.size,0,_,_,rfl,hB,heap_alloc_new w.drew _,xH,iM,?_,fun j x hj=>?_⟩⟩
   ·simp only[bs,dq,size_zeroCells,I.zs,hl,←bp]
    rw[cm]
    exact Nat.le_of_eq (by congr 1;omega)
   ·rw[cm]
    obtain⟨rG,_⟩:=ak.1 hj
    rw[cg (by simpa using rG)]
    simpa using hj
 ·by_cases JC:n+m≤cap
  ·have hns:off+n*i.size+ns.length≤cur.size:=by
    have:n*i.size+m*i.size≤cap*i.size:=by rw[←bp];exact ck _ JC
    rw[hl];omega
   have pG:=run_storeCells_at P g (off+n*i.size) e ns 0 cur w hbox (by simpa using hns) h1
   simp only[eo]at pG
   refine⟨.slice (some ⟨g,off,none⟩) (n+m) cap,w.setRow g (cur.toList.take (off+n*i.size)++ns++cur.toList.drop (off+n*i.size+ns.length)).toArray,?_,?_,⟨rfl,rfl,rfl,by simp,fun k _ hk=>setRow_other w g k _ (fun e=>hk (by simp[e,Value.ownBlock]))⟩,.inl rfl⟩
   ·simp[Builtin.append_,run_underlying I.ht,sizeOf,typeInfo,hi,Builtin.lenOf,JC,hf w (Ext.refl w),UM,pG]
   ·refine⟨pC,.inr ⟨g,off,cap,_,rfl,hBg,setRow_heap w g cur _ e _ hbox,JC,iM,?_,fun j x hj=>?_⟩⟩
    ·simp;omega
    ·have rG:=(ak.1 hj).1
     rw[aq,WF.1]at rG
     simp only[gy]
     by_cases hjn:j<n*i.size
     ·rw[bh,aw (by simp;omega),cz,if_pos oM]
      rw[aw (by rw[WF.1];exact hjn)]at hj
      simpa using hc j x hj
     ·have dW:(cur.toList.take (off+n*i.size)).length=off+n*i.size:=by simp;omega
      rw[bh,ar (by rw[dW];omega),dW,aw oM]
      rw[ar (by rw[WF.1];omega),WF.1]at hj
      rw[show off+j-(off+n*i.size)=j-n*i.size by omega]
      exact hj
  ·have h0:0<m:=by omega
   obtain⟨_,A',c',hv,_,_,h3⟩:=hu
   injection hv with e1 _ e3;subst e1;subst e3
   obtain⟨b,off2,rfl,QG⟩:=h3 h0
   have hr:=run_append_grow (P:=P) w t ty e i z I.ht hi hz ⟨g,off,none⟩ n cap cs WF.1 (fun j x hx=>by rw[UM];exact hbox.cell (hc j x hx)) ⟨b,off2,none⟩ m c ns hl (fun j x hx=>by rw[UM];exact QG j x hx) oM oM
    (growslice_fits oM (by rw[hb];exact jL))
   have xH:=grownCap_ge w (n+m) cap e
   have iM:=grownCap_le_maxLen w (n+m) cap e ZIa
   refine⟨_,_,hr,?_,⟨rfl,rfl,rfl,by simp,fun k hk _=>Below.heap_alloc w.drew _ k hk⟩,.inr rfl⟩
   refine⟨pC,.inr ⟨w.heap.size,0,_,_,rfl,hB,heap_alloc_new w.drew _,xH,iM,?_,fun j x hj=>?_⟩⟩
   ·simp only[bs,dq,size_zeroCells,I.zs,WF.1,hl,←bp]
    rw[cm]
    exact Nat.le_of_eq (by congr 1;omega)
   ·rw[cm]
    obtain⟨rG,_⟩:=ak.1 hj
    rw[cg (by simpa using rG)]
    simpa using hj
end

theorem ZCJ {P:Program} {w:World} {ops:Array Oper} {rest:List Oper} {o:Oper} {a:Act} {Q:Exit→Act→World→Prop} (s x:Operand) {t:TypeId} {size:Nat} {e:TypeId} {z:Value} {bytes:Nat} (I:ElS P t e z size bytes)
  (kJ:o.guard=none) (ho:o.op=.call {callee:=.builtin .append,args:=#[s,x],argTypes:=#[t,t]})
  {B n m:Nat} {v u:Value} {cs ns:List Value} (hs:a.eval s=v) (hx:a.eval x=u) (WF:vB size e w B v n cs) (hu:SlC size w u m ns) (h1:∀x∈ns,x.oneCell'=true) (h63:n+m≤1099511627776) (hB:B≤w.heap.size)
  (h:∀v' w',vB size e w' B v' (n+m) (cs++ns)→Grw w v w' v'→Below B w w'→wpList P ops Q rest (a.put o.dst v') w'):wpList P ops Q (o::rest) a w:=by
 obtain⟨v',w',AC,h2,h3,h4⟩:=wS (P:=P) I o.type WF hu h1 h63 hB
 refine wpList_plain kJ fun K hK=>?_
 unfold Oper.wp execOp
 simp only[ho,resolve,invoke,builtin,Sem.run_bind,Sem.run_pure,Result.andThen_ok,ki,bl,cd,hs,hx,AC]
 have hg:Grw w v w' v':=⟨h3,fun k hk=>by
  rcases h4 with h4|h4
  ·exact .inl (by rw[←h4];exact hk)
  ·rw[h4]at hk;injection hk with hk;exact .inr oM⟩
 exact hK _ _ (h v' w' h2 hg (hg.below (fun k hk=>(WF.blk k hk).1) hB))
theorem jR {F:Fence} {nn:Nat} {P:Program} {w:World} {ops:Array Oper} {rest:List Oper} {o:Oper} {a:Act} {Q:Exit→Act→World→Prop} (s x:Operand) {t:TypeId} {size:Nat} {e:TypeId} {z:Value} {bytes:Nat} (I:ElS P t e z size bytes)
  (kJ:o.guard=none) (ho:o.op=.call {callee:=.builtin .append,args:=#[s,x],argTypes:=#[t,t]})
  {B n m:Nat} {v u:Value} {cs ns:List Value} (hs:a.eval s=v) (hx:a.eval x=u) (WF:vB size e w B v n cs) (hu:SlC size w u m ns) (h1:∀x∈ns,x.oneCell'=true) (h63:n+m≤1099511627776) (hB:B≤w.heap.size)
  (h:∀v' w',vB size e w' B v' (n+m) (cs++ns)→Grw w v w' v'→Below B w w'→wpListIn F nn P ops Q rest (a.put o.dst v') w'):wpListIn F nn P ops Q (o::rest) a w:=by
 obtain⟨v',w',AC,h2,h3,h4⟩:=wS (P:=P) I o.type WF hu h1 h63 hB
 have hg:Grw w v w' v':=⟨h3,fun k hk=>by
  rcases h4 with h4|h4
  ·exact .inl (by rw[←h4];exact hk)
  ·rw[h4]at hk;injection hk with hk;exact .inr oM⟩
 refine wpListIn_plain kJ fun K hK=>?_
 unfold Oper.wpIn
 refine⟨?_,?_⟩
 ·simp[Oper.about,ho,resolve,Target.leads,Sem.run_pure]
 ·rw[Oper.semAt_plain F _ _ (by rw[ho];intro c hc';cases hc')]
  simp[execOp,ho,resolve,invoke,builtin,hs,hx,AC,Result.andThen]
  exact hK _ _ (h v' w' h2 hg (hg.below (fun k hk=>(WF.blk k hk).1) hB))
theorem dU {P:Program} {w:World} {ops:Array Oper} {o:Oper} {a:Act} {K:Act→World→Prop} {Q:Exit→Act→World→Prop} {E:Prop} (s x:Operand) {t:TypeId} {size:Nat} {e:TypeId} {z:Value} {bytes:Nat} (I:ElS P t e z size bytes)
  (kJ:o.guard=none) (ho:o.op=.call {callee:=.builtin .append,args:=#[s,x],argTypes:=#[t,t]})
  {B n m:Nat} {v u:Value} {cs ns:List Value} (hs:a.eval s=v) (hx:a.eval x=u) (WF:vB size e w B v n cs) (hu:SlC size w u m ns) (h1:∀x∈ns,x.oneCell'=true) (h63:n+m≤1099511627776) (hB:B≤w.heap.size)
  (h:∀v' w',vB size e w' B v' (n+m) (cs++ns)→Grw w v w' v'→Below B w w'→K (a.put o.dst v') w'):if Region.wanted o (yielded ops a.tmps)=true then Oper.wp P o a w K Q else E:=by
 have hw:Region.wanted o (yielded ops a.tmps)=true:=by simp[Region.wanted,kJ]
 rw[if_pos hw]
 obtain⟨v',w',AC,h2,h3,h4⟩:=wS (P:=P) I o.type WF hu h1 h63 hB
 unfold Oper.wp execOp
 simp only[ho,resolve,invoke,builtin,Sem.run_bind,Sem.run_pure,Result.andThen_ok,ki,bl,cd,hs,hx,AC]
 have hg:Grw w v w' v':=⟨h3,fun k hk=>by
  rcases h4 with h4|h4
  ·exact .inl (by rw[←h4];exact hk)
  ·rw[h4]at hk;injection hk with hk;exact .inr oM⟩
 exact h v' w' h2 hg (hg.below (fun k hk=>(WF.blk k hk).1) hB)

theorem ZEj:ElS Tryz.prog 208 70 (.agg #[.int .i64 0,.int .i64 0]) 2 16 where
 ht:=Tryz.underlying208
 inf:=by
  have h:(Tryz.prog.info? 70).map (fun i=>(i.zero,i.size,i.bytes))=some (some (.agg #[.int .i64 0,.int .i64 0]),2,16):=by kernel_rfl
  obtain⟨i,hi,he⟩:=kp.1 h
  injection he with h1 h2
  injection h2 with h2 h3
  exact⟨i,hi,h1,h2,h3⟩
 zs:=by rfl
 pos:=by decide
 few:=by decide

def idC (x:Nat×Nat):List Value:=[.int .i64 x.1,.int .i64 x.2]
def aK (l:List (Nat×Nat)):List Value:=l.flatMap idC
theorem ZCw (l:List (Nat×Nat)):(aK l).length=l.length*2:=by
 unfold aK;induction l with
 |nil=>rfl
 |cons x l ih=>simp[idC]at ih⊢;omega
theorem QM (l:List (Nat×Nat)):∀u∈aK l,u.oneCell'=true:=by
 intro u hu
 obtain⟨x,_,h⟩:=jh.1 hu
 simp[idC]at h
 rcases h with rfl|rfl<;>rfl
theorem SlC.lit {w:World} {g:Nat} {x:Nat×Nat} {a b:Int} (T:TypeId) (hg:g=w.heap.size) (ha:a=x.1) (hb:b=x.2):SlC 2 (w.alloc (.cells #[.int .i64 a,.int .i64 b] T)) (.slice (some ⟨g,0,none⟩) 1 1) 1 (aK [x]):=by
 subst ha;subst hb
 have:=(vB.madeAt (B:=0) (e:=T) (n:=1) (size:=2) hg #[.int .i64 x.1,.int .i64 x.2] (aj _) (by simp[maxLen]) rfl).slc
 simpa [aK,idC] using this
def ED (w:World) (B:Nat) (v:Value) (l:List (Nat×Nat)):Prop:=vB 2 70 w B v l.length (aK l)
theorem ED.snoc {w:World} {B:Nat} {v:Value} {l:List (Nat×Nat)} {x:Nat×Nat} {n:Nat} (h:vB 2 70 w B v (n+1) (aK l++aK [x])) (hn:n=l.length):ED w B v (l++[x]):=by
 subst hn
 unfold ED
 rw[aq,show aK (l++[x])=aK l++aK [x] by simp[aK]]
 exact h
def toB (t:Tr) (x:Nat×Nat):Bool:=(gA t x).kind==2&&decide (0<(qA t (ids t) 3 (gA t x).msg).2)
def XI (t:Tr) (x:Nat×Nat):List (Nat×Nat):=(if x.2<(iA t x.1).length then [(x.1,x.2+1)] else [])++if toB t x then [qA t (ids t) 3 (gA t x).msg] else []
theorem fM {t:Tr} {p j:Nat} {e:Ev} (hp:p<t.length) (hj:j<t[p].evs.length) (he:gA t (p,j+1)=e):XI t (p,j+1)=(if j+1<t[p].evs.length then [(p,j+2)] else [])++if toB t (p,j+1) then [qA t (ids t) 3 e.msg] else []:=by
 unfold XI iA;simp only[QB dfPr t hp,he]
def ZI7 (w:World) (l:List (Nat×Nat)) (e:Ending) (w':World):Prop:=∃v',e=.returned v'∧ED w' w.heap.size v' l∧Ext w w'

theorem ZAr (u:Value) (t:Tr) (p i bL:Nat) (cs:Array Value) (w:World) (hl:t.length≤1000000) (CJ:∀x∈t,x.evs.length≤1000000) (hs:SlR 3 RPr w u t) (hx:(p,i)∈ids t) (QL:∀x∈ids t,AA t.length x.1 (gA t x)=true)
  (hL:VA w bL 181 cs) (hA:wO t (ids t) cs) :
  Calls Tryz.prog 173 #[.agg #[u],.pointer (some ⟨bL,0,none⟩),IA (p,i)] w fun e w'=>ZI7 w (XI t (p,i)) e w':=by
 obtain⟨hp,hi1,hi2⟩:=TC.1 hx
 simp only at hp hi1 hi2
 obtain⟨j,rfl⟩:∃j,i=j+1:=⟨i-1,by omega⟩
 have QQ:=FF hp (show j<t[p].evs.length by omega)
 obtain⟨A,c,rfl,_,_,hc⟩:=hs.at_
 obtain⟨b,off,rfl,mJ⟩:=hc oM
 obtain⟨_,_,v2,d2,uW⟩:=mJ p hp
 obtain⟨A2,cc2,rfl,_,_,VX⟩:=uW.at_
 obtain⟨b2,off2,rfl,J1⟩:=VX oM
 obtain⟨g0,g1,g2,g3,va,g4,hs4⟩:=J1 j oM
 obtain⟨A4,cc4,rfl,_,_,_⟩:=hs4.at_
 have hb:=KB d2
 have JJ:b<w.heap.size+1:=by omega
 have dQ:=KB g0
 have ZL9:b2<w.heap.size+1:=by omega
 have mK:=CJ _ (am hp)
 have hj2:(j:Int)<(t[p].evs.length:Int):=by omega
 have hform':=UA QL
 clear uW hs4 mJ J1 hc VX QL hs
 unfold IA
 go_enter Tryz.func173,Tryz.ntmps173
 have hn':j<t[p].evs.length:=by omega
 have hn':j<t[p].evs.length:=by omega
 by_cases hn:j+1<t[p].evs.length
 ·have hd:decide (((j+1:Nat):Int)<(t[p].evs.length:Int))=true:=by simp;omega
  have hd':decide ((j:Int)+1<(t[p].evs.length:Int))=true:=by simp;omega
  go_wp2_with (at_builtin;go_must (refine ZCJ (v:=.slice none 0 0) (.tmp 22) (.tmp 29) ZEj rfl rfl rfl rfl (vB.nil _ _ _ w.heap.size) (SlC.lit (x:=(p,j+2)) _ kS rfl (by push_cast;omega)) (QM _) oM (by simp;omega) ?_;intro v1 w1 hown1 hgr1 hbl1;have SH:=hgr1.ext rfl;have ZCG:Ext w w1:=Ext.trans (((Ext.refl w).alloc _).alloc _ |>.alloc _) SH;have t0:=(((VA.new w 30 _).alloc _ |>.alloc _).ext SH).cell (j:=0) rfl;have x0:=(((VA.newAt (B:=w.heap.size+1) (W:=w.alloc _) 70 _ kS).alloc _).ext SH).cell (j:=0) rfl;have x1:=(((VA.newAt (B:=w.heap.size+1) (W:=w.alloc _) 70 _ kS).alloc _).ext SH).cell (j:=1) rfl;have e0:=ZCG.cellAt g0;have e1:=ZCG.cellAt g1;have e2:=ZCG.cellAt g2;have e3:=ZCG.cellAt g3;have e4:=ZCG.cellAt g4;clear hgr1 hbl1))

  have MM:ED (w1.alloc (.cells #[.int .i64 t[p].evs[j].kind,.int .i64 t[p].evs[j].peer,.int .i64 t[p].evs[j].msg,.int .i64 t[p].evs[j].time,.slice A4 t[p].evs[j].asg.length cc4] 68)) w.heap.size (v1) ([(p,j+2)]):=(ED.snoc (l:=[]) hown1 rfl).alloc _
  have mV:Ext w (w1.alloc (.cells #[.int .i64 t[p].evs[j].kind,.int .i64 t[p].evs[j].peer,.int .i64 t[p].evs[j].msg,.int .i64 t[p].evs[j].time,.slice A4 t[p].evs[j].asg.length cc4] 68)):=ZCG.alloc _
  have b6:VA (w1.alloc (.cells #[.int .i64 t[p].evs[j].kind,.int .i64 t[p].evs[j].peer,.int .i64 t[p].evs[j].msg,.int .i64 t[p].evs[j].time,.slice A4 t[p].evs[j].asg.length cc4] 68)) (w1.heap.size) 68 #[.int .i64 t[p].evs[j].kind,.int .i64 t[p].evs[j].peer,.int .i64 t[p].evs[j].msg,.int .i64 t[p].evs[j].time,.slice A4 t[p].evs[j].asg.length cc4]:=VA.newAt _ _ kS
  generalize hbe:w1.heap.size=be at *
  clear hbe
  generalize w1.alloc (.cells #[.int .i64 t[p].evs[j].kind,.int .i64 t[p].evs[j].peer,.int .i64 t[p].evs[j].msg,.int .i64 t[p].evs[j].time,.slice A4 t[p].evs[j].asg.length cc4] 68)=W6 at MM mV b6⊢
  have hL6:=hL.ext mV
  have k0:=b6.cell (j:=0) rfl
  have k2:=b6.cell (j:=2) rfl
  cases k:t[p].evs[j].kind==2
  ·have HD:=UA (show XI t (p,j+1)=[(p,j+2)] by rw[fM hp hn' QQ];unfold toB;rw[QQ,k];simp[hn])
   go_quiet (fail)
   revert nq;intro n1
   go_wp2
   go_ret
   exact⟨_,rfl,by rw[HD.out];exact MM.drewN _,mV.drewN _⟩
  ·obtain⟨m,q,hm,b9,_,_,_⟩:=sH (hform'.out (p,j+1) hx) (by rw[QQ];cases h1:t[p].evs[j].kind==1<;>simp_all)
   rw[QQ]at hm
   have hm3:(m:Int)<200:=by omega
   rw[hm]at k2
   obtain⟨_,_,a2,a3⟩:=hA.2 m b9
   have c2:=hL6.cell a2
   have c3:=hL6.cell a3
   have HM:=UA hm
   clear hm
   by_cases h0:0<(qA t (ids t) 3 m).2
   ·have hd0:decide ((0:Int)<((qA t (ids t) 3 m).2:Int))=true:=by simp;omega
    have HD:=UA (show XI t (p,j+1)=[(p,j+2)]++[qA t (ids t) 3 m] by rw[fM hp hn' QQ];unfold toB;rw[QQ,k,HM.out];simp[hn,h0])
    go_quiet (fail)
    revert nq;intro n1
    go_wp2
    have ZE1:=vB.drewN MM n1
    have ZIs:=mV.drewN n1
    have k27:(W6.drewN n1).cell? ⟨be,2,none⟩=some (.int .i64 m):=k2
    have c27:(W6.drewN n1).cell? ⟨bL,m*4+2,none⟩=some (.int .i64 (qA t (ids t) 3 m).1):=c2
    have c37:(W6.drewN n1).cell? ⟨bL,m*4+3,none⟩=some (.int .i64 (qA t (ids t) 3 m).2):=c3
    clear k2 c2 c3 k0 hL6 b6 MM
    generalize W6.drewN n1=W7 at *
    have zN:=ZIs.size
    go_region_law (first
     |(refine dU (v:=v1) (.tmp 51) (.tmp 59) ZEj rfl rfl rfl rfl (ZE1.ext (by repeat (first|exact Ext.refl _|assumption|apply Ext.alloc|apply Ext.drew|apply Ext.drewN|(refine Ext.trans ?_ aS)))) (SlC.lit (x:=qA t (ids t) 3 m) _ kS rfl rfl) (QM _) (by simp<;>omega) (by simp<;>omega) ?_;intro v8 w8 hown8 hgr8 hbl8))
    all_goals
     go_wp2
     go_ret
     exact⟨v8,rfl,by rw[HD.out];exact ED.snoc hown8 rfl,Ext.more (by repeat (first|exact Ext.refl _|assumption|apply Ext.alloc|apply Ext.drew|apply Ext.drewN|(refine Ext.trans ?_ aS))) hbl8⟩
   ·have hd0:decide ((0:Int)<((qA t (ids t) 3 m).2:Int))=false:=by simp;omega
    have HD:=UA (show XI t (p,j+1)=[(p,j+2)] by rw[fM hp hn' QQ];unfold toB;rw[QQ,k,HM.out];simp[hn,h0])
    go_quiet (fail)
    revert nq;intro n1
    go_wp2
    go_ret
    exact⟨_,rfl,by rw[HD.out];exact MM.drewN _,mV.drewN _⟩
 ·have hd:decide (((j+1:Nat):Int)<(t[p].evs.length:Int))=false:=by simp;omega
  have hd':decide ((j:Int)+1<(t[p].evs.length:Int))=false:=by simp;omega
  have ZLa:b2<w.heap.size+1+1:=by omega
  go_wp2_with fail

  have MM:ED (((w.alloc (.cells #[.slice (some ⟨b,off,none⟩) t.length c] 30)).alloc (.cells #[.int .i64 p,.int .i64 ((j:Int)+1)] 70)).alloc (.cells #[.int .i64 t[p].evs[j].kind,.int .i64 t[p].evs[j].peer,.int .i64 t[p].evs[j].msg,.int .i64 t[p].evs[j].time,.slice A4 t[p].evs[j].asg.length cc4] 68)) w.heap.size (Value.slice none 0 0) ([]):=vB.nil _ _ _ _
  have mV:Ext w (((w.alloc (.cells #[.slice (some ⟨b,off,none⟩) t.length c] 30)).alloc (.cells #[.int .i64 p,.int .i64 ((j:Int)+1)] 70)).alloc (.cells #[.int .i64 t[p].evs[j].kind,.int .i64 t[p].evs[j].peer,.int .i64 t[p].evs[j].msg,.int .i64 t[p].evs[j].time,.slice A4 t[p].evs[j].asg.length cc4] 68)):=(((Ext.refl w).alloc _).alloc _).alloc _
  have b6:VA (((w.alloc (.cells #[.slice (some ⟨b,off,none⟩) t.length c] 30)).alloc (.cells #[.int .i64 p,.int .i64 ((j:Int)+1)] 70)).alloc (.cells #[.int .i64 t[p].evs[j].kind,.int .i64 t[p].evs[j].peer,.int .i64 t[p].evs[j].msg,.int .i64 t[p].evs[j].time,.slice A4 t[p].evs[j].asg.length cc4] 68)) (w.heap.size+1+1) 68 #[.int .i64 t[p].evs[j].kind,.int .i64 t[p].evs[j].peer,.int .i64 t[p].evs[j].msg,.int .i64 t[p].evs[j].time,.slice A4 t[p].evs[j].asg.length cc4]:=VA.newAt _ _ kS
  generalize hbe:w.heap.size+1+1=be at *
  clear hbe
  generalize ((w.alloc (.cells #[.slice (some ⟨b,off,none⟩) t.length c] 30)).alloc (.cells #[.int .i64 p,.int .i64 ((j:Int)+1)] 70)).alloc (.cells #[.int .i64 t[p].evs[j].kind,.int .i64 t[p].evs[j].peer,.int .i64 t[p].evs[j].msg,.int .i64 t[p].evs[j].time,.slice A4 t[p].evs[j].asg.length cc4] 68)=W6 at MM mV b6⊢
  have hL6:=hL.ext mV
  have k0:=b6.cell (j:=0) rfl
  have k2:=b6.cell (j:=2) rfl
  cases k:t[p].evs[j].kind==2
  ·have HD:=UA (show XI t (p,j+1)=[] by rw[fM hp hn' QQ];unfold toB;rw[QQ,k];simp[hn])
   go_quiet (fail)
   revert nq;intro n1
   go_wp2
   go_ret
   exact⟨_,rfl,by rw[HD.out];exact MM.drewN _,mV.drewN _⟩
  ·obtain⟨m,q,hm,b9,_,_,_⟩:=sH (hform'.out (p,j+1) hx) (by rw[QQ];cases h1:t[p].evs[j].kind==1<;>simp_all)
   rw[QQ]at hm
   have hm3:(m:Int)<200:=by omega
   rw[hm]at k2
   obtain⟨_,_,a2,a3⟩:=hA.2 m b9
   have c2:=hL6.cell a2
   have c3:=hL6.cell a3
   have HM:=UA hm
   clear hm
   by_cases h0:0<(qA t (ids t) 3 m).2
   ·have hd0:decide ((0:Int)<((qA t (ids t) 3 m).2:Int))=true:=by simp;omega
    have HD:=UA (show XI t (p,j+1)=[]++[qA t (ids t) 3 m] by rw[fM hp hn' QQ];unfold toB;rw[QQ,k,HM.out];simp[hn,h0])
    go_quiet (fail)
    revert nq;intro n1
    go_wp2
    have ZE1:=vB.drewN MM n1
    have ZIs:=mV.drewN n1
    have k27:(W6.drewN n1).cell? ⟨be,2,none⟩=some (.int .i64 m):=k2
    have c27:(W6.drewN n1).cell? ⟨bL,m*4+2,none⟩=some (.int .i64 (qA t (ids t) 3 m).1):=c2
    have c37:(W6.drewN n1).cell? ⟨bL,m*4+3,none⟩=some (.int .i64 (qA t (ids t) 3 m).2):=c3
    clear k2 c2 c3 k0 hL6 b6 MM
    generalize W6.drewN n1=W7 at *
    have zN:=ZIs.size
    go_region_law (first
     |(refine dU (v:=Value.slice none 0 0) (.tmp 51) (.tmp 59) ZEj rfl rfl rfl rfl (ZE1.ext (by repeat (first|exact Ext.refl _|assumption|apply Ext.alloc|apply Ext.drew|apply Ext.drewN|(refine Ext.trans ?_ aS)))) (SlC.lit (x:=qA t (ids t) 3 m) _ kS rfl rfl) (QM _) (by simp<;>omega) (by simp<;>omega) ?_;intro v8 w8 hown8 hgr8 hbl8))
    all_goals
     go_wp2
     go_ret
     exact⟨v8,rfl,by rw[HD.out];exact ED.snoc hown8 rfl,Ext.more (by repeat (first|exact Ext.refl _|assumption|apply Ext.alloc|apply Ext.drew|apply Ext.drewN|(refine Ext.trans ?_ aS))) hbl8⟩
   ·have hd0:decide ((0:Int)<((qA t (ids t) 3 m).2:Int))=false:=by simp;omega
    have HD:=UA (show XI t (p,j+1)=[] by rw[fM hp hn' QQ];unfold toB;rw[QQ,k,HM.out];simp[hn,h0])
    go_quiet (fail)
    revert nq;intro n1
    go_wp2
    go_ret
    exact⟨_,rfl,by rw[HD.out];exact MM.drewN _,mV.drewN _⟩
end Go.Proofs.YtmaokjojbjdpoaaGreatDoor
namespace Go.Proofs.YtmaokjojbjdpoaaGreatDoor
open Go.RowKit
set_option linter.unusedVariables false

theorem ZIX (d:Nat) (x y:Nat×Nat) (w:World):(Op.equalIn (d+1+1) 70 (IA x) (IA y)).run Tryz.prog w=.ok (x==y) w:=by
 have hf:Tryz.prog.fieldsOf 70=#[{name:= "Proc",type:=3,offset:=0,embedded:=false,tag:= "",pkgPath:= "",byteOffset:=0},{name:= "Index",type:=3,offset:=1,embedded:=false,tag:= "",pkgPath:= "",byteOffset:=8}]:=by
  simp[Program.fieldsOf,Tryz.underlying70]
 unfold IA
 rw[run_equalIn_agg w _ _ _ _ (by rw[hf];exact Tryz.underlying70) Tryz.stoodInHeld70,hf]
 simp[Op.eqFields,go_sem]
 obtain⟨a,b⟩:=x
 obtain⟨c,d⟩:=y
 simp only
 by_cases h1:a=c
 ·by_cases h2:b=d
  ·subst h1;subst h2;simp
  ·have:¬((b:Int)=d):=by omega
   rw[if_pos oM,if_neg this]
   simp[h1,h2]
 ·rw[if_neg oM]
  simp[h1]
theorem QV (d:Nat) (e:Bool) (x:Nat×Nat) (w:World):(Instr.checkKey e (d+1+1) 70 (IA x)).run Tryz.prog w=.ok () w:=by
 unfold IA
 simp[Instr.checkKey,run_underlying Tryz.underlying70,go_sem]
def fI (w:World) (r:Nat) (S:List (Nat×Nat)):Prop:=∃es clock,w.heap[r]? = some (.map es clock)∧es.toList.map (fun e=>(e.key,e.val))=S.map fun x=>(IA x,Value.bool true)
theorem g9 (y:Nat×Nat) (w:World):∀(es:List MapEntry) (S:List (Nat×Nat)) (i:Nat),es.map (fun e=>(e.key,e.val))=S.map (fun x=>(IA x,Value.bool true)) →
  ∃r,(Instr.findAsking 70 (IA y) es i).run Tryz.prog w=.ok r w∧(y∈S→∃k,r=some (k,.bool true))∧(y∉S→r=none)
 |[],S,i,h=>by
   have:S=[]:=by cases S<;>simp at h⊢
   subst this
   exact⟨none,rfl,fun h=>absurd h kS,fun _=>rfl⟩
 |e::es,[],i,h=>by simp at h
 |e::es,x::S,i,h=>by
   simp only[bl,List.cons.injEq,Prod.mk.injEq]at h
   obtain⟨⟨h1,h2⟩,h3⟩:=h
   unfold Instr.findAsking
   have he:(Op.equal 70 (IA y) e.key).run Tryz.prog w=.ok (y==x) w:=by rw[h1];exact ZIX 9998 y x w
   by_cases hyx:y=x
   ·subst hyx
    refine⟨some (i,e.val),by simp[he],fun _=>⟨i,by rw[h2]⟩,fun hn=>absurd kS hn⟩
   ·obtain⟨r,hr,ha,hb⟩:=g9 y w es S (i+1) h3
    refine⟨r,by simp[he,hyx,hr],fun hm=>ha ((cu.1 hm).resolve_left hyx),fun hn=>hb (fun hm=>hn (kx _ hm))⟩
theorem ER (y:Nat×Nat) (w:World) (es:List MapEntry) (S:List (Nat×Nat)) (h:es.map (fun e=>(e.key,e.val))=S.map (fun x=>(IA x,Value.bool true))) :
  ∃r,(Instr.findKey 70 (IA y) es).run Tryz.prog w=.ok r w∧(y∈S→∃k,r=some (k,.bool true))∧(y∉S→r=none):=by
 obtain⟨r,hr,ha,hb⟩:=g9 y w es S 0 h
 refine⟨r,?_,ha,hb⟩
 unfold Instr.findKey
 cases es with
 |nil =>
   have:r=none:=by
    refine hb (fun hm=>?_)
    cases S<;>simp at h hm
   subst this
   simp[run_underlying Tryz.underlying70,Instr.findNow]
 |cons e es =>
   have hs:Instr.findNow (TypeDesc.struct #[{name:= "Proc",type:=3,offset:=0,embedded:=false,tag:= "",pkgPath:= "",byteOffset:=0},{name:= "Index",type:=3,offset:=1,embedded:=false,tag:= "",pkgPath:= "",byteOffset:=8}]) (IA y) (e::es) 0=none:=by
    simp[Instr.findNow,Instr.sameNow]
   simp[run_underlying Tryz.underlying70,hs,hr]
theorem VH {w:World} {r:Nat} {S:List (Nat×Nat)} (h:fI w r S) (y:Nat×Nat):(Instr.lookup 207 (.map (some r)) (IA y) false).run Tryz.prog w=.ok (.bool (decide (y∈S))) w:=by
 obtain⟨es,clock,hb,hS⟩:=h
 obtain⟨q,hq,ha,hc⟩:=ER y w es.toList S hS
 have hk:(Instr.checkKey es.isEmpty 10000 70 (IA y)).run Tryz.prog w=.ok () w:=QV 9998 es.isEmpty y w
 have hg:=run_getObj_map (P:=Tryz.prog) w r es clock hb
 unfold Instr.lookup
 by_cases hm:y∈S
 ·obtain⟨k,rfl⟩:=ha hm
  simp[run_underlying Tryz.underlying207,hg,hk,hq,hm]
 ·obtain rfl:=hc hm
  simp[run_underlying Tryz.underlying207,hg,hk,hq,hm,go_sem]
theorem IM {w:World} {r:Nat} {S:List (Nat×Nat)} (h:fI w r S) (y:Nat×Nat) (hy:y∉S):∃w',(Instr.mapUpdate 207 (.map (some r)) (IA y) (.bool true)).run Tryz.prog w=.ok () w'∧fI w' r (S++[y])∧w.grownBy w' (some r):=by
 obtain⟨es,clock,hb,hS⟩:=h
 obtain⟨q,hq,ha,hc⟩:=ER y w es.toList S hS
 have hk:(Instr.checkKey false 10000 70 (IA y)).run Tryz.prog w=.ok () w:=QV 9998 false y w
 have hg:=run_getObj_map (P:=Tryz.prog) w r es clock hb
 have xO:∀o,(setObj r o).run Tryz.prog w=.ok () (w.putObj r o):=fun o=>by
  simp[setObj,Sem.run,World.putObj,hb]
 obtain rfl:=hc hy
 refine⟨w.putObj r (.map (es.push {key:=IA y,val:=.bool true,born:=clock}) (clock+1)),?_,⟨_,_,World.putObj_heap_same (bo.1 hb).1,?_⟩,grownBy_putObj' _ _ _⟩
 ·unfold Instr.mapUpdate
  simp[run_underlying Tryz.underlying207,hg,hk,hq,xO]
 ·simp[hS]
theorem fI.new (w:World):fI (w.alloc (.map #[] 0)) w.heap.size []:=⟨#[],0,World.alloc_heap_new w _,rfl⟩
theorem fI.kept {w w':World} {row:Option Nat} {r:Nat} {S:List (Nat×Nat)} (h:fI w r S) (hg:w.grownBy w' row) (VG:some r≠row):fI w' r S:=by
 obtain⟨es,clock,hb,hS⟩:=h
 exact⟨es,clock,(hg.block r (bo.1 hb).1 VG).trans hb,hS⟩
theorem fI.lt {w:World} {r:Nat} {S:List (Nat×Nat)} (h:fI w r S):r<w.heap.size:=by
 obtain⟨es,clock,hb,hS⟩:=h
 exact (bo.1 hb).1
theorem fI.alloc {w:World} {r:Nat} {S:List (Nat×Nat)} (h:fI w r S) (o:Obj):fI (w.alloc o) r S:=h.kept (World.grownBy_alloc w o none) kS
theorem fI.ext {w w':World} {r:Nat} {S:List (Nat×Nat)} (h:fI w r S) (he:Ext w w'):fI w' r S:=by
 obtain⟨es,clock,hb,hS⟩:=h
 exact⟨es,clock,(he.block r (bo.1 hb).1).trans hb,hS⟩
theorem fI.other {w:World} {r b j:Nat} {S:List (Nat×Nat)} (h:fI w r S) (VG:r≠b) (u:Value):fI (w.setCell ⟨b,j,none⟩ u) r S:=by
 obtain⟨es,clock,hb,hS⟩:=h
 exact⟨es,clock,(Below.heap_setCell _ _ _ _ (by simpa using VG)).trans hb,hS⟩
theorem fI.not_box {w:World} {r b:Nat} {S:List (Nat×Nat)} {t:TypeId} {cs:Array Value} (h:fI w r S) (hb:VA w b t cs):r≠b:=by
 rintro rfl
 obtain⟨es,clock,h1,_⟩:=h
 rw[show w.heap[r]? = _ from hb]at h1;cases h1
theorem vB.not_map {size:Nat} {e:TypeId} {w:World} {B:Nat} {v:Value} {n:Nat} {cs:List Value} (h:vB size e w B v n cs) {r:Nat} {S:List (Nat×Nat)} (hm:fI w r S):v.ownBlock≠some r:=by
 rcases h.2 with ⟨rfl,_⟩|⟨g,off,cap,cur,rfl,_,hb,_⟩
 ·simp[Value.ownBlock]
 ·intro he
  simp[Value.ownBlock]at he
  exact hm.not_box hb he.symm
end Go.Proofs.YtmaokjojbjdpoaaGreatDoor
namespace Go.Proofs.YtmaokjojbjdpoaaGreatDoor
set_option linter.unusedVariables false

theorem fP {t:Tr} {k m:Int} (h:0<(qA t (ids t) k m).2):qA t (ids t) k m∈ids t∧GC t k m=some (qA t (ids t) k m):=by
 have e:GC t k m=(ids t).find? (MD t k m):=rfl
 rw[e]
 unfold qA at h⊢
 cases hf:(ids t).find? (MD t k m) with
 |none=>rw[hf]at h;simp at h
 |some y=>exact⟨fg hf,rfl⟩
theorem AB {t:Tr} {k m:Int} {y:Nat×Nat} (h:GC t k m=some y):qA t (ids t) k m=y∧0<y.2∧y∈ids t:=by
 have e:GC t k m=(ids t).find? (MD t k m):=rfl
 rw[e]at h
 refine⟨by unfold qA;rw[h];rfl,dG (fg h),fg h⟩
theorem IZ {t:Tr} {x y:Nat×Nat}:y∈XI t x↔Dir t x y:=by
 unfold XI Dir toB
 rw[bn]
 constructor
 ·rintro (h|h)
  ·split at h
   ·rename_i yA
    exact .inl ⟨by simpa using h,yA⟩
   ·cases h
  ·split at h
   ·rename_i hb
    simp only[au,beq_iff_eq,bc]at hb
    have:y=qA t (ids t) 3 (gA t x).msg:=by simpa using h
    subst this
    exact .inr ⟨hb.1,(fP hb.2).2⟩
   ·cases h
 ·rintro (⟨rfl,yA⟩|⟨hk,hf⟩)
  ·rw[if_pos yA];exact .inl kS
  ·obtain⟨h1,h2,_⟩:=AB hf
   refine .inr ?_
   rw[if_pos (by rw[h1];simp[hk,h2]),h1]
   simp
theorem Dir.mem {t:Tr} {x y:Nat×Nat} (hx:x∈ids t) (h:Dir t x y):y∈ids t:=by
 rcases h with ⟨rfl,yA⟩|⟨_,hf⟩
 ·obtain⟨hp,_,_⟩:=TC.1 hx
  refine TC.2 ⟨hp,by simp,?_⟩
  unfold iA at yA
  rw[QB dfPr t hp]at yA
  exact yA
 ·exact (AB hf).2.2
theorem Hb.mem {t:Tr} {x y:Nat×Nat} (hx:x∈ids t) (h:Hb t x y):y∈ids t:=by
 induction h with
 |one h=>exact h.mem hx
 |more _ h ih=>exact h.mem ih
structure DfsI (t:Tr) (id:Nat×Nat) (S R:List (Nat×Nat)):Prop where
 nod:S.Nodup
 notid:id∉S
 reach:∀y∈S,Hb t id y
 rest:∀y∈R,y=id∨y∈S
 closed:∀x,x=id∨x∈S→x∈R∨∀y,Dir t x y→y∈S
structure DfsJ (t:Tr) (id x:Nat×Nat) (S R:List (Nat×Nat)) (k:Nat):Prop where
 nod:S.Nodup
 notid:id∉S
 reach:∀y∈S,Hb t id y
 rest:∀y∈R,y=id∨y∈S
 cur:x=id∨x∈S
 closed:∀z,z=id∨z∈S→z∈R∨z=x∨∀y,Dir t z y→y∈S
 done:∀y∈(XI t x).take k,y∈S
theorem DfsI.start (t:Tr) (id:Nat×Nat):DfsI t id [] [id]:=
 ⟨List.nodup_nil,by simp,by simp,fun y h=>.inl (by simpa using h),fun x h=>.inl (by simpa using h)⟩
theorem DfsI.pop {t:Tr} {id x:Nat×Nat} {S R:List (Nat×Nat)} (h:DfsI t id S (R++[x])):DfsJ t id x S R 0:=
 ⟨h.nod,h.notid,h.reach,fun y hy=>h.rest y (by simp[hy]),h.rest x kS,fun z hz=>by
  rcases h.closed z hz with h1|h1
  ·rcases bn.1 h1 with h2|h2
   ·exact .inl h2
   ·exact .inr (.inl (by simpa using h2))
  ·exact .inr (.inr h1),by simp⟩
theorem CM {α:Type} {l:List α} {k:Nat} {y:α} (h:l[k]? = some y):l.take (k+1)=l.take k++[y]:=by
 rw[fw,h];rfl
theorem DfsJ.skip {t:Tr} {id x y:Nat×Nat} {S R:List (Nat×Nat)} {k:Nat} (h:DfsJ t id x S R k) (hk:(XI t x)[k]? = some y) (hy:y∈S):DfsJ t id x S R (k+1):=
 ⟨h.nod,h.notid,h.reach,h.rest,h.cur,h.closed,fun z hz=>by
  rw[CM hk]at hz
  rcases bn.1 hz with h1|h1
  ·exact h.done z h1
  ·have:z=y:=by simpa using h1
   subst this;exact hy⟩
theorem DfsJ.hb {t:Tr} {id x y:Nat×Nat} {S R:List (Nat×Nat)} {k:Nat} (h:DfsJ t id x S R k) (hk:(XI t x)[k]? = some y):Hb t id y:=by
 have hd:Dir t x y:=IZ.1 (bw hk)
 rcases h.cur with rfl|h1
 ·exact .one hd
 ·exact .more (h.reach x h1) hd
theorem DfsJ.push {t:Tr} {id x y:Nat×Nat} {S R:List (Nat×Nat)} {k:Nat} (h:DfsJ t id x S R k) (hk:(XI t x)[k]? = some y) (hy:y∉S) (VG:y≠id):DfsJ t id x (S++[y]) (R++[y]) (k+1):=by
 have hr:=h.hb hk
 refine⟨?_,?_,?_,?_,?_,?_,?_⟩
 ·refine ia.2 ⟨h.nod,by simp,fun a ha b hb=>?_⟩
  have:b=y:=by simpa using hb
  subst this
  exact fun e=>hy (e▸ha)
 ·intro hm
  rcases bn.1 hm with h1|h1
  ·exact h.notid h1
  ·exact VG (by simpa using h1:id=y).symm
 ·intro z hz
  rcases bn.1 hz with h1|h1
  ·exact h.reach z h1
  ·have:z=y:=by simpa using h1
   subst this;exact hr
 ·intro z hz
  rcases bn.1 hz with h1|h1
  ·exact (h.rest z h1).imp_right fun h2=>by simp[h2]
  ·exact .inr (bn.2 (.inr h1))
 ·exact h.cur.imp_right fun h2=>by simp[h2]
 ·intro z hz
  have:z=y∨z=id∨z∈S:=by
   rcases hz with h1|h1
   ·exact .inr (.inl h1)
   ·rcases bn.1 h1 with h2|h2
    ·exact .inr (.inr h2)
    ·exact .inl (by simpa using h2)
  rcases this with rfl|h1
  ·exact .inl kS
  ·rcases h.closed z h1 with h2|h2|h2
   ·exact .inl (by simp[h2])
   ·exact .inr (.inl h2)
   ·exact .inr (.inr fun w hw=>by simp[h2 w hw])
 ·intro z hz
  rw[CM hk]at hz
  rcases bn.1 hz with h1|h1
  ·simp[h.done z h1]
  ·exact bn.2 (.inr h1)
theorem DfsJ.fin {t:Tr} {id x:Nat×Nat} {S R:List (Nat×Nat)} {k:Nat} (h:DfsJ t id x S R k) (hk:(XI t x).length≤k):DfsI t id S R:=
 ⟨h.nod,h.notid,h.reach,h.rest,fun z hz=>by
  rcases h.closed z hz with h2|h2|h2
  ·exact .inl h2
  ·subst h2
   refine .inr fun y hy=>h.done y ?_
   rw[cr hk]
   exact IZ.2 hy
  ·exact .inr h2⟩
theorem DfsI.no {t:Tr} {id:Nat×Nat} {S:List (Nat×Nat)} (h:DfsI t id S []):¬Hb t id id:=by
 have key:∀y,Hb t id y→y∈S:=by
  intro y hy
  induction hy with
  |one hd=>exact (h.closed id (.inl rfl)).resolve_left kS _ hd
  |more _ hd ih=>exact (h.closed _ (.inr ih)).resolve_left kS _ hd
 exact fun hh=>h.notid (key id hh)
theorem II {α:Type} [DecidableEq α]:∀{S L:List α},S.Nodup→(∀x∈S,x∈L)→S.length≤L.length
 |[],_,_,_=>aj _
 |a::S,L,hn,hs=>by
   have h1:=ju.1 hn
   have h2:S.length≤(L.erase a).length:=II h1.2 fun x hx=>by
    have VG:x≠a:=fun e=>h1.1 (e▸hx)
    exact (List.mem_erase_of_ne VG).2 (hs x (by simp[hx]))
   have ha:a∈L:=hs a kS
   rw[List.length_erase_of_mem ha]at h2
   have:=List.length_pos_of_mem ha
   simp;omega
theorem DfsI.few {t:Tr} {id:Nat×Nat} {S R:List (Nat×Nat)} (h:DfsI t id S R) (hid:id∈ids t):S.length≤(ids t).length:=
 II h.nod fun x hx=>(h.reach x hx).mem hid
theorem DfsJ.few {t:Tr} {id x:Nat×Nat} {S R:List (Nat×Nat)} {k:Nat} (h:DfsJ t id x S R k) (hid:id∈ids t):S.length≤(ids t).length:=
 II h.nod fun x hx=>(h.reach x hx).mem hid
theorem DfsJ.mem {t:Tr} {id x:Nat×Nat} {S R:List (Nat×Nat)} {k:Nat} (h:DfsJ t id x S R k) (hid:id∈ids t):x∈ids t:=by
 rcases h.cur with rfl|h1
 ·exact hid
 ·exact (h.reach x h1).mem hid
end Go.Proofs.YtmaokjojbjdpoaaGreatDoor
