/- Texts of one proof, laid together: G, H, D, T, F, FW, FN, FI, FP, FE, Q, B, MP, M, O, A, K, CP, VL, Y, V, RG, RF, RI, RD, OM, KP, RK, PP, OA, RQ, RP, RV, FD, CT. No condition. -/
import Derived.Test.YtmaokjojbjdpoaaGreatDoorWR1
import Derived.WalkKit
import Derived.WalkSpells
import Derived.WalkLawsBesides
import Derived.Maps.AppendAt
import Derived.Deep.AppendLies
import Derived.Deep.Draws
import Derived.Deep.QuietTactic
import Derived.BigQuiet
import Derived.Deep.RegionWith
import Derived.Deep.RegionHeld3
import Derived.Deep.DeepFit
import Derived.Deep.DeepMust
import Derived.Deep.Slices
import Derived.ProofKit
import Derived.Lib.SmallJoins
import Derived.Test.YtmaokjojbjdpoaaGreatDoorChecked
import Derived.RangeFuncNested
import Derived.RangeFuncBound
import Derived.RangeFuncCalls
import Derived.RangeFuncLeaves
import Derived.Shelf.Abstract
import Derived.Shelf.RegionOpen
import Derived.OwnWalkIn
import Derived.TacticsInMore
import Derived.LoopNIn
import Derived.LoopIn
import Derived.RangeFuncBox
import Derived.Laws.CopyRow
import Derived.Deep.RegionLaw
import Derived.KernelRfl
import Derived.Laws.MakeOwn
set_option linter.unusedSimpArgs false
set_option maxHeartbeats 4000000
set_option maxRecDepth 100000
namespace Go.Proofs.YtmaokjojbjdpoaaGreatDoor
open Go.RowKit
set_option linter.unusedVariables false

@[irreducible] def Hx (p:Prop):Prop:=p
theorem KA {p:Prop} (h:p):Hx p:=by unfold Hx;exact h
theorem Hx.out {p:Prop} (h:Hx p):p:=by unfold Hx at h;exact h

def UV {α:Type} (P:α→Value→Prop) (u:Value):Prop:=∃k,P k u
theorem UV.mk {α:Type} {P:α→Value→Prop} {u:Value} (k:α) (h:P k u):UV P u:=⟨k,h⟩
def Rel2 {α:Type} (P:α→Value→Value→Prop) (t i:Value):Prop:=∃k,P k t i
theorem Rel2.mk {α:Type} {P:α→Value→Value→Prop} {t i:Value} (k:α) (h:P k t i):Rel2 P t i:=⟨k,h⟩

theorem ZDi {a b:Bool} (h:a=b):Ending.returned (.bool a)=.returned (.bool b):=by rw[h]
def Ext (w w':World):Prop:=Below w.heap.size w w'
theorem Ext.refl (w:World):Ext w w:=Below.refl _ _
theorem Ext.trans {a b c:World} (h:Ext a b) (k:Ext b c):Ext a c:=Below.trans h (Below.mono k h.size)
theorem Ext.alloc {a w:World} (h:Ext a w) (o:Obj):Ext a (w.alloc o):=Below.alloc h h.size o
theorem Ext.drew {a w:World} (h:Ext a w):Ext a w.drew:=Below.drew h
theorem Ext.drewN {a w:World} (h:Ext a w) (n:Nat):Ext a (w.drewN n):=⟨h.os,h.tape,h.output,h.size,h.block⟩
theorem Ext.setCell {a w:World} (h:Ext a w) {p:Addr} (hp:a.heap.size≤p.block) (u:Value):Ext a (w.setCell p u):=Below.setCell h hp u
theorem Ext.size {a w:World} (h:Ext a w):a.heap.size≤w.heap.size:=Below.size h
theorem Ext.cellAt {a w:World} (h:Ext a w) {b o:Nat} {v:Value} (hc:a.cell? ⟨b,o,none⟩=some v):w.cell? ⟨b,o,none⟩=some v:=
 (Below.cell (p:=⟨b,o,none⟩) h (World.block_lt_of_cell? a _ hc)).trans hc
theorem Ext.cells {a w:World} (h:Ext a w):∀b o,b<a.heap.size→w.cell? ⟨b,o,none⟩=a.cell? ⟨b,o,none⟩:=fun b o hb=>Below.cell (p:=⟨b,o,none⟩) h hb
theorem Ext.grown {a w w':World} {row:Option Nat} (h:Ext a w) (hg:w.grownBy w' row) (hr:∀k,row=some k→a.heap.size≤k):Ext a w':=Below.grown h hg h.size hr
theorem Ext.below {a w:World} (h:Ext a w):Below a.heap.size a w:=h
theorem jB {w:World} {b o:Nat} {v:Value} (h:w.cell? ⟨b,o,none⟩=some v):b<w.heap.size:=World.block_lt_of_cell? w _ h

section
variable {α β:Type}
def SlR (size:Nat) (R:World→Nat→Nat→α→Prop) (w:World) (v:Value) (xs:List α):Prop:=
 ∃A c,v=.slice A xs.length c∧xs.length≤c∧c≤maxLen∧(0<xs.length→∃b off,A=some ⟨b,off,none⟩∧∀(j:Nat) (x:α),xs[j]? = some x→R w b (off+j*size) x)

def EU (R:World→Nat→Nat→α→Prop):Prop:=∀w w' b o x,Ext w w'→R w b o x→R w' b o x
theorem SlR.ext {size:Nat} {R:World→Nat→Nat→α→Prop} (hR:EU R) {w w':World} {v:Value} {xs:List α} (h:SlR size R w v xs) (he:Ext w w'):SlR size R w' v xs:=by
 obtain⟨A,c,hv,hl,hm,hc⟩:=h
 refine⟨A,c,hv,hl,hm,fun h0=>?_⟩
 obtain⟨b,off,hA,hj⟩:=hc h0
 exact⟨b,off,hA,fun j x hx=>hR _ _ _ _ _ he (hj j x hx)⟩
theorem SlR.nil (size:Nat) (R:World→Nat→Nat→α→Prop) (w:World):SlR size R w (.slice none 0 0) []:=⟨none,0,rfl,by simp,by simp[maxLen],by simp⟩

def One (enc:α→Value) (w:World) (b o:Nat) (x:α):Prop:=w.cell? ⟨b,o,none⟩=some (enc x)
theorem One.keeps (enc:α→Value):EU (One enc):=fun _ _ _ _ _ he h=>Ext.cellAt he h
def Sl (enc:α→Value) (w:World) (v:Value) (xs:List α):Prop:=SlR 1 (One enc) w v xs
theorem Sl.ext {enc:α→Value} {w w':World} {v:Value} {xs:List α} (h:Sl enc w v xs) (he:Ext w w'):Sl enc w' v xs:=SlR.ext (One.keeps enc) h he
theorem Sl.nil (enc:α→Value) (w:World):Sl enc w (.slice none 0 0) []:=SlR.nil _ _ _
theorem Sl.form {enc:α→Value} {w:World} {v:Value} {xs:List α} (h:Sl enc w v xs):∃A c,v=.slice A xs.length c∧xs.length≤c∧c≤maxLen∧(0<xs.length→∃b off,A=some ⟨b,off,none⟩∧b<w.heap.size ∧
  ∀(j:Nat) (hj:j<xs.length),w.cell? ⟨b,off+j,none⟩=some (enc xs[j])):=by
 obtain⟨A,c,hv,hl,hm,hc⟩:=h
 refine⟨A,c,hv,hl,hm,fun h0=>?_⟩
 obtain⟨b,off,hA,hj⟩:=hc h0
 have xF:∀(j:Nat) (hj:j<xs.length),w.cell? ⟨b,off+j,none⟩=some (enc xs[j]):=fun j hj'=>by
  have:=hj j xs[j] (ah hj')
  rwa [it]at this
 exact⟨b,off,hA,jB (xF 0 h0),xF⟩
theorem Sl.mk {enc:α→Value} {w:World} {A:Option Addr} {n c:Nat} {xs:List α} (hn:n=xs.length) (hl:n≤c) (hm:c≤maxLen)
  (h:0<n→∃b off,A=some ⟨b,off,none⟩∧∀(j:Nat) (hj:j<xs.length),w.cell? ⟨b,off+j,none⟩=some (enc xs[j])):Sl enc w (.slice A n c) xs:=by
 subst hn
 refine⟨A,c,rfl,hl,hm,fun h0=>?_⟩
 obtain⟨b,off,hA,hj⟩:=h h0
 refine⟨b,off,hA,fun j x hx=>?_⟩
 obtain⟨yA,rfl⟩:=am.1 hx
 rw[it]
 exact hj j yA
theorem Sl.take {enc:α→Value} {w:World} {A:Option Addr} {n c:Nat} {xs:List α} (h:Sl enc w (.slice A n c) xs) (k:Nat) (hk:k≤n):Sl enc w (.slice A k c) (xs.take k):=by
 obtain⟨A',c',hv,hl,hm,hc⟩:=h.form
 injection hv with hA hn hc';subst hA;subst hc';subst hn
 refine Sl.mk (by rw[bg];omega) oM hm (fun h0=>?_)
 obtain⟨b,off,hA,_,hj⟩:=hc oM
 exact⟨b,off,hA,fun j hj'=>by rw[List.getElem_take];exact hj j (by rw[bg]at hj';omega)⟩
theorem Sl.drop {enc:α→Value} {w:World} {A A':Option Addr} {n c:Nat} {xs:List α} (h:Sl enc w (.slice A n c) xs) (k:Nat) (hk:k≤n)
  (hA':∀b off,A=some ⟨b,off,none⟩→k<n→A'=some ⟨b,off+k,none⟩):Sl enc w (.slice A' (n-k) (c-k)) (xs.drop k):=by
 obtain⟨A0,c0,hv,hl,hm,hc⟩:=h.form
 injection hv with hA hn hc';subst hA;subst hc';subst hn
 refine Sl.mk (by rw[co]) oM oM (fun h0=>?_)
 obtain⟨b,off,hA,_,hj⟩:=hc oM
 refine⟨b,off+k,hA' b off hA oM,fun j hj'=>?_⟩
 have yA:k+j<xs.length:=by rw[co]at hj';omega
 rw[kb,cw]
 exact hj (k+j) yA
end

def Own {α:Type} (enc:α→Value) (e:TypeId) (w:World) (B:Nat) (v:Value) (xs:List α):Prop:=w.ownsRow B e 1 v xs.length (xs.map enc)
def Grw (w:World) (v:Value) (w':World) (v':Value):Prop:=w.grownBy w' v.ownBlock∧∀k,v'.ownBlock=some k→v.ownBlock=some k∨w.heap.size≤k

section
variable {α:Type} {enc:α→Value} {e:TypeId} {w w':World} {B:Nat} {v v':Value} {xs:List α}
theorem Grw.refl (w:World) (v:Value):Grw w v w v:=⟨World.grownBy.refl _ _,fun _ h=>.inl h⟩
theorem Grw.trans {w2:World} {v2:Value} (h:Grw w v w' v') (k:Grw w' v' w2 v2):Grw w v w2 v2:=by
 refine⟨⟨k.1.os.trans h.1.os,k.1.tape.trans h.1.tape,k.1.output.trans h.1.output,dq h.1.size k.1.size,fun i hi qG=>?_⟩,fun i hi=>?_⟩
 ·rw[k.1.block i (fe hi h.1.size) ?_,h.1.block i hi qG]
  intro he
  rcases h.2 i he.symm with h'|h'
  ·exact qG h'.symm
  ·omega
 ·rcases k.2 i hi with h'|h'
  ·exact h.2 i h'
  ·exact .inr (dq h.1.size h')
theorem Grw.alloc (h:Grw w v w' v') (o:Obj):Grw w v (w'.alloc o) v':=
 h.trans ⟨World.grownBy_alloc _ _ _,fun _ hk=>.inl hk⟩
theorem Grw.drew (h:Grw w v w' v'):Grw w v w'.drew v':=⟨⟨h.1.os,h.1.tape,h.1.output,h.1.size,h.1.block⟩,h.2⟩
theorem Grw.below (h:Grw w v w' v') (hv:∀k,v.ownBlock=some k→B≤k) (hB:B≤w.heap.size):Below B w w':=(Below.refl B w).grown h.1 hB hv
theorem Grw.ext (h:Grw w v w' v') (hv:v.ownBlock=none):Ext w w':=Grw.below h (fun k hk=>by rw[hv]at hk;cases hk) (ai _)
theorem Own.lt (h:Own enc e w B v xs):∀k,v.ownBlock=some k→B≤k∧k<w.heap.size:=World.ownsRow.lt h
theorem Own.nil (enc:α→Value) (e:TypeId) (w:World) (B:Nat):Own enc e w B (.slice none 0 0) []:=World.ownsRow_nil _ _ _ _
theorem Own.alloc (h:Own enc e w B v xs) (o:Obj):Own enc e (w.alloc o) B v xs:=World.ownsRow.alloc h o
theorem Own.drew (h:Own enc e w B v xs):Own enc e w.drew B v xs:=h
theorem Own.drewN (h:Own enc e w B v xs) (n:Nat):Own enc e (w.drewN n) B v xs:=h
theorem Own.ext (h:Own enc e w B v xs) (he:Ext w w'):Own enc e w' B v xs:=
 World.ownsRow.kept (row:=none) h ⟨he.os,he.tape,he.output,he.size,fun k hk _=>he.block k hk⟩ (by cases v.ownBlock<;>simp)
theorem Own.kept (h:Own enc e w B v xs) {row:Option Nat} (hg:w.grownBy w' row) (qG:v.ownBlock=none∨v.ownBlock≠row):Own enc e w' B v xs:=World.ownsRow.kept h hg qG
theorem Own.mono {B':Nat} (h:Own enc e w B v xs) (hB:B'≤B):Own enc e w B' v xs:=by
 obtain⟨h1,h2⟩:=h
 refine⟨h1,?_⟩
 rcases h2 with h2|⟨g,cap,cur,hv,hb,rest⟩
 ·exact .inl h2
 ·exact .inr ⟨g,cap,cur,hv,dq hB hb,rest⟩
theorem Own.sl (h:Own enc e w B v xs):Sl enc w v xs:=by
 rcases h.2 with ⟨hv,hn⟩|⟨g,cap,cur,hv,hb,hg,hnc,EM,TY,ht⟩
 ·have hx:xs=[]:=cq hn
  subst hx;subst hv
  exact Sl.nil _ _
 ·subst hv
  refine Sl.mk rfl hnc EM (fun _=>⟨g,0,rfl,fun j hj=>?_⟩)
  have:=World.ownsRow.cells h (g:=g) rfl j (enc xs[j]) (by simp[ah hj])
  have e0:(⟨g,0,none⟩:Addr).add j=⟨g,0+j,none⟩:=by unfold Addr.add;split<;>simp_all
  rwa [e0]at this
theorem Own.form (h:Own enc e w B v xs):∃A c,v=.slice A xs.length c∧xs.length≤c∧c≤maxLen:=by
 obtain⟨A,c,hv,hl,hm,_⟩:=h.sl
 exact⟨A,c,hv,hl,hm⟩
theorem Own.made (w:World) (cs:Array Value) (hB:B≤w.heap.size) (hm:xs.length≤maxLen) (hc:cs=(xs.map enc).toArray) :
  Own enc e (w.alloc (.cells cs e)) B (.slice (some ⟨w.heap.size,0,none⟩) xs.length xs.length) xs:=by
 subst hc
 refine⟨by simp,.inr ⟨w.heap.size,xs.length,_,rfl,hB,heap_alloc_new w _,ai _,hm,by simp,?_⟩⟩
 rw[it]
 exact bo kS
end

theorem Sl.made {α:Type} {enc:α→Value} (e:TypeId) (w:World) {cs:Array Value} {n:Nat} (xs:List α) (hn:n=xs.length) (hm:n≤maxLen) (hc:cs=(xs.map enc).toArray) :
  Sl enc (w.alloc (.cells cs e)) (.slice (some ⟨w.heap.size,0,none⟩) n n) xs:=by
 subst hn
 exact (Own.made (B:=0) w cs (aj _) hm hc).sl

theorem Ext.more {a w w':World} (h:Ext a w) (k:Below a.heap.size w w'):Ext a w':=Below.trans h k
def byt (x:UInt8):Value:=.int .u8 (x.toNat:Int)
theorem Sl.drewN {α:Type} {enc:α→Value} {w:World} {v:Value} {xs:List α} (h:Sl enc w v xs) (n:Nat):Sl enc (w.drewN n) v xs:=h.ext ((Ext.refl w).drewN n)

section
variable {P:Program} {α:Type} {enc:α→Value} {w:World} {A:Option Addr} {n c:Nat} {xs:List α}
theorem Sl.len {v:Value} (h:Sl enc w v xs):∃A c,v=.slice A xs.length c:=by obtain⟨A,c,hv,_⟩:=h.form;exact⟨A,c,hv⟩
end
theorem ZBG (n k:Nat) (kI:Int) (hk:kI=k) (h:n+k≤9223372036854775807):IntKind.i64.wrap ((n:Int)+kI)=(n:Int)+kI∧((n:Int)+kI).toNat=n+k∧0≤(n:Int)+kI:=by
 subst hk
 refine⟨?_,by omega,by omega⟩
 rw[IntKind.wrap_i64];omega
end Go.Proofs.YtmaokjojbjdpoaaGreatDoor
namespace Go.Proofs.YtmaokjojbjdpoaaGreatDoor
open Go.RowKit Go.ChangeShapes Go.WideShapes Go.Deep
set_option linter.unusedVariables false

theorem ZAf {α:Type} {p:Nat→α→Prop}:∀n:Nat,(∀i,i<n→∃x,p i x)→∃xs:List α,xs.length=n∧∀(j:Nat) (x:α),xs[j]? = some x→p j x
 |0,_=>⟨[],rfl,fun j x h=>by simp at h⟩
 |n+1,h=>by
   obtain⟨xs,hl,hx⟩:=ZAf n (fun i hi=>h i (kc hi))
   obtain⟨y,hy⟩:=h n (ke n)
   refine⟨xs++[y],by simp[hl],fun j x hj=>?_⟩
   rcases bp j n with yA|yH
   ·rw[aw oM]at hj;exact hx j x hj
   ·rw[aq oM]at hj
    rcases Nat.eq_or_lt_of_le yH with he|hgt
    ·subst he
     rw[hl,dy]at hj
     simp at hj
     subst hj;exact hy
    ·rw[cg (by simp;omega)]at hj;cases hj

theorem ZBM {w:World} {x:Addr} {v:Value} (h:w.cell? x=some v):x.spot=none:=by
 unfold World.cell? at h
 split at h
 ·split at h
  ·cases h
  ·rename_i hs;simpa using hs
 ·cases h

section
variable {α:Type}
def TRV (P:Program) (e:TypeId) (V:World→Value→α→Prop):Prop:=
 ∀(H:Type) (enc:TypeId×Value→H) (w:World) (base:Nat) (spare:Nat→Bool) (held:Bool) (fuel:Nat) (v:Value) (x:DataW H×List MemPlace),DataW.trod enc P w base spare held fuel e [v]=some x→∃y,V w v y
def TRR (P:Program) (e:TypeId) (size:Nat) (R:World→Nat→Nat→α→Prop):Prop:=
 ∀(H:Type) (enc:TypeId×Value→H) (w:World) (base:Nat) (spare:Nat→Bool) (held:Bool) (fuel:Nat) (b o:Nat) (cs:List Value) (x:DataW H×List MemPlace),cs.length=size →
  (∀j (hj:j<cs.length),w.cell? ⟨b,o+j,none⟩=some cs[j])→DataW.trod enc P w base spare held fuel e cs=some x→∃y,R w b o y
theorem TRV.mono {P:Program} {e:TypeId} {V V':World→Value→α→Prop} (h:TRV P e V) (hv:∀w v y,V w v y→V' w v y):TRV P e V':=
 fun H enc w base spare held fuel v x hx=>let ⟨y,hy⟩:=h H enc w base spare held fuel v x hx;⟨y,hv _ _ _ hy⟩
theorem TRV.cell {P:Program} {e:TypeId} {V:World→Value→α→Prop} (h:TRV P e V):TRR P e 1 (fun w b o y=>∃v,w.cell? ⟨b,o,none⟩=some v∧V w v y):=by
 intro H enc w base spare held fuel b o cs x hl hc hx
 match cs,hl with
 |[v],_ =>
   obtain⟨y,hy⟩:=h H enc w base spare held fuel v x hx
   exact⟨y,v,by simpa using hc 0 kS,hy⟩
theorem TRR.mono {P:Program} {e:TypeId} {size:Nat} {R R':World→Nat→Nat→α→Prop} (h:TRR P e size R) (hr:∀w b o y,R w b o y→R' w b o y):TRR P e size R':=
 fun H enc w base spare held fuel b o cs x hl hc hx=>let ⟨y,hy⟩:=h H enc w base spare held fuel b o cs x hl hc hx;⟨y,hr _ _ _ _ hy⟩
end

theorem SlR.mono {α:Type} {size:Nat} {R R':World→Nat→Nat→α→Prop} {w:World} {v:Value} {xs:List α} (h:SlR size R w v xs) (hr:∀b o y,R w b o y→R' w b o y):SlR size R' w v xs:=by
 obtain⟨A,c,hv,hl,hm,hc⟩:=h
 refine⟨A,c,hv,hl,hm,fun h0=>?_⟩
 obtain⟨b,off,hA,hj⟩:=hc h0
 exact⟨b,off,hA,fun j x hx=>hr _ _ _ (hj j x hx)⟩
end Go.Proofs.YtmaokjojbjdpoaaGreatDoor
namespace Go.Proofs.YtmaokjojbjdpoaaGreatDoor
open Go.RowKit
set_option linter.unusedVariables false

structure Asg where
 v:Int
 val:Int
structure Ev where
 kind:Int
 peer:Int
 msg:Int
 time:Int
 asg:List Asg
structure Vr where
 name:ByteArray
 init:Int
structure Pr where
 name:ByteArray
 vars:List Vr
 evs:List Ev
abbrev Tr:=List Pr

def RAsg (w:World) (b o:Nat) (x:Asg):Prop:=w.cell? ⟨b,o,none⟩=some (.int .i64 x.v)∧w.cell? ⟨b,o+1,none⟩=some (.int .i64 x.val)
def RVr (w:World) (b o:Nat) (x:Vr):Prop:=w.cell? ⟨b,o,none⟩=some (.string x.name)∧w.cell? ⟨b,o+1,none⟩=some (.int .i64 x.init)∧x.name.size≤maxLen
def REv (w:World) (b o:Nat) (x:Ev):Prop:=
 w.cell? ⟨b,o,none⟩=some (.int .i64 x.kind)∧w.cell? ⟨b,o+1,none⟩=some (.int .i64 x.peer)∧w.cell? ⟨b,o+2,none⟩=some (.int .i64 x.msg)∧w.cell? ⟨b,o+3,none⟩=some (.int .i64 x.time) ∧
  ∃v,w.cell? ⟨b,o+4,none⟩=some v∧SlR 2 RAsg w v x.asg
def RPr (w:World) (b o:Nat) (x:Pr):Prop:=
 (w.cell? ⟨b,o,none⟩=some (.string x.name)∧x.name.size≤maxLen)∧(∃v,w.cell? ⟨b,o+1,none⟩=some v∧SlR 2 RVr w v x.vars)∧∃v,w.cell? ⟨b,o+2,none⟩=some v∧SlR 5 REv w v x.evs
def VTr (w:World) (v:Value) (t:Tr):Prop:=∃u,v=.agg #[u]∧SlR 3 RPr w u t
theorem RAsg.keeps:EU RAsg:=fun _ _ _ _ _ he ⟨h1,h2⟩=>⟨he.cellAt h1,he.cellAt h2⟩
theorem RVr.keeps:EU RVr:=fun _ _ _ _ _ he ⟨h1,h2,h3⟩=>⟨he.cellAt h1,he.cellAt h2,h3⟩
theorem REv.keeps:EU REv:=fun _ _ _ _ _ he ⟨h1,h2,h3,h4,v,h5,h6⟩=>⟨he.cellAt h1,he.cellAt h2,he.cellAt h3,he.cellAt h4,v,he.cellAt h5,h6.ext RAsg.keeps he⟩
theorem RPr.keeps:EU RPr:=fun _ _ _ _ _ he ⟨⟨h1,h2⟩,⟨v,h3,h4⟩,u,h5,h6⟩=>⟨⟨he.cellAt h1,h2⟩,⟨v,he.cellAt h3,h4.ext RVr.keeps he⟩,u,he.cellAt h5,h6.ext REv.keeps he⟩
theorem VTr.ext {w w':World} {v:Value} {t:Tr} (h:VTr w v t) (he:Ext w w'):VTr w' v t:=by
 obtain⟨u,hv,hs⟩:=h
 exact⟨u,hv,hs.ext RPr.keeps he⟩

theorem SlR.at_ {α:Type} {size:Nat} {R:World→Nat→Nat→α→Prop} {w:World} {v:Value} {xs:List α} (h:SlR size R w v xs):∃A c,v=.slice A xs.length c∧xs.length≤c∧c≤maxLen∧(0<xs.length→∃b off,A=some ⟨b,off,none⟩∧∀(k:Nat) (hk:k<xs.length),R w b (off+k*size) xs[k]):=by
 obtain⟨A,c,hv,hl,hm,hc⟩:=h
 refine⟨A,c,hv,hl,hm,fun h0=>?_⟩
 obtain⟨b,off,hA,hj⟩:=hc h0
 exact⟨b,off,hA,fun k hk=>hj k _ (ah hk)⟩
end Go.Proofs.YtmaokjojbjdpoaaGreatDoor
namespace Go.Proofs.YtmaokjojbjdpoaaGreatDoor
set_option linter.unusedVariables false

def letterB (c:UInt8):Bool:=(decide ((97:Int)≤(c.toNat:Int))&&decide ((c.toNat:Int)≤122))||(decide ((65:Int)≤(c.toNat:Int))&&decide ((c.toNat:Int)≤90))
def digitB (c:UInt8):Bool:=decide ((48:Int)≤(c.toNat:Int))&&decide ((c.toNat:Int)≤57)
def ZH (c:UInt8):Bool:=letterB c||digitB c||(c.toNat:Int)==95
def UY (l:List UInt8):Bool:=decide (1≤l.length)&&decide (l.length≤16)&&letterB (l.getD 0 0)&&l.all ZH
def eD (s:ByteArray):Bool:=UY s.data.toList
def QL (n:Int):Bool:=decide (-1073741824≤n)&&decide (n≤1073741824)
def inB (x lo hi:Int):Bool:=decide (lo≤x)&&decide (x≤hi)

def sB (f:Nat→Nat):Nat→Nat
 |0=>0
 |n+1=>if sB f n=0 then f n else sB f n
theorem EG {f:Nat→Nat}:∀{n:Nat},sB f n=0↔∀i,i<n→f i=0
 |0=>by simp[sB]
 |n+1=>by
   rw[sB]
   split
   ·rename_i h
    have:=(EG (n:=n)).1 h
    constructor
    ·intro h2 i hi
     rcases jb.1 hi with h3|rfl
     ·exact this i h3
     ·exact h2
    ·intro h2;exact h2 n (ke n)
   ·rename_i h
    constructor
    ·intro h2;exact absurd h2 h
    ·intro h2;exact absurd ((EG (n:=n)).2 fun i hi=>h2 i (kc hi)) h
theorem RC {f:Nat→Nat} {k:Nat} (h0:sB f k=0) (hk:f k≠0):∀{n:Nat},k<n→sB f n=f k
 |0,h=>absurd h (gx _)
 |n+1,h=>by
   rcases jb.1 h with h1|rfl
   ·have:=RC h0 hk h1
    rw[sB,if_neg (by rw[this];exact hk),this]
   ·rw[sB,if_pos h0]
theorem CG {f:Nat→Nat} {k:Nat} (h0:sB f k=0) (hk:f k=0):sB f (k+1)=0:=by rw[sB,if_pos h0];exact hk

def EO:Vr:=⟨ByteArray.empty,0⟩
def FU:Asg:=⟨0,0⟩
def PI:Ev:=⟨0,0,0,0,[]⟩
def dfPr:Pr:=⟨ByteArray.empty,[],[]⟩

def jN (vs:List Vr) (i:Nat):Nat:=
 if !eD (vs.getD i EO).name||(vs.take i).any (fun y=>y.name.toList==(vs.getD i EO).name.toList) then 13
 else if !QL (vs.getD i EO).init then 2 else 0
def CC (t:Tr) (p:Nat):Nat:=
 if !eD (t.getD p dfPr).name||(t.take p).any (fun y=>y.name.toList==(t.getD p dfPr).name.toList) then 13
 else if 8<(t.getD p dfPr).vars.length then 5
 else if sB (jN (t.getD p dfPr).vars) (t.getD p dfPr).vars.length≠0 then sB (jN (t.getD p dfPr).vars) (t.getD p dfPr).vars.length
 else if 64<(t.getD p dfPr).evs.length then 5 else 0

def gJ (nv:Nat) (l:List Asg) (k:Nat):Nat:=
 if !(inB (l.getD k FU).v 0 ((nv:Int)-1))||!QL (l.getD k FU).val then 2
 else if (l.take k).any (fun b=>b.v==(l.getD k FU).v) then 8 else 0
def JB (np p:Nat) (e:Ev):Bool:=
 if e.kind==1 then e.peer==0&&e.msg==0
 else if e.kind==2||e.kind==3 then inB e.peer 0 ((np:Int)-1)&&e.peer != (p:Int)&&inB e.msg 0 199 else false
def nA (t:Tr) (p:Nat):List Ev:=(t.getD p dfPr).evs
def uA (t:Tr) (x:Nat×Nat):Ev:=(nA t x.1).getD (x.2-1) PI
def xI (t:Tr) (x:Nat×Nat):Int:=if 1<x.2 then ((nA t x.1).getD (x.2-2) PI).time else 0
def eC (t:Tr) (x:Nat×Nat):Nat:=
 if !JB t.length x.1 (uA t x) then 3
 else if !(inB (uA t x).time 0 1099511627776)||decide ((uA t x).time<xI t x) then 11
 else if 8<(uA t x).asg.length then 5
 else sB (gJ (t.getD x.1 dfPr).vars.length (uA t x).asg) (uA t x).asg.length

def pN (t:Tr) (p:Nat):List (Nat×Nat):=(List.range (nA t p).length).map fun i=>(p,i+1)
def ids (t:Tr):List (Nat×Nat):=(List.range t.length).flatMap (pN t)

def TC (t:Tr) (kind msg:Int):Option (Nat×Nat):=(ids t).find? fun x=>(uA t x).kind==kind&&(uA t x).msg==msg
def sendsB (t:Tr) (p:Nat) (m:Int) (to:Int):Bool:=(nA t p).any fun e=>e.kind==2&&e.msg==m&&e.peer==to
def KD (t:Tr) (x:Nat×Nat):Nat:=
 if (uA t x).kind==2 then (if TC t 2 (uA t x).msg==some x then 0 else 8)
 else if (uA t x).kind==3 then
  (if TC t 3 (uA t x).msg==some x then (if sendsB t (uA t x).peer.toNat (uA t x).msg x.1 then 0 else 7) else 8)
 else 0

def Dir (t:Tr) (x y:Nat×Nat):Prop:=
 (y=(x.1,x.2+1)∧x.2<(nA t x.1).length)∨((uA t x).kind=2∧TC t 3 (uA t x).msg=some y)
inductive Hb (t:Tr):Nat×Nat→Nat×Nat→Prop
 |one {x y:Nat×Nat}:Dir t x y→Hb t x y
 |more {x y z:Nat×Nat}:Hb t x y→Dir t y z→Hb t x z

open Classical in
noncomputable def RE (t:Tr):(Nat×Nat)×Nat:=
 if t.length<1∨8<t.length then ((0,0),1)
 else match (List.range t.length).find? (fun p=>CC t p != 0) with
  |some p=>((p,0),CC t p)
  |none=>match (ids t).find? (fun x=>eC t x != 0) with
    |some x=>(x,eC t x)
    |none=>match (ids t).find? (fun x=>KD t x != 0) with
      |some x=>(x,KD t x)
      |none=>match (ids t).find? (fun x=>decide (Hb t x x)) with
        |some x=>(x,10)
        |none=>((0,0),0)
noncomputable def ID (t:Tr):Bool:=(RE t).2==0
open Go.RowKit

theorem RL (x lo hi:Int) (w:World):Calls Tryz.prog 86 #[.int .i64 x,.int .i64 lo,.int .i64 hi] w fun e w'=>e=.returned (.bool (inB x lo hi))∧w=w':=by
 have hc:((decide (lo≤x))=false)∨((decide (lo≤x))=true∧(decide (x≤hi))=false)∨((decide (lo≤x))=true∧(decide (x≤hi))=true):=by
  cases hc0:(decide (lo≤x))<;>cases TI:(decide (x≤hi))<;>simp
 rcases hc with TI|⟨TI,YS⟩|⟨TI,YS⟩
 all_goals
  go_enter Tryz.func86,Tryz.ntmps86
  go_wp2
  all_goals
   go_ret
   exact⟨by simp[inB, *],rfl⟩

theorem SS (c:UInt8) (w:World):Calls Tryz.prog 186 #[byt c] w fun e w'=>e=.returned (.bool (letterB c))∧w=w':=by
 unfold byt
 have hc:((decide ((97:Int)≤(c.toNat:Int)))=true∧(decide ((c.toNat:Int)≤122))=true)∨((decide ((97:Int)≤(c.toNat:Int)))=false∧(decide ((65:Int)≤(c.toNat:Int)))=true∧(decide ((c.toNat:Int)≤90))=true)∨((decide ((97:Int)≤(c.toNat:Int)))=true∧(decide ((c.toNat:Int)≤122))=false∧(decide ((65:Int)≤(c.toNat:Int)))=true∧(decide ((c.toNat:Int)≤90))=true)∨((decide ((97:Int)≤(c.toNat:Int)))=false∧(decide ((65:Int)≤(c.toNat:Int)))=false)∨((decide ((97:Int)≤(c.toNat:Int)))=false∧(decide ((65:Int)≤(c.toNat:Int)))=true∧(decide ((c.toNat:Int)≤90))=false)∨((decide ((97:Int)≤(c.toNat:Int)))=true∧(decide ((c.toNat:Int)≤122))=false∧(decide ((65:Int)≤(c.toNat:Int)))=false)∨((decide ((97:Int)≤(c.toNat:Int)))=true∧(decide ((c.toNat:Int)≤122))=false∧(decide ((65:Int)≤(c.toNat:Int)))=true∧(decide ((c.toNat:Int)≤90))=false):=by
  cases hc0:(decide ((97:Int)≤(c.toNat:Int)))<;>cases TI:(decide ((c.toNat:Int)≤122))<;>cases YS:(decide ((65:Int)≤(c.toNat:Int)))<;>cases kY:(decide ((c.toNat:Int)≤90))<;>simp
 rcases hc with ⟨TI,YS⟩|⟨TI,YS,kY⟩|⟨TI,YS,kY,hc4⟩|⟨TI,YS⟩|⟨TI,YS,kY⟩|⟨TI,YS,kY⟩|⟨TI,YS,kY,hc4⟩
 all_goals
  go_enter Tryz.func186,Tryz.ntmps186
  go_wp2
  all_goals
   go_ret
   exact⟨by simp[letterB, *],rfl⟩

theorem ZCA (c:UInt8) (w:World):Calls Tryz.prog 187 #[byt c] w fun e w'=>e=.returned (.bool (digitB c))∧w=w':=by
 unfold byt
 have hc:((decide ((48:Int)≤(c.toNat:Int)))=false)∨((decide ((48:Int)≤(c.toNat:Int)))=true∧(decide ((c.toNat:Int)≤57))=false)∨((decide ((48:Int)≤(c.toNat:Int)))=true∧(decide ((c.toNat:Int)≤57))=true):=by
  cases hc0:(decide ((48:Int)≤(c.toNat:Int)))<;>cases TI:(decide ((c.toNat:Int)≤57))<;>simp
 rcases hc with TI|⟨TI,YS⟩|⟨TI,YS⟩
 all_goals
  go_enter Tryz.func187,Tryz.ntmps187
  go_wp2
  all_goals
   go_ret
   exact⟨by simp[digitB, *],rfl⟩

theorem jQ (c:UInt8) (w:World):Calls Tryz.prog 175 #[byt c] w fun e w'=>e=.returned (.bool (letterB c))∧w=w':=by
 unfold byt
 have hc:((decide ((65:Int)≤(c.toNat:Int)))=true∧(decide ((c.toNat:Int)≤90))=true)∨((decide ((65:Int)≤(c.toNat:Int)))=false∧(decide ((97:Int)≤(c.toNat:Int)))=true∧(decide ((c.toNat:Int)≤122))=true)∨((decide ((65:Int)≤(c.toNat:Int)))=true∧(decide ((c.toNat:Int)≤90))=false∧(decide ((97:Int)≤(c.toNat:Int)))=true∧(decide ((c.toNat:Int)≤122))=true)∨((decide ((65:Int)≤(c.toNat:Int)))=false∧(decide ((97:Int)≤(c.toNat:Int)))=false)∨((decide ((65:Int)≤(c.toNat:Int)))=false∧(decide ((97:Int)≤(c.toNat:Int)))=true∧(decide ((c.toNat:Int)≤122))=false)∨((decide ((65:Int)≤(c.toNat:Int)))=true∧(decide ((c.toNat:Int)≤90))=false∧(decide ((97:Int)≤(c.toNat:Int)))=false)∨((decide ((65:Int)≤(c.toNat:Int)))=true∧(decide ((c.toNat:Int)≤90))=false∧(decide ((97:Int)≤(c.toNat:Int)))=true∧(decide ((c.toNat:Int)≤122))=false):=by
  cases hc0:(decide ((65:Int)≤(c.toNat:Int)))<;>cases TI:(decide ((c.toNat:Int)≤90))<;>cases YS:(decide ((97:Int)≤(c.toNat:Int)))<;>cases kY:(decide ((c.toNat:Int)≤122))<;>simp
 rcases hc with ⟨TI,YS⟩|⟨TI,YS,kY⟩|⟨TI,YS,kY,hc4⟩|⟨TI,YS⟩|⟨TI,YS,kY⟩|⟨TI,YS,kY⟩|⟨TI,YS,kY,hc4⟩
 all_goals
  go_enter Tryz.func175,Tryz.ntmps175
  go_wp2
  all_goals
   go_ret
   exact⟨by simp[letterB, *],rfl⟩

theorem E5 (c:UInt8) (w:World):Calls Tryz.prog 176 #[byt c] w fun e w'=>e=.returned (.bool (digitB c))∧w=w':=by
 unfold byt
 have hc:((decide ((48:Int)≤(c.toNat:Int)))=false)∨((decide ((48:Int)≤(c.toNat:Int)))=true∧(decide ((c.toNat:Int)≤57))=false)∨((decide ((48:Int)≤(c.toNat:Int)))=true∧(decide ((c.toNat:Int)≤57))=true):=by
  cases hc0:(decide ((48:Int)≤(c.toNat:Int)))<;>cases TI:(decide ((c.toNat:Int)≤57))<;>simp
 rcases hc with TI|⟨TI,YS⟩|⟨TI,YS⟩
 all_goals
  go_enter Tryz.func176,Tryz.ntmps176
  go_wp2
  all_goals
   go_ret
   exact⟨by simp[digitB, *],rfl⟩


theorem Y1 (s:ByteArray) (k:Nat) (h:k<s.size):s.data.toList.getD k 0=s[k]:=by
 simp[List.getD,ah (show k<s.data.toList.length from h)];rfl
theorem ZD9 (s:ByteArray) (k:Nat) (h:k<s.size):s.data.toList.take (k+1)=s.data.toList.take k++[s[k]]:=by
 rw[jh (by simpa using h)];rfl
theorem ZGb (s:ByteArray) (k:Nat) (h:k<s.size):s[k]∈s.data.toList:=by
 have:s[k]=s.data.toList[k]'(by simpa using h):=rfl
 rw[this];exact ak _
theorem sV (s:ByteArray):s.toList.isEmpty=decide (s.size=0):=by
 rw[ByteArray.toList_eq]
 cases h:s.data.toList with
 | nil => have h2 : s.data.toList.length = 0 := by rw [h]; rfl
          have:s.size=0:=by simpa using h2
          simp[this]
 | cons a l => have h2 : s.data.toList.length = l.length + 1 := by rw [h]; rfl
               have:s.size=l.length+1:=by simpa using h2
               simp[this]
theorem DM {s:ByteArray} (h:¬(1≤s.size∧s.size≤16)):eD s=false:=by
 unfold eD UY
 have e:s.data.toList.length=s.size:=rfl
 rw[e]
 rcases bp s.size 1 with h1|h1
 ·rw[ag oM];simp
 ·rw[ae h1,ag oM];simp
theorem WS {s:ByteArray} (h0:0<s.size) (h:letterB s[0]=false):eD s=false:=by
 unfold eD UY;rw[Y1 s 0 h0,h];simp
theorem GS {s:ByteArray} {k:Nat} (hk:k<s.size) (h:ZH s[k]=false):eD s=false:=by
 unfold eD UY
 have:s.data.toList.all ZH=false:=by
  rw[ew]
  exact⟨_,ZGb s k hk,by rw[h];simp⟩
 rw[this];simp
theorem OV {s:ByteArray} (h0:0<s.size) (h1:s.size≤16) (hl:letterB s[0]=true) (h:(s.data.toList.take s.size).all ZH=true):eD s=true:=by
 unfold eD UY
 have e:s.data.toList.length=s.size:=rfl
 rw[bo (Nat.le_of_eq e)]at h
 rw[e,Y1 s 0 h0,hl,h,ae oM,ae h1];rfl
theorem QJ {s:ByteArray} {k:Nat} (hk:k<s.size) (h:(s.data.toList.take k).all ZH=true) (hc:ZH s[k]=true):(s.data.toList.take (k+1)).all ZH=true:=by
 rw[ZD9 s k hk,List.all_append,h];simp[hc]
theorem nZ {c:UInt8} (h:letterB c=true):ZH c=true:=by simp[ZH,h]

theorem NS (s:ByteArray) (w:World) (hm:s.size≤maxLen):Calls Tryz.prog 166 #[.string s] w fun e w'=>e=.returned (.bool (eD s))∧w=w':=by
 unfold maxLen at hm
 have he:=sV s
 by_cases h0:0<s.size
 ·have he0:s.toList.isEmpty=false:=by rw[he,ag oM]
  have ZKM:decide ((s.size:Int)<1)=false:=by simp;omega
  clear he
  by_cases h16:s.size≤16
  ·have hd:decide ((16:Int)<(s.size:Int))=false:=by simp;omega
   have HL:=KA (fun w=>SS s[0] w)
   cases hl:letterB s[0]
   ·rw[hl]at HL
    have E:=KA (WS h0 hl)
    clear hl
    go_enter Tryz.func166,Tryz.ntmps166
    go_wp2_with fail
    refine (HL.out _).mono ?_
    rintro e w1 ⟨rfl,rfl⟩
    go_wp2_with fail
    go_ret
    exact⟨by rw[E.out];rfl,rfl⟩
   ·rw[hl]at HL
    have HL0:=KA hl
    go_enter Tryz.func166,Tryz.ntmps166
    go_wp2_with fail
    refine (HL.out _).mono ?_
    rintro e w1 ⟨rfl,rfl⟩
    clear hl
    go_wp2_with fail
    go_loop [19] (UV fun (k:Nat) i=>k≤s.size∧i=.int .i64 k∧(s.data.toList.take k).all ZH=true) (fun i=>s.size-(intOf i).toNat)
    case atStart=>exact UV.mk 0 ⟨aj _,rfl,rfl⟩
    case round =>
     obtain⟨k,hk,rfl,xF⟩:=hrel
     have HALL:=KA xF
     clear xF
     by_cases yA:k<s.size
     ·have H1:=KA (fun w=>SS s[k] w)
      have H2:=KA (fun w=>ZCA s[k] w)
      have hc:(Hx (letterB s[k]=true)∧Hx (ZH s[k]=true))∨(Hx (letterB s[k]=false)∧Hx (digitB s[k]=true)∧Hx (ZH s[k]=true))∨(Hx (letterB s[k]=false)∧Hx (digitB s[k]=false)∧(((s[k].toNat:Int) != 95))=false∧Hx (ZH s[k]=true))∨(Hx (letterB s[k]=false)∧Hx (digitB s[k]=false)∧(((s[k].toNat:Int) != 95))=true∧Hx (ZH s[k]=false)):=by
       unfold Hx ZH
       cases letterB s[k]<;>cases digitB s[k]<;>cases hz:((s[k].toNat:Int) != 95)<;>simp_all
      rcases hc with ⟨q0,qr⟩|⟨q0,q1,qr⟩|⟨q0,q1,q2,qr⟩|⟨q0,q1,q2,qr⟩
      ·go_wp2_with fail
       refine (H1.out _).mono ?_
       rintro e w1 ⟨rfl,rfl⟩
       rw[q0.out]
       go_wp2_with fail
       go_round
       case rel=>exact UV.mk (k+1) ⟨yA,by go_num,QJ yA HALL.out qr.out⟩
       case measure=>simp[intOf];omega
      ·go_wp2_with fail
       refine (H1.out _).mono ?_
       rintro e w1 ⟨rfl,rfl⟩
       rw[q0.out]
       go_wp2_with fail
       refine (H2.out _).mono ?_
       rintro e w1 ⟨rfl,rfl⟩
       rw[q1.out]
       go_wp2_with fail
       go_round
       case rel=>exact UV.mk (k+1) ⟨yA,by go_num,QJ yA HALL.out qr.out⟩
       case measure=>simp[intOf];omega
      ·go_wp2_with fail
       refine (H1.out _).mono ?_
       rintro e w1 ⟨rfl,rfl⟩
       rw[q0.out]
       go_wp2_with fail
       refine (H2.out _).mono ?_
       rintro e w1 ⟨rfl,rfl⟩
       rw[q1.out]
       go_wp2_with fail
       go_round
       case rel=>exact UV.mk (k+1) ⟨yA,by go_num,QJ yA HALL.out qr.out⟩
       case measure=>simp[intOf];omega
      ·go_wp2_with fail
       refine (H1.out _).mono ?_
       rintro e w1 ⟨rfl,rfl⟩
       rw[q0.out]
       go_wp2_with fail
       refine (H2.out _).mono ?_
       rintro e w1 ⟨rfl,rfl⟩
       rw[q1.out]
       go_wp2_with fail
       go_ret
       exact⟨by rw[GS yA qr.out];rfl,rfl⟩
     ·obtain rfl:k=s.size:=by omega
      have E:=KA (OV h0 h16 HL0.out HALL.out)
      go_wp2_with fail
      go_ret
      exact⟨by rw[E.out];rfl,rfl⟩
  ·have hd:decide ((16:Int)<(s.size:Int))=true:=by simp;omega
   have E:=KA (DM (s:=s) oM)
   go_enter Tryz.func166,Tryz.ntmps166
   go_wp2_with fail
   go_ret
   exact⟨by rw[E.out];rfl,rfl⟩
 ·have he0:s.toList.isEmpty=true:=by rw[he,ae oM]
  have ZKM:decide ((s.size:Int)<1)=true:=by simp;omega
  clear he
  have E:=KA (DM (s:=s) oM)
  go_enter Tryz.func166,Tryz.ntmps166
  go_wp2_with fail
  go_ret
  exact⟨by rw[E.out];rfl,rfl⟩

theorem ZBX (s:ByteArray) (w:World) (hm:s.size≤maxLen):Calls Tryz.prog 144 #[.string s] w fun e w'=>e=.returned (.bool (eD s))∧w=w':=by
 unfold maxLen at hm
 have he:=sV s
 by_cases h0:0<s.size
 ·have he0:s.toList.isEmpty=false:=by rw[he,ag oM]
  have ZKM:decide ((s.size:Int)<1)=false:=by simp;omega
  clear he
  by_cases h16:s.size≤16
  ·have hd:decide ((16:Int)<(s.size:Int))=false:=by simp;omega
   have HL:=KA (fun w=>jQ s[0] w)
   cases hl:letterB s[0]
   ·rw[hl]at HL
    have E:=KA (WS h0 hl)
    clear hl
    go_enter Tryz.func144,Tryz.ntmps144
    go_wp2_with fail
    refine (HL.out _).mono ?_
    rintro e w1 ⟨rfl,rfl⟩
    go_wp2_with fail
    go_ret
    exact⟨by rw[E.out];rfl,rfl⟩
   ·rw[hl]at HL
    have HL0:=KA hl
    go_enter Tryz.func144,Tryz.ntmps144
    go_wp2_with fail
    refine (HL.out _).mono ?_
    rintro e w1 ⟨rfl,rfl⟩
    clear hl
    go_wp2_with fail
    go_loop [3] (UV fun (k:Nat) i=>k≤s.size∧i=.int .i64 k∧(s.data.toList.take k).all ZH=true) (fun i=>s.size-(intOf i).toNat)
    case atStart=>exact UV.mk 1 ⟨h0,rfl,by rw[show (1:Nat)=0+1 from rfl];exact QJ (k:=0) h0 rfl (nZ HL0.out)⟩
    case round =>
     obtain⟨k,hk,rfl,xF⟩:=hrel
     have HALL:=KA xF
     clear xF
     by_cases yA:k<s.size
     ·have H1:=KA (fun w=>jQ s[k] w)
      have H2:=KA (fun w=>E5 s[k] w)
      have hc:(Hx (letterB s[k]=true)∧Hx (ZH s[k]=true))∨(Hx (letterB s[k]=false)∧Hx (digitB s[k]=true)∧Hx (ZH s[k]=true))∨(Hx (letterB s[k]=false)∧Hx (digitB s[k]=false)∧(((s[k].toNat:Int) != 95))=false∧Hx (ZH s[k]=true))∨(Hx (letterB s[k]=false)∧Hx (digitB s[k]=false)∧(((s[k].toNat:Int) != 95))=true∧Hx (ZH s[k]=false)):=by
       unfold Hx ZH
       cases letterB s[k]<;>cases digitB s[k]<;>cases hz:((s[k].toNat:Int) != 95)<;>simp_all
      rcases hc with ⟨q0,qr⟩|⟨q0,q1,qr⟩|⟨q0,q1,q2,qr⟩|⟨q0,q1,q2,qr⟩
      ·go_wp2_with fail
       refine (H1.out _).mono ?_
       rintro e w1 ⟨rfl,rfl⟩
       rw[q0.out]
       go_wp2_with fail
       go_round
       case rel=>exact UV.mk (k+1) ⟨yA,by go_num,QJ yA HALL.out qr.out⟩
       case measure=>simp[intOf];omega
      ·go_wp2_with fail
       refine (H1.out _).mono ?_
       rintro e w1 ⟨rfl,rfl⟩
       rw[q0.out]
       go_wp2_with fail
       refine (H2.out _).mono ?_
       rintro e w1 ⟨rfl,rfl⟩
       rw[q1.out]
       go_wp2_with fail
       go_round
       case rel=>exact UV.mk (k+1) ⟨yA,by go_num,QJ yA HALL.out qr.out⟩
       case measure=>simp[intOf];omega
      ·go_wp2_with fail
       refine (H1.out _).mono ?_
       rintro e w1 ⟨rfl,rfl⟩
       rw[q0.out]
       go_wp2_with fail
       refine (H2.out _).mono ?_
       rintro e w1 ⟨rfl,rfl⟩
       rw[q1.out]
       go_wp2_with fail
       go_round
       case rel=>exact UV.mk (k+1) ⟨yA,by go_num,QJ yA HALL.out qr.out⟩
       case measure=>simp[intOf];omega
      ·go_wp2_with fail
       refine (H1.out _).mono ?_
       rintro e w1 ⟨rfl,rfl⟩
       rw[q0.out]
       go_wp2_with fail
       refine (H2.out _).mono ?_
       rintro e w1 ⟨rfl,rfl⟩
       rw[q1.out]
       go_wp2_with fail
       go_ret
       exact⟨by rw[GS yA qr.out];rfl,rfl⟩
     ·obtain rfl:k=s.size:=by omega
      have E:=KA (OV h0 h16 HL0.out HALL.out)
      go_wp2_with fail
      go_ret
      exact⟨by rw[E.out];rfl,rfl⟩
  ·have hd:decide ((16:Int)<(s.size:Int))=true:=by simp;omega
   have E:=KA (DM (s:=s) oM)
   go_enter Tryz.func144,Tryz.ntmps144
   go_wp2_with fail
   go_ret
   exact⟨by rw[E.out];rfl,rfl⟩
 ·have he0:s.toList.isEmpty=true:=by rw[he,ae oM]
  have ZKM:decide ((s.size:Int)<1)=true:=by simp;omega
  clear he
  have E:=KA (DM (s:=s) oM)
  go_enter Tryz.func144,Tryz.ntmps144
  go_wp2_with fail
  go_ret
  exact⟨by rw[E.out];rfl,rfl⟩


def JV (P:Nat→Bool):Nat→Int
 |0=>-1
 |n+1=>if JV P n=-1 then (if P n then (n:Int) else -1) else JV P n
theorem pH {P:Nat→Bool}:∀{n:Nat},(∀j,j<n→P j=false)→JV P n=-1
 |0,_=>rfl
 |n+1,h=>by rw[JV,if_pos (pH fun j hj=>h j (kc hj)),h n (ke n)];rfl
theorem qK {P:Nat→Bool} {k:Nat} (h0:∀j,j<k→P j=false) (hk:P k=true):∀{n:Nat},k<n→JV P n=k
 |0,h=>absurd h (gx _)
 |n+1,h=>by
   rcases jb.1 h with h1|rfl
   ·have:=qK h0 hk h1
    rw[JV,if_neg (by rw[this];omega),this]
   ·rw[JV,if_pos (pH h0),hk];rfl
def VV (P:Nat→Bool) (n:Nat):Bool:=(List.range n).any P
theorem least (P:Nat→Bool):∀n:Nat,(∀j,j<n→P j=false)∨∃k,k<n∧P k=true∧∀j,j<k→P j=false
 |0=>.inl fun j hj=>absurd hj (gx _)
 |n+1=>by
   rcases least P n with h|⟨k,hk,hp,h0⟩
   ·cases hn:P n
    ·exact .inl fun j hj=>by
      rcases jb.1 hj with h1|rfl
      ·exact h j h1
      ·exact hn
    ·exact .inr ⟨n,ke n,hn,h⟩
   ·exact .inr ⟨k,kc hk,hp,h0⟩
theorem SK {P:Nat→Bool} {k:Nat} (h:∀j,j<k→P j=false) (hk:P k=false):∀j,j<k+1→P j=false:=fun j hj=>by
 rcases jb.1 hj with h1|rfl
 ·exact h j h1
 ·exact hk
theorem ZCH {P:Nat→Bool} {n:Nat} (h:∀j,j<n→P j=false):VV P n=false:=by
 unfold VV;rw[ga]
 intro j hj
 rw[h j (ba.1 hj)];simp
theorem ZE9 {P:Nat→Bool} {n k:Nat} (hk:k<n) (hp:P k=true):VV P n=true:=by
 unfold VV;rw[fj]
 exact⟨k,ba.2 hk,hp⟩
theorem cO (P:Nat→Bool) (n:Nat):decide (0≤JV P n)=VV P n:=by
 rcases least P n with h|⟨k,hk,hp,h0⟩
 ·rw[pH h,ZCH h];rfl
 ·rw[qK h0 hp hk,ZE9 hk hp];simp

def nY (P:Nat→Bool) (n:Nat) (w:World) (i:Value) (wr:World):Prop:=∃k:Nat,k≤n∧i=.int .i64 k∧(∀j,j<k→P j=false)∧Ext w wr

theorem dU (v:Value) (xs:List Pr) (F:Nat) (caps:Array Value) (P:Nat→Bool) (w:World) (hl:xs.length≤1000000) (hs:SlR 3 RPr w v xs)
  (hcf:∀(args:Array Value) (w:World),(callFunc F args).run Tryz.prog w=.ok (.enter F args) w)
  (hF:∀(k:Nat) (hk:k<xs.length) (v1 v2:Value) (w':World),Ext w w'→Calls Tryz.prog F (#[.agg #[.string xs[k].name,v1,v2]]++caps) w' fun e w''=>e=.returned (.bool (P k))∧Ext w' w'') :
  Calls Tryz.prog 188 #[v,.func (.func F) #[] caps] w fun e w'=>e=.returned (.int .i64 (JV P xs.length))∧Ext w w':=by
 obtain⟨A,c,rfl,_,_,hc⟩:=hs.at_
 clear hs
 have HF:=KA hF
 clear hF
 go_enter Tryz.func188,Tryz.ntmps188
 go_wp2_with fail
 go_loopw [8] (nY P xs.length w) (fun i _=>xs.length-(intOf i).toNat)
 case atStart=>exact⟨0,aj _,rfl,fun j hj=>absurd hj (gx _),Ext.refl _⟩
 case round =>
  obtain⟨k,hk,rfl,VP,UD⟩:=hrel
  have HN:=KA VP
  clear VP
  by_cases yA:k<xs.length
  ·obtain⟨b,off,rfl,XJ⟩:=hc oM
   obtain⟨⟨c0,_⟩,⟨v1,c1,_⟩,v2,c2,_⟩:=RPr.keeps _ _ _ _ _ UD (XJ k yA)
   clear XJ hc
   go_wp2_with fail
   refine (HF.out k yA v1 v2 _ ?_).mono ?_
   ·(repeat (first|exact Ext.refl _|assumption|apply Ext.alloc|apply Ext.drew|apply Ext.drewN|(refine Ext.trans ?_ aS)))
   rintro e w1 ⟨rfl,ZI⟩
   cases G0:P k
   ·go_wp2_with fail
    go_roundw
    case rel=>exact⟨k+1,yA,by go_num,SK HN.out G0,UD.trans ZI⟩
    case measure=>simp[intOf];omega
   ·go_wp2_with fail
    go_ret
    exact⟨by rw[qK HN.out G0 yA];rfl,UD.trans ZI⟩
  ·have hkn:k=xs.length:=by omega
   subst hkn
   go_wp2_with fail
   go_ret
   exact⟨by rw[pH HN.out];rfl,UD⟩
theorem JP (v:Value) (xs:List Pr) (F:Nat) (caps:Array Value) (P:Nat→Bool) (w:World) (hl:xs.length≤1000000) (hs:SlR 3 RPr w v xs)
  (hcf:∀(args:Array Value) (w:World),(callFunc F args).run Tryz.prog w=.ok (.enter F args) w)
  (hF:∀(k:Nat) (hk:k<xs.length) (v1 v2:Value) (w':World),Ext w w'→Calls Tryz.prog F (#[.agg #[.string xs[k].name,v1,v2]]++caps) w' fun e w''=>e=.returned (.bool (P k))∧Ext w' w'') :
  Calls Tryz.prog 167 #[v,.func (.func F) #[] caps] w fun e w'=>e=.returned (.bool (VV P xs.length))∧Ext w w':=by
 have HI:=KA (dU v xs F caps P w hl hs hcf hF)
 have HD:=KA (cO P xs.length)
 clear hF hs hcf
 go_enter Tryz.func167,Tryz.ntmps167
 go_wp2_with fail
 refine HI.out.mono ?_
 rintro e w1 ⟨rfl,he⟩
 go_wp2_with fail
 go_ret
 exact⟨by rw[HD.out];rfl,he⟩
theorem JX (v:Value) (xs:List Vr) (F:Nat) (caps:Array Value) (P:Nat→Bool) (w:World) (hl:xs.length≤1000000) (hs:SlR 2 RVr w v xs)
  (hcf:∀(args:Array Value) (w:World),(callFunc F args).run Tryz.prog w=.ok (.enter F args) w)
  (hF:∀(k:Nat) (hk:k<xs.length) (w':World),Ext w w'→Calls Tryz.prog F (#[.agg #[.string xs[k].name,.int .i64 xs[k].init]]++caps) w' fun e w''=>e=.returned (.bool (P k))∧Ext w' w'') :
  Calls Tryz.prog 95 #[v,.func (.func F) #[] caps] w fun e w'=>e=.returned (.int .i64 (JV P xs.length))∧Ext w w':=by
 obtain⟨A,c,rfl,_,_,hc⟩:=hs.at_
 clear hs
 have HF:=KA hF
 clear hF
 go_enter Tryz.func95,Tryz.ntmps95
 go_wp2_with fail
 go_loopw [8] (nY P xs.length w) (fun i _=>xs.length-(intOf i).toNat)
 case atStart=>exact⟨0,aj _,rfl,fun j hj=>absurd hj (gx _),Ext.refl _⟩
 case round =>
  obtain⟨k,hk,rfl,VP,UD⟩:=hrel
  have HN:=KA VP
  clear VP
  by_cases yA:k<xs.length
  ·obtain⟨b,off,rfl,XJ⟩:=hc oM
   obtain⟨c0,c1,_⟩:=RVr.keeps _ _ _ _ _ UD (XJ k yA)
   clear XJ hc
   go_wp2_with fail
   refine (HF.out k yA  _ ?_).mono ?_
   ·(repeat (first|exact Ext.refl _|assumption|apply Ext.alloc|apply Ext.drew|apply Ext.drewN|(refine Ext.trans ?_ aS)))
   rintro e w1 ⟨rfl,ZI⟩
   cases G0:P k
   ·go_wp2_with fail
    go_roundw
    case rel=>exact⟨k+1,yA,by go_num,SK HN.out G0,UD.trans ZI⟩
    case measure=>simp[intOf];omega
   ·go_wp2_with fail
    go_ret
    exact⟨by rw[qK HN.out G0 yA];rfl,UD.trans ZI⟩
  ·have hkn:k=xs.length:=by omega
   subst hkn
   go_wp2_with fail
   go_ret
   exact⟨by rw[pH HN.out];rfl,UD⟩
theorem EQ (v:Value) (xs:List Vr) (F:Nat) (caps:Array Value) (P:Nat→Bool) (w:World) (hl:xs.length≤1000000) (hs:SlR 2 RVr w v xs)
  (hcf:∀(args:Array Value) (w:World),(callFunc F args).run Tryz.prog w=.ok (.enter F args) w)
  (hF:∀(k:Nat) (hk:k<xs.length) (w':World),Ext w w'→Calls Tryz.prog F (#[.agg #[.string xs[k].name,.int .i64 xs[k].init]]++caps) w' fun e w''=>e=.returned (.bool (P k))∧Ext w' w'') :
  Calls Tryz.prog 46 #[v,.func (.func F) #[] caps] w fun e w'=>e=.returned (.bool (VV P xs.length))∧Ext w w':=by
 have HI:=KA (JX v xs F caps P w hl hs hcf hF)
 have HD:=KA (cO P xs.length)
 clear hF hs hcf
 go_enter Tryz.func46,Tryz.ntmps46
 go_wp2_with fail
 refine HI.out.mono ?_
 rintro e w1 ⟨rfl,he⟩
 go_wp2_with fail
 go_ret
 exact⟨by rw[HD.out];rfl,he⟩
theorem FQ (v:Value) (xs:List Asg) (F:Nat) (caps:Array Value) (P:Nat→Bool) (w:World) (hl:xs.length≤1000000) (hs:SlR 2 RAsg w v xs)
  (hcf:∀(args:Array Value) (w:World),(callFunc F args).run Tryz.prog w=.ok (.enter F args) w)
  (hF:∀(k:Nat) (hk:k<xs.length) (w':World),Ext w w'→Calls Tryz.prog F (#[.agg #[.int .i64 xs[k].v,.int .i64 xs[k].val]]++caps) w' fun e w''=>e=.returned (.bool (P k))∧Ext w' w'') :
  Calls Tryz.prog 189 #[v,.func (.func F) #[] caps] w fun e w'=>e=.returned (.int .i64 (JV P xs.length))∧Ext w w':=by
 obtain⟨A,c,rfl,_,_,hc⟩:=hs.at_
 clear hs
 have HF:=KA hF
 clear hF
 go_enter Tryz.func189,Tryz.ntmps189
 go_wp2_with fail
 go_loopw [8] (nY P xs.length w) (fun i _=>xs.length-(intOf i).toNat)
 case atStart=>exact⟨0,aj _,rfl,fun j hj=>absurd hj (gx _),Ext.refl _⟩
 case round =>
  obtain⟨k,hk,rfl,VP,UD⟩:=hrel
  have HN:=KA VP
  clear VP
  by_cases yA:k<xs.length
  ·obtain⟨b,off,rfl,XJ⟩:=hc oM
   obtain⟨c0,c1⟩:=RAsg.keeps _ _ _ _ _ UD (XJ k yA)
   clear XJ hc
   go_wp2_with fail
   refine (HF.out k yA  _ ?_).mono ?_
   ·(repeat (first|exact Ext.refl _|assumption|apply Ext.alloc|apply Ext.drew|apply Ext.drewN|(refine Ext.trans ?_ aS)))
   rintro e w1 ⟨rfl,ZI⟩
   cases G0:P k
   ·go_wp2_with fail
    go_roundw
    case rel=>exact⟨k+1,yA,by go_num,SK HN.out G0,UD.trans ZI⟩
    case measure=>simp[intOf];omega
   ·go_wp2_with fail
    go_ret
    exact⟨by rw[qK HN.out G0 yA];rfl,UD.trans ZI⟩
  ·have hkn:k=xs.length:=by omega
   subst hkn
   go_wp2_with fail
   go_ret
   exact⟨by rw[pH HN.out];rfl,UD⟩
theorem lN (v:Value) (xs:List Asg) (F:Nat) (caps:Array Value) (P:Nat→Bool) (w:World) (hl:xs.length≤1000000) (hs:SlR 2 RAsg w v xs)
  (hcf:∀(args:Array Value) (w:World),(callFunc F args).run Tryz.prog w=.ok (.enter F args) w)
  (hF:∀(k:Nat) (hk:k<xs.length) (w':World),Ext w w'→Calls Tryz.prog F (#[.agg #[.int .i64 xs[k].v,.int .i64 xs[k].val]]++caps) w' fun e w''=>e=.returned (.bool (P k))∧Ext w' w'') :
  Calls Tryz.prog 171 #[v,.func (.func F) #[] caps] w fun e w'=>e=.returned (.bool (VV P xs.length))∧Ext w w':=by
 have HI:=KA (FQ v xs F caps P w hl hs hcf hF)
 have HD:=KA (cO P xs.length)
 clear hF hs hcf
 go_enter Tryz.func171,Tryz.ntmps171
 go_wp2_with fail
 refine HI.out.mono ?_
 rintro e w1 ⟨rfl,he⟩
 go_wp2_with fail
 go_ret
 exact⟨by rw[HD.out];rfl,he⟩
theorem aR (v:Value) (xs:List Ev) (F:Nat) (caps:Array Value) (P:Nat→Bool) (w:World) (hl:xs.length≤1000000) (hs:SlR 5 REv w v xs)
  (hcf:∀(args:Array Value) (w:World),(callFunc F args).run Tryz.prog w=.ok (.enter F args) w)
  (hF:∀(k:Nat) (hk:k<xs.length) (v1:Value) (w':World),Ext w w'→Calls Tryz.prog F (#[.agg #[.int .i64 xs[k].kind,.int .i64 xs[k].peer,.int .i64 xs[k].msg,.int .i64 xs[k].time,v1]]++caps) w' fun e w''=>e=.returned (.bool (P k))∧Ext w' w'') :
  Calls Tryz.prog 94 #[v,.func (.func F) #[] caps] w fun e w'=>e=.returned (.int .i64 (JV P xs.length))∧Ext w w':=by
 obtain⟨A,c,rfl,_,_,hc⟩:=hs.at_
 clear hs
 have HF:=KA hF
 clear hF
 go_enter Tryz.func94,Tryz.ntmps94
 go_wp2_with fail
 go_loopw [8] (nY P xs.length w) (fun i _=>xs.length-(intOf i).toNat)
 case atStart=>exact⟨0,aj _,rfl,fun j hj=>absurd hj (gx _),Ext.refl _⟩
 case round =>
  obtain⟨k,hk,rfl,VP,UD⟩:=hrel
  have HN:=KA VP
  clear VP
  by_cases yA:k<xs.length
  ·obtain⟨b,off,rfl,XJ⟩:=hc oM
   obtain⟨c0,c1,c2,c3,v1,c4,_⟩:=REv.keeps _ _ _ _ _ UD (XJ k yA)
   clear XJ hc
   go_wp2_with fail
   refine (HF.out k yA v1 _ ?_).mono ?_
   ·(repeat (first|exact Ext.refl _|assumption|apply Ext.alloc|apply Ext.drew|apply Ext.drewN|(refine Ext.trans ?_ aS)))
   rintro e w1 ⟨rfl,ZI⟩
   cases G0:P k
   ·go_wp2_with fail
    go_roundw
    case rel=>exact⟨k+1,yA,by go_num,SK HN.out G0,UD.trans ZI⟩
    case measure=>simp[intOf];omega
   ·go_wp2_with fail
    go_ret
    exact⟨by rw[qK HN.out G0 yA];rfl,UD.trans ZI⟩
  ·have hkn:k=xs.length:=by omega
   subst hkn
   go_wp2_with fail
   go_ret
   exact⟨by rw[pH HN.out];rfl,UD⟩
theorem PN (v:Value) (xs:List Ev) (F:Nat) (caps:Array Value) (P:Nat→Bool) (w:World) (hl:xs.length≤1000000) (hs:SlR 5 REv w v xs)
  (hcf:∀(args:Array Value) (w:World),(callFunc F args).run Tryz.prog w=.ok (.enter F args) w)
  (hF:∀(k:Nat) (hk:k<xs.length) (v1:Value) (w':World),Ext w w'→Calls Tryz.prog F (#[.agg #[.int .i64 xs[k].kind,.int .i64 xs[k].peer,.int .i64 xs[k].msg,.int .i64 xs[k].time,v1]]++caps) w' fun e w''=>e=.returned (.bool (P k))∧Ext w' w'') :
  Calls Tryz.prog 44 #[v,.func (.func F) #[] caps] w fun e w'=>e=.returned (.bool (VV P xs.length))∧Ext w w':=by
 have HI:=KA (aR v xs F caps P w hl hs hcf hF)
 have HD:=KA (cO P xs.length)
 clear hF hs hcf
 go_enter Tryz.func44,Tryz.ntmps44
 go_wp2_with fail
 refine HI.out.mono ?_
 rintro e w1 ⟨rfl,he⟩
 go_wp2_with fail
 go_ret
 exact⟨by rw[HD.out];rfl,he⟩

theorem fC {P:Program} {f:FuncId} {fn:Func} {c:Code} (hf:P.funcs[f]? = some fn) (qV:(fn.name == "runtime.NumGoroutine")=false) (hb:fn.body=some c) (args:Array Value) (w:World) :
  (callFunc f args).run P w=.ok (.enter f args) w:=by
 have h1:fn.name≠ "runtime.NumGoroutine":=by simpa using qV
 simp[callFunc,hf,h1,hb]
theorem cf_p1 (args:Array Value) (w:World):(callFunc 168 args).run Tryz.prog w=.ok (.enter 168 args) w:=
 fC Tryz.func168 kE rfl args w
theorem cf_p2 (args:Array Value) (w:World):(callFunc 169 args).run Tryz.prog w=.ok (.enter 169 args) w:=
 fC Tryz.func169 kE rfl args w
theorem ZJY (a b:ByteArray) (v1 v2:Value) (bk:Nat) (w:World) (hx:w.cell? ⟨bk,0,none⟩=some (.string b)) :
  Calls Tryz.prog 168 #[.agg #[.string a,v1,v2],.pointer (some ⟨bk,0,none⟩)] w fun e w'=>e=.returned (.bool (a.toList==b.toList))∧Ext w w':=by
 have yA:=jB hx
 go_enter Tryz.func168,Tryz.ntmps168
 go_wp2_with fail
 go_ret
 exact⟨rfl,(Ext.refl w).alloc _⟩
theorem ZJX (a b:ByteArray) (v1:Value) (bk:Nat) (w:World) (hx:w.cell? ⟨bk,0,none⟩=some (.string b)) :
  Calls Tryz.prog 169 #[.agg #[.string a,v1],.pointer (some ⟨bk,0,none⟩)] w fun e w'=>e=.returned (.bool (a.toList==b.toList))∧Ext w w':=by
 have yA:=jB hx
 go_enter Tryz.func169,Tryz.ntmps169
 go_wp2_with fail
 go_ret
 exact⟨rfl,(Ext.refl w).alloc _⟩
theorem ZD6 {α:Type} (d:α) (f:α→Bool) (l:List α) (p:Nat) (hp:p≤l.length):(l.take p).any f=VV (fun k=>f (l.getD k d)) p:=by
 unfold VV
 rw[eh,fj,fj]
 constructor
 ·rintro⟨x,hx,hf⟩
  obtain⟨k,hk,he⟩:=lk.1 hx
  refine⟨k,ba.2 oM,?_⟩
  rw[show l.getD k d=x by rw[au,ah oM,he];rfl]
  exact hf
 ·rintro⟨k,hk,hf⟩
  have hk:=ba.1 hk
  refine⟨l.getD k d,?_,hf⟩
  rw[lk]
  exact⟨k,by omega,by rw[au,ah oM];rfl⟩

theorem NG (w:World) (cs:Array Value) (e:TypeId) {g j:Nat} {v:Value} (hg:g=w.heap.size) (h:cs[j]? = some v):(w.alloc (.cells cs e)).cell? ⟨g,j,none⟩=some v:=by
 have h0:(w.alloc (.cells cs e)).heap[w.heap.size]? = some (.cells cs e):=heap_alloc_new w _
 subst hg
 unfold World.cell?
 rw[h0]
 exact h
theorem eO {α:Type} (d:α) (f:α→Bool) (l:List α):l.any f=VV (fun k=>f (l.getD k d)) l.length:=by
 have:=ZD6 d f l l.length (ai _)
 rwa [bo (ai _)]at this
theorem YB {α:Type} (d:α) (l:List α) {k:Nat} (h:k<l.length):l.getD k d=l[k]:=by
 rw[au,ah h];rfl
theorem SlR.take {α:Type} {size:Nat} {R:World→Nat→Nat→α→Prop} {w:World} {A:Option Addr} {n c:Nat} {xs:List α} (h:SlR size R w (.slice A n c) xs) (k:Nat) (hk:k≤n):SlR size R w (.slice A k c) (xs.take k):=by
 obtain⟨A',c',hv,h1,h2,h3⟩:=h
 injection hv with e1 e2 e3
 subst e1;subst e3;subst e2
 have hl:(xs.take k).length=k:=by rw[bg];omega
 refine⟨A,c,by rw[hl],by omega,h2,fun h0=>?_⟩
 obtain⟨b,off,hA,hj⟩:=h3 oM
 exact⟨b,off,hA,fun j x hx=>hj j x (by
  rw[de]at hx
  split at hx
  ·exact hx
  ·cases hx)⟩
theorem ZEP (v:Value) (xs:List Pr) (s:ByteArray) (bk:Nat) (w:World) (hl:xs.length≤1000000) (hs:SlR 3 RPr w v xs) (hx:w.cell? ⟨bk,0,none⟩=some (.string s)) :
  Calls Tryz.prog 167 #[v,.func (.func 168) #[] #[.pointer (some ⟨bk,0,none⟩)]] w fun e w'=>e=.returned (.bool (xs.any fun y=>y.name.toList==s.toList))∧Ext w w':=by
 rw[eO dfPr]
 refine JP v xs _ _ _ w hl hs cf_p1 fun k hk v1 v2 w' he=>?_
 simp only[YB dfPr xs hk]
 exact ZJY _ s v1 v2 bk w' (he.cellAt hx)
theorem ZHW (v:Value) (xs:List Vr) (s:ByteArray) (bk:Nat) (w:World) (hl:xs.length≤1000000) (hs:SlR 2 RVr w v xs) (hx:w.cell? ⟨bk,0,none⟩=some (.string s)) :
  Calls Tryz.prog 46 #[v,.func (.func 169) #[] #[.pointer (some ⟨bk,0,none⟩)]] w fun e w'=>e=.returned (.bool (xs.any fun y=>y.name.toList==s.toList))∧Ext w w':=by
 rw[eO EO]
 refine EQ v xs _ _ _ w hl hs cf_p2 fun k hk w' he=>?_
 simp only[YB EO xs hk]
 exact ZJX _ s _ bk w' (he.cellAt hx)
theorem mM (t:Tr) (p:Nat) (hp:p<t.length):CC t p=if !eD t[p].name||(t.take p).any (fun y=>y.name.toList==t[p].name.toList) then 13
 else if 8<t[p].vars.length then 5
 else if sB (jN t[p].vars) t[p].vars.length≠0 then sB (jN t[p].vars) t[p].vars.length
 else if 64<t[p].evs.length then 5 else 0:=by
 unfold CC;rw[YB dfPr t hp]
theorem ZAB (vs:List Vr) (i:Nat) (hi:i<vs.length):jN vs i=if !eD vs[i].name||(vs.take i).any (fun y=>y.name.toList==vs[i].name.toList) then 13
 else if !QL vs[i].init then 2 else 0:=by
 unfold jN;rw[YB EO vs hi]
def ZJs (vs:List Vr) (w:World) (i:Value) (wr:World):Prop:=∃k:Nat,k≤vs.length∧i=.int .i64 k∧sB (jN vs) k=0∧Ext w wr

theorem XP (u:Value) (t:Tr) (p:Nat) (w:World) (hp:p<t.length) (hl:t.length≤1000000) (hv:t[p].vars.length≤1000000) (he:t[p].evs.length≤9223372036854775807) (hs:SlR 3 RPr w u t) :
  Calls Tryz.prog 134 #[.agg #[u],.int .i64 p] w fun e w'=>e=.returned (.int .i64 (CC t p))∧Ext w w':=by
 obtain⟨A,c,rfl,h1,h2,hc⟩:=hs.at_
 obtain⟨b,off,rfl,XJ⟩:=hc oM
 obtain⟨⟨c0,hm⟩,⟨v1,c1,OH⟩,v2,c2,aO⟩:=XJ p hp
 have hb:=jB c0
 have HS:=KA hs
 have HS1:=KA OH
 have HS2:=KA aO
 obtain⟨A1,k1,rfl,_,_,_⟩:=OH.at_
 obtain⟨A2,k2,rfl,_,_,_⟩:=aO.at_
 clear hs OH aO
 have HN:=KA (fun w=>NS t[p].name w hm)
 clear XJ hc
 go_enter Tryz.func134,Tryz.ntmps134
 go_wp2_with fail
 refine (HN.out _).mono ?_
 rintro e w1 ⟨rfl,rfl⟩
 cases hn:eD t[p].name
 ·go_wp2_with fail
  go_ret
  exact⟨by rw[mM t p hp,hn];rfl,((Ext.refl _).alloc _).alloc _⟩
 ·go_wp2_with fail
  refine (ZEP _ (t.take p) t[p].name _ _ ?_ ?_ ?_).mono ?_
  ·rw[bg];omega
  ·exact ((HS.out).take p oM).ext RPr.keeps (((Ext.refl _).alloc _).alloc _)
  ·exact NG _ _ _ kS rfl
  rintro e w1 ⟨rfl,ZI⟩
  cases ha:(t.take p).any fun y=>y.name.toList==t[p].name.toList
  ·have d1:w1.cell? ⟨w.heap.size+1,1,none⟩=_:=ZI.cellAt (NG _ _ _ kS rfl)
   have d2:w1.cell? ⟨w.heap.size+1,2,none⟩=_:=ZI.cellAt (NG _ _ _ kS rfl)
   have LE:=(((Ext.refl w).alloc _).alloc _).trans ZI
   have HE:=KA (mM t p hp)
   by_cases h8:8<t[p].vars.length
   ·go_wp2_with fail
    go_ret
    exact⟨by rw[HE.out,hn,ha];simp[h8],LE⟩
   ·go_wp2_with fail
    go_loopw [34] (ZJs t[p].vars w1) (fun i _=>t[p].vars.length-(intOf i).toNat)
    case atStart=>exact⟨0,aj _,rfl,rfl,Ext.refl _⟩
    case round =>
     obtain⟨k,hk,rfl,hz,UD⟩:=hrel
     have HZ:=KA hz
     clear hz
     have d1':=UD.cellAt d1
     have d2':=UD.cellAt d2
     by_cases yA:k<t[p].vars.length
     ·have HSk:=KA (HS1.out.ext RVr.keeps (LE.trans UD))
      obtain⟨A1',k1',ev,g1,g2,g3⟩:=HSk.out.at_
      obtain⟨b1,off1,rfl,XJ⟩:=g3 oM
      injection ev with ev1 ev2 ev3
      subst ev1;subst ev3
      obtain⟨f0,f1,fm⟩:=XJ k yA
      have xJ:=jB f0
      have vR:=jB d1'
      have HV:=KA (ZAB t[p].vars k yA)
      have HN2:=KA (fun w=>NS t[p].vars[k].name w fm)
      have HI:=KA (fun w=>RL t[p].vars[k].init (-1073741824) 1073741824 w)
      clear XJ g3 ev2
      go_wp2_with fail
      refine (HN2.out _).mono ?_
      rintro e w2 ⟨rfl,rfl⟩
      cases eW:eD t[p].vars[k].name
      ·have HF13:=KA (show jN t[p].vars k=13 by rw[HV.out,eW];rfl)
       have HR:=KA (RC (n:=t[p].vars.length) HZ.out (by rw[HF13.out];decide) yA)
       go_wp2_with fail
       go_ret
       exact⟨by rw[HE.out,hn,ha,HR.out,HF13.out];simp[h8],(LE.trans UD).alloc _⟩
      ·go_wp2_with fail
       refine (ZHW _ (t[p].vars.take k) t[p].vars[k].name _ _ ?_ ?_ ?_).mono ?_
       ·rw[bg];omega
       ·exact ((HSk.out).take k oM).ext RVr.keeps ((Ext.refl _).alloc _)
       ·exact NG _ _ _ rfl rfl
       rintro e w3 ⟨rfl,he3⟩
       have he4:=((Ext.refl wr).alloc _).trans he3
       cases ha2:(t[p].vars.take k).any fun y=>y.name.toList==t[p].vars[k].name.toList
       ·have d3:w3.cell? ⟨wr.heap.size,1,none⟩=_:=he3.cellAt (NG _ _ _ rfl rfl)
        go_wp2_with fail
        refine (HI.out _).mono ?_
        rintro e w4 ⟨rfl,rfl⟩
        cases hv2:inB t[p].vars[k].init (-1073741824) 1073741824
        ·have HF2:=KA (show jN t[p].vars k=2 by rw[HV.out,eW,ha2,show QL t[p].vars[k].init=false from hv2];rfl)
         have HR:=KA (RC (n:=t[p].vars.length) HZ.out (by rw[HF2.out];decide) yA)
         go_wp2_with fail
         go_ret
         exact⟨by rw[HE.out,hn,ha,HR.out,HF2.out];simp[h8],(LE.trans UD).trans he4⟩
        ·have HF0:=KA (show jN t[p].vars k=0 by rw[HV.out,eW,ha2,show QL t[p].vars[k].init=true from hv2];rfl)
         go_wp2_with fail
         go_roundw
         case rel=>exact⟨k+1,yA,by go_num,CG HZ.out HF0.out,UD.trans he4⟩
         case measure=>simp[intOf];omega
       ·have HF13:=KA (show jN t[p].vars k=13 by rw[HV.out,eW,ha2];rfl)
        have HR:=KA (RC (n:=t[p].vars.length) HZ.out (by rw[HF13.out];decide) yA)
        go_wp2_with fail
        go_ret
        exact⟨by rw[HE.out,hn,ha,HR.out,HF13.out];simp[h8],(LE.trans UD).trans he4⟩
     ·have hkn:k=t[p].vars.length:=by omega
      subst hkn
      by_cases h64:64<t[p].evs.length
      ·go_wp2_with fail
       go_ret
       exact⟨by rw[HE.out,hn,ha];simp[h8,h64,HZ.out],LE.trans UD⟩
      ·go_wp2_with fail
       go_ret
       exact⟨by rw[HE.out,hn,ha];simp[h8,h64,HZ.out],LE.trans UD⟩
  ·go_wp2_with fail
   go_ret
   exact⟨by rw[mM t p hp,hn,ha];rfl,(((Ext.refl _).alloc _).alloc _).trans ZI⟩

theorem cf_s1 (args:Array Value) (w:World):(callFunc 174 args).run Tryz.prog w=.ok (.enter 174 args) w:=
 fC Tryz.func174 kE rfl args w
theorem cf_e1 (args:Array Value) (w:World):(callFunc 172 args).run Tryz.prog w=.ok (.enter 172 args) w:=
 fC Tryz.func172 kE rfl args w
theorem ZJj (a x d:Int) (bk:Nat) (w:World) (hx:w.cell? ⟨bk,0,none⟩=some (.int .i64 d)) :
  Calls Tryz.prog 172 #[.agg #[.int .i64 a,.int .i64 x],.pointer (some ⟨bk,0,none⟩)] w fun e w'=>e=.returned (.bool (a==d))∧Ext w w':=by
 have yA:=jB hx
 go_enter Tryz.func172,Tryz.ntmps172
 go_wp2_with fail
 go_ret
 exact⟨rfl,(Ext.refl w).alloc _⟩
theorem E6 (u a:Value) (t:Tr) (p:Nat) (e:Ev) (w:World) (hl:t.length≤1000000) (hs:SlR 3 RPr w u t) :
  Calls Tryz.prog 170 #[.agg #[u],.int .i64 p,.agg #[.int .i64 e.kind,.int .i64 e.peer,.int .i64 e.msg,.int .i64 e.time,a]] w fun x w'=>x=.returned (.bool (JB t.length p e))∧Ext w w':=by
 obtain⟨A,c,rfl,h1,h2,hc⟩:=hs.at_
 clear hc hs
 have HP:=KA (fun w=>RL e.peer 0 ((t.length:Int)-1) w)
 have HM:=KA (fun w=>RL e.msg 0 199 w)
 have hE:∀o1 o2,Ext w ((w.alloc o1).alloc o2):=fun o1 o2=>((Ext.refl w).alloc o1).alloc o2
 go_enter Tryz.func170,Tryz.ntmps170
 cases k1:e.kind==1
 ·have hb:(((e.kind==2)=true∧(e.kind==3)=false)∨((e.kind==2)=false∧(e.kind==3)=true))∨((e.kind==2)=false∧(e.kind==3)=false):=by
   cases k2:e.kind==2<;>cases k3:e.kind==3<;>simp_all
  rcases hb with (⟨k2,k3⟩|⟨k2,k3⟩)|⟨k2,k3⟩
  ·go_wp2_with fail
   refine (HP.out _).mono ?_
   rintro x w1 ⟨rfl,rfl⟩
   cases hp:inB e.peer 0 ((t.length:Int)-1)
   ·go_wp2_with fail
    go_ret
    exact⟨by rw[JB,k1,k2,k3,hp];rfl,hE _ _⟩
   ·cases hq:e.peer != (p:Int)
    ·go_wp2_with fail
     go_ret
     exact⟨by rw[JB,k1,k2,k3,hp,hq];rfl,hE _ _⟩
    ·go_wp2_with fail
     refine (HM.out _).mono ?_
     rintro x w1 ⟨rfl,rfl⟩
     cases hm:inB e.msg 0 199
     ·go_wp2_with fail
      go_ret
      exact⟨by rw[JB,k1,k2,k3,hp,hq,hm];rfl,hE _ _⟩
     ·go_wp2_with fail
      go_ret
      exact⟨by rw[JB,k1,k2,k3,hp,hq,hm];rfl,hE _ _⟩
  ·go_wp2_with fail
   refine (HP.out _).mono ?_
   rintro x w1 ⟨rfl,rfl⟩
   cases hp:inB e.peer 0 ((t.length:Int)-1)
   ·go_wp2_with fail
    go_ret
    exact⟨by rw[JB,k1,k2,k3,hp];rfl,hE _ _⟩
   ·cases hq:e.peer != (p:Int)
    ·go_wp2_with fail
     go_ret
     exact⟨by rw[JB,k1,k2,k3,hp,hq];rfl,hE _ _⟩
    ·go_wp2_with fail
     refine (HM.out _).mono ?_
     rintro x w1 ⟨rfl,rfl⟩
     cases hm:inB e.msg 0 199
     ·go_wp2_with fail
      go_ret
      exact⟨by rw[JB,k1,k2,k3,hp,hq,hm];rfl,hE _ _⟩
     ·go_wp2_with fail
      go_ret
      exact⟨by rw[JB,k1,k2,k3,hp,hq,hm];rfl,hE _ _⟩
  ·go_wp2_with fail
   go_ret
   exact⟨by rw[JB,k1,k2,k3];rfl,hE _ _⟩
 ·cases k2:e.peer==0
  ·go_wp2_with fail
   go_ret
   exact⟨by rw[JB,k1,k2];rfl,hE _ _⟩
  ·cases k3:e.msg==0
   ·go_wp2_with fail
    go_ret
    exact⟨by rw[JB,k1,k2,k3];rfl,hE _ _⟩
   ·go_wp2_with fail
    go_ret
    exact⟨by rw[JB,k1,k2,k3];rfl,hE _ _⟩

theorem ZJT (e:Ev) (a:Value) (m to:Int) (bm bt:Nat) (w:World) (hm:w.cell? ⟨bm,0,none⟩=some (.int .i64 m)) (ht:w.cell? ⟨bt,0,none⟩=some (.int .i64 to)) :
  Calls Tryz.prog 174 #[.agg #[.int .i64 e.kind,.int .i64 e.peer,.int .i64 e.msg,.int .i64 e.time,a],.pointer (some ⟨bm,0,none⟩),.pointer (some ⟨bt,0,none⟩)] w fun x w'=>x=.returned (.bool (e.kind==2&&e.msg==m&&e.peer==to))∧Ext w w':=by
 have yA:=jB hm
 have hlt2:=jB ht
 go_enter Tryz.func174,Tryz.ntmps174
 cases k1:e.kind==2
 ·go_wp2_with fail
  go_ret
  exact⟨rfl,(Ext.refl w).alloc _⟩
 ·cases k2:e.msg==m
  ·go_wp2_with fail
   go_ret
   exact⟨rfl,(Ext.refl w).alloc _⟩
  ·go_wp2_with fail
   go_ret
   exact⟨rfl,(Ext.refl w).alloc _⟩
theorem ZEO (v:Value) (xs:List Ev) (m to:Int) (bm bt:Nat) (w:World) (hl:xs.length≤1000000) (hs:SlR 5 REv w v xs) (hm:w.cell? ⟨bm,0,none⟩=some (.int .i64 m)) (ht:w.cell? ⟨bt,0,none⟩=some (.int .i64 to)) :
  Calls Tryz.prog 44 #[v,.func (.func 174) #[] #[.pointer (some ⟨bm,0,none⟩),.pointer (some ⟨bt,0,none⟩)]] w fun e w'=>e=.returned (.bool (xs.any fun e=>e.kind==2&&e.msg==m&&e.peer==to))∧Ext w w':=by
 rw[eO PI]
 refine PN v xs _ _ _ w hl hs cf_s1 fun k hk v1 w' he=>?_
 simp only[YB PI xs hk]
 exact ZJT xs[k] v1 m to bm bt w' (he.cellAt hm) (he.cellAt ht)
theorem ZBO (u:Value) (t:Tr) (p:Nat) (m to:Int) (w:World) (hp:p<t.length) (hl:t.length≤1000000) (he:t[p].evs.length≤1000000) (hs:SlR 3 RPr w u t) :
  Calls Tryz.prog 137 #[.agg #[u],.int .i64 p,.int .i64 m,.int .i64 to] w fun e w'=>e=.returned (.bool (sendsB t p m to))∧Ext w w':=by
 obtain⟨A,c,rfl,h1,h2,hc⟩:=hs.at_
 obtain⟨b,off,rfl,XJ⟩:=hc oM
 obtain⟨_,_,v2,c2,aO⟩:=XJ p hp
 have hb:=jB c2
 have xJ:b<w.heap.size+1:=by omega
 have vR:b<w.heap.size+1+1:=by omega
 have HS2:=KA aO
 obtain⟨A2,k2,rfl,_,_,_⟩:=aO.at_
 clear hs aO XJ hc
 go_enter Tryz.func137,Tryz.ntmps137
 go_wp2_with fail
 refine (ZEO _ t[p].evs m to _ _ _ he ?_ ?_ ?_).mono ?_
 ·exact HS2.out.ext REv.keeps ((((Ext.refl _).alloc _).alloc _).alloc _)
 ·exact ((Ext.refl _).alloc _).cellAt (NG _ _ _ kS rfl)
 ·exact NG _ _ _ kS rfl
 rintro e w1 ⟨rfl,ZI⟩
 go_wp2_with fail
 go_ret
 exact⟨by rw[sendsB,nA,YB dfPr t hp];rfl,((((Ext.refl _).alloc _).alloc _).alloc _).trans ZI⟩
theorem ZAk (v:Value) (xs:List Asg) (d:Int) (bk:Nat) (w:World) (hl:xs.length≤1000000) (hs:SlR 2 RAsg w v xs) (hx:w.cell? ⟨bk,0,none⟩=some (.int .i64 d)) :
  Calls Tryz.prog 171 #[v,.func (.func 172) #[] #[.pointer (some ⟨bk,0,none⟩)]] w fun e w'=>e=.returned (.bool (xs.any fun b=>b.v==d))∧Ext w w':=by
 rw[eO FU]
 refine lN v xs _ _ _ w hl hs cf_e1 fun k hk w' he=>?_
 simp only[YB FU xs hk]
 exact ZJj xs[k].v xs[k].val d bk w' (he.cellAt hx)
theorem JY (nv:Nat) (l:List Asg) (k:Nat) (hk:k<l.length):gJ nv l k=if !(inB l[k].v 0 ((nv:Int)-1))||!QL l[k].val then 2
 else if (l.take k).any (fun b=>b.v==l[k].v) then 8 else 0:=by
 unfold gJ;rw[YB FU l hk]
def ZFX (nv:Nat) (l:List Asg) (w:World) (i:Value) (wr:World):Prop:=∃k:Nat,k≤l.length∧i=.int .i64 k∧sB (gJ nv l) k=0∧Ext w wr

theorem YW (t:Tr) (p j:Nat) (hp:p<t.length) (hj:j<t[p].evs.length):xI t (p,j+2)=t[p].evs[j].time:=by
 show (if 1<j+2 then ((nA t p).getD (j+2-2) PI).time else 0)=_
 rw[if_pos oM,show j+2-2=j by omega];unfold nA;rw[YB dfPr t hp,YB PI _ hj]
theorem S3 (t:Tr) (p i:Nat) (e:Ev) (L:Int) (hp:p<t.length) (hi0:1≤i) (hi:i≤t[p].evs.length) (hee:t[p].evs[i-1]=e) (hL:xI t (p,i)=L):eC t (p,i)=if !JB t.length p e then 3
 else if !(inB e.time 0 1099511627776)||decide (e.time<L) then 11
 else if 8<e.asg.length then 5
 else sB (gJ t[p].vars.length e.asg) e.asg.length:=by
 have h1:uA t (p,i)=e:=by unfold uA nA;simp only[YB dfPr t hp];rw[YB PI _ oM];exact hee
 unfold eC;rw[h1,hL];simp only[YB dfPr t hp]
theorem GR (u a:Value) (t:Tr) (p i:Nat) (e:Ev) (w:World) (hp:p<t.length) (hi0:1≤i) (hi:i≤t[p].evs.length) (hee:t[p].evs[i-1]=e) (hl:t.length≤1000000) (hv:t[p].vars.length≤1000000) (he:t[p].evs.length≤1000000) (ha:e.asg.length≤1000000)
  (hs:SlR 3 RPr w u t) (hsa:SlR 2 RAsg w a e.asg) :
  Calls Tryz.prog 135 #[.agg #[u],.agg #[.int .i64 p,.int .i64 i],.agg #[.int .i64 e.kind,.int .i64 e.peer,.int .i64 e.msg,.int .i64 e.time,a]] w fun x w'=>x=.returned (.int .i64 (eC t (p,i)))∧Ext w w':=by
 have HFm:=KA fun w' (h:Ext w w')=>E6 u a t p e w' hl (hs.ext RPr.keeps h)
 obtain⟨A,c,rfl,h1,h2,hc⟩:=hs.at_
 obtain⟨b,off,rfl,XJ⟩:=hc oM
 obtain⟨⟨c0,hm⟩,⟨v1,c1,OH⟩,v2,c2,aO⟩:=XJ p hp
 have hb:=jB c0
 have xJ:b<w.heap.size+1:=by omega
 have vR:b<w.heap.size+1+1:=by omega
 have hb3:b<w.heap.size+1+1+1:=by omega
 have HS2:=KA aO
 obtain⟨A1,k1,rfl,_,_,_⟩:=OH.at_
 obtain⟨A2,k2,rfl,q1,q2,q3⟩:=aO.at_
 obtain⟨b2,off2,rfl,q4⟩:=q3 oM
 have HSA:=KA hsa
 obtain⟨A3,k3,rfl,_,_,_⟩:=hsa.at_
 have HT:=KA (fun w=>RL e.time 0 1099511627776 w)
 clear hs OH aO hsa XJ hc
 go_enter Tryz.func135,Tryz.ntmps135
 by_cases h1i:1<i
 ·obtain⟨j,rfl⟩:∃j,i=j+2:=⟨i-2,by omega⟩
  obtain⟨_,_,_,e3,_⟩:=q4 j oM
  have hb2':=jB e3
  have ZNE:b2<w.heap.size+1:=by omega
  have ZNF:b2<w.heap.size+1+1:=by omega
  have hb23:b2<w.heap.size+1+1+1:=by omega
  have HE:=KA (S3 t p (j+2) e t[p].evs[j].time hp oM hi hee (YW t p j hp oM))
  go_wp2_with fail
  refine (HFm.out _ (((((Ext.refl _).alloc _).alloc _).alloc _).alloc _)).mono ?_
  rintro x w1 ⟨rfl,ZI⟩
  have LE:=(((((Ext.refl w).alloc _).alloc _).alloc _).alloc _).trans ZI
  have y3:w1.cell? ⟨w.heap.size+1+1,3,none⟩=_:=ZI.cellAt (((Ext.refl _).alloc _).cellAt (NG _ _ _ kS rfl))
  have y4:w1.cell? ⟨w.heap.size+1+1,4,none⟩=_:=ZI.cellAt (((Ext.refl _).alloc _).cellAt (NG _ _ _ kS rfl))
  have x1:w1.cell? ⟨w.heap.size+1+1+1,1,none⟩=_:=ZI.cellAt (NG _ _ _ kS rfl)
  cases hf:JB t.length p e
  ·go_wp2_with fail
   go_ret
   exact⟨by rw[HE.out,hf];rfl,LE⟩
  ·go_wp2_with fail
   refine (HT.out _).mono ?_
   rintro x w2 ⟨rfl,rfl⟩
   cases ht:inB e.time 0 1099511627776
   ·go_wp2_with fail
    go_ret
    exact⟨by rw[HE.out,hf,ht];rfl,LE⟩
   ·cases lL:decide (e.time<t[p].evs[j].time)
    ·by_cases h8:8<e.asg.length
     ·go_wp2_with fail
      go_ret
      exact⟨by rw[HE.out,hf,ht,lL];simp[h8],LE⟩
     ·go_wp2_with fail
      go_loopw [54] (ZFX t[p].vars.length e.asg w1) (fun i _=>e.asg.length-(intOf i).toNat)
      case atStart=>exact⟨0,aj _,rfl,rfl,Ext.refl _⟩
      case round =>
       obtain⟨k,hk,rfl,hz,UD⟩:=hrel
       have HZ:=KA hz
       clear hz
       have x1':=UD.cellAt x1
       have y4':=UD.cellAt y4
       by_cases yA:k<e.asg.length
       ·have HSk:=KA (HSA.out.ext RAsg.keeps (LE.trans UD))
        obtain⟨A1',k1',ev,g1,g2,g3⟩:=HSk.out.at_
        obtain⟨b5,off5,rfl,XJ⟩:=g3 oM
        injection ev with ev1 ev2 ev3
        subst ev1;subst ev3
        obtain⟨f0,f1⟩:=XJ k yA
        have hb5:=jB f0
        have hb6:=jB x1'
        have hb7:=jB y4'
        have HV:=KA (JY t[p].vars.length e.asg k yA)
        have HI1:=KA (fun w=>RL e.asg[k].v 0 ((t[p].vars.length:Int)-1) w)
        have HI2:=KA (fun w=>RL e.asg[k].val (-1073741824) 1073741824 w)
        clear XJ g3 ev2
        go_wp2_with fail
        refine (HI1.out _).mono ?_
        rintro x w2 ⟨rfl,rfl⟩
        cases c8:inB e.asg[k].v 0 ((t[p].vars.length:Int)-1)
        ·have HF2:=KA (show gJ t[p].vars.length e.asg k=2 by rw[HV.out,c8];rfl)
         have HR:=KA (RC (n:=e.asg.length) HZ.out (by rw[HF2.out];decide) yA)
         go_wp2_with fail
         go_ret
         exact⟨by rw[HE.out,hf,ht,lL,HR.out,HF2.out];simp[h8],(LE.trans UD).alloc _⟩
        ·go_wp2_with fail
         refine (HI2.out _).mono ?_
         rintro x w2 ⟨rfl,rfl⟩
         cases hi2:inB e.asg[k].val (-1073741824) 1073741824
         ·have HF2:=KA (show gJ t[p].vars.length e.asg k=2 by rw[HV.out,c8,show QL e.asg[k].val=false from hi2];rfl)
          have HR:=KA (RC (n:=e.asg.length) HZ.out (by rw[HF2.out];decide) yA)
          go_wp2_with fail
          go_ret
          exact⟨by rw[HE.out,hf,ht,lL,HR.out,HF2.out];simp[h8],(LE.trans UD).alloc _⟩
         ·go_wp2_with fail
          refine (ZAk _ (e.asg.take k) e.asg[k].v _ _ ?_ ?_ ?_).mono ?_
          ·rw[bg];omega
          ·exact ((HSk.out).take k oM).ext RAsg.keeps ((Ext.refl _).alloc _)
          ·exact NG _ _ _ rfl rfl
          rintro x w3 ⟨rfl,he3⟩
          have he4:=((Ext.refl wr).alloc _).trans he3
          cases ha2:(e.asg.take k).any fun b=>b.v==e.asg[k].v
          ·have HF0:=KA (show gJ t[p].vars.length e.asg k=0 by rw[HV.out,c8,show QL e.asg[k].val=true from hi2,ha2];rfl)
           go_wp2_with fail
           go_roundw
           case rel=>exact⟨k+1,yA,by go_num,CG HZ.out HF0.out,UD.trans he4⟩
           case measure=>simp[intOf];omega
          ·have HF8:=KA (show gJ t[p].vars.length e.asg k=8 by rw[HV.out,c8,show QL e.asg[k].val=true from hi2,ha2];rfl)
           have HR:=KA (RC (n:=e.asg.length) HZ.out (by rw[HF8.out];decide) yA)
           go_wp2_with fail
           go_ret
           exact⟨by rw[HE.out,hf,ht,lL,HR.out,HF8.out];simp[h8],(LE.trans UD).trans he4⟩
       ·have hkn:k=e.asg.length:=by omega
        subst hkn
        go_wp2_with fail
        go_ret
        exact⟨by rw[HE.out,hf,ht,lL];simp[h8,HZ.out],LE.trans UD⟩
    ·go_wp2_with fail
     go_ret
     exact⟨by rw[HE.out,hf,ht,lL];rfl,LE⟩
 ·have HE:=KA (S3 t p i e 0 hp hi0 hi hee (by unfold xI;simp[h1i]))
  go_wp2_with fail
  refine (HFm.out _ (((((Ext.refl _).alloc _).alloc _).alloc _).alloc _)).mono ?_
  rintro x w1 ⟨rfl,ZI⟩
  have LE:=(((((Ext.refl w).alloc _).alloc _).alloc _).alloc _).trans ZI
  have y3:w1.cell? ⟨w.heap.size+1+1,3,none⟩=_:=ZI.cellAt (((Ext.refl _).alloc _).cellAt (NG _ _ _ kS rfl))
  have y4:w1.cell? ⟨w.heap.size+1+1,4,none⟩=_:=ZI.cellAt (((Ext.refl _).alloc _).cellAt (NG _ _ _ kS rfl))
  have x1:w1.cell? ⟨w.heap.size+1+1+1,1,none⟩=_:=ZI.cellAt (NG _ _ _ kS rfl)
  cases hf:JB t.length p e
  ·go_wp2_with fail
   go_ret
   exact⟨by rw[HE.out,hf];rfl,LE⟩
  ·go_wp2_with fail
   refine (HT.out _).mono ?_
   rintro x w2 ⟨rfl,rfl⟩
   cases ht:inB e.time 0 1099511627776
   ·go_wp2_with fail
    go_ret
    exact⟨by rw[HE.out,hf,ht];rfl,LE⟩
   ·cases lL:decide (e.time<0)
    ·by_cases h8:8<e.asg.length
     ·go_wp2_with fail
      go_ret
      exact⟨by rw[HE.out,hf,ht,lL];simp[h8],LE⟩
     ·go_wp2_with fail
      go_loopw [54] (ZFX t[p].vars.length e.asg w1) (fun i _=>e.asg.length-(intOf i).toNat)
      case atStart=>exact⟨0,aj _,rfl,rfl,Ext.refl _⟩
      case round =>
       obtain⟨k,hk,rfl,hz,UD⟩:=hrel
       have HZ:=KA hz
       clear hz
       have x1':=UD.cellAt x1
       have y4':=UD.cellAt y4
       by_cases yA:k<e.asg.length
       ·have HSk:=KA (HSA.out.ext RAsg.keeps (LE.trans UD))
        obtain⟨A1',k1',ev,g1,g2,g3⟩:=HSk.out.at_
        obtain⟨b5,off5,rfl,XJ⟩:=g3 oM
        injection ev with ev1 ev2 ev3
        subst ev1;subst ev3
        obtain⟨f0,f1⟩:=XJ k yA
        have hb5:=jB f0
        have hb6:=jB x1'
        have hb7:=jB y4'
        have HV:=KA (JY t[p].vars.length e.asg k yA)
        have HI1:=KA (fun w=>RL e.asg[k].v 0 ((t[p].vars.length:Int)-1) w)
        have HI2:=KA (fun w=>RL e.asg[k].val (-1073741824) 1073741824 w)
        clear XJ g3 ev2
        go_wp2_with fail
        refine (HI1.out _).mono ?_
        rintro x w2 ⟨rfl,rfl⟩
        cases c8:inB e.asg[k].v 0 ((t[p].vars.length:Int)-1)
        ·have HF2:=KA (show gJ t[p].vars.length e.asg k=2 by rw[HV.out,c8];rfl)
         have HR:=KA (RC (n:=e.asg.length) HZ.out (by rw[HF2.out];decide) yA)
         go_wp2_with fail
         go_ret
         exact⟨by rw[HE.out,hf,ht,lL,HR.out,HF2.out];simp[h8],(LE.trans UD).alloc _⟩
        ·go_wp2_with fail
         refine (HI2.out _).mono ?_
         rintro x w2 ⟨rfl,rfl⟩
         cases hi2:inB e.asg[k].val (-1073741824) 1073741824
         ·have HF2:=KA (show gJ t[p].vars.length e.asg k=2 by rw[HV.out,c8,show QL e.asg[k].val=false from hi2];rfl)
          have HR:=KA (RC (n:=e.asg.length) HZ.out (by rw[HF2.out];decide) yA)
          go_wp2_with fail
          go_ret
          exact⟨by rw[HE.out,hf,ht,lL,HR.out,HF2.out];simp[h8],(LE.trans UD).alloc _⟩
         ·go_wp2_with fail
          refine (ZAk _ (e.asg.take k) e.asg[k].v _ _ ?_ ?_ ?_).mono ?_
          ·rw[bg];omega
          ·exact ((HSk.out).take k oM).ext RAsg.keeps ((Ext.refl _).alloc _)
          ·exact NG _ _ _ rfl rfl
          rintro x w3 ⟨rfl,he3⟩
          have he4:=((Ext.refl wr).alloc _).trans he3
          cases ha2:(e.asg.take k).any fun b=>b.v==e.asg[k].v
          ·have HF0:=KA (show gJ t[p].vars.length e.asg k=0 by rw[HV.out,c8,show QL e.asg[k].val=true from hi2,ha2];rfl)
           go_wp2_with fail
           go_roundw
           case rel=>exact⟨k+1,yA,by go_num,CG HZ.out HF0.out,UD.trans he4⟩
           case measure=>simp[intOf];omega
          ·have HF8:=KA (show gJ t[p].vars.length e.asg k=8 by rw[HV.out,c8,show QL e.asg[k].val=true from hi2,ha2];rfl)
           have HR:=KA (RC (n:=e.asg.length) HZ.out (by rw[HF8.out];decide) yA)
           go_wp2_with fail
           go_ret
           exact⟨by rw[HE.out,hf,ht,lL,HR.out,HF8.out];simp[h8],(LE.trans UD).trans he4⟩
       ·have hkn:k=e.asg.length:=by omega
        subst hkn
        go_wp2_with fail
        go_ret
        exact⟨by rw[HE.out,hf,ht,lL];simp[h8,HZ.out],LE.trans UD⟩
    ·go_wp2_with fail
     go_ret
     exact⟨by rw[HE.out,hf,ht,lL];rfl,LE⟩
attribute [local go_sem] Oper.semAt_some

theorem DI (u:Value) (w:World):Calls Tryz.prog 88 #[.agg #[u]] w fun e w'=>e=.returned (.func (.func 138) #[] #[.pointer (some ⟨w.heap.size,0,none⟩)])∧w'=w.alloc (.cells #[u] 30):=by
 go_enter Tryz.func88,Tryz.ntmps88
 go_wp2_with fail
 go_ret
 exact⟨rfl,rfl⟩

def MU (w:World) (u:Value) (x:Nat×Nat):Value:=
 match u with
 |.slice (some a) _ _=>match w.cell? ⟨a.block,a.off+x.1*3+2,none⟩ with
   |some (.slice (some b) _ _)=>.agg #[(w.cell? ⟨b.block,b.off+(x.2-1)*5,none⟩).getD undef,(w.cell? ⟨b.block,b.off+(x.2-1)*5+1,none⟩).getD undef,(w.cell? ⟨b.block,b.off+(x.2-1)*5+2,none⟩).getD undef,(w.cell? ⟨b.block,b.off+(x.2-1)*5+3,none⟩).getD undef,(w.cell? ⟨b.block,b.off+(x.2-1)*5+4,none⟩).getD undef]
   |_=>undef
 |_=>undef
def SA (x:Nat×Nat):Value:=.agg #[.int .i64 x.1,.int .i64 x.2]
def VEv (w:World) (v:Value) (e:Ev):Prop:=∃a,v=.agg #[.int .i64 e.kind,.int .i64 e.peer,.int .i64 e.msg,.int .i64 e.time,a]∧SlR 2 RAsg w a e.asg
theorem VEv.ext {w w':World} {v:Value} {e:Ev} (h:VEv w v e) (he:Ext w w'):VEv w' v e:=by
 obtain⟨a,hv,hs⟩:=h
 exact⟨a,hv,hs.ext RAsg.keeps he⟩
theorem AC {t:Tr} {x:Nat×Nat}:x∈ids t↔∃(hp:x.1<t.length),1≤x.2∧x.2≤t[x.1].evs.length:=by
 obtain⟨p,i⟩:=x
 unfold ids pN
 simp only[jn,ba,cr,Prod.mk.injEq]
 constructor
 ·rintro⟨q,hq,j,hj,rfl,rfl⟩
  unfold nA at hj;rw[YB dfPr t hq]at hj
  exact⟨hq,by omega,by omega⟩
 ·rintro⟨hp,h1,h2⟩
  exact⟨p,hp,i-1,by unfold nA;rw[YB dfPr t hp];omega,rfl,by omega⟩
theorem KG {t:Tr} {p i:Nat} (hp:p<t.length) (hi:i<t[p].evs.length):uA t (p,i+1)=t[p].evs[i]:=by
 unfold uA nA;simp only[YB dfPr t hp,fd];exact YB PI _ hi
def bD (t:Tr) (p i:Nat):List (Nat×Nat):=(List.range p).flatMap (pN t)++(List.range i).map fun j=>(p,j+1)
theorem gG (t:Tr) (p i:Nat):bD t p (i+1)=bD t p i++[(p,i+1)]:=by
 unfold bD;rw[fw,bh,bc];rfl
theorem eF (t:Tr) (p:Nat) (hp:p<t.length):bD t p t[p].evs.length=bD t (p+1) 0:=by
 unfold bD
 rw[fw,kf]
 simp[pN,nA,ah hp]
theorem JK (t:Tr):bD t t.length 0=ids t:=by simp[bD,ids]
theorem JI (t:Tr) (p i:Nat) (hp:p<t.length) (hi:i≤t[p].evs.length):bD t p i <+: ids t:=by
 have h1:ids t=bD t (p+1) 0++((List.range (t.length-(p+1))).map (· + (p+1))).flatMap (pN t):=by
  unfold bD ids
  have:List.range t.length=List.range (p+1)++(List.range (t.length-(p+1))).map (· + (p+1)):=by
   apply lm
   ·simp;omega
   ·intro j h1 h2
    rw[List.getElem_range,List.getElem_append]
    split
    ·simp
    ·rename_i h3
     simp at h3
     simp;omega
  rw[this,kf];simp
 have h2:bD t p i <+: bD t p t[p].evs.length:=by
  unfold bD
  rw[show t[p].evs.length=i+(t[p].evs.length-i) by omega,kg,bh,←bc]
  exact List.prefix_append _ _
 rw[h1]
 exact h2.trans (by rw[eF t p hp];exact List.prefix_append _ _)
theorem Ext.more' {a w w':World} (h:Ext a w) (k:Below a.heap.size w w'):Ext a w':=Below.trans h k
abbrev Idt (t:Tr):={x:Nat×Nat // x∈ids t}

theorem Y7 (n:Nat) (hn:1≤n) (w0:World) (u:Value) (t:Tr) (l Bt N:Nat) (hl:t.length≤1000000) (LJ:∀x∈t,x.evs.length≤1000000) (hN:(ids t).length≤N) (hs:SlR 3 RPr w0 u t) (J Jx:List (Idt t)→World→Prop)
  (hJa:∀pre W o,J pre W→J pre (W.alloc o))
  (hY:∀pre x W,J pre W→pre.length<N→YieldAt Fence.wide (n-1) Tryz.prog l #[SA x.1,MU w0 u x.1] W fun e W' =>
   (e=.returned (.bool true)∧J (pre++[x]) W'∧Below w0.heap.size W W')∨(e=.returned (.bool false)∧Jx (pre++[x]) W'))
  (W:World) (UD:Ext w0 W) (hBt:W.cell? ⟨Bt,0,none⟩=some u) (hB0:w0.heap.size≤Bt) (h0:J [] W) :
  CallsIn Fence.wide n Tryz.prog 138 #[.func (.yield l) #[] #[],.pointer (some ⟨Bt,0,none⟩)] W fun e W'=>(∃v,e=.returned v) ∧
   ((∃ys,ys.map (·.1)=ids t∧J ys W')∨(∃pre,pre.map (·.1) <+: ids t∧Jx pre W')):=by
 refine callsIn_of_wp Tryz.func138 rfl trivial ?_ rfl
 simp only[Tryz.ntmps138,dx,ej,fq,Nat.reduceAdd,Nat.reduceSub,ig,ii,ij,ik,ee,da]
 obtain⟨A,c,rfl,_,_,hc⟩:=hs.at_
 have hJ0:=KA (hJa)
 clear hJa
 have HY:=KA hY
 clear hY
 gi_wp2
 gi_loopw [10] (fun i wr=>∃k:Nat,k≤t.length∧i=.int .i64 k∧(∃pre:List (Idt t),pre.map (·.1)=bD t k 0∧J pre wr)∧Ext w0 wr) (fun i _=>t.length-(intOf i).toNat)
 case atStart=>exact⟨0,aj _,rfl,⟨[],rfl,h0⟩,UD⟩
 case round =>
  obtain⟨k,hk,rfl,⟨pre,jL,hJp⟩,hex⟩:=hrel
  have HPre:=KA jL
  clear jL
  by_cases yA:k<t.length
  ·obtain⟨b,off,rfl,XJ⟩:=hc oM
   obtain⟨⟨d0,hm⟩,⟨v1,d1,OH⟩,v2,d2,aO⟩:=XJ k yA
   obtain⟨A2,cc2,rfl,h21,h22,kY⟩:=aO.at_
   have c0:=hex.cellAt d0
   have c1:=hex.cellAt d1
   have c2:=hex.cellAt d2
   obtain⟨A1,cc1,rfl,h11,h12,_⟩:=OH.at_
   have hlk:=LJ _ (ak yA)
   clear OH
   gi_wp2
   have hJ1:=hJ0.out pre wr (Obj.cells #[Value.string t[k].name,Value.slice A1 t[k].vars.length cc1,Value.slice A2 t[k].evs.length cc2] 65) hJp
   have ZLl:=hex.alloc (Obj.cells #[Value.string t[k].name,Value.slice A1 t[k].vars.length cc1,Value.slice A2 t[k].evs.length cc2] 65)
   have D2:=KA d2
   clear aO c0 c1 c2 d0 d1 d2
   generalize wr.alloc (Obj.cells #[Value.string t[k].name,Value.slice A1 t[k].vars.length cc1,Value.slice A2 t[k].evs.length cc2] 65)=wo at hJ1 ZLl⊢
   gi_loopw [18] (fun i wi=>∃j:Nat,j≤t[k].evs.length∧i=.int .i64 j∧(∃pre:List (Idt t),pre.map (·.1)=bD t k j∧J pre wi)∧Ext w0 wi) (fun i _=>t[k].evs.length-(intOf i).toNat)
   case atStart=>exact⟨0,aj _,rfl,⟨pre,HPre.out,hJ1⟩,ZLl⟩
   case round =>
    obtain⟨j,hj,rfl,⟨pre,jL,hJp⟩,hex⟩:=hrel
    have HPre:=KA jL
    clear jL
    by_cases lJ:j<t[k].evs.length
    ·obtain⟨b2,off2,rfl,HW⟩:=kY oM
     obtain⟨g0,g1,g2,g3,va,g4,hs4⟩:=HW j lJ
     have e0:=hex.cellAt g0
     have e1:=hex.cellAt g1
     have e2:=hex.cellAt g2
     have e3:=hex.cellAt g3
     have e4:=hex.cellAt g4
     obtain⟨A4,cc4,rfl,h41,h42,_⟩:=hs4.at_
     have hx:(k,j+1)∈ids t:=AC.2 ⟨yA,by simp,lJ⟩
     have IB:pre.length<N:=by
      have h1:=(JI t k (j+1) yA lJ).length_le
      rw[gG,ap,←HPre.out,aa]at h1
      simp at h1;omega
     obtain⟨fn,tmps,assign,body,hy,hR⟩:=HY.out _ ⟨(k,j+1),hx⟩ _ (hJ0.out _ _ (Obj.cells #[.int .i64 t[k].evs[j].kind,.int .i64 t[k].evs[j].peer,.int .i64 t[k].evs[j].msg,.int .i64 t[k].evs[j].time,Value.slice A4 t[k].evs[j].asg.length cc4] 68) hJp) IB
     have qP:MU w0 (Value.slice (some {block:=b,off:=off}) (List.length t) c) (k,j+1)=.agg #[.int .i64 t[k].evs[j].kind,.int .i64 t[k].evs[j].peer,.int .i64 t[k].evs[j].msg,.int .i64 t[k].evs[j].time,Value.slice A4 t[k].evs[j].asg.length cc4]:=by
      unfold MU
      simp only[D2.out,fd,g0,g1,g2,g3,g4,fu]
     clear g0 g1 g2 g3 g4
     unfold SA at hy
     rw[qP]at hy
     simp only at hy
     rw[show (((j+1:Nat):Nat):Int)=(j:Int)+1 from by push_cast;rfl]at hy
     clear qP
     gi_wp2
     refine hR.mono ?_
     rintro e W3 (⟨rfl,hJ3,hk3⟩|⟨rfl,ZNG⟩)
     ·gi_wp2
      go_roundw
      case rel=>exact⟨j+1,by omega,by go_num,⟨_,by rw[bh,HPre.out,gG];rfl,hJ3⟩,hex.trans ((Ext.refl _).alloc _) |>.more' hk3⟩
      case measure=>simp[intOf];omega
     ·gi_wp2
      refine bodyPost_ret (results_none rfl _ _ _) rfl ?_
      exact⟨⟨_,rfl⟩,.inr ⟨_,by rw[bh,HPre.out];exact gG t k j▸JI t k (j+1) yA lJ,ZNG⟩⟩
    ·have hjm:j=t[k].evs.length:=by omega
     have HP2:=KA (show pre.map (·.1)=bD t (k+1) 0 by rw[HPre.out,hjm,eF])
     clear hjm
     gi_wp2
     go_roundw
     case rel=>exact⟨k+1,by omega,by go_num,⟨_,HP2.out,hJp⟩,hex⟩
     case measure=>simp[intOf];omega
  ·obtain rfl:k=t.length:=by omega
   gi_wp2
   go_end0
   exact⟨⟨_,rfl⟩,.inl ⟨pre,by rw[HPre.out,JK],hJp⟩⟩

theorem GT {w0:World} {u:Value} {t:Tr} (hs:SlR 3 RPr w0 u t) {x:Nat×Nat} (hx:x∈ids t):VEv w0 (MU w0 u x) (uA t x):=by
 obtain⟨p,i⟩:=x
 obtain⟨hp,h1,h2⟩:=AC.1 hx
 simp only at hp h1 h2
 obtain⟨j,rfl⟩:∃j,i=j+1:=⟨i-1,by omega⟩
 rw[KG hp oM]
 obtain⟨A,c,rfl,_,_,hc⟩:=hs.at_
 obtain⟨b,off,rfl,XJ⟩:=hc oM
 obtain⟨_,_,v2,d2,aO⟩:=XJ p hp
 obtain⟨A2,cc2,rfl,_,_,kY⟩:=aO.at_
 obtain⟨b2,off2,rfl,HW⟩:=kY oM
 obtain⟨g0,g1,g2,g3,va,g4,hs4⟩:=HW j oM
 refine⟨va,?_,hs4⟩
 unfold MU
 simp only[d2,fd,g0,g1,g2,g3,g4,fu]

theorem AG (n:Nat) (hn:1≤n) (w0:World) (u:Value) (t:Tr) (Bt:Nat) (w:World) (hl:t.length≤1000000) (LJ:∀x∈t,x.evs.length≤1000000) (hs:SlR 3 RPr w0 u t) (UD:Ext w0 w) (hBt:w.cell? ⟨Bt,0,none⟩=some u) (hB0:w0.heap.size≤Bt) :
  SeqStopsK Fence.wide n Tryz.prog 138 #[.pointer (some ⟨Bt,0,none⟩)] (fun x:Idt t=>#[SA x.1,MU w0 u x.1]) (Below w0.heap.size) (fun ys=>ys.map (·.1)=ids t) (fun pre=>pre.map (·.1) <+: ids t) (ids t).length w:=fun l J Jx W hW hJ _ hY h0 =>
 Y7 n hn w0 u t l Bt (ids t).length hl LJ (ai _) hs J Jx (fun pre W o h=>hJ pre W _ none h (World.grownBy_alloc W o none) (fun r e=>by cases e)) hY W (UD.trans (Below.mono hW (ai _))) (Ext.cellAt hW hBt) hB0 h0

def UA (W:World) (B:Nat) (t:TypeId) (cs:Array Value):Prop:=W.heap[B]? = some (.cells cs t (0,0))
theorem UA.lt {W:World} {B:Nat} {t:TypeId} {cs:Array Value} (h:UA W B t cs):B<W.heap.size:=(bw.1 h).1
theorem UA.cell {W:World} {B:Nat} {t:TypeId} {cs:Array Value} (h:UA W B t cs) {j:Nat} {v:Value} (hj:cs[j]? = some v):W.cell? ⟨B,j,none⟩=some v:=by
 simp[World.cell?,show W.heap[B]? = _ from h,hj]
theorem UA.frozen {W:World} {B:Nat} {t:TypeId} {cs:Array Value} (h:UA W B t cs) (j:Nat):W.frozen? ⟨B,j,none⟩=false:=by
 simp[World.frozen?,show W.heap[B]? = _ from h]
theorem UA.new (W:World) (t:TypeId) (cs:Array Value):UA (W.alloc (.cells cs t)) W.heap.size t cs:=World.alloc_heap_new W _
theorem UA.newAt {W:World} {B:Nat} (t:TypeId) (cs:Array Value) (h:B=W.heap.size):UA (W.alloc (.cells cs t)) B t cs:=by subst h;exact UA.new W t cs
theorem UA.kept {W W':World} {row:Option Nat} {B:Nat} {t:TypeId} {cs:Array Value} (h:UA W B t cs) (hg:W.grownBy W' row) (qG:some B≠row):UA W' B t cs:=(hg.block B h.lt qG).trans h
theorem UA.alloc {W:World} {B:Nat} {t:TypeId} {cs:Array Value} (h:UA W B t cs) (o:Obj):UA (W.alloc o) B t cs:=h.kept (World.grownBy_alloc W o none) kS
theorem UA.ext {W W':World} {B:Nat} {t:TypeId} {cs:Array Value} (h:UA W B t cs) (he:Ext W W'):UA W' B t cs:=(he.block B h.lt).trans h
theorem UA.below {W W':World} {B n:Nat} {t:TypeId} {cs:Array Value} (h:UA W B t cs) (he:Below n W W') (hB:B<n):UA W' B t cs:=(he.block B hB).trans h
theorem UA.drew {W:World} {B:Nat} {t:TypeId} {cs:Array Value} (h:UA W B t cs):UA W.drew B t cs:=h
theorem UA.drewN {W:World} {B:Nat} {t:TypeId} {cs:Array Value} (h:UA W B t cs) (n:Nat):UA (W.drewN n) B t cs:=h
theorem UA.set {W:World} {B:Nat} {t:TypeId} {cs:Array Value} (h:UA W B t cs) (j:Nat) (v:Value):UA (W.setCell ⟨B,j,none⟩ v) B t (cs.setIfInBounds j v):=by
 obtain⟨yA,hk⟩:=bw.1 h
 show (W.heap.modify B _)[B]? = _
 rw[fy (by rw[Array.size_modify];exact yA),Array.getElem_modify_self,hk]
 rfl
theorem UA.other {W:World} {B B' j:Nat} {t:TypeId} {cs:Array Value} (h:UA W B t cs) (qG:B≠B') (u:Value):UA (W.setCell ⟨B',j,none⟩ u) B t cs:=
 (Below.heap_setCell _ _ _ _ (by simpa using qG)).trans h
theorem UA.putObj {W:World} {B l:Nat} {t:TypeId} {cs:Array Value} {o:Obj} (h:UA W B t cs) (hl:W.heap[l]? = some o) (ho:o.isCells=false) (o':Obj):UA (W.putObj l o') B t cs:=
 h.kept (grownBy_putObj' W l o') (fun e=>by cases e;rw[show W.heap[B]? = _ from h]at hl;cases hl;cases ho)
theorem UA.same {W:World} {B:Nat} {t t':TypeId} {cs cs':Array Value} (h:UA W B t cs) (h':UA W B t' cs'):cs=cs':=by
 have:=(show W.heap[B]? = _ from h).symm.trans h';injection this with this;injection this
theorem ZCF {β:Type} (B n:Nat) (t:TypeId) (p:β→Array Value→Prop):OwnFrom n (fun s W=>∃cs,UA W B t cs∧p s cs):=by
 rintro s X Y row ⟨cs,h,hp⟩ hg JD
 exact⟨cs,h.kept hg (fun e'=>by obtain⟨_,o,ho,hc⟩:=JD B e'.symm;rw[show X.heap[B]? = _ from h]at ho;cases ho;cases hc),hp⟩
theorem tA {β:Type} (B n:Nat) (t:TypeId) (f:β→Array Value):OwnFrom n (fun s W=>UA W B t (f s)):=by
 rintro s X Y row h hg JD
 exact h.kept hg (fun e'=>by obtain⟨_,o,ho,hc⟩:=JD B e'.symm;rw[show X.heap[B]? = _ from h]at ho;cases ho;cases hc)
theorem YH {β:Type} {n:Nat} {w:World} (hn:w.heap.size≤n):OwnFrom n (fun (_:β) W=>Ext w W):=ownFrom_below (ai _) hn
theorem Ext.set {a w:World} (h:Ext a w) {B j:Nat} (hB:a.heap.size≤B) (u:Value):Ext a (w.setCell ⟨B,j,none⟩ u):=Below.setCell h (p:=⟨B,j,none⟩) hB u
theorem Ext.putObj {a w:World} {l:Nat} {o:Obj} (h:Ext a w) (hl:a.heap.size≤l) (hw:w.heap[l]? = some o) (o':Obj):Ext a (w.putObj l o'):=
 Below.grown h (grownBy_putObj' w l o') h.size (fun k e=>by cases e;exact hl)
theorem UA.set1 {W:World} {B:Nat} {t:TypeId} {a v:Value} (h:UA W B t #[a]):UA (W.setCell ⟨B,0,none⟩ v) B t #[v]:=h.set 0 v
theorem UA.set2_0 {W:World} {B:Nat} {t:TypeId} {a0 a1 v:Value} (h:UA W B t #[a0,a1]):UA (W.setCell ⟨B,0,none⟩ v) B t #[v,a1]:=h.set 0 v
theorem UA.set2_1 {W:World} {B:Nat} {t:TypeId} {a0 a1 v:Value} (h:UA W B t #[a0,a1]):UA (W.setCell ⟨B,1,none⟩ v) B t #[a0,v]:=h.set 1 v
theorem UA.set3_0 {W:World} {B:Nat} {t:TypeId} {a0 a1 a2 v:Value} (h:UA W B t #[a0,a1,a2]):UA (W.setCell ⟨B,0,none⟩ v) B t #[v,a1,a2]:=h.set 0 v
theorem UA.set3_1 {W:World} {B:Nat} {t:TypeId} {a0 a1 a2 v:Value} (h:UA W B t #[a0,a1,a2]):UA (W.setCell ⟨B,1,none⟩ v) B t #[a0,v,a2]:=h.set 1 v
theorem UA.set3_2 {W:World} {B:Nat} {t:TypeId} {a0 a1 a2 v:Value} (h:UA W B t #[a0,a1,a2]):UA (W.setCell ⟨B,2,none⟩ v) B t #[a0,a1,v]:=h.set 2 v
theorem UA.set4_0 {W:World} {B:Nat} {t:TypeId} {a0 a1 a2 a3 v:Value} (h:UA W B t #[a0,a1,a2,a3]):UA (W.setCell ⟨B,0,none⟩ v) B t #[v,a1,a2,a3]:=h.set 0 v
theorem UA.set4_1 {W:World} {B:Nat} {t:TypeId} {a0 a1 a2 a3 v:Value} (h:UA W B t #[a0,a1,a2,a3]):UA (W.setCell ⟨B,1,none⟩ v) B t #[a0,v,a2,a3]:=h.set 1 v
theorem UA.set4_2 {W:World} {B:Nat} {t:TypeId} {a0 a1 a2 a3 v:Value} (h:UA W B t #[a0,a1,a2,a3]):UA (W.setCell ⟨B,2,none⟩ v) B t #[a0,a1,v,a3]:=h.set 2 v
theorem UA.set4_3 {W:World} {B:Nat} {t:TypeId} {a0 a1 a2 a3 v:Value} (h:UA W B t #[a0,a1,a2,a3]):UA (W.setCell ⟨B,3,none⟩ v) B t #[a0,a1,a2,v]:=h.set 3 v
theorem UA.set5_0 {W:World} {B:Nat} {t:TypeId} {a0 a1 a2 a3 a4 v:Value} (h:UA W B t #[a0,a1,a2,a3,a4]):UA (W.setCell ⟨B,0,none⟩ v) B t #[v,a1,a2,a3,a4]:=h.set 0 v
theorem UA.set5_1 {W:World} {B:Nat} {t:TypeId} {a0 a1 a2 a3 a4 v:Value} (h:UA W B t #[a0,a1,a2,a3,a4]):UA (W.setCell ⟨B,1,none⟩ v) B t #[a0,v,a2,a3,a4]:=h.set 1 v
theorem UA.set5_2 {W:World} {B:Nat} {t:TypeId} {a0 a1 a2 a3 a4 v:Value} (h:UA W B t #[a0,a1,a2,a3,a4]):UA (W.setCell ⟨B,2,none⟩ v) B t #[a0,a1,v,a3,a4]:=h.set 2 v
theorem UA.set5_3 {W:World} {B:Nat} {t:TypeId} {a0 a1 a2 a3 a4 v:Value} (h:UA W B t #[a0,a1,a2,a3,a4]):UA (W.setCell ⟨B,3,none⟩ v) B t #[a0,a1,a2,v,a4]:=h.set 3 v
theorem UA.set5_4 {W:World} {B:Nat} {t:TypeId} {a0 a1 a2 a3 a4 v:Value} (h:UA W B t #[a0,a1,a2,a3,a4]):UA (W.setCell ⟨B,4,none⟩ v) B t #[a0,a1,a2,a3,v]:=h.set 4 v
theorem KF.set {B:Nat} {W X:World} (h:KeepsFrom B W X) (a:Addr) (v:Value):KeepsFrom B W (X.setCell a v):=h.trans ((KeepsOthers.setCell _ _ _).from _)
theorem KF.alloc {B:Nat} {W X:World} (h:KeepsFrom B W X) (o:Obj):KeepsFrom B W (X.alloc o):=h.trans ((KeepsOthers.alloc _ _).from _)
theorem KF.drew {B:Nat} {W X:World} (h:KeepsFrom B W X):KeepsFrom B W X.drew:=h.trans ((KeepsOthers.drew _).from _)
theorem KF.drewN {B:Nat} {W X:World} (h:KeepsFrom B W X) (n:Nat):KeepsFrom B W (X.drewN n):=⟨h.size,h.same⟩
theorem KF.ext {B:Nat} {W X Y:World} (h:KeepsFrom B W X) (he:Ext X Y):KeepsFrom B W Y:=
 h.trans ⟨he.size,fun k o _ hk _=>(he.block k (bw.1 hk).1).trans hk⟩
theorem BL.set {n:Nat} {W X:World} (h:Below n W X) (b j:Nat) (v:Value) (hb:n≤b):Below n W (X.setCell ⟨b,j,none⟩ v):=h.setCell (p:=⟨b,j,none⟩) hb v
theorem BL.alloc {n:Nat} {W X:World} (h:Below n W X) (o:Obj) (hn:n≤W.heap.size):Below n W (X.alloc o):=Below.alloc h (dq hn h.size) o
theorem BL.drew {n:Nat} {W X:World} (h:Below n W X):Below n W X.drew:=Below.drew h
theorem BL.drewN {n:Nat} {W X:World} (h:Below n W X) (k:Nat):Below n W (X.drewN k):=⟨h.os,h.tape,h.output,h.size,h.block⟩
theorem BL.ext {n:Nat} {W X Y:World} (h:Below n W X) (he:Ext X Y) (hn:n≤W.heap.size):Below n W Y:=h.trans (Below.mono he (dq hn h.size))

def AD (t:Tr) (kind m:Int) (x:Nat×Nat):Bool:=(uA t x).kind==kind&&(uA t x).msg==m
def jA (t:Tr) (l:List (Nat×Nat)) (kind m:Int):Nat×Nat:=(l.find? (AD t kind m)).getD (0,0)
def fF (t:Tr) (l:List (Nat×Nat)) (x:Nat×Nat):Nat:=
 if (uA t x).kind==2 then (if 0<(jA t l 2 (uA t x).msg).2 then 8 else 0)
 else if (uA t x).kind==3 then (if 0<(jA t l 3 (uA t x).msg).2 then 8 else if sendsB t (uA t x).peer.toNat (uA t x).msg x.1 then 0 else 7)
 else 0
def PU (t:Tr) (l:List (Nat×Nat)):Prop:=∀a x c,l=a++x::c→fF t a x=0
def OO (t:Tr) (l:List (Nat×Nat)) (cs:Array Value):Prop:=cs.size=800∧∀m:Nat,m<200 →
 cs[m*4]? = some (.int .i64 (jA t l 2 m).1)∧cs[m*4+1]? = some (.int .i64 (jA t l 2 m).2)∧cs[m*4+2]? = some (.int .i64 (jA t l 3 m).1)∧cs[m*4+3]? = some (.int .i64 (jA t l 3 m).2)

theorem lG {t:Tr} {x:Nat×Nat} (h:x∈ids t):1≤x.2:=(AC.1 h).2.1
theorem WH {np p:Nat} {e:Ev} (h:JB np p e=true) (h1:(e.kind==1)=false):∃m q:Nat,e.msg=m∧m<200∧e.peer=q∧q<np∧q≠p:=by
 unfold JB at h
 rw[h1]at h
 simp only[dt,if_false]at h
 split at h
 ·simp[inB]at h
  obtain⟨⟨⟨a,b⟩,c⟩,d,e1⟩:=h
  exact⟨e.msg.toNat,e.peer.toNat,by omega,by omega,by omega,by omega,by omega⟩
 ·cases h
theorem KO (t:Tr) (l:List (Nat×Nat)) (x:Nat×Nat) (k m:Int):jA t (l++[x]) k m=if (l.find? (AD t k m)).isSome then jA t l k m else if AD t k m x then x else (0,0):=by
 unfold jA
 rw[fc]
 cases h:l.find? (AD t k m) with
 |some y=>simp
 |none=>cases hk:AD t k m x<;>simp[hk]
theorem zO {t:Tr} {l:List (Nat×Nat)} {k m:Int} (hl:∀y∈l,1≤y.2) (h:¬0<(jA t l k m).2):l.find? (AD t k m)=none:=by
 unfold jA at h
 cases hf:l.find? (AD t k m) with
 |none=>rfl
 |some y=>rw[hf]at h;have:=hl y (fk hf);simp at h;omega
theorem XF {t:Tr} {l:List (Nat×Nat)} {x:Nat×Nat} {k m:Int} (h:AD t k m x=false):jA t (l++[x]) k m=jA t l k m:=by
 rw[KO,h]
 cases hf:l.find? (AD t k m) with
 |none=>simp[jA,hf]
 |some y=>simp
theorem pQ {t:Tr} {l:List (Nat×Nat)} {x:Nat×Nat} {k m:Int} (hl:∀y∈l,1≤y.2) (h0:¬0<(jA t l k m).2) (h:AD t k m x=true):jA t (l++[x]) k m=x:=by
 rw[KO,zO hl h0,h];simp
theorem PU.snoc {t:Tr} {l:List (Nat×Nat)} {x:Nat×Nat} (h:PU t l) (hx:fF t l x=0):PU t (l++[x]):=by
 intro a y c he
 rcases List.eq_nil_or_concat c with rfl|⟨c',z,rfl⟩
 ·have h2:=List.append_inj' he rfl
  obtain⟨rfl,h3⟩:=h2
  injection h3 with h3;subst h3;exact hx
 ·rw[show a++y::(c'.concat z)=(a++y::c')++[z] by simp]at he
  have h2:=List.append_inj' he rfl
  exact h a y c' h2.1
theorem tO {cs:Array Value} {i j:Nat} {a b:Value} (hi:i+1<cs.size):((cs.setIfInBounds i a).setIfInBounds (i+1) b)[j]? = if j=i then some a else if j=i+1 then some b else cs[j]?:=by
 simp only[jr,lj]
 by_cases h1:j=i
 ·subst h1;rw[if_neg oM,if_pos rfl,if_pos oM,if_pos rfl]
 ·by_cases h2:j=i+1
  ·subst h2;rw[if_pos rfl,if_pos hi,if_neg h1,if_pos rfl]
  ·rw[if_neg oM,if_neg oM,if_neg h1,if_neg h2]
theorem kG {t:Tr} (pre:List (Idt t)) (x:Idt t):(pre++[x]).map (·.1)=pre.map (·.1)++[x.1]:=by rw[bh];rfl
theorem OO.keep {t:Tr} {l:List (Nat×Nat)} {x:Nat×Nat} {cs:Array Value} (h:OO t l cs) (h2:((uA t x).kind==2)=false) (h3:((uA t x).kind==3)=false):OO t (l++[x]) cs:=by
 refine⟨h.1,fun m hm=>?_⟩
 rw[XF (by unfold AD;rw[h2];rfl),XF (by unfold AD;rw[h3];rfl)]
 exact h.2 m hm
theorem OO.from_ {t:Tr} {l:List (Nat×Nat)} {x:Nat×Nat} {cs:Array Value} {m:Nat} (h:OO t l cs) (hl:∀y∈l,1≤y.2) (hm:m<200) (h0:¬0<(jA t l 2 m).2) (hk:((uA t x).kind==2)=true) (hx:(uA t x).msg=m) :
  OO t (l++[x]) ((cs.setIfInBounds (m*4) (.int .i64 x.1)).setIfInBounds (m*4+1) (.int .i64 x.2)):=by
 have k2:(uA t x).kind=2:=by simpa using hk
 refine⟨by simpa using h.1,fun j hj=>?_⟩
 have e3:jA t (l++[x]) 3 j=jA t l 3 j:=XF (by simp[AD,k2])
 obtain⟨a,b,c,d⟩:=h.2 j hj
 have hs:=h.1
 rw[e3]
 by_cases hjm:j=m
 ·subst hjm
  rw[pQ hl h0 (by simp[AD,k2,hx])]
  refine⟨?_,?_,?_,?_⟩<;>rw[tO oM]
  ·rw[if_pos rfl]
  ·rw[if_neg oM,if_pos rfl]
  ·rw[if_neg oM,if_neg oM];exact c
  ·rw[if_neg oM,if_neg oM];exact d
 ·rw[XF (by simp[AD,k2,hx];omega)]
  refine⟨?_,?_,?_,?_⟩<;>rw[tO oM,if_neg oM,if_neg oM]<;>assumption
theorem OO.to_ {t:Tr} {l:List (Nat×Nat)} {x:Nat×Nat} {cs:Array Value} {m:Nat} (h:OO t l cs) (hl:∀y∈l,1≤y.2) (hm:m<200) (h0:¬0<(jA t l 3 m).2) (hk:((uA t x).kind==3)=true) (hx:(uA t x).msg=m) :
  OO t (l++[x]) ((cs.setIfInBounds (m*4+2) (.int .i64 x.1)).setIfInBounds (m*4+2+1) (.int .i64 x.2)):=by
 have k3:(uA t x).kind=3:=by simpa using hk
 refine⟨by simpa using h.1,fun j hj=>?_⟩
 have e3:jA t (l++[x]) 2 j=jA t l 2 j:=XF (by simp[AD,k3])
 obtain⟨a,b,c,d⟩:=h.2 j hj
 have hs:=h.1
 rw[e3]
 by_cases hjm:j=m
 ·subst hjm
  rw[pQ hl h0 (by simp[AD,k3,hx])]
  refine⟨?_,?_,?_,?_⟩<;>rw[tO oM]
  ·rw[if_neg oM,if_neg oM];exact a
  ·rw[if_neg oM,if_neg oM];exact b
  ·rw[if_pos rfl]
  ·rw[if_neg oM,if_pos rfl]
 ·rw[XF (by simp[AD,k3,hx];omega)]
  refine⟨?_,?_,?_,?_⟩<;>rw[tO oM,if_neg oM,if_neg oM]<;>assumption

theorem kZ (t:Tr) (p:Nat):(pN t p).Nodup:=by
 unfold pN
 refine List.Pairwise.map _ (R:=(·≠·)) ?_ List.nodup_range
 intro a b hab he
 injection he with _ h2
 omega
theorem eS {f:Nat→List (Nat×Nat)} (hf:∀p x,x∈f p→x.1=p) (hn:∀p,(f p).Nodup):∀n:Nat,((List.range n).flatMap f).Nodup
 |0=>by simp
 |n+1=>by
   rw[fw,kf]
   refine ic.2 ⟨eS hf hn n,by simpa using hn n,?_⟩
   intro a ha b hb hab
   subst hab
   obtain⟨p,hp,hx⟩:=jn.1 ha
   have h1:=hf p a hx
   have h2:=hf n a (by simpa using hb)
   have:=ba.1 hp
   omega
theorem LV (t:Tr):(ids t).Nodup:=by
 refine eS (fun p x hx=>?_) (kZ t) t.length
 unfold pN at hx
 obtain⟨i,_,rfl⟩:=cr.1 hx
 rfl
theorem C6 {α:Type} {p:α→Bool} {a c:List α} {x:α} (hx:p x=true):(a++x::c).find? p=match a.find? p with|some y=>some y|none=>some x:=by
 rw[fc]
 cases a.find? p<;>simp[hx]
theorem ZAp {t:Tr} {a c:List (Nat×Nat)} {x:Nat×Nat} {k:Int} (h:ids t=a++x::c) (hk:(uA t x).kind=k):(TC t k (uA t x).msg==some x)=!decide (0<(jA t a k (uA t x).msg).2):=by
 have hn:=LV t
 rw[h]at hn
 have qT:∀y∈a,1≤y.2:=fun y hy=>lG (t:=t) (by rw[h];simp[hy])
 have e:TC t k (uA t x).msg=(a++x::c).find? (AD t k (uA t x).msg):=by unfold TC;rw[h];rfl
 rw[e,C6 (by simp[AD,hk])]
 unfold jA
 cases hf:a.find? (AD t k (uA t x).msg) with
 |none=>simp
 |some y =>
   have hy:=fk hf
   have h1:=qT y hy
   have qG:y≠x:=fun e=>by
    subst e
    have:=ic.1 hn
    exact this.2.2 y hy y kS rfl
   have h2:decide (0<y.2)=true:=ae oM
   simp[qG,h2]
theorem VM {t:Tr} {a c:List (Nat×Nat)} {x:Nat×Nat} (h:ids t=a++x::c):KD t x=fF t a x:=by
 unfold KD fF
 by_cases h2:((uA t x).kind==2)=true
 ·rw[if_pos h2,if_pos h2,ZAp h (by simpa using h2)]
  by_cases h0:0<(jA t a 2 (uA t x).msg).2<;>simp[h0]
 ·rw[if_neg h2,if_neg h2]
  by_cases h3:((uA t x).kind==3)=true
  ·rw[if_pos h3,if_pos h3,ZAp h (by simpa using h3)]
   by_cases h0:0<(jA t a 3 (uA t x).msg).2<;>simp[h0]
  ·rw[if_neg h3,if_neg h3]
theorem ZB1 {t:Tr} (h:PU t (ids t)):(ids t).find? (fun x=>KD t x != 0)=none:=by
 rw[db]
 intro x hx
 obtain⟨a,c,he⟩:=jz hx
 rw[VM he,h a x c he]
 simp
theorem ZB0 {t:Tr} {a:List (Nat×Nat)} {x:Nat×Nat} (hp:a++[x] <+: ids t) (hg:PU t a) (qG:fF t a x≠0):(ids t).find? (fun x=>KD t x != 0)=some x∧KD t x=fF t a x:=by
 obtain⟨c,hc⟩:=hp
 have he:ids t=a++x::c:=by rw[←hc];simp
 have hx:=VM he
 refine⟨?_,hx⟩
 rw[he,fc]
 have:a.find? (fun x=>KD t x != 0)=none:=by
  rw[db]
  intro y hy
  obtain⟨b,d,hb⟩:=jz hy
  rw[VM (a:=b) (c:=d++x::c) (by rw[he,hb];simp),hg b y d hb]
  simp
 rw[this]
 simp[hx,qG]
end Go.Proofs.YtmaokjojbjdpoaaGreatDoor
namespace Go.Proofs.YtmaokjojbjdpoaaGreatDoor
open Go.RowKit
set_option linter.unusedVariables false
attribute [local go_sem] Oper.semAt_some

def MI (t:Tr) (w:World) (u:Value) (l:List (Nat×Nat)) (W:World):Prop:=
 (((((((∃cs,UA W (w.heap.size+1+1+1+1) 181 cs∧OO t l cs)∧UA W (w.heap.size+1) 133 #[.pointer none])∧UA W (w.heap.size+1+1) 70 #[.int .i64 0,.int .i64 0])∧UA W (w.heap.size+1+1+1) 35 #[.int .i64 0]) ∧
   UA W (w.heap.size+1+1+1+1+1) 133 #[.pointer (some ⟨w.heap.size+1+1+1+1,0,none⟩)])∧UA W w.heap.size 30 #[u])∧Ext w W)∧PU t l

def MX (t:Tr) (w:World) (l:List (Nat×Nat)) (W:World):Prop:=
 ∃a x,((((l=a++[x]∧PU t a∧fF t a x≠0)∧UA W (w.heap.size+1) 133 #[.pointer none])∧UA W (w.heap.size+1+1) 70 #[.int .i64 x.1,.int .i64 x.2])∧UA W (w.heap.size+1+1+1) 35 #[.int .i64 (fF t a x)])∧Ext w W
def MPost (t:Tr) (w:World) (e:Ending) (w':World):Prop:=Ext w w' ∧
 ((∃x,(ids t).find? (fun x=>KD t x != 0)=some x∧e=.returned (.tuple #[.pointer none,SA x,.int .i64 (KD t x)])) ∨
  ((ids t).find? (fun x=>KD t x != 0)=none∧∃b cs,w.heap.size≤b∧UA w' b 181 cs∧OO t (ids t) cs∧e=.returned (.tuple #[.pointer (some ⟨b,0,none⟩),SA (0,0),.int .i64 0])))
theorem SX (t:Tr) (w:World) (u:Value) {n:Nat} (hn:w.heap.size≤n):OwnFrom n (fun (pre:List (Idt t)) W=>MI t w u (pre.map (·.1)) W):=
 OwnFrom.and (OwnFrom.and (OwnFrom.and (OwnFrom.and (OwnFrom.and (OwnFrom.and (OwnFrom.and (ZCF _ _ _ _) (tA _ _ _ _)) (tA _ _ _ _)) (tA _ _ _ _)) (tA _ _ _ _)) (tA _ _ _ _)) (YH hn)) (ownFrom_pure _ _)
theorem ZHN (t:Tr) (w:World) {n:Nat} (hn:w.heap.size≤n):OwnFrom n (fun (pre:List (Idt t)) W=>MX t w (pre.map (·.1)) W):=by
 rintro s X Y row ⟨a,x,h⟩ hg hr
 refine⟨a,x,⟨⟨⟨h.1.1.1.1,?_⟩,?_⟩,?_⟩,YH hn () X Y row h.2 hg hr⟩
 ·exact tA _ n _ (fun (_:Unit)=>_) () X Y row h.1.1.1.2 hg hr
 ·exact tA _ n _ (fun (_:Unit)=>_) () X Y row h.1.1.2 hg hr
 ·exact tA _ n _ (fun (_:Unit)=>_) () X Y row h.1.2 hg hr
theorem NW:Tryz.zeroCells181=Array.replicate 800 (.int .i64 0):=by kernel_rfl
theorem OO.zero (t:Tr):OO t [] Tryz.zeroCells181:=by
 rw[NW]
 refine⟨by simp,fun m hm=>?_⟩
 unfold jA
 have h:∀k,k<800→(Array.replicate 800 (Value.int .i64 0))[k]? = some (.int .i64 0):=fun k hk=>by simp[hk]
 exact⟨h _ oM,h _ oM,h _ oM,h _ oM⟩

theorem kW0 {p:Prop} (h:p:=by (with_reducible repeat (first|assumption|exact KeepsFrom.refl _ _|refine KF.set ?_ _ _|refine KF.alloc ?_ _|refine KF.drew ?_|refine KF.drewN ?_ _|refine KF.ext ?_ aS|exact Below.refl _ _|refine BL.set ?_ _ _ _ oM|refine BL.alloc ?_ _ oM|refine BL.drew ?_|refine BL.drewN ?_ _|refine BL.ext ?_ aS oM|exact Ext.refl _|refine Ext.set ?_ oM _|refine Ext.alloc ?_ _|refine Ext.drew ?_|refine Ext.drewN ?_ _|refine Ext.trans ?_ aS|refine UA.alloc ?_ _|refine UA.drew ?_|refine UA.drewN ?_ _|refine UA.other ?_ oM _|refine UA.set ?_ _ _|apply UA.set1|apply UA.set2_1|apply UA.set2_0|refine UA.ext ?_ aS));done):p:=h
theorem YP (u:Value) (t:Tr) (w:World) (hl:t.length≤1000000) (LJ:∀x∈t,x.evs.length≤1000000) (hs:SlR 3 RPr w u t) (fL:∀x∈ids t,JB t.length x.1 (uA t x)=true) :
  Calls Tryz.prog 87 #[.agg #[u]] w fun e w'=>MPost t w e w':=by
 refine callsIn_wide (n:=9).1 ?_
 refine callsIn_of_wp_marks Tryz.func87 rfl trivial ?_ rfl
 simp only[Tryz.ntmps87,dx,ej,fq,Nat.reduceAdd,Nat.reduceSub,ig,ii,ij,ik,ee,da]
 gi_wp2_with (refine⟨trivial,?_⟩;gi_at_call 88;refine (callsIn_wide.2 (DI _ _)).mono ?_;rintro e w' ⟨rfl,rfl⟩)
 have b0:=(((((((UA.new w 30 #[u]).alloc (.cells #[.pointer none] 133)).alloc (.cells #[.int .i64 0,.int .i64 0] 70)).alloc (.cells #[.int .i64 0] 35)).alloc (.cells Tryz.zeroCells181 181)).alloc (.cells #[.pointer (some ⟨w.heap.size+1+1+1+1,0,none⟩)] 133)).alloc (.cells #[u] 30))
 obtain⟨W0,G8⟩:∃W0,(((((((w.alloc (Obj.cells #[u] 30)).alloc (Obj.cells #[Value.pointer none] 133)).alloc (Obj.cells #[Value.int IntKind.i64 0,Value.int IntKind.i64 0] 70)).alloc (Obj.cells #[Value.int IntKind.i64 0] 35)).alloc (Obj.cells Tryz.zeroCells181 181)).alloc (Obj.cells #[Value.pointer (some ⟨w.heap.size+1+1+1+1,0,none⟩)] 133)).alloc (Obj.cells #[u] 30))=W0:=⟨_,rfl⟩
 rw[G8]at b0⊢
 have NN:W0.heap.size=w.heap.size+1+1+1+1+1+1+1:=by rw[←G8];simp
 have hM0:MI t w u [] W0:=by
  rw[←G8]
  refine⟨⟨⟨⟨⟨⟨⟨⟨_,UA.alloc (UA.alloc (UA.newAt _ _ kS) _) _,OO.zero t⟩,?_⟩,?_⟩,?_⟩,?_⟩,?_⟩,?_⟩,?_⟩
  ·exact ((((((UA.newAt _ _ kS).alloc _).alloc _).alloc _).alloc _).alloc _)
  ·exact (((((UA.newAt _ _ kS).alloc _).alloc _).alloc _).alloc _)
  ·exact ((((UA.newAt _ _ kS).alloc _).alloc _).alloc _)
  ·exact ((UA.newAt _ _ kS).alloc _)
  ·rw[G8];exact b0
  ·exact (((((((Ext.refl w).alloc _).alloc _).alloc _).alloc _).alloc _).alloc _).alloc _
  ·intro a x c h;cases a<;>cases h
 have bt:UA W0 (w.heap.size+1+1+1+1+1+1) 30 #[u]:=by rw[←G8];exact UA.newAt _ _ kS
 clear G8
 have ZQ:Ext w W0:=hM0.1.2
 refine wpIn_rangeFunc_ownH rfl oM (gf:=138) (lb:=#[.pointer (some ⟨w.heap.size+1+1+1+1+1+1,0,none⟩)]) rfl trivial (fC Tryz.func138 kE rfl)
  (AG 8 oM w u t (w.heap.size+1+1+1+1+1+1) W0 hl LJ hs ZQ (bt.cell rfl) oM) belowK_t (belowK_b oM) (Below.refl _ _) (fun _=>rfl)
  (fun pre W=>MI t w u (pre.map (·.1)) W) (fun c pre W=>c=.ret∧MX t w (pre.map (·.1)) W) (SX t w u oM) (fun c=>OwnFrom.and (ownFrom_pure _ _) (ZHN t w oM)) hM0
  (fun x a' W=>∃B6 B7 A4 n4 c4 v13 v14,(w.heap.size+1+1+1+1+1<B6∧w.heap.size+1+1+1+1+1<B7)∧UA W B6 70 #[.int .i64 x.1.1,.int .i64 x.1.2]∧UA W B7 68 #[.int .i64 (uA t x.1).kind,.int .i64 (uA t x.1).peer,.int .i64 (uA t x.1).msg,.int .i64 (uA t x.1).time,.slice A4 n4 c4] ∧
   a'={tmps:=#[.agg #[u],.pointer (some ⟨w.heap.size,0,none⟩),.pointer (some ⟨w.heap.size+1,0,none⟩),.pointer (some ⟨w.heap.size+1+1,0,none⟩),.pointer (some ⟨w.heap.size+1+1+1,0,none⟩),.pointer (some ⟨w.heap.size+1+1+1+1+1,0,none⟩),.pointer (some ⟨B6,0,none⟩),.pointer (some ⟨B7,0,none⟩),undef,.agg Tryz.zeroCells181,.pointer (some ⟨w.heap.size+1+1+1+1,0,none⟩),.agg #[u],.func (.func 138) #[] #[.pointer (some ⟨w.heap.size+1+1+1+1+1+1,0,none⟩)],v13,v14,undef,undef,undef,undef,undef,undef,undef,undef,undef,undef,undef,undef,undef,undef,undef,undef,undef,undef,undef,undef,undef,undef,undef,undef,undef,undef,undef,undef,undef,undef,undef,undef,undef,undef,undef,undef,undef,undef,undef,undef,undef,undef,undef,undef,undef,undef,undef,undef,undef],defers:=[]})
  ?hax ?assign ?body ?done ?stop
 case hax =>
  rintro x a' _ X Y row ⟨B6,B7,A4,n4,c4,v13,v14,hB,b6,b7,ha⟩ hg hr
  exact⟨B6,B7,A4,n4,c4,v13,v14,hB,tA B6 _ _ (fun (_:Unit)=>_) () X Y row b6 hg hr,tA B7 _ _ (fun (_:Unit)=>_) () X Y row b7 hg hr,ha⟩
 case assign =>
  rintro l pre x W K hI hK
  obtain⟨a,hv,hsa⟩:=GT hs x.2
  obtain⟨A4,c4,rfl,_,_,_⟩:=hsa.at_
  clear hsa
  simp only[hv]
  have hsW:=hI.1.2.size
  unfold SA
  have h5:=hI.1.1.1.2.lt
  gi_wp2
  exact hK _ _ (((KeepsOthers.alloc _ _).trans (KeepsOthers.alloc _ _)).from _) (((Below.refl _ W).alloc hsW _).alloc (by simp;omega) _) ((SX t w u (ai _)).alloc _ ((SX t w u (ai _)).alloc _ hI))
   ⟨W.heap.size,W.heap.size+1,A4,_,c4,_,_,⟨h5,by omega⟩,(UA.new _ _ _).alloc _,UA.newAt _ _ kS,rfl⟩
 case body =>
  rintro l pre x a' W hlW ⟨r,hr⟩ hI ⟨B6,B7,A4,n4,c4,v13,v14,hB,b6,b7,rfl⟩ IB
  have hI0:=hI
  obtain⟨⟨⟨⟨⟨⟨⟨⟨cs,hb,hA⟩,r1⟩,r2⟩,r3⟩,lb⟩,tb⟩,hx⟩,hg⟩:=hI
  have HF:=KA (fL x.1 x.2)
  have hmx:Tryz.prog.follows .mixedOrders=true:=by kernel_rfl
  have k0:=b7.cell (j:=0) rfl
  have k1:=b7.cell (j:=1) rfl
  have k2:=b7.cell (j:=2) rfl
  have i0:=b6.cell (j:=0) rfl
  have i1:=b6.cell (j:=1) rfl
  have l0:=lb.cell (j:=0) rfl
  have t0:=tb.cell (j:=0) rfl
  have hsW:=hx.size
  have qT:∀y∈pre.map (·.1),1≤y.2:=fun y hy=>by
   obtain⟨z,_,rfl⟩:=cr.1 hy
   exact lG z.2
  have HP:=KA qT
  have q1:=r1.frozen 0
  have q2:=r2.frozen 0
  have q3:=r2.frozen 1
  have q4:=r3.frozen 0
  have p1:=r1.cell (j:=0) rfl
  have p2:=r2.cell (j:=0) rfl
  have p3:=r2.cell (j:=1) rfl
  have p4:=r3.cell (j:=0) rfl
  clear qT
  cases z2:(uA t x.1).kind==2
  ·cases z3:(uA t x.1).kind==3
   ·have HA:=KA (hA.keep z2 z3)
    have HG:=KA (hg.snoc (x:=x.1) (by unfold fF;rw[z2,z3];rfl))
    have HI:=KA hI0
    gi_wp2
    refine⟨KeepsFrom.refl _ _,Below.refl _ _,?_⟩
    show MI t w u ((pre++[x]).map (·.1)) _
    rw[kG]
    exact⟨⟨⟨⟨⟨⟨⟨⟨cs,hb,HA.out⟩,r1⟩,r2⟩,r3⟩,lb⟩,tb⟩,hx⟩,HG.out⟩
   ·obtain⟨m,q,hm,hm2,hq,ET,_⟩:=WH HF.out (by cases h1:(uA t x.1).kind==1<;>simp_all)
    rw[hm]at k2
    have hA1:=hb.cell (hA.2 m hm2).2.2.2
    rw[hq]at k1
    have hq3:=LJ _ (ak ET)
    have HS:=KA (fun w' (he:Ext w w')=>(CallsIn.inRound l (callsIn_wide (n:=6).2 (ZBO u t q m x.1.1 w' ET hl hq3 (hs.ext RPr.keeps he)))))
    by_cases h0:0<(jA t (pre.map (·.1)) 3 m).2
    ·have hd0:decide ((0:Int)<((jA t (pre.map (·.1)) 3 m).2:Int))=true:=by simp;omega
     have HF8:=KA (show fF t (pre.map (·.1)) x.1=8 by unfold fF;rw[z2,if_neg kE];rw[if_pos z3,hm,if_pos h0])
     have HM:=KA hm
     have HQ:=KA hq
     clear hm hq
     gi_wp2
     gi_region_with_o (fail)
     all_goals gi_wp2
     all_goals refine⟨?_,rfl,pre.map (·.1),x.1,⟨⟨⟨⟨by rw[bh];rfl,hg,?_⟩,?_⟩,?_⟩,?_⟩,?_⟩
     all_goals first
      |(rw[HF8.out];decide)
      |(rw[HF8.out];show UA _ _ _ #[Value.int .i64 8];exact kW0)
      |exact kW0
    ·have hd0:decide ((0:Int)<((jA t (pre.map (·.1)) 3 m).2:Int))=false:=by simp;omega
     have HM:=KA hm
     have HQ:=KA hq
     have HA:=KA (hA.to_ HP.out hm2 h0 z3 hm)
     have hf0:=hb.frozen (m*4+2)
     have hf1:=hb.frozen (m*4+2+1)
     have hg0:=hb.cell (hA.2 m hm2).2.2.1
     have HL:=KA (show fF t (pre.map (·.1)) x.1=if sendsB t q m x.1.1 then 0 else 7 by unfold fF;rw[z2,if_neg kE,if_pos z3,hm,if_neg h0,hq];rfl)
     clear hm hq
     gi_wp2_with fail
     refine⟨trivial,?_⟩
     refine (HS.out _ hx).mono ?_
     rintro e w1 ⟨rfl,ZI⟩
     have hx1:=hx.trans ZI
     have hsW1:=hx1.size
     have hKF:KeepsFrom W0.heap.size W w1:=KF.ext (KeepsFrom.refl _ _) ZI
     have hBL:Below w.heap.size W w1:=BL.ext (Below.refl _ _) ZI hsW
     have hb':=hb.ext ZI
     have r1':=r1.ext ZI
     have r2':=r2.ext ZI
     have r3':=r3.ext ZI
     have lb':=lb.ext ZI
     have tb':=tb.ext ZI
     have b6':=b6.ext ZI
     have q1':=r1'.frozen 0
     have q2':=r2'.frozen 0
     have q3':=r2'.frozen 1
     have q4':=r3'.frozen 0
     have p1':=r1'.cell (j:=0) rfl
     have p2':=r2'.cell (j:=0) rfl
     have p3':=r2'.cell (j:=1) rfl
     have p4':=r3'.cell (j:=0) rfl
     have i0':=b6'.cell (j:=0) rfl
     have i1':=b6'.cell (j:=1) rfl
     have l0':=lb'.cell (j:=0) rfl
     have hf0':=hb'.frozen (m*4+2)
     have hf1':=hb'.frozen (m*4+2+1)
     have hg0':=hb'.cell (hA.2 m hm2).2.2.1
     have hA1':=hb'.cell (hA.2 m hm2).2.2.2
     clear hf0 hf1 hg0 q1 q2 q3 q4 p1 p2 p3 p4 i0 i1 l0 hA1
     cases hsd:sendsB t q m x.1.1
     ·have HF7:=KA (show fF t (pre.map (·.1)) x.1=7 by rw[HL.out,hsd];rfl)
      clear HL hsd
      gi_wp2
      gi_region_with_o (fail)
      all_goals gi_wp2
      all_goals refine⟨?_,rfl,pre.map (·.1),x.1,⟨⟨⟨⟨by rw[bh];rfl,hg,?_⟩,?_⟩,?_⟩,?_⟩,?_⟩
      all_goals first
       |(rw[HF7.out];decide)
       |(rw[HF7.out];show UA _ _ _ #[Value.int .i64 7];exact kW0)
       |exact kW0
     ·have HG:=KA (hg.snoc (x:=x.1) (by rw[HL.out,hsd];rfl))
      clear HL hsd
      gi_wp2
      gi_region_with_o (fail)
      all_goals gi_wp2
      all_goals refine⟨?_,?_,?_⟩
      all_goals first
       |(show MI t w u ((pre++[x]).map (·.1)) _;rw[kG];refine⟨⟨⟨⟨⟨⟨⟨⟨_,?_,HA.out⟩,?_⟩,?_⟩,?_⟩,?_⟩,?_⟩,?_⟩,HG.out⟩<;>exact kW0)
       |exact kW0
  ·obtain⟨m,q,hm,hm2,hq,ET,_⟩:=WH HF.out (by cases h1:(uA t x.1).kind==1<;>simp_all)
   rw[hm]at k2
   have hA1:=hb.cell (hA.2 m hm2).2.1
   by_cases h0:0<(jA t (pre.map (·.1)) 2 m).2
   ·have hd0:decide ((0:Int)<((jA t (pre.map (·.1)) 2 m).2:Int))=true:=by simp;omega
    have HF8:=KA (show fF t (pre.map (·.1)) x.1=8 by unfold fF;rw[if_pos z2,hm,if_pos h0])
    have HM:=KA hm
    have HQ:=KA hq
    clear hm hq
    gi_wp2
    gi_region_with_o (fail)
    all_goals gi_wp2
    all_goals refine⟨?_,rfl,pre.map (·.1),x.1,⟨⟨⟨⟨by rw[bh];rfl,hg,?_⟩,?_⟩,?_⟩,?_⟩,?_⟩
    all_goals first
     |(rw[HF8.out];decide)
     |(rw[HF8.out];show UA _ _ _ #[Value.int .i64 8];exact kW0)
     |exact kW0
   ·have hd0:decide ((0:Int)<((jA t (pre.map (·.1)) 2 m).2:Int))=false:=by simp;omega
    have HM:=KA hm
    have HQ:=KA hq
    have HA:=KA (hA.from_ HP.out hm2 h0 z2 hm)
    have hf0:=hb.frozen (m*4)
    have hf1:=hb.frozen (m*4+1)
    have hg0:=hb.cell (hA.2 m hm2).1
    have HG:=KA (hg.snoc (x:=x.1) (by unfold fF;rw[if_pos z2,hm,if_neg h0]))
    clear hm hq
    gi_wp2
    gi_region_with_o (fail)
    all_goals gi_wp2
    all_goals refine⟨?_,?_,?_⟩
    all_goals first
     |(show MI t w u ((pre++[x]).map (·.1)) _;rw[kG];refine⟨⟨⟨⟨⟨⟨⟨⟨_,?_,HA.out⟩,?_⟩,?_⟩,?_⟩,?_⟩,?_⟩,?_⟩,HG.out⟩<;>exact kW0)
     |exact kW0
 case done =>
  rintro D ys W hD hys ⟨⟨⟨⟨⟨⟨⟨⟨cs,hb,hA⟩,r1⟩,r2⟩,r3⟩,lb⟩,tb⟩,hx⟩,hg⟩ hK
  rw[hys]at hA hg
  have l0:=lb.cell (j:=0) rfl
  have q1:=r1.frozen 0
  have q2:=r2.frozen 0
  have q3:=r2.frozen 1
  have q4:=r3.frozen 0
  have p1:=r1.cell (j:=0) rfl
  have p2:=r2.cell (j:=0) rfl
  have p3:=r2.cell (j:=1) rfl
  have p4:=r3.cell (j:=0) rfl
  gi_wp2
  obtain⟨Wr,cI⟩:∃Wr,((((W.setCell ⟨w.heap.size+1,0,none⟩ (Value.pointer (some ⟨w.heap.size+1+1+1+1,0,none⟩))).setCell ⟨w.heap.size+1+1,0,none⟩ (Value.int .i64 0)).setCell ⟨w.heap.size+1+1,1,none⟩ (Value.int .i64 0)).setCell ⟨w.heap.size+1+1+1,0,none⟩ (Value.int .i64 0))=Wr:=⟨_,rfl⟩
  rw[cI]
  have s1:UA Wr (w.heap.size+1) 133 #[.pointer (some ⟨w.heap.size+1+1+1+1,0,none⟩)]:=by rw[←cI];exact kW0
  have s2:UA Wr (w.heap.size+1+1) 70 #[.int .i64 0,.int .i64 0]:=by rw[←cI];exact kW0
  have s3:UA Wr (w.heap.size+1+1+1) 35 #[.int .i64 0]:=by rw[←cI];exact kW0
  have sb:UA Wr (w.heap.size+1+1+1+1) 181 cs:=by rw[←cI];exact kW0
  have sx:Ext w Wr:=by rw[←cI];exact kW0
  have KS:Wr.heap[D]? = some (.deferred (some [])):=by rw[←cI];exact (KF.set (KF.set (KF.set (KF.set (KeepsFrom.refl W0.heap.size W) _ _) _ _) _ _) _ _).same D _ hD hK rfl
  clear cI
  have e1:=(s1.putObj KS rfl (.deferred none)).cell (j:=0) rfl
  have e2:=(s2.putObj KS rfl (.deferred none)).cell (j:=0) rfl
  have e3:=(s2.putObj KS rfl (.deferred none)).cell (j:=1) rfl
  have e4:=(s3.putObj KS rfl (.deferred none)).cell (j:=0) rfl
  refine⟨by simp,.inl ⟨_,_,rfl,run_takeDeferred KS,?_⟩⟩
  refine⟨.tuple #[.pointer (some ⟨w.heap.size+1+1+1+1,0,none⟩),SA (0,0),.int .i64 0],?_,sx.putObj oM KS _,.inr ⟨ZB1 hg,_,cs,by omega,sb.putObj KS rfl _,hA,rfl⟩⟩
  simp[results,Tryz.f87,go_sem,e1,e2,e3,e4,SA]
 case stop =>
  rintro D c pre W hD jL ⟨rfl,a,x,⟨⟨⟨⟨hp,hg,qG⟩,r1⟩,r2⟩,r3⟩,hx⟩ hK
  rw[hp]at jL
  have ZF:=KA (ZB0 jL hg qG)
  gi_wp2
  have e1:=(r1.putObj hK rfl (.deferred none)).cell (j:=0) rfl
  have e2:=(r2.putObj hK rfl (.deferred none)).cell (j:=0) rfl
  have e3:=(r2.putObj hK rfl (.deferred none)).cell (j:=1) rfl
  have e4:=(r3.putObj hK rfl (.deferred none)).cell (j:=0) rfl
  refine⟨by simp,.inl ⟨_,_,rfl,run_takeDeferred hK,?_⟩⟩
  refine⟨.tuple #[.pointer none,SA x,.int .i64 (fF t a x)],?_,hx.putObj oM hK _,.inl ⟨x,ZF.out.1,by rw[ZF.out.2]⟩⟩
  simp[results,Tryz.f87,go_sem,e1,e2,e3,e4,SA]

def SlC (size:Nat) (w:World) (v:Value) (m:Nat) (cs:List Value):Prop:=
 cs.length=m*size∧∃A c,v=.slice A m c∧m≤c∧c≤maxLen∧(0<m→∃b off,A=some ⟨b,off,none⟩∧∀j u,cs[j]? = some u→w.cell? ⟨b,off+j,none⟩=some u)
def xB (size:Nat) (e:TypeId) (w:World) (B:Nat) (v:Value) (n:Nat) (cs:List Value):Prop:=
 cs.length=n*size∧((v=.slice none 0 0∧n=0)∨∃g off cap cur,v=.slice (some ⟨g,off,none⟩) n cap∧B≤g∧UA w g e cur∧n≤cap∧cap≤maxLen∧off+cap*size≤cur.size∧∀j u,cs[j]? = some u→cur[off+j]? = some u)
structure ElS (P:Program) (t e:TypeId) (z:Value) (size bytes:Nat):Prop where
 ht:P.underlying t=some (.slice e)
 inf:∃i:TypeInfo,P.info? e=some i∧i.zero=some z∧i.size=size∧i.bytes=bytes
 zs:z.cells.size=size
 pos:0<size
 few:bytes≤128

theorem aM (b off j:Nat):(⟨b,off,none⟩:Addr).add j=⟨b,off+j,none⟩:=by unfold Addr.add;split<;>simp_all

section
variable {size:Nat} {e:TypeId} {w w':World} {B:Nat} {v v':Value} {n:Nat} {cs:List Value}
theorem xB.nil (size:Nat) (e:TypeId) (w:World) (B:Nat):xB size e w B (.slice none 0 0) 0 []:=⟨by simp,.inl ⟨rfl,rfl⟩⟩
theorem xB.kept (h:xB size e w B v n cs) {row:Option Nat} (hg:w.grownBy w' row) (qG:v.ownBlock=none∨v.ownBlock≠row):xB size e w' B v n cs:=by
 refine⟨h.1,?_⟩
 rcases h.2 with h2|⟨g,off,cap,cur,rfl,hB,hb,rest⟩
 ·exact .inl h2
 ·refine .inr ⟨g,off,cap,cur,rfl,hB,hb.kept hg ?_,rest⟩
  rcases qG with h3|h3
  ·cases h3
  ·exact h3
theorem xB.alloc (h:xB size e w B v n cs) (o:Obj):xB size e (w.alloc o) B v n cs:=h.kept (World.grownBy_alloc w o none) (by cases v.ownBlock<;>simp)
theorem xB.drew (h:xB size e w B v n cs):xB size e w.drew B v n cs:=h
theorem xB.drewN (h:xB size e w B v n cs) (k:Nat):xB size e (w.drewN k) B v n cs:=h
theorem xB.ext (h:xB size e w B v n cs) (he:Ext w w'):xB size e w' B v n cs:=
 h.kept (row:=none) ⟨he.os,he.tape,he.output,he.size,fun k hk _=>he.block k hk⟩ (by cases v.ownBlock<;>simp)
theorem xB.other (h:xB size e w B v n cs) {b j:Nat} (qG:v.ownBlock≠some b) (u:Value):xB size e (w.setCell ⟨b,j,none⟩ u) B v n cs:=by
 refine⟨h.1,?_⟩
 rcases h.2 with h2|⟨g,off,cap,cur,rfl,hB,hb,rest⟩
 ·exact .inl h2
 ·exact .inr ⟨g,off,cap,cur,rfl,hB,hb.other (fun e=>qG (by simp[Value.ownBlock,e])) u,rest⟩
theorem xB.mono {B':Nat} (h:xB size e w B v n cs) (hB:B'≤B):xB size e w B' v n cs:=by
 refine⟨h.1,?_⟩
 rcases h.2 with h2|⟨g,off,cap,cur,rfl,hb,rest⟩
 ·exact .inl h2
 ·exact .inr ⟨g,off,cap,cur,rfl,dq hB hb,rest⟩
theorem xB.blk (h:xB size e w B v n cs):∀k,v.ownBlock=some k→B≤k∧k<w.heap.size:=by
 intro k hk
 rcases h.2 with ⟨rfl,_⟩|⟨g,off,cap,cur,rfl,hb,hbox,_⟩
 ·cases hk
 ·simp[Value.ownBlock]at hk;subst hk;exact⟨hb,hbox.lt⟩
theorem xB.not_box (h:xB size e w B v n cs) {b:Nat} {t:TypeId} {xs:Array Value} (hb:UA w b t xs) (hte:t≠e):v.ownBlock≠some b:=by
 rcases h.2 with ⟨rfl,_⟩|⟨g,off,cap,cur,rfl,_,hbox,_⟩
 ·simp[Value.ownBlock]
 ·intro he
  simp[Value.ownBlock]at he
  subst he
  have:=(show w.heap[g]? = _ from hbox).symm.trans hb
  injection this with this
  injection this with _ h2 _
  exact hte h2.symm
theorem xB.form (h:xB size e w B v n cs):∃A c,v=.slice A n c∧n≤c∧c≤maxLen:=by
 rcases h.2 with ⟨rfl,rfl⟩|⟨g,off,cap,cur,rfl,_,_,h1,h2,_⟩
 ·exact⟨none,0,rfl,ai _,by simp[maxLen]⟩
 ·exact⟨_,cap,rfl,h1,h2⟩
theorem xB.slc (h:xB size e w B v n cs):SlC size w v n cs:=by
 refine⟨h.1,?_⟩
 rcases h.2 with ⟨rfl,rfl⟩|⟨g,off,cap,cur,rfl,_,hb,h1,h2,_,hc⟩
 ·exact⟨none,0,rfl,ai _,by simp[maxLen],fun h=>absurd h oM⟩
 ·exact⟨_,cap,rfl,h1,h2,fun _=>⟨g,off,rfl,fun j u hj=>hb.cell (hc j u hj)⟩⟩
theorem xB.open_ (h:xB size e w B v n cs) (h0:0<n):∃g off cap cur,v=.slice (some ⟨g,off,none⟩) n cap∧B≤g∧UA w g e cur∧n≤cap∧cap≤maxLen∧off+cap*size≤cur.size∧∀j u,cs[j]? = some u→cur[off+j]? = some u:=by
 rcases h.2 with ⟨_,h1⟩|h2
 ·omega
 ·exact h2
theorem xB.made (w:World) (xs:Array Value) (hB:B≤w.heap.size) (hm:n≤maxLen) (hc:xs.size=n*size):xB size e (w.alloc (.cells xs e)) B (.slice (some ⟨w.heap.size,0,none⟩) n n) n xs.toList:=
 ⟨by simpa using hc,.inr ⟨_,0,n,xs,rfl,hB,UA.new w e xs,ai _,hm,by omega,fun j u h=>by simpa using h⟩⟩
theorem xB.madeAt {w:World} {g:Nat} (hg:g=w.heap.size) (xs:Array Value) (hB:B≤w.heap.size) (hm:n≤maxLen) (hc:xs.size=n*size):xB size e (w.alloc (.cells xs e)) B (.slice (some ⟨g,0,none⟩) n n) n xs.toList:=by
 subst hg;exact xB.made w xs hB hm hc
theorem xB.take {A:Option Addr} {c:Nat} (h:xB size e w B (.slice A n c) n cs) (k:Nat) (hk:k≤n):xB size e w B (.slice A k c) k (cs.take (k*size)):=by
 have hl:(cs.take (k*size)).length=k*size:=by
  rw[bg,h.1];exact Nat.min_eq_left (cm _ hk)
 refine⟨hl,?_⟩
 rcases h.2 with ⟨hv,h0⟩|⟨g,off,cap,cur,hv,hB,hb,h1,h2,h3,hc⟩
 ·injection hv with e1 e2 e3;subst e1;subst e3
  obtain rfl:k=0:=by omega
  exact .inl ⟨rfl,rfl⟩
 ·injection hv with e1 e2 e3;subst e1;subst e3
  refine .inr ⟨g,off,_,cur,rfl,hB,hb,by omega,h2,h3,fun j u hj=>hc j u ?_⟩
  rw[de]at hj
  split at hj
  ·exact hj
  ·cases hj
theorem xB.drop {A A':Option Addr} {c:Nat} (h:xB size e w B (.slice A n c) n cs) (k:Nat) (hk:k≤n) (hA:∀b off,A=some ⟨b,off,none⟩→A'=some ⟨b,off+k*size,none⟩∨(c=k∧A'=A)) (hA0:A=none→A'=none) :
  xB size e w B (.slice A' (n-k) (c-k)) (n-k) (cs.drop (k*size)):=by
 have hl:(cs.drop (k*size)).length=(n-k)*size:=by rw[co,h.1,il]
 refine⟨hl,?_⟩
 rcases h.2 with ⟨hv,h0⟩|⟨g,off,cap,cur,hv,hB,hb,h1,h2,h3,hc⟩
 ·injection hv with e1 e2 e3;subst e1;subst e3
  rw[hA0 rfl]
  obtain rfl:k=0:=by omega
  subst h0
  exact .inl ⟨rfl,rfl⟩
 ·injection hv with e1 e2 e3;subst e1;subst e3
  rcases hA g off rfl with rfl|⟨hk2,rfl⟩
  ·refine .inr ⟨g,off+k*size,_,cur,rfl,hB,hb,by omega,by omega,?_,fun j u hj=>?_⟩
   ·have:k*size+(c-k)*size=c*size:=by rw[←bx];congr 1;omega
    omega
   ·rw[dp]at hj
    have:=hc _ u hj
    rwa [show off+k*size+j=off+(k*size+j) by omega]
  ·subst hk2
   obtain rfl:c=n:=by omega
   refine .inr ⟨g,off,_,cur,rfl,hB,hb,by omega,by omega,by simp;omega,fun j u hj=>?_⟩
   have:(cs.drop (c*size))=[]:=kh (by rw[h.1];exact ai _)
   rw[this]at hj;cases hj
theorem xB.set {g off cap:Nat} (h:xB size e w B (.slice (some ⟨g,off,none⟩) n cap) n cs) (j:Nat) (hj:j<n*size) (u:Value):xB size e (w.setCell ⟨g,off+j,none⟩ u) B (.slice (some ⟨g,off,none⟩) n cap) n (cs.set j u):=by
 refine⟨by rw[dh];exact h.1,?_⟩
 rcases h.2 with ⟨hv,h0⟩|⟨g',off',cap',cur,hv,hB,hb,h1,h2,h3,hc⟩
 ·cases hv
 ·injection hv with e1 e2 e3
  injection e1 with e1
  injection e1 with e4 e5
  subst e3;subst e4;subst e5
  refine .inr ⟨g,off,cap,_,rfl,hB,hb.set _ _,h1,h2,by simpa using h3,fun k x hk=>?_⟩
  rw[jr]
  rw[je]at hk
  by_cases hjk:j=k
  ·subst hjk
   rw[if_pos rfl]at hk⊢
   have:n*size≤cap*size:=cm _ h1
   rw[if_pos oM]
   rw[if_pos (by rw[h.1];exact hj)]at hk
   exact hk
  ·rw[if_neg hjk]at hk
   rw[if_neg oM]
   exact hc k x hk
theorem SlC.ext {m:Nat} {u:Value} (h:SlC size w u m cs) (he:Ext w w'):SlC size w' u m cs:=by
 obtain⟨hl,A,c,hv,h1,h2,h3⟩:=h
 refine⟨hl,A,c,hv,h1,h2,fun h0=>?_⟩
 obtain⟨b,off,hA,hc⟩:=h3 h0
 exact⟨b,off,hA,fun j u hj=>he.cellAt (hc j u hj)⟩
theorem SlC.nil (size:Nat) (w:World):SlC size w (.slice none 0 0) 0 []:=⟨by simp,none,0,rfl,ai _,by simp[maxLen],fun h=>absurd h oM⟩
theorem SlC.first {P:Program} {m:Nat} {u:Value} {ns:List Value} (h:SlC size w u m ns):∃A c,u=.slice A m c∧∀W,Ext w W→(Builtin.firstCells size m u).run P W=.ok ns.toArray W:=by
 obtain⟨hl,A,c,rfl,h1,h2,h3⟩:=h
 refine⟨A,c,rfl,fun W he=>?_⟩
 rcases ju m with rfl|h0
 ·have hn:ns=[]:=cq (by rw[hl];simp)
  subst hn
  cases A<;>simp[Builtin.firstCells,loadCells,loadCellsFrom]
 ·obtain⟨b,off,rfl,hc⟩:=h3 h0
  exact run_firstCells_some W size m ⟨b,off,none⟩ m c ns hl (fun j x hx=>by rw[aM];exact he.cellAt (hc j x hx))

theorem wT {P:Program} {t:TypeId} {z:Value} {bytes:Nat} (I:ElS P t e z size bytes) (ty:TypeId) {u:Value} {m:Nat} {ns:List Value} (EF:xB size e w B v n cs) (hu:SlC size w u m ns) (h1:∀x∈ns,x.oneCell'=true)
  (h63:n+m≤1099511627776) (hB:B≤w.heap.size) :
  ∃v' w',(Builtin.append_ #[t,t] ty #[v,u]).run P w=.ok v' w'∧xB size e w' B v' (n+m) (cs++ns)∧w.grownBy w' v.ownBlock∧(v'.ownBlock=v.ownBlock∨v'.ownBlock=some w.heap.size):=by
 obtain⟨i,hi,hz,hs,hb⟩:=I.inf
 subst hs
 obtain⟨A,c,rfl,hf⟩:=hu.first (P:=P)
 have hl:=hu.1
 have TL:(n+m)*bytes≤140737488355328:=by
  calc (n+m)*bytes≤1099511627776*128:=Nat.mul_le_mul h63 I.few
   _≤140737488355328:=by decide
 have IB:(cs++ns).length=(n+m)*i.size:=by rw[ap,EF.1,hl,bx]
 have ZJw:n+m≤maxLen:=by simp only[maxLen];omega
 rcases EF.2 with ⟨rfl,rfl⟩|⟨g,off,cap,cur,rfl,hBg,hbox,hnc,EM,sI,hc⟩
 ·rcases ju m with rfl|h0
  ·have hn:ns=[]:=cq (by rw[hl];simp)
   have TY:cs=[]:=cq (by rw[EF.1];simp)
   subst hn;subst TY
   have:=hf w (Ext.refl w)
   refine⟨.slice none 0 0,w,?_,xB.nil _ _ _ _,World.grownBy.refl _ _,.inl rfl⟩
   simp[Builtin.append_,run_underlying I.ht,sizeOf,typeInfo,hi,Builtin.lenOf,this]
  ·obtain⟨_,A',c',hv,_,_,h3⟩:=hu
   injection hv with e1 _ e3;subst e1;subst e3
   obtain⟨b,off,rfl,jG⟩:=h3 h0
   have TY:cs=[]:=cq (by rw[EF.1];simp)
   subst TY
   have hr:=run_append_nil (P:=P) w t ty e i z I.ht hi hz ⟨b,off,none⟩ m c ns hl (fun j x hx=>by rw[aM];exact jG j x hx) h0 oM (by rw[hb];simp at TL;omega)
   have yH:=grownCap_ge w m 0 e
   have EM:=grownCap_le_maxLen w m 0 e oM
   refine⟨_,_,hr,?_,⟨rfl,rfl,rfl,by simp,fun k hk _=>Below.heap_alloc w.drew _ k hk⟩,.inr rfl⟩
   rw[cn,ee]
   refine⟨hl,.inr ⟨w.heap.size,0,_,_,rfl,hB,heap_alloc_new w.drew _,yH,EM,?_,fun j x hj=>?_⟩⟩
   ·simp only[cf,dx,size_zeroCells,I.zs,hl,←bx]
    rw[cn]
    exact Nat.le_of_eq (by congr 1;omega)
   ·rw[cn]
    obtain⟨wG,_⟩:=am.1 hj
    rw[ck (by simpa using wG)]
    simpa using hj
 ·by_cases zC:n+m≤cap
  ·have hns:off+n*i.size+ns.length≤cur.size:=by
    have:n*i.size+m*i.size≤cap*i.size:=by rw[←bx];exact cm _ zC
    rw[hl];omega
   have ZF:=run_storeCells_at P g (off+n*i.size) e ns 0 cur w hbox (by simpa using hns) h1
   simp only[eo]at ZF
   refine⟨.slice (some ⟨g,off,none⟩) (n+m) cap,w.setRow g (cur.toList.take (off+n*i.size)++ns++cur.toList.drop (off+n*i.size+ns.length)).toArray,?_,?_,⟨rfl,rfl,rfl,by simp,fun k _ hk=>setRow_other w g k _ (fun e=>hk (by simp[e,Value.ownBlock]))⟩,.inl rfl⟩
   ·simp[Builtin.append_,run_underlying I.ht,sizeOf,typeInfo,hi,Builtin.lenOf,zC,hf w (Ext.refl w),aM,ZF]
   ·refine⟨IB,.inr ⟨g,off,cap,_,rfl,hBg,setRow_heap w g cur _ e _ hbox,zC,EM,?_,fun j x hj=>?_⟩⟩
    ·simp;omega
    ·have wG:=(am.1 hj).1
     rw[ap,EF.1]at wG
     simp only[hU]
     by_cases hjn:j<n*i.size
     ·rw[bc,aw (by simp;omega),de,if_pos oM]
      rw[aw (by rw[EF.1];exact hjn)]at hj
      simpa using hc j x hj
     ·have HU:(cur.toList.take (off+n*i.size)).length=off+n*i.size:=by simp;omega
      rw[bc,aq (by rw[HU];omega),HU,aw oM]
      rw[aq (by rw[EF.1];omega),EF.1]at hj
      rw[show off+j-(off+n*i.size)=j-n*i.size by omega]
      exact hj
  ·have h0:0<m:=by omega
   obtain⟨_,A',c',hv,_,_,h3⟩:=hu
   injection hv with e1 _ e3;subst e1;subst e3
   obtain⟨b,off2,rfl,jG⟩:=h3 h0
   have hr:=run_append_grow (P:=P) w t ty e i z I.ht hi hz ⟨g,off,none⟩ n cap cs EF.1 (fun j x hx=>by rw[aM];exact hbox.cell (hc j x hx)) ⟨b,off2,none⟩ m c ns hl (fun j x hx=>by rw[aM];exact jG j x hx) oM oM
    (growslice_fits oM (by rw[hb];exact TL))
   have yH:=grownCap_ge w (n+m) cap e
   have EM:=grownCap_le_maxLen w (n+m) cap e ZJw
   refine⟨_,_,hr,?_,⟨rfl,rfl,rfl,by simp,fun k hk _=>Below.heap_alloc w.drew _ k hk⟩,.inr rfl⟩
   refine⟨IB,.inr ⟨w.heap.size,0,_,_,rfl,hB,heap_alloc_new w.drew _,yH,EM,?_,fun j x hj=>?_⟩⟩
   ·simp only[cf,dx,size_zeroCells,I.zs,EF.1,hl,←bx]
    rw[cn]
    exact Nat.le_of_eq (by congr 1;omega)
   ·rw[cn]
    obtain⟨wG,_⟩:=am.1 hj
    rw[ck (by simpa using wG)]
    simpa using hj
end

theorem ZDZ {P:Program} {w:World} {ops:Array Oper} {rest:List Oper} {o:Oper} {a:Act} {Q:Exit→Act→World→Prop} (s x:Operand) {t:TypeId} {size:Nat} {e:TypeId} {z:Value} {bytes:Nat} (I:ElS P t e z size bytes)
  (fJ:o.guard=none) (ho:o.op=.call {callee:=.builtin .append,args:=#[s,x],argTypes:=#[t,t]})
  {B n m:Nat} {v u:Value} {cs ns:List Value} (hs:a.eval s=v) (hx:a.eval x=u) (EF:xB size e w B v n cs) (hu:SlC size w u m ns) (h1:∀x∈ns,x.oneCell'=true) (h63:n+m≤1099511627776) (hB:B≤w.heap.size)
  (h:∀v' w',xB size e w' B v' (n+m) (cs++ns)→Grw w v w' v'→Below B w w'→wpList P ops Q rest (a.put o.dst v') w'):wpList P ops Q (o::rest) a w:=by
 obtain⟨v',w',VD,h2,h3,h4⟩:=wT (P:=P) I o.type EF hu h1 h63 hB
 refine wpList_plain fJ fun K hK=>?_
 unfold Oper.wp execOp
 simp only[ho,resolve,invoke,builtin,Sem.run_bind,Sem.run_pure,Result.andThen_ok,kq,bj,cd,hs,hx,VD]
 have hg:Grw w v w' v':=⟨h3,fun k hk=>by
  rcases h4 with h4|h4
  ·exact .inl (by rw[←h4];exact hk)
  ·rw[h4]at hk;injection hk with hk;exact .inr oM⟩
 exact hK _ _ (h v' w' h2 hg (hg.below (fun k hk=>(EF.blk k hk).1) hB))
theorem qS {F:Fence} {nn:Nat} {P:Program} {w:World} {ops:Array Oper} {rest:List Oper} {o:Oper} {a:Act} {Q:Exit→Act→World→Prop} (s x:Operand) {t:TypeId} {size:Nat} {e:TypeId} {z:Value} {bytes:Nat} (I:ElS P t e z size bytes)
  (fJ:o.guard=none) (ho:o.op=.call {callee:=.builtin .append,args:=#[s,x],argTypes:=#[t,t]})
  {B n m:Nat} {v u:Value} {cs ns:List Value} (hs:a.eval s=v) (hx:a.eval x=u) (EF:xB size e w B v n cs) (hu:SlC size w u m ns) (h1:∀x∈ns,x.oneCell'=true) (h63:n+m≤1099511627776) (hB:B≤w.heap.size)
  (h:∀v' w',xB size e w' B v' (n+m) (cs++ns)→Grw w v w' v'→Below B w w'→wpListIn F nn P ops Q rest (a.put o.dst v') w'):wpListIn F nn P ops Q (o::rest) a w:=by
 obtain⟨v',w',VD,h2,h3,h4⟩:=wT (P:=P) I o.type EF hu h1 h63 hB
 have hg:Grw w v w' v':=⟨h3,fun k hk=>by
  rcases h4 with h4|h4
  ·exact .inl (by rw[←h4];exact hk)
  ·rw[h4]at hk;injection hk with hk;exact .inr oM⟩
 refine wpListIn_plain fJ fun K hK=>?_
 unfold Oper.wpIn
 refine⟨?_,?_⟩
 ·simp[Oper.about,ho,resolve,Target.leads,Sem.run_pure]
 ·rw[Oper.semAt_plain F _ _ (by rw[ho];intro c hc';cases hc')]
  simp[execOp,ho,resolve,invoke,builtin,hs,hx,VD,Result.andThen]
  exact hK _ _ (h v' w' h2 hg (hg.below (fun k hk=>(EF.blk k hk).1) hB))
theorem tV {P:Program} {w:World} {ops:Array Oper} {o:Oper} {a:Act} {K:Act→World→Prop} {Q:Exit→Act→World→Prop} {E:Prop} (s x:Operand) {t:TypeId} {size:Nat} {e:TypeId} {z:Value} {bytes:Nat} (I:ElS P t e z size bytes)
  (fJ:o.guard=none) (ho:o.op=.call {callee:=.builtin .append,args:=#[s,x],argTypes:=#[t,t]})
  {B n m:Nat} {v u:Value} {cs ns:List Value} (hs:a.eval s=v) (hx:a.eval x=u) (EF:xB size e w B v n cs) (hu:SlC size w u m ns) (h1:∀x∈ns,x.oneCell'=true) (h63:n+m≤1099511627776) (hB:B≤w.heap.size)
  (h:∀v' w',xB size e w' B v' (n+m) (cs++ns)→Grw w v w' v'→Below B w w'→K (a.put o.dst v') w'):if Region.wanted o (yielded ops a.tmps)=true then Oper.wp P o a w K Q else E:=by
 have hw:Region.wanted o (yielded ops a.tmps)=true:=by simp[Region.wanted,fJ]
 rw[if_pos hw]
 obtain⟨v',w',VD,h2,h3,h4⟩:=wT (P:=P) I o.type EF hu h1 h63 hB
 unfold Oper.wp execOp
 simp only[ho,resolve,invoke,builtin,Sem.run_bind,Sem.run_pure,Result.andThen_ok,kq,bj,cd,hs,hx,VD]
 have hg:Grw w v w' v':=⟨h3,fun k hk=>by
  rcases h4 with h4|h4
  ·exact .inl (by rw[←h4];exact hk)
  ·rw[h4]at hk;injection hk with hk;exact .inr oM⟩
 exact h v' w' h2 hg (hg.below (fun k hk=>(EF.blk k hk).1) hB)

theorem ZGA:ElS Tryz.prog 208 70 (.agg #[.int .i64 0,.int .i64 0]) 2 16 where
 ht:=Tryz.underlying208
 inf:=by
  have h:(Tryz.prog.info? 70).map (fun i=>(i.zero,i.size,i.bytes))=some (some (.agg #[.int .i64 0,.int .i64 0]),2,16):=by kernel_rfl
  obtain⟨i,hi,he⟩:=kx.1 h
  injection he with h1 h2
  injection h2 with h2 h3
  exact⟨i,hi,h1,h2,h3⟩
 zs:=by rfl
 pos:=by decide
 few:=by decide

def idC (x:Nat×Nat):List Value:=[.int .i64 x.1,.int .i64 x.2]
def UL (l:List (Nat×Nat)):List Value:=l.flatMap idC
theorem ZEL (l:List (Nat×Nat)):(UL l).length=l.length*2:=by
 unfold UL;induction l with
 |nil=>rfl
 |cons x l ih=>simp[idC]at ih⊢;omega
theorem pM (l:List (Nat×Nat)):∀u∈UL l,u.oneCell'=true:=by
 intro u hu
 obtain⟨x,_,h⟩:=jn.1 hu
 simp[idC]at h
 rcases h with rfl|rfl<;>rfl
theorem SlC.lit {w:World} {g:Nat} {x:Nat×Nat} {a b:Int} (T:TypeId) (hg:g=w.heap.size) (ha:a=x.1) (hb:b=x.2):SlC 2 (w.alloc (.cells #[.int .i64 a,.int .i64 b] T)) (.slice (some ⟨g,0,none⟩) 1 1) 1 (UL [x]):=by
 subst ha;subst hb
 have:=(xB.madeAt (B:=0) (e:=T) (n:=1) (size:=2) hg #[.int .i64 x.1,.int .i64 x.2] (aj _) (by simp[maxLen]) rfl).slc
 simpa [UL,idC] using this
def XE (w:World) (B:Nat) (v:Value) (l:List (Nat×Nat)):Prop:=xB 2 70 w B v l.length (UL l)
theorem XE.snoc {w:World} {B:Nat} {v:Value} {l:List (Nat×Nat)} {x:Nat×Nat} {n:Nat} (h:xB 2 70 w B v (n+1) (UL l++UL [x])) (hn:n=l.length):XE w B v (l++[x]):=by
 subst hn
 unfold XE
 rw[ap,show UL (l++[x])=UL l++UL [x] by simp[UL]]
 exact h
def toB (t:Tr) (x:Nat×Nat):Bool:=(uA t x).kind==2&&decide (0<(jA t (ids t) 3 (uA t x).msg).2)
def rI (t:Tr) (x:Nat×Nat):List (Nat×Nat):=(if x.2<(nA t x.1).length then [(x.1,x.2+1)] else [])++if toB t x then [jA t (ids t) 3 (uA t x).msg] else []
theorem KN {t:Tr} {p j:Nat} {e:Ev} (hp:p<t.length) (hj:j<t[p].evs.length) (he:uA t (p,j+1)=e):rI t (p,j+1)=(if j+1<t[p].evs.length then [(p,j+2)] else [])++if toB t (p,j+1) then [jA t (ids t) 3 e.msg] else []:=by
 unfold rI nA;simp only[YB dfPr t hp,he]
def ZJt (w:World) (l:List (Nat×Nat)) (e:Ending) (w':World):Prop:=∃v',e=.returned v'∧XE w' w.heap.size v' l∧Ext w w'

theorem ZCI (u:Value) (t:Tr) (p i bL:Nat) (cs:Array Value) (w:World) (hl:t.length≤1000000) (LJ:∀x∈t,x.evs.length≤1000000) (hs:SlR 3 RPr w u t) (hx:(p,i)∈ids t) (fL:∀x∈ids t,JB t.length x.1 (uA t x)=true)
  (hL:UA w bL 181 cs) (hA:OO t (ids t) cs) :
  Calls Tryz.prog 173 #[.agg #[u],.pointer (some ⟨bL,0,none⟩),SA (p,i)] w fun e w'=>ZJt w (rI t (p,i)) e w':=by
 obtain⟨hp,c8,hi2⟩:=AC.1 hx
 simp only at hp c8 hi2
 obtain⟨j,rfl⟩:∃j,i=j+1:=⟨i-1,by omega⟩
 have qP:=KG hp (show j<t[p].evs.length by omega)
 obtain⟨A,c,rfl,_,_,hc⟩:=hs.at_
 obtain⟨b,off,rfl,XJ⟩:=hc oM
 obtain⟨_,_,v2,d2,aO⟩:=XJ p hp
 obtain⟨A2,cc2,rfl,_,_,kY⟩:=aO.at_
 obtain⟨b2,off2,rfl,HW⟩:=kY oM
 obtain⟨g0,g1,g2,g3,va,g4,hs4⟩:=HW j oM
 obtain⟨A4,cc4,rfl,_,_,_⟩:=hs4.at_
 have hb:=jB d2
 have xJ:b<w.heap.size+1:=by omega
 have vR:=jB g0
 have ZNE:b2<w.heap.size+1:=by omega
 have lJ:=LJ _ (ak hp)
 have hj2:(j:Int)<(t[p].evs.length:Int):=by omega
 have hform':=KA fL
 clear aO hs4 XJ HW hc kY fL hs
 unfold SA
 go_enter Tryz.func173,Tryz.ntmps173
 have hn':j<t[p].evs.length:=by omega
 have hn':j<t[p].evs.length:=by omega
 by_cases hn:j+1<t[p].evs.length
 ·have hd:decide (((j+1:Nat):Int)<(t[p].evs.length:Int))=true:=by simp;omega
  have hd':decide ((j:Int)+1<(t[p].evs.length:Int))=true:=by simp;omega
  go_wp2_with (at_builtin;go_must (refine ZDZ (v:=.slice none 0 0) (.tmp 22) (.tmp 29) ZGA rfl rfl rfl rfl (xB.nil _ _ _ w.heap.size) (SlC.lit (x:=(p,j+2)) _ kS rfl (by push_cast;omega)) (pM _) oM (by simp;omega) ?_;intro v1 w1 hown1 hgr1 hbl1;have ZI:=hgr1.ext rfl;have ZDU:Ext w w1:=Ext.trans (((Ext.refl w).alloc _).alloc _ |>.alloc _) ZI;have t0:=(((UA.new w 30 _).alloc _ |>.alloc _).ext ZI).cell (j:=0) rfl;have x0:=(((UA.newAt (B:=w.heap.size+1) (W:=w.alloc _) 70 _ kS).alloc _).ext ZI).cell (j:=0) rfl;have x1:=(((UA.newAt (B:=w.heap.size+1) (W:=w.alloc _) 70 _ kS).alloc _).ext ZI).cell (j:=1) rfl;have e0:=ZDU.cellAt g0;have e1:=ZDU.cellAt g1;have e2:=ZDU.cellAt g2;have e3:=ZDU.cellAt g3;have e4:=ZDU.cellAt g4;clear hgr1 hbl1))

  have mN:XE (w1.alloc (.cells #[.int .i64 t[p].evs[j].kind,.int .i64 t[p].evs[j].peer,.int .i64 t[p].evs[j].msg,.int .i64 t[p].evs[j].time,.slice A4 t[p].evs[j].asg.length cc4] 68)) w.heap.size (v1) ([(p,j+2)]):=(XE.snoc (l:=[]) hown1 rfl).alloc _
  have IW:Ext w (w1.alloc (.cells #[.int .i64 t[p].evs[j].kind,.int .i64 t[p].evs[j].peer,.int .i64 t[p].evs[j].msg,.int .i64 t[p].evs[j].time,.slice A4 t[p].evs[j].asg.length cc4] 68)):=ZDU.alloc _
  have b6:UA (w1.alloc (.cells #[.int .i64 t[p].evs[j].kind,.int .i64 t[p].evs[j].peer,.int .i64 t[p].evs[j].msg,.int .i64 t[p].evs[j].time,.slice A4 t[p].evs[j].asg.length cc4] 68)) (w1.heap.size) 68 #[.int .i64 t[p].evs[j].kind,.int .i64 t[p].evs[j].peer,.int .i64 t[p].evs[j].msg,.int .i64 t[p].evs[j].time,.slice A4 t[p].evs[j].asg.length cc4]:=UA.newAt _ _ kS
  generalize hbe:w1.heap.size=be at *
  clear hbe
  generalize w1.alloc (.cells #[.int .i64 t[p].evs[j].kind,.int .i64 t[p].evs[j].peer,.int .i64 t[p].evs[j].msg,.int .i64 t[p].evs[j].time,.slice A4 t[p].evs[j].asg.length cc4] 68)=W6 at mN IW b6⊢
  have hL6:=hL.ext IW
  have k0:=b6.cell (j:=0) rfl
  have k2:=b6.cell (j:=2) rfl
  cases k:t[p].evs[j].kind==2
  ·have HD:=KA (show rI t (p,j+1)=[(p,j+2)] by rw[KN hp hn' qP];unfold toB;rw[qP,k];simp[hn])
   go_quiet (fail)
   revert nq;intro n1
   go_wp2
   go_ret
   exact⟨_,rfl,by rw[HD.out];exact mN.drewN _,IW.drewN _⟩
  ·obtain⟨m,q,hm,hm2,_,_,_⟩:=WH (hform'.out (p,j+1) hx) (by rw[qP];cases h1:t[p].evs[j].kind==1<;>simp_all)
   rw[qP]at hm
   have hm3:(m:Int)<200:=by omega
   rw[hm]at k2
   obtain⟨_,_,a2,a3⟩:=hA.2 m hm2
   have c2:=hL6.cell a2
   have c3:=hL6.cell a3
   have HM:=KA hm
   clear hm
   by_cases h0:0<(jA t (ids t) 3 m).2
   ·have hd0:decide ((0:Int)<((jA t (ids t) 3 m).2:Int))=true:=by simp;omega
    have HD:=KA (show rI t (p,j+1)=[(p,j+2)]++[jA t (ids t) 3 m] by rw[KN hp hn' qP];unfold toB;rw[qP,k,HM.out];simp[hn,h0])
    go_quiet (fail)
    revert nq;intro n1
    go_wp2
    have ZFg:=xB.drewN mN n1
    have ZKN:=IW.drewN n1
    have k27:(W6.drewN n1).cell? ⟨be,2,none⟩=some (.int .i64 m):=k2
    have c27:(W6.drewN n1).cell? ⟨bL,m*4+2,none⟩=some (.int .i64 (jA t (ids t) 3 m).1):=c2
    have c37:(W6.drewN n1).cell? ⟨bL,m*4+3,none⟩=some (.int .i64 (jA t (ids t) 3 m).2):=c3
    clear k2 c2 c3 k0 hL6 b6 mN
    generalize W6.drewN n1=W7 at *
    have NN:=ZKN.size
    go_region_law (first
     |(refine tV (v:=v1) (.tmp 51) (.tmp 59) ZGA rfl rfl rfl rfl (ZFg.ext (by repeat (first|exact Ext.refl _|assumption|apply Ext.alloc|apply Ext.drew|apply Ext.drewN|(refine Ext.trans ?_ aS)))) (SlC.lit (x:=jA t (ids t) 3 m) _ kS rfl rfl) (pM _) (by simp<;>omega) (by simp<;>omega) ?_;intro v8 w8 hown8 hgr8 hbl8))
    all_goals
     go_wp2
     go_ret
     exact⟨v8,rfl,by rw[HD.out];exact XE.snoc hown8 rfl,Ext.more (by repeat (first|exact Ext.refl _|assumption|apply Ext.alloc|apply Ext.drew|apply Ext.drewN|(refine Ext.trans ?_ aS))) hbl8⟩
   ·have hd0:decide ((0:Int)<((jA t (ids t) 3 m).2:Int))=false:=by simp;omega
    have HD:=KA (show rI t (p,j+1)=[(p,j+2)] by rw[KN hp hn' qP];unfold toB;rw[qP,k,HM.out];simp[hn,h0])
    go_quiet (fail)
    revert nq;intro n1
    go_wp2
    go_ret
    exact⟨_,rfl,by rw[HD.out];exact mN.drewN _,IW.drewN _⟩
 ·have hd:decide (((j+1:Nat):Int)<(t[p].evs.length:Int))=false:=by simp;omega
  have hd':decide ((j:Int)+1<(t[p].evs.length:Int))=false:=by simp;omega
  have ZNF:b2<w.heap.size+1+1:=by omega
  go_wp2_with fail

  have mN:XE (((w.alloc (.cells #[.slice (some ⟨b,off,none⟩) t.length c] 30)).alloc (.cells #[.int .i64 p,.int .i64 ((j:Int)+1)] 70)).alloc (.cells #[.int .i64 t[p].evs[j].kind,.int .i64 t[p].evs[j].peer,.int .i64 t[p].evs[j].msg,.int .i64 t[p].evs[j].time,.slice A4 t[p].evs[j].asg.length cc4] 68)) w.heap.size (Value.slice none 0 0) ([]):=xB.nil _ _ _ _
  have IW:Ext w (((w.alloc (.cells #[.slice (some ⟨b,off,none⟩) t.length c] 30)).alloc (.cells #[.int .i64 p,.int .i64 ((j:Int)+1)] 70)).alloc (.cells #[.int .i64 t[p].evs[j].kind,.int .i64 t[p].evs[j].peer,.int .i64 t[p].evs[j].msg,.int .i64 t[p].evs[j].time,.slice A4 t[p].evs[j].asg.length cc4] 68)):=(((Ext.refl w).alloc _).alloc _).alloc _
  have b6:UA (((w.alloc (.cells #[.slice (some ⟨b,off,none⟩) t.length c] 30)).alloc (.cells #[.int .i64 p,.int .i64 ((j:Int)+1)] 70)).alloc (.cells #[.int .i64 t[p].evs[j].kind,.int .i64 t[p].evs[j].peer,.int .i64 t[p].evs[j].msg,.int .i64 t[p].evs[j].time,.slice A4 t[p].evs[j].asg.length cc4] 68)) (w.heap.size+1+1) 68 #[.int .i64 t[p].evs[j].kind,.int .i64 t[p].evs[j].peer,.int .i64 t[p].evs[j].msg,.int .i64 t[p].evs[j].time,.slice A4 t[p].evs[j].asg.length cc4]:=UA.newAt _ _ kS
  generalize hbe:w.heap.size+1+1=be at *
  clear hbe
  generalize ((w.alloc (.cells #[.slice (some ⟨b,off,none⟩) t.length c] 30)).alloc (.cells #[.int .i64 p,.int .i64 ((j:Int)+1)] 70)).alloc (.cells #[.int .i64 t[p].evs[j].kind,.int .i64 t[p].evs[j].peer,.int .i64 t[p].evs[j].msg,.int .i64 t[p].evs[j].time,.slice A4 t[p].evs[j].asg.length cc4] 68)=W6 at mN IW b6⊢
  have hL6:=hL.ext IW
  have k0:=b6.cell (j:=0) rfl
  have k2:=b6.cell (j:=2) rfl
  cases k:t[p].evs[j].kind==2
  ·have HD:=KA (show rI t (p,j+1)=[] by rw[KN hp hn' qP];unfold toB;rw[qP,k];simp[hn])
   go_quiet (fail)
   revert nq;intro n1
   go_wp2
   go_ret
   exact⟨_,rfl,by rw[HD.out];exact mN.drewN _,IW.drewN _⟩
  ·obtain⟨m,q,hm,hm2,_,_,_⟩:=WH (hform'.out (p,j+1) hx) (by rw[qP];cases h1:t[p].evs[j].kind==1<;>simp_all)
   rw[qP]at hm
   have hm3:(m:Int)<200:=by omega
   rw[hm]at k2
   obtain⟨_,_,a2,a3⟩:=hA.2 m hm2
   have c2:=hL6.cell a2
   have c3:=hL6.cell a3
   have HM:=KA hm
   clear hm
   by_cases h0:0<(jA t (ids t) 3 m).2
   ·have hd0:decide ((0:Int)<((jA t (ids t) 3 m).2:Int))=true:=by simp;omega
    have HD:=KA (show rI t (p,j+1)=[]++[jA t (ids t) 3 m] by rw[KN hp hn' qP];unfold toB;rw[qP,k,HM.out];simp[hn,h0])
    go_quiet (fail)
    revert nq;intro n1
    go_wp2
    have ZFg:=xB.drewN mN n1
    have ZKN:=IW.drewN n1
    have k27:(W6.drewN n1).cell? ⟨be,2,none⟩=some (.int .i64 m):=k2
    have c27:(W6.drewN n1).cell? ⟨bL,m*4+2,none⟩=some (.int .i64 (jA t (ids t) 3 m).1):=c2
    have c37:(W6.drewN n1).cell? ⟨bL,m*4+3,none⟩=some (.int .i64 (jA t (ids t) 3 m).2):=c3
    clear k2 c2 c3 k0 hL6 b6 mN
    generalize W6.drewN n1=W7 at *
    have NN:=ZKN.size
    go_region_law (first
     |(refine tV (v:=Value.slice none 0 0) (.tmp 51) (.tmp 59) ZGA rfl rfl rfl rfl (ZFg.ext (by repeat (first|exact Ext.refl _|assumption|apply Ext.alloc|apply Ext.drew|apply Ext.drewN|(refine Ext.trans ?_ aS)))) (SlC.lit (x:=jA t (ids t) 3 m) _ kS rfl rfl) (pM _) (by simp<;>omega) (by simp<;>omega) ?_;intro v8 w8 hown8 hgr8 hbl8))
    all_goals
     go_wp2
     go_ret
     exact⟨v8,rfl,by rw[HD.out];exact XE.snoc hown8 rfl,Ext.more (by repeat (first|exact Ext.refl _|assumption|apply Ext.alloc|apply Ext.drew|apply Ext.drewN|(refine Ext.trans ?_ aS))) hbl8⟩
   ·have hd0:decide ((0:Int)<((jA t (ids t) 3 m).2:Int))=false:=by simp;omega
    have HD:=KA (show rI t (p,j+1)=[] by rw[KN hp hn' qP];unfold toB;rw[qP,k,HM.out];simp[hn,h0])
    go_quiet (fail)
    revert nq;intro n1
    go_wp2
    go_ret
    exact⟨_,rfl,by rw[HD.out];exact mN.drewN _,IW.drewN _⟩
end Go.Proofs.YtmaokjojbjdpoaaGreatDoor
namespace Go.Proofs.YtmaokjojbjdpoaaGreatDoor
open Go.RowKit
set_option linter.unusedVariables false

theorem ZJh (d:Nat) (x y:Nat×Nat) (w:World):(Op.equalIn (d+1+1) 70 (SA x) (SA y)).run Tryz.prog w=.ok (x==y) w:=by
 have hf:Tryz.prog.fieldsOf 70=#[{name:= "Proc",type:=3,offset:=0,embedded:=false,tag:= "",pkgPath:= "",byteOffset:=0},{name:= "Index",type:=3,offset:=1,embedded:=false,tag:= "",pkgPath:= "",byteOffset:=8}]:=by
  simp[Program.fieldsOf,Tryz.underlying70]
 unfold SA
 rw[run_equalIn_agg w _ _ _ _ (by rw[hf];exact Tryz.underlying70) Tryz.stoodInHeld70,hf]
 simp[Op.eqFields,go_sem]
 obtain⟨a,b⟩:=x
 obtain⟨c,d⟩:=y
 simp only
 by_cases h1:a=c
 ·by_cases h2:b=d
  ·subst h1;subst h2;simp
  ·have:¬((b:Int)=d):=by omega
   rw[if_pos oM,if_neg this]
   simp[h1,h2]
 ·rw[if_neg oM]
  simp[h1]
theorem wW (d:Nat) (e:Bool) (x:Nat×Nat) (w:World):(Instr.checkKey e (d+1+1) 70 (SA x)).run Tryz.prog w=.ok () w:=by
 unfold SA
 simp[Instr.checkKey,run_underlying Tryz.underlying70,go_sem]
def LI (w:World) (r:Nat) (S:List (Nat×Nat)):Prop:=∃es clock,w.heap[r]? = some (.map es clock)∧es.toList.map (fun e=>(e.key,e.val))=S.map fun x=>(SA x,Value.bool true)
theorem ZAq (y:Nat×Nat) (w:World):∀(es:List MapEntry) (S:List (Nat×Nat)) (i:Nat),es.map (fun e=>(e.key,e.val))=S.map (fun x=>(SA x,Value.bool true)) →
  ∃r,(Instr.findAsking 70 (SA y) es i).run Tryz.prog w=.ok r w∧(y∈S→∃k,r=some (k,.bool true))∧(y∉S→r=none)
 |[],S,i,h=>by
   have:S=[]:=by cases S<;>simp at h⊢
   subst this
   exact⟨none,rfl,fun h=>absurd h kS,fun _=>rfl⟩
 |e::es,[],i,h=>by simp at h
 |e::es,x::S,i,h=>by
   simp only[bj,List.cons.injEq,Prod.mk.injEq]at h
   obtain⟨⟨h1,h2⟩,h3⟩:=h
   unfold Instr.findAsking
   have he:(Op.equal 70 (SA y) e.key).run Tryz.prog w=.ok (y==x) w:=by rw[h1];exact ZJh 9998 y x w
   by_cases hyx:y=x
   ·subst hyx
    refine⟨some (i,e.val),by simp[he],fun _=>⟨i,by rw[h2]⟩,fun hn=>absurd kS hn⟩
   ·obtain⟨r,hr,ha,hb⟩:=ZAq y w es S (i+1) h3
    refine⟨r,by simp[he,hyx,hr],fun hm=>ha ((cz.1 hm).resolve_left hyx),fun hn=>hb (fun hm=>hn (lf _ hm))⟩
theorem FS (y:Nat×Nat) (w:World) (es:List MapEntry) (S:List (Nat×Nat)) (h:es.map (fun e=>(e.key,e.val))=S.map (fun x=>(SA x,Value.bool true))) :
  ∃r,(Instr.findKey 70 (SA y) es).run Tryz.prog w=.ok r w∧(y∈S→∃k,r=some (k,.bool true))∧(y∉S→r=none):=by
 obtain⟨r,hr,ha,hb⟩:=ZAq y w es S 0 h
 refine⟨r,?_,ha,hb⟩
 unfold Instr.findKey
 cases es with
 |nil =>
   have:r=none:=by
    refine hb (fun hm=>?_)
    cases S<;>simp at h hm
   subst this
   simp[run_underlying Tryz.underlying70,Instr.findNow]
 |cons e es =>
   have hs:Instr.findNow (TypeDesc.struct #[{name:= "Proc",type:=3,offset:=0,embedded:=false,tag:= "",pkgPath:= "",byteOffset:=0},{name:= "Index",type:=3,offset:=1,embedded:=false,tag:= "",pkgPath:= "",byteOffset:=8}]) (SA y) (e::es) 0=none:=by
    simp[Instr.findNow,Instr.sameNow]
   simp[run_underlying Tryz.underlying70,hs,hr]
theorem dH {w:World} {r:Nat} {S:List (Nat×Nat)} (h:LI w r S) (y:Nat×Nat):(Instr.lookup 207 (.map (some r)) (SA y) false).run Tryz.prog w=.ok (.bool (decide (y∈S))) w:=by
 obtain⟨es,clock,hb,hS⟩:=h
 obtain⟨q,hq,ha,hc⟩:=FS y w es.toList S hS
 have hk:(Instr.checkKey es.isEmpty 10000 70 (SA y)).run Tryz.prog w=.ok () w:=wW 9998 es.isEmpty y w
 have hg:=run_getObj_map (P:=Tryz.prog) w r es clock hb
 unfold Instr.lookup
 by_cases hm:y∈S
 ·obtain⟨k,rfl⟩:=ha hm
  simp[run_underlying Tryz.underlying207,hg,hk,hq,hm]
 ·obtain rfl:=hc hm
  simp[run_underlying Tryz.underlying207,hg,hk,hq,hm,go_sem]
theorem uN {w:World} {r:Nat} {S:List (Nat×Nat)} (h:LI w r S) (y:Nat×Nat) (hy:y∉S):∃w',(Instr.mapUpdate 207 (.map (some r)) (SA y) (.bool true)).run Tryz.prog w=.ok () w'∧LI w' r (S++[y])∧w.grownBy w' (some r):=by
 obtain⟨es,clock,hb,hS⟩:=h
 obtain⟨q,hq,ha,hc⟩:=FS y w es.toList S hS
 have hk:(Instr.checkKey false 10000 70 (SA y)).run Tryz.prog w=.ok () w:=wW 9998 false y w
 have hg:=run_getObj_map (P:=Tryz.prog) w r es clock hb
 have pK:∀o,(setObj r o).run Tryz.prog w=.ok () (w.putObj r o):=fun o=>by
  simp[setObj,Sem.run,World.putObj,hb]
 obtain rfl:=hc hy
 refine⟨w.putObj r (.map (es.push {key:=SA y,val:=.bool true,born:=clock}) (clock+1)),?_,⟨_,_,World.putObj_heap_same (bw.1 hb).1,?_⟩,grownBy_putObj' _ _ _⟩
 ·unfold Instr.mapUpdate
  simp[run_underlying Tryz.underlying207,hg,hk,hq,pK]
 ·simp[hS]
theorem LI.new (w:World):LI (w.alloc (.map #[] 0)) w.heap.size []:=⟨#[],0,World.alloc_heap_new w _,rfl⟩
theorem LI.kept {w w':World} {row:Option Nat} {r:Nat} {S:List (Nat×Nat)} (h:LI w r S) (hg:w.grownBy w' row) (qG:some r≠row):LI w' r S:=by
 obtain⟨es,clock,hb,hS⟩:=h
 exact⟨es,clock,(hg.block r (bw.1 hb).1 qG).trans hb,hS⟩
theorem LI.lt {w:World} {r:Nat} {S:List (Nat×Nat)} (h:LI w r S):r<w.heap.size:=by
 obtain⟨es,clock,hb,hS⟩:=h
 exact (bw.1 hb).1
theorem LI.alloc {w:World} {r:Nat} {S:List (Nat×Nat)} (h:LI w r S) (o:Obj):LI (w.alloc o) r S:=h.kept (World.grownBy_alloc w o none) kS
theorem LI.ext {w w':World} {r:Nat} {S:List (Nat×Nat)} (h:LI w r S) (he:Ext w w'):LI w' r S:=by
 obtain⟨es,clock,hb,hS⟩:=h
 exact⟨es,clock,(he.block r (bw.1 hb).1).trans hb,hS⟩
theorem LI.other {w:World} {r b j:Nat} {S:List (Nat×Nat)} (h:LI w r S) (qG:r≠b) (u:Value):LI (w.setCell ⟨b,j,none⟩ u) r S:=by
 obtain⟨es,clock,hb,hS⟩:=h
 exact⟨es,clock,(Below.heap_setCell _ _ _ _ (by simpa using qG)).trans hb,hS⟩
theorem LI.not_box {w:World} {r b:Nat} {S:List (Nat×Nat)} {t:TypeId} {cs:Array Value} (h:LI w r S) (hb:UA w b t cs):r≠b:=by
 rintro rfl
 obtain⟨es,clock,h1,_⟩:=h
 rw[show w.heap[r]? = _ from hb]at h1;cases h1
theorem xB.not_map {size:Nat} {e:TypeId} {w:World} {B:Nat} {v:Value} {n:Nat} {cs:List Value} (h:xB size e w B v n cs) {r:Nat} {S:List (Nat×Nat)} (hm:LI w r S):v.ownBlock≠some r:=by
 rcases h.2 with ⟨rfl,_⟩|⟨g,off,cap,cur,rfl,_,hb,_⟩
 ·simp[Value.ownBlock]
 ·intro he
  simp[Value.ownBlock]at he
  exact hm.not_box hb he.symm
end Go.Proofs.YtmaokjojbjdpoaaGreatDoor
namespace Go.Proofs.YtmaokjojbjdpoaaGreatDoor
set_option linter.unusedVariables false

theorem mQ {t:Tr} {k m:Int} (h:0<(jA t (ids t) k m).2):jA t (ids t) k m∈ids t∧TC t k m=some (jA t (ids t) k m):=by
 have e:TC t k m=(ids t).find? (AD t k m):=rfl
 rw[e]
 unfold jA at h⊢
 cases hf:(ids t).find? (AD t k m) with
 |none=>rw[hf]at h;simp at h
 |some y=>exact⟨fk hf,rfl⟩
theorem YC {t:Tr} {k m:Int} {y:Nat×Nat} (h:TC t k m=some y):jA t (ids t) k m=y∧0<y.2∧y∈ids t:=by
 have e:TC t k m=(ids t).find? (AD t k m):=rfl
 rw[e]at h
 refine⟨by unfold jA;rw[h];rfl,lG (fk h),fk h⟩
theorem V3 {t:Tr} {x y:Nat×Nat}:y∈rI t x↔Dir t x y:=by
 unfold rI Dir toB
 rw[bu]
 constructor
 ·rintro (h|h)
  ·split at h
   ·rename_i yA
    exact .inl ⟨by simpa using h,yA⟩
   ·cases h
  ·split at h
   ·rename_i hb
    simp only[ar,beq_iff_eq,bf]at hb
    have:y=jA t (ids t) 3 (uA t x).msg:=by simpa using h
    subst this
    exact .inr ⟨hb.1,(mQ hb.2).2⟩
   ·cases h
 ·rintro (⟨rfl,yA⟩|⟨hk,hf⟩)
  ·rw[if_pos yA];exact .inl kS
  ·obtain⟨h1,h2,_⟩:=YC hf
   refine .inr ?_
   rw[if_pos (by rw[h1];simp[hk,h2]),h1]
   simp
theorem Dir.mem {t:Tr} {x y:Nat×Nat} (hx:x∈ids t) (h:Dir t x y):y∈ids t:=by
 rcases h with ⟨rfl,yA⟩|⟨_,hf⟩
 ·obtain⟨hp,_,_⟩:=AC.1 hx
  refine AC.2 ⟨hp,by simp,?_⟩
  unfold nA at yA
  rw[YB dfPr t hp]at yA
  exact yA
 ·exact (YC hf).2.2
theorem Hb.mem {t:Tr} {x y:Nat×Nat} (hx:x∈ids t) (h:Hb t x y):y∈ids t:=by
 induction h with
 |one h=>exact h.mem hx
 |more _ h ih=>exact h.mem ih
structure DfsI (t:Tr) (id:Nat×Nat) (S R:List (Nat×Nat)):Prop where
 nod:S.Nodup
 notid:id∉S
 reach:∀y∈S,Hb t id y
 rest:∀y∈R,y=id∨y∈S
 closed:∀x,x=id∨x∈S→x∈R∨∀y,Dir t x y→y∈S
structure DfsJ (t:Tr) (id x:Nat×Nat) (S R:List (Nat×Nat)) (k:Nat):Prop where
 nod:S.Nodup
 notid:id∉S
 reach:∀y∈S,Hb t id y
 rest:∀y∈R,y=id∨y∈S
 cur:x=id∨x∈S
 closed:∀z,z=id∨z∈S→z∈R∨z=x∨∀y,Dir t z y→y∈S
 done:∀y∈(rI t x).take k,y∈S
theorem DfsI.start (t:Tr) (id:Nat×Nat):DfsI t id [] [id]:=
 ⟨List.nodup_nil,by simp,by simp,fun y h=>.inl (by simpa using h),fun x h=>.inl (by simpa using h)⟩
theorem DfsI.pop {t:Tr} {id x:Nat×Nat} {S R:List (Nat×Nat)} (h:DfsI t id S (R++[x])):DfsJ t id x S R 0:=
 ⟨h.nod,h.notid,h.reach,fun y hy=>h.rest y (by simp[hy]),h.rest x kS,fun z hz=>by
  rcases h.closed z hz with h1|h1
  ·rcases bu.1 h1 with h2|h2
   ·exact .inl h2
   ·exact .inr (.inl (by simpa using h2))
  ·exact .inr (.inr h1),by simp⟩
theorem eN {α:Type} {l:List α} {k:Nat} {y:α} (h:l[k]? = some y):l.take (k+1)=l.take k++[y]:=by
 rw[gb,h];rfl
theorem DfsJ.skip {t:Tr} {id x y:Nat×Nat} {S R:List (Nat×Nat)} {k:Nat} (h:DfsJ t id x S R k) (hk:(rI t x)[k]? = some y) (hy:y∈S):DfsJ t id x S R (k+1):=
 ⟨h.nod,h.notid,h.reach,h.rest,h.cur,h.closed,fun z hz=>by
  rw[eN hk]at hz
  rcases bu.1 hz with h1|h1
  ·exact h.done z h1
  ·have:z=y:=by simpa using h1
   subst this;exact hy⟩
theorem DfsJ.hb {t:Tr} {id x y:Nat×Nat} {S R:List (Nat×Nat)} {k:Nat} (h:DfsJ t id x S R k) (hk:(rI t x)[k]? = some y):Hb t id y:=by
 have hd:Dir t x y:=V3.1 (ci hk)
 rcases h.cur with rfl|h1
 ·exact .one hd
 ·exact .more (h.reach x h1) hd
theorem DfsJ.push {t:Tr} {id x y:Nat×Nat} {S R:List (Nat×Nat)} {k:Nat} (h:DfsJ t id x S R k) (hk:(rI t x)[k]? = some y) (hy:y∉S) (qG:y≠id):DfsJ t id x (S++[y]) (R++[y]) (k+1):=by
 have hr:=h.hb hk
 refine⟨?_,?_,?_,?_,?_,?_,?_⟩
 ·refine ic.2 ⟨h.nod,by simp,fun a ha b hb=>?_⟩
  have:b=y:=by simpa using hb
  subst this
  exact fun e=>hy (e▸ha)
 ·intro hm
  rcases bu.1 hm with h1|h1
  ·exact h.notid h1
  ·exact qG (by simpa using h1:id=y).symm
 ·intro z hz
  rcases bu.1 hz with h1|h1
  ·exact h.reach z h1
  ·have:z=y:=by simpa using h1
   subst this;exact hr
 ·intro z hz
  rcases bu.1 hz with h1|h1
  ·exact (h.rest z h1).imp_right fun h2=>by simp[h2]
  ·exact .inr (bu.2 (.inr h1))
 ·exact h.cur.imp_right fun h2=>by simp[h2]
 ·intro z hz
  have:z=y∨z=id∨z∈S:=by
   rcases hz with h1|h1
   ·exact .inr (.inl h1)
   ·rcases bu.1 h1 with h2|h2
    ·exact .inr (.inr h2)
    ·exact .inl (by simpa using h2)
  rcases this with rfl|h1
  ·exact .inl kS
  ·rcases h.closed z h1 with h2|h2|h2
   ·exact .inl (by simp[h2])
   ·exact .inr (.inl h2)
   ·exact .inr (.inr fun w hw=>by simp[h2 w hw])
 ·intro z hz
  rw[eN hk]at hz
  rcases bu.1 hz with h1|h1
  ·simp[h.done z h1]
  ·exact bu.2 (.inr h1)
theorem DfsJ.fin {t:Tr} {id x:Nat×Nat} {S R:List (Nat×Nat)} {k:Nat} (h:DfsJ t id x S R k) (hk:(rI t x).length≤k):DfsI t id S R:=
 ⟨h.nod,h.notid,h.reach,h.rest,fun z hz=>by
  rcases h.closed z hz with h2|h2|h2
  ·exact .inl h2
  ·subst h2
   refine .inr fun y hy=>h.done y ?_
   rw[bo hk]
   exact V3.2 hy
  ·exact .inr h2⟩
theorem DfsI.no {t:Tr} {id:Nat×Nat} {S:List (Nat×Nat)} (h:DfsI t id S []):¬Hb t id id:=by
 have key:∀y,Hb t id y→y∈S:=by
  intro y hy
  induction hy with
  |one hd=>exact (h.closed id (.inl rfl)).resolve_left kS _ hd
  |more _ hd ih=>exact (h.closed _ (.inr ih)).resolve_left kS _ hd
 exact fun hh=>h.notid (key id hh)
theorem AI {α:Type} [DecidableEq α]:∀{S L:List α},S.Nodup→(∀x∈S,x∈L)→S.length≤L.length
 |[],_,_,_=>aj _
 |a::S,L,hn,hs=>by
   have h1:=jy.1 hn
   have h2:S.length≤(L.erase a).length:=AI h1.2 fun x hx=>by
    have qG:x≠a:=fun e=>h1.1 (e▸hx)
    exact (List.mem_erase_of_ne qG).2 (hs x (by simp[hx]))
   have ha:a∈L:=hs a kS
   rw[List.length_erase_of_mem ha]at h2
   have:=List.length_pos_of_mem ha
   simp;omega
theorem DfsI.few {t:Tr} {id:Nat×Nat} {S R:List (Nat×Nat)} (h:DfsI t id S R) (hid:id∈ids t):S.length≤(ids t).length:=
 AI h.nod fun x hx=>(h.reach x hx).mem hid
theorem DfsJ.few {t:Tr} {id x:Nat×Nat} {S R:List (Nat×Nat)} {k:Nat} (h:DfsJ t id x S R k) (hid:id∈ids t):S.length≤(ids t).length:=
 AI h.nod fun x hx=>(h.reach x hx).mem hid
theorem DfsJ.mem {t:Tr} {id x:Nat×Nat} {S R:List (Nat×Nat)} {k:Nat} (h:DfsJ t id x S R k) (hid:id∈ids t):x∈ids t:=by
 rcases h.cur with rfl|h1
 ·exact hid
 ·exact (h.reach x h1).mem hid
set_option linter.unusedSimpArgs false

theorem YA {α:Type} {l:List α} {i:Nat} {d:α} (h:i<l.length):l.getD i d=l[i]:=by simp[List.getD,h]
theorem C3 {v w:List Int} (h:v.length=w.length) (hg:∀i,i<v.length→v.getD i 0=w.getD i 0):v=w:=by
 refine lm h (fun i h1 h2=>?_)
 have:=hg i h1
 rwa [YA h1,YA h2]at this
theorem getD_set_ne {α:Type} {l:List α} {i j:Nat} {x d:α} (h:i≠j):(l.set i x).getD j d=l.getD j d:=by
 simp only[au,bl h]
open Go.RowKit
attribute [local go_sem] Oper.semAt_some

def YI (t:Tr) (w:World) (u:Value) (bL:Nat) (l:List (Nat×Nat)) (W:World):Prop:=
 (((((UA W w.heap.size 30 #[u]∧UA W (w.heap.size+1) 133 #[.pointer (some ⟨bL,0,none⟩)])∧UA W (w.heap.size+1+1) 70 #[.int .i64 0,.int .i64 0])∧UA W (w.heap.size+1+1+1) 4 #[.bool false])∧Ext w W)∧∀x∈l,¬Hb t x x)
def YX (t:Tr) (w:World) (l:List (Nat×Nat)) (W:World):Prop:=
 ∃a x,(((l=a++[x]∧(∀y∈a,¬Hb t y y)∧Hb t x x)∧UA W (w.heap.size+1+1) 70 #[.int .i64 x.1,.int .i64 x.2])∧UA W (w.heap.size+1+1+1) 4 #[.bool true])∧Ext w W
open Classical in
noncomputable def UG (t:Tr):Option (Nat×Nat):=(ids t).find? (fun x=>decide (Hb t x x))
def YPost (t:Tr) (w:World) (e:Ending) (w':World):Prop:=Ext w w' ∧
 ((∃x,UG t=some x∧e=.returned (.tuple #[SA x,.bool true]))∨(UG t=none∧e=.returned (.tuple #[SA (0,0),.bool false])))
theorem C9 (t:Tr) (w:World) (u:Value) (bL:Nat) {n:Nat} (hn:w.heap.size≤n):OwnFrom n (fun (pre:List (Idt t)) W=>YI t w u bL (pre.map (·.1)) W):=
 OwnFrom.and (OwnFrom.and (OwnFrom.and (OwnFrom.and (OwnFrom.and (tA _ _ _ _) (tA _ _ _ _)) (tA _ _ _ _)) (tA _ _ _ _)) (YH hn)) (ownFrom_pure _ _)
theorem ZGW (t:Tr) (w:World) {n:Nat} (hn:w.heap.size≤n):OwnFrom n (fun (pre:List (Idt t)) W=>YX t w (pre.map (·.1)) W):=by
 rintro s X Y row ⟨a,x,h⟩ hg hr
 refine⟨a,x,⟨⟨h.1.1.1,?_⟩,?_⟩,YH hn () X Y row h.2 hg hr⟩
 ·exact tA _ n _ (fun (_:Unit)=>_) () X Y row h.1.1.2 hg hr
 ·exact tA _ n _ (fun (_:Unit)=>_) () X Y row h.1.2 hg hr
theorem ZHV {t:Tr} (h:∀x∈ids t,¬Hb t x x):UG t=none:=by
 unfold UG
 rw[db]
 intro x hx;simpa using h x hx
open Classical in
theorem ZHU {t:Tr} {a:List (Nat×Nat)} {x:Nat×Nat} (hp:a++[x] <+: ids t) (ha:∀y∈a,¬Hb t y y) (hx:Hb t x x):UG t=some x:=by
 obtain⟨c,hc⟩:=hp
 unfold UG
 rw[←hc,bc,fc]
 have:a.find? (fun x=>decide (Hb t x x))=none:=by
  rw[db]
  intro y hy;simpa using ha y hy
 rw[this]
 simp[hx]
def PX (w:World) (r:Nat):Nat:=match w.heap[r]? with|some (.map es _)=>es.size|_=>0
theorem LI.size {w:World} {r:Nat} {S:List (Nat×Nat)} (h:LI w r S):PX w r=S.length:=by
 obtain⟨es,clock,hb,hS⟩:=h
 unfold PX
 rw[hb]
 have:=congrArg List.length hS
 simpa using this
def lenV:Value→Nat|.slice _ n _=>n|_=>0
def SrI (t:Tr) (id:Nat×Nat) (W:World) (r:Nat) (v:Value) (wr:World):Prop:=∃S R,DfsI t id S R∧LI wr r S∧XE wr W.heap.size v R∧Ext W wr∧2*((ids t).length-S.length)+R.length≤2*(ids t).length+1
def SrJ (t:Tr) (id x:Nat×Nat) (W:World) (r N:Nat) (v2 i v:Value) (wr:World):Prop:=∃S R k,DfsJ t id x S R k∧k≤(rI t x).length∧i=.int .i64 k∧LI wr r S∧XE wr W.heap.size v R∧Ext W wr∧2*((ids t).length-S.length)+R.length≤N∧XE wr 0 v2 (rI t x)∧(∀k,v.ownBlock=some k→v2.ownBlock≠some k)
theorem snoc_cases {α:Type} (l:List α):l=[]∨∃L b,l=L++[b]:=by
 rcases List.eq_nil_or_concat l with h|⟨L,b,h⟩
 ·exact .inl h
 ·exact .inr ⟨L,b,by rw[h,List.concat_eq_append]⟩
theorem ZEM {l:List (Nat×Nat)}:∀{k:Nat} {z:Nat×Nat},l[k]? = some z→(UL l)[k*2]? = some (.int .i64 z.1)∧(UL l)[k*2+1]? = some (.int .i64 z.2):=by
 induction l with
 |nil=>intro k z h;simp at h
 |cons a l ih =>
   intro k z h
   have e:UL (a::l)=(.int .i64 a.1)::(.int .i64 a.2)::UL l:=rfl
   rw[e]
   cases k with
   |zero=>simp at h;subst h;simp
   |succ k =>
     have:=ih (k:=k) (z:=z) (by simpa using h)
     rw[show (k+1)*2=k*2+1+1 by omega]
     simpa using this
theorem XE.at_ {w:World} {B:Nat} {v:Value} {l:List (Nat×Nat)} (h:XE w B v l) (h0:0<l.length):∃g off cap,v=.slice (some ⟨g,off,none⟩) l.length cap∧l.length≤cap∧cap≤maxLen∧B≤g∧g<w.heap.size ∧
  ∀(k:Nat) (z:Nat×Nat),l[k]? = some z→w.cell? ⟨g,off+k*2,none⟩=some (.int .i64 z.1)∧w.cell? ⟨g,off+k*2+1,none⟩=some (.int .i64 z.2):=by
 obtain⟨g,off,cap,cur,rfl,h1,h2,h3,h4,h5,h6⟩:=xB.open_ h h0
 refine⟨g,off,cap,rfl,h3,h4,h1,h2.lt,fun k z hk=>?_⟩
 obtain⟨a,b⟩:=ZEM hk
 exact⟨h2.cell (h6 _ _ a),h2.cell (h6 _ _ b)⟩
theorem XE.pop {w:World} {B:Nat} {A:Option Addr} {c n:Nat} {l:List (Nat×Nat)} {y:Nat×Nat} (h:XE w B (.slice A n c) (l++[y])):XE w B (.slice A l.length c) l:=by
 obtain⟨A',c',hv,_⟩:=xB.form h
 injection hv with e1 e2 e3
 subst e1;subst e2;subst e3
 have:=xB.take h l.length kS
 have e:(UL (l++[y])).take (l.length*2)=UL l:=by
  rw[show UL (l++[y])=UL l++UL [y] by simp[UL],List.take_left' (ZEL l)]
 rw[e]at this
 exact this

theorem U7 (u:Value) (t:Tr) (bL:Nat) (cs:Array Value) (w:World) (hl:t.length≤1000000) (LJ:∀x∈t,x.evs.length≤1000000) (hN:(ids t).length≤1000000) (hs:SlR 3 RPr w u t) (fL:∀x∈ids t,JB t.length x.1 (uA t x)=true)
  (hL:UA w bL 181 cs) (hA:OO t (ids t) cs) :
  Calls Tryz.prog 136 #[.agg #[u],.pointer (some ⟨bL,0,none⟩)] w fun e w'=>YPost t w e w':=by
 refine callsIn_wide (n:=9).1 ?_
 refine callsIn_of_wp_marks Tryz.func136 rfl trivial ?_ rfl
 simp only[Tryz.ntmps136,dx,ej,fq,Nat.reduceAdd,Nat.reduceSub,ig,ii,ij,ik,ee,da]
 gi_wp2_with (refine⟨trivial,?_⟩;gi_at_call 88;refine (callsIn_wide.2 (DI _ _)).mono ?_;rintro e w' ⟨rfl,rfl⟩)
 obtain⟨W0,G8⟩:∃W0,(((((w.alloc (Obj.cells #[u] 30)).alloc (Obj.cells #[Value.pointer (some ⟨bL,0,none⟩)] 133)).alloc (Obj.cells #[Value.int IntKind.i64 0,Value.int IntKind.i64 0] 70)).alloc (Obj.cells #[Value.bool false] 4)).alloc (Obj.cells #[u] 30))=W0:=⟨_,rfl⟩
 rw[G8]
 have NN:W0.heap.size=w.heap.size+1+1+1+1+1:=by rw[←G8];simp
 have hM0:YI t w u bL [] W0:=by
  rw[←G8]
  refine⟨⟨⟨⟨⟨?_,?_⟩,?_⟩,?_⟩,?_⟩,fun x hx=>by cases hx⟩
  ·exact ((((UA.newAt _ _ kS).alloc _).alloc _).alloc _).alloc _
  ·exact (((UA.newAt _ _ kS).alloc _).alloc _).alloc _
  ·exact ((UA.newAt _ _ kS).alloc _).alloc _
  ·exact (UA.newAt _ _ kS).alloc _
  ·exact (((((Ext.refl w).alloc _).alloc _).alloc _).alloc _).alloc _
 have bt:UA W0 (w.heap.size+1+1+1+1) 30 #[u]:=by rw[←G8];exact UA.newAt _ _ kS
 clear G8
 have ZQ:Ext w W0:=hM0.1.2
 refine wpIn_rangeFunc_ownH rfl oM (gf:=138) (lb:=#[.pointer (some ⟨w.heap.size+1+1+1+1,0,none⟩)]) rfl trivial (fC Tryz.func138 kE rfl)
  (AG 8 oM w u t (w.heap.size+1+1+1+1) W0 hl LJ hs ZQ (bt.cell rfl) oM) belowK_t (belowK_b oM) (Below.refl _ _) (fun _=>rfl)
  (fun pre W=>YI t w u bL (pre.map (·.1)) W) (fun c pre W=>c=.ret∧YX t w (pre.map (·.1)) W) (C9 t w u bL oM) (fun c=>OwnFrom.and (ownFrom_pure _ _) (ZGW t w oM)) hM0
  (fun x a' W=>∃B6 v14 v15,w.heap.size+1+1+1<B6∧UA W B6 70 #[.int .i64 x.1.1,.int .i64 x.1.2] ∧
   a'={tmps:=#[.agg #[u],.pointer (some ⟨bL,0,none⟩),.pointer (some ⟨w.heap.size,0,none⟩),.pointer (some ⟨w.heap.size+1,0,none⟩),.pointer (some ⟨w.heap.size+1+1,0,none⟩),.pointer (some ⟨w.heap.size+1+1+1,0,none⟩),.pointer (some ⟨B6,0,none⟩),undef,undef,undef,undef,undef,.agg #[u],.func (.func 138) #[] #[.pointer (some ⟨w.heap.size+1+1+1+1,0,none⟩)],v14,v15,undef,undef,undef,undef,undef,undef,undef,undef,undef,undef,undef,undef,undef,undef,undef,undef,undef,undef,undef,undef,undef,undef,undef,undef,undef,undef,undef,undef,undef,undef,undef,undef,undef,undef,undef,undef,undef,undef,undef,undef,undef,undef],defers:=[]})
  ?hax ?assign ?body ?done ?stop
 case hax =>
  rintro x a' _ X Y row ⟨B6,v14,v15,hB,b6,ha⟩ hg hr
  exact⟨B6,v14,v15,hB,tA B6 _ _ (fun (_:Unit)=>_) () X Y row b6 hg hr,ha⟩
 case assign =>
  rintro l pre x W K hI hK
  have hsW:=hI.1.2.size
  have h5:=hI.1.1.2.lt
  unfold SA
  gi_wp2
  exact hK _ _ ((KeepsOthers.alloc _ _).from _) ((Below.refl _ W).alloc hsW _) ((C9 t w u bL (ai _)).alloc _ hI) ⟨W.heap.size,_,_,h5,UA.new _ _ _,rfl⟩
 case body =>
  rintro l pre x a' W hlW ⟨r,hr⟩ hI ⟨B6,v14,v15,hB,b6,rfl⟩ IB
  have hI0:=hI
  obtain⟨⟨⟨⟨⟨tb,lb⟩,r1⟩,r2⟩,hx0⟩,VP⟩:=hI
  have hsW:=hx0.size
  have hB6:=b6.lt
  have t3:=r2.lt
  have HNO:=KA VP
  clear VP
  have i0:=b6.cell (j:=0) rfl
  have i1:=b6.cell (j:=1) rfl
  have hmm:=@run_makeMap Tryz.prog
  gi_wp2
  clear hmm i0 i1
  gi_loopw [8] (fun v wr=>SrI t x.1 W W.heap.size v wr) (fun v wr=>2*((ids t).length-PX wr W.heap.size)+lenV v)
  case atStart =>
   refine⟨[],[x.1],DfsI.start t x.1,(LI.new W).alloc _,?_,((Ext.refl W).alloc _).alloc _,by simp⟩
   exact xB.madeAt kS #[.int .i64 x.1.1,.int .i64 x.1.2] kS (by simp[maxLen]) rfl
  case round =>
   obtain⟨Sn,R,hD,hm,ho,hx,H4⟩:=hrel
   have HM:=KA hm
   have HO:=KA ho
   have HD:=KA hD
   have tb1:=tb.ext hx
   have lb1:=lb.ext hx
   have b61:=b6.ext hx
   have lt1:=tb1.lt
   have lt2:=lb1.lt
   have lt3:=b61.lt
   have t0:=tb1.cell (j:=0) rfl
   have l0:=lb1.cell (j:=0) rfl
   have i0:=b61.cell (j:=0) rfl
   have i1:=b61.cell (j:=1) rfl
   rcases snoc_cases R with rfl|⟨R',y,rfl⟩
   ·obtain⟨A,c,rfl,_,_⟩:=ho.form
    clear hm ho hD
    gi_wp2
    refine⟨KF.ext (KeepsFrom.refl _ _) hx,BL.ext (Below.refl _ _) hx hsW,?_⟩
    show YI t w u bL ((pre++[x]).map (·.1)) _
    rw[kG]
    refine⟨⟨⟨⟨⟨tb1,lb1⟩,r1.ext hx⟩,r2.ext hx⟩,hx0.trans hx⟩,fun z hz=>?_⟩
    rcases bu.1 hz with h1|h1
    ·exact HNO.out z h1
    ·rw[show z=x.1 by simpa using h1];exact HD.out.no
   ·obtain⟨g,off,cap,rfl,sA,DD,QH,jR,hg5⟩:=ho.at_ kS
    have hop:=KA (XE.pop ho)
    obtain⟨c0,c1⟩:=hg5 R'.length y kS
    rw[ap,dw]at sA
    have hJ:=KA hD.pop
    have hy:=hJ.out.mem x.2
    have LE:=jB c0
    clear hm ho hD hg5
    simp only[ap,ej,fq,cn]at *
    unfold maxLen at DD
    gi_wp2_with fail
    refine⟨trivial,?_⟩
    have ZI:Ext W (wr.alloc (.cells #[.int .i64 y.1,.int .i64 y.2] 70)):=hx.alloc _
    refine (CallsIn.inRound l (callsIn_wide (n:=6).2 (ZCI u t y.1 y.2 bL cs _ hl LJ (hs.ext RPr.keeps (hx0.trans ZI)) hy fL (hL.ext (hx0.trans ZI)) hA))).mono ?_
    rintro e w2 ⟨v2,rfl,ho2,uJ⟩
    have hm2:=(HM.out.alloc _).ext uJ
    have ho3:=xB.ext (xB.alloc hop.out _) uJ
    have tb2:=(tb1.alloc _).ext uJ
    have lb2:=(lb1.alloc _).ext uJ
    have b62:=(b61.alloc _).ext uJ
    have hx2:=ZI.trans uJ
    have ho4:XE w2 0 v2 (rI t (y.1,y.2)):=xB.mono ho2 (aj _)
    have qG:∀k,(Value.slice (some ⟨g,off,none⟩) R'.length cap).ownBlock=some k→v2.ownBlock≠some k:=fun k hk e=>by
     simp[Value.ownBlock]at hk;subst hk
     have:=(xB.blk ho2 _ e).1
     simp at this;omega
    have HM2:=KA (show SrJ t x.1 y W W.heap.size (2*((ids t).length-Sn.length)+R'.length) v2 (.int .i64 0) (.slice (some ⟨g,off,none⟩) R'.length cap) w2 from⟨Sn,R',0,hJ.out,aj _,rfl,hm2,ho3,hx2,ai _,ho4,qG⟩)
    obtain⟨A2,c2,rfl,hv1,hv2⟩:=xB.form ho2
    unfold maxLen at hv2
    have hv3:(rI t y).length≤c2:=hv1
    clear hm2 ho3 ho4 qG ho2 c0 c1 t0 l0 i0 i1
    gi_wp2
    gi_loopw [38,8] (fun i v wi=>SrJ t x.1 y W W.heap.size (2*((ids t).length-Sn.length)+R'.length) (.slice A2 (rI t (y.1,y.2)).length c2) i v wi) (fun i _ _=>(rI t y).length-(intOf i).toNat)
    case atStart=>exact HM2.out
    case round =>
     obtain⟨S,R,k,hJ,hk,rfl,hm,ho,US,hNN,hd2,qG⟩:=hrel
     have HJ:=KA hJ
     have HM3:=KA hm
     have HO3:=KA ho
     have HD2:=KA hd2
     have HNE:=KA qG
     have tb3:=tb.ext US
     have lb3:=lb.ext US
     have b63:=b6.ext US
     have r13:=r1.ext US
     have r23:=r2.ext US
     have lt13:=tb3.lt
     have lt23:=lb3.lt
     have lt33:=b63.lt
     have lt43:=r13.lt
     have lt53:=r23.lt
     have i0:=b63.cell (j:=0) rfl
     have i1:=b63.cell (j:=1) rfl
     by_cases yA:k<(rI t y).length
     ·obtain⟨⟨za,zb⟩,hz⟩:∃z,(rI t y)[k]? = some z:=⟨_,ah yA⟩
      obtain⟨g2,off2,cap2,hv,YS,_,_,hg2l,ZF8⟩:=hd2.at_ oM
      injection hv with hA2 _ hc22
      subst hA2;subst hc22
      obtain⟨e0,e1⟩:=ZF8 k _ hz
      have HZ:=KA hz
      clear ZF8 hz hJ hm ho hd2 qG
      by_cases hid:(za,zb)=x.1
      ·have HZ2:=KA (show Hb t x.1 x.1 by have:=HJ.out.hb HZ.out;rw[hid]at this;exact this)
       obtain rfl:za=x.1.1:=by rw[←hid]
       obtain rfl:zb=x.1.2:=by rw[←hid]
       clear hid
       have ZLm:KeepsFrom (w.heap.size+1+1+1+1+1) W wr:=KF.ext (KeepsFrom.refl _ _) US
       have hBL3:Below w.heap.size W wr:=BL.ext (Below.refl _ _) US hsW
       have ZLn:Ext w wr:=hx0.trans US
       have f1:=r13.frozen 0
       have f2:=r13.frozen 1
       have f3:=r23.frozen 0
       have p1:=r13.cell (j:=0) rfl
       have p2:=r13.cell (j:=1) rfl
       have p3:=r23.cell (j:=0) rfl
       gi_wp2
       refine⟨?_,rfl,pre.map (·.1),x.1,⟨⟨⟨kG pre x,HNO.out,HZ2.out⟩,?_⟩,?_⟩,?_⟩
       all_goals exact kW0
      ·by_cases hz1:za=x.1.1
       ·have hz2:zb≠x.1.2:=fun e=>hid (Prod.ext hz1 e)
        subst hz1
        have hq3:((zb:Int)==(x.1.2:Int))=false:=by simp;omega
        have hq4:¬((zb:Int)=(x.1.2:Int)):=by omega
        have HID:=KA hid
        clear hid hz2
        by_cases zE:(x.1.1,zb)∈S
        ·have hlk:=dH (HM3.out.alloc (.cells #[.int .i64 x.1.1,.int .i64 zb] 70)) (x.1.1,zb)
         rw[ae zE]at hlk
         unfold SA at hlk
         have HIN:=KA zE
         clear zE
         gi_wp2
         go_roundw
         case rel=>exact⟨S,R,k+1,HJ.out.skip HZ.out HIN.out,yA,by go_num,HM3.out.alloc _,xB.alloc HO3.out _,US.alloc _,hNN,xB.alloc HD2.out _,HNE.out⟩
         case measure=>simp[intOf];omega
        ·have hlk:=dH (HM3.out.alloc (.cells #[.int .i64 x.1.1,.int .i64 zb] 70)) (x.1.1,zb)
         rw[ag zE]at hlk
         obtain⟨w3,VD,hm4,jT⟩:=uN (HM3.out.alloc (.cells #[.int .i64 x.1.1,.int .i64 zb] 70)) (x.1.1,zb) zE
         unfold SA at hlk VD
         have HIN:=KA zE
         have HG3:=KA jT
         have HM4:=KA hm4
         have nR:=HM3.out.lt
         have bz:UA w3 wr.heap.size 70 #[.int .i64 x.1.1,.int .i64 zb]:=(UA.new wr _ _).kept jT (by simp;omega)
         have z0:=bz.cell (j:=0) rfl
         have z1:=bz.cell (j:=1) rfl
         have ho5:XE w3 W.heap.size u8 R:=xB.kept (xB.alloc HO3.out _) jT (.inr (xB.not_map (xB.alloc HO3.out (.cells #[.int .i64 x.1.1,.int .i64 zb] 70)) (HM3.out.alloc _)))
         have hx3:Ext W w3:=Ext.grown (US.alloc (.cells #[.int .i64 x.1.1,.int .i64 zb] 70)) jT (fun k hk=>by injection hk with hk;omega)
         have ZKO:=jT.size
         rw[World.size_alloc]at ZKO
         have P8:R.length≤2000001:=by omega
         have HO5:=KA ho5
         clear zE jT hm4 ho5
         gi_wp2_with (gi_at_builtin;go_must (refine qS (v:=u8) (.tmp 52) (.tmp 54) ZGA rfl rfl rfl rfl (xB.alloc HO5.out _) (SlC.lit (x:=(x.1.1,zb)) _ rfl rfl rfl) (pM _) oM (by have:=hx3.size;simp;omega) ?_;intro v4 w4 hown4 ZCw hbl4))
         go_roundw
         case rel =>
          refine⟨_,_,_,?_,rfl,rfl,rfl⟩
          have hd3:XE w3 0 (.slice (some ⟨g2,off2,none⟩) (rI t (y.1,y.2)).length c2) (rI t y):=xB.kept (xB.alloc HD2.out _) HG3.out (.inr (xB.not_map (xB.alloc HD2.out (.cells #[.int .i64 x.1.1,.int .i64 zb] 70)) (HM3.out.alloc _)))
          refine⟨S++[(x.1.1,zb)],R++[(x.1.1,zb)],k+1,HJ.out.push HZ.out HIN.out HID.out,yA,by go_num,(HM4.out.alloc _).kept ZCw.1 (xB.not_map HO5.out HM4.out).symm,XE.snoc hown4 rfl,Ext.more (hx3.alloc _) hbl4,?_,xB.kept (xB.alloc hd3 _) ZCw.1 (.inr fun e=>HNE.out _ e.symm rfl),?_⟩
          ·have h1:=HJ.out.push HZ.out HIN.out HID.out
           have h2:=h1.few x.2
           simp at h2⊢
           omega
          ·intro q hq e
           rcases ZCw.2 q hq with h1|h1
           ·exact HNE.out q h1 e
           ·simp[Value.ownBlock]at e
            subst e
            simp at h1;omega
         case measure=>simp[intOf];omega
       ·have hq1:((za:Int)==(x.1.1:Int))=false:=by simp;omega
        have ET:¬((za:Int)=(x.1.1:Int)):=by omega
        have HID:=KA hid
        clear hid hz1
        by_cases zE:(za,zb)∈S
        ·have hlk:=dH (HM3.out.alloc (.cells #[.int .i64 za,.int .i64 zb] 70)) (za,zb)
         rw[ae zE]at hlk
         unfold SA at hlk
         have HIN:=KA zE
         clear zE
         gi_wp2
         go_roundw
         case rel=>exact⟨S,R,k+1,HJ.out.skip HZ.out HIN.out,yA,by go_num,HM3.out.alloc _,xB.alloc HO3.out _,US.alloc _,hNN,xB.alloc HD2.out _,HNE.out⟩
         case measure=>simp[intOf];omega
        ·have hlk:=dH (HM3.out.alloc (.cells #[.int .i64 za,.int .i64 zb] 70)) (za,zb)
         rw[ag zE]at hlk
         obtain⟨w3,VD,hm4,jT⟩:=uN (HM3.out.alloc (.cells #[.int .i64 za,.int .i64 zb] 70)) (za,zb) zE
         unfold SA at hlk VD
         have HIN:=KA zE
         have HG3:=KA jT
         have HM4:=KA hm4
         have nR:=HM3.out.lt
         have bz:UA w3 wr.heap.size 70 #[.int .i64 za,.int .i64 zb]:=(UA.new wr _ _).kept jT (by simp;omega)
         have z0:=bz.cell (j:=0) rfl
         have z1:=bz.cell (j:=1) rfl
         have ho5:XE w3 W.heap.size u8 R:=xB.kept (xB.alloc HO3.out _) jT (.inr (xB.not_map (xB.alloc HO3.out (.cells #[.int .i64 za,.int .i64 zb] 70)) (HM3.out.alloc _)))
         have hx3:Ext W w3:=Ext.grown (US.alloc (.cells #[.int .i64 za,.int .i64 zb] 70)) jT (fun k hk=>by injection hk with hk;omega)
         have ZKO:=jT.size
         rw[World.size_alloc]at ZKO
         have P8:R.length≤2000001:=by omega
         have HO5:=KA ho5
         clear zE jT hm4 ho5
         gi_wp2_with (gi_at_builtin;go_must (refine qS (v:=u8) (.tmp 52) (.tmp 54) ZGA rfl rfl rfl rfl (xB.alloc HO5.out _) (SlC.lit (x:=(za,zb)) _ rfl rfl rfl) (pM _) oM (by have:=hx3.size;simp;omega) ?_;intro v4 w4 hown4 ZCw hbl4))
         go_roundw
         case rel =>
          refine⟨_,_,_,?_,rfl,rfl,rfl⟩
          have hd3:XE w3 0 (.slice (some ⟨g2,off2,none⟩) (rI t (y.1,y.2)).length c2) (rI t y):=xB.kept (xB.alloc HD2.out _) HG3.out (.inr (xB.not_map (xB.alloc HD2.out (.cells #[.int .i64 za,.int .i64 zb] 70)) (HM3.out.alloc _)))
          refine⟨S++[(za,zb)],R++[(za,zb)],k+1,HJ.out.push HZ.out HIN.out HID.out,yA,by go_num,(HM4.out.alloc _).kept ZCw.1 (xB.not_map HO5.out HM4.out).symm,XE.snoc hown4 rfl,Ext.more (hx3.alloc _) hbl4,?_,xB.kept (xB.alloc hd3 _) ZCw.1 (.inr fun e=>HNE.out _ e.symm rfl),?_⟩
          ·have h1:=HJ.out.push HZ.out HIN.out HID.out
           have h2:=h1.few x.2
           simp at h2⊢
           omega
          ·intro q hq e
           rcases ZCw.2 q hq with h1|h1
           ·exact HNE.out q h1 e
           ·simp[Value.ownBlock]at e
            subst e
            simp at h1;omega
         case measure=>simp[intOf];omega
     ·clear hJ hm ho hd2 qG
      gi_wp2
      go_roundw
      case rel=>exact⟨S,R,HJ.out.fin oM,HM3.out,HO3.out,US,by omega⟩
      case measure =>
       rw[HM3.out.size,HM.out.size]
       obtain⟨A3,c3,rfl,_,_⟩:=HO3.out.form
       simp[lenV]
       omega
 case done =>
  rintro D ys W hD hys ⟨⟨⟨⟨⟨tb,lb⟩,r1⟩,r2⟩,hx⟩,VP⟩ hK
  rw[hys]at VP
  have q2:=r1.frozen 0
  have q3:=r1.frozen 1
  have q4:=r2.frozen 0
  have p2:=r1.cell (j:=0) rfl
  have p3:=r1.cell (j:=1) rfl
  have p4:=r2.cell (j:=0) rfl
  have HNO:=KA (ZHV VP)
  clear VP
  gi_wp2
  obtain⟨Wr,cI⟩:∃Wr,(((W.setCell ⟨w.heap.size+1+1,0,none⟩ (Value.int .i64 0)).setCell ⟨w.heap.size+1+1,1,none⟩ (Value.int .i64 0)).setCell ⟨w.heap.size+1+1+1,0,none⟩ (Value.bool false))=Wr:=⟨_,rfl⟩
  rw[cI]
  have s2:UA Wr (w.heap.size+1+1) 70 #[.int .i64 0,.int .i64 0]:=by rw[←cI];exact kW0
  have s3:UA Wr (w.heap.size+1+1+1) 4 #[.bool false]:=by rw[←cI];exact kW0
  have sx:Ext w Wr:=by rw[←cI];exact kW0
  have KS:Wr.heap[D]? = some (.deferred (some [])):=by rw[←cI];exact (KF.set (KF.set (KF.set (KeepsFrom.refl W0.heap.size W) _ _) _ _) _ _).same D _ hD hK rfl
  clear cI
  have e2:=(s2.putObj KS rfl (.deferred none)).cell (j:=0) rfl
  have e3:=(s2.putObj KS rfl (.deferred none)).cell (j:=1) rfl
  have e4:=(s3.putObj KS rfl (.deferred none)).cell (j:=0) rfl
  refine⟨by simp,.inl ⟨_,_,rfl,run_takeDeferred KS,?_⟩⟩
  refine⟨.tuple #[SA (0,0),.bool false],?_,sx.putObj oM KS _,.inr ⟨HNO.out,rfl⟩⟩
  simp[results,Tryz.f136,go_sem,e2,e3,e4,SA]
 case stop =>
  rintro D c pre W hD jL ⟨rfl,a,x,⟨⟨⟨hp,VP,hhb⟩,r1⟩,r2⟩,hx⟩ hK
  rw[hp]at jL
  have HST:=KA (ZHU jL VP hhb)
  clear VP hhb
  gi_wp2
  have e2:=(r1.putObj hK rfl (.deferred none)).cell (j:=0) rfl
  have e3:=(r1.putObj hK rfl (.deferred none)).cell (j:=1) rfl
  have e4:=(r2.putObj hK rfl (.deferred none)).cell (j:=0) rfl
  refine⟨by simp,.inl ⟨_,_,rfl,run_takeDeferred hK,?_⟩⟩
  refine⟨.tuple #[SA x,.bool true],?_,hx.putObj oM hK _,.inl ⟨x,HST.out,rfl⟩⟩
  simp[results,Tryz.f136,go_sem,e2,e3,e4,SA]

structure Small (t:Tr):Prop where
 np:t.length≤1000000
 nv:∀x∈t,x.vars.length≤1000000
 ne:∀x∈t,x.evs.length≤1000000
 na:∀x∈t,∀e∈x.evs,e.asg.length≤1000000
structure Sm (t:Tr):Prop where
 np:t.length≤1000000
 nv:∀x∈t,x.vars.length≤1000000
 ne:∀x∈t,x.evs.length≤9223372036854775807
 na:∀x∈t,∀e∈x.evs,e.asg.length≤1000000
theorem Small.sm {t:Tr} (h:Small t):Sm t:=⟨h.np,h.nv,fun x hx=>dq (h.ne x hx) kE,h.na⟩
theorem yK {t:Tr} {p:Nat} (hp:p<t.length) (h:CC t p=0):t[p].evs.length≤64:=by
 rw[mM t p hp]at h
 split at h
 ·cases h
 split at h
 ·cases h
 split at h
 ·rename_i h2;exact absurd h h2
 split at h
 ·cases h
 ·omega
theorem Sm.small {t:Tr} (h:Sm t) (hz:∀q,q<t.length→CC t q=0):Small t:=
 ⟨h.np,h.nv,fun x hx=>by
  obtain⟨p,hp,rfl⟩:=cu hx
  have:=yK hp (hz p hp)
  omega,h.na⟩
def FPost (t:Tr) (w:World) (e:Ending) (w':World):Prop:=e=.returned (.tuple #[SA (RE t).1,.int .i64 (RE t).2])∧Ext w w'
theorem qW {t:Tr} (h:inB t.length 1 8=false):RE t=((0,0),1):=by
 unfold RE
 rw[if_pos (by simp[inB]at h;omega)]
theorem AS {t:Tr} {p:Nat} (h:inB t.length 1 8=true) (hp:p<t.length) (h0:∀q,q<p→CC t q=0) (qG:CC t p≠0):RE t=((p,0),CC t p):=by
 have hf:(List.range t.length).find? (fun p=>CC t p != 0)=some p:=by
  rw[show t.length=p+(1+(t.length-p-1)) by omega,kg,fc]
  have:(List.range p).find? (fun p=>CC t p != 0)=none:=by
   rw[db];intro q hq;simp[h0 q (ba.1 hq)]
  rw[this,gz 1,ln]
  simp[qG]
 unfold RE
 rw[if_neg (by simp[inB]at h;omega),hf]
theorem NM {t:Tr} (h0:∀q,q<t.length→CC t q=0):(List.range t.length).find? (fun p=>CC t p != 0)=none:=by
 rw[db];intro q hq;simp[h0 q (ba.1 hq)]
theorem OS {t:Tr} {x:Nat×Nat} (h:inB t.length 1 8=true) (h0:∀q,q<t.length→CC t q=0) (hx:(ids t).find? (fun x=>eC t x != 0)=some x):RE t=(x,eC t x):=by
 unfold RE
 rw[if_neg (by simp[inB]at h;omega),NM h0]
 simp only[hx]
theorem CS {t:Tr} {x:Nat×Nat} (h:inB t.length 1 8=true) (h0:∀q,q<t.length→CC t q=0) (hf:(ids t).find? (fun x=>eC t x != 0)=none) (hx:(ids t).find? (fun x=>KD t x != 0)=some x):RE t=(x,KD t x):=by
 unfold RE
 rw[if_neg (by simp[inB]at h;omega),NM h0]
 simp only[hf,hx]
theorem E3 {t:Tr} {x:Nat×Nat} (h:inB t.length 1 8=true) (h0:∀q,q<t.length→CC t q=0) (hf:(ids t).find? (fun x=>eC t x != 0)=none) (hp:(ids t).find? (fun x=>KD t x != 0)=none) (hx:UG t=some x):RE t=(x,10):=by
 unfold UG at hx
 unfold RE
 rw[if_neg (by simp[inB]at h;omega),NM h0]
 simp only[hf,hp,hx]
theorem WT {t:Tr} (h:inB t.length 1 8=true) (h0:∀q,q<t.length→CC t q=0) (hf:(ids t).find? (fun x=>eC t x != 0)=none) (hp:(ids t).find? (fun x=>KD t x != 0)=none) (hx:UG t=none):RE t=((0,0),0):=by
 unfold UG at hx
 unfold RE
 rw[if_neg (by simp[inB]at h;omega),NM h0]
 simp only[hf,hp,hx]
theorem lK {t:Tr} {x:Nat×Nat} (h:eC t x=0):JB t.length x.1 (uA t x)=true:=by
 unfold eC at h
 cases hb:JB t.length x.1 (uA t x) with
 |true=>rfl
 |false=>rw[hb]at h;simp at h
def GI (t:Tr) (w:World) (u:Value) (l:List (Nat×Nat)) (W:World):Prop:=
 (((UA W w.heap.size 30 #[u]∧UA W (w.heap.size+1) 70 #[.int .i64 0,.int .i64 0])∧UA W (w.heap.size+1+1) 35 #[.int .i64 0])∧Ext w W)∧∀x∈l,eC t x=0
def GX (t:Tr) (w:World) (l:List (Nat×Nat)) (W:World):Prop:=
 ∃a x,(((l=a++[x]∧(∀y∈a,eC t y=0)∧eC t x≠0)∧UA W (w.heap.size+1) 70 #[.int .i64 x.1,.int .i64 x.2])∧UA W (w.heap.size+1+1) 35 #[.int .i64 (eC t x)])∧Ext w W
theorem EX (t:Tr) (w:World) (u:Value) {n:Nat} (hn:w.heap.size≤n):OwnFrom n (fun (pre:List (Idt t)) W=>GI t w u (pre.map (·.1)) W):=
 OwnFrom.and (OwnFrom.and (OwnFrom.and (OwnFrom.and (tA _ _ _ _) (tA _ _ _ _)) (tA _ _ _ _)) (YH hn)) (ownFrom_pure _ _)
theorem ZHX (t:Tr) (w:World) {n:Nat} (hn:w.heap.size≤n):OwnFrom n (fun (pre:List (Idt t)) W=>GX t w (pre.map (·.1)) W):=by
 rintro s X Y row ⟨a,x,h⟩ hg hr
 refine⟨a,x,⟨⟨h.1.1.1,?_⟩,?_⟩,YH hn () X Y row h.2 hg hr⟩
 ·exact tA _ n _ (fun (_:Unit)=>_) () X Y row h.1.1.2 hg hr
 ·exact tA _ n _ (fun (_:Unit)=>_) () X Y row h.1.2 hg hr
theorem U3 {f:Nat→List (Nat×Nat)} {b:Nat}:∀n:Nat,(∀p,p<n→(f p).length≤b)→((List.range n).flatMap f).length≤n*b
 |0,_=>by simp
 |n+1,h=>by
   rw[fw,kf,ap]
   have h1:=U3 n fun p hp=>h p oM
   have h2:=h n oM
   have h3:([n].flatMap f).length=(f n).length:=by simp
   rw[h3,bx]
   omega
theorem ZHT {t:Tr} (h1:t.length≤1000000) (h2:∀x∈t,x.evs.length≤1000000) (h:inB t.length 1 8=true) (h0:∀q,q<t.length→CC t q=0):(ids t).length≤1000000:=by
 have:=U3 (f:=pN t) (b:=64) t.length fun p hp=>by
  unfold pN nA
  rw[aa,jo,YB dfPr t hp]
  exact yK hp (h0 p hp)
 simp[inB]at h
 unfold ids
 have h3:t.length*64≤8*64:=cm _ oM
 omega
theorem ZBw {t:Tr} (h:∀x∈ids t,eC t x=0):(ids t).find? (fun x=>eC t x != 0)=none:=by
 rw[db];intro x hx;simp[h x hx]
theorem ZBv {t:Tr} {a:List (Nat×Nat)} {x:Nat×Nat} (hp:a++[x] <+: ids t) (ha:∀y∈a,eC t y=0) (hx:eC t x≠0):(ids t).find? (fun x=>eC t x != 0)=some x:=by
 obtain⟨c,hc⟩:=hp
 rw[←hc,bc,fc]
 have:a.find? (fun x=>eC t x != 0)=none:=by
  rw[db];intro y hy;simp[ha y hy]
 rw[this]
 simp[hx]
theorem ZC7 (u:Value) (t:Tr) (w:World) (hS:Sm t) (hs:SlR 3 RPr w u t) :
  Calls Tryz.prog 85 #[.agg #[u]] w fun e w'=>FPost t w e w':=by
 refine callsIn_wide (n:=9).1 ?_
 refine callsIn_of_wp_marks Tryz.func85 rfl trivial ?_ rfl
 simp only[Tryz.ntmps85,dx,ej,fq,Nat.reduceAdd,Nat.reduceSub,ig,ii,ij,ik,ee,da]
 obtain⟨A,c,rfl,_,EM,_⟩:=hs.at_
 have HI:=KA (fun w=>callsIn_wide (n:=8).2 (RL t.length 1 8 w))
 cases zE:inB t.length 1 8
 ·rw[zE]at HI
  have HF:=KA (qW zE)
  clear zE
  gi_wp2_with (refine⟨trivial,?_⟩;gi_at_call 86;refine (HI.out _).mono ?_;rintro e w' ⟨rfl,rfl⟩)
  refine⟨.tuple #[SA (0,0),.int .i64 1],by simp[results,Tryz.f85,go_sem,SA],by rw[HF.out];rfl,(((Ext.refl w).alloc _).alloc _).alloc _⟩
 ·have HIN:=KA zE
  rw[zE]at HI
  clear zE
  gi_wp2_with (refine⟨trivial,?_⟩;gi_at_call 86;refine (HI.out _).mono ?_;rintro e w' ⟨rfl,rfl⟩)
  have tb0:=((UA.new w 30 #[.slice A t.length c]).alloc (.cells #[.int .i64 0,.int .i64 0] 70)).alloc (.cells #[.int .i64 0] 35)
  obtain⟨W1,EH⟩:∃W1,((w.alloc (Obj.cells #[Value.slice A t.length c] 30)).alloc (Obj.cells #[Value.int .i64 0,Value.int .i64 0] 70)).alloc (Obj.cells #[Value.int .i64 0] 35)=W1:=⟨_,rfl⟩
  rw[EH]at tb0⊢
  have hx1:Ext w W1:=by rw[←EH];exact (((Ext.refl w).alloc _).alloc _).alloc _
  have rb1:UA W1 (w.heap.size+1) 70 #[.int .i64 0,.int .i64 0]:=by rw[←EH];exact (UA.newAt _ _ kS).alloc _
  have rb2:UA W1 (w.heap.size+1+1) 35 #[.int .i64 0]:=by rw[←EH];exact UA.newAt _ _ kS
  have ZLo:Hx (W1.heap.size=w.heap.size+1+1+1):=KA (by rw[←EH];simp)
  clear EH
  have H8:=hS.np
  gi_loopw [23] (fun i wr=>∃k:Nat,k≤t.length∧i=.int .i64 k∧(∀q,q<k→CC t q=0)∧Ext W1 wr) (fun i _=>t.length-(intOf i).toNat)
  case atStart=>exact⟨0,aj _,rfl,fun q hq=>absurd hq (gx _),Ext.refl _⟩
  case round =>
   obtain⟨k,hk,rfl,h0,hx⟩:=hrel
   have H0:=KA h0
   clear h0
   have tb:=tb0.ext hx
   have r1:=rb1.ext hx
   have r2:=rb2.ext hx
   have t0:=tb.cell (j:=0) rfl
   by_cases yA:k<t.length
   ·have HP:=KA (fun w' (he:Ext w w')=>callsIn_wide (n:=8).2 (XP (.slice A t.length c) t k w' yA H8 (hS.nv _ (ak yA)) (hS.ne _ (ak yA)) (hs.ext RPr.keeps he)))
    gi_wp2_with fail
    refine⟨trivial,?_⟩
    refine (HP.out _ (hx1.trans hx)).mono ?_
    rintro e w2 ⟨rfl,uJ⟩
    by_cases hz:CC t k=0
    ·have HZ:=KA hz
     rw[hz]
     clear hz
     gi_wp2
     go_roundw
     case rel=>exact⟨k+1,yA,by go_num,fun q hq=>(jb.1 hq).elim (H0.out q) (fun e=>e▸HZ.out),hx.trans uJ⟩
     case measure=>simp[intOf];omega
    ·have HF:=KA (AS HIN.out yA H0.out hz)
     have qG:((CC t k:Int) != 0)=true:=by simp;omega
     have r12:=r1.ext uJ
     have r22:=r2.ext uJ
     have f1:=r12.frozen 0
     have f2:=r12.frozen 1
     have f3:=r22.frozen 0
     have p1:=r12.cell (j:=0) rfl
     have p2:=r12.cell (j:=1) rfl
     have p3:=r22.cell (j:=0) rfl
     gi_wp2
     obtain⟨Wr,cI⟩:∃Wr,((w2.setCell ⟨w.heap.size+1,0,none⟩ (Value.int .i64 k)).setCell ⟨w.heap.size+1,1,none⟩ (Value.int .i64 0)).setCell ⟨w.heap.size+1+1,0,none⟩ (Value.int .i64 (CC t k))=Wr:=⟨_,rfl⟩
     rw[cI]
     have ZKP:Ext w w2:=hx1.trans (hx.trans uJ)
     have s1:UA Wr (w.heap.size+1) 70 #[.int .i64 k,.int .i64 0]:=by rw[←cI];exact kW0
     have s2:UA Wr (w.heap.size+1+1) 35 #[.int .i64 (CC t k)]:=by rw[←cI];exact kW0
     have sx:Ext w Wr:=by rw[←cI];exact kW0
     clear cI
     exact⟨.tuple #[SA (k,0),.int .i64 (CC t k)],by simp[results,Tryz.f85,go_sem,SA,s1.cell (j:=0) rfl,s1.cell (j:=1) rfl,s2.cell (j:=0) rfl],by rw[HF.out],sx⟩
   ·obtain rfl:k=t.length:=by omega
    have hS:=hS.small H0.out
    have ZLp:Ext w wr:=hx1.trans hx
    gi_wp2_with (refine⟨trivial,?_⟩;gi_at_call 88;refine (callsIn_wide.2 (DI _ _)).mono ?_;rintro e w' ⟨rfl,rfl⟩)
    have bt:=UA.new wr 30 #[.slice A t.length c]
    have hM0:GI t w (.slice A t.length c) [] (wr.alloc (.cells #[.slice A t.length c] 30)):=⟨⟨⟨⟨tb.alloc _,r1.alloc _⟩,r2.alloc _⟩,ZLp.alloc _⟩,fun x hx=>by cases hx⟩
    obtain⟨W0,G8⟩:∃W0,wr.alloc (.cells #[.slice A t.length c] 30)=W0:=⟨_,rfl⟩
    have DW:W0.heap.size=wr.heap.size+1:=by rw[←G8];simp
    have I8:w.heap.size≤wr.heap.size:=ZLp.size
    rw[G8]at bt hM0⊢
    clear G8
    have ZQ:Ext w W0:=hM0.1.2
    have HSZ0:=KA DW
    have N8:w.heap.size≤W0.heap.size:=by omega
    clear DW
    refine wpIn_rangeFunc_ownH rfl oM (gf:=138) (lb:=#[.pointer (some ⟨wr.heap.size,0,none⟩)]) rfl trivial (fC Tryz.func138 kE rfl)
     (AG 8 oM w (.slice A t.length c) t wr.heap.size W0 H8 hS.ne hs ZQ (bt.cell rfl) I8) belowK_t (belowK_b N8) (Below.refl _ _) (fun _=>rfl)
     (fun pre W=>GI t w (.slice A t.length c) (pre.map (·.1)) W) (fun c pre W=>c=.ret∧GX t w (pre.map (·.1)) W) (EX t w _ N8) (fun c=>OwnFrom.and (ownFrom_pure _ _) (ZHX t w N8)) hM0
     (fun x a' W=>∃B6 B7 A4 n4 c4 v37 v38,(w.heap.size+1+1<B6∧w.heap.size+1+1<B7∧SlR 2 RAsg w (.slice A4 n4 c4) (uA t x.1).asg)∧UA W B6 70 #[.int .i64 x.1.1,.int .i64 x.1.2]∧UA W B7 68 #[.int .i64 (uA t x.1).kind,.int .i64 (uA t x.1).peer,.int .i64 (uA t x.1).msg,.int .i64 (uA t x.1).time,.slice A4 n4 c4] ∧
      a'={tmps:=#[.agg #[.slice A t.length c],.pointer (some ⟨w.heap.size,0,none⟩),.pointer (some ⟨w.heap.size+1,0,none⟩),.pointer (some ⟨w.heap.size+1+1,0,none⟩),u4,u5,.pointer (some ⟨B6,0,none⟩),.pointer (some ⟨B7,0,none⟩),undef,undef,undef,undef,undef,undef,.pointer (some ⟨w.heap.size,0,none⟩),.slice A t.length c,.int .i64 t.length,.bool true,.bool false,undef,.pointer (some ⟨w.heap.size,0,none⟩),.slice A t.length c,.int .i64 t.length,.int .i64 t.length,.bool false,u25,u26,u27,u28,u29,u30,u31,u32,u33,u34,.agg #[.slice A t.length c],.func (.func 138) #[] #[.pointer (some ⟨wr.heap.size,0,none⟩)],v37,v38,undef,undef,undef,undef,undef,undef,undef,undef,undef,undef,undef,undef,undef,undef,undef,undef,undef,undef,undef,undef,undef,undef,undef,undef,undef,undef,undef],defers:=[]})
     ?hax ?assign ?body ?done ?stop
    case hax =>
     rintro x a' _ X Y row ⟨B6,B7,A4,n4,c4,v37,v38,hB,b6,b7,ha⟩ hg hr
     exact⟨B6,B7,A4,n4,c4,v37,v38,hB,tA B6 _ _ (fun (_:Unit)=>_) () X Y row b6 hg hr,tA B7 _ _ (fun (_:Unit)=>_) () X Y row b7 hg hr,ha⟩
    case assign =>
     rintro l pre x W K hI hK
     obtain⟨a,hv,hsa⟩:=GT hs x.2
     obtain⟨A4,c4,rfl,_,_,_⟩:=hsa.at_
     simp only[hv]
     have hsW:=hI.1.2.size
     have h5:=hI.1.1.2.lt
     unfold SA
     gi_wp2
     exact hK _ _ (((KeepsOthers.alloc _ _).trans (KeepsOthers.alloc _ _)).from _) (((Below.refl _ W).alloc hsW _).alloc (by simp;omega) _) ((EX t w _ (ai _)).alloc _ ((EX t w _ (ai _)).alloc _ hI))
      ⟨W.heap.size,W.heap.size+1,A4,_,c4,_,_,⟨h5,by omega,hsa⟩,(UA.new _ _ _).alloc _,UA.newAt _ _ kS,rfl⟩
    case body =>
     rintro l pre x a' W hlW ⟨r,hr⟩ hI ⟨B6,B7,A4,n4,c4,v37,v38,⟨hB6,hB7,hsa⟩,b6,b7,rfl⟩ IB
     obtain⟨⟨⟨⟨tbW,r1W⟩,r2W⟩,hxW⟩,hg⟩:=hI
     have hsW:=hxW.size
     have HG:=KA hg
     have HSA:=KA hsa
     clear hg hsa
     have k0:=b7.cell (j:=0) rfl
     have k1:=b7.cell (j:=1) rfl
     have k2:=b7.cell (j:=2) rfl
     have k3:=b7.cell (j:=3) rfl
     have k4:=b7.cell (j:=4) rfl
     have i0:=b6.cell (j:=0) rfl
     have i1:=b6.cell (j:=1) rfl
     have t0:=tbW.cell (j:=0) rfl
     obtain⟨hp,c8,hi2⟩:=AC.1 x.2
     have hee:t[x.1.1].evs[x.1.2-1]=uA t x.1:=by
      unfold uA nA;rw[YB dfPr t hp,YB PI _ oM]
     have HE:=KA (fun w' (he:Ext w w')=>CallsIn.inRound l (callsIn_wide (n:=6).2 (GR (.slice A t.length c) (.slice A4 n4 c4) t x.1.1 x.1.2 (uA t x.1) w' hp c8 hi2 hee H8 (hS.nv _ (ak hp)) (hS.ne _ (ak hp)) (by rw[←hee];exact hS.na _ (ak hp) _ (ak _)) (hs.ext RPr.keeps he) (HSA.out.ext RAsg.keeps he))))
     clear hee
     gi_wp2_with fail
     refine⟨trivial,?_⟩
     refine (HE.out _ hxW).mono ?_
     rintro e w2 ⟨rfl,uJ⟩
     by_cases hz:eC t x.1=0
     ·have HZ:=KA hz
      rw[show eC t (x.1.1,x.1.2)=0 from hz]
      clear hz
      gi_wp2
      refine⟨KF.ext (KeepsFrom.refl _ _) uJ,BL.ext (Below.refl _ _) uJ hsW,?_⟩
      show GI t w (.slice A t.length c) ((pre++[x]).map (·.1)) _
      rw[kG]
      refine⟨⟨⟨⟨tbW.ext uJ,r1W.ext uJ⟩,r2W.ext uJ⟩,hxW.trans uJ⟩,fun z hz=>?_⟩
      rcases bu.1 hz with h1|h1
      ·exact HG.out z h1
      ·rw[show z=x.1 by simpa using h1];exact HZ.out
     ·have qG:((eC t (x.1.1,x.1.2):Int) != 0)=true:=by
       have:¬eC t (x.1.1,x.1.2)=0:=hz
       simp;omega
      have HZ:=KA hz
      clear hz
      have r12:=r1W.ext uJ
      have r22:=r2W.ext uJ
      have b62:=b6.ext uJ
      have f1:=r12.frozen 0
      have f2:=r12.frozen 1
      have f3:=r22.frozen 0
      have p1:=r12.cell (j:=0) rfl
      have p2:=r12.cell (j:=1) rfl
      have p3:=r22.cell (j:=0) rfl
      have i02:=b62.cell (j:=0) rfl
      have i12:=b62.cell (j:=1) rfl
      have ZLm:KeepsFrom W0.heap.size W w2:=KF.ext (KeepsFrom.refl _ _) uJ
      have ZLn:Ext w w2:=hxW.trans uJ
      gi_wp2
      refine⟨?_,rfl,pre.map (·.1),x.1,⟨⟨⟨kG pre x,HG.out,HZ.out⟩,?_⟩,?_⟩,?_⟩
      all_goals exact kW0
    case done =>
     rintro D ys W hD hys ⟨⟨⟨⟨tbW,r1W⟩,r2W⟩,hxW⟩,hg⟩ hK
     rw[hys]at hg
     have HG:=KA hg
     clear hg
     have fL:∀x∈ids t,JB t.length x.1 (uA t x)=true:=fun x hx=>lK (HG.out x hx)
     have hfn:=KA (ZBw HG.out)
     have t0:=tbW.cell (j:=0) rfl
     have HMF:=KA (fun w' (he:Ext w w')=>callsIn_wide (n:=8).2 (YP (.slice A t.length c) t w' H8 hS.ne (hs.ext RPr.keeps he) fL))
     have hform':=KA fL
     clear fL
     gi_wp2_with fail
     refine⟨trivial,?_⟩
     refine (HMF.out _ hxW).mono ?_
     rintro e w2 ⟨uJ,hm⟩
     have ZNH:KeepsFrom W0.heap.size W w2:=KF.ext (KeepsFrom.refl _ _) uJ
     have ZKP:Ext w w2:=hxW.trans uJ
     have r12:=r1W.ext uJ
     have r22:=r2W.ext uJ
     have tb2:=tbW.ext uJ
     have t02:=tb2.cell (j:=0) rfl
     have lt1:=tb2.lt
     have lt2:=r12.lt
     have lt3:=r22.lt
     clear t0
     rcases hm with ⟨x,hx,rfl⟩|⟨hpn,b,cs,hb,hbox,hlet,rfl⟩
     ·have HP:=KA (CS HIN.out H0.out hfn.out hx)
      have hne0:((KD t x:Int) != 0)=true:=by
       have:=ge hx
       simp at this⊢;omega
      clear hx
      unfold SA
      have f1:=r12.frozen 0
      have f2:=r12.frozen 1
      have f3:=r22.frozen 0
      have p1:=r12.cell (j:=0) rfl
      have p2:=r12.cell (j:=1) rfl
      have p3:=r22.cell (j:=0) rfl
      gi_wp2
      obtain⟨Wr,cI⟩:∃Wr,(((w2.setCell ⟨w.heap.size+1,0,none⟩ (Value.int .i64 x.1)).setCell ⟨w.heap.size+1,1,none⟩ (Value.int .i64 x.2)).setCell ⟨w.heap.size+1+1,0,none⟩ (Value.int .i64 (KD t x))).alloc (Obj.cells #[Value.int .i64 x.1,Value.int .i64 x.2] 70)=Wr:=⟨_,rfl⟩
      rw[cI]
      have s1:UA Wr (w.heap.size+1) 70 #[.int .i64 x.1,.int .i64 x.2]:=by rw[←cI];exact kW0
      have s2:UA Wr (w.heap.size+1+1) 35 #[.int .i64 (KD t x)]:=by rw[←cI];exact kW0
      have sx:Ext w Wr:=by rw[←cI];exact kW0
      have hkf:KeepsFrom W0.heap.size W Wr:=by rw[←cI];exact kW0
      have KS:Wr.heap[D]? = some (.deferred (some [])):=hkf.same D _ hD hK rfl
      clear cI
      have e2:=(s1.putObj KS rfl (.deferred none)).cell (j:=0) rfl
      have e3:=(s1.putObj KS rfl (.deferred none)).cell (j:=1) rfl
      have e4:=(s2.putObj KS rfl (.deferred none)).cell (j:=0) rfl
      refine⟨by simp,.inl ⟨_,_,rfl,run_takeDeferred KS,?_⟩⟩
      refine⟨.tuple #[SA x,.int .i64 (KD t x)],?_,by first|(rw[HP.out];done)|(rw[HP.out];rfl),sx.putObj oM KS _⟩
      simp[results,Tryz.f85,go_sem,e2,e3,e4,SA]
     ·have HPN:=KA hpn
      clear hpn
      have HC:=KA (fun w' (he:Ext w w') (hb':UA w' b 181 cs)=>callsIn_wide (n:=8).2 (U7 (.slice A t.length c) t b cs w' H8 hS.ne (ZHT H8 (fun x hx=>hS.ne x hx) HIN.out H0.out) (hs.ext RPr.keeps he) hform'.out hb' hlet))
      unfold SA
      gi_wp2_with fail
      refine⟨trivial,?_⟩
      refine (HC.out _ (ZKP.alloc _) (hbox.alloc _)).mono ?_
      rintro e w3 ⟨he3,hm3⟩
      have ZIG:Ext w2 w3:=Ext.trans ((Ext.refl w2).alloc _) he3
      have ZLm:KeepsFrom W0.heap.size W w3:=KF.ext ZNH ZIG
      have ZLn:Ext w w3:=ZKP.trans ZIG
      have r13:=r12.ext ZIG
      have r23:=r22.ext ZIG
      have lt13:=r13.lt
      have lt23:=r23.lt
      have f1:=r13.frozen 0
      have f2:=r13.frozen 1
      have f3:=r23.frozen 0
      have p1:=r13.cell (j:=0) rfl
      have p2:=r13.cell (j:=1) rfl
      have p3:=r23.cell (j:=0) rfl
      rcases hm3 with ⟨x,hx,rfl⟩|⟨hx,rfl⟩
      ·have HP:=KA (E3 HIN.out H0.out hfn.out HPN.out hx)
       clear hx
       unfold SA
       gi_wp2
       obtain⟨Wr,cI⟩:∃Wr,(((w3.setCell ⟨w.heap.size+1,0,none⟩ (Value.int .i64 x.1)).setCell ⟨w.heap.size+1,1,none⟩ (Value.int .i64 x.2)).setCell ⟨w.heap.size+1+1,0,none⟩ (Value.int .i64 10)).alloc (Obj.cells #[Value.int .i64 x.1,Value.int .i64 x.2] 70)=Wr:=⟨_,rfl⟩
       rw[cI]
       have s1:UA Wr (w.heap.size+1) 70 #[.int .i64 x.1,.int .i64 x.2]:=by rw[←cI];exact kW0
       have s2:UA Wr (w.heap.size+1+1) 35 #[.int .i64 10]:=by rw[←cI];exact kW0
       have sx:Ext w Wr:=by rw[←cI];exact kW0
       have hkf:KeepsFrom W0.heap.size W Wr:=by rw[←cI];exact kW0
       have KS:Wr.heap[D]? = some (.deferred (some [])):=hkf.same D _ hD hK rfl
       clear cI
       have e2:=(s1.putObj KS rfl (.deferred none)).cell (j:=0) rfl
       have e3:=(s1.putObj KS rfl (.deferred none)).cell (j:=1) rfl
       have e4:=(s2.putObj KS rfl (.deferred none)).cell (j:=0) rfl
       refine⟨by simp,.inl ⟨_,_,rfl,run_takeDeferred KS,?_⟩⟩
       refine⟨.tuple #[SA x,.int .i64 10],?_,by first|(rw[HP.out];done)|(rw[HP.out];rfl),sx.putObj oM KS _⟩
       simp[results,Tryz.f85,go_sem,e2,e3,e4,SA]
      ·have HP:=KA (WT HIN.out H0.out hfn.out HPN.out hx)
       clear hx
       unfold SA
       gi_wp2
       obtain⟨Wr,cI⟩:∃Wr,(((w3.setCell ⟨w.heap.size+1,0,none⟩ (Value.int .i64 0)).setCell ⟨w.heap.size+1,1,none⟩ (Value.int .i64 0)).setCell ⟨w.heap.size+1+1,0,none⟩ (Value.int .i64 0)).alloc (Obj.cells #[Value.int .i64 0,Value.int .i64 0] 70)=Wr:=⟨_,rfl⟩
       rw[cI]
       have s1:UA Wr (w.heap.size+1) 70 #[.int .i64 0,.int .i64 0]:=by rw[←cI];exact kW0
       have s2:UA Wr (w.heap.size+1+1) 35 #[.int .i64 0]:=by rw[←cI];exact kW0
       have sx:Ext w Wr:=by rw[←cI];exact kW0
       have hkf:KeepsFrom W0.heap.size W Wr:=by rw[←cI];exact kW0
       have KS:Wr.heap[D]? = some (.deferred (some [])):=hkf.same D _ hD hK rfl
       clear cI
       have e2:=(s1.putObj KS rfl (.deferred none)).cell (j:=0) rfl
       have e3:=(s1.putObj KS rfl (.deferred none)).cell (j:=1) rfl
       have e4:=(s2.putObj KS rfl (.deferred none)).cell (j:=0) rfl
       refine⟨by simp,.inl ⟨_,_,rfl,run_takeDeferred KS,?_⟩⟩
       refine⟨.tuple #[SA (0,0),.int .i64 0],?_,by first|(rw[HP.out];done)|(rw[HP.out];rfl),sx.putObj oM KS _⟩
       simp[results,Tryz.f85,go_sem,e2,e3,e4,SA]
    case stop =>
     rintro D c' pre W hD jL ⟨rfl,a,x,⟨⟨⟨hp,hg,qG⟩,r1W⟩,r2W⟩,hxW⟩ hK
     rw[hp]at jL
     have HST:=KA (OS HIN.out H0.out (ZBv jL hg qG))
     clear hg
     gi_wp2
     have e2:=(r1W.putObj hK rfl (.deferred none)).cell (j:=0) rfl
     have e3:=(r1W.putObj hK rfl (.deferred none)).cell (j:=1) rfl
     have e4:=(r2W.putObj hK rfl (.deferred none)).cell (j:=0) rfl
     refine⟨by simp,.inl ⟨_,_,rfl,run_takeDeferred hK,?_⟩⟩
     refine⟨.tuple #[SA x,.int .i64 (eC t x)],?_,by rw[HST.out],hxW.putObj oM hK _⟩
     simp[results,Tryz.f85,go_sem,e2,e3,e4,SA]

theorem TP (u:Value) (t:Tr) (w:World) (hS:Sm t) (hs:SlR 3 RPr w u t) :
  Calls Tryz.prog 35 #[.agg #[u]] w fun e w'=>e=.returned (.bool (ID t))∧Ext w w':=by
 have HF:=KA (fun w' (he:Ext w w')=>ZC7 u t w' hS (hs.ext RPr.keeps he))
 obtain⟨A,c,rfl,_,EM,_⟩:=hs.at_
 go_enter Tryz.func35,Tryz.ntmps35
 go_wp2_with fail
 refine (HF.out _ ((Ext.refl w).alloc _)).mono ?_
 rintro e w2 ⟨rfl,uJ⟩
 unfold SA
 go_wp2
 go_ret
 refine⟨ZDi ?_,Ext.alloc (Ext.trans ((Ext.refl w).alloc _) uJ) _⟩
 unfold ID
 rw[eh];simp

theorem form_ways (np p:Nat) (e:Ev):(JB np p e=false∧(((e.kind==1)=true∧(e.peer != 0)=true)∨((e.kind==1)=true∧(e.peer != 0)=false∧(e.msg != 0)=true)∨((e.kind==1)=false∧(e.kind != 2)=true∧(e.kind != 3)=true)∨((e.kind==1)=false∧(e.kind != 2)=false∧(decide (e.peer<0))=true)∨((e.kind==1)=false∧(e.kind != 2)=true∧(e.kind != 3)=false∧(decide (e.peer<0))=true)∨((e.kind==1)=false∧(e.kind != 2)=false∧(decide (e.peer<0))=false∧(decide ((np:Int)≤e.peer))=true)∨((e.kind==1)=false∧(e.kind != 2)=true∧(e.kind != 3)=false∧(decide (e.peer<0))=false∧(decide ((np:Int)≤e.peer))=true)∨((e.kind==1)=false∧(e.kind != 2)=false∧(decide (e.peer<0))=false∧(decide ((np:Int)≤e.peer))=false∧(e.peer==(p:Int))=true)∨((e.kind==1)=false∧(e.kind != 2)=true∧(e.kind != 3)=false∧(decide (e.peer<0))=false∧(decide ((np:Int)≤e.peer))=false∧(e.peer==(p:Int))=true)∨((e.kind==1)=false∧(e.kind != 2)=false∧(decide (e.peer<0))=false∧(decide ((np:Int)≤e.peer))=false∧(e.peer==(p:Int))=false∧(decide (e.msg<0))=true)∨((e.kind==1)=false∧(e.kind != 2)=true∧(e.kind != 3)=false∧(decide (e.peer<0))=false∧(decide ((np:Int)≤e.peer))=false∧(e.peer==(p:Int))=false∧(decide (e.msg<0))=true)∨((e.kind==1)=false∧(e.kind != 2)=false∧(decide (e.peer<0))=false∧(decide ((np:Int)≤e.peer))=false∧(e.peer==(p:Int))=false∧(decide (e.msg<0))=false∧(decide (199<e.msg))=true)∨((e.kind==1)=false∧(e.kind != 2)=true∧(e.kind != 3)=false∧(decide (e.peer<0))=false∧(decide ((np:Int)≤e.peer))=false∧(e.peer==(p:Int))=false∧(decide (e.msg<0))=false∧(decide (199<e.msg))=true)))∨(JB np p e=true∧(((e.kind==1)=true∧(e.peer != 0)=false∧(e.msg != 0)=false)∨((e.kind==1)=false∧(e.kind != 2)=false∧(decide (e.peer<0))=false∧(decide ((np:Int)≤e.peer))=false∧(e.peer==(p:Int))=false∧(decide (e.msg<0))=false∧(decide (199<e.msg))=false)∨((e.kind==1)=false∧(e.kind != 2)=true∧(e.kind != 3)=false∧(decide (e.peer<0))=false∧(decide ((np:Int)≤e.peer))=false∧(e.peer==(p:Int))=false∧(decide (e.msg<0))=false∧(decide (199<e.msg))=false))):=by
 have h:JB np p e=if e.kind==1 then !((e.peer != 0)||(e.msg != 0)) else !(((e.kind != 2)&&(e.kind != 3))||decide (e.peer<0)||decide ((np:Int)≤e.peer)||(e.peer==(p:Int))||decide (e.msg<0)||decide (199<e.msg)):=by
  unfold JB inB
  have d1:decide (0≤e.peer)=!decide (e.peer<0):=by rw[eh];simp
  have d2:decide (e.peer≤(np:Int)-1)=!decide ((np:Int)≤e.peer):=by rw[eh];simp;omega
  have d3:decide (0≤e.msg)=!decide (e.msg<0):=by rw[eh];simp
  have d4:decide (e.msg≤199)=!decide (199<e.msg):=by rw[eh];simp
  have d5:(e.kind==2)=!(e.kind != 2):=by simp[bne]
  have d6:(e.kind==3)=!(e.kind != 3):=by simp[bne]
  have d7:(e.peer != (p:Int))=!(e.peer==(p:Int)):=by simp[bne]
  have d8:(e.peer==0)=!(e.peer != 0):=by simp[bne]
  have d9:(e.msg==0)=!(e.msg != 0):=by simp[bne]
  rw[d1,d2,d3,d4,d5,d6,d7,d8,d9]
  cases e.kind==1<;>cases e.kind != 2<;>cases e.kind != 3<;>cases decide (e.peer<0)<;>cases decide ((np:Int)≤e.peer)<;>cases (e.peer==(p:Int))<;>cases decide (e.msg<0)<;>cases decide (199<e.msg)<;>simp
 rw[h]
 clear h
 cases (e.kind==1)<;>cases (e.peer != 0)<;>cases (e.msg != 0)<;>cases (e.kind != 2)<;>cases (e.kind != 3)<;>cases (decide (e.peer<0))<;>cases (decide ((np:Int)≤e.peer))<;>cases (e.peer==(p:Int))<;>cases (decide (e.msg<0))<;>cases (decide (199<e.msg))<;>simp

theorem ZBx (t:Tr) (p i:Nat) (hp:p<t.length) (hi:i<t[p].evs.length) (L:Int) (hL:xI t (p,i+1)=L):eC t (p,i+1)=if !JB t.length p t[p].evs[i] then 3
 else if !(inB t[p].evs[i].time 0 1099511627776)||decide (t[p].evs[i].time<L) then 11
 else if 8<t[p].evs[i].asg.length then 5
 else sB (gJ t[p].vars.length t[p].evs[i].asg) t[p].evs[i].asg.length:=by
 unfold eC;rw[KG hp hi,hL];simp only[YB dfPr t hp]
theorem rO (x:Int):inB x 0 1099511627776=(!decide (x<0)&&!decide (1099511627776<x)):=by
 unfold inB
 rw[eh];simp
theorem TO (x:Int) (n:Nat):inB x 0 ((n:Int)-1)=(!decide (x<0)&&!decide ((n:Int)≤x)):=by
 unfold inB
 rw[eh];simp;omega
theorem ZBn (t:Tr) (p i:Nat) (hp:p<t.length) (hi:i<t[p].evs.length):xI t (p,i+1+1)=t[p].evs[i].time:=YW t p i hp hi
theorem I6 (t:Tr) (p:Nat):xI t (p,0+1)=0:=by unfold xI;simp
end Go.Proofs.YtmaokjojbjdpoaaGreatDoor
namespace Go.Proofs.YtmaokjojbjdpoaaGreatDoor
open Go.RowKit
set_option linter.unusedVariables false

def DB (t:Tr) (k m:Int):Nat×Nat:=jA t (ids t) k m

theorem LS {t:Tr} {k m:Int} {p i:Nat} (hp:p<t.length) (hi:i<t[p].evs.length) (h0:(bD t p i).find? (AD t k m)=none) (h1:AD t k m (p,i+1)=true):DB t k m=(p,i+1):=by
 obtain⟨c,hc⟩:=JI t p (i+1) hp hi
 unfold DB jA
 rw[←hc,gG,bc,fc,h0]
 simp[h1]
theorem MM {t:Tr} {k m:Int} {p i:Nat} (h0:(bD t p i).find? (AD t k m)=none) (h1:AD t k m (p,i+1)=false):(bD t p (i+1)).find? (AD t k m)=none:=by
 rw[gG,fc,h0];simp[h1]

theorem ZEm (u:Value) (t:Tr) (kd m:Int) (w:World) (hS:Small t) (hs:SlR 3 RPr w u t) :
  Calls Tryz.prog 56 #[.agg #[u],.int .i64 kd,.int .i64 m] w fun e w'=>e=.returned (SA (DB t kd m))∧Ext w w':=by
 obtain⟨A,c,rfl,h1,h2,hc⟩:=hs.at_
 have H8:=hS.np
 have HC:=KA hc
 clear hs hc
 have bt:UA ((w.alloc (.cells #[.slice A t.length c] 30)).alloc (.cells #[.int .i64 0,.int .i64 0] 70)) w.heap.size 30 _:=(UA.new w _ _).alloc _
 have br:UA ((w.alloc (.cells #[.slice A t.length c] 30)).alloc (.cells #[.int .i64 0,.int .i64 0] 70)) (w.heap.size+1) 70 _:=UA.newAt _ _ kS
 have hx1:Ext w ((w.alloc (.cells #[.slice A t.length c] 30)).alloc (.cells #[.int .i64 0,.int .i64 0] 70)):=((Ext.refl _).alloc _).alloc _
 go_enter Tryz.func56,Tryz.ntmps56
 go_wp2_with fail
 generalize (w.alloc (.cells #[.slice A t.length c] 30)).alloc (.cells #[.int .i64 0,.int .i64 0] 70)=W1 at *
 go_loopw [7] (fun i wr=>∃k:Nat,k≤t.length∧i=.int .i64 k∧(bD t k 0).find? (AD t kd m)=none∧Ext W1 wr) (fun i _=>t.length-(intOf i).toNat)
 case atStart=>exact⟨0,aj _,rfl,rfl,Ext.refl _⟩
 case round =>
  obtain⟨k,hk,rfl,VP,hx⟩:=hrel
  have HNO:=KA VP
  clear VP
  have bt2:=bt.ext hx
  have br2:=br.ext hx
  have hxx:=hx1.trans hx
  have t0:=bt2.cell (j:=0) rfl
  by_cases yA:k<t.length
  ·obtain⟨b,off,rfl,XJ⟩:=HC.out oM
   obtain⟨_,_,v2,c2,aO⟩:=XJ k yA
   obtain⟨A2,k2,rfl,_,_,YS⟩:=aO.at_
   have HC2:=KA YS
   have qG:=hS.ne _ (ak yA)
   clear XJ aO YS
   go_wp2_with fail
   obtain⟨W2,ZL⟩:∃W2:World,wr=W2:=⟨_,rfl⟩
   rw[ZL]at hx bt2 br2 hxx⊢
   clear t0
   rw[ZL]at *
   clear ZL
   go_loopw [8] (fun i wr=>∃j:Nat,j≤t[k].evs.length∧i=.int .i64 j∧(bD t k j).find? (AD t kd m)=none∧Ext W2 wr) (fun i _=>t[k].evs.length-(intOf i).toNat)
   case atStart=>exact⟨0,aj _,rfl,HNO.out,Ext.refl _⟩
   case round =>
    obtain⟨j,hj,rfl,ZLq,hx3⟩:=hrel
    have HNO2:=KA ZLq
    clear ZLq
    have t0:=(bt2.ext hx3).cell (j:=0) rfl
    have br3:=br2.ext hx3
    have f0:=br3.frozen 0
    have f1:=br3.frozen 1
    have r0:=br3.cell (j:=0) rfl
    have r1:=br3.cell (j:=1) rfl
    have lt1:=(bt2.ext hx3).lt
    have lt2:=br3.lt
    have hx4:=hxx.trans hx3
    have c2':=hx4.cellAt c2
    by_cases lJ:j<t[k].evs.length
    ·obtain⟨b2,off2,rfl,HW⟩:=HC2.out oM
     obtain⟨g0,g1,g2,g3,va,g4,hs4⟩:=HW j lJ
     obtain⟨A4,k4,rfl,_,_,_⟩:=hs4.at_
     have e0:=hx4.cellAt g0
     have e1:=hx4.cellAt g1
     have e2:=hx4.cellAt g2
     have e3:=hx4.cellAt g3
     have e4:=hx4.cellAt g4
     have HK:=KA (show AD t kd m (k,j+1)=((t[k].evs[j].kind==kd)&&(t[k].evs[j].msg==m)) by unfold AD;rw[KG yA lJ])
     clear HW hs4 g0 g1 g2 g3 g4
     cases q1:t[k].evs[j].kind==kd
     ·have HN:=KA (MM HNO2.out (by rw[HK.out,q1];rfl))
      go_wp2_with fail
      go_roundw
      case rel=>exact⟨j+1,lJ,by go_num,HN.out,hx3.alloc _⟩
      case measure=>simp[intOf];omega
     ·cases q2:t[k].evs[j].msg==m
      ·have HN:=KA (MM HNO2.out (by rw[HK.out,q1,q2];rfl))
       go_wp2_with fail
       go_roundw
       case rel=>exact⟨j+1,lJ,by go_num,HN.out,hx3.alloc _⟩
       case measure=>simp[intOf];omega
      ·have HF:=KA (LS yA lJ HNO2.out (by rw[HK.out,q1,q2];rfl))
       go_wp2_with fail
       obtain⟨Wr,cI⟩:∃Wr,(((wr.setCell ⟨w.heap.size+1,0,none⟩ (Value.int .i64 k)).setCell ⟨w.heap.size+1,1,none⟩ (Value.int .i64 ((j:Int)+1))).alloc (Obj.cells #[.int .i64 t[k].evs[j].kind,.int .i64 t[k].evs[j].peer,.int .i64 t[k].evs[j].msg,.int .i64 t[k].evs[j].time,.slice A4 t[k].evs[j].asg.length k4] 68))=Wr:=⟨_,rfl⟩
       rw[cI]
       have s1:UA Wr (w.heap.size+1) 70 #[.int .i64 k,.int .i64 ((j:Int)+1)]:=by rw[←cI];exact kW0
       have sx:Ext w Wr:=by rw[←cI];exact kW0
       clear cI
       refine bodyPost_ret (v:=SA (k,j+1)) ?_ rfl ⟨by rw[HF.out],sx⟩
       simp[results,Tryz.f56,go_sem,SA,s1.cell (j:=0) rfl,s1.cell (j:=1) rfl]
    ·obtain rfl:j=t[k].evs.length:=by omega
     go_wp2_with fail
     go_roundw
     case rel=>exact⟨k+1,yA,by go_num,by rw[←eF t k yA];exact HNO2.out,hx.trans hx3⟩
     case measure=>simp[intOf];omega
  ·obtain rfl:k=t.length:=by omega
   have f0:=br2.frozen 0
   have f1:=br2.frozen 1
   have r0:=br2.cell (j:=0) rfl
   have r1:=br2.cell (j:=1) rfl
   have HF:=KA (show DB t kd m=(0,0) by have:=HNO.out;rw[JK]at this;unfold DB jA;rw[this];rfl)
   go_wp2_with fail
   have hxr:=hx1.trans hx
   obtain⟨Wr,cI⟩:∃Wr,((wr.setCell ⟨w.heap.size+1,0,none⟩ (Value.int .i64 0)).setCell ⟨w.heap.size+1,1,none⟩ (Value.int .i64 0))=Wr:=⟨_,rfl⟩
   rw[cI]
   have s1:UA Wr (w.heap.size+1) 70 #[.int .i64 0,.int .i64 0]:=by rw[←cI];exact kW0
   have sx:Ext w Wr:=by rw[←cI];exact kW0
   clear cI
   refine bodyPost_ret (v:=SA (0,0)) ?_ rfl ⟨by rw[HF.out],sx⟩
   simp[results,Tryz.f56,go_sem,SA,s1.cell (j:=0) rfl,s1.cell (j:=1) rfl]

def jE (t:Tr) (x:Nat×Nat):List (Nat×Nat):=(if 1<x.2 then [(x.1,x.2-1)] else [])++if (uA t x).kind==3 then [DB t 2 (uA t x).msg] else []


def ZFw (D:List Nat):Array Value:=(D.map fun d:Nat=>Value.int .i64 d).toArray
theorem ZDh (D:List Nat) (k d:Nat):(ZFw D).setIfInBounds k (.int .i64 d)=ZFw (D.set k d):=by
 unfold ZFw
 rw[List.setIfInBounds_toArray,fa]
theorem UA.setRow {W:World} {B:Nat} {t:TypeId} {D:List Nat} {k:Nat} (h:UA W B t (ZFw D)) (d:Nat):UA (W.setCell ⟨B,k,none⟩ (.int .i64 d)) B t (ZFw (D.set k d)):=by
 rw[←ZDh];exact h.set _ _
theorem ZGa {D:List Nat}:∀{k d:Nat} (hk:k<D.length),(D.set k d).sum+D[k]=D.sum+d:=by
 induction D with
 |nil=>intro k d hk;simp at hk
 |cons a D ih =>
   intro k d hk
   cases k with
   |zero=>simp;omega
   |succ k =>
     have:=ih (k:=k) (d:=d) (by simpa using hk)
     simp at this⊢;omega
end Go.Proofs.YtmaokjojbjdpoaaGreatDoor
namespace Go.Proofs.YtmaokjojbjdpoaaGreatDoor
set_option linter.unusedVariables false

theorem Hb.back {t:Tr} {x z:Nat×Nat} (h:Hb t x z):∃y,Dir t y z∧(y=x∨Hb t x y):=by
 cases h with
 |one h=>exact⟨_,h,.inl rfl⟩
 |more h1 h2=>exact⟨_,h2,.inr h1⟩
def PQ (D:List Nat) (x:Nat×Nat):Prop:=x.2≤D.getD x.1 0
structure KI (t:Tr) (D:List Nat):Prop where
 len:D.length=t.length
 le:∀p (hp:p<t.length),D.getD p 0≤t[p].evs.length
 closed:∀x∈ids t,PQ D x→∀y∈ids t,Dir t y x→PQ D y
 acyc:∀x∈ids t,PQ D x→¬Hb t x x
theorem KI.start (t:Tr):KI t (List.replicate t.length 0):=by
 have h0:∀p,(List.replicate t.length 0).getD p 0=0:=fun p=>by
  rw[au,gr];split<;>rfl
 have hn:∀x∈ids t,¬PQ (List.replicate t.length 0) x:=fun x hx hg=>by
  have:=lG hx
  unfold PQ at hg;rw[h0]at hg;omega
 exact⟨by simp,fun p hp=>by rw[h0];exact aj _,fun x hx hg=>absurd hg (hn x hx),fun x hx hg=>absurd hg (hn x hx)⟩
theorem KI.gone_back {t:Tr} {D:List Nat} (h:KI t D) {x z:Nat×Nat} (hx:x∈ids t) (hz:z∈ids t) (hg:PQ D z) (hb:Hb t x z):PQ D x:=by
 induction hb with
 |one hd=>exact h.closed _ hz hg _ hx hd
 |more h1 hd ih =>
   have hy:=h1.mem hx
   exact ih hy (h.closed _ hz hg _ hy hd)
theorem D3 {D:List Nat} {p q d:Nat} (hp:p<D.length):(D.set p d).getD q 0=if q=p then d else D.getD q 0:=by
 rw[au,je]
 by_cases h:p=q
 ·subst h;rw[if_pos rfl,if_pos rfl,if_pos hp];rfl
 ·rw[if_neg h,if_neg (fun e=>h e.symm),au]
theorem KI.step {t:Tr} {D:List Nat} (h:KI t D) {p:Nat} (hp:p<t.length) (hi:D.getD p 0<t[p].evs.length) (jL:∀y∈ids t,Dir t y (p,D.getD p 0+1)→PQ D y):KI t (D.set p (D.getD p 0+1)):=by
 have IB:p<D.length:=by rw[h.len];exact hp
 have sL:∀x,x∈ids t→(PQ (D.set p (D.getD p 0+1)) x↔PQ D x∨x=(p,D.getD p 0+1)):=fun x hx=>by
  unfold PQ
  rw[D3 IB]
  obtain⟨a,b⟩:=x
  simp only[Prod.mk.injEq]
  by_cases ha:a=p
  ·subst ha;rw[if_pos rfl];omega
  ·rw[if_neg ha];simp[ha]
 have ZKQ:(p,D.getD p 0+1)∈ids t:=AC.2 ⟨hp,by simp,hi⟩
 have hnx:¬PQ D (p,D.getD p 0+1):=by unfold PQ;simp
 refine⟨by simpa using h.len,fun q hq=>?_,fun x hx hg y hy hd=>?_,fun x hx hg hb=>?_⟩
 ·rw[D3 IB]
  split
  ·rename_i e;subst e;exact hi
  ·exact h.le q hq
 ·rcases (sL x hx).1 hg with h1|rfl
  ·exact (sL y hy).2 (.inl (h.closed x hx h1 y hy hd))
  ·exact (sL y hy).2 (.inl (jL y hy hd))
 ·rcases (sL x hx).1 hg with h1|rfl
  ·exact h.acyc x hx h1 hb
  ·obtain⟨y,hd,he⟩:=hb.back
   rcases he with rfl|h2
   ·exact hnx (jL _ ZKQ hd)
   ·have hy:=h2.mem ZKQ
    exact hnx (h.gone_back ZKQ hy (jL y hy hd) h2)
theorem ZAv {t:Tr} {D:List Nat} {p i:Nat} (jV:∀x∈ids t,KD t x=0) (hp:p<t.length) (hi:i=D.getD p 0) (LJ:i<t[p].evs.length) (hs:(uA t (p,i+1)).kind=3→(DB t 2 (uA t (p,i+1)).msg).2≤D.getD (DB t 2 (uA t (p,i+1)).msg).1 0) :
  ∀y∈ids t,Dir t y (p,i+1)→PQ D y:=by
 rintro⟨a,b⟩ hy (⟨he,hl⟩|⟨hk,hf⟩)
 ·injection he with h1 h2
  simp only at h1 h2
  subst h1
  unfold PQ
  simp only
  omega
 ·obtain⟨hfo,_,_⟩:=YC hf
  have e:TC t 3 (uA t (a,b)).msg=(ids t).find? (AD t 3 (uA t (a,b)).msg):=rfl
  rw[e]at hf
  have qL:=ge hf
  unfold AD at qL
  simp only[ar,beq_iff_eq]at qL
  have hq:=hs qL.1
  rw[qL.2]at hq
  have hpy:=jV (a,b) hy
  unfold KD at hpy
  rw[hk]at hpy
  simp only[show ((2:Int)==2)=true from rfl,if_true]at hpy
  have hfy:TC t 2 (uA t (a,b)).msg=some (a,b):=by
   by_cases hh:(TC t 2 (uA t (a,b)).msg==some (a,b))=true
   ·simpa using hh
   ·rw[if_neg hh]at hpy;cases hpy
  have hv:DB t 2 (uA t (a,b)).msg=(a,b):=(YC hfy).1
  rw[hv]at hq
  exact hq
theorem KI.all {t:Tr} {D:List Nat} (h:KI t D) (hd:∀p (hp:p<t.length),t[p].evs.length≤D.getD p 0):∀x∈ids t,¬Hb t x x:=by
 intro x hx
 obtain⟨hp,h1,h2⟩:=AC.1 hx
 exact h.acyc x hx (dq h2 (hd x.1 hp))
open Go.RowKit

def sumE (t:Tr):Nat:=(t.map fun x=>x.evs.length).sum
theorem KI.sum_le {t:Tr} {D:List Nat} (h:KI t D):D.sum≤sumE t:=by
 have hl:=h.len
 have LJ:=h.le
 clear h
 unfold sumE
 induction t generalizing D with
 |nil=>cases D<;>simp at hl⊢
 |cons x t ih =>
   cases D with
   |nil=>simp at hl
   |cons d D =>
     have h0:=LJ 0 kS
     have h1:=ih (D:=D) (by simpa using hl) (fun p hp=>LJ (p+1) (by simpa using hp))
     simp at h0 h1⊢;omega


theorem S5 {t:Tr} {q m p:Nat} (hq:q<t.length) (h:sendsB t q m p=true):∃y,TC t 2 m=some y:=by
 have e:TC t 2 m=(ids t).find? (AD t 2 m):=rfl
 rw[e]
 unfold sendsB nA at h
 rw[YB dfPr t hq,fj]at h
 obtain⟨ev,he,hk⟩:=h
 obtain⟨j,hj,qP⟩:=List.mem_iff_getElem.1 he
 simp only[ar,beq_iff_eq]at hk
 have F4:(q,j+1)∈ids t:=AC.2 ⟨hq,by simp,hj⟩
 cases hf:(ids t).find? (AD t 2 m) with
 |some y=>exact⟨y,rfl⟩
 |none =>
   rw[db]at hf
   refine absurd ?_ (hf _ F4)
   unfold AD
   rw[KG hq hj,qP,hk.1.1,hk.1.2]
   simp
structure Paired (t:Tr):Prop where
 form:∀x∈ids t,JB t.length x.1 (uA t x)=true
 pair:∀x∈ids t,KD t x=0
theorem Paired.recv {t:Tr} (h:Paired t) {x:Nat×Nat} (hx:x∈ids t) (hk:(uA t x).kind=3):TC t 3 (uA t x).msg=some x∧∃y,TC t 2 (uA t x).msg=some y:=by
 have hp:=h.pair x hx
 obtain⟨m,q,hm,_,hq,ET,_⟩:=WH (h.form x hx) (by rw[hk];rfl)
 unfold KD at hp
 rw[hk]at hp
 simp only[show ((3:Int)==2)=false from rfl,show ((3:Int)==3)=true from rfl,if_true,dt,if_false]at hp
 by_cases h1:(TC t 3 (uA t x).msg==some x)=true
 ·rw[if_pos h1]at hp
  refine⟨by simpa using h1,?_⟩
  by_cases h2:sendsB t (uA t x).peer.toNat (uA t x).msg x.1=true
  ·rw[hq,hm,ca]at h2
   rw[hm]
   exact S5 ET h2
  ·rw[if_neg h2]at hp;cases hp
 ·rw[if_neg h1]at hp;cases hp
theorem Paired.send {t:Tr} (h:Paired t) {x:Nat×Nat} (hx:x∈ids t) (hk:(uA t x).kind=2):TC t 2 (uA t x).msg=some x:=by
 have hp:=h.pair x hx
 unfold KD at hp
 rw[hk]at hp
 simp only[show ((2:Int)==2)=true from rfl,if_true]at hp
 by_cases h1:(TC t 2 (uA t x).msg==some x)=true
 ·simpa using h1
 ·rw[if_neg h1]at hp;cases hp
theorem UF {t:Tr} {k m:Int} {y:Nat×Nat} (h:TC t k m=some y):(uA t y).kind=k∧(uA t y).msg=m:=by
 have e:TC t k m=(ids t).find? (AD t k m):=rfl
 rw[e]at h
 have:=ge h
 simpa [AD] using this
theorem tH {t:Tr} (h:Paired t) {x y:Nat×Nat} (hx:x∈ids t):y∈jE t x↔(y∈ids t∧Dir t y x):=by
 obtain⟨hp,h1,h2⟩:=AC.1 hx
 unfold jE
 rw[bu]
 constructor
 ·rintro (hy|hy)
  ·split at hy
   ·rename_i yA
    have:y=(x.1,x.2-1):=by simpa using hy
    subst this
    refine⟨AC.2 ⟨hp,by simp;omega,by simp;omega⟩,.inl ⟨?_,?_⟩⟩
    ·ext<;>simp;omega
    ·unfold nA;simp only;rw[YB dfPr t hp];omega
   ·cases hy
  ·split at hy
   ·rename_i hk
    have hk3:(uA t x).kind=3:=by simpa using hk
    obtain⟨h3,z,hz⟩:=h.recv hx hk3
    have hv:DB t 2 (uA t x).msg=z:=(YC hz).1
    have:y=z:=by rw[←hv];simpa using hy
    subst this
    obtain⟨k2,m2⟩:=UF hz
    refine⟨(YC hz).2.2,.inr ⟨k2,?_⟩⟩
    rw[m2];exact h3
   ·cases hy
 ·rintro⟨hy,(⟨he,hl⟩|⟨hk,hf⟩)⟩
  ·obtain⟨_,hy1,_⟩:=AC.1 hy
   left
   rw[he]
   simp only
   rw[if_pos oM]
   simp
  ·right
   obtain⟨k3,m3⟩:=UF hf
   rw[k3]
   simp only[show ((3:Int)==3)=true from rfl,if_true]
   have:=h.send hy hk
   rw[m3,show DB t 2 (uA t y).msg=y from (YC this).1]
   simp
theorem Hb.cons {t:Tr} {x y z:Nat×Nat} (h:Dir t x y) (k:Hb t y z):Hb t x z:=by
 induction k with
 |one h2=>exact .more (.one h) h2
 |more _ h2 ih=>exact .more ih h2
structure PaI (t:Tr) (x:Nat×Nat) (S R:List (Nat×Nat)):Prop where
 nod:S.Nodup
 s:∀y∈S,y∈ids t∧Hb t y x
 r:∀y∈R,y∈ids t∧Hb t y x
 closed:∀z,z=x∨z∈S→∀y∈ids t,Dir t y z→y∈S∨y∈R
structure PaJ (t:Tr) (x z0:Nat×Nat) (S R:List (Nat×Nat)) (k:Nat):Prop where
 nod:S.Nodup
 s:∀y∈S,y∈ids t∧Hb t y x
 r:∀y∈R,y∈ids t∧Hb t y x
 cur:z0∈S
 done:∀y∈(jE t z0).take k,y∈R
 closed:∀z,z=x∨z∈S→z≠z0→∀y∈ids t,Dir t y z→y∈S∨y∈R
theorem PaI.start {t:Tr} (h:Paired t) {x:Nat×Nat} (hx:x∈ids t):PaI t x [] (jE t x):=
 ⟨List.nodup_nil,by simp,fun y hy=>let ⟨a,b⟩:=(tH h hx).1 hy;⟨a,.one b⟩,fun z hz y hy hd=>by
  rcases hz with rfl|h1
  ·exact .inr ((tH h hx).2 ⟨hy,hd⟩)
  ·cases h1⟩
theorem PaI.skip {t:Tr} {x y:Nat×Nat} {S R:List (Nat×Nat)} (h:PaI t x S (y::R)) (hy:y∈S):PaI t x S R:=
 ⟨h.nod,h.s,fun z hz=>h.r z (by simp[hz]),fun z hz w hw hd=>by
  rcases h.closed z hz w hw hd with h1|h1
  ·exact .inl h1
  ·rcases cz.1 h1 with rfl|h2
   ·exact .inl hy
   ·exact .inr h2⟩
theorem PaI.mark {t:Tr} {x y:Nat×Nat} {S R:List (Nat×Nat)} (h:PaI t x S (y::R)) (hy:y∉S):PaJ t x y (S++[y]) R 0:=by
 obtain⟨h1,h2⟩:=h.r y kS
 refine⟨?_,?_,fun z hz=>h.r z (by simp[hz]),by simp,by simp,?_⟩
 ·refine ic.2 ⟨h.nod,by simp,fun a ha b hb=>?_⟩
  have:b=y:=by simpa using hb
  subst this;exact fun e=>hy (e▸ha)
 ·intro z hz
  rcases bu.1 hz with h3|h3
  ·exact h.s z h3
  ·have:z=y:=by simpa using h3
   subst this;exact⟨h1,h2⟩
 ·intro z hz qG w hw hd
  have hz':z=x∨z∈S:=by
   rcases hz with h3|h3
   ·exact .inl h3
   ·rcases bu.1 h3 with h4|h4
    ·exact .inr h4
    ·exact absurd (by simpa using h4) qG
  rcases h.closed z hz' w hw hd with h3|h3
  ·exact .inl (by simp[h3])
  ·rcases cz.1 h3 with rfl|h4
   ·exact .inl kS
   ·exact .inr h4
theorem PaJ.push {t:Tr} (hp:Paired t) {x z0 y:Nat×Nat} {S R:List (Nat×Nat)} {k:Nat} (h:PaJ t x z0 S R k) (hk:(jE t z0)[k]? = some y):PaJ t x z0 S (R++[y]) (k+1):=by
 obtain⟨hz,hzx⟩:=h.s z0 h.cur
 obtain⟨hy,hd⟩:=(tH hp hz).1 (ci hk)
 refine⟨h.nod,h.s,fun w hw=>?_,h.cur,fun w hw=>?_,fun z hz' qG w hw hd'=>?_⟩
 ·rcases bu.1 hw with h1|h1
  ·exact h.r w h1
  ·have:w=y:=by simpa using h1
   subst this;exact⟨hy,.cons hd hzx⟩
 ·rw[eN hk]at hw
  rcases bu.1 hw with h1|h1
  ·simp[h.done w h1]
  ·exact bu.2 (.inr h1)
 ·rcases h.closed z hz' qG w hw hd' with h1|h1
  ·exact .inl h1
  ·exact .inr (by simp[h1])
theorem PaJ.fin {t:Tr} (hp:Paired t) {x z0:Nat×Nat} {S R:List (Nat×Nat)} {k:Nat} (h:PaJ t x z0 S R k) (hk:(jE t z0).length≤k):PaI t x S R:=
 ⟨h.nod,h.s,h.r,fun z hz w hw hd=>by
  by_cases he:z=z0
  ·subst he
   refine .inr (h.done w ?_)
   rw[bo hk]
   exact (tH hp (h.s z h.cur).1).2 ⟨hw,hd⟩
  ·exact h.closed z hz he w hw hd⟩
theorem PaI.all {t:Tr} {x:Nat×Nat} {S:List (Nat×Nat)} (h:PaI t x S []):∀y∈ids t,y∈S↔Hb t y x:=by
 intro y hy
 refine⟨fun hs=>(h.s y hs).2,fun hb=>?_⟩
 have key:∀z,Hb t y z→(z=x∨z∈S)→y∈S:=by
  intro z hz
  induction hz with
  |one hd=>exact fun hc=>(h.closed _ hc _ hy hd).resolve_right kS
  |more h1 hd ih=>exact fun hc=>ih (.inr ((h.closed _ hc _ (h1.mem hy) hd).resolve_right kS))
 exact key x hb (.inl rfl)
theorem PaI.few {t:Tr} {x:Nat×Nat} {S R:List (Nat×Nat)} (h:PaI t x S R):S.length≤(ids t).length:=AI h.nod fun y hy=>(h.s y hy).1
theorem PaJ.few {t:Tr} {x z0:Nat×Nat} {S R:List (Nat×Nat)} {k:Nat} (h:PaJ t x z0 S R k):S.length≤(ids t).length:=AI h.nod fun y hy=>(h.s y hy).1
theorem iW (t:Tr) (x:Nat×Nat):(jE t x).length≤2:=by
 unfold jE
 rw[ap]
 split<;>split<;>simp

def AU (S:List (Nat×Nat)) (p n:Nat):Array Value:=((List.range n).map fun i=>Value.bool (decide ((p,i)∈S))).toArray
theorem ZDg {S:List (Nat×Nat)} {p n i:Nat} (h:i<n):(AU S p n)[i]? = some (.bool (decide ((p,i)∈S))):=by simp[AU,h]
theorem ZDf {S:List (Nat×Nat)} {p n i:Nat}:(AU S p n).setIfInBounds i (.bool true)=AU (S++[(p,i)]) p n:=by
 apply Array.ext
 ·simp[AU]
 ·intro j h1 h2
  simp[AU]at h2
  rw[Array.getElem_setIfInBounds (by simpa using h1)]
  simp only[AU,List.getElem_toArray,jc,List.getElem_range]
  by_cases J5:i=j
  ·subst J5;simp
  ·rw[if_neg J5]
   congr 1
   rw[eh]
   simp
   omega
theorem L5 {S:List (Nat×Nat)} {p q n i:Nat} (h:q≠p):AU (S++[(p,i)]) q n=AU S q n:=by
 unfold AU
 congr 1
 apply ja
 intro j _
 congr 1
 rw[eh]
 simp[h]
def rowV (q:Nat×Nat):Value:=.slice (some ⟨q.1,0,none⟩) q.2 q.2
structure GridM (tr tb:TypeId) (W:World) (B:Nat) (v:Value) (gs S:List (Nat×Nat)):Prop where
 out:xB 1 tr W B v gs.length (gs.map rowV)
 row:∀p (hp:p<gs.length),UA W gs[p].1 tb (AU S p gs[p].2)∧B≤gs[p].1
 nod:∀p q (hp:p<gs.length) (hq:q<gs.length),gs[p].1=gs[q].1→p=q
section
variable {tr tb:TypeId} {W W':World} {B:Nat} {v:Value} {gs S:List (Nat×Nat)}
theorem GridM.ext (h:GridM tr tb W B v gs S) (he:Ext W W'):GridM tr tb W' B v gs S:=⟨h.out.ext he,fun p hp=>⟨(h.row p hp).1.ext he,(h.row p hp).2⟩,h.nod⟩
theorem GridM.drewN (h:GridM tr tb W B v gs S) (n:Nat):GridM tr tb (W.drewN n) B v gs S:=h.ext ((Ext.refl W).drewN n)
theorem GridM.alloc (h:GridM tr tb W B v gs S) (o:Obj):GridM tr tb (W.alloc o) B v gs S:=h.ext ((Ext.refl W).alloc o)
theorem GridM.kept (h:GridM tr tb W B v gs S) {r:Option Nat} (hg:W.grownBy W' r) (h1:v.ownBlock≠r∨v.ownBlock=none) (h2:∀p (hp:p<gs.length),some gs[p].1≠r):GridM tr tb W' B v gs S:=
 ⟨h.out.kept hg (h1.symm),fun p hp=>⟨(h.row p hp).1.kept hg (h2 p hp),(h.row p hp).2⟩,h.nod⟩
theorem GridM.mark (h:GridM tr tb W B v gs S) (qG:tr≠tb) {p i:Nat} (hp:p<gs.length):GridM tr tb (W.setCell ⟨gs[p].1,i,none⟩ (.bool true)) B v gs (S++[(p,i)]):=by
 refine⟨h.out.other (h.out.not_box (h.row p hp).1 qG.symm) _,fun q hq=>⟨?_,(h.row q hq).2⟩,h.nod⟩
 by_cases hpq:q=p
 ·subst hpq
  rw[←ZDf]
  exact (h.row q hq).1.set _ _
 ·rw[L5 hpq]
  exact (h.row q hq).1.other (fun e=>hpq (h.nod q p hq hp e)) _
end
def marks (t:Tr) (gs:List (Nat×Nat)) (w:World):Nat:=(ids t).countP fun x=>match w.cell? ⟨(gs.getD x.1 (0,0)).1,x.2,none⟩ with|some (.bool true)=>true|_=>false
theorem ZEG {t:Tr} {tr tb:TypeId} {W:World} {B:Nat} {v:Value} {gs S:List (Nat×Nat)} (h:GridM tr tb W B v gs S) (hl:∀x∈ids t,∃(hp:x.1<gs.length),x.2<gs[x.1].2) (hn:S.Nodup) (hs:∀y∈S,y∈ids t):marks t gs W=S.length:=by
 have e:marks t gs W=(ids t).countP fun x=>decide (x∈S):=by
  unfold marks
  refine List.countP_congr fun x hx=>?_
  obtain⟨hp,hi⟩:=hl x hx
  rw[YB (0,0) gs hp,(h.row x.1 hp).1.cell (ZDg hi)]
  cases decide ((x.1,x.2)∈S)<;>simp
 rw[e,List.countP_eq_length_filter]
 apply Nat.le_antisymm
 ·exact AI ((LV t).filter _) fun x hx=>by simpa using (li.1 hx).2
 ·exact AI hn fun x hx=>li.2 ⟨hs x hx,by simpa using hx⟩

section
variable {size:Nat} {e:TypeId} {w w':World} {B:Nat} {v v':Value} {n:Nat} {cs:List Value}
theorem xB.apart {size' n':Nat} {e':TypeId} {B':Nat} {v':Value} {cs':List Value} (h:xB size e w B v n cs) (h':xB size' e' w B' v' n' cs') (qG:e≠e'):v.ownBlock=none∨v.ownBlock≠v'.ownBlock:=by
 rcases h'.2 with ⟨rfl,_⟩|⟨g,off,cap,cur,rfl,_,hbox,_⟩
 ·cases hv:v.ownBlock
  ·exact .inl rfl
  ·right;simp[Value.ownBlock]
 ·exact .inr (h.not_box hbox qG.symm)
end

abbrev ZGC (W:World) (B:Nat) (v:Value) (gs S:List (Nat×Nat)):Prop:=GridM 190 4 W B v gs S
def GLen (t:Tr) (gs:List (Nat×Nat)) (k:Nat):Prop:=gs.length=k∧∀p (hp:p<gs.length) (ht:p<t.length),gs[p].2=t[p].evs.length+1
theorem ZGC.grow {W W':World} {B n g0:Nat} {v v':Value} {gs:List (Nat×Nat)} (h:ZGC W B v gs []) (hr:UA W g0 4 (AU [] gs.length n)) (hB:B≤g0) (GG:∀p (hp:p<gs.length),gs[p].1≠g0)
  (hv:xB 1 190 W' B v' (gs.length+1) (gs.map rowV++[rowV (g0,n)])) (hg:Grw W v W' v'):ZGC W' B v' (gs++[(g0,n)]) []:=by
 have qG:∀(b:Nat) (cs:Array Value),UA W b 4 cs→some b≠v.ownBlock:=fun b cs hb e=>h.out.not_box hb kE e.symm
 refine⟨?_,?_,?_⟩
 ·rw[ap,bh];exact hv
 ·intro p hp
  rw[ap,dw]at hp
  by_cases yA:p<gs.length
  ·rw[jp yA]
   exact⟨(h.row p yA).1.kept hg.1 (qG _ _ (h.row p yA).1),(h.row p yA).2⟩
  ·obtain rfl:p=gs.length:=by omega
   rw[lp (ai _)]
   simp only[dy,lq]
   exact⟨hr.kept hg.1 (qG _ _ hr),hB⟩
 ·intro p q hp hq he
  rw[ap,dw]at hp hq
  by_cases h1:p<gs.length
  ·by_cases h2:q<gs.length
   ·rw[jp h1,jp h2]at he
    exact h.nod p q h1 h2 he
   ·obtain rfl:q=gs.length:=by omega
    rw[jp h1,lp (ai _)]at he
    simp only[dy,lq]at he
    exact absurd he (GG p h1)
  ·obtain rfl:p=gs.length:=by omega
   by_cases h2:q<gs.length
   ·rw[jp h2,lp (ai _)]at he
    simp only[dy,lq]at he
    exact absurd he.symm (GG q h2)
   ·omega
theorem ZGC.marks {t:Tr} {W:World} {B:Nat} {v:Value} {gs S:List (Nat×Nat)} (h:ZGC W B v gs S) (hl:GLen t gs t.length) (hn:S.Nodup) (hs:∀y∈S,y∈ids t):marks t gs W=S.length:=
 ZEG h (fun y hy=>by
  obtain⟨hp,_,h2⟩:=AC.1 hy
  have h3:y.1<gs.length:=by rw[hl.1];exact hp
  exact⟨h3,by rw[hl.2 y.1 h3 hp];omega⟩) hn hs

theorem ZES {t:Tr} {k m:Int} {x:Nat×Nat} (hx:1≤x.2):(TC t k m==some x)=decide (DB t k m=x):=by
 have e:TC t k m=(ids t).find? (AD t k m):=rfl
 rw[e]
 unfold DB jA
 cases h:(ids t).find? (AD t k m) with
 |none =>
   have:(0,0)≠x:=fun e=>by rw[←e]at hx;simp at hx
   simp[this]
 |some y=>rw[eh];simp
theorem pZ {α:Type} {f:α→Bool} {l:List α} {k:Nat} (hk:k<l.length):(l.take (k+1)).any f=((l.take k).any f||f l[k]):=by
 rw[jh hk,lu];simp


theorem DN {t:Tr} {P:Nat×Nat→Bool} {k j:Nat} (h:(bD t k j).find? P=none) (hx:P (k,j+1)=false):(bD t k (j+1)).find? P=none:=by
 rw[gG,fc,h]
 simp[hx]
theorem IN {t:Tr} {P:Nat×Nat→Bool} {k j:Nat} (hk:k<t.length) (hj:j<t[k].evs.length) (h:(bD t k j).find? P=none) (hx:P (k,j+1)=true):(ids t).find? P=some (k,j+1):=by
 obtain⟨r,hr⟩:=JI t k (j+1) hk hj
 rw[←hr,gG,bc,fc,h]
 simp[hx]
theorem bP {t:Tr} {P:Nat×Nat→Bool} (h:(bD t t.length 0).find? P=none):(ids t).find? P=none:=by
 rw[JK]at h;exact h
theorem ES {t:Tr} {f:Nat×Nat→Nat} (h:(ids t).find? (fun x=>f x != 0)=none):∀x∈ids t,f x=0:=fun x hx=>by
 rw[db]at h
 simpa using h x hx

open Classical in
noncomputable def hbB (t:Tr) (x:Nat×Nat):Bool:=decide (Hb t x x)
open Classical in
theorem ZEN {t:Tr} {x:Nat×Nat} (h:Hb t x x):hbB t x=true:=by unfold hbB;exact ae h
open Classical in
theorem ZBs {t:Tr} {x:Nat×Nat} (h:¬Hb t x x):hbB t x=false:=by unfold hbB;exact ag h

attribute [local go_sem] Oper.semAt_some

noncomputable def QC (t:Tr) (kd m:Int):Nat×Nat:=if ID t then DB t kd m else (0,0)
noncomputable def ZN (t:Tr):Nat:=if ID t then (ids t).length else 0
def b9 (t:Tr) (kd m:Int) (w:World) (e:Ending) (w':World):Prop:=e=.returned (.tuple #[SA (QC t kd m),.bool (decide (0<(QC t kd m).2))])∧Ext w w'
def FdI (t:Tr) (w:World) (kd m:Int) (l:List (Nat×Nat)) (W:World):Prop:=
 (((((UA W (w.heap.size+1) 3 #[.int .i64 kd]∧UA W (w.heap.size+1+1) 3 #[.int .i64 m])∧UA W (w.heap.size+1+1+1) 70 #[.int .i64 0,.int .i64 0])∧UA W (w.heap.size+1+1+1+1) 4 #[.bool false])∧Ext w W)∧l.find? (AD t kd m)=none)
def FdX (t:Tr) (w:World) (kd m:Int) (l:List (Nat×Nat)) (W:World):Prop:=
 ∃a x,(((l=a++[x]∧a.find? (AD t kd m)=none∧AD t kd m x=true)∧UA W (w.heap.size+1+1+1) 70 #[.int .i64 x.1,.int .i64 x.2])∧UA W (w.heap.size+1+1+1+1) 4 #[.bool true])∧Ext w W
theorem aT (t:Tr) (w:World) (kd m:Int) {n:Nat} (hn:w.heap.size≤n):OwnFrom n (fun (pre:List (Idt t)) W=>FdI t w kd m (pre.map (·.1)) W):=
 OwnFrom.and (OwnFrom.and (OwnFrom.and (OwnFrom.and (OwnFrom.and (tA _ _ _ _) (tA _ _ _ _)) (tA _ _ _ _)) (tA _ _ _ _)) (YH hn)) (ownFrom_pure _ _)
theorem ZEV (t:Tr) (w:World) (kd m:Int) {n:Nat} (hn:w.heap.size≤n):OwnFrom n (fun (pre:List (Idt t)) W=>FdX t w kd m (pre.map (·.1)) W):=by
 rintro s X Y row ⟨a,x,h⟩ hg hr
 refine⟨a,x,⟨⟨h.1.1.1,?_⟩,?_⟩,YH hn () X Y row h.2 hg hr⟩
 ·exact tA _ n _ (fun (_:Unit)=>_) () X Y row h.1.1.2 hg hr
 ·exact tA _ n _ (fun (_:Unit)=>_) () X Y row h.1.2 hg hr
theorem A6 {t:Tr} {kd m:Int} {a:List (Nat×Nat)} {x:Nat×Nat} (hv:ID t=true) (hp:a++[x] <+: ids t) (h0:a.find? (AD t kd m)=none) (hx:AD t kd m x=true):QC t kd m=x∧0<x.2:=by
 obtain⟨c,hc⟩:=hp
 have hf:(ids t).find? (AD t kd m)=some x:=by
  rw[←hc,bc,fc,h0];simp[hx]
 refine⟨?_,lG (t:=t) (by rw[←hc];simp)⟩
 unfold QC DB jA
 rw[if_pos hv,hf];rfl
theorem O6 {t:Tr} {kd m:Int} (h:(ids t).find? (AD t kd m)=none):QC t kd m=(0,0):=by
 unfold QC DB jA
 rw[h];simp

theorem kW1 {p:Prop} (h:p:=by (with_reducible repeat (first|assumption|exact KeepsFrom.refl _ _|refine KF.set ?_ _ _|refine KF.alloc ?_ _|refine KF.drew ?_|refine KF.drewN ?_ _|refine KF.ext ?_ aS|exact Below.refl _ _|refine BL.set ?_ _ _ _ oM|refine BL.alloc ?_ _ oM|refine BL.drew ?_|refine BL.drewN ?_ _|refine BL.ext ?_ aS oM|exact Ext.refl _|refine Ext.set ?_ oM _|refine Ext.alloc ?_ _|refine Ext.drew ?_|refine Ext.drewN ?_ _|refine Ext.trans ?_ aS|refine UA.alloc ?_ _|refine UA.drew ?_|refine UA.drewN ?_ _|refine UA.other ?_ oM _|refine UA.set ?_ _ _|apply UA.set1|apply UA.set2_1|apply UA.set2_0|apply UA.set5_4|apply UA.set5_3|apply UA.set5_2|apply UA.set5_1|apply UA.set5_0|apply UA.set3_2|apply UA.set3_1|apply UA.set3_0|apply UA.set4_3|apply UA.set4_2|apply UA.set4_1|apply UA.set4_0|refine UA.ext ?_ aS));done):p:=h
theorem M3 (u:Value) (t:Tr) (kd m:Int) (w:World) (hS:Small t) (hs:SlR 3 RPr w u t) :
  Calls Tryz.prog 80 #[.agg #[u],.int .i64 kd,.int .i64 m] w fun e w'=>b9 t kd m w e w':=by
 have HV:=KA (fun w' (he:Ext w w')=>callsIn_wide (n:=8).2 (TP u t w' hS.sm (hs.ext RPr.keeps he)))
 refine callsIn_wide (n:=9).1 ?_
 refine callsIn_of_wp_marks Tryz.func80 rfl trivial ?_ rfl
 simp only[Tryz.ntmps80,dx,ej,fq,Nat.reduceAdd,Nat.reduceSub,ig,ii,ij,ik,ee,da]
 obtain⟨A,c,rfl,_,EM,_⟩:=hs.at_
 gi_wp2_with fail
 refine⟨trivial,?_⟩
 have hx1:Ext w ((((((w).alloc (.cells #[.slice A t.length c] 30)).alloc (.cells #[.int .i64 kd] 3)).alloc (.cells #[.int .i64 m] 3)).alloc (.cells #[.int .i64 0,.int .i64 0] 70)).alloc (.cells #[.bool false] 4)):=(((((Ext.refl w).alloc _).alloc _).alloc _).alloc _).alloc _
 have b1:UA ((((((w).alloc (.cells #[.slice A t.length c] 30)).alloc (.cells #[.int .i64 kd] 3)).alloc (.cells #[.int .i64 m] 3)).alloc (.cells #[.int .i64 0,.int .i64 0] 70)).alloc (.cells #[.bool false] 4)) (w.heap.size+1) 3 #[.int .i64 kd]:=(((UA.newAt _ _ kS).alloc _).alloc _).alloc _
 have b2:UA ((((((w).alloc (.cells #[.slice A t.length c] 30)).alloc (.cells #[.int .i64 kd] 3)).alloc (.cells #[.int .i64 m] 3)).alloc (.cells #[.int .i64 0,.int .i64 0] 70)).alloc (.cells #[.bool false] 4)) (w.heap.size+1+1) 3 #[.int .i64 m]:=((UA.newAt _ _ kS).alloc _).alloc _
 have b3:UA ((((((w).alloc (.cells #[.slice A t.length c] 30)).alloc (.cells #[.int .i64 kd] 3)).alloc (.cells #[.int .i64 m] 3)).alloc (.cells #[.int .i64 0,.int .i64 0] 70)).alloc (.cells #[.bool false] 4)) (w.heap.size+1+1+1) 70 #[.int .i64 0,.int .i64 0]:=(UA.newAt _ _ kS).alloc _
 have b4:UA ((((((w).alloc (.cells #[.slice A t.length c] 30)).alloc (.cells #[.int .i64 kd] 3)).alloc (.cells #[.int .i64 m] 3)).alloc (.cells #[.int .i64 0,.int .i64 0] 70)).alloc (.cells #[.bool false] 4)) (w.heap.size+1+1+1+1) 4 #[.bool false]:=UA.newAt _ _ kS
 have bT:UA ((((((w).alloc (.cells #[.slice A t.length c] 30)).alloc (.cells #[.int .i64 kd] 3)).alloc (.cells #[.int .i64 m] 3)).alloc (.cells #[.int .i64 0,.int .i64 0] 70)).alloc (.cells #[.bool false] 4)) (w.heap.size) 30 #[.slice A t.length c]:=((((UA.new _ _ _).alloc _).alloc _).alloc _).alloc _
 generalize (((((w).alloc (.cells #[.slice A t.length c] 30)).alloc (.cells #[.int .i64 kd] 3)).alloc (.cells #[.int .i64 m] 3)).alloc (.cells #[.int .i64 0,.int .i64 0] 70)).alloc (.cells #[.bool false] 4)=W1 at *
 refine (HV.out _ hx1).mono ?_
 rintro e w2 ⟨rfl,uJ⟩
 replace hx1:=hx1.trans uJ
 replace b1:=b1.ext uJ
 replace b2:=b2.ext uJ
 replace b3:=b3.ext uJ
 replace b4:=b4.ext uJ
 replace bT:=bT.ext uJ
 clear uJ
 have f0:=b3.frozen 0
 have f1:=b3.frozen 1
 have f2:=b4.frozen 0
 have r0:w2.cell? ⟨w.heap.size+1+1+1,0,none⟩=some (.int .i64 0):=b3.cell (j:=0) rfl
 have r1:w2.cell? ⟨w.heap.size+1+1+1,1,none⟩=some (.int .i64 0):=b3.cell (j:=1) rfl
 have r2:w2.cell? ⟨w.heap.size+1+1+1+1,0,none⟩=some (.bool false):=b4.cell (j:=0) rfl
 have t0:w2.cell? ⟨w.heap.size,0,none⟩=some (.slice A t.length c):=bT.cell (j:=0) rfl
 cases hv:ID t
 ·have HF:=KA (show QC t kd m=(0,0) by unfold QC;rw[hv];rfl)
  clear hv
  gi_wp2_with fail
  obtain⟨Wr,cI⟩:∃Wr,((w2.setCell ⟨w.heap.size+1+1+1,0,none⟩ (Value.int .i64 0)).setCell ⟨w.heap.size+1+1+1,1,none⟩ (Value.int .i64 0)).setCell ⟨w.heap.size+1+1+1+1,0,none⟩ (Value.bool false)=Wr:=⟨_,rfl⟩
  rw[cI]
  have s1:UA Wr (w.heap.size+1+1+1) 70 #[.int .i64 0,.int .i64 0]:=by rw[←cI];exact kW1
  have s2:UA Wr (w.heap.size+1+1+1+1) 4 #[.bool false]:=by rw[←cI];exact kW1
  have sx:Ext w Wr:=by rw[←cI];exact kW1
  clear cI
  refine⟨.tuple #[SA (0,0),.bool false],by simp[results,Tryz.f80,go_sem,SA,s1.cell (j:=0) rfl,s1.cell (j:=1) rfl,s2.cell (j:=0) rfl],by rw[HF.out];rfl,sx⟩
 ·have HVL:=KA hv
  clear hv
  have H8:=hS.np
  gi_wp2_with (refine⟨trivial,?_⟩;gi_at_call 88;refine (callsIn_wide.2 (DI _ _)).mono ?_;rintro e w' ⟨rfl,rfl⟩)
  have bt:=UA.new w2 30 #[.slice A t.length c]
  have hM0:FdI t w kd m [] (w2.alloc (.cells #[.slice A t.length c] 30)):=⟨⟨⟨⟨⟨b1.alloc _,b2.alloc _⟩,b3.alloc _⟩,b4.alloc _⟩,hx1.alloc _⟩,rfl⟩
  have I8:w.heap.size≤w2.heap.size:=hx1.size
  have DW:(w2.alloc (.cells #[.slice A t.length c] 30)).heap.size=w2.heap.size+1:=by simp
  generalize (w2.alloc (.cells #[.slice A t.length c] 30))=W0 at *
  have ZQ:Ext w W0:=hM0.1.2
  have N8:w.heap.size≤W0.heap.size:=by omega
  clear DW f0 f1 f2 r0 r1 r2 t0
  refine wpIn_rangeFunc_ownH rfl oM (gf:=138) (lb:=#[.pointer (some ⟨w2.heap.size,0,none⟩)]) rfl trivial (fC Tryz.func138 kE rfl)
   (AG 8 oM w (.slice A t.length c) t w2.heap.size W0 H8 hS.ne hs ZQ (bt.cell rfl) I8) belowK_t (belowK_b N8) (Below.refl _ _) (fun _=>rfl)
   (fun pre W=>FdI t w kd m (pre.map (·.1)) W) (fun c pre W=>c=.ret∧FdX t w kd m (pre.map (·.1)) W) (aT t w kd m N8) (fun c=>OwnFrom.and (ownFrom_pure _ _) (ZEV t w kd m N8)) hM0
   (fun x a' W=>∃B6 B7 A4 n4 c4 v13 v14,(w.heap.size+1+1+1+1<B6∧w.heap.size+1+1+1+1<B7)∧UA W B6 70 #[.int .i64 x.1.1,.int .i64 x.1.2]∧UA W B7 68 #[.int .i64 (uA t x.1).kind,.int .i64 (uA t x.1).peer,.int .i64 (uA t x.1).msg,.int .i64 (uA t x.1).time,.slice A4 n4 c4] ∧
    a'={tmps:=#[.agg #[.slice A t.length c],.int .i64 kd,.int .i64 m,.pointer (some ⟨w.heap.size,0,none⟩),.pointer (some ⟨w.heap.size+1,0,none⟩),.pointer (some ⟨w.heap.size+1+1,0,none⟩),.pointer (some ⟨w.heap.size+1+1+1,0,none⟩),.pointer (some ⟨w.heap.size+1+1+1+1,0,none⟩),.pointer (some ⟨B6,0,none⟩),.pointer (some ⟨B7,0,none⟩),.agg #[.slice A t.length c],.bool true,.bool false,undef,.agg #[.slice A t.length c],.func (.func 138) #[] #[.pointer (some ⟨w2.heap.size,0,none⟩)],v13,v14,undef,undef,undef,undef,undef,undef,undef,undef,undef,undef,undef,undef],defers:=[]})
   ?hax ?assign ?body ?done ?stop
  case hax =>
   rintro x a' _ X Y row ⟨B6,B7,A4,n4,c4,v13,v14,hB,b6,b7,ha⟩ hg hr
   exact⟨B6,B7,A4,n4,c4,v13,v14,hB,tA B6 _ _ (fun (_:Unit)=>_) () X Y row b6 hg hr,tA B7 _ _ (fun (_:Unit)=>_) () X Y row b7 hg hr,ha⟩
  case assign =>
   rintro l pre x W K hI hK
   obtain⟨a,hv,hsa⟩:=GT hs x.2
   obtain⟨A4,c4,rfl,_,_,_⟩:=hsa.at_
   clear hsa
   simp only[hv]
   have hsW:=hI.1.2.size
   have h5:=hI.1.1.2.lt
   unfold SA
   gi_wp2
   exact hK _ _ (((KeepsOthers.alloc _ _).trans (KeepsOthers.alloc _ _)).from _) (((Below.refl _ W).alloc hsW _).alloc (by simp;omega) _) ((aT t w kd m (ai _)).alloc _ ((aT t w kd m (ai _)).alloc _ hI))
    ⟨W.heap.size,W.heap.size+1,A4,_,c4,_,_,⟨h5,by omega⟩,(UA.new _ _ _).alloc _,UA.newAt _ _ kS,rfl⟩
  case body =>
   rintro l pre x a' W hlW ⟨r,hr⟩ hI ⟨B6,B7,A4,n4,c4,v13,v14,⟨hB6,hB7⟩,b6,b7,rfl⟩ IB
   obtain⟨⟨⟨⟨⟨c1,c2⟩,c3⟩,c4'⟩,hxW⟩,VP⟩:=hI
   have hsW:=hxW.size
   have HNO:=KA VP
   have HKEY:=KA (show AD t kd m x.1=(((uA t x.1).kind==kd)&&((uA t x.1).msg==m)) from rfl)
   clear VP
   have k0:=b7.cell (j:=0) rfl
   have k1:=b7.cell (j:=1) rfl
   have k2:=b7.cell (j:=2) rfl
   have k3:=b7.cell (j:=3) rfl
   have k4:=b7.cell (j:=4) rfl
   have i0:=b6.cell (j:=0) rfl
   have i1:=b6.cell (j:=1) rfl
   have d1:=c1.cell (j:=0) rfl
   have d2:=c2.cell (j:=0) rfl
   have f0:=c3.frozen 0
   have f1:=c3.frozen 1
   have f2:=c4'.frozen 0
   have r0:=c3.cell (j:=0) rfl
   have r1:=c3.cell (j:=1) rfl
   have r2:=c4'.cell (j:=0) rfl
   have UP:∀b1 b2,((uA t x.1).kind==kd)=b1→((uA t x.1).msg==m)=b2→AD t kd m x.1=(b1&&b2):=fun b1 b2 h1 h2=>by rw[HKEY.out,h1,h2]
   have HKK:=KA UP
   clear UP
   have ZLr:∀y:Nat×Nat,y=x.1→AD t kd m x.1=false→(pre.map (·.1)++[y]).find? (AD t kd m)=none:=fun y hy h=>by
    rw[fc,HNO.out,hy];simp[h]
   have HIOK:=KA ZLr
   clear ZLr
   cases q1:(uA t x.1).kind==kd
   ·have HN:=KA (HIOK.out x.1 rfl (HKK.out _ _ q1 rfl))
    gi_wp2
    refine⟨KeepsFrom.refl _ _,Below.refl _ _,?_⟩
    show FdI t w kd m ((pre++[x]).map (·.1)) _
    rw[kG]
    exact⟨⟨⟨⟨⟨c1,c2⟩,c3⟩,c4'⟩,hxW⟩,HN.out⟩
   ·cases q2:(uA t x.1).msg==m
    ·have HN:=KA (HIOK.out x.1 rfl (by rw[HKK.out _ _ q1 q2];rfl))
     gi_wp2
     refine⟨KeepsFrom.refl _ _,Below.refl _ _,?_⟩
     show FdI t w kd m ((pre++[x]).map (·.1)) _
     rw[kG]
     exact⟨⟨⟨⟨⟨c1,c2⟩,c3⟩,c4'⟩,hxW⟩,HN.out⟩
    ·have HN:=KA (HKK.out _ _ q1 q2)
     gi_wp2
     refine⟨?_,rfl,pre.map (·.1),x.1,⟨⟨⟨kG pre x,HNO.out,HN.out⟩,?_⟩,?_⟩,?_⟩
     all_goals exact kW1
  case done =>
   rintro D ys W hD hys ⟨⟨⟨⟨⟨c1,c2⟩,c3⟩,c4⟩,hxW⟩,VP⟩ hK
   rw[hys]at VP
   have HF:=KA (O6 VP)
   clear VP
   have f0:=c3.frozen 0
   have f1:=c3.frozen 1
   have f2:=c4.frozen 0
   have r0:=c3.cell (j:=0) rfl
   have r1:=c3.cell (j:=1) rfl
   have r2:=c4.cell (j:=0) rfl
   gi_wp2
   obtain⟨Wr,cI⟩:∃Wr,((W.setCell ⟨w.heap.size+1+1+1,0,none⟩ (Value.int .i64 0)).setCell ⟨w.heap.size+1+1+1,1,none⟩ (Value.int .i64 0)).setCell ⟨w.heap.size+1+1+1+1,0,none⟩ (Value.bool false)=Wr:=⟨_,rfl⟩
   rw[cI]
   have s1:UA Wr (w.heap.size+1+1+1) 70 #[.int .i64 0,.int .i64 0]:=by rw[←cI];exact kW1
   have s2:UA Wr (w.heap.size+1+1+1+1) 4 #[.bool false]:=by rw[←cI];exact kW1
   have sx:Ext w Wr:=by rw[←cI];exact kW1
   have hkf:KeepsFrom W0.heap.size W Wr:=by rw[←cI];exact kW1
   have KS:Wr.heap[D]? = some (.deferred (some [])):=hkf.same D _ hD hK rfl
   clear cI
   have e2:=(s1.putObj KS rfl (.deferred none)).cell (j:=0) rfl
   have e3:=(s1.putObj KS rfl (.deferred none)).cell (j:=1) rfl
   have e4:=(s2.putObj KS rfl (.deferred none)).cell (j:=0) rfl
   refine⟨by simp,.inl ⟨_,_,rfl,run_takeDeferred KS,?_⟩⟩
   refine⟨.tuple #[SA (0,0),.bool false],?_,by rw[HF.out];rfl,sx.putObj oM KS _⟩
   simp[results,Tryz.f80,go_sem,e2,e3,e4,SA]
  case stop =>
   rintro D c' pre W hD jL ⟨rfl,a,x,⟨⟨⟨hp,h0,hx⟩,r1W⟩,r2W⟩,hxW⟩ hK
   rw[hp]at jL
   have HST:=KA (A6 HVL.out jL h0 hx)
   clear h0 hx
   gi_wp2
   have e2:=(r1W.putObj hK rfl (.deferred none)).cell (j:=0) rfl
   have e3:=(r1W.putObj hK rfl (.deferred none)).cell (j:=1) rfl
   have e4:=(r2W.putObj hK rfl (.deferred none)).cell (j:=0) rfl
   refine⟨by simp,.inl ⟨_,_,rfl,run_takeDeferred hK,?_⟩⟩
   refine⟨.tuple #[SA x,.bool true],?_,by rw[HST.out.1,ae HST.out.2],hxW.putObj oM hK _⟩
   simp[results,Tryz.f80,go_sem,e2,e3,e4,SA]
theorem p8 (u:Value) (t:Tr) (m:Int) (w:World) (hS:Small t) (hs:SlR 3 RPr w u t) :
  Calls Tryz.prog 31 #[.agg #[u],.int .i64 m] w fun e w'=>b9 t 2 m w e w':=by
 have HF:=KA (fun w' (he:Ext w w')=>M3 u t 2 m w' hS (hs.ext RPr.keeps he))
 obtain⟨A,c,rfl,_,EM,_⟩:=hs.at_
 go_enter Tryz.func31,Tryz.ntmps31
 go_wp2_with fail
 have hx1:=((Ext.refl w).alloc (.cells #[.slice A t.length c] 30)).alloc (.cells #[.int .i64 0,.int .i64 0] 70)
 have b3:UA ((w.alloc (.cells #[.slice A t.length c] 30)).alloc (.cells #[.int .i64 0,.int .i64 0] 70)) (w.heap.size+1) 70 #[.int .i64 0,.int .i64 0]:=UA.newAt _ _ kS
 generalize (w.alloc (.cells #[.slice A t.length c] 30)).alloc (.cells #[.int .i64 0,.int .i64 0] 70)=W1 at *
 refine (HF.out _ hx1).mono ?_
 rintro e w2 ⟨rfl,uJ⟩
 have hx2:=hx1.trans uJ
 have b4:=b3.ext uJ
 have f0:=b4.frozen 0
 have f1:=b4.frozen 1
 have r0:=b4.cell (j:=0) rfl
 have r1:=b4.cell (j:=1) rfl
 unfold SA
 go_wp2
 obtain⟨Wr,cI⟩:∃Wr,(w2.setCell ⟨w.heap.size+1,0,none⟩ (Value.int .i64 (QC t 2 m).1)).setCell ⟨w.heap.size+1,1,none⟩ (Value.int .i64 (QC t 2 m).2)=Wr:=⟨_,rfl⟩
 rw[cI]
 have s1:UA Wr (w.heap.size+1) 70 #[.int .i64 (QC t 2 m).1,.int .i64 (QC t 2 m).2]:=by rw[←cI];exact kW1
 have sx:Ext w Wr:=by rw[←cI];exact kW1
 clear cI
 refine bodyPost_ret (v:=.tuple #[SA (QC t 2 m),.bool (decide (0<(QC t 2 m).2))]) ?_ rfl ⟨rfl,sx⟩
 simp[results,Tryz.f31,go_sem,SA,s1.cell (j:=0) rfl,s1.cell (j:=1) rfl]
theorem rX (u:Value) (t:Tr) (m:Int) (w:World) (hS:Small t) (hs:SlR 3 RPr w u t) :
  Calls Tryz.prog 158 #[.agg #[u],.int .i64 m] w fun e w'=>b9 t 3 m w e w':=by
 have HF:=KA (fun w' (he:Ext w w')=>M3 u t 3 m w' hS (hs.ext RPr.keeps he))
 obtain⟨A,c,rfl,_,EM,_⟩:=hs.at_
 go_enter Tryz.func158,Tryz.ntmps158
 go_wp2_with fail
 have hx1:=((Ext.refl w).alloc (.cells #[.slice A t.length c] 30)).alloc (.cells #[.int .i64 0,.int .i64 0] 70)
 have b3:UA ((w.alloc (.cells #[.slice A t.length c] 30)).alloc (.cells #[.int .i64 0,.int .i64 0] 70)) (w.heap.size+1) 70 #[.int .i64 0,.int .i64 0]:=UA.newAt _ _ kS
 generalize (w.alloc (.cells #[.slice A t.length c] 30)).alloc (.cells #[.int .i64 0,.int .i64 0] 70)=W1 at *
 refine (HF.out _ hx1).mono ?_
 rintro e w2 ⟨rfl,uJ⟩
 have hx2:=hx1.trans uJ
 have b4:=b3.ext uJ
 have f0:=b4.frozen 0
 have f1:=b4.frozen 1
 have r0:=b4.cell (j:=0) rfl
 have r1:=b4.cell (j:=1) rfl
 unfold SA
 go_wp2
 obtain⟨Wr,cI⟩:∃Wr,(w2.setCell ⟨w.heap.size+1,0,none⟩ (Value.int .i64 (QC t 3 m).1)).setCell ⟨w.heap.size+1,1,none⟩ (Value.int .i64 (QC t 3 m).2)=Wr:=⟨_,rfl⟩
 rw[cI]
 have s1:UA Wr (w.heap.size+1) 70 #[.int .i64 (QC t 3 m).1,.int .i64 (QC t 3 m).2]:=by rw[←cI];exact kW1
 have sx:Ext w Wr:=by rw[←cI];exact kW1
 clear cI
 refine bodyPost_ret (v:=.tuple #[SA (QC t 3 m),.bool (decide (0<(QC t 3 m).2))]) ?_ rfl ⟨rfl,sx⟩
 simp[results,Tryz.f158,go_sem,SA,s1.cell (j:=0) rfl,s1.cell (j:=1) rfl]

def CtI (t:Tr) (w:World) (gc:Nat) (l:List (Nat×Nat)) (W:World):Prop:=(UA W gc 3 #[.int .i64 l.length]∧Ext w W)
theorem ZE2 (t:Tr) (w:World) (gc:Nat) {n:Nat} (hn:w.heap.size≤n):OwnFrom n (fun (pre:List (Idt t)) W=>CtI t w gc (pre.map (·.1)) W):=
 OwnFrom.and (tA _ _ _ _) (YH hn)
theorem ZC8 (u:Value) (t:Tr) (w:World) (hS:Small t) (hN:(ids t).length≤1000000) (hs:SlR 3 RPr w u t) :
  Calls Tryz.prog 39 #[.agg #[u]] w fun e w'=>e=.returned (.int .i64 (ZN t))∧Ext w w':=by
 have HV:=KA (fun w' (he:Ext w w')=>callsIn_wide (n:=8).2 (TP u t w' hS.sm (hs.ext RPr.keeps he)))
 refine callsIn_wide (n:=9).1 ?_
 refine callsIn_of_wp_marks Tryz.func39 rfl trivial ?_ rfl
 simp only[Tryz.ntmps39,dx,ej,fq,Nat.reduceAdd,Nat.reduceSub,ig,ii,ij,ik,ee,da]
 obtain⟨A,c,rfl,_,EM,_⟩:=hs.at_
 gi_wp2_with fail
 refine⟨trivial,?_⟩
 have hx1:Ext w (w.alloc (.cells #[.slice A t.length c] 30)):=(Ext.refl w).alloc _
 have bT:UA (w.alloc (.cells #[.slice A t.length c] 30)) (w.heap.size) 30 #[.slice A t.length c]:=UA.new _ _ _
 generalize w.alloc (.cells #[.slice A t.length c] 30)=W1 at *
 refine (HV.out _ hx1).mono ?_
 rintro e w2 ⟨rfl,uJ⟩
 replace hx1:=hx1.trans uJ
 replace bT:=bT.ext uJ
 clear uJ
 have t0:w2.cell? ⟨w.heap.size,0,none⟩=some (.slice A t.length c):=bT.cell (j:=0) rfl
 have lt0:=bT.lt
 cases hv:ID t
 ·have HF:=KA (show ZN t=0 by unfold ZN;rw[hv];rfl)
  clear hv
  gi_wp2_with fail
  exact⟨.int .i64 0,by simp[results,Tryz.f39,go_sem],by rw[HF.out];rfl,hx1⟩
 ·have HVL:=KA (show ZN t=(ids t).length by unfold ZN;rw[hv];rfl)
  clear hv
  have H8:=hS.np
  gi_wp2_with (refine⟨trivial,?_⟩;gi_at_call 88;refine (callsIn_wide.2 (DI _ _)).mono ?_;rintro e w' ⟨rfl,rfl⟩)
  have bt:UA ((w2.alloc (.cells #[.int .i64 0] 3)).alloc (.cells #[.slice A t.length c] 30)) (w2.heap.size+1) 30 #[.slice A t.length c]:=UA.newAt _ _ kS
  have hM0:CtI t w w2.heap.size [] ((w2.alloc (.cells #[.int .i64 0] 3)).alloc (.cells #[.slice A t.length c] 30)):=⟨(UA.new _ _ _).alloc _,(hx1.alloc _).alloc _⟩
  have I8:w.heap.size≤w2.heap.size:=hx1.size
  have DW:((w2.alloc (.cells #[.int .i64 0] 3)).alloc (.cells #[.slice A t.length c] 30)).heap.size=w2.heap.size+1+1:=by simp
  generalize ((w2.alloc (.cells #[.int .i64 0] 3)).alloc (.cells #[.slice A t.length c] 30))=W0 at *
  have ZQ:Ext w W0:=hM0.2
  have N8:w.heap.size≤W0.heap.size:=by omega
  clear DW t0 lt0 hx1 bT
  generalize w2.heap.size=gc at *
  refine wpIn_rangeFunc_ownH rfl oM (gf:=138) (lb:=#[.pointer (some ⟨gc+1,0,none⟩)]) rfl trivial (fC Tryz.func138 kE rfl)
   (AG 8 oM w (.slice A t.length c) t (gc+1) W0 H8 hS.ne hs ZQ (bt.cell rfl) oM) belowK_t (belowK_b N8) (Below.refl _ _) (fun _=>rfl)
   (fun pre W=>CtI t w gc (pre.map (·.1)) W) (fun c pre W=>False) (ZE2 t w gc N8) (fun c=>ownFrom_pure _ _) hM0
   (fun x a' W=>∃v13 v14,
    a'={tmps:=#[.agg #[.slice A t.length c],.pointer (some ⟨w.heap.size,0,none⟩),.int .i64 0,.pointer (some ⟨gc,0,none⟩),.agg #[.slice A t.length c],.bool true,.bool false,.agg #[.slice A t.length c],.func (.func 138) #[] #[.pointer (some ⟨gc+1,0,none⟩)],v13,v14,undef,undef,undef],defers:=[]})
   ?hax ?assign ?body ?done ?stop
  case hax =>
   rintro x a' _ X Y row ⟨v13,v14,ha⟩ hg hr
   exact⟨v13,v14,ha⟩
  case assign =>
   rintro l pre x W K hI hK
   gi_wp2
   exact hK _ _ (KeepsFrom.refl _ _) (Below.refl _ _) hI ⟨SA x.1,MU w (.slice A t.length c) x.1,by simp⟩
  case body =>
   rintro l pre x a' W hlW ⟨r,hr⟩ hI ⟨v13,v14,rfl⟩ IB
   obtain⟨c1,hxW⟩:=hI
   have hsW:=hxW.size
   have d0:W.cell? ⟨gc,0,none⟩=some (.int .i64 ((pre.length:Nat):Int)):=by rw[c1.cell (j:=0) rfl];simp
   have f0:=c1.frozen 0
   have cU:pre.length<1000000:=by omega
   have ZOC:=(ZBG pre.length 1 1 rfl oM).1
   have HGC:=KA I8
   gi_wp2
   refine⟨KF.set (KeepsFrom.refl _ _) _ _,BL.set (Below.refl _ _) _ _ _ I8,?_⟩
   show CtI t w gc ((pre++[x]).map (·.1)) _
   refine⟨?_,Ext.set hxW I8 _⟩
   rw[show (((pre++[x]).map (·.1)).length:Int)=(pre.length:Int)+1 by simp]
   exact UA.set1 c1
  case done =>
   rintro D ys W hD hys ⟨c1,hxW⟩ hK
   rw[hys]at c1
   have d0:W.cell? ⟨gc,0,none⟩=some (.int .i64 ((ids t).length:Nat)):=c1.cell (j:=0) rfl
   gi_wp2
   refine⟨by simp,.inl ⟨_,_,rfl,run_takeDeferred hK,?_⟩⟩
   refine⟨.int .i64 ((ids t).length:Nat),?_,by rw[HVL.out],hxW.putObj oM hK _⟩
   simp[results,Tryz.f39,go_sem]
  case stop=>rintro D c' pre W hD jL h;exact h.elim
end Go.Proofs.YtmaokjojbjdpoaaGreatDoor
namespace Go.Proofs.YtmaokjojbjdpoaaGreatDoor
set_option linter.unusedVariables false

structure Vok (t:Tr):Prop where
 lo:1≤t.length
 hi:t.length≤8
 head:∀p,p<t.length→CC t p=0
 form:∀x∈ids t,eC t x=0
 pair:∀x∈ids t,KD t x=0
 acyc:∀x∈ids t,¬Hb t x x
theorem vok {t:Tr} (h:ID t=true):Vok t:=by
 unfold ID RE at h
 split at h
 ·simp at h
 rename_i hl
 split at h
 ·rename_i p hp
  have:=ge hp
  simp at h this;exact absurd h this
 rename_i h1
 split at h
 ·rename_i p hp
  have:=ge hp
  simp at h this;exact absurd h this
 rename_i h2
 split at h
 ·rename_i p hp
  have:=ge hp
  simp at h this;exact absurd h this
 rename_i h3
 split at h
 ·simp at h
 rename_i h4
 rw[db]at h1 h2 h3 h4
 refine⟨by omega,by omega,fun p hp=>?_,fun x hx=>?_,fun x hx=>?_,fun x hx=>?_⟩
 ·simpa using h1 p (ba.2 hp)
 ·simpa using h2 x hx
 ·simpa using h3 x hx
 ·simpa using h4 x hx
theorem Vok.paired {t:Tr} (h:Vok t):Paired t:=⟨fun x hx=>lK (h.form x hx),h.pair⟩
theorem ME {t:Tr} {p:Nat} (h:p<t.length):nA t p=t[p].evs:=by unfold nA;simp[List.getD,h]
theorem yE {t:Tr} {p i:Nat}:(p,i+1)∈ids t↔p<t.length∧i<(nA t p).length:=by
 rw[AC]
 constructor
 ·rintro⟨hp,_,h⟩
  have h:i+1≤t[p].evs.length:=h
  exact⟨hp,by rw[ME hp];omega⟩
 ·rintro⟨hp,h⟩;rw[ME hp]at h;exact⟨hp,by simp,(show i+1≤t[p].evs.length by omega)⟩

theorem Hb.trans {t:Tr} {x y z:Nat×Nat} (h:Hb t x y) (k:Hb t y z):Hb t x z:=by
 induction k with
 |one h2=>exact .more h h2
 |more _ h2 ih=>exact .more ih h2
def Le (t:Tr) (x y:Nat×Nat):Prop:=x=y∨Hb t x y
theorem Le.refl {t:Tr} (x:Nat×Nat):Le t x x:=.inl rfl
theorem Le.hb {t:Tr} {x y z:Nat×Nat} (h:Le t x y) (k:Hb t y z):Hb t x z:=by
 rcases h with rfl|h
 ·exact k
 ·exact h.trans k
theorem Le.trans {t:Tr} {x y z:Nat×Nat} (h:Le t x y) (k:Le t y z):Le t x z:=by
 rcases k with rfl|k
 ·exact h
 ·exact .inr (h.hb k)
theorem ZFP {t:Tr} {p i:Nat}:∀{j:Nat},i<j→j≤(nA t p).length→Hb t (p,i) (p,j)
 |0,h,_=>by omega
 |j+1,h,hl=>by
   have d:Dir t (p,j) (p,j+1):=.inl ⟨rfl,hl⟩
   by_cases hj:i=j
   ·subst hj;exact .one d
   ·exact .more (ZFP (show i<j by omega) oM) d
theorem y9 {t:Tr} {p i j:Nat} (h:i≤j) (hl:j≤(nA t p).length):Le t (p,i) (p,j):=by
 by_cases hj:i=j
 ·exact .inl (by rw[hj])
 ·exact .inr (ZFP oM hl)

noncomputable def leB (t:Tr) (x y:Nat×Nat):Bool:=@decide (Le t x y) (Classical.propDecidable _)
theorem SO {t:Tr} {x y:Nat×Nat}:leB t x y=true↔Le t x y:=by unfold leB;exact @decide_eq_true_iff _ (Classical.propDecidable _)
noncomputable def vc (t:Tr) (x:Nat×Nat) (q:Nat):Nat:=(List.range (nA t q).length).countP fun i=>leB t (q,i+1) x
theorem XT {P:Nat→Bool}:∀{n:Nat},(∀i j,i<n→j≤i→P i=true→P j=true)→∀i,i<n→(P i=true↔i<(List.range n).countP P)
 |0,_,i,hi=>by omega
 |n+1,h,i,hi=>by
   have ih:=XT (P:=P) (n:=n) (fun i j hi hj hp=>h i j oM hj hp)
   have LJ:=List.countP_le_length (p:=P) (l:=List.range n)
   rw[jo]at LJ
   rw[fw,List.countP_append,List.countP_singleton]
   by_cases hn:P n=true
   ·have all:∀j,j<n→P j=true:=fun j hj=>h n j oM oM hn
    have hc:(List.range n).countP P=n:=by
     rcases bp ((List.range n).countP P) n with yA|yH
     ·have:=(ih _ yA).1 (all _ yA);omega
     ·omega
    rw[if_pos hn,hc]
    constructor
    ·intro _;omega
    ·intro _
     rcases bp i n with yA|yH
     ·exact all i yA
     ·have:i=n:=by omega
      subst this;exact hn
   ·rw[if_neg hn]
    rcases bp i n with yA|yH
    ·exact ih i yA
    ·have:i=n:=by omega
     subst this
     constructor
     ·intro hp;exact absurd hp hn
     ·intro hp;omega
theorem ZJG {t:Tr} {x:Nat×Nat} {q i:Nat} (h:i<(nA t q).length):Le t (q,i+1) x↔i<vc t x q:=by
 have:=XT (P:=fun i=>leB t (q,i+1) x) (n:=(nA t q).length) (fun i j hi hj hp=>by
  rw[SO]at hp⊢
  exact (y9 oM oM).trans hp) i h
 rw[←SO]
 exact this
theorem vc_le {t:Tr} {x:Nat×Nat} {q:Nat}:vc t x q≤(nA t q).length:=by
 have:=List.countP_le_length (p:=fun i=>leB t (q,i+1) x) (l:=List.range (nA t q).length)
 rwa [jo]at this
theorem ZJQ {a b n:Nat} (ha:a≤n) (hb:b≤n) (h:∀j,j<n→(j<a↔j<b)):a=b:=by
 rcases lw a b with hl|hl|hl
 ·have:=(h a oM).2 hl;omega
 ·exact hl
 ·have:=(h b oM).1 hl;omega
theorem ZHP {t:Tr} (hv:Vok t) {x w:Nat×Nat} (hx:x∈ids t) (hw:w∈ids t):Le t w x↔w=x∨∃y∈jE t x,Le t w y:=by
 constructor
 ·rintro (h|h)
  ·exact .inl h
  ·obtain⟨y,h1,h2⟩:=h.back
   refine .inr ⟨y,?_,?_⟩
   ·refine (tH hv.paired hx).2 ⟨?_,h1⟩
    rcases h2 with rfl|h2
    ·exact hw
    ·exact h2.mem hw
   ·rcases h2 with rfl|h2
    ·exact .inl rfl
    ·exact .inr h2
 ·rintro (h|⟨y,h1,h2⟩)
  ·exact .inl h
  ·exact .inr (h2.hb (.one ((tH hv.paired hx).1 h1).2))
theorem V4 {t:Tr} (hv:Vok t) {x y:Nat×Nat} (hx:x∈ids t) (hy:y∈jE t x):y∈ids t∧Hb t y x:=by
 obtain⟨h1,h2⟩:=(tH hv.paired hx).1 hy
 exact⟨h1,.one h2⟩
noncomputable def sndr (t:Tr) (x:Nat×Nat):Nat×Nat:=DB t 2 (uA t x).msg
noncomputable def rk (t:Tr) (x:Nat×Nat):Nat:=(ids t).countP fun z=>leB t z x
theorem vW {α:Type} {P Q:α→Bool}:∀{l:List α} {a:α},(∀x∈l,P x=true→Q x=true)→a∈l→P a=false→Q a=true→l.countP P<l.countP Q
 |[],a,_,h,_,_=>by simp at h
 |y::l,a,h,ha,h1,h2=>by
   have LJ:l.countP P≤l.countP Q:=List.countP_mono_left (fun x hx hp=>h x (by simp[hx]) hp)
   rw[List.countP_cons,List.countP_cons]
   rcases cz.1 ha with rfl|ha
   ·rw[h1,h2];simp;omega
   ·have ih:=vW (fun x hx=>h x (by simp[hx])) ha h1 h2
    have hy:=h y kS
    cases hP:P y
    ·simp;omega
    ·rw[hy hP];simp;omega
theorem rk_lt {t:Tr} (hv:Vok t) {x y:Nat×Nat} (hy:y∈ids t) (h:Hb t x y):rk t x<rk t y:=by
 unfold rk
 refine vW (a:=y) (fun z _ hz=>?_) hy ?_ (SO.2 (.refl y))
 ·rw[SO]at hz⊢;exact .inr (hz.hb h)
 ·rw[Bool.eq_false_iff]
  intro hz
  exact hv.acyc y hy ((SO.1 hz).hb h)
end Go.Proofs.YtmaokjojbjdpoaaGreatDoor
