/- Texts of one proof, laid together: G, H, D, T, F, FW, FN, FI, FP, FE, Q, B, MP, M, O, A, K, CP, VL, Y, V, RI, RD, OM, KP, PP, OA, FD, CT. No condition. -/
import Derived.Test.YtadnnjchehjbiaaGreatDoorT31
import Derived.WalkKit
import Derived.WalkSpells
import Derived.WalkLawsBesides
import Derived.Maps.AppendAt
import Derived.Deep.AppendLies
import Derived.Deep.Draws
import Derived.Deep.QuietTactic
import Derived.BigQuiet
import Derived.Deep.RegionWith
import Derived.Deep.RegionHeld3
import Derived.Deep.DeepFit
import Derived.Deep.DeepMust
import Derived.Deep.Slices
import Derived.ProofKit
import Derived.Lib.SmallJoins
import Derived.Test.YtadnnjchehjbiaaGreatDoorChecked
import Derived.RangeFuncNested
import Derived.RangeFuncBound
import Derived.RangeFuncCalls
import Derived.RangeFuncLeaves
import Derived.Shelf.Abstract
import Derived.Shelf.RegionOpen
import Derived.OwnWalkIn
import Derived.TacticsInMore
import Derived.LoopNIn
import Derived.LoopIn
import Derived.RangeFuncBox
import Derived.Laws.CopyRow
import Derived.Deep.RegionLaw
import Derived.KernelRfl
import Derived.Laws.MakeOwn
set_option linter.unusedSimpArgs false
set_option maxHeartbeats 4000000
set_option maxRecDepth 100000
namespace Go.Proofs.YtadnnjchehjbiaaGreatDoor
open Go.RowKit
set_option linter.unusedVariables false

@[irreducible] def Hx (p:Prop):Prop:=p
theorem zA {p:Prop} (h:p):Hx p:=by unfold Hx;exact h
theorem Hx.out {p:Prop} (h:Hx p):p:=by unfold Hx at h;exact h

def ZAn {α:Type} (P:α→Value→Prop) (u:Value):Prop:=∃k,P k u
theorem ZAn.mk {α:Type} {P:α→Value→Prop} {u:Value} (k:α) (h:P k u):ZAn P u:=⟨k,h⟩
def Rel2 {α:Type} (P:α→Value→Value→Prop) (t i:Value):Prop:=∃k,P k t i
theorem Rel2.mk {α:Type} {P:α→Value→Value→Prop} {t i:Value} (k:α) (h:P k t i):Rel2 P t i:=⟨k,h⟩

theorem ZBs {a b:Bool} (h:a=b):Ending.returned (.bool a)=.returned (.bool b):=by rw[h]
def Ext (w w':World):Prop:=Below w.heap.size w w'
theorem Ext.refl (w:World):Ext w w:=Below.refl _ _
theorem Ext.trans {a b c:World} (h:Ext a b) (k:Ext b c):Ext a c:=Below.trans h (Below.mono k h.size)
theorem Ext.alloc {a w:World} (h:Ext a w) (o:Obj):Ext a (w.alloc o):=Below.alloc h h.size o
theorem Ext.drew {a w:World} (h:Ext a w):Ext a w.drew:=Below.drew h
theorem Ext.drewN {a w:World} (h:Ext a w) (n:Nat):Ext a (w.drewN n):=⟨h.os,h.tape,h.output,h.size,h.block⟩
theorem Ext.setCell {a w:World} (h:Ext a w) {p:Addr} (hp:a.heap.size≤p.block) (u:Value):Ext a (w.setCell p u):=Below.setCell h hp u
theorem Ext.size {a w:World} (h:Ext a w):a.heap.size≤w.heap.size:=Below.size h
theorem Ext.cellAt {a w:World} (h:Ext a w) {b o:Nat} {v:Value} (hc:a.cell? ⟨b,o,none⟩=some v):w.cell? ⟨b,o,none⟩=some v:=
 (Below.cell (p:=⟨b,o,none⟩) h (World.block_lt_of_cell? a _ hc)).trans hc
theorem Ext.cells {a w:World} (h:Ext a w):∀b o,b<a.heap.size→w.cell? ⟨b,o,none⟩=a.cell? ⟨b,o,none⟩:=fun b o hb=>Below.cell (p:=⟨b,o,none⟩) h hb
theorem Ext.grown {a w w':World} {row:Option Nat} (h:Ext a w) (hg:w.grownBy w' row) (hr:∀k,row=some k→a.heap.size≤k):Ext a w':=Below.grown h hg h.size hr
theorem Ext.below {a w:World} (h:Ext a w):Below a.heap.size a w:=h
theorem kC {w:World} {b o:Nat} {v:Value} (h:w.cell? ⟨b,o,none⟩=some v):b<w.heap.size:=World.block_lt_of_cell? w _ h

section
variable {α β:Type}
def SlR (size:Nat) (R:World→Nat→Nat→α→Prop) (w:World) (v:Value) (xs:List α):Prop:=
 ∃A c,v=.slice A xs.length c∧xs.length≤c∧c≤maxLen∧(0<xs.length→∃b off,A=some ⟨b,off,none⟩∧∀(j:Nat) (x:α),xs[j]? = some x→R w b (off+j*size) x)

def AT (R:World→Nat→Nat→α→Prop):Prop:=∀w w' b o x,Ext w w'→R w b o x→R w' b o x
theorem SlR.ext {size:Nat} {R:World→Nat→Nat→α→Prop} (hR:AT R) {w w':World} {v:Value} {xs:List α} (h:SlR size R w v xs) (he:Ext w w'):SlR size R w' v xs:=by
 obtain⟨A,c,hv,hl,hm,hc⟩:=h
 refine⟨A,c,hv,hl,hm,fun h0=>?_⟩
 obtain⟨b,off,hA,hj⟩:=hc h0
 exact⟨b,off,hA,fun j x hx=>hR _ _ _ _ _ he (hj j x hx)⟩
theorem SlR.nil (size:Nat) (R:World→Nat→Nat→α→Prop) (w:World):SlR size R w (.slice none 0 0) []:=⟨none,0,rfl,by simp,by simp[maxLen],by simp⟩

def One (enc:α→Value) (w:World) (b o:Nat) (x:α):Prop:=w.cell? ⟨b,o,none⟩=some (enc x)
theorem One.keeps (enc:α→Value):AT (One enc):=fun _ _ _ _ _ he h=>Ext.cellAt he h
def Sl (enc:α→Value) (w:World) (v:Value) (xs:List α):Prop:=SlR 1 (One enc) w v xs
theorem Sl.ext {enc:α→Value} {w w':World} {v:Value} {xs:List α} (h:Sl enc w v xs) (he:Ext w w'):Sl enc w' v xs:=SlR.ext (One.keeps enc) h he
theorem Sl.nil (enc:α→Value) (w:World):Sl enc w (.slice none 0 0) []:=SlR.nil _ _ _
theorem Sl.form {enc:α→Value} {w:World} {v:Value} {xs:List α} (h:Sl enc w v xs):∃A c,v=.slice A xs.length c∧xs.length≤c∧c≤maxLen∧(0<xs.length→∃b off,A=some ⟨b,off,none⟩∧b<w.heap.size ∧
  ∀(j:Nat) (hj:j<xs.length),w.cell? ⟨b,off+j,none⟩=some (enc xs[j])):=by
 obtain⟨A,c,hv,hl,hm,hc⟩:=h
 refine⟨A,c,hv,hl,hm,fun h0=>?_⟩
 obtain⟨b,off,hA,hj⟩:=hc h0
 have uH:∀(j:Nat) (hj:j<xs.length),w.cell? ⟨b,off+j,none⟩=some (enc xs[j]):=fun j hj'=>by
  have:=hj j xs[j] (ae hj')
  rwa [iw]at this
 exact⟨b,off,hA,kC (uH 0 h0),uH⟩
theorem Sl.mk {enc:α→Value} {w:World} {A:Option Addr} {n c:Nat} {xs:List α} (hn:n=xs.length) (hl:n≤c) (hm:c≤maxLen)
  (h:0<n→∃b off,A=some ⟨b,off,none⟩∧∀(j:Nat) (hj:j<xs.length),w.cell? ⟨b,off+j,none⟩=some (enc xs[j])):Sl enc w (.slice A n c) xs:=by
 subst hn
 refine⟨A,c,rfl,hl,hm,fun h0=>?_⟩
 obtain⟨b,off,hA,hj⟩:=h h0
 refine⟨b,off,hA,fun j x hx=>?_⟩
 obtain⟨bB,rfl⟩:=aj.1 hx
 rw[iw]
 exact hj j bB
theorem Sl.take {enc:α→Value} {w:World} {A:Option Addr} {n c:Nat} {xs:List α} (h:Sl enc w (.slice A n c) xs) (k:Nat) (hk:k≤n):Sl enc w (.slice A k c) (xs.take k):=by
 obtain⟨A',c',hv,hl,hm,hc⟩:=h.form
 injection hv with hA hn hc';subst hA;subst hc';subst hn
 refine Sl.mk (by rw[bu];omega) oM hm (fun h0=>?_)
 obtain⟨b,off,hA,_,hj⟩:=hc oM
 exact⟨b,off,hA,fun j hj'=>by rw[List.getElem_take];exact hj j (by rw[bu]at hj';omega)⟩
theorem Sl.drop {enc:α→Value} {w:World} {A A':Option Addr} {n c:Nat} {xs:List α} (h:Sl enc w (.slice A n c) xs) (k:Nat) (hk:k≤n)
  (hA':∀b off,A=some ⟨b,off,none⟩→k<n→A'=some ⟨b,off+k,none⟩):Sl enc w (.slice A' (n-k) (c-k)) (xs.drop k):=by
 obtain⟨A0,c0,hv,hl,hm,hc⟩:=h.form
 injection hv with hA hn hc';subst hA;subst hc';subst hn
 refine Sl.mk (by rw[fp]) oM oM (fun h0=>?_)
 obtain⟨b,off,hA,_,hj⟩:=hc oM
 refine⟨b,off+k,hA' b off hA oM,fun j hj'=>?_⟩
 have bB:k+j<xs.length:=by rw[fp]at hj';omega
 rw[List.getElem_drop,da]
 exact hj (k+j) bB
end

def Own {α:Type} (enc:α→Value) (e:TypeId) (w:World) (B:Nat) (v:Value) (xs:List α):Prop:=w.ownsRow B e 1 v xs.length (xs.map enc)
def Grw (w:World) (v:Value) (w':World) (v':Value):Prop:=w.grownBy w' v.ownBlock∧∀k,v'.ownBlock=some k→v.ownBlock=some k∨w.heap.size≤k

section
variable {α:Type} {enc:α→Value} {e:TypeId} {w w':World} {B:Nat} {v v':Value} {xs:List α}
theorem Grw.refl (w:World) (v:Value):Grw w v w v:=⟨World.grownBy.refl _ _,fun _ h=>.inl h⟩
theorem Grw.trans {w2:World} {v2:Value} (h:Grw w v w' v') (k:Grw w' v' w2 v2):Grw w v w2 v2:=by
 refine⟨⟨k.1.os.trans h.1.os,k.1.tape.trans h.1.tape,k.1.output.trans h.1.output,ee h.1.size k.1.size,fun i hi YH=>?_⟩,fun i hi=>?_⟩
 ·rw[k.1.block i (fu hi h.1.size) ?_,h.1.block i hi YH]
  intro he
  rcases h.2 i he.symm with h'|h'
  ·exact YH h'.symm
  ·omega
 ·rcases k.2 i hi with h'|h'
  ·exact h.2 i h'
  ·exact .inr (ee h.1.size h')
theorem Grw.alloc (h:Grw w v w' v') (o:Obj):Grw w v (w'.alloc o) v':=
 h.trans ⟨World.grownBy_alloc _ _ _,fun _ hk=>.inl hk⟩
theorem Grw.drew (h:Grw w v w' v'):Grw w v w'.drew v':=⟨⟨h.1.os,h.1.tape,h.1.output,h.1.size,h.1.block⟩,h.2⟩
theorem Grw.below (h:Grw w v w' v') (hv:∀k,v.ownBlock=some k→B≤k) (hB:B≤w.heap.size):Below B w w':=(Below.refl B w).grown h.1 hB hv
theorem Grw.ext (h:Grw w v w' v') (hv:v.ownBlock=none):Ext w w':=Grw.below h (fun k hk=>by rw[hv]at hk;cases hk) (ah _)
theorem Own.lt (h:Own enc e w B v xs):∀k,v.ownBlock=some k→B≤k∧k<w.heap.size:=World.ownsRow.lt h
theorem Own.nil (enc:α→Value) (e:TypeId) (w:World) (B:Nat):Own enc e w B (.slice none 0 0) []:=World.ownsRow_nil _ _ _ _
theorem Own.alloc (h:Own enc e w B v xs) (o:Obj):Own enc e (w.alloc o) B v xs:=World.ownsRow.alloc h o
theorem Own.drew (h:Own enc e w B v xs):Own enc e w.drew B v xs:=h
theorem Own.drewN (h:Own enc e w B v xs) (n:Nat):Own enc e (w.drewN n) B v xs:=h
theorem Own.ext (h:Own enc e w B v xs) (he:Ext w w'):Own enc e w' B v xs:=
 World.ownsRow.kept (row:=none) h ⟨he.os,he.tape,he.output,he.size,fun k hk _=>he.block k hk⟩ (by cases v.ownBlock<;>simp)
theorem Own.kept (h:Own enc e w B v xs) {row:Option Nat} (hg:w.grownBy w' row) (YH:v.ownBlock=none∨v.ownBlock≠row):Own enc e w' B v xs:=World.ownsRow.kept h hg YH
theorem Own.mono {B':Nat} (h:Own enc e w B v xs) (hB:B'≤B):Own enc e w B' v xs:=by
 obtain⟨h1,h2⟩:=h
 refine⟨h1,?_⟩
 rcases h2 with h2|⟨g,cap,cur,hv,hb,rest⟩
 ·exact .inl h2
 ·exact .inr ⟨g,cap,cur,hv,ee hB hb,rest⟩
theorem Own.sl (h:Own enc e w B v xs):Sl enc w v xs:=by
 rcases h.2 with ⟨hv,hn⟩|⟨g,cap,cur,hv,hb,hg,hnc,sM,PN,ht⟩
 ·have hx:xs=[]:=cu hn
  subst hx;subst hv
  exact Sl.nil _ _
 ·subst hv
  refine Sl.mk rfl hnc sM (fun _=>⟨g,0,rfl,fun j hj=>?_⟩)
  have:=World.ownsRow.cells h (g:=g) rfl j (enc xs[j]) (by simp[ae hj])
  have e0:(⟨g,0,none⟩:Addr).add j=⟨g,0+j,none⟩:=by unfold Addr.add;split<;>simp_all
  rwa [e0]at this
theorem Own.form (h:Own enc e w B v xs):∃A c,v=.slice A xs.length c∧xs.length≤c∧c≤maxLen:=by
 obtain⟨A,c,hv,hl,hm,_⟩:=h.sl
 exact⟨A,c,hv,hl,hm⟩
theorem Own.made (w:World) (cs:Array Value) (hB:B≤w.heap.size) (hm:xs.length≤maxLen) (hc:cs=(xs.map enc).toArray) :
  Own enc e (w.alloc (.cells cs e)) B (.slice (some ⟨w.heap.size,0,none⟩) xs.length xs.length) xs:=by
 subst hc
 refine⟨by simp,.inr ⟨w.heap.size,xs.length,_,rfl,hB,heap_alloc_new w _,ah _,hm,by simp,?_⟩⟩
 rw[iw]
 exact cv kS
end

theorem Sl.made {α:Type} {enc:α→Value} (e:TypeId) (w:World) {cs:Array Value} {n:Nat} (xs:List α) (hn:n=xs.length) (hm:n≤maxLen) (hc:cs=(xs.map enc).toArray) :
  Sl enc (w.alloc (.cells cs e)) (.slice (some ⟨w.heap.size,0,none⟩) n n) xs:=by
 subst hn
 exact (Own.made (B:=0) w cs (an _) hm hc).sl

theorem Ext.more {a w w':World} (h:Ext a w) (k:Below a.heap.size w w'):Ext a w':=Below.trans h k
def byt (x:UInt8):Value:=.int .u8 (x.toNat:Int)
theorem Sl.drewN {α:Type} {enc:α→Value} {w:World} {v:Value} {xs:List α} (h:Sl enc w v xs) (n:Nat):Sl enc (w.drewN n) v xs:=h.ext ((Ext.refl w).drewN n)

section
variable {P:Program} {α:Type} {enc:α→Value} {w:World} {A:Option Addr} {n c:Nat} {xs:List α}
theorem Sl.len {v:Value} (h:Sl enc w v xs):∃A c,v=.slice A xs.length c:=by obtain⟨A,c,hv,_⟩:=h.form;exact⟨A,c,hv⟩
end
theorem i8 (n k:Nat) (kI:Int) (hk:kI=k) (h:n+k≤9223372036854775807):IntKind.i64.wrap ((n:Int)+kI)=(n:Int)+kI∧((n:Int)+kI).toNat=n+k∧0≤(n:Int)+kI:=by
 subst hk
 refine⟨?_,by omega,by omega⟩
 rw[IntKind.wrap_i64];omega
end Go.Proofs.YtadnnjchehjbiaaGreatDoor
namespace Go.Proofs.YtadnnjchehjbiaaGreatDoor
open Go.RowKit Go.ChangeShapes Go.WideShapes Go.Deep
set_option linter.unusedVariables false

theorem x7 {α:Type} {p:Nat→α→Prop}:∀n:Nat,(∀i,i<n→∃x,p i x)→∃xs:List α,xs.length=n∧∀(j:Nat) (x:α),xs[j]? = some x→p j x
 |0,_=>⟨[],rfl,fun j x h=>by simp at h⟩
 |n+1,h=>by
   obtain⟨xs,hl,hx⟩:=x7 n (fun i hi=>h i (kq hi))
   obtain⟨y,hy⟩:=h n (kr n)
   refine⟨xs++[y],by simp[hl],fun j x hj=>?_⟩
   rcases cq j n with bB|TK
   ·rw[aw oM]at hj;exact hx j x hj
   ·rw[au oM]at hj
    rcases Nat.eq_or_lt_of_le TK with he|hgt
    ·subst he
     rw[hl,fz]at hj
     simp at hj
     subst hj;exact hy
    ·rw[ce kT]at hj;cases hj

theorem D8 {w:World} {x:Addr} {v:Value} (h:w.cell? x=some v):x.spot=none:=by
 unfold World.cell? at h
 split at h
 ·split at h
  ·cases h
  ·rename_i hs;simpa using hs
 ·cases h

section
variable {α:Type}
def TRV (P:Program) (e:TypeId) (V:World→Value→α→Prop):Prop:=
 ∀(H:Type) (enc:TypeId×Value→H) (w:World) (base:Nat) (spare:Nat→Bool) (held:Bool) (fuel:Nat) (v:Value) (x:DataW H×List MemPlace),DataW.trod enc P w base spare held fuel e [v]=some x→∃y,V w v y
def TRR (P:Program) (e:TypeId) (size:Nat) (R:World→Nat→Nat→α→Prop):Prop:=
 ∀(H:Type) (enc:TypeId×Value→H) (w:World) (base:Nat) (spare:Nat→Bool) (held:Bool) (fuel:Nat) (b o:Nat) (cs:List Value) (x:DataW H×List MemPlace),cs.length=size →
  (∀j (hj:j<cs.length),w.cell? ⟨b,o+j,none⟩=some cs[j])→DataW.trod enc P w base spare held fuel e cs=some x→∃y,R w b o y
theorem TRV.mono {P:Program} {e:TypeId} {V V':World→Value→α→Prop} (h:TRV P e V) (hv:∀w v y,V w v y→V' w v y):TRV P e V':=
 fun H enc w base spare held fuel v x hx=>let ⟨y,hy⟩:=h H enc w base spare held fuel v x hx;⟨y,hv _ _ _ hy⟩
theorem TRV.cell {P:Program} {e:TypeId} {V:World→Value→α→Prop} (h:TRV P e V):TRR P e 1 (fun w b o y=>∃v,w.cell? ⟨b,o,none⟩=some v∧V w v y):=by
 intro H enc w base spare held fuel b o cs x hl hc hx
 match cs,hl with
 |[v],_ =>
   obtain⟨y,hy⟩:=h H enc w base spare held fuel v x hx
   exact⟨y,v,by simpa using hc 0 kS,hy⟩
theorem TRR.mono {P:Program} {e:TypeId} {size:Nat} {R R':World→Nat→Nat→α→Prop} (h:TRR P e size R) (hr:∀w b o y,R w b o y→R' w b o y):TRR P e size R':=
 fun H enc w base spare held fuel b o cs x hl hc hx=>let ⟨y,hy⟩:=h H enc w base spare held fuel b o cs x hl hc hx;⟨y,hr _ _ _ _ hy⟩
end

theorem SlR.mono {α:Type} {size:Nat} {R R':World→Nat→Nat→α→Prop} {w:World} {v:Value} {xs:List α} (h:SlR size R w v xs) (hr:∀b o y,R w b o y→R' w b o y):SlR size R' w v xs:=by
 obtain⟨A,c,hv,hl,hm,hc⟩:=h
 refine⟨A,c,hv,hl,hm,fun h0=>?_⟩
 obtain⟨b,off,hA,hj⟩:=hc h0
 exact⟨b,off,hA,fun j x hx=>hr _ _ _ (hj j x hx)⟩
end Go.Proofs.YtadnnjchehjbiaaGreatDoor
namespace Go.Proofs.YtadnnjchehjbiaaGreatDoor
open Go.RowKit
set_option linter.unusedVariables false

structure Asg where
 v:Int
 val:Int
structure Ev where
 kind:Int
 peer:Int
 msg:Int
 time:Int
 asg:List Asg
structure Vr where
 name:ByteArray
 init:Int
structure Pr where
 name:ByteArray
 vars:List Vr
 evs:List Ev
abbrev Tr:=List Pr

def RAsg (w:World) (b o:Nat) (x:Asg):Prop:=w.cell? ⟨b,o,none⟩=some (.int .i64 x.v)∧w.cell? ⟨b,o+1,none⟩=some (.int .i64 x.val)
def RVr (w:World) (b o:Nat) (x:Vr):Prop:=w.cell? ⟨b,o,none⟩=some (.string x.name)∧w.cell? ⟨b,o+1,none⟩=some (.int .i64 x.init)∧x.name.size≤maxLen
def REv (w:World) (b o:Nat) (x:Ev):Prop:=
 w.cell? ⟨b,o,none⟩=some (.int .i64 x.kind)∧w.cell? ⟨b,o+1,none⟩=some (.int .i64 x.peer)∧w.cell? ⟨b,o+2,none⟩=some (.int .i64 x.msg)∧w.cell? ⟨b,o+3,none⟩=some (.int .i64 x.time) ∧
  ∃v,w.cell? ⟨b,o+4,none⟩=some v∧SlR 2 RAsg w v x.asg
def RPr (w:World) (b o:Nat) (x:Pr):Prop:=
 (w.cell? ⟨b,o,none⟩=some (.string x.name)∧x.name.size≤maxLen)∧(∃v,w.cell? ⟨b,o+1,none⟩=some v∧SlR 2 RVr w v x.vars)∧∃v,w.cell? ⟨b,o+2,none⟩=some v∧SlR 5 REv w v x.evs
def VTr (w:World) (v:Value) (t:Tr):Prop:=∃u,v=.agg #[u]∧SlR 3 RPr w u t
theorem RAsg.keeps:AT RAsg:=fun _ _ _ _ _ he ⟨h1,h2⟩=>⟨he.cellAt h1,he.cellAt h2⟩
theorem RVr.keeps:AT RVr:=fun _ _ _ _ _ he ⟨h1,h2,h3⟩=>⟨he.cellAt h1,he.cellAt h2,h3⟩
theorem REv.keeps:AT REv:=fun _ _ _ _ _ he ⟨h1,h2,h3,h4,v,h5,h6⟩=>⟨he.cellAt h1,he.cellAt h2,he.cellAt h3,he.cellAt h4,v,he.cellAt h5,h6.ext RAsg.keeps he⟩
theorem RPr.keeps:AT RPr:=fun _ _ _ _ _ he ⟨⟨h1,h2⟩,⟨v,h3,h4⟩,u,h5,h6⟩=>⟨⟨he.cellAt h1,h2⟩,⟨v,he.cellAt h3,h4.ext RVr.keeps he⟩,u,he.cellAt h5,h6.ext REv.keeps he⟩
theorem VTr.ext {w w':World} {v:Value} {t:Tr} (h:VTr w v t) (he:Ext w w'):VTr w' v t:=by
 obtain⟨u,hv,hs⟩:=h
 exact⟨u,hv,hs.ext RPr.keeps he⟩

theorem SlR.at_ {α:Type} {size:Nat} {R:World→Nat→Nat→α→Prop} {w:World} {v:Value} {xs:List α} (h:SlR size R w v xs):∃A c,v=.slice A xs.length c∧xs.length≤c∧c≤maxLen∧(0<xs.length→∃b off,A=some ⟨b,off,none⟩∧∀(k:Nat) (hk:k<xs.length),R w b (off+k*size) xs[k]):=by
 obtain⟨A,c,hv,hl,hm,hc⟩:=h
 refine⟨A,c,hv,hl,hm,fun h0=>?_⟩
 obtain⟨b,off,hA,hj⟩:=hc h0
 exact⟨b,off,hA,fun k hk=>hj k _ (ae hk)⟩
end Go.Proofs.YtadnnjchehjbiaaGreatDoor
namespace Go.Proofs.YtadnnjchehjbiaaGreatDoor
set_option linter.unusedVariables false

def letterB (c:UInt8):Bool:=(decide ((97:Int)≤(c.toNat:Int))&&decide ((c.toNat:Int)≤122))||(decide ((65:Int)≤(c.toNat:Int))&&decide ((c.toNat:Int)≤90))
def digitB (c:UInt8):Bool:=decide ((48:Int)≤(c.toNat:Int))&&decide ((c.toNat:Int)≤57)
def KL (c:UInt8):Bool:=letterB c||digitB c||(c.toNat:Int)==95
def eW (l:List UInt8):Bool:=decide (1≤l.length)&&decide (l.length≤16)&&letterB (l.getD 0 0)&&l.all KL
def GE (s:ByteArray):Bool:=eW s.data.toList
def AN (n:Int):Bool:=decide (-1073741824≤n)&&decide (n≤1073741824)
def inB (x lo hi:Int):Bool:=decide (lo≤x)&&decide (x≤hi)

def YD (f:Nat→Nat):Nat→Nat
 |0=>0
 |n+1=>if YD f n=0 then f n else YD f n
theorem yH {f:Nat→Nat}:∀{n:Nat},YD f n=0↔∀i,i<n→f i=0
 |0=>by simp[YD]
 |n+1=>by
   rw[YD]
   split
   ·rename_i h
    have:=(yH (n:=n)).1 h
    constructor
    ·intro h2 i hi
     rcases jc.1 hi with h3|rfl
     ·exact this i h3
     ·exact h2
    ·intro h2;exact h2 n (kr n)
   ·rename_i h
    constructor
    ·intro h2;exact absurd h2 h
    ·intro h2;exact absurd ((yH (n:=n)).2 fun i hi=>h2 i (kq hi)) h
theorem tE {f:Nat→Nat} {k:Nat} (h0:YD f k=0) (hk:f k≠0):∀{n:Nat},k<n→YD f n=f k
 |0,h=>absurd h (gr _)
 |n+1,h=>by
   rcases jc.1 h with h1|rfl
   ·have:=tE h0 hk h1
    rw[YD,if_neg (by rw[this];exact hk),this]
   ·rw[YD,if_pos h0]
theorem gK {f:Nat→Nat} {k:Nat} (h0:YD f k=0) (hk:f k=0):YD f (k+1)=0:=by rw[YD,if_pos h0];exact hk

def xV:Vr:=⟨ByteArray.empty,0⟩
def ET:Asg:=⟨0,0⟩
def qK:Ev:=⟨0,0,0,0,[]⟩
def dfPr:Pr:=⟨ByteArray.empty,[],[]⟩

def dQ (vs:List Vr) (i:Nat):Nat:=
 if !GE (vs.getD i xV).name||(vs.take i).any (fun y=>y.name.toList==(vs.getD i xV).name.toList) then 13
 else if !AN (vs.getD i xV).init then 2 else 0
def gE (t:Tr) (p:Nat):Nat:=
 if !GE (t.getD p dfPr).name||(t.take p).any (fun y=>y.name.toList==(t.getD p dfPr).name.toList) then 13
 else if 8<(t.getD p dfPr).vars.length then 5
 else if YD (dQ (t.getD p dfPr).vars) (t.getD p dfPr).vars.length≠0 then YD (dQ (t.getD p dfPr).vars) (t.getD p dfPr).vars.length
 else if 64<(t.getD p dfPr).evs.length then 5 else 0

def vM (nv:Nat) (l:List Asg) (k:Nat):Nat:=
 if !(inB (l.getD k ET).v 0 ((nv:Int)-1))||!AN (l.getD k ET).val then 2
 else if (l.take k).any (fun b=>b.v==(l.getD k ET).v) then 8 else 0
def lC (np p:Nat) (e:Ev):Bool:=
 if e.kind==1 then e.peer==0&&e.msg==0
 else if e.kind==2||e.kind==3 then inB e.peer 0 ((np:Int)-1)&&e.peer != (p:Int)&&inB e.msg 0 199 else false
def sA (t:Tr) (p:Nat):List Ev:=(t.getD p dfPr).evs
def rA (t:Tr) (x:Nat×Nat):Ev:=(sA t x.1).getD (x.2-1) qK
def vO (t:Tr) (x:Nat×Nat):Int:=if 1<x.2 then ((sA t x.1).getD (x.2-2) qK).time else 0
def mE (t:Tr) (x:Nat×Nat):Nat:=
 if !lC t.length x.1 (rA t x) then 3
 else if !(inB (rA t x).time 0 1099511627776)||decide ((rA t x).time<vO t x) then 11
 else if 8<(rA t x).asg.length then 5
 else YD (vM (t.getD x.1 dfPr).vars.length (rA t x).asg) (rA t x).asg.length

def jN (t:Tr) (p:Nat):List (Nat×Nat):=(List.range (sA t p).length).map fun i=>(p,i+1)
def ids (t:Tr):List (Nat×Nat):=(List.range t.length).flatMap (jN t)

def TC (t:Tr) (kind msg:Int):Option (Nat×Nat):=(ids t).find? fun x=>(rA t x).kind==kind&&(rA t x).msg==msg
def zF (t:Tr) (p:Nat) (m:Int) (to:Int):Bool:=(sA t p).any fun e=>e.kind==2&&e.msg==m&&e.peer==to
def UF (t:Tr) (x:Nat×Nat):Nat:=
 if (rA t x).kind==2 then (if TC t 2 (rA t x).msg==some x then 0 else 8)
 else if (rA t x).kind==3 then
  (if TC t 3 (rA t x).msg==some x then (if zF t (rA t x).peer.toNat (rA t x).msg x.1 then 0 else 7) else 8)
 else 0

def Dir (t:Tr) (x y:Nat×Nat):Prop:=
 (y=(x.1,x.2+1)∧x.2<(sA t x.1).length)∨((rA t x).kind=2∧TC t 3 (rA t x).msg=some y)
inductive Hb (t:Tr):Nat×Nat→Nat×Nat→Prop
 |one {x y:Nat×Nat}:Dir t x y→Hb t x y
 |more {x y z:Nat×Nat}:Hb t x y→Dir t y z→Hb t x z

open Classical in
noncomputable def DF (t:Tr):(Nat×Nat)×Nat:=
 if t.length<1∨8<t.length then ((0,0),1)
 else match (List.range t.length).find? (fun p=>gE t p != 0) with
  |some p=>((p,0),gE t p)
  |none=>match (ids t).find? (fun x=>mE t x != 0) with
    |some x=>(x,mE t x)
    |none=>match (ids t).find? (fun x=>UF t x != 0) with
      |some x=>(x,UF t x)
      |none=>match (ids t).find? (fun x=>decide (Hb t x x)) with
        |some x=>(x,10)
        |none=>((0,0),0)
noncomputable def pD (t:Tr):Bool:=(DF t).2==0
open Go.RowKit

theorem DJ (x lo hi:Int) (w:World):Calls Tryz.prog 53 #[.int .i64 x,.int .i64 lo,.int .i64 hi] w fun e w'=>e=.returned (.bool (inB x lo hi))∧w=w':=by
 have hc:((decide (lo≤x))=false)∨((decide (lo≤x))=true∧(decide (x≤hi))=false)∨((decide (lo≤x))=true∧(decide (x≤hi))=true):=by
  cases hc0:(decide (lo≤x))<;>cases qL:(decide (x≤hi))<;>simp
 rcases hc with qL|⟨qL,Q5⟩|⟨qL,Q5⟩
 all_goals
  go_enter Tryz.func53,Tryz.ntmps53
  go_wp2
  all_goals
   go_ret
   exact⟨by simp[inB, *],rfl⟩

theorem QS (c:UInt8) (w:World):Calls Tryz.prog 131 #[byt c] w fun e w'=>e=.returned (.bool (letterB c))∧w=w':=by
 unfold byt
 have hc:((decide ((97:Int)≤(c.toNat:Int)))=true∧(decide ((c.toNat:Int)≤122))=true)∨((decide ((97:Int)≤(c.toNat:Int)))=false∧(decide ((65:Int)≤(c.toNat:Int)))=true∧(decide ((c.toNat:Int)≤90))=true)∨((decide ((97:Int)≤(c.toNat:Int)))=true∧(decide ((c.toNat:Int)≤122))=false∧(decide ((65:Int)≤(c.toNat:Int)))=true∧(decide ((c.toNat:Int)≤90))=true)∨((decide ((97:Int)≤(c.toNat:Int)))=false∧(decide ((65:Int)≤(c.toNat:Int)))=false)∨((decide ((97:Int)≤(c.toNat:Int)))=false∧(decide ((65:Int)≤(c.toNat:Int)))=true∧(decide ((c.toNat:Int)≤90))=false)∨((decide ((97:Int)≤(c.toNat:Int)))=true∧(decide ((c.toNat:Int)≤122))=false∧(decide ((65:Int)≤(c.toNat:Int)))=false)∨((decide ((97:Int)≤(c.toNat:Int)))=true∧(decide ((c.toNat:Int)≤122))=false∧(decide ((65:Int)≤(c.toNat:Int)))=true∧(decide ((c.toNat:Int)≤90))=false):=by
  cases hc0:(decide ((97:Int)≤(c.toNat:Int)))<;>cases qL:(decide ((c.toNat:Int)≤122))<;>cases Q5:(decide ((65:Int)≤(c.toNat:Int)))<;>cases J5:(decide ((c.toNat:Int)≤90))<;>simp
 rcases hc with ⟨qL,Q5⟩|⟨qL,Q5,J5⟩|⟨qL,Q5,J5,hc4⟩|⟨qL,Q5⟩|⟨qL,Q5,J5⟩|⟨qL,Q5,J5⟩|⟨qL,Q5,J5,hc4⟩
 all_goals
  go_enter Tryz.func131,Tryz.ntmps131
  go_wp2
  all_goals
   go_ret
   exact⟨by simp[letterB, *],rfl⟩

theorem ZAA (c:UInt8) (w:World):Calls Tryz.prog 132 #[byt c] w fun e w'=>e=.returned (.bool (digitB c))∧w=w':=by
 unfold byt
 have hc:((decide ((48:Int)≤(c.toNat:Int)))=false)∨((decide ((48:Int)≤(c.toNat:Int)))=true∧(decide ((c.toNat:Int)≤57))=false)∨((decide ((48:Int)≤(c.toNat:Int)))=true∧(decide ((c.toNat:Int)≤57))=true):=by
  cases hc0:(decide ((48:Int)≤(c.toNat:Int)))<;>cases qL:(decide ((c.toNat:Int)≤57))<;>simp
 rcases hc with qL|⟨qL,Q5⟩|⟨qL,Q5⟩
 all_goals
  go_enter Tryz.func132,Tryz.ntmps132
  go_wp2
  all_goals
   go_ret
   exact⟨by simp[digitB, *],rfl⟩


theorem cY (s:ByteArray) (k:Nat) (h:k<s.size):s.data.toList.getD k 0=s[k]:=by
 simp[List.getD,ae (show k<s.data.toList.length from h)];rfl
theorem ZBl (s:ByteArray) (k:Nat) (h:k<s.size):s.data.toList.take (k+1)=s.data.toList.take k++[s[k]]:=by
 rw[lh (by simpa using h)];rfl
theorem ZEa (s:ByteArray) (k:Nat) (h:k<s.size):s[k]∈s.data.toList:=by
 have:s[k]=s.data.toList[k]'(by simpa using h):=rfl
 rw[this];exact ap _
theorem H8 (s:ByteArray):s.toList.isEmpty=decide (s.size=0):=by
 rw[ByteArray.toList_eq]
 cases h:s.data.toList with
 | nil => have h2 : s.data.toList.length = 0 := by rw [h]; rfl
          have:s.size=0:=by simpa using h2
          simp[this]
 | cons a l => have h2 : s.data.toList.length = l.length + 1 := by rw [h]; rfl
               have:s.size=l.length+1:=by simpa using h2
               simp[this]
theorem DU {s:ByteArray} (h:¬(1≤s.size∧s.size≤16)):GE s=false:=by
 unfold GE eW
 have e:s.data.toList.length=s.size:=rfl
 rw[e]
 rcases cq s.size 1 with h1|h1
 ·rw[ak oM];simp
 ·rw[ag h1,ak oM];simp
theorem S1 {s:ByteArray} (h0:0<s.size) (h:letterB s[0]=false):GE s=false:=by
 unfold GE eW;rw[cY s 0 h0,h];simp
theorem P1 {s:ByteArray} {k:Nat} (hk:k<s.size) (h:KL s[k]=false):GE s=false:=by
 unfold GE eW
 have:s.data.toList.all KL=false:=by
  rw[gy]
  exact⟨_,ZEa s k hk,by rw[h];simp⟩
 rw[this];simp
theorem m9 {s:ByteArray} (h0:0<s.size) (h1:s.size≤16) (hl:letterB s[0]=true) (h:(s.data.toList.take s.size).all KL=true):GE s=true:=by
 unfold GE eW
 have e:s.data.toList.length=s.size:=rfl
 rw[cv (Nat.le_of_eq e)]at h
 rw[e,cY s 0 h0,hl,h,ag oM,ag h1];rfl
theorem YT {s:ByteArray} {k:Nat} (hk:k<s.size) (h:(s.data.toList.take k).all KL=true) (hc:KL s[k]=true):(s.data.toList.take (k+1)).all KL=true:=by
 rw[ZBl s k hk,List.all_append,h];simp[hc]
theorem YS (s:ByteArray) (w:World) (hm:s.size≤maxLen):Calls Tryz.prog 113 #[.string s] w fun e w'=>e=.returned (.bool (GE s))∧w=w':=by
 unfold maxLen at hm
 have he:=H8 s
 by_cases h0:0<s.size
 ·have he0:s.toList.isEmpty=false:=by rw[he,ak oM]
  have ZLI:decide ((s.size:Int)<1)=false:=by simp;omega
  clear he
  by_cases h16:s.size≤16
  ·have hd:decide ((16:Int)<(s.size:Int))=false:=by simp;omega
   have HL:=zA (fun w=>QS s[0] w)
   cases hl:letterB s[0]
   ·rw[hl]at HL
    have E:=zA (S1 h0 hl)
    clear hl
    go_enter Tryz.func113,Tryz.ntmps113
    go_wp2_with fail
    refine (HL.out _).mono ?_
    rintro e w1 ⟨rfl,rfl⟩
    go_wp2_with fail
    go_ret
    exact⟨by rw[E.out];rfl,rfl⟩
   ·rw[hl]at HL
    have HL0:=zA hl
    go_enter Tryz.func113,Tryz.ntmps113
    go_wp2_with fail
    refine (HL.out _).mono ?_
    rintro e w1 ⟨rfl,rfl⟩
    clear hl
    go_wp2_with fail
    go_loop [19] (ZAn fun (k:Nat) i=>k≤s.size∧i=.int .i64 k∧(s.data.toList.take k).all KL=true) (fun i=>s.size-(intOf i).toNat)
    case atStart=>exact ZAn.mk 0 ⟨an _,rfl,rfl⟩
    case round =>
     obtain⟨k,hk,rfl,uH⟩:=hrel
     have HALL:=zA uH
     clear uH
     by_cases bB:k<s.size
     ·have H1:=zA (fun w=>QS s[k] w)
      have H2:=zA (fun w=>ZAA s[k] w)
      have hc:(Hx (letterB s[k]=true)∧Hx (KL s[k]=true))∨(Hx (letterB s[k]=false)∧Hx (digitB s[k]=true)∧Hx (KL s[k]=true))∨(Hx (letterB s[k]=false)∧Hx (digitB s[k]=false)∧(((s[k].toNat:Int) != 95))=false∧Hx (KL s[k]=true))∨(Hx (letterB s[k]=false)∧Hx (digitB s[k]=false)∧(((s[k].toNat:Int) != 95))=true∧Hx (KL s[k]=false)):=by
       unfold Hx KL
       cases letterB s[k]<;>cases digitB s[k]<;>cases hz:((s[k].toNat:Int) != 95)<;>simp_all
      rcases hc with ⟨q0,qr⟩|⟨q0,q1,qr⟩|⟨q0,q1,q2,qr⟩|⟨q0,q1,q2,qr⟩
      ·go_wp2_with fail
       refine (H1.out _).mono ?_
       rintro e w1 ⟨rfl,rfl⟩
       rw[q0.out]
       go_wp2_with fail
       go_round
       case rel=>exact ZAn.mk (k+1) ⟨bB,by go_num,YT bB HALL.out qr.out⟩
       case measure=>simp[intOf];omega
      ·go_wp2_with fail
       refine (H1.out _).mono ?_
       rintro e w1 ⟨rfl,rfl⟩
       rw[q0.out]
       go_wp2_with fail
       refine (H2.out _).mono ?_
       rintro e w1 ⟨rfl,rfl⟩
       rw[q1.out]
       go_wp2_with fail
       go_round
       case rel=>exact ZAn.mk (k+1) ⟨bB,by go_num,YT bB HALL.out qr.out⟩
       case measure=>simp[intOf];omega
      ·go_wp2_with fail
       refine (H1.out _).mono ?_
       rintro e w1 ⟨rfl,rfl⟩
       rw[q0.out]
       go_wp2_with fail
       refine (H2.out _).mono ?_
       rintro e w1 ⟨rfl,rfl⟩
       rw[q1.out]
       go_wp2_with fail
       go_round
       case rel=>exact ZAn.mk (k+1) ⟨bB,by go_num,YT bB HALL.out qr.out⟩
       case measure=>simp[intOf];omega
      ·go_wp2_with fail
       refine (H1.out _).mono ?_
       rintro e w1 ⟨rfl,rfl⟩
       rw[q0.out]
       go_wp2_with fail
       refine (H2.out _).mono ?_
       rintro e w1 ⟨rfl,rfl⟩
       rw[q1.out]
       go_wp2_with fail
       go_ret
       exact⟨by rw[P1 bB qr.out];rfl,rfl⟩
     ·obtain rfl:k=s.size:=by omega
      have E:=zA (m9 h0 h16 HL0.out HALL.out)
      go_wp2_with fail
      go_ret
      exact⟨by rw[E.out];rfl,rfl⟩
  ·have hd:decide ((16:Int)<(s.size:Int))=true:=by simp;omega
   have E:=zA (DU (s:=s) oM)
   go_enter Tryz.func113,Tryz.ntmps113
   go_wp2_with fail
   go_ret
   exact⟨by rw[E.out];rfl,rfl⟩
 ·have he0:s.toList.isEmpty=true:=by rw[he,ag oM]
  have ZLI:decide ((s.size:Int)<1)=true:=by simp;omega
  clear he
  have E:=zA (DU (s:=s) oM)
  go_enter Tryz.func113,Tryz.ntmps113
  go_wp2_with fail
  go_ret
  exact⟨by rw[E.out];rfl,rfl⟩


def UU (P:Nat→Bool):Nat→Int
 |0=>-1
 |n+1=>if UU P n=-1 then (if P n then (n:Int) else -1) else UU P n
theorem LH {P:Nat→Bool}:∀{n:Nat},(∀j,j<n→P j=false)→UU P n=-1
 |0,_=>rfl
 |n+1,h=>by rw[UU,if_pos (LH fun j hj=>h j (kq hj)),h n (kr n)];rfl
theorem EJ {P:Nat→Bool} {k:Nat} (h0:∀j,j<k→P j=false) (hk:P k=true):∀{n:Nat},k<n→UU P n=k
 |0,h=>absurd h (gr _)
 |n+1,h=>by
   rcases jc.1 h with h1|rfl
   ·have:=EJ h0 hk h1
    rw[UU,if_neg (by rw[this];omega),this]
   ·rw[UU,if_pos (LH h0),hk];rfl
def qU (P:Nat→Bool) (n:Nat):Bool:=(List.range n).any P
theorem least (P:Nat→Bool):∀n:Nat,(∀j,j<n→P j=false)∨∃k,k<n∧P k=true∧∀j,j<k→P j=false
 |0=>.inl fun j hj=>absurd hj (gr _)
 |n+1=>by
   rcases least P n with h|⟨k,hk,hp,h0⟩
   ·cases hn:P n
    ·exact .inl fun j hj=>by
      rcases jc.1 hj with h1|rfl
      ·exact h j h1
      ·exact hn
    ·exact .inr ⟨n,kr n,hn,h⟩
   ·exact .inr ⟨k,kq hk,hp,h0⟩
theorem lK {P:Nat→Bool} {k:Nat} (h:∀j,j<k→P j=false) (hk:P k=false):∀j,j<k+1→P j=false:=fun j hj=>by
 rcases jc.1 hj with h1|rfl
 ·exact h j h1
 ·exact hk
theorem ZAI {P:Nat→Bool} {n:Nat} (h:∀j,j<n→P j=false):qU P n=false:=by
 unfold qU;rw[gz]
 intro j hj
 rw[h j (bc.1 hj)];simp
theorem ZCh {P:Nat→Bool} {n k:Nat} (hk:k<n) (hp:P k=true):qU P n=true:=by
 unfold qU;rw[ga]
 exact⟨k,bc.2 hk,hp⟩
theorem GO (P:Nat→Bool) (n:Nat):decide (0≤UU P n)=qU P n:=by
 rcases least P n with h|⟨k,hk,hp,h0⟩
 ·rw[LH h,ZAI h];rfl
 ·rw[EJ h0 hp hk,ZCh hk hp];simp

def XX (P:Nat→Bool) (n:Nat) (w:World) (i:Value) (wr:World):Prop:=∃k:Nat,k≤n∧i=.int .i64 k∧(∀j,j<k→P j=false)∧Ext w wr

theorem lT (v:Value) (xs:List Pr) (F:Nat) (caps:Array Value) (P:Nat→Bool) (w:World) (hl:xs.length≤1000000) (hs:SlR 3 RPr w v xs)
  (hcf:∀(args:Array Value) (w:World),(callFunc F args).run Tryz.prog w=.ok (.enter F args) w)
  (hF:∀(k:Nat) (hk:k<xs.length) (v1 v2:Value) (w':World),Ext w w'→Calls Tryz.prog F (#[.agg #[.string xs[k].name,v1,v2]]++caps) w' fun e w''=>e=.returned (.bool (P k))∧Ext w' w'') :
  Calls Tryz.prog 133 #[v,.func (.func F) #[] caps] w fun e w'=>e=.returned (.int .i64 (UU P xs.length))∧Ext w w':=by
 obtain⟨A,c,rfl,_,_,hc⟩:=hs.at_
 clear hs
 have HF:=zA hF
 clear hF
 go_enter Tryz.func133,Tryz.ntmps133
 go_wp2_with fail
 go_loopw [8] (XX P xs.length w) (fun i _=>xs.length-(intOf i).toNat)
 case atStart=>exact⟨0,an _,rfl,fun j hj=>absurd hj (gr _),Ext.refl _⟩
 case round =>
  obtain⟨k,hk,rfl,DO,UE⟩:=hrel
  have HN:=zA DO
  clear DO
  by_cases bB:k<xs.length
  ·obtain⟨b,off,rfl,vJ⟩:=hc oM
   obtain⟨⟨c0,_⟩,⟨v1,c1,_⟩,v2,c2,_⟩:=RPr.keeps _ _ _ _ _ UE (vJ k bB)
   clear vJ hc
   go_wp2_with fail
   refine (HF.out k bB v1 v2 _ ?_).mono ?_
   ·(repeat (first|exact Ext.refl _|assumption|apply Ext.alloc|apply Ext.drew|apply Ext.drewN|(refine Ext.trans ?_ aS)))
   rintro e w1 ⟨rfl,iH⟩
   cases V5:P k
   ·go_wp2_with fail
    go_roundw
    case rel=>exact⟨k+1,bB,by go_num,lK HN.out V5,UE.trans iH⟩
    case measure=>simp[intOf];omega
   ·go_wp2_with fail
    go_ret
    exact⟨by rw[EJ HN.out V5 bB];rfl,UE.trans iH⟩
  ·have hkn:k=xs.length:=by omega
   subst hkn
   go_wp2_with fail
   go_ret
   exact⟨by rw[LH HN.out];rfl,UE⟩
theorem JP (v:Value) (xs:List Pr) (F:Nat) (caps:Array Value) (P:Nat→Bool) (w:World) (hl:xs.length≤1000000) (hs:SlR 3 RPr w v xs)
  (hcf:∀(args:Array Value) (w:World),(callFunc F args).run Tryz.prog w=.ok (.enter F args) w)
  (hF:∀(k:Nat) (hk:k<xs.length) (v1 v2:Value) (w':World),Ext w w'→Calls Tryz.prog F (#[.agg #[.string xs[k].name,v1,v2]]++caps) w' fun e w''=>e=.returned (.bool (P k))∧Ext w' w'') :
  Calls Tryz.prog 114 #[v,.func (.func F) #[] caps] w fun e w'=>e=.returned (.bool (qU P xs.length))∧Ext w w':=by
 have HI:=zA (lT v xs F caps P w hl hs hcf hF)
 have HD:=zA (GO P xs.length)
 clear hF hs hcf
 go_enter Tryz.func114,Tryz.ntmps114
 go_wp2_with fail
 refine HI.out.mono ?_
 rintro e w1 ⟨rfl,he⟩
 go_wp2_with fail
 go_ret
 exact⟨by rw[HD.out];rfl,he⟩
theorem RV (v:Value) (xs:List Vr) (F:Nat) (caps:Array Value) (P:Nat→Bool) (w:World) (hl:xs.length≤1000000) (hs:SlR 2 RVr w v xs)
  (hcf:∀(args:Array Value) (w:World),(callFunc F args).run Tryz.prog w=.ok (.enter F args) w)
  (hF:∀(k:Nat) (hk:k<xs.length) (w':World),Ext w w'→Calls Tryz.prog F (#[.agg #[.string xs[k].name,.int .i64 xs[k].init]]++caps) w' fun e w''=>e=.returned (.bool (P k))∧Ext w' w'') :
  Calls Tryz.prog 134 #[v,.func (.func F) #[] caps] w fun e w'=>e=.returned (.int .i64 (UU P xs.length))∧Ext w w':=by
 obtain⟨A,c,rfl,_,_,hc⟩:=hs.at_
 clear hs
 have HF:=zA hF
 clear hF
 go_enter Tryz.func134,Tryz.ntmps134
 go_wp2_with fail
 go_loopw [8] (XX P xs.length w) (fun i _=>xs.length-(intOf i).toNat)
 case atStart=>exact⟨0,an _,rfl,fun j hj=>absurd hj (gr _),Ext.refl _⟩
 case round =>
  obtain⟨k,hk,rfl,DO,UE⟩:=hrel
  have HN:=zA DO
  clear DO
  by_cases bB:k<xs.length
  ·obtain⟨b,off,rfl,vJ⟩:=hc oM
   obtain⟨c0,c1,_⟩:=RVr.keeps _ _ _ _ _ UE (vJ k bB)
   clear vJ hc
   go_wp2_with fail
   refine (HF.out k bB  _ ?_).mono ?_
   ·(repeat (first|exact Ext.refl _|assumption|apply Ext.alloc|apply Ext.drew|apply Ext.drewN|(refine Ext.trans ?_ aS)))
   rintro e w1 ⟨rfl,iH⟩
   cases V5:P k
   ·go_wp2_with fail
    go_roundw
    case rel=>exact⟨k+1,bB,by go_num,lK HN.out V5,UE.trans iH⟩
    case measure=>simp[intOf];omega
   ·go_wp2_with fail
    go_ret
    exact⟨by rw[EJ HN.out V5 bB];rfl,UE.trans iH⟩
  ·have hkn:k=xs.length:=by omega
   subst hkn
   go_wp2_with fail
   go_ret
   exact⟨by rw[LH HN.out];rfl,UE⟩
theorem lQ (v:Value) (xs:List Vr) (F:Nat) (caps:Array Value) (P:Nat→Bool) (w:World) (hl:xs.length≤1000000) (hs:SlR 2 RVr w v xs)
  (hcf:∀(args:Array Value) (w:World),(callFunc F args).run Tryz.prog w=.ok (.enter F args) w)
  (hF:∀(k:Nat) (hk:k<xs.length) (w':World),Ext w w'→Calls Tryz.prog F (#[.agg #[.string xs[k].name,.int .i64 xs[k].init]]++caps) w' fun e w''=>e=.returned (.bool (P k))∧Ext w' w'') :
  Calls Tryz.prog 116 #[v,.func (.func F) #[] caps] w fun e w'=>e=.returned (.bool (qU P xs.length))∧Ext w w':=by
 have HI:=zA (RV v xs F caps P w hl hs hcf hF)
 have HD:=zA (GO P xs.length)
 clear hF hs hcf
 go_enter Tryz.func116,Tryz.ntmps116
 go_wp2_with fail
 refine HI.out.mono ?_
 rintro e w1 ⟨rfl,he⟩
 go_wp2_with fail
 go_ret
 exact⟨by rw[HD.out];rfl,he⟩
theorem mQ (v:Value) (xs:List Asg) (F:Nat) (caps:Array Value) (P:Nat→Bool) (w:World) (hl:xs.length≤1000000) (hs:SlR 2 RAsg w v xs)
  (hcf:∀(args:Array Value) (w:World),(callFunc F args).run Tryz.prog w=.ok (.enter F args) w)
  (hF:∀(k:Nat) (hk:k<xs.length) (w':World),Ext w w'→Calls Tryz.prog F (#[.agg #[.int .i64 xs[k].v,.int .i64 xs[k].val]]++caps) w' fun e w''=>e=.returned (.bool (P k))∧Ext w' w'') :
  Calls Tryz.prog 135 #[v,.func (.func F) #[] caps] w fun e w'=>e=.returned (.int .i64 (UU P xs.length))∧Ext w w':=by
 obtain⟨A,c,rfl,_,_,hc⟩:=hs.at_
 clear hs
 have HF:=zA hF
 clear hF
 go_enter Tryz.func135,Tryz.ntmps135
 go_wp2_with fail
 go_loopw [8] (XX P xs.length w) (fun i _=>xs.length-(intOf i).toNat)
 case atStart=>exact⟨0,an _,rfl,fun j hj=>absurd hj (gr _),Ext.refl _⟩
 case round =>
  obtain⟨k,hk,rfl,DO,UE⟩:=hrel
  have HN:=zA DO
  clear DO
  by_cases bB:k<xs.length
  ·obtain⟨b,off,rfl,vJ⟩:=hc oM
   obtain⟨c0,c1⟩:=RAsg.keeps _ _ _ _ _ UE (vJ k bB)
   clear vJ hc
   go_wp2_with fail
   refine (HF.out k bB  _ ?_).mono ?_
   ·(repeat (first|exact Ext.refl _|assumption|apply Ext.alloc|apply Ext.drew|apply Ext.drewN|(refine Ext.trans ?_ aS)))
   rintro e w1 ⟨rfl,iH⟩
   cases V5:P k
   ·go_wp2_with fail
    go_roundw
    case rel=>exact⟨k+1,bB,by go_num,lK HN.out V5,UE.trans iH⟩
    case measure=>simp[intOf];omega
   ·go_wp2_with fail
    go_ret
    exact⟨by rw[EJ HN.out V5 bB];rfl,UE.trans iH⟩
  ·have hkn:k=xs.length:=by omega
   subst hkn
   go_wp2_with fail
   go_ret
   exact⟨by rw[LH HN.out];rfl,UE⟩
theorem wN (v:Value) (xs:List Asg) (F:Nat) (caps:Array Value) (P:Nat→Bool) (w:World) (hl:xs.length≤1000000) (hs:SlR 2 RAsg w v xs)
  (hcf:∀(args:Array Value) (w:World),(callFunc F args).run Tryz.prog w=.ok (.enter F args) w)
  (hF:∀(k:Nat) (hk:k<xs.length) (w':World),Ext w w'→Calls Tryz.prog F (#[.agg #[.int .i64 xs[k].v,.int .i64 xs[k].val]]++caps) w' fun e w''=>e=.returned (.bool (P k))∧Ext w' w'') :
  Calls Tryz.prog 119 #[v,.func (.func F) #[] caps] w fun e w'=>e=.returned (.bool (qU P xs.length))∧Ext w w':=by
 have HI:=zA (mQ v xs F caps P w hl hs hcf hF)
 have HD:=zA (GO P xs.length)
 clear hF hs hcf
 go_enter Tryz.func119,Tryz.ntmps119
 go_wp2_with fail
 refine HI.out.mono ?_
 rintro e w1 ⟨rfl,he⟩
 go_wp2_with fail
 go_ret
 exact⟨by rw[HD.out];rfl,he⟩
theorem YR (v:Value) (xs:List Ev) (F:Nat) (caps:Array Value) (P:Nat→Bool) (w:World) (hl:xs.length≤1000000) (hs:SlR 5 REv w v xs)
  (hcf:∀(args:Array Value) (w:World),(callFunc F args).run Tryz.prog w=.ok (.enter F args) w)
  (hF:∀(k:Nat) (hk:k<xs.length) (v1:Value) (w':World),Ext w w'→Calls Tryz.prog F (#[.agg #[.int .i64 xs[k].kind,.int .i64 xs[k].peer,.int .i64 xs[k].msg,.int .i64 xs[k].time,v1]]++caps) w' fun e w''=>e=.returned (.bool (P k))∧Ext w' w'') :
  Calls Tryz.prog 136 #[v,.func (.func F) #[] caps] w fun e w'=>e=.returned (.int .i64 (UU P xs.length))∧Ext w w':=by
 obtain⟨A,c,rfl,_,_,hc⟩:=hs.at_
 clear hs
 have HF:=zA hF
 clear hF
 go_enter Tryz.func136,Tryz.ntmps136
 go_wp2_with fail
 go_loopw [8] (XX P xs.length w) (fun i _=>xs.length-(intOf i).toNat)
 case atStart=>exact⟨0,an _,rfl,fun j hj=>absurd hj (gr _),Ext.refl _⟩
 case round =>
  obtain⟨k,hk,rfl,DO,UE⟩:=hrel
  have HN:=zA DO
  clear DO
  by_cases bB:k<xs.length
  ·obtain⟨b,off,rfl,vJ⟩:=hc oM
   obtain⟨c0,c1,c2,c3,v1,c4,_⟩:=REv.keeps _ _ _ _ _ UE (vJ k bB)
   clear vJ hc
   go_wp2_with fail
   refine (HF.out k bB v1 _ ?_).mono ?_
   ·(repeat (first|exact Ext.refl _|assumption|apply Ext.alloc|apply Ext.drew|apply Ext.drewN|(refine Ext.trans ?_ aS)))
   rintro e w1 ⟨rfl,iH⟩
   cases V5:P k
   ·go_wp2_with fail
    go_roundw
    case rel=>exact⟨k+1,bB,by go_num,lK HN.out V5,UE.trans iH⟩
    case measure=>simp[intOf];omega
   ·go_wp2_with fail
    go_ret
    exact⟨by rw[EJ HN.out V5 bB];rfl,UE.trans iH⟩
  ·have hkn:k=xs.length:=by omega
   subst hkn
   go_wp2_with fail
   go_ret
   exact⟨by rw[LH HN.out];rfl,UE⟩
theorem TN (v:Value) (xs:List Ev) (F:Nat) (caps:Array Value) (P:Nat→Bool) (w:World) (hl:xs.length≤1000000) (hs:SlR 5 REv w v xs)
  (hcf:∀(args:Array Value) (w:World),(callFunc F args).run Tryz.prog w=.ok (.enter F args) w)
  (hF:∀(k:Nat) (hk:k<xs.length) (v1:Value) (w':World),Ext w w'→Calls Tryz.prog F (#[.agg #[.int .i64 xs[k].kind,.int .i64 xs[k].peer,.int .i64 xs[k].msg,.int .i64 xs[k].time,v1]]++caps) w' fun e w''=>e=.returned (.bool (P k))∧Ext w' w'') :
  Calls Tryz.prog 122 #[v,.func (.func F) #[] caps] w fun e w'=>e=.returned (.bool (qU P xs.length))∧Ext w w':=by
 have HI:=zA (YR v xs F caps P w hl hs hcf hF)
 have HD:=zA (GO P xs.length)
 clear hF hs hcf
 go_enter Tryz.func122,Tryz.ntmps122
 go_wp2_with fail
 refine HI.out.mono ?_
 rintro e w1 ⟨rfl,he⟩
 go_wp2_with fail
 go_ret
 exact⟨by rw[HD.out];rfl,he⟩

theorem XD {P:Program} {f:FuncId} {fn:Func} {c:Code} (hf:P.funcs[f]? = some fn) (wU:(fn.name == "runtime.NumGoroutine")=false) (hb:fn.body=some c) (args:Array Value) (w:World) :
  (callFunc f args).run P w=.ok (.enter f args) w:=by
 have h1:fn.name≠ "runtime.NumGoroutine":=by simpa using wU
 simp[callFunc,hf,h1,hb]
theorem cf_p1 (args:Array Value) (w:World):(callFunc 115 args).run Tryz.prog w=.ok (.enter 115 args) w:=
 XD Tryz.func115 kE rfl args w
theorem cf_p2 (args:Array Value) (w:World):(callFunc 117 args).run Tryz.prog w=.ok (.enter 117 args) w:=
 XD Tryz.func117 kE rfl args w
theorem ZHZ (a b:ByteArray) (v1 v2:Value) (bk:Nat) (w:World) (hx:w.cell? ⟨bk,0,none⟩=some (.string b)) :
  Calls Tryz.prog 115 #[.agg #[.string a,v1,v2],.pointer (some ⟨bk,0,none⟩)] w fun e w'=>e=.returned (.bool (a.toList==b.toList))∧Ext w w':=by
 have bB:=kC hx
 go_enter Tryz.func115,Tryz.ntmps115
 go_wp2_with fail
 go_ret
 exact⟨rfl,(Ext.refl w).alloc _⟩
theorem ZHY (a b:ByteArray) (v1:Value) (bk:Nat) (w:World) (hx:w.cell? ⟨bk,0,none⟩=some (.string b)) :
  Calls Tryz.prog 117 #[.agg #[.string a,v1],.pointer (some ⟨bk,0,none⟩)] w fun e w'=>e=.returned (.bool (a.toList==b.toList))∧Ext w w':=by
 have bB:=kC hx
 go_enter Tryz.func117,Tryz.ntmps117
 go_wp2_with fail
 go_ret
 exact⟨rfl,(Ext.refl w).alloc _⟩
theorem ZBi {α:Type} (d:α) (f:α→Bool) (l:List α) (p:Nat) (hp:p≤l.length):(l.take p).any f=qU (fun k=>f (l.getD k d)) p:=by
 unfold qU
 rw[jd,ga,ga]
 constructor
 ·rintro⟨x,hx,hf⟩
  obtain⟨k,hk,he⟩:=List.mem_take_iff_getElem.1 hx
  refine⟨k,bc.2 oM,?_⟩
  rw[show l.getD k d=x by rw[aq,ae oM,he];rfl]
  exact hf
 ·rintro⟨k,hk,hf⟩
  have hk:=bc.1 hk
  refine⟨l.getD k d,?_,hf⟩
  rw[List.mem_take_iff_getElem]
  exact⟨k,by omega,by rw[aq,ae oM];rfl⟩

theorem UH (w:World) (cs:Array Value) (e:TypeId) {g j:Nat} {v:Value} (hg:g=w.heap.size) (h:cs[j]? = some v):(w.alloc (.cells cs e)).cell? ⟨g,j,none⟩=some v:=by
 have h0:(w.alloc (.cells cs e)).heap[w.heap.size]? = some (.cells cs e):=heap_alloc_new w _
 subst hg
 unfold World.cell?
 rw[h0]
 exact h
theorem WO {α:Type} (d:α) (f:α→Bool) (l:List α):l.any f=qU (fun k=>f (l.getD k d)) l.length:=by
 have:=ZBi d f l l.length (ah _)
 rwa [cv (ah _)]at this
theorem SC {α:Type} (d:α) (l:List α) {k:Nat} (h:k<l.length):l.getD k d=l[k]:=by
 rw[aq,ae h];rfl
theorem SlR.take {α:Type} {size:Nat} {R:World→Nat→Nat→α→Prop} {w:World} {A:Option Addr} {n c:Nat} {xs:List α} (h:SlR size R w (.slice A n c) xs) (k:Nat) (hk:k≤n):SlR size R w (.slice A k c) (xs.take k):=by
 obtain⟨A',c',hv,h1,h2,h3⟩:=h
 injection hv with e1 e2 e3
 subst e1;subst e3;subst e2
 have hl:(xs.take k).length=k:=by rw[bu];omega
 refine⟨A,c,by rw[hl],by omega,h2,fun h0=>?_⟩
 obtain⟨b,off,hA,hj⟩:=h3 oM
 exact⟨b,off,hA,fun j x hx=>hj j x (by
  rw[cw]at hx
  split at hx
  ·exact hx
  ·cases hx)⟩
theorem ZCU (v:Value) (xs:List Pr) (s:ByteArray) (bk:Nat) (w:World) (hl:xs.length≤1000000) (hs:SlR 3 RPr w v xs) (hx:w.cell? ⟨bk,0,none⟩=some (.string s)) :
  Calls Tryz.prog 114 #[v,.func (.func 115) #[] #[.pointer (some ⟨bk,0,none⟩)]] w fun e w'=>e=.returned (.bool (xs.any fun y=>y.name.toList==s.toList))∧Ext w w':=by
 rw[WO dfPr]
 refine JP v xs _ _ _ w hl hs cf_p1 fun k hk v1 v2 w' he=>?_
 simp only[SC dfPr xs hk]
 exact ZHZ _ s v1 v2 bk w' (he.cellAt hx)
theorem ZF1 (v:Value) (xs:List Vr) (s:ByteArray) (bk:Nat) (w:World) (hl:xs.length≤1000000) (hs:SlR 2 RVr w v xs) (hx:w.cell? ⟨bk,0,none⟩=some (.string s)) :
  Calls Tryz.prog 116 #[v,.func (.func 117) #[] #[.pointer (some ⟨bk,0,none⟩)]] w fun e w'=>e=.returned (.bool (xs.any fun y=>y.name.toList==s.toList))∧Ext w w':=by
 rw[WO xV]
 refine lQ v xs _ _ _ w hl hs cf_p2 fun k hk w' he=>?_
 simp only[SC xV xs hk]
 exact ZHY _ s _ bk w' (he.cellAt hx)
theorem pO (t:Tr) (p:Nat) (hp:p<t.length):gE t p=if !GE t[p].name||(t.take p).any (fun y=>y.name.toList==t[p].name.toList) then 13
 else if 8<t[p].vars.length then 5
 else if YD (dQ t[p].vars) t[p].vars.length≠0 then YD (dQ t[p].vars) t[p].vars.length
 else if 64<t[p].evs.length then 5 else 0:=by
 unfold gE;rw[SC dfPr t hp]
theorem ZE0 (vs:List Vr) (i:Nat) (hi:i<vs.length):dQ vs i=if !GE vs[i].name||(vs.take i).any (fun y=>y.name.toList==vs[i].name.toList) then 13
 else if !AN vs[i].init then 2 else 0:=by
 unfold dQ;rw[SC xV vs hi]
def ZIA (vs:List Vr) (w:World) (i:Value) (wr:World):Prop:=∃k:Nat,k≤vs.length∧i=.int .i64 k∧YD (dQ vs) k=0∧Ext w wr

theorem YP (u:Value) (t:Tr) (p:Nat) (w:World) (hp:p<t.length) (hl:t.length≤1000000) (hv:t[p].vars.length≤1000000) (he:t[p].evs.length≤9223372036854775807) (hs:SlR 3 RPr w u t) :
  Calls Tryz.prog 90 #[.agg #[u],.int .i64 p] w fun e w'=>e=.returned (.int .i64 (gE t p))∧Ext w w':=by
 obtain⟨A,c,rfl,h1,h2,hc⟩:=hs.at_
 obtain⟨b,off,rfl,vJ⟩:=hc oM
 obtain⟨⟨c0,hm⟩,⟨v1,c1,LI⟩,v2,c2,aZ⟩:=vJ p hp
 have hb:=kC c0
 have HS:=zA hs
 have HS1:=zA LI
 have HS2:=zA aZ
 obtain⟨A1,k1,rfl,_,_,_⟩:=LI.at_
 obtain⟨A2,k2,rfl,_,_,_⟩:=aZ.at_
 clear hs LI aZ
 have HN:=zA (fun w=>YS t[p].name w hm)
 clear vJ hc
 go_enter Tryz.func90,Tryz.ntmps90
 go_wp2_with fail
 refine (HN.out _).mono ?_
 rintro e w1 ⟨rfl,rfl⟩
 cases hn:GE t[p].name
 ·go_wp2_with fail
  go_ret
  exact⟨by rw[pO t p hp,hn];rfl,((Ext.refl _).alloc _).alloc _⟩
 ·go_wp2_with fail
  refine (ZCU _ (t.take p) t[p].name _ _ ?_ ?_ ?_).mono ?_
  ·rw[bu];omega
  ·exact ((HS.out).take p oM).ext RPr.keeps (((Ext.refl _).alloc _).alloc _)
  ·exact UH _ _ _ kS rfl
  rintro e w1 ⟨rfl,iH⟩
  cases ha:(t.take p).any fun y=>y.name.toList==t[p].name.toList
  ·have d1:w1.cell? ⟨w.heap.size+1,1,none⟩=_:=iH.cellAt (UH _ _ _ kS rfl)
   have d2:w1.cell? ⟨w.heap.size+1,2,none⟩=_:=iH.cellAt (UH _ _ _ kS rfl)
   have uF:=(((Ext.refl w).alloc _).alloc _).trans iH
   have HE:=zA (pO t p hp)
   by_cases h8:8<t[p].vars.length
   ·go_wp2_with fail
    go_ret
    exact⟨by rw[HE.out,hn,ha];simp[h8],uF⟩
   ·go_wp2_with fail
    go_loopw [34] (ZIA t[p].vars w1) (fun i _=>t[p].vars.length-(intOf i).toNat)
    case atStart=>exact⟨0,an _,rfl,rfl,Ext.refl _⟩
    case round =>
     obtain⟨k,hk,rfl,hz,UE⟩:=hrel
     have HZ:=zA hz
     clear hz
     have d1':=UE.cellAt d1
     have d2':=UE.cellAt d2
     by_cases bB:k<t[p].vars.length
     ·have HSk:=zA (HS1.out.ext RVr.keeps (uF.trans UE))
      obtain⟨A1',k1',ev,g1,g2,g3⟩:=HSk.out.at_
      obtain⟨b1,off1,rfl,vJ⟩:=g3 oM
      injection ev with ev1 ev2 ev3
      subst ev1;subst ev3
      obtain⟨f0,f1,fm⟩:=vJ k bB
      have uI:=kC f0
      have RO:=kC d1'
      have HV:=zA (ZE0 t[p].vars k bB)
      have HN2:=zA (fun w=>YS t[p].vars[k].name w fm)
      have HI:=zA (fun w=>DJ t[p].vars[k].init (-1073741824) 1073741824 w)
      clear vJ g3 ev2
      go_wp2_with fail
      refine (HN2.out _).mono ?_
      rintro e w2 ⟨rfl,rfl⟩
      cases hn2:GE t[p].vars[k].name
      ·have HF13:=zA (show dQ t[p].vars k=13 by rw[HV.out,hn2];rfl)
       have HR:=zA (tE (n:=t[p].vars.length) HZ.out (by rw[HF13.out];decide) bB)
       go_wp2_with fail
       go_ret
       exact⟨by rw[HE.out,hn,ha,HR.out,HF13.out];simp[h8],(uF.trans UE).alloc _⟩
      ·go_wp2_with fail
       refine (ZF1 _ (t[p].vars.take k) t[p].vars[k].name _ _ ?_ ?_ ?_).mono ?_
       ·rw[bu];omega
       ·exact ((HSk.out).take k oM).ext RVr.keeps ((Ext.refl _).alloc _)
       ·exact UH _ _ _ rfl rfl
       rintro e w3 ⟨rfl,z8⟩
       have he4:=((Ext.refl wr).alloc _).trans z8
       cases ha2:(t[p].vars.take k).any fun y=>y.name.toList==t[p].vars[k].name.toList
       ·have d3:w3.cell? ⟨wr.heap.size,1,none⟩=_:=z8.cellAt (UH _ _ _ rfl rfl)
        go_wp2_with fail
        refine (HI.out _).mono ?_
        rintro e w4 ⟨rfl,rfl⟩
        cases hv2:inB t[p].vars[k].init (-1073741824) 1073741824
        ·have HF2:=zA (show dQ t[p].vars k=2 by rw[HV.out,hn2,ha2,show AN t[p].vars[k].init=false from hv2];rfl)
         have HR:=zA (tE (n:=t[p].vars.length) HZ.out (by rw[HF2.out];decide) bB)
         go_wp2_with fail
         go_ret
         exact⟨by rw[HE.out,hn,ha,HR.out,HF2.out];simp[h8],(uF.trans UE).trans he4⟩
        ·have HF0:=zA (show dQ t[p].vars k=0 by rw[HV.out,hn2,ha2,show AN t[p].vars[k].init=true from hv2];rfl)
         go_wp2_with fail
         go_roundw
         case rel=>exact⟨k+1,bB,by go_num,gK HZ.out HF0.out,UE.trans he4⟩
         case measure=>simp[intOf];omega
       ·have HF13:=zA (show dQ t[p].vars k=13 by rw[HV.out,hn2,ha2];rfl)
        have HR:=zA (tE (n:=t[p].vars.length) HZ.out (by rw[HF13.out];decide) bB)
        go_wp2_with fail
        go_ret
        exact⟨by rw[HE.out,hn,ha,HR.out,HF13.out];simp[h8],(uF.trans UE).trans he4⟩
     ·have hkn:k=t[p].vars.length:=by omega
      subst hkn
      by_cases h64:64<t[p].evs.length
      ·go_wp2_with fail
       go_ret
       exact⟨by rw[HE.out,hn,ha];simp[h8,h64,HZ.out],uF.trans UE⟩
      ·go_wp2_with fail
       go_ret
       exact⟨by rw[HE.out,hn,ha];simp[h8,h64,HZ.out],uF.trans UE⟩
  ·go_wp2_with fail
   go_ret
   exact⟨by rw[pO t p hp,hn,ha];rfl,(((Ext.refl _).alloc _).alloc _).trans iH⟩

theorem cf_s1 (args:Array Value) (w:World):(callFunc 123 args).run Tryz.prog w=.ok (.enter 123 args) w:=
 XD Tryz.func123 kE rfl args w
theorem cf_e1 (args:Array Value) (w:World):(callFunc 120 args).run Tryz.prog w=.ok (.enter 120 args) w:=
 XD Tryz.func120 kE rfl args w
theorem ZHu (a x d:Int) (bk:Nat) (w:World) (hx:w.cell? ⟨bk,0,none⟩=some (.int .i64 d)) :
  Calls Tryz.prog 120 #[.agg #[.int .i64 a,.int .i64 x],.pointer (some ⟨bk,0,none⟩)] w fun e w'=>e=.returned (.bool (a==d))∧Ext w w':=by
 have bB:=kC hx
 go_enter Tryz.func120,Tryz.ntmps120
 go_wp2_with fail
 go_ret
 exact⟨rfl,(Ext.refl w).alloc _⟩
theorem I2 (u a:Value) (t:Tr) (p:Nat) (e:Ev) (w:World) (hl:t.length≤1000000) (hs:SlR 3 RPr w u t) :
  Calls Tryz.prog 118 #[.agg #[u],.int .i64 p,.agg #[.int .i64 e.kind,.int .i64 e.peer,.int .i64 e.msg,.int .i64 e.time,a]] w fun x w'=>x=.returned (.bool (lC t.length p e))∧Ext w w':=by
 obtain⟨A,c,rfl,h1,h2,hc⟩:=hs.at_
 clear hc hs
 have HP:=zA (fun w=>DJ e.peer 0 ((t.length:Int)-1) w)
 have HM:=zA (fun w=>DJ e.msg 0 199 w)
 have hE:∀o1 o2,Ext w ((w.alloc o1).alloc o2):=fun o1 o2=>((Ext.refl w).alloc o1).alloc o2
 go_enter Tryz.func118,Tryz.ntmps118
 cases k1:e.kind==1
 ·have hb:(((e.kind==2)=true∧(e.kind==3)=false)∨((e.kind==2)=false∧(e.kind==3)=true))∨((e.kind==2)=false∧(e.kind==3)=false):=by
   cases k2:e.kind==2<;>cases k3:e.kind==3<;>simp_all
  rcases hb with (⟨k2,k3⟩|⟨k2,k3⟩)|⟨k2,k3⟩
  ·go_wp2_with fail
   refine (HP.out _).mono ?_
   rintro x w1 ⟨rfl,rfl⟩
   cases hp:inB e.peer 0 ((t.length:Int)-1)
   ·go_wp2_with fail
    go_ret
    exact⟨by rw[lC,k1,k2,k3,hp];rfl,hE _ _⟩
   ·cases hq:e.peer != (p:Int)
    ·go_wp2_with fail
     go_ret
     exact⟨by rw[lC,k1,k2,k3,hp,hq];rfl,hE _ _⟩
    ·go_wp2_with fail
     refine (HM.out _).mono ?_
     rintro x w1 ⟨rfl,rfl⟩
     cases hm:inB e.msg 0 199
     ·go_wp2_with fail
      go_ret
      exact⟨by rw[lC,k1,k2,k3,hp,hq,hm];rfl,hE _ _⟩
     ·go_wp2_with fail
      go_ret
      exact⟨by rw[lC,k1,k2,k3,hp,hq,hm];rfl,hE _ _⟩
  ·go_wp2_with fail
   refine (HP.out _).mono ?_
   rintro x w1 ⟨rfl,rfl⟩
   cases hp:inB e.peer 0 ((t.length:Int)-1)
   ·go_wp2_with fail
    go_ret
    exact⟨by rw[lC,k1,k2,k3,hp];rfl,hE _ _⟩
   ·cases hq:e.peer != (p:Int)
    ·go_wp2_with fail
     go_ret
     exact⟨by rw[lC,k1,k2,k3,hp,hq];rfl,hE _ _⟩
    ·go_wp2_with fail
     refine (HM.out _).mono ?_
     rintro x w1 ⟨rfl,rfl⟩
     cases hm:inB e.msg 0 199
     ·go_wp2_with fail
      go_ret
      exact⟨by rw[lC,k1,k2,k3,hp,hq,hm];rfl,hE _ _⟩
     ·go_wp2_with fail
      go_ret
      exact⟨by rw[lC,k1,k2,k3,hp,hq,hm];rfl,hE _ _⟩
  ·go_wp2_with fail
   go_ret
   exact⟨by rw[lC,k1,k2,k3];rfl,hE _ _⟩
 ·cases k2:e.peer==0
  ·go_wp2_with fail
   go_ret
   exact⟨by rw[lC,k1,k2];rfl,hE _ _⟩
  ·cases k3:e.msg==0
   ·go_wp2_with fail
    go_ret
    exact⟨by rw[lC,k1,k2,k3];rfl,hE _ _⟩
   ·go_wp2_with fail
    go_ret
    exact⟨by rw[lC,k1,k2,k3];rfl,hE _ _⟩

theorem ZHT (e:Ev) (a:Value) (m to:Int) (bm bt:Nat) (w:World) (hm:w.cell? ⟨bm,0,none⟩=some (.int .i64 m)) (ht:w.cell? ⟨bt,0,none⟩=some (.int .i64 to)) :
  Calls Tryz.prog 123 #[.agg #[.int .i64 e.kind,.int .i64 e.peer,.int .i64 e.msg,.int .i64 e.time,a],.pointer (some ⟨bm,0,none⟩),.pointer (some ⟨bt,0,none⟩)] w fun x w'=>x=.returned (.bool (e.kind==2&&e.msg==m&&e.peer==to))∧Ext w w':=by
 have bB:=kC hm
 have ZGD:=kC ht
 go_enter Tryz.func123,Tryz.ntmps123
 cases k1:e.kind==2
 ·go_wp2_with fail
  go_ret
  exact⟨rfl,(Ext.refl w).alloc _⟩
 ·cases k2:e.msg==m
  ·go_wp2_with fail
   go_ret
   exact⟨rfl,(Ext.refl w).alloc _⟩
  ·go_wp2_with fail
   go_ret
   exact⟨rfl,(Ext.refl w).alloc _⟩
theorem ZCT (v:Value) (xs:List Ev) (m to:Int) (bm bt:Nat) (w:World) (hl:xs.length≤1000000) (hs:SlR 5 REv w v xs) (hm:w.cell? ⟨bm,0,none⟩=some (.int .i64 m)) (ht:w.cell? ⟨bt,0,none⟩=some (.int .i64 to)) :
  Calls Tryz.prog 122 #[v,.func (.func 123) #[] #[.pointer (some ⟨bm,0,none⟩),.pointer (some ⟨bt,0,none⟩)]] w fun e w'=>e=.returned (.bool (xs.any fun e=>e.kind==2&&e.msg==m&&e.peer==to))∧Ext w w':=by
 rw[WO qK]
 refine TN v xs _ _ _ w hl hs cf_s1 fun k hk v1 w' he=>?_
 simp only[SC qK xs hk]
 exact ZHT xs[k] v1 m to bm bt w' (he.cellAt hm) (he.cellAt ht)
theorem P8 (u:Value) (t:Tr) (p:Nat) (m to:Int) (w:World) (hp:p<t.length) (hl:t.length≤1000000) (he:t[p].evs.length≤1000000) (hs:SlR 3 RPr w u t) :
  Calls Tryz.prog 93 #[.agg #[u],.int .i64 p,.int .i64 m,.int .i64 to] w fun e w'=>e=.returned (.bool (zF t p m to))∧Ext w w':=by
 obtain⟨A,c,rfl,h1,h2,hc⟩:=hs.at_
 obtain⟨b,off,rfl,vJ⟩:=hc oM
 obtain⟨_,_,v2,c2,aZ⟩:=vJ p hp
 have hb:=kC c2
 have uI:b<w.heap.size+1:=by omega
 have RO:b<w.heap.size+1+1:=by omega
 have HS2:=zA aZ
 obtain⟨A2,k2,rfl,_,_,_⟩:=aZ.at_
 clear hs aZ vJ hc
 go_enter Tryz.func93,Tryz.ntmps93
 go_wp2_with fail
 refine (ZCT _ t[p].evs m to _ _ _ he ?_ ?_ ?_).mono ?_
 ·exact HS2.out.ext REv.keeps ((((Ext.refl _).alloc _).alloc _).alloc _)
 ·exact ((Ext.refl _).alloc _).cellAt (UH _ _ _ kS rfl)
 ·exact UH _ _ _ kS rfl
 rintro e w1 ⟨rfl,iH⟩
 go_wp2_with fail
 go_ret
 exact⟨by rw[zF,sA,SC dfPr t hp];rfl,((((Ext.refl _).alloc _).alloc _).alloc _).trans iH⟩
theorem G7 (v:Value) (xs:List Asg) (d:Int) (bk:Nat) (w:World) (hl:xs.length≤1000000) (hs:SlR 2 RAsg w v xs) (hx:w.cell? ⟨bk,0,none⟩=some (.int .i64 d)) :
  Calls Tryz.prog 119 #[v,.func (.func 120) #[] #[.pointer (some ⟨bk,0,none⟩)]] w fun e w'=>e=.returned (.bool (xs.any fun b=>b.v==d))∧Ext w w':=by
 rw[WO ET]
 refine wN v xs _ _ _ w hl hs cf_e1 fun k hk w' he=>?_
 simp only[SC ET xs hk]
 exact ZHu xs[k].v xs[k].val d bk w' (he.cellAt hx)
theorem X8 (nv:Nat) (l:List Asg) (k:Nat) (hk:k<l.length):vM nv l k=if !(inB l[k].v 0 ((nv:Int)-1))||!AN l[k].val then 2
 else if (l.take k).any (fun b=>b.v==l[k].v) then 8 else 0:=by
 unfold vM;rw[SC ET l hk]
def ZD3 (nv:Nat) (l:List Asg) (w:World) (i:Value) (wr:World):Prop:=∃k:Nat,k≤l.length∧i=.int .i64 k∧YD (vM nv l) k=0∧Ext w wr

theorem D9 (t:Tr) (p j:Nat) (hp:p<t.length) (hj:j<t[p].evs.length):vO t (p,j+2)=t[p].evs[j].time:=by
 show (if 1<j+2 then ((sA t p).getD (j+2-2) qK).time else 0)=_
 rw[if_pos oM,show j+2-2=j by omega];unfold sA;rw[SC dfPr t hp,SC qK _ hj]
theorem vZ (t:Tr) (p i:Nat) (e:Ev) (L:Int) (hp:p<t.length) (hi0:1≤i) (hi:i≤t[p].evs.length) (hee:t[p].evs[i-1]=e) (hL:vO t (p,i)=L):mE t (p,i)=if !lC t.length p e then 3
 else if !(inB e.time 0 1099511627776)||decide (e.time<L) then 11
 else if 8<e.asg.length then 5
 else YD (vM t[p].vars.length e.asg) e.asg.length:=by
 have h1:rA t (p,i)=e:=by unfold rA sA;simp only[SC dfPr t hp];rw[SC qK _ oM];exact hee
 unfold mE;rw[h1,hL];simp only[SC dfPr t hp]
theorem JR (u a:Value) (t:Tr) (p i:Nat) (e:Ev) (w:World) (hp:p<t.length) (hi0:1≤i) (hi:i≤t[p].evs.length) (hee:t[p].evs[i-1]=e) (hl:t.length≤1000000) (hv:t[p].vars.length≤1000000) (he:t[p].evs.length≤1000000) (ha:e.asg.length≤1000000)
  (hs:SlR 3 RPr w u t) (hsa:SlR 2 RAsg w a e.asg) :
  Calls Tryz.prog 91 #[.agg #[u],.agg #[.int .i64 p,.int .i64 i],.agg #[.int .i64 e.kind,.int .i64 e.peer,.int .i64 e.msg,.int .i64 e.time,a]] w fun x w'=>x=.returned (.int .i64 (mE t (p,i)))∧Ext w w':=by
 have HFm:=zA fun w' (h:Ext w w')=>I2 u a t p e w' hl (hs.ext RPr.keeps h)
 obtain⟨A,c,rfl,h1,h2,hc⟩:=hs.at_
 obtain⟨b,off,rfl,vJ⟩:=hc oM
 obtain⟨⟨c0,hm⟩,⟨v1,c1,LI⟩,v2,c2,aZ⟩:=vJ p hp
 have hb:=kC c0
 have uI:b<w.heap.size+1:=by omega
 have RO:b<w.heap.size+1+1:=by omega
 have hb3:b<w.heap.size+1+1+1:=by omega
 have HS2:=zA aZ
 obtain⟨A1,k1,rfl,_,_,_⟩:=LI.at_
 obtain⟨A2,k2,rfl,q1,q2,q3⟩:=aZ.at_
 obtain⟨b2,off2,rfl,q4⟩:=q3 oM
 have HSA:=zA hsa
 obtain⟨A3,k3,rfl,_,_,_⟩:=hsa.at_
 have HT:=zA (fun w=>DJ e.time 0 1099511627776 w)
 clear hs LI aZ hsa vJ hc
 go_enter Tryz.func91,Tryz.ntmps91
 by_cases h1i:1<i
 ·obtain⟨j,rfl⟩:∃j,i=j+2:=⟨i-2,by omega⟩
  obtain⟨_,_,_,e3,_⟩:=q4 j oM
  have hb2':=kC e3
  have ZLJ:b2<w.heap.size+1:=by omega
  have ZLK:b2<w.heap.size+1+1:=by omega
  have ZNt:b2<w.heap.size+1+1+1:=by omega
  have HE:=zA (vZ t p (j+2) e t[p].evs[j].time hp oM hi hee (D9 t p j hp oM))
  go_wp2_with fail
  refine (HFm.out _ (((((Ext.refl _).alloc _).alloc _).alloc _).alloc _)).mono ?_
  rintro x w1 ⟨rfl,iH⟩
  have uF:=(((((Ext.refl w).alloc _).alloc _).alloc _).alloc _).trans iH
  have y3:w1.cell? ⟨w.heap.size+1+1,3,none⟩=_:=iH.cellAt (((Ext.refl _).alloc _).cellAt (UH _ _ _ kS rfl))
  have y4:w1.cell? ⟨w.heap.size+1+1,4,none⟩=_:=iH.cellAt (((Ext.refl _).alloc _).cellAt (UH _ _ _ kS rfl))
  have x1:w1.cell? ⟨w.heap.size+1+1+1,1,none⟩=_:=iH.cellAt (UH _ _ _ kS rfl)
  cases hf:lC t.length p e
  ·go_wp2_with fail
   go_ret
   exact⟨by rw[HE.out,hf];rfl,uF⟩
  ·go_wp2_with fail
   refine (HT.out _).mono ?_
   rintro x w2 ⟨rfl,rfl⟩
   cases ht:inB e.time 0 1099511627776
   ·go_wp2_with fail
    go_ret
    exact⟨by rw[HE.out,hf,ht];rfl,uF⟩
   ·cases zL:decide (e.time<t[p].evs[j].time)
    ·by_cases h8:8<e.asg.length
     ·go_wp2_with fail
      go_ret
      exact⟨by rw[HE.out,hf,ht,zL];simp[h8],uF⟩
     ·go_wp2_with fail
      go_loopw [54] (ZD3 t[p].vars.length e.asg w1) (fun i _=>e.asg.length-(intOf i).toNat)
      case atStart=>exact⟨0,an _,rfl,rfl,Ext.refl _⟩
      case round =>
       obtain⟨k,hk,rfl,hz,UE⟩:=hrel
       have HZ:=zA hz
       clear hz
       have x1':=UE.cellAt x1
       have y4':=UE.cellAt y4
       by_cases bB:k<e.asg.length
       ·have HSk:=zA (HSA.out.ext RAsg.keeps (uF.trans UE))
        obtain⟨A1',k1',ev,g1,g2,g3⟩:=HSk.out.at_
        obtain⟨b5,off5,rfl,vJ⟩:=g3 oM
        injection ev with ev1 ev2 ev3
        subst ev1;subst ev3
        obtain⟨f0,f1⟩:=vJ k bB
        have hb5:=kC f0
        have hb6:=kC x1'
        have hb7:=kC y4'
        have HV:=zA (X8 t[p].vars.length e.asg k bB)
        have HI1:=zA (fun w=>DJ e.asg[k].v 0 ((t[p].vars.length:Int)-1) w)
        have HI2:=zA (fun w=>DJ e.asg[k].val (-1073741824) 1073741824 w)
        clear vJ g3 ev2
        go_wp2_with fail
        refine (HI1.out _).mono ?_
        rintro x w2 ⟨rfl,rfl⟩
        cases hi1:inB e.asg[k].v 0 ((t[p].vars.length:Int)-1)
        ·have HF2:=zA (show vM t[p].vars.length e.asg k=2 by rw[HV.out,hi1];rfl)
         have HR:=zA (tE (n:=e.asg.length) HZ.out (by rw[HF2.out];decide) bB)
         go_wp2_with fail
         go_ret
         exact⟨by rw[HE.out,hf,ht,zL,HR.out,HF2.out];simp[h8],(uF.trans UE).alloc _⟩
        ·go_wp2_with fail
         refine (HI2.out _).mono ?_
         rintro x w2 ⟨rfl,rfl⟩
         cases V8:inB e.asg[k].val (-1073741824) 1073741824
         ·have HF2:=zA (show vM t[p].vars.length e.asg k=2 by rw[HV.out,hi1,show AN e.asg[k].val=false from V8];rfl)
          have HR:=zA (tE (n:=e.asg.length) HZ.out (by rw[HF2.out];decide) bB)
          go_wp2_with fail
          go_ret
          exact⟨by rw[HE.out,hf,ht,zL,HR.out,HF2.out];simp[h8],(uF.trans UE).alloc _⟩
         ·go_wp2_with fail
          refine (G7 _ (e.asg.take k) e.asg[k].v _ _ ?_ ?_ ?_).mono ?_
          ·rw[bu];omega
          ·exact ((HSk.out).take k oM).ext RAsg.keeps ((Ext.refl _).alloc _)
          ·exact UH _ _ _ rfl rfl
          rintro x w3 ⟨rfl,z8⟩
          have he4:=((Ext.refl wr).alloc _).trans z8
          cases ha2:(e.asg.take k).any fun b=>b.v==e.asg[k].v
          ·have HF0:=zA (show vM t[p].vars.length e.asg k=0 by rw[HV.out,hi1,show AN e.asg[k].val=true from V8,ha2];rfl)
           go_wp2_with fail
           go_roundw
           case rel=>exact⟨k+1,bB,by go_num,gK HZ.out HF0.out,UE.trans he4⟩
           case measure=>simp[intOf];omega
          ·have HF8:=zA (show vM t[p].vars.length e.asg k=8 by rw[HV.out,hi1,show AN e.asg[k].val=true from V8,ha2];rfl)
           have HR:=zA (tE (n:=e.asg.length) HZ.out (by rw[HF8.out];decide) bB)
           go_wp2_with fail
           go_ret
           exact⟨by rw[HE.out,hf,ht,zL,HR.out,HF8.out];simp[h8],(uF.trans UE).trans he4⟩
       ·have hkn:k=e.asg.length:=by omega
        subst hkn
        go_wp2_with fail
        go_ret
        exact⟨by rw[HE.out,hf,ht,zL];simp[h8,HZ.out],uF.trans UE⟩
    ·go_wp2_with fail
     go_ret
     exact⟨by rw[HE.out,hf,ht,zL];rfl,uF⟩
 ·have HE:=zA (vZ t p i e 0 hp hi0 hi hee (by unfold vO;simp[h1i]))
  go_wp2_with fail
  refine (HFm.out _ (((((Ext.refl _).alloc _).alloc _).alloc _).alloc _)).mono ?_
  rintro x w1 ⟨rfl,iH⟩
  have uF:=(((((Ext.refl w).alloc _).alloc _).alloc _).alloc _).trans iH
  have y3:w1.cell? ⟨w.heap.size+1+1,3,none⟩=_:=iH.cellAt (((Ext.refl _).alloc _).cellAt (UH _ _ _ kS rfl))
  have y4:w1.cell? ⟨w.heap.size+1+1,4,none⟩=_:=iH.cellAt (((Ext.refl _).alloc _).cellAt (UH _ _ _ kS rfl))
  have x1:w1.cell? ⟨w.heap.size+1+1+1,1,none⟩=_:=iH.cellAt (UH _ _ _ kS rfl)
  cases hf:lC t.length p e
  ·go_wp2_with fail
   go_ret
   exact⟨by rw[HE.out,hf];rfl,uF⟩
  ·go_wp2_with fail
   refine (HT.out _).mono ?_
   rintro x w2 ⟨rfl,rfl⟩
   cases ht:inB e.time 0 1099511627776
   ·go_wp2_with fail
    go_ret
    exact⟨by rw[HE.out,hf,ht];rfl,uF⟩
   ·cases zL:decide (e.time<0)
    ·by_cases h8:8<e.asg.length
     ·go_wp2_with fail
      go_ret
      exact⟨by rw[HE.out,hf,ht,zL];simp[h8],uF⟩
     ·go_wp2_with fail
      go_loopw [54] (ZD3 t[p].vars.length e.asg w1) (fun i _=>e.asg.length-(intOf i).toNat)
      case atStart=>exact⟨0,an _,rfl,rfl,Ext.refl _⟩
      case round =>
       obtain⟨k,hk,rfl,hz,UE⟩:=hrel
       have HZ:=zA hz
       clear hz
       have x1':=UE.cellAt x1
       have y4':=UE.cellAt y4
       by_cases bB:k<e.asg.length
       ·have HSk:=zA (HSA.out.ext RAsg.keeps (uF.trans UE))
        obtain⟨A1',k1',ev,g1,g2,g3⟩:=HSk.out.at_
        obtain⟨b5,off5,rfl,vJ⟩:=g3 oM
        injection ev with ev1 ev2 ev3
        subst ev1;subst ev3
        obtain⟨f0,f1⟩:=vJ k bB
        have hb5:=kC f0
        have hb6:=kC x1'
        have hb7:=kC y4'
        have HV:=zA (X8 t[p].vars.length e.asg k bB)
        have HI1:=zA (fun w=>DJ e.asg[k].v 0 ((t[p].vars.length:Int)-1) w)
        have HI2:=zA (fun w=>DJ e.asg[k].val (-1073741824) 1073741824 w)
        clear vJ g3 ev2
        go_wp2_with fail
        refine (HI1.out _).mono ?_
        rintro x w2 ⟨rfl,rfl⟩
        cases hi1:inB e.asg[k].v 0 ((t[p].vars.length:Int)-1)
        ·have HF2:=zA (show vM t[p].vars.length e.asg k=2 by rw[HV.out,hi1];rfl)
         have HR:=zA (tE (n:=e.asg.length) HZ.out (by rw[HF2.out];decide) bB)
         go_wp2_with fail
         go_ret
         exact⟨by rw[HE.out,hf,ht,zL,HR.out,HF2.out];simp[h8],(uF.trans UE).alloc _⟩
        ·go_wp2_with fail
         refine (HI2.out _).mono ?_
         rintro x w2 ⟨rfl,rfl⟩
         cases V8:inB e.asg[k].val (-1073741824) 1073741824
         ·have HF2:=zA (show vM t[p].vars.length e.asg k=2 by rw[HV.out,hi1,show AN e.asg[k].val=false from V8];rfl)
          have HR:=zA (tE (n:=e.asg.length) HZ.out (by rw[HF2.out];decide) bB)
          go_wp2_with fail
          go_ret
          exact⟨by rw[HE.out,hf,ht,zL,HR.out,HF2.out];simp[h8],(uF.trans UE).alloc _⟩
         ·go_wp2_with fail
          refine (G7 _ (e.asg.take k) e.asg[k].v _ _ ?_ ?_ ?_).mono ?_
          ·rw[bu];omega
          ·exact ((HSk.out).take k oM).ext RAsg.keeps ((Ext.refl _).alloc _)
          ·exact UH _ _ _ rfl rfl
          rintro x w3 ⟨rfl,z8⟩
          have he4:=((Ext.refl wr).alloc _).trans z8
          cases ha2:(e.asg.take k).any fun b=>b.v==e.asg[k].v
          ·have HF0:=zA (show vM t[p].vars.length e.asg k=0 by rw[HV.out,hi1,show AN e.asg[k].val=true from V8,ha2];rfl)
           go_wp2_with fail
           go_roundw
           case rel=>exact⟨k+1,bB,by go_num,gK HZ.out HF0.out,UE.trans he4⟩
           case measure=>simp[intOf];omega
          ·have HF8:=zA (show vM t[p].vars.length e.asg k=8 by rw[HV.out,hi1,show AN e.asg[k].val=true from V8,ha2];rfl)
           have HR:=zA (tE (n:=e.asg.length) HZ.out (by rw[HF8.out];decide) bB)
           go_wp2_with fail
           go_ret
           exact⟨by rw[HE.out,hf,ht,zL,HR.out,HF8.out];simp[h8],(uF.trans UE).trans he4⟩
       ·have hkn:k=e.asg.length:=by omega
        subst hkn
        go_wp2_with fail
        go_ret
        exact⟨by rw[HE.out,hf,ht,zL];simp[h8,HZ.out],uF.trans UE⟩
    ·go_wp2_with fail
     go_ret
     exact⟨by rw[HE.out,hf,ht,zL];rfl,uF⟩
attribute [local go_sem] Oper.semAt_some

theorem cH (u:Value) (w:World):Calls Tryz.prog 55 #[.agg #[u]] w fun e w'=>e=.returned (.func (.func 94) #[] #[.pointer (some ⟨w.heap.size,0,none⟩)])∧w'=w.alloc (.cells #[u] 34):=by
 go_enter Tryz.func55,Tryz.ntmps55
 go_wp2_with fail
 go_ret
 exact⟨rfl,rfl⟩

def LT (w:World) (u:Value) (x:Nat×Nat):Value:=
 match u with
 |.slice (some a) _ _=>match w.cell? ⟨a.block,a.off+x.1*3+2,none⟩ with
   |some (.slice (some b) _ _)=>.agg #[(w.cell? ⟨b.block,b.off+(x.2-1)*5,none⟩).getD undef,(w.cell? ⟨b.block,b.off+(x.2-1)*5+1,none⟩).getD undef,(w.cell? ⟨b.block,b.off+(x.2-1)*5+2,none⟩).getD undef,(w.cell? ⟨b.block,b.off+(x.2-1)*5+3,none⟩).getD undef,(w.cell? ⟨b.block,b.off+(x.2-1)*5+4,none⟩).getD undef]
   |_=>undef
 |_=>undef
def RB (x:Nat×Nat):Value:=.agg #[.int .i64 x.1,.int .i64 x.2]
def VEv (w:World) (v:Value) (e:Ev):Prop:=∃a,v=.agg #[.int .i64 e.kind,.int .i64 e.peer,.int .i64 e.msg,.int .i64 e.time,a]∧SlR 2 RAsg w a e.asg
theorem VEv.ext {w w':World} {v:Value} {e:Ev} (h:VEv w v e) (he:Ext w w'):VEv w' v e:=by
 obtain⟨a,hv,hs⟩:=h
 exact⟨a,hv,hs.ext RAsg.keeps he⟩
theorem VE {t:Tr} {x:Nat×Nat}:x∈ids t↔∃(hp:x.1<t.length),1≤x.2∧x.2≤t[x.1].evs.length:=by
 obtain⟨p,i⟩:=x
 unfold ids jN
 simp only[lz,bc,de,ku]
 constructor
 ·rintro⟨q,hq,j,hj,rfl,rfl⟩
  unfold sA at hj;rw[SC dfPr t hq]at hj
  exact⟨hq,by omega,by omega⟩
 ·rintro⟨hp,h1,h2⟩
  exact⟨p,hp,i-1,by unfold sA;rw[SC dfPr t hp];omega,rfl,by omega⟩
theorem EM {t:Tr} {p i:Nat} (hp:p<t.length) (hi:i<t[p].evs.length):rA t (p,i+1)=t[p].evs[i]:=by
 unfold rA sA;simp only[SC dfPr t hp,gb];exact SC qK _ hi
def eF (t:Tr) (p i:Nat):List (Nat×Nat):=(List.range p).flatMap (jN t)++(List.range i).map fun j=>(p,j+1)
theorem fN (t:Tr) (p i:Nat):eF t p (i+1)=eF t p i++[(p,i+1)]:=by
 unfold eF;rw[ig,ci,ay];rfl
theorem fK (t:Tr) (p:Nat) (hp:p<t.length):eF t p t[p].evs.length=eF t (p+1) 0:=by
 unfold eF
 rw[ig,kw]
 simp[jN,sA,ae hp]
theorem pP (t:Tr):eF t t.length 0=ids t:=by simp[eF,ids]
theorem VO (t:Tr) (p i:Nat) (hp:p<t.length) (hi:i≤t[p].evs.length):eF t p i <+: ids t:=by
 have h1:ids t=eF t (p+1) 0++((List.range (t.length-(p+1))).map (· + (p+1))).flatMap (jN t):=by
  unfold eF ids
  have:List.range t.length=List.range (p+1)++(List.range (t.length-(p+1))).map (· + (p+1)):=by
   apply ma
   ·simp;omega
   ·intro j h1 h2
    rw[List.getElem_range,List.getElem_append]
    split
    ·simp
    ·rename_i h3
     simp at h3
     simp;omega
  rw[this,kw];simp
 have h2:eF t p i <+: eF t p t[p].evs.length:=by
  unfold eF
  rw[show t[p].evs.length=i+(t[p].evs.length-i) by omega,kx,ci,←ay]
  exact List.prefix_append _ _
 rw[h1]
 exact h2.trans (by rw[fK t p hp];exact List.prefix_append _ _)
theorem Ext.more' {a w w':World} (h:Ext a w) (k:Below a.heap.size w w'):Ext a w':=Below.trans h k
abbrev Idt (t:Tr):={x:Nat×Nat // x∈ids t}

theorem Y3 (n:Nat) (hn:1≤n) (w0:World) (u:Value) (t:Tr) (l Bt N:Nat) (hl:t.length≤1000000) (nL:∀x∈t,x.evs.length≤1000000) (hN:(ids t).length≤N) (hs:SlR 3 RPr w0 u t) (J Jx:List (Idt t)→World→Prop)
  (hJa:∀pre W o,J pre W→J pre (W.alloc o))
  (hY:∀pre x W,J pre W→pre.length<N→YieldAt Fence.wide (n-1) Tryz.prog l #[RB x.1,LT w0 u x.1] W fun e W' =>
   (e=.returned (.bool true)∧J (pre++[x]) W'∧Below w0.heap.size W W')∨(e=.returned (.bool false)∧Jx (pre++[x]) W'))
  (W:World) (UE:Ext w0 W) (hBt:W.cell? ⟨Bt,0,none⟩=some u) (hB0:w0.heap.size≤Bt) (h0:J [] W) :
  CallsIn Fence.wide n Tryz.prog 94 #[.func (.yield l) #[] #[],.pointer (some ⟨Bt,0,none⟩)] W fun e W'=>(∃v,e=.returned v) ∧
   ((∃ys,ys.map (·.1)=ids t∧J ys W')∨(∃pre,pre.map (·.1) <+: ids t∧Jx pre W')):=by
 refine callsIn_of_wp Tryz.func94 rfl trivial ?_ rfl
 simp only[Tryz.ntmps94,eh,ck,cr,Nat.reduceAdd,Nat.reduceSub,ik,il,im,io,cg,bw]
 obtain⟨A,c,rfl,_,_,hc⟩:=hs.at_
 have hJ0:=zA (hJa)
 clear hJa
 have HY:=zA hY
 clear hY
 gi_wp2
 gi_loopw [10] (fun i wr=>∃k:Nat,k≤t.length∧i=.int .i64 k∧(∃pre:List (Idt t),pre.map (·.1)=eF t k 0∧J pre wr)∧Ext w0 wr) (fun i _=>t.length-(intOf i).toNat)
 case atStart=>exact⟨0,an _,rfl,⟨[],rfl,h0⟩,UE⟩
 case round =>
  obtain⟨k,hk,rfl,⟨pre,pJ,hJp⟩,hex⟩:=hrel
  have HPre:=zA pJ
  clear pJ
  by_cases bB:k<t.length
  ·obtain⟨b,off,rfl,vJ⟩:=hc oM
   obtain⟨⟨d0,hm⟩,⟨v1,d1,LI⟩,v2,d2,aZ⟩:=vJ k bB
   obtain⟨A2,cc2,rfl,h21,h22,J5⟩:=aZ.at_
   have c0:=hex.cellAt d0
   have c1:=hex.cellAt d1
   have c2:=hex.cellAt d2
   obtain⟨A1,cc1,rfl,h11,h12,_⟩:=LI.at_
   have hlk:=nL _ (ap bB)
   clear LI
   gi_wp2
   have hJ1:=hJ0.out pre wr (Obj.cells #[Value.string t[k].name,Value.slice A1 t[k].vars.length cc1,Value.slice A2 t[k].evs.length cc2] 42) hJp
   have ZJt:=hex.alloc (Obj.cells #[Value.string t[k].name,Value.slice A1 t[k].vars.length cc1,Value.slice A2 t[k].evs.length cc2] 42)
   have D2:=zA d2
   clear aZ c0 c1 c2 d0 d1 d2
   generalize wr.alloc (Obj.cells #[Value.string t[k].name,Value.slice A1 t[k].vars.length cc1,Value.slice A2 t[k].evs.length cc2] 42)=wo at hJ1 ZJt⊢
   gi_loopw [18] (fun i wi=>∃j:Nat,j≤t[k].evs.length∧i=.int .i64 j∧(∃pre:List (Idt t),pre.map (·.1)=eF t k j∧J pre wi)∧Ext w0 wi) (fun i _=>t[k].evs.length-(intOf i).toNat)
   case atStart=>exact⟨0,an _,rfl,⟨pre,HPre.out,hJ1⟩,ZJt⟩
   case round =>
    obtain⟨j,hj,rfl,⟨pre,pJ,hJp⟩,hex⟩:=hrel
    have HPre:=zA pJ
    clear pJ
    by_cases OZ:j<t[k].evs.length
    ·obtain⟨b2,off2,rfl,ZB7⟩:=J5 oM
     obtain⟨g0,g1,g2,g3,va,g4,hs4⟩:=ZB7 j OZ
     have e0:=hex.cellAt g0
     have e1:=hex.cellAt g1
     have e2:=hex.cellAt g2
     have e3:=hex.cellAt g3
     have e4:=hex.cellAt g4
     obtain⟨A4,cc4,rfl,h41,h42,_⟩:=hs4.at_
     have hx:(k,j+1)∈ids t:=VE.2 ⟨bB,by simp,OZ⟩
     have jD:pre.length<N:=by
      have h1:=(VO t k (j+1) bB OZ).length_le
      rw[fN,am,←HPre.out,aa]at h1
      simp at h1;omega
     obtain⟨fn,tmps,assign,body,hy,hR⟩:=HY.out _ ⟨(k,j+1),hx⟩ _ (hJ0.out _ _ (Obj.cells #[.int .i64 t[k].evs[j].kind,.int .i64 t[k].evs[j].peer,.int .i64 t[k].evs[j].msg,.int .i64 t[k].evs[j].time,Value.slice A4 t[k].evs[j].asg.length cc4] 45) hJp) jD
     have yK:LT w0 (Value.slice (some {block:=b,off:=off}) (List.length t) c) (k,j+1)=.agg #[.int .i64 t[k].evs[j].kind,.int .i64 t[k].evs[j].peer,.int .i64 t[k].evs[j].msg,.int .i64 t[k].evs[j].time,Value.slice A4 t[k].evs[j].asg.length cc4]:=by
      unfold LT
      simp only[D2.out,gb,g0,g1,g2,g3,g4,gp]
     clear g0 g1 g2 g3 g4
     unfold RB at hy
     rw[yK]at hy
     simp only at hy
     rw[show (((j+1:Nat):Nat):Int)=(j:Int)+1 from by push_cast;rfl]at hy
     clear yK
     gi_wp2
     refine hR.mono ?_
     rintro e W3 (⟨rfl,hJ3,nY⟩|⟨rfl,ZLL⟩)
     ·gi_wp2
      go_roundw
      case rel=>exact⟨j+1,by omega,by go_num,⟨_,by rw[ci,HPre.out,fN];rfl,hJ3⟩,hex.trans ((Ext.refl _).alloc _) |>.more' nY⟩
      case measure=>simp[intOf];omega
     ·gi_wp2
      refine bodyPost_ret (results_none rfl _ _ _) rfl ?_
      exact⟨⟨_,rfl⟩,.inr ⟨_,by rw[ci,HPre.out];exact fN t k j▸VO t k (j+1) bB OZ,ZLL⟩⟩
    ·have hjm:j=t[k].evs.length:=by omega
     have HP2:=zA (show pre.map (·.1)=eF t (k+1) 0 by rw[HPre.out,hjm,fK])
     clear hjm
     gi_wp2
     go_roundw
     case rel=>exact⟨k+1,by omega,by go_num,⟨_,HP2.out,hJp⟩,hex⟩
     case measure=>simp[intOf];omega
  ·obtain rfl:k=t.length:=by omega
   gi_wp2
   go_end0
   exact⟨⟨_,rfl⟩,.inl ⟨pre,by rw[HPre.out,pP],hJp⟩⟩

theorem fO {w0:World} {u:Value} {t:Tr} (hs:SlR 3 RPr w0 u t) {x:Nat×Nat} (hx:x∈ids t):VEv w0 (LT w0 u x) (rA t x):=by
 obtain⟨p,i⟩:=x
 obtain⟨hp,h1,h2⟩:=VE.1 hx
 simp only at hp h1 h2
 obtain⟨j,rfl⟩:∃j,i=j+1:=⟨i-1,by omega⟩
 rw[EM hp oM]
 obtain⟨A,c,rfl,_,_,hc⟩:=hs.at_
 obtain⟨b,off,rfl,vJ⟩:=hc oM
 obtain⟨_,_,v2,d2,aZ⟩:=vJ p hp
 obtain⟨A2,cc2,rfl,_,_,J5⟩:=aZ.at_
 obtain⟨b2,off2,rfl,ZB7⟩:=J5 oM
 obtain⟨g0,g1,g2,g3,va,g4,hs4⟩:=ZB7 j oM
 refine⟨va,?_,hs4⟩
 unfold LT
 simp only[d2,gb,g0,g1,g2,g3,g4,gp]

theorem gG (n:Nat) (hn:1≤n) (w0:World) (u:Value) (t:Tr) (Bt:Nat) (w:World) (hl:t.length≤1000000) (nL:∀x∈t,x.evs.length≤1000000) (hs:SlR 3 RPr w0 u t) (UE:Ext w0 w) (hBt:w.cell? ⟨Bt,0,none⟩=some u) (hB0:w0.heap.size≤Bt) :
  SeqStopsK Fence.wide n Tryz.prog 94 #[.pointer (some ⟨Bt,0,none⟩)] (fun x:Idt t=>#[RB x.1,LT w0 u x.1]) (Below w0.heap.size) (fun ys=>ys.map (·.1)=ids t) (fun pre=>pre.map (·.1) <+: ids t) (ids t).length w:=fun l J Jx W hW hJ _ hY h0 =>
 Y3 n hn w0 u t l Bt (ids t).length hl nL (ah _) hs J Jx (fun pre W o h=>hJ pre W _ none h (World.grownBy_alloc W o none) (fun r e=>by cases e)) hY W (UE.trans (Below.mono hW (ah _))) (Ext.cellAt hW hBt) hB0 h0

def JA (W:World) (B:Nat) (t:TypeId) (cs:Array Value):Prop:=W.heap[B]? = some (.cells cs t (0,0))
theorem JA.lt {W:World} {B:Nat} {t:TypeId} {cs:Array Value} (h:JA W B t cs):B<W.heap.size:=(bp.1 h).1
theorem JA.cell {W:World} {B:Nat} {t:TypeId} {cs:Array Value} (h:JA W B t cs) {j:Nat} {v:Value} (hj:cs[j]? = some v):W.cell? ⟨B,j,none⟩=some v:=by
 simp[World.cell?,show W.heap[B]? = _ from h,hj]
theorem JA.frozen {W:World} {B:Nat} {t:TypeId} {cs:Array Value} (h:JA W B t cs) (j:Nat):W.frozen? ⟨B,j,none⟩=false:=by
 simp[World.frozen?,show W.heap[B]? = _ from h]
theorem JA.new (W:World) (t:TypeId) (cs:Array Value):JA (W.alloc (.cells cs t)) W.heap.size t cs:=World.alloc_heap_new W _
theorem JA.newAt {W:World} {B:Nat} (t:TypeId) (cs:Array Value) (h:B=W.heap.size):JA (W.alloc (.cells cs t)) B t cs:=by subst h;exact JA.new W t cs
theorem JA.kept {W W':World} {row:Option Nat} {B:Nat} {t:TypeId} {cs:Array Value} (h:JA W B t cs) (hg:W.grownBy W' row) (YH:some B≠row):JA W' B t cs:=(hg.block B h.lt YH).trans h
theorem JA.alloc {W:World} {B:Nat} {t:TypeId} {cs:Array Value} (h:JA W B t cs) (o:Obj):JA (W.alloc o) B t cs:=h.kept (World.grownBy_alloc W o none) kS
theorem JA.ext {W W':World} {B:Nat} {t:TypeId} {cs:Array Value} (h:JA W B t cs) (he:Ext W W'):JA W' B t cs:=(he.block B h.lt).trans h
theorem JA.below {W W':World} {B n:Nat} {t:TypeId} {cs:Array Value} (h:JA W B t cs) (he:Below n W W') (hB:B<n):JA W' B t cs:=(he.block B hB).trans h
theorem JA.drew {W:World} {B:Nat} {t:TypeId} {cs:Array Value} (h:JA W B t cs):JA W.drew B t cs:=h
theorem JA.drewN {W:World} {B:Nat} {t:TypeId} {cs:Array Value} (h:JA W B t cs) (n:Nat):JA (W.drewN n) B t cs:=h
theorem JA.set {W:World} {B:Nat} {t:TypeId} {cs:Array Value} (h:JA W B t cs) (j:Nat) (v:Value):JA (W.setCell ⟨B,j,none⟩ v) B t (cs.setIfInBounds j v):=by
 obtain⟨bB,hk⟩:=bp.1 h
 show (W.heap.modify B _)[B]? = _
 rw[gv (by rw[Array.size_modify];exact bB),Array.getElem_modify_self,hk]
 rfl
theorem JA.other {W:World} {B B' j:Nat} {t:TypeId} {cs:Array Value} (h:JA W B t cs) (YH:B≠B') (u:Value):JA (W.setCell ⟨B',j,none⟩ u) B t cs:=
 (Below.heap_setCell _ _ _ _ (by simpa using YH)).trans h
theorem JA.putObj {W:World} {B l:Nat} {t:TypeId} {cs:Array Value} {o:Obj} (h:JA W B t cs) (hl:W.heap[l]? = some o) (ho:o.isCells=false) (o':Obj):JA (W.putObj l o') B t cs:=
 h.kept (grownBy_putObj' W l o') (fun e=>by cases e;rw[show W.heap[B]? = _ from h]at hl;cases hl;cases ho)
theorem JA.same {W:World} {B:Nat} {t t':TypeId} {cs cs':Array Value} (h:JA W B t cs) (h':JA W B t' cs'):cs=cs':=by
 have:=(show W.heap[B]? = _ from h).symm.trans h';injection this with this;injection this
theorem ZAF {β:Type} (B n:Nat) (t:TypeId) (p:β→Array Value→Prop):OwnFrom n (fun s W=>∃cs,JA W B t cs∧p s cs):=by
 rintro s X Y row ⟨cs,h,hp⟩ hg RE
 exact⟨cs,h.kept hg (fun e'=>by obtain⟨_,o,ho,hc⟩:=RE B e'.symm;rw[show X.heap[B]? = _ from h]at ho;cases ho;cases hc),hp⟩
theorem GA {β:Type} (B n:Nat) (t:TypeId) (f:β→Array Value):OwnFrom n (fun s W=>JA W B t (f s)):=by
 rintro s X Y row h hg RE
 exact h.kept hg (fun e'=>by obtain⟨_,o,ho,hc⟩:=RE B e'.symm;rw[show X.heap[B]? = _ from h]at ho;cases ho;cases hc)
theorem dG {β:Type} {n:Nat} {w:World} (hn:w.heap.size≤n):OwnFrom n (fun (_:β) W=>Ext w W):=ownFrom_below (ah _) hn
theorem Ext.set {a w:World} (h:Ext a w) {B j:Nat} (hB:a.heap.size≤B) (u:Value):Ext a (w.setCell ⟨B,j,none⟩ u):=Below.setCell h (p:=⟨B,j,none⟩) hB u
theorem Ext.putObj {a w:World} {l:Nat} {o:Obj} (h:Ext a w) (hl:a.heap.size≤l) (hw:w.heap[l]? = some o) (o':Obj):Ext a (w.putObj l o'):=
 Below.grown h (grownBy_putObj' w l o') h.size (fun k e=>by cases e;exact hl)
theorem JA.set1 {W:World} {B:Nat} {t:TypeId} {a v:Value} (h:JA W B t #[a]):JA (W.setCell ⟨B,0,none⟩ v) B t #[v]:=h.set 0 v
theorem JA.set2_0 {W:World} {B:Nat} {t:TypeId} {a0 a1 v:Value} (h:JA W B t #[a0,a1]):JA (W.setCell ⟨B,0,none⟩ v) B t #[v,a1]:=h.set 0 v
theorem JA.set2_1 {W:World} {B:Nat} {t:TypeId} {a0 a1 v:Value} (h:JA W B t #[a0,a1]):JA (W.setCell ⟨B,1,none⟩ v) B t #[a0,v]:=h.set 1 v
theorem JA.set3_0 {W:World} {B:Nat} {t:TypeId} {a0 a1 a2 v:Value} (h:JA W B t #[a0,a1,a2]):JA (W.setCell ⟨B,0,none⟩ v) B t #[v,a1,a2]:=h.set 0 v
theorem JA.set3_1 {W:World} {B:Nat} {t:TypeId} {a0 a1 a2 v:Value} (h:JA W B t #[a0,a1,a2]):JA (W.setCell ⟨B,1,none⟩ v) B t #[a0,v,a2]:=h.set 1 v
theorem JA.set3_2 {W:World} {B:Nat} {t:TypeId} {a0 a1 a2 v:Value} (h:JA W B t #[a0,a1,a2]):JA (W.setCell ⟨B,2,none⟩ v) B t #[a0,a1,v]:=h.set 2 v
theorem JA.set4_0 {W:World} {B:Nat} {t:TypeId} {a0 a1 a2 a3 v:Value} (h:JA W B t #[a0,a1,a2,a3]):JA (W.setCell ⟨B,0,none⟩ v) B t #[v,a1,a2,a3]:=h.set 0 v
theorem JA.set4_1 {W:World} {B:Nat} {t:TypeId} {a0 a1 a2 a3 v:Value} (h:JA W B t #[a0,a1,a2,a3]):JA (W.setCell ⟨B,1,none⟩ v) B t #[a0,v,a2,a3]:=h.set 1 v
theorem JA.set4_2 {W:World} {B:Nat} {t:TypeId} {a0 a1 a2 a3 v:Value} (h:JA W B t #[a0,a1,a2,a3]):JA (W.setCell ⟨B,2,none⟩ v) B t #[a0,a1,v,a3]:=h.set 2 v
theorem JA.set4_3 {W:World} {B:Nat} {t:TypeId} {a0 a1 a2 a3 v:Value} (h:JA W B t #[a0,a1,a2,a3]):JA (W.setCell ⟨B,3,none⟩ v) B t #[a0,a1,a2,v]:=h.set 3 v
theorem JA.set5_0 {W:World} {B:Nat} {t:TypeId} {a0 a1 a2 a3 a4 v:Value} (h:JA W B t #[a0,a1,a2,a3,a4]):JA (W.setCell ⟨B,0,none⟩ v) B t #[v,a1,a2,a3,a4]:=h.set 0 v
theorem JA.set5_1 {W:World} {B:Nat} {t:TypeId} {a0 a1 a2 a3 a4 v:Value} (h:JA W B t #[a0,a1,a2,a3,a4]):JA (W.setCell ⟨B,1,none⟩ v) B t #[a0,v,a2,a3,a4]:=h.set 1 v
theorem JA.set5_2 {W:World} {B:Nat} {t:TypeId} {a0 a1 a2 a3 a4 v:Value} (h:JA W B t #[a0,a1,a2,a3,a4]):JA (W.setCell ⟨B,2,none⟩ v) B t #[a0,a1,v,a3,a4]:=h.set 2 v
theorem JA.set5_3 {W:World} {B:Nat} {t:TypeId} {a0 a1 a2 a3 a4 v:Value} (h:JA W B t #[a0,a1,a2,a3,a4]):JA (W.setCell ⟨B,3,none⟩ v) B t #[a0,a1,a2,v,a4]:=h.set 3 v
theorem JA.set5_4 {W:World} {B:Nat} {t:TypeId} {a0 a1 a2 a3 a4 v:Value} (h:JA W B t #[a0,a1,a2,a3,a4]):JA (W.setCell ⟨B,4,none⟩ v) B t #[a0,a1,a2,a3,v]:=h.set 4 v
theorem KF.set {B:Nat} {W X:World} (h:KeepsFrom B W X) (a:Addr) (v:Value):KeepsFrom B W (X.setCell a v):=h.trans ((KeepsOthers.setCell _ _ _).from _)
theorem KF.alloc {B:Nat} {W X:World} (h:KeepsFrom B W X) (o:Obj):KeepsFrom B W (X.alloc o):=h.trans ((KeepsOthers.alloc _ _).from _)
theorem KF.drew {B:Nat} {W X:World} (h:KeepsFrom B W X):KeepsFrom B W X.drew:=h.trans ((KeepsOthers.drew _).from _)
theorem KF.drewN {B:Nat} {W X:World} (h:KeepsFrom B W X) (n:Nat):KeepsFrom B W (X.drewN n):=⟨h.size,h.same⟩
theorem KF.ext {B:Nat} {W X Y:World} (h:KeepsFrom B W X) (he:Ext X Y):KeepsFrom B W Y:=
 h.trans ⟨he.size,fun k o _ hk _=>(he.block k (bp.1 hk).1).trans hk⟩
theorem BL.set {n:Nat} {W X:World} (h:Below n W X) (b j:Nat) (v:Value) (hb:n≤b):Below n W (X.setCell ⟨b,j,none⟩ v):=h.setCell (p:=⟨b,j,none⟩) hb v
theorem BL.alloc {n:Nat} {W X:World} (h:Below n W X) (o:Obj) (hn:n≤W.heap.size):Below n W (X.alloc o):=Below.alloc h (ee hn h.size) o
theorem BL.drew {n:Nat} {W X:World} (h:Below n W X):Below n W X.drew:=Below.drew h
theorem BL.drewN {n:Nat} {W X:World} (h:Below n W X) (k:Nat):Below n W (X.drewN k):=⟨h.os,h.tape,h.output,h.size,h.block⟩
theorem BL.ext {n:Nat} {W X Y:World} (h:Below n W X) (he:Ext X Y) (hn:n≤W.heap.size):Below n W Y:=h.trans (Below.mono he (ee hn h.size))

def ZG (t:Tr) (kind m:Int) (x:Nat×Nat):Bool:=(rA t x).kind==kind&&(rA t x).msg==m
def VA (t:Tr) (l:List (Nat×Nat)) (kind m:Int):Nat×Nat:=(l.find? (ZG t kind m)).getD (0,0)
def KG (t:Tr) (l:List (Nat×Nat)) (x:Nat×Nat):Nat:=
 if (rA t x).kind==2 then (if 0<(VA t l 2 (rA t x).msg).2 then 8 else 0)
 else if (rA t x).kind==3 then (if 0<(VA t l 3 (rA t x).msg).2 then 8 else if zF t (rA t x).peer.toNat (rA t x).msg x.1 then 0 else 7)
 else 0
def MT (t:Tr) (l:List (Nat×Nat)):Prop:=∀a x c,l=a++x::c→KG t a x=0
def ON (t:Tr) (l:List (Nat×Nat)) (cs:Array Value):Prop:=cs.size=800∧∀m:Nat,m<200 →
 cs[m*4]? = some (.int .i64 (VA t l 2 m).1)∧cs[m*4+1]? = some (.int .i64 (VA t l 2 m).2)∧cs[m*4+2]? = some (.int .i64 (VA t l 3 m).1)∧cs[m*4+3]? = some (.int .i64 (VA t l 3 m).2)

theorem MF {t:Tr} {x:Nat×Nat} (h:x∈ids t):1≤x.2:=(VE.1 h).2.1
theorem sE {np p:Nat} {e:Ev} (h:lC np p e=true) (h1:(e.kind==1)=false):∃m q:Nat,e.msg=m∧m<200∧e.peer=q∧q<np∧q≠p:=by
 unfold lC at h
 rw[h1]at h
 simp only[bx,if_false]at h
 split at h
 ·simp[inB]at h
  obtain⟨⟨⟨a,b⟩,c⟩,d,e1⟩:=h
  exact⟨e.msg.toNat,e.peer.toNat,by omega,by omega,by omega,by omega,by omega⟩
 ·cases h
theorem UO (t:Tr) (l:List (Nat×Nat)) (x:Nat×Nat) (k m:Int):VA t (l++[x]) k m=if (l.find? (ZG t k m)).isSome then VA t l k m else if ZG t k m x then x else (0,0):=by
 unfold VA
 rw[hU]
 cases h:l.find? (ZG t k m) with
 |some y=>simp
 |none=>cases hk:ZG t k m x<;>simp[hk]
theorem TV {t:Tr} {l:List (Nat×Nat)} {k m:Int} (hl:∀y∈l,1≤y.2) (h:¬0<(VA t l k m).2):l.find? (ZG t k m)=none:=by
 unfold VA at h
 cases hf:l.find? (ZG t k m) with
 |none=>rfl
 |some y=>rw[hf]at h;have:=hl y (ge hf);simp at h;omega
theorem iF {t:Tr} {l:List (Nat×Nat)} {x:Nat×Nat} {k m:Int} (h:ZG t k m x=false):VA t (l++[x]) k m=VA t l k m:=by
 rw[UO,h]
 cases hf:l.find? (ZG t k m) with
 |none=>simp[VA,hf]
 |some y=>simp
theorem jQ {t:Tr} {l:List (Nat×Nat)} {x:Nat×Nat} {k m:Int} (hl:∀y∈l,1≤y.2) (h0:¬0<(VA t l k m).2) (h:ZG t k m x=true):VA t (l++[x]) k m=x:=by
 rw[UO,TV hl h0,h];simp
theorem MT.snoc {t:Tr} {l:List (Nat×Nat)} {x:Nat×Nat} (h:MT t l) (hx:KG t l x=0):MT t (l++[x]):=by
 intro a y c he
 rcases List.eq_nil_or_concat c with rfl|⟨c',z,rfl⟩
 ·have h2:=List.append_inj' he rfl
  obtain⟨rfl,h3⟩:=h2
  injection h3 with h3;subst h3;exact hx
 ·rw[show a++y::(c'.concat z)=(a++y::c')++[z] by simp]at he
  have h2:=List.append_inj' he rfl
  exact h a y c' h2.1
theorem mO {cs:Array Value} {i j:Nat} {a b:Value} (hi:i+1<cs.size):((cs.setIfInBounds i a).setIfInBounds (i+1) b)[j]? = if j=i then some a else if j=i+1 then some b else cs[j]?:=by
 simp only[kc,ly]
 by_cases h1:j=i
 ·subst h1;rw[if_neg oM,if_pos rfl,if_pos oM,if_pos rfl]
 ·by_cases h2:j=i+1
  ·subst h2;rw[if_pos rfl,if_pos hi,if_neg h1,if_pos rfl]
  ·rw[if_neg oM,if_neg oM,if_neg h1,if_neg h2]
theorem mF {t:Tr} (pre:List (Idt t)) (x:Idt t):(pre++[x]).map (·.1)=pre.map (·.1)++[x.1]:=by rw[ci];rfl
theorem ON.keep {t:Tr} {l:List (Nat×Nat)} {x:Nat×Nat} {cs:Array Value} (h:ON t l cs) (h2:((rA t x).kind==2)=false) (h3:((rA t x).kind==3)=false):ON t (l++[x]) cs:=by
 refine⟨h.1,fun m hm=>?_⟩
 rw[iF (by unfold ZG;rw[h2];rfl),iF (by unfold ZG;rw[h3];rfl)]
 exact h.2 m hm
theorem ON.from_ {t:Tr} {l:List (Nat×Nat)} {x:Nat×Nat} {cs:Array Value} {m:Nat} (h:ON t l cs) (hl:∀y∈l,1≤y.2) (hm:m<200) (h0:¬0<(VA t l 2 m).2) (hk:((rA t x).kind==2)=true) (hx:(rA t x).msg=m) :
  ON t (l++[x]) ((cs.setIfInBounds (m*4) (.int .i64 x.1)).setIfInBounds (m*4+1) (.int .i64 x.2)):=by
 have k2:(rA t x).kind=2:=by simpa using hk
 refine⟨by simpa using h.1,fun j hj=>?_⟩
 have e3:VA t (l++[x]) 3 j=VA t l 3 j:=iF (by simp[ZG,k2])
 obtain⟨a,b,c,d⟩:=h.2 j hj
 have hs:=h.1
 rw[e3]
 by_cases hjm:j=m
 ·subst hjm
  rw[jQ hl h0 (by simp[ZG,k2,hx])]
  refine⟨?_,?_,?_,?_⟩<;>rw[mO oM]
  ·rw[if_pos rfl]
  ·rw[if_neg oM,if_pos rfl]
  ·rw[if_neg oM,if_neg oM];exact c
  ·rw[if_neg oM,if_neg oM];exact d
 ·rw[iF (by simp[ZG,k2,hx];omega)]
  refine⟨?_,?_,?_,?_⟩<;>rw[mO oM,if_neg oM,if_neg oM]<;>assumption
theorem ON.to_ {t:Tr} {l:List (Nat×Nat)} {x:Nat×Nat} {cs:Array Value} {m:Nat} (h:ON t l cs) (hl:∀y∈l,1≤y.2) (hm:m<200) (h0:¬0<(VA t l 3 m).2) (hk:((rA t x).kind==3)=true) (hx:(rA t x).msg=m) :
  ON t (l++[x]) ((cs.setIfInBounds (m*4+2) (.int .i64 x.1)).setIfInBounds (m*4+2+1) (.int .i64 x.2)):=by
 have k3:(rA t x).kind=3:=by simpa using hk
 refine⟨by simpa using h.1,fun j hj=>?_⟩
 have e3:VA t (l++[x]) 2 j=VA t l 2 j:=iF (by simp[ZG,k3])
 obtain⟨a,b,c,d⟩:=h.2 j hj
 have hs:=h.1
 rw[e3]
 by_cases hjm:j=m
 ·subst hjm
  rw[jQ hl h0 (by simp[ZG,k3,hx])]
  refine⟨?_,?_,?_,?_⟩<;>rw[mO oM]
  ·rw[if_neg oM,if_neg oM];exact a
  ·rw[if_neg oM,if_neg oM];exact b
  ·rw[if_pos rfl]
  ·rw[if_neg oM,if_pos rfl]
 ·rw[iF (by simp[ZG,k3,hx];omega)]
  refine⟨?_,?_,?_,?_⟩<;>rw[mO oM,if_neg oM,if_neg oM]<;>assumption

theorem HX (t:Tr) (p:Nat):(jN t p).Nodup:=by
 unfold jN
 refine List.Pairwise.map _ (R:=(·≠·)) ?_ List.nodup_range
 intro a b hab he
 injection he with _ h2
 omega
theorem FR {f:Nat→List (Nat×Nat)} (hf:∀p x,x∈f p→x.1=p) (hn:∀p,(f p).Nodup):∀n:Nat,((List.range n).flatMap f).Nodup
 |0=>by simp
 |n+1=>by
   rw[ig,kw]
   refine jo.2 ⟨FR hf hn n,by simpa using hn n,?_⟩
   intro a ha b hb hab
   subst hab
   obtain⟨p,hp,hx⟩:=lz.1 ha
   have h1:=hf p a hx
   have h2:=hf n a (by simpa using hb)
   have:=bc.1 hp
   omega
theorem n9 (t:Tr):(ids t).Nodup:=by
 refine FR (fun p x hx=>?_) (HX t) t.length
 unfold jN at hx
 obtain⟨i,_,rfl⟩:=de.1 hx
 rfl
theorem P2 {α:Type} {p:α→Bool} {a c:List α} {x:α} (hx:p x=true):(a++x::c).find? p=match a.find? p with|some y=>some y|none=>some x:=by
 rw[hU]
 cases a.find? p<;>simp[hx]
theorem N7 {t:Tr} {a c:List (Nat×Nat)} {x:Nat×Nat} {k:Int} (h:ids t=a++x::c) (hk:(rA t x).kind=k):(TC t k (rA t x).msg==some x)=!decide (0<(VA t a k (rA t x).msg).2):=by
 have hn:=n9 t
 rw[h]at hn
 have vU:∀y∈a,1≤y.2:=fun y hy=>MF (t:=t) (by rw[h];simp[hy])
 have e:TC t k (rA t x).msg=(a++x::c).find? (ZG t k (rA t x).msg):=by unfold TC;rw[h];rfl
 rw[e,P2 (by simp[ZG,hk])]
 unfold VA
 cases hf:a.find? (ZG t k (rA t x).msg) with
 |none=>simp
 |some y =>
   have hy:=ge hf
   have h1:=vU y hy
   have YH:y≠x:=fun e=>by
    subst e
    have:=jo.1 hn
    exact this.2.2 y hy y kS rfl
   have h2:decide (0<y.2)=true:=ag oM
   simp[YH,h2]
theorem LL {t:Tr} {a c:List (Nat×Nat)} {x:Nat×Nat} (h:ids t=a++x::c):UF t x=KG t a x:=by
 unfold UF KG
 by_cases h2:((rA t x).kind==2)=true
 ·rw[if_pos h2,if_pos h2,N7 h (by simpa using h2)]
  by_cases h0:0<(VA t a 2 (rA t x).msg).2<;>simp[h0]
 ·rw[if_neg h2,if_neg h2]
  by_cases h3:((rA t x).kind==3)=true
  ·rw[if_pos h3,if_pos h3,N7 h (by simpa using h3)]
   by_cases h0:0<(VA t a 3 (rA t x).msg).2<;>simp[h0]
  ·rw[if_neg h3,if_neg h3]
theorem Y9 {t:Tr} (h:MT t (ids t)):(ids t).find? (fun x=>UF t x != 0)=none:=by
 rw[dg]
 intro x hx
 obtain⟨a,c,he⟩:=ko hx
 rw[LL he,h a x c he]
 simp
theorem Q9 {t:Tr} {a:List (Nat×Nat)} {x:Nat×Nat} (hp:a++[x] <+: ids t) (hg:MT t a) (YH:KG t a x≠0):(ids t).find? (fun x=>UF t x != 0)=some x∧UF t x=KG t a x:=by
 obtain⟨c,hc⟩:=hp
 have he:ids t=a++x::c:=by rw[←hc];simp
 have hx:=LL he
 refine⟨?_,hx⟩
 rw[he,hU]
 have:a.find? (fun x=>UF t x != 0)=none:=by
  rw[dg]
  intro y hy
  obtain⟨b,d,hb⟩:=ko hy
  rw[LL (a:=b) (c:=d++x::c) (by rw[he,hb];simp),hg b y d hb]
  simp
 rw[this]
 simp[hx,YH]
end Go.Proofs.YtadnnjchehjbiaaGreatDoor
namespace Go.Proofs.YtadnnjchehjbiaaGreatDoor
open Go.RowKit
set_option linter.unusedVariables false
attribute [local go_sem] Oper.semAt_some

def MI (t:Tr) (w:World) (u:Value) (l:List (Nat×Nat)) (W:World):Prop:=
 (((((((∃cs,JA W (w.heap.size+1+1+1+1) 151 cs∧ON t l cs)∧JA W (w.heap.size+1) 110 #[.pointer none])∧JA W (w.heap.size+1+1) 47 #[.int .i64 0,.int .i64 0])∧JA W (w.heap.size+1+1+1) 50 #[.int .i64 0]) ∧
   JA W (w.heap.size+1+1+1+1+1) 110 #[.pointer (some ⟨w.heap.size+1+1+1+1,0,none⟩)])∧JA W w.heap.size 34 #[u])∧Ext w W)∧MT t l

def MX (t:Tr) (w:World) (l:List (Nat×Nat)) (W:World):Prop:=
 ∃a x,((((l=a++[x]∧MT t a∧KG t a x≠0)∧JA W (w.heap.size+1) 110 #[.pointer none])∧JA W (w.heap.size+1+1) 47 #[.int .i64 x.1,.int .i64 x.2])∧JA W (w.heap.size+1+1+1) 50 #[.int .i64 (KG t a x)])∧Ext w W
def MPost (t:Tr) (w:World) (e:Ending) (w':World):Prop:=Ext w w' ∧
 ((∃x,(ids t).find? (fun x=>UF t x != 0)=some x∧e=.returned (.tuple #[.pointer none,RB x,.int .i64 (UF t x)])) ∨
  ((ids t).find? (fun x=>UF t x != 0)=none∧∃b cs,w.heap.size≤b∧JA w' b 151 cs∧ON t (ids t) cs∧e=.returned (.tuple #[.pointer (some ⟨b,0,none⟩),RB (0,0),.int .i64 0])))
theorem kW (t:Tr) (w:World) (u:Value) {n:Nat} (hn:w.heap.size≤n):OwnFrom n (fun (pre:List (Idt t)) W=>MI t w u (pre.map (·.1)) W):=
 OwnFrom.and (OwnFrom.and (OwnFrom.and (OwnFrom.and (OwnFrom.and (OwnFrom.and (OwnFrom.and (ZAF _ _ _ _) (GA _ _ _ _)) (GA _ _ _ _)) (GA _ _ _ _)) (GA _ _ _ _)) (GA _ _ _ _)) (dG hn)) (ownFrom_pure _ _)
theorem ZFP (t:Tr) (w:World) {n:Nat} (hn:w.heap.size≤n):OwnFrom n (fun (pre:List (Idt t)) W=>MX t w (pre.map (·.1)) W):=by
 rintro s X Y row ⟨a,x,h⟩ hg hr
 refine⟨a,x,⟨⟨⟨h.1.1.1.1,?_⟩,?_⟩,?_⟩,dG hn () X Y row h.2 hg hr⟩
 ·exact GA _ n _ (fun (_:Unit)=>_) () X Y row h.1.1.1.2 hg hr
 ·exact GA _ n _ (fun (_:Unit)=>_) () X Y row h.1.1.2 hg hr
 ·exact GA _ n _ (fun (_:Unit)=>_) () X Y row h.1.2 hg hr
theorem fV:Tryz.zeroCells151=Array.replicate 800 (.int .i64 0):=by kernel_rfl
theorem ON.zero (t:Tr):ON t [] Tryz.zeroCells151:=by
 rw[fV]
 refine⟨by simp,fun m hm=>?_⟩
 unfold VA
 have h:∀k,k<800→(Array.replicate 800 (Value.int .i64 0))[k]? = some (.int .i64 0):=fun k hk=>by simp[hk]
 exact⟨h _ oM,h _ oM,h _ oM,h _ oM⟩

theorem kW0 {p:Prop} (h:p:=by (with_reducible repeat (first|assumption|exact KeepsFrom.refl _ _|refine KF.set ?_ _ _|refine KF.alloc ?_ _|refine KF.drew ?_|refine KF.drewN ?_ _|refine KF.ext ?_ aS|exact Below.refl _ _|refine BL.set ?_ _ _ _ oM|refine BL.alloc ?_ _ oM|refine BL.drew ?_|refine BL.drewN ?_ _|refine BL.ext ?_ aS oM|exact Ext.refl _|refine Ext.set ?_ oM _|refine Ext.alloc ?_ _|refine Ext.drew ?_|refine Ext.drewN ?_ _|refine Ext.trans ?_ aS|refine JA.alloc ?_ _|refine JA.drew ?_|refine JA.drewN ?_ _|refine JA.other ?_ oM _|refine JA.set ?_ _ _|apply JA.set1|apply JA.set2_1|apply JA.set2_0|refine JA.ext ?_ aS));done):p:=h
theorem lH (u:Value) (t:Tr) (w:World) (hl:t.length≤1000000) (nL:∀x∈t,x.evs.length≤1000000) (hs:SlR 3 RPr w u t) (VK:∀x∈ids t,lC t.length x.1 (rA t x)=true) :
  Calls Tryz.prog 54 #[.agg #[u]] w fun e w'=>MPost t w e w':=by
 refine callsIn_wide (n:=9).1 ?_
 refine callsIn_of_wp_marks Tryz.func54 rfl trivial ?_ rfl
 simp only[Tryz.ntmps54,eh,ck,cr,Nat.reduceAdd,Nat.reduceSub,ik,il,im,io,cg,bw]
 gi_wp2_with (refine⟨trivial,?_⟩;gi_at_call 55;refine (callsIn_wide.2 (cH _ _)).mono ?_;rintro e w' ⟨rfl,rfl⟩)
 have b0:=(((((((JA.new w 34 #[u]).alloc (.cells #[.pointer none] 110)).alloc (.cells #[.int .i64 0,.int .i64 0] 47)).alloc (.cells #[.int .i64 0] 50)).alloc (.cells Tryz.zeroCells151 151)).alloc (.cells #[.pointer (some ⟨w.heap.size+1+1+1+1,0,none⟩)] 110)).alloc (.cells #[u] 34))
 obtain⟨W0,pY⟩:∃W0,(((((((w.alloc (Obj.cells #[u] 34)).alloc (Obj.cells #[Value.pointer none] 110)).alloc (Obj.cells #[Value.int IntKind.i64 0,Value.int IntKind.i64 0] 47)).alloc (Obj.cells #[Value.int IntKind.i64 0] 50)).alloc (Obj.cells Tryz.zeroCells151 151)).alloc (Obj.cells #[Value.pointer (some ⟨w.heap.size+1+1+1+1,0,none⟩)] 110)).alloc (Obj.cells #[u] 34))=W0:=⟨_,rfl⟩
 rw[pY]at b0⊢
 have NN:W0.heap.size=w.heap.size+1+1+1+1+1+1+1:=by rw[←pY];simp
 have hM0:MI t w u [] W0:=by
  rw[←pY]
  refine⟨⟨⟨⟨⟨⟨⟨⟨_,JA.alloc (JA.alloc (JA.newAt _ _ kS) _) _,ON.zero t⟩,?_⟩,?_⟩,?_⟩,?_⟩,?_⟩,?_⟩,?_⟩
  ·exact ((((((JA.newAt _ _ kS).alloc _).alloc _).alloc _).alloc _).alloc _)
  ·exact (((((JA.newAt _ _ kS).alloc _).alloc _).alloc _).alloc _)
  ·exact ((((JA.newAt _ _ kS).alloc _).alloc _).alloc _)
  ·exact ((JA.newAt _ _ kS).alloc _)
  ·rw[pY];exact b0
  ·exact (((((((Ext.refl w).alloc _).alloc _).alloc _).alloc _).alloc _).alloc _).alloc _
  ·intro a x c h;cases a<;>cases h
 have bt:JA W0 (w.heap.size+1+1+1+1+1+1) 34 #[u]:=by rw[←pY];exact JA.newAt _ _ kS
 clear pY
 have LP:Ext w W0:=hM0.1.2
 refine wpIn_rangeFunc_ownH rfl oM (gf:=94) (lb:=#[.pointer (some ⟨w.heap.size+1+1+1+1+1+1,0,none⟩)]) rfl trivial (XD Tryz.func94 kE rfl)
  (gG 8 oM w u t (w.heap.size+1+1+1+1+1+1) W0 hl nL hs LP (bt.cell rfl) oM) belowK_t (belowK_b oM) (Below.refl _ _) (fun _=>rfl)
  (fun pre W=>MI t w u (pre.map (·.1)) W) (fun c pre W=>c=.ret∧MX t w (pre.map (·.1)) W) (kW t w u oM) (fun c=>OwnFrom.and (ownFrom_pure _ _) (ZFP t w oM)) hM0
  (fun x a' W=>∃B6 B7 A4 n4 c4 v13 v14,(w.heap.size+1+1+1+1+1<B6∧w.heap.size+1+1+1+1+1<B7)∧JA W B6 47 #[.int .i64 x.1.1,.int .i64 x.1.2]∧JA W B7 45 #[.int .i64 (rA t x.1).kind,.int .i64 (rA t x.1).peer,.int .i64 (rA t x.1).msg,.int .i64 (rA t x.1).time,.slice A4 n4 c4] ∧
   a'={tmps:=#[.agg #[u],.pointer (some ⟨w.heap.size,0,none⟩),.pointer (some ⟨w.heap.size+1,0,none⟩),.pointer (some ⟨w.heap.size+1+1,0,none⟩),.pointer (some ⟨w.heap.size+1+1+1,0,none⟩),.pointer (some ⟨w.heap.size+1+1+1+1+1,0,none⟩),.pointer (some ⟨B6,0,none⟩),.pointer (some ⟨B7,0,none⟩),undef,.agg Tryz.zeroCells151,.pointer (some ⟨w.heap.size+1+1+1+1,0,none⟩),.agg #[u],.func (.func 94) #[] #[.pointer (some ⟨w.heap.size+1+1+1+1+1+1,0,none⟩)],v13,v14,undef,undef,undef,undef,undef,undef,undef,undef,undef,undef,undef,undef,undef,undef,undef,undef,undef,undef,undef,undef,undef,undef,undef,undef,undef,undef,undef,undef,undef,undef,undef,undef,undef,undef,undef,undef,undef,undef,undef,undef,undef,undef,undef,undef,undef,undef,undef,undef,undef],defers:=[]})
  ?hax ?assign ?body ?done ?stop
 case hax =>
  rintro x a' _ X Y row ⟨B6,B7,A4,n4,c4,v13,v14,hB,b6,b7,ha⟩ hg hr
  exact⟨B6,B7,A4,n4,c4,v13,v14,hB,GA B6 _ _ (fun (_:Unit)=>_) () X Y row b6 hg hr,GA B7 _ _ (fun (_:Unit)=>_) () X Y row b7 hg hr,ha⟩
 case assign =>
  rintro l pre x W K hI hK
  obtain⟨a,hv,hsa⟩:=fO hs x.2
  obtain⟨A4,c4,rfl,_,_,_⟩:=hsa.at_
  clear hsa
  simp only[hv]
  have hsW:=hI.1.2.size
  unfold RB
  have h5:=hI.1.1.1.2.lt
  gi_wp2
  exact hK _ _ (((KeepsOthers.alloc _ _).trans (KeepsOthers.alloc _ _)).from _) (((Below.refl _ W).alloc hsW _).alloc kT _) ((kW t w u (ah _)).alloc _ ((kW t w u (ah _)).alloc _ hI))
   ⟨W.heap.size,W.heap.size+1,A4,_,c4,_,_,⟨h5,by omega⟩,(JA.new _ _ _).alloc _,JA.newAt _ _ kS,rfl⟩
 case body =>
  rintro l pre x a' W hlW ⟨r,hr⟩ hI ⟨B6,B7,A4,n4,c4,v13,v14,hB,b6,b7,rfl⟩ jD
  have hI0:=hI
  obtain⟨⟨⟨⟨⟨⟨⟨⟨cs,hb,hA⟩,r1⟩,r2⟩,r3⟩,lb⟩,tb⟩,hx⟩,hg⟩:=hI
  have HF:=zA (VK x.1 x.2)
  have hmx:Tryz.prog.follows .mixedOrders=true:=by kernel_rfl
  have k0:=b7.cell (j:=0) rfl
  have k1:=b7.cell (j:=1) rfl
  have k2:=b7.cell (j:=2) rfl
  have i0:=b6.cell (j:=0) rfl
  have i1:=b6.cell (j:=1) rfl
  have l0:=lb.cell (j:=0) rfl
  have t0:=tb.cell (j:=0) rfl
  have hsW:=hx.size
  have vU:∀y∈pre.map (·.1),1≤y.2:=fun y hy=>by
   obtain⟨z,_,rfl⟩:=de.1 hy
   exact MF z.2
  have HP:=zA vU
  have q1:=r1.frozen 0
  have q2:=r2.frozen 0
  have q3:=r2.frozen 1
  have q4:=r3.frozen 0
  have p1:=r1.cell (j:=0) rfl
  have p2:=r2.cell (j:=0) rfl
  have p3:=r2.cell (j:=1) rfl
  have p4:=r3.cell (j:=0) rfl
  clear vU
  cases z2:(rA t x.1).kind==2
  ·cases z3:(rA t x.1).kind==3
   ·have HA:=zA (hA.keep z2 z3)
    have HG:=zA (hg.snoc (x:=x.1) (by unfold KG;rw[z2,z3];rfl))
    have HI:=zA hI0
    gi_wp2
    refine⟨KeepsFrom.refl _ _,Below.refl _ _,?_⟩
    show MI t w u ((pre++[x]).map (·.1)) _
    rw[mF]
    exact⟨⟨⟨⟨⟨⟨⟨⟨cs,hb,HA.out⟩,r1⟩,r2⟩,r3⟩,lb⟩,tb⟩,hx⟩,HG.out⟩
   ·obtain⟨m,q,hm,SW,hq,MN,_⟩:=sE HF.out (by cases h1:(rA t x.1).kind==1<;>simp_all)
    rw[hm]at k2
    have hA1:=hb.cell (hA.2 m SW).2.2.2
    rw[hq]at k1
    have hq3:=nL _ (ap MN)
    have HS:=zA (fun w' (he:Ext w w')=>(CallsIn.inRound l (callsIn_wide (n:=6).2 (P8 u t q m x.1.1 w' MN hl hq3 (hs.ext RPr.keeps he)))))
    by_cases h0:0<(VA t (pre.map (·.1)) 3 m).2
    ·have hd0:decide ((0:Int)<((VA t (pre.map (·.1)) 3 m).2:Int))=true:=by simp;omega
     have HF8:=zA (show KG t (pre.map (·.1)) x.1=8 by unfold KG;rw[z2,if_neg kE];rw[if_pos z3,hm,if_pos h0])
     have HM:=zA hm
     have HQ:=zA hq
     clear hm hq
     gi_wp2
     gi_region_with_o (fail)
     all_goals gi_wp2
     all_goals refine⟨?_,rfl,pre.map (·.1),x.1,⟨⟨⟨⟨by rw[ci];rfl,hg,?_⟩,?_⟩,?_⟩,?_⟩,?_⟩
     all_goals first
      |(rw[HF8.out];decide)
      |(rw[HF8.out];show JA _ _ _ #[Value.int .i64 8];exact kW0)
      |exact kW0
    ·have hd0:decide ((0:Int)<((VA t (pre.map (·.1)) 3 m).2:Int))=false:=by simp;omega
     have HM:=zA hm
     have HQ:=zA hq
     have HA:=zA (hA.to_ HP.out SW h0 z3 hm)
     have hf0:=hb.frozen (m*4+2)
     have hf1:=hb.frozen (m*4+2+1)
     have hg0:=hb.cell (hA.2 m SW).2.2.1
     have HL:=zA (show KG t (pre.map (·.1)) x.1=if zF t q m x.1.1 then 0 else 7 by unfold KG;rw[z2,if_neg kE,if_pos z3,hm,if_neg h0,hq];rfl)
     clear hm hq
     gi_wp2_with fail
     refine⟨trivial,?_⟩
     refine (HS.out _ hx).mono ?_
     rintro e w1 ⟨rfl,iH⟩
     have hx1:=hx.trans iH
     have ZNu:=hx1.size
     have hKF:KeepsFrom W0.heap.size W w1:=KF.ext (KeepsFrom.refl _ _) iH
     have hBL:Below w.heap.size W w1:=BL.ext (Below.refl _ _) iH hsW
     have hb':=hb.ext iH
     have r1':=r1.ext iH
     have r2':=r2.ext iH
     have r3':=r3.ext iH
     have lb':=lb.ext iH
     have tb':=tb.ext iH
     have b6':=b6.ext iH
     have q1':=r1'.frozen 0
     have q2':=r2'.frozen 0
     have q3':=r2'.frozen 1
     have q4':=r3'.frozen 0
     have p1':=r1'.cell (j:=0) rfl
     have p2':=r2'.cell (j:=0) rfl
     have p3':=r2'.cell (j:=1) rfl
     have p4':=r3'.cell (j:=0) rfl
     have i0':=b6'.cell (j:=0) rfl
     have i1':=b6'.cell (j:=1) rfl
     have l0':=lb'.cell (j:=0) rfl
     have hf0':=hb'.frozen (m*4+2)
     have hf1':=hb'.frozen (m*4+2+1)
     have hg0':=hb'.cell (hA.2 m SW).2.2.1
     have hA1':=hb'.cell (hA.2 m SW).2.2.2
     clear hf0 hf1 hg0 q1 q2 q3 q4 p1 p2 p3 p4 i0 i1 l0 hA1
     cases hsd:zF t q m x.1.1
     ·have HF7:=zA (show KG t (pre.map (·.1)) x.1=7 by rw[HL.out,hsd];rfl)
      clear HL hsd
      gi_wp2
      gi_region_with_o (fail)
      all_goals gi_wp2
      all_goals refine⟨?_,rfl,pre.map (·.1),x.1,⟨⟨⟨⟨by rw[ci];rfl,hg,?_⟩,?_⟩,?_⟩,?_⟩,?_⟩
      all_goals first
       |(rw[HF7.out];decide)
       |(rw[HF7.out];show JA _ _ _ #[Value.int .i64 7];exact kW0)
       |exact kW0
     ·have HG:=zA (hg.snoc (x:=x.1) (by rw[HL.out,hsd];rfl))
      clear HL hsd
      gi_wp2
      gi_region_with_o (fail)
      all_goals gi_wp2
      all_goals refine⟨?_,?_,?_⟩
      all_goals first
       |(show MI t w u ((pre++[x]).map (·.1)) _;rw[mF];refine⟨⟨⟨⟨⟨⟨⟨⟨_,?_,HA.out⟩,?_⟩,?_⟩,?_⟩,?_⟩,?_⟩,?_⟩,HG.out⟩<;>exact kW0)
       |exact kW0
  ·obtain⟨m,q,hm,SW,hq,MN,_⟩:=sE HF.out (by cases h1:(rA t x.1).kind==1<;>simp_all)
   rw[hm]at k2
   have hA1:=hb.cell (hA.2 m SW).2.1
   by_cases h0:0<(VA t (pre.map (·.1)) 2 m).2
   ·have hd0:decide ((0:Int)<((VA t (pre.map (·.1)) 2 m).2:Int))=true:=by simp;omega
    have HF8:=zA (show KG t (pre.map (·.1)) x.1=8 by unfold KG;rw[if_pos z2,hm,if_pos h0])
    have HM:=zA hm
    have HQ:=zA hq
    clear hm hq
    gi_wp2
    gi_region_with_o (fail)
    all_goals gi_wp2
    all_goals refine⟨?_,rfl,pre.map (·.1),x.1,⟨⟨⟨⟨by rw[ci];rfl,hg,?_⟩,?_⟩,?_⟩,?_⟩,?_⟩
    all_goals first
     |(rw[HF8.out];decide)
     |(rw[HF8.out];show JA _ _ _ #[Value.int .i64 8];exact kW0)
     |exact kW0
   ·have hd0:decide ((0:Int)<((VA t (pre.map (·.1)) 2 m).2:Int))=false:=by simp;omega
    have HM:=zA hm
    have HQ:=zA hq
    have HA:=zA (hA.from_ HP.out SW h0 z2 hm)
    have hf0:=hb.frozen (m*4)
    have hf1:=hb.frozen (m*4+1)
    have hg0:=hb.cell (hA.2 m SW).1
    have HG:=zA (hg.snoc (x:=x.1) (by unfold KG;rw[if_pos z2,hm,if_neg h0]))
    clear hm hq
    gi_wp2
    gi_region_with_o (fail)
    all_goals gi_wp2
    all_goals refine⟨?_,?_,?_⟩
    all_goals first
     |(show MI t w u ((pre++[x]).map (·.1)) _;rw[mF];refine⟨⟨⟨⟨⟨⟨⟨⟨_,?_,HA.out⟩,?_⟩,?_⟩,?_⟩,?_⟩,?_⟩,?_⟩,HG.out⟩<;>exact kW0)
     |exact kW0
 case done =>
  rintro D ys W hD hys ⟨⟨⟨⟨⟨⟨⟨⟨cs,hb,hA⟩,r1⟩,r2⟩,r3⟩,lb⟩,tb⟩,hx⟩,hg⟩ hK
  rw[hys]at hA hg
  have l0:=lb.cell (j:=0) rfl
  have q1:=r1.frozen 0
  have q2:=r2.frozen 0
  have q3:=r2.frozen 1
  have q4:=r3.frozen 0
  have p1:=r1.cell (j:=0) rfl
  have p2:=r2.cell (j:=0) rfl
  have p3:=r2.cell (j:=1) rfl
  have p4:=r3.cell (j:=0) rfl
  gi_wp2
  obtain⟨Wr,dH⟩:∃Wr,((((W.setCell ⟨w.heap.size+1,0,none⟩ (Value.pointer (some ⟨w.heap.size+1+1+1+1,0,none⟩))).setCell ⟨w.heap.size+1+1,0,none⟩ (Value.int .i64 0)).setCell ⟨w.heap.size+1+1,1,none⟩ (Value.int .i64 0)).setCell ⟨w.heap.size+1+1+1,0,none⟩ (Value.int .i64 0))=Wr:=⟨_,rfl⟩
  rw[dH]
  have s1:JA Wr (w.heap.size+1) 110 #[.pointer (some ⟨w.heap.size+1+1+1+1,0,none⟩)]:=by rw[←dH];exact kW0
  have s2:JA Wr (w.heap.size+1+1) 47 #[.int .i64 0,.int .i64 0]:=by rw[←dH];exact kW0
  have s3:JA Wr (w.heap.size+1+1+1) 50 #[.int .i64 0]:=by rw[←dH];exact kW0
  have sb:JA Wr (w.heap.size+1+1+1+1) 151 cs:=by rw[←dH];exact kW0
  have sx:Ext w Wr:=by rw[←dH];exact kW0
  have BP:Wr.heap[D]? = some (.deferred (some [])):=by rw[←dH];exact (KF.set (KF.set (KF.set (KF.set (KeepsFrom.refl W0.heap.size W) _ _) _ _) _ _) _ _).same D _ hD hK rfl
  clear dH
  have e1:=(s1.putObj BP rfl (.deferred none)).cell (j:=0) rfl
  have e2:=(s2.putObj BP rfl (.deferred none)).cell (j:=0) rfl
  have e3:=(s2.putObj BP rfl (.deferred none)).cell (j:=1) rfl
  have e4:=(s3.putObj BP rfl (.deferred none)).cell (j:=0) rfl
  refine⟨by simp,.inl ⟨_,_,rfl,run_takeDeferred BP,?_⟩⟩
  refine⟨.tuple #[.pointer (some ⟨w.heap.size+1+1+1+1,0,none⟩),RB (0,0),.int .i64 0],?_,sx.putObj oM BP _,.inr ⟨Y9 hg,_,cs,by omega,sb.putObj BP rfl _,hA,rfl⟩⟩
  simp[results,Tryz.f54,go_sem,e1,e2,e3,e4,RB]
 case stop =>
  rintro D c pre W hD pJ ⟨rfl,a,x,⟨⟨⟨⟨hp,hg,YH⟩,r1⟩,r2⟩,r3⟩,hx⟩ hK
  rw[hp]at pJ
  have tH:=zA (Q9 pJ hg YH)
  gi_wp2
  have e1:=(r1.putObj hK rfl (.deferred none)).cell (j:=0) rfl
  have e2:=(r2.putObj hK rfl (.deferred none)).cell (j:=0) rfl
  have e3:=(r2.putObj hK rfl (.deferred none)).cell (j:=1) rfl
  have e4:=(r3.putObj hK rfl (.deferred none)).cell (j:=0) rfl
  refine⟨by simp,.inl ⟨_,_,rfl,run_takeDeferred hK,?_⟩⟩
  refine⟨.tuple #[.pointer none,RB x,.int .i64 (KG t a x)],?_,hx.putObj oM hK _,.inl ⟨x,tH.out.1,by rw[tH.out.2]⟩⟩
  simp[results,Tryz.f54,go_sem,e1,e2,e3,e4,RB]

def SlC (size:Nat) (w:World) (v:Value) (m:Nat) (cs:List Value):Prop:=
 cs.length=m*size∧∃A c,v=.slice A m c∧m≤c∧c≤maxLen∧(0<m→∃b off,A=some ⟨b,off,none⟩∧∀j u,cs[j]? = some u→w.cell? ⟨b,off+j,none⟩=some u)
def uC (size:Nat) (e:TypeId) (w:World) (B:Nat) (v:Value) (n:Nat) (cs:List Value):Prop:=
 cs.length=n*size∧((v=.slice none 0 0∧n=0)∨∃g off cap cur,v=.slice (some ⟨g,off,none⟩) n cap∧B≤g∧JA w g e cur∧n≤cap∧cap≤maxLen∧off+cap*size≤cur.size∧∀j u,cs[j]? = some u→cur[off+j]? = some u)
structure ElS (P:Program) (t e:TypeId) (z:Value) (size bytes:Nat):Prop where
 ht:P.underlying t=some (.slice e)
 inf:∃i:TypeInfo,P.info? e=some i∧i.zero=some z∧i.size=size∧i.bytes=bytes
 zs:z.cells.size=size
 pos:0<size
 few:bytes≤128

theorem rM (b off j:Nat):(⟨b,off,none⟩:Addr).add j=⟨b,off+j,none⟩:=by unfold Addr.add;split<;>simp_all

section
variable {size:Nat} {e:TypeId} {w w':World} {B:Nat} {v v':Value} {n:Nat} {cs:List Value}
theorem uC.nil (size:Nat) (e:TypeId) (w:World) (B:Nat):uC size e w B (.slice none 0 0) 0 []:=⟨by simp,.inl ⟨rfl,rfl⟩⟩
theorem uC.kept (h:uC size e w B v n cs) {row:Option Nat} (hg:w.grownBy w' row) (YH:v.ownBlock=none∨v.ownBlock≠row):uC size e w' B v n cs:=by
 refine⟨h.1,?_⟩
 rcases h.2 with h2|⟨g,off,cap,cur,rfl,hB,hb,rest⟩
 ·exact .inl h2
 ·refine .inr ⟨g,off,cap,cur,rfl,hB,hb.kept hg ?_,rest⟩
  rcases YH with h3|h3
  ·cases h3
  ·exact h3
theorem uC.alloc (h:uC size e w B v n cs) (o:Obj):uC size e (w.alloc o) B v n cs:=h.kept (World.grownBy_alloc w o none) (by cases v.ownBlock<;>simp)
theorem uC.drew (h:uC size e w B v n cs):uC size e w.drew B v n cs:=h
theorem uC.drewN (h:uC size e w B v n cs) (k:Nat):uC size e (w.drewN k) B v n cs:=h
theorem uC.ext (h:uC size e w B v n cs) (he:Ext w w'):uC size e w' B v n cs:=
 h.kept (row:=none) ⟨he.os,he.tape,he.output,he.size,fun k hk _=>he.block k hk⟩ (by cases v.ownBlock<;>simp)
theorem uC.other (h:uC size e w B v n cs) {b j:Nat} (YH:v.ownBlock≠some b) (u:Value):uC size e (w.setCell ⟨b,j,none⟩ u) B v n cs:=by
 refine⟨h.1,?_⟩
 rcases h.2 with h2|⟨g,off,cap,cur,rfl,hB,hb,rest⟩
 ·exact .inl h2
 ·exact .inr ⟨g,off,cap,cur,rfl,hB,hb.other (fun e=>YH (by simp[Value.ownBlock,e])) u,rest⟩
theorem uC.mono {B':Nat} (h:uC size e w B v n cs) (hB:B'≤B):uC size e w B' v n cs:=by
 refine⟨h.1,?_⟩
 rcases h.2 with h2|⟨g,off,cap,cur,rfl,hb,rest⟩
 ·exact .inl h2
 ·exact .inr ⟨g,off,cap,cur,rfl,ee hB hb,rest⟩
theorem uC.blk (h:uC size e w B v n cs):∀k,v.ownBlock=some k→B≤k∧k<w.heap.size:=by
 intro k hk
 rcases h.2 with ⟨rfl,_⟩|⟨g,off,cap,cur,rfl,hb,hbox,_⟩
 ·cases hk
 ·simp[Value.ownBlock]at hk;subst hk;exact⟨hb,hbox.lt⟩
theorem uC.not_box (h:uC size e w B v n cs) {b:Nat} {t:TypeId} {xs:Array Value} (hb:JA w b t xs) (hte:t≠e):v.ownBlock≠some b:=by
 rcases h.2 with ⟨rfl,_⟩|⟨g,off,cap,cur,rfl,_,hbox,_⟩
 ·simp[Value.ownBlock]
 ·intro he
  simp[Value.ownBlock]at he
  subst he
  have:=(show w.heap[g]? = _ from hbox).symm.trans hb
  injection this with this
  injection this with _ h2 _
  exact hte h2.symm
theorem uC.form (h:uC size e w B v n cs):∃A c,v=.slice A n c∧n≤c∧c≤maxLen:=by
 rcases h.2 with ⟨rfl,rfl⟩|⟨g,off,cap,cur,rfl,_,_,h1,h2,_⟩
 ·exact⟨none,0,rfl,ah _,by simp[maxLen]⟩
 ·exact⟨_,cap,rfl,h1,h2⟩
theorem uC.slc (h:uC size e w B v n cs):SlC size w v n cs:=by
 refine⟨h.1,?_⟩
 rcases h.2 with ⟨rfl,rfl⟩|⟨g,off,cap,cur,rfl,_,hb,h1,h2,_,hc⟩
 ·exact⟨none,0,rfl,ah _,by simp[maxLen],fun h=>absurd h oM⟩
 ·exact⟨_,cap,rfl,h1,h2,fun _=>⟨g,off,rfl,fun j u hj=>hb.cell (hc j u hj)⟩⟩
theorem uC.open_ (h:uC size e w B v n cs) (h0:0<n):∃g off cap cur,v=.slice (some ⟨g,off,none⟩) n cap∧B≤g∧JA w g e cur∧n≤cap∧cap≤maxLen∧off+cap*size≤cur.size∧∀j u,cs[j]? = some u→cur[off+j]? = some u:=by
 rcases h.2 with ⟨_,h1⟩|h2
 ·omega
 ·exact h2
theorem uC.made (w:World) (xs:Array Value) (hB:B≤w.heap.size) (hm:n≤maxLen) (hc:xs.size=n*size):uC size e (w.alloc (.cells xs e)) B (.slice (some ⟨w.heap.size,0,none⟩) n n) n xs.toList:=
 ⟨by simpa using hc,.inr ⟨_,0,n,xs,rfl,hB,JA.new w e xs,ah _,hm,by omega,fun j u h=>by simpa using h⟩⟩
theorem uC.madeAt {w:World} {g:Nat} (hg:g=w.heap.size) (xs:Array Value) (hB:B≤w.heap.size) (hm:n≤maxLen) (hc:xs.size=n*size):uC size e (w.alloc (.cells xs e)) B (.slice (some ⟨g,0,none⟩) n n) n xs.toList:=by
 subst hg;exact uC.made w xs hB hm hc
theorem uC.take {A:Option Addr} {c:Nat} (h:uC size e w B (.slice A n c) n cs) (k:Nat) (hk:k≤n):uC size e w B (.slice A k c) k (cs.take (k*size)):=by
 have hl:(cs.take (k*size)).length=k*size:=by
  rw[bu,h.1];exact Nat.min_eq_left (ct _ hk)
 refine⟨hl,?_⟩
 rcases h.2 with ⟨hv,h0⟩|⟨g,off,cap,cur,hv,hB,hb,h1,h2,h3,hc⟩
 ·injection hv with e1 e2 e3;subst e1;subst e3
  obtain rfl:k=0:=by omega
  exact .inl ⟨rfl,rfl⟩
 ·injection hv with e1 e2 e3;subst e1;subst e3
  refine .inr ⟨g,off,_,cur,rfl,hB,hb,by omega,h2,h3,fun j u hj=>hc j u ?_⟩
  rw[cw]at hj
  split at hj
  ·exact hj
  ·cases hj
theorem uC.drop {A A':Option Addr} {c:Nat} (h:uC size e w B (.slice A n c) n cs) (k:Nat) (hk:k≤n) (hA:∀b off,A=some ⟨b,off,none⟩→A'=some ⟨b,off+k*size,none⟩∨(c=k∧A'=A)) (hA0:A=none→A'=none) :
  uC size e w B (.slice A' (n-k) (c-k)) (n-k) (cs.drop (k*size)):=by
 have hl:(cs.drop (k*size)).length=(n-k)*size:=by rw[fp,h.1,je]
 refine⟨hl,?_⟩
 rcases h.2 with ⟨hv,h0⟩|⟨g,off,cap,cur,hv,hB,hb,h1,h2,h3,hc⟩
 ·injection hv with e1 e2 e3;subst e1;subst e3
  rw[hA0 rfl]
  obtain rfl:k=0:=by omega
  subst h0
  exact .inl ⟨rfl,rfl⟩
 ·injection hv with e1 e2 e3;subst e1;subst e3
  rcases hA g off rfl with rfl|⟨dV,rfl⟩
  ·refine .inr ⟨g,off+k*size,_,cur,rfl,hB,hb,by omega,by omega,?_,fun j u hj=>?_⟩
   ·have:k*size+(c-k)*size=c*size:=by rw[←ca];congr 1;omega
    omega
   ·rw[dl]at hj
    have:=hc _ u hj
    rwa [show off+k*size+j=off+(k*size+j) by omega]
  ·subst dV
   obtain rfl:c=n:=by omega
   refine .inr ⟨g,off,_,cur,rfl,hB,hb,by omega,by omega,by simp;omega,fun j u hj=>?_⟩
   have:(cs.drop (c*size))=[]:=mb (by rw[h.1];exact ah _)
   rw[this]at hj;cases hj
theorem uC.set {g off cap:Nat} (h:uC size e w B (.slice (some ⟨g,off,none⟩) n cap) n cs) (j:Nat) (hj:j<n*size) (u:Value):uC size e (w.setCell ⟨g,off+j,none⟩ u) B (.slice (some ⟨g,off,none⟩) n cap) n (cs.set j u):=by
 refine⟨by rw[ec];exact h.1,?_⟩
 rcases h.2 with ⟨hv,h0⟩|⟨g',off',cap',cur,hv,hB,hb,h1,h2,h3,hc⟩
 ·cases hv
 ·injection hv with e1 e2 e3
  injection e1 with e1
  injection e1 with e4 e5
  subst e3;subst e4;subst e5
  refine .inr ⟨g,off,cap,_,rfl,hB,hb.set _ _,h1,h2,by simpa using h3,fun k x hk=>?_⟩
  rw[kc]
  rw[jp]at hk
  by_cases hjk:j=k
  ·subst hjk
   rw[if_pos rfl]at hk⊢
   have:n*size≤cap*size:=ct _ h1
   rw[if_pos oM]
   rw[if_pos (by rw[h.1];exact hj)]at hk
   exact hk
  ·rw[if_neg hjk]at hk
   rw[if_neg oM]
   exact hc k x hk
theorem SlC.ext {m:Nat} {u:Value} (h:SlC size w u m cs) (he:Ext w w'):SlC size w' u m cs:=by
 obtain⟨hl,A,c,hv,h1,h2,h3⟩:=h
 refine⟨hl,A,c,hv,h1,h2,fun h0=>?_⟩
 obtain⟨b,off,hA,hc⟩:=h3 h0
 exact⟨b,off,hA,fun j u hj=>he.cellAt (hc j u hj)⟩
theorem SlC.nil (size:Nat) (w:World):SlC size w (.slice none 0 0) 0 []:=⟨by simp,none,0,rfl,ah _,by simp[maxLen],fun h=>absurd h oM⟩
theorem SlC.first {P:Program} {m:Nat} {u:Value} {ns:List Value} (h:SlC size w u m ns):∃A c,u=.slice A m c∧∀W,Ext w W→(Builtin.firstCells size m u).run P W=.ok ns.toArray W:=by
 obtain⟨hl,A,c,rfl,h1,h2,h3⟩:=h
 refine⟨A,c,rfl,fun W he=>?_⟩
 rcases kg m with rfl|h0
 ·have hn:ns=[]:=cu (by rw[hl];simp)
  subst hn
  cases A<;>simp[Builtin.firstCells,loadCells,loadCellsFrom]
 ·obtain⟨b,off,rfl,hc⟩:=h3 h0
  exact run_firstCells_some W size m ⟨b,off,none⟩ m c ns hl (fun j x hx=>by rw[rM];exact he.cellAt (hc j x hx))

theorem WS {P:Program} {t:TypeId} {z:Value} {bytes:Nat} (I:ElS P t e z size bytes) (ty:TypeId) {u:Value} {m:Nat} {ns:List Value} (VG:uC size e w B v n cs) (hu:SlC size w u m ns) (h1:∀x∈ns,x.oneCell'=true)
  (h63:n+m≤1099511627776) (hB:B≤w.heap.size) :
  ∃v' w',(Builtin.append_ #[t,t] ty #[v,u]).run P w=.ok v' w'∧uC size e w' B v' (n+m) (cs++ns)∧w.grownBy w' v.ownBlock∧(v'.ownBlock=v.ownBlock∨v'.ownBlock=some w.heap.size):=by
 obtain⟨i,hi,hz,hs,hb⟩:=I.inf
 subst hs
 obtain⟨A,c,rfl,hf⟩:=hu.first (P:=P)
 have hl:=hu.1
 have xL:(n+m)*bytes≤140737488355328:=by
  calc (n+m)*bytes≤1099511627776*128:=Nat.mul_le_mul h63 I.few
   _≤140737488355328:=by decide
 have jD:(cs++ns).length=(n+m)*i.size:=by rw[am,VG.1,hl,ca]
 have ZIE:n+m≤maxLen:=by simp only[maxLen];omega
 rcases VG.2 with ⟨rfl,rfl⟩|⟨g,off,cap,cur,rfl,hBg,hbox,hnc,sM,cI,hc⟩
 ·rcases kg m with rfl|h0
  ·have hn:ns=[]:=cu (by rw[hl];simp)
   have PN:cs=[]:=cu (by rw[VG.1];simp)
   subst hn;subst PN
   have:=hf w (Ext.refl w)
   refine⟨.slice none 0 0,w,?_,uC.nil _ _ _ _,World.grownBy.refl _ _,.inl rfl⟩
   simp[Builtin.append_,run_underlying I.ht,sizeOf,typeInfo,hi,Builtin.lenOf,this]
  ·obtain⟨_,A',c',hv,_,_,h3⟩:=hu
   injection hv with e1 _ e3;subst e1;subst e3
   obtain⟨b,off,rfl,RG⟩:=h3 h0
   have PN:cs=[]:=cu (by rw[VG.1];simp)
   subst PN
   have hr:=run_append_nil (P:=P) w t ty e i z I.ht hi hz ⟨b,off,none⟩ m c ns hl (fun j x hx=>by rw[rM];exact RG j x hx) h0 oM (by rw[hb];simp at xL;omega)
   have TK:=grownCap_ge w m 0 e
   have sM:=grownCap_le_maxLen w m 0 e oM
   refine⟨_,_,hr,?_,⟨rfl,rfl,rfl,by simp,fun k hk _=>Below.heap_alloc w.drew _ k hk⟩,.inr rfl⟩
   rw[br,cg]
   refine⟨hl,.inr ⟨w.heap.size,0,_,_,rfl,hB,heap_alloc_new w.drew _,TK,sM,?_,fun j x hj=>?_⟩⟩
   ·simp only[cf,eh,size_zeroCells,I.zs,hl,←ca]
    rw[br]
    exact Nat.le_of_eq (by congr 1;omega)
   ·rw[br]
    obtain⟨fG,_⟩:=aj.1 hj
    rw[cn (by simpa using fG)]
    simpa using hj
 ·by_cases qD:n+m≤cap
  ·have hns:off+n*i.size+ns.length≤cur.size:=by
    have:n*i.size+m*i.size≤cap*i.size:=by rw[←ca];exact ct _ qD
    rw[hl];omega
   have tH:=run_storeCells_at P g (off+n*i.size) e ns 0 cur w hbox (by simpa using hns) h1
   simp only[cm]at tH
   refine⟨.slice (some ⟨g,off,none⟩) (n+m) cap,w.setRow g (cur.toList.take (off+n*i.size)++ns++cur.toList.drop (off+n*i.size+ns.length)).toArray,?_,?_,⟨rfl,rfl,rfl,by simp,fun k _ hk=>setRow_other w g k _ (fun e=>hk (by simp[e,Value.ownBlock]))⟩,.inl rfl⟩
   ·simp[Builtin.append_,run_underlying I.ht,sizeOf,typeInfo,hi,Builtin.lenOf,qD,hf w (Ext.refl w),rM,tH]
   ·refine⟨jD,.inr ⟨g,off,cap,_,rfl,hBg,setRow_heap w g cur _ e _ hbox,qD,sM,?_,fun j x hj=>?_⟩⟩
    ·simp;omega
    ·have fG:=(aj.1 hj).1
     rw[am,VG.1]at fG
     simp only[iu]
     by_cases hjn:j<n*i.size
     ·rw[ay,aw kT,cw,if_pos oM]
      rw[aw (by rw[VG.1];exact hjn)]at hj
      simpa using hc j x hj
     ·have xX:(cur.toList.take (off+n*i.size)).length=off+n*i.size:=by simp;omega
      rw[ay,au (by rw[xX];omega),xX,aw oM]
      rw[au (by rw[VG.1];omega),VG.1]at hj
      rw[show off+j-(off+n*i.size)=j-n*i.size by omega]
      exact hj
  ·have h0:0<m:=by omega
   obtain⟨_,A',c',hv,_,_,h3⟩:=hu
   injection hv with e1 _ e3;subst e1;subst e3
   obtain⟨b,off2,rfl,RG⟩:=h3 h0
   have hr:=run_append_grow (P:=P) w t ty e i z I.ht hi hz ⟨g,off,none⟩ n cap cs VG.1 (fun j x hx=>by rw[rM];exact hbox.cell (hc j x hx)) ⟨b,off2,none⟩ m c ns hl (fun j x hx=>by rw[rM];exact RG j x hx) oM oM
    (growslice_fits oM (by rw[hb];exact xL))
   have TK:=grownCap_ge w (n+m) cap e
   have sM:=grownCap_le_maxLen w (n+m) cap e ZIE
   refine⟨_,_,hr,?_,⟨rfl,rfl,rfl,by simp,fun k hk _=>Below.heap_alloc w.drew _ k hk⟩,.inr rfl⟩
   refine⟨jD,.inr ⟨w.heap.size,0,_,_,rfl,hB,heap_alloc_new w.drew _,TK,sM,?_,fun j x hj=>?_⟩⟩
   ·simp only[cf,eh,size_zeroCells,I.zs,VG.1,hl,←ca]
    rw[br]
    exact Nat.le_of_eq (by congr 1;omega)
   ·rw[br]
    obtain⟨fG,_⟩:=aj.1 hj
    rw[cn (by simpa using fG)]
    simpa using hj
end

theorem ZBd {P:Program} {w:World} {ops:Array Oper} {rest:List Oper} {o:Oper} {a:Act} {Q:Exit→Act→World→Prop} (s x:Operand) {t:TypeId} {size:Nat} {e:TypeId} {z:Value} {bytes:Nat} (I:ElS P t e z size bytes)
  (lR:o.guard=none) (ho:o.op=.call {callee:=.builtin .append,args:=#[s,x],argTypes:=#[t,t]})
  {B n m:Nat} {v u:Value} {cs ns:List Value} (hs:a.eval s=v) (hx:a.eval x=u) (VG:uC size e w B v n cs) (hu:SlC size w u m ns) (h1:∀x∈ns,x.oneCell'=true) (h63:n+m≤1099511627776) (hB:B≤w.heap.size)
  (h:∀v' w',uC size e w' B v' (n+m) (cs++ns)→Grw w v w' v'→Below B w w'→wpList P ops Q rest (a.put o.dst v') w'):wpList P ops Q (o::rest) a w:=by
 obtain⟨v',w',TD,h2,h3,h4⟩:=WS (P:=P) I o.type VG hu h1 h63 hB
 refine wpList_plain lR fun K hK=>?_
 unfold Oper.wp execOp
 simp only[ho,resolve,invoke,builtin,Sem.run_bind,Sem.run_pure,Result.andThen_ok,li,ba,bl,hs,hx,TD]
 have hg:Grw w v w' v':=⟨h3,fun k hk=>by
  rcases h4 with h4|h4
  ·exact .inl (by rw[←h4];exact hk)
  ·rw[h4]at hk;injection hk with hk;exact .inr oM⟩
 exact hK _ _ (h v' w' h2 hg (hg.below (fun k hk=>(VG.blk k hk).1) hB))
theorem eR {F:Fence} {nn:Nat} {P:Program} {w:World} {ops:Array Oper} {rest:List Oper} {o:Oper} {a:Act} {Q:Exit→Act→World→Prop} (s x:Operand) {t:TypeId} {size:Nat} {e:TypeId} {z:Value} {bytes:Nat} (I:ElS P t e z size bytes)
  (lR:o.guard=none) (ho:o.op=.call {callee:=.builtin .append,args:=#[s,x],argTypes:=#[t,t]})
  {B n m:Nat} {v u:Value} {cs ns:List Value} (hs:a.eval s=v) (hx:a.eval x=u) (VG:uC size e w B v n cs) (hu:SlC size w u m ns) (h1:∀x∈ns,x.oneCell'=true) (h63:n+m≤1099511627776) (hB:B≤w.heap.size)
  (h:∀v' w',uC size e w' B v' (n+m) (cs++ns)→Grw w v w' v'→Below B w w'→wpListIn F nn P ops Q rest (a.put o.dst v') w'):wpListIn F nn P ops Q (o::rest) a w:=by
 obtain⟨v',w',TD,h2,h3,h4⟩:=WS (P:=P) I o.type VG hu h1 h63 hB
 have hg:Grw w v w' v':=⟨h3,fun k hk=>by
  rcases h4 with h4|h4
  ·exact .inl (by rw[←h4];exact hk)
  ·rw[h4]at hk;injection hk with hk;exact .inr oM⟩
 refine wpListIn_plain lR fun K hK=>?_
 unfold Oper.wpIn
 refine⟨?_,?_⟩
 ·simp[Oper.about,ho,resolve,Target.leads,Sem.run_pure]
 ·rw[Oper.semAt_plain F _ _ (by rw[ho];intro c hc';cases hc')]
  simp[execOp,ho,resolve,invoke,builtin,hs,hx,TD,Result.andThen]
  exact hK _ _ (h v' w' h2 hg (hg.below (fun k hk=>(VG.blk k hk).1) hB))
theorem sU {P:Program} {w:World} {ops:Array Oper} {o:Oper} {a:Act} {K:Act→World→Prop} {Q:Exit→Act→World→Prop} {E:Prop} (s x:Operand) {t:TypeId} {size:Nat} {e:TypeId} {z:Value} {bytes:Nat} (I:ElS P t e z size bytes)
  (lR:o.guard=none) (ho:o.op=.call {callee:=.builtin .append,args:=#[s,x],argTypes:=#[t,t]})
  {B n m:Nat} {v u:Value} {cs ns:List Value} (hs:a.eval s=v) (hx:a.eval x=u) (VG:uC size e w B v n cs) (hu:SlC size w u m ns) (h1:∀x∈ns,x.oneCell'=true) (h63:n+m≤1099511627776) (hB:B≤w.heap.size)
  (h:∀v' w',uC size e w' B v' (n+m) (cs++ns)→Grw w v w' v'→Below B w w'→K (a.put o.dst v') w'):if Region.wanted o (yielded ops a.tmps)=true then Oper.wp P o a w K Q else E:=by
 have hw:Region.wanted o (yielded ops a.tmps)=true:=by simp[Region.wanted,lR]
 rw[if_pos hw]
 obtain⟨v',w',TD,h2,h3,h4⟩:=WS (P:=P) I o.type VG hu h1 h63 hB
 unfold Oper.wp execOp
 simp only[ho,resolve,invoke,builtin,Sem.run_bind,Sem.run_pure,Result.andThen_ok,li,ba,bl,hs,hx,TD]
 have hg:Grw w v w' v':=⟨h3,fun k hk=>by
  rcases h4 with h4|h4
  ·exact .inl (by rw[←h4];exact hk)
  ·rw[h4]at hk;injection hk with hk;exact .inr oM⟩
 exact h v' w' h2 hg (hg.below (fun k hk=>(VG.blk k hk).1) hB)

theorem ZED:ElS Tryz.prog 173 47 (.agg #[.int .i64 0,.int .i64 0]) 2 16 where
 ht:=Tryz.underlying173
 inf:=by
  have h:(Tryz.prog.info? 47).map (fun i=>(i.zero,i.size,i.bytes))=some (some (.agg #[.int .i64 0,.int .i64 0]),2,16):=by kernel_rfl
  obtain⟨i,hi,he⟩:=Option.map_eq_some_iff.1 h
  injection he with h1 h2
  injection h2 with h2 h3
  exact⟨i,hi,h1,h2,h3⟩
 zs:=by rfl
 pos:=by decide
 few:=by decide

def idC (x:Nat×Nat):List Value:=[.int .i64 x.1,.int .i64 x.2]
def NK (l:List (Nat×Nat)):List Value:=l.flatMap idC
theorem ZCR (l:List (Nat×Nat)):(NK l).length=l.length*2:=by
 unfold NK;induction l with
 |nil=>rfl
 |cons x l ih=>simp[idC]at ih⊢;omega
theorem uM (l:List (Nat×Nat)):∀u∈NK l,u.oneCell'=true:=by
 intro u hu
 obtain⟨x,_,h⟩:=lz.1 hu
 simp[idC]at h
 rcases h with rfl|rfl<;>rfl
theorem SlC.lit {w:World} {g:Nat} {x:Nat×Nat} {a b:Int} (T:TypeId) (hg:g=w.heap.size) (ha:a=x.1) (hb:b=x.2):SlC 2 (w.alloc (.cells #[.int .i64 a,.int .i64 b] T)) (.slice (some ⟨g,0,none⟩) 1 1) 1 (NK [x]):=by
 subst ha;subst hb
 have:=(uC.madeAt (B:=0) (e:=T) (n:=1) (size:=2) hg #[.int .i64 x.1,.int .i64 x.2] (an _) (by simp[maxLen]) rfl).slc
 simpa [NK,idC] using this
def nE (w:World) (B:Nat) (v:Value) (l:List (Nat×Nat)):Prop:=uC 2 47 w B v l.length (NK l)
theorem nE.snoc {w:World} {B:Nat} {v:Value} {l:List (Nat×Nat)} {x:Nat×Nat} {n:Nat} (h:uC 2 47 w B v (n+1) (NK l++NK [x])) (hn:n=l.length):nE w B v (l++[x]):=by
 subst hn
 unfold nE
 rw[am,show NK (l++[x])=NK l++NK [x] by simp[NK]]
 exact h
def toB (t:Tr) (x:Nat×Nat):Bool:=(rA t x).kind==2&&decide (0<(VA t (ids t) 3 (rA t x).msg).2)
def fI (t:Tr) (x:Nat×Nat):List (Nat×Nat):=(if x.2<(sA t x.1).length then [(x.1,x.2+1)] else [])++if toB t x then [VA t (ids t) 3 (rA t x).msg] else []
theorem CM {t:Tr} {p j:Nat} {e:Ev} (hp:p<t.length) (hj:j<t[p].evs.length) (he:rA t (p,j+1)=e):fI t (p,j+1)=(if j+1<t[p].evs.length then [(p,j+2)] else [])++if toB t (p,j+1) then [VA t (ids t) 3 e.msg] else []:=by
 unfold fI sA;simp only[SC dfPr t hp,he]
def ZIB (w:World) (l:List (Nat×Nat)) (e:Ending) (w':World):Prop:=∃v',e=.returned v'∧nE w' w.heap.size v' l∧Ext w w'

theorem ZAJ (u:Value) (t:Tr) (p i bL:Nat) (cs:Array Value) (w:World) (hl:t.length≤1000000) (nL:∀x∈t,x.evs.length≤1000000) (hs:SlR 3 RPr w u t) (hx:(p,i)∈ids t) (VK:∀x∈ids t,lC t.length x.1 (rA t x)=true)
  (hL:JA w bL 151 cs) (hA:ON t (ids t) cs) :
  Calls Tryz.prog 121 #[.agg #[u],.pointer (some ⟨bL,0,none⟩),RB (p,i)] w fun e w'=>ZIB w (fI t (p,i)) e w':=by
 obtain⟨hp,hi1,V8⟩:=VE.1 hx
 simp only at hp hi1 V8
 obtain⟨j,rfl⟩:∃j,i=j+1:=⟨i-1,by omega⟩
 have yK:=EM hp (show j<t[p].evs.length by omega)
 obtain⟨A,c,rfl,_,_,hc⟩:=hs.at_
 obtain⟨b,off,rfl,vJ⟩:=hc oM
 obtain⟨_,_,v2,d2,aZ⟩:=vJ p hp
 obtain⟨A2,cc2,rfl,_,_,J5⟩:=aZ.at_
 obtain⟨b2,off2,rfl,ZB7⟩:=J5 oM
 obtain⟨g0,g1,g2,g3,va,g4,hs4⟩:=ZB7 j oM
 obtain⟨A4,cc4,rfl,_,_,_⟩:=hs4.at_
 have hb:=kC d2
 have uI:b<w.heap.size+1:=by omega
 have RO:=kC g0
 have ZLJ:b2<w.heap.size+1:=by omega
 have OZ:=nL _ (ap hp)
 have hj2:(j:Int)<(t[p].evs.length:Int):=by omega
 have hform':=zA VK
 clear aZ hs4 vJ ZB7 hc J5 VK hs
 unfold RB
 go_enter Tryz.func121,Tryz.ntmps121
 have hn':j<t[p].evs.length:=by omega
 have hn':j<t[p].evs.length:=by omega
 by_cases hn:j+1<t[p].evs.length
 ·have hd:decide (((j+1:Nat):Int)<(t[p].evs.length:Int))=true:=by simp;omega
  have hd':decide ((j:Int)+1<(t[p].evs.length:Int))=true:=by simp;omega
  go_wp2_with (at_builtin;go_must (refine ZBd (v:=.slice none 0 0) (.tmp 22) (.tmp 29) ZED rfl rfl rfl rfl (uC.nil _ _ _ w.heap.size) (SlC.lit (x:=(p,j+2)) _ kS rfl (by push_cast;omega)) (uM _) oM kT ?_;intro v1 w1 hown1 hgr1 hbl1;have iH:=hgr1.ext rfl;have ZB8:Ext w w1:=Ext.trans (((Ext.refl w).alloc _).alloc _ |>.alloc _) iH;have t0:=(((JA.new w 34 _).alloc _ |>.alloc _).ext iH).cell (j:=0) rfl;have x0:=(((JA.newAt (B:=w.heap.size+1) (W:=w.alloc _) 47 _ kS).alloc _).ext iH).cell (j:=0) rfl;have x1:=(((JA.newAt (B:=w.heap.size+1) (W:=w.alloc _) 47 _ kS).alloc _).ext iH).cell (j:=1) rfl;have e0:=ZB8.cellAt g0;have e1:=ZB8.cellAt g1;have e2:=ZB8.cellAt g2;have e3:=ZB8.cellAt g3;have e4:=ZB8.cellAt g4;clear hgr1 hbl1))

  have yN:nE (w1.alloc (.cells #[.int .i64 t[p].evs[j].kind,.int .i64 t[p].evs[j].peer,.int .i64 t[p].evs[j].msg,.int .i64 t[p].evs[j].time,.slice A4 t[p].evs[j].asg.length cc4] 45)) w.heap.size (v1) ([(p,j+2)]):=(nE.snoc (l:=[]) hown1 rfl).alloc _
  have pV:Ext w (w1.alloc (.cells #[.int .i64 t[p].evs[j].kind,.int .i64 t[p].evs[j].peer,.int .i64 t[p].evs[j].msg,.int .i64 t[p].evs[j].time,.slice A4 t[p].evs[j].asg.length cc4] 45)):=ZB8.alloc _
  have b6:JA (w1.alloc (.cells #[.int .i64 t[p].evs[j].kind,.int .i64 t[p].evs[j].peer,.int .i64 t[p].evs[j].msg,.int .i64 t[p].evs[j].time,.slice A4 t[p].evs[j].asg.length cc4] 45)) (w1.heap.size) 45 #[.int .i64 t[p].evs[j].kind,.int .i64 t[p].evs[j].peer,.int .i64 t[p].evs[j].msg,.int .i64 t[p].evs[j].time,.slice A4 t[p].evs[j].asg.length cc4]:=JA.newAt _ _ kS
  generalize hbe:w1.heap.size=be at *
  clear hbe
  generalize w1.alloc (.cells #[.int .i64 t[p].evs[j].kind,.int .i64 t[p].evs[j].peer,.int .i64 t[p].evs[j].msg,.int .i64 t[p].evs[j].time,.slice A4 t[p].evs[j].asg.length cc4] 45)=W6 at yN pV b6⊢
  have hL6:=hL.ext pV
  have k0:=b6.cell (j:=0) rfl
  have k2:=b6.cell (j:=2) rfl
  cases k:t[p].evs[j].kind==2
  ·have HD:=zA (show fI t (p,j+1)=[(p,j+2)] by rw[CM hp hn' yK];unfold toB;rw[yK,k];simp[hn])
   go_quiet (fail)
   revert nq;intro n1
   go_wp2
   go_ret
   exact⟨_,rfl,by rw[HD.out];exact yN.drewN _,pV.drewN _⟩
  ·obtain⟨m,q,hm,SW,_,_,_⟩:=sE (hform'.out (p,j+1) hx) (by rw[yK];cases h1:t[p].evs[j].kind==1<;>simp_all)
   rw[yK]at hm
   have hm3:(m:Int)<200:=by omega
   rw[hm]at k2
   obtain⟨_,_,a2,a3⟩:=hA.2 m SW
   have c2:=hL6.cell a2
   have c3:=hL6.cell a3
   have HM:=zA hm
   clear hm
   by_cases h0:0<(VA t (ids t) 3 m).2
   ·have hd0:decide ((0:Int)<((VA t (ids t) 3 m).2:Int))=true:=by simp;omega
    have HD:=zA (show fI t (p,j+1)=[(p,j+2)]++[VA t (ids t) 3 m] by rw[CM hp hn' yK];unfold toB;rw[yK,k,HM.out];simp[hn,h0])
    go_quiet (fail)
    revert nq;intro n1
    go_wp2
    have ZDp:=uC.drewN yN n1
    have ZIZ:=pV.drewN n1
    have k27:(W6.drewN n1).cell? ⟨be,2,none⟩=some (.int .i64 m):=k2
    have c27:(W6.drewN n1).cell? ⟨bL,m*4+2,none⟩=some (.int .i64 (VA t (ids t) 3 m).1):=c2
    have c37:(W6.drewN n1).cell? ⟨bL,m*4+3,none⟩=some (.int .i64 (VA t (ids t) 3 m).2):=c3
    clear k2 c2 c3 k0 hL6 b6 yN
    generalize W6.drewN n1=W7 at *
    have NN:=ZIZ.size
    go_region_law (first
     |(refine sU (v:=v1) (.tmp 51) (.tmp 59) ZED rfl rfl rfl rfl (ZDp.ext (by repeat (first|exact Ext.refl _|assumption|apply Ext.alloc|apply Ext.drew|apply Ext.drewN|(refine Ext.trans ?_ aS)))) (SlC.lit (x:=VA t (ids t) 3 m) _ kS rfl rfl) (uM _) (by simp<;>omega) (by simp<;>omega) ?_;intro v8 w8 hown8 hgr8 hbl8))
    all_goals
     go_wp2
     go_ret
     exact⟨v8,rfl,by rw[HD.out];exact nE.snoc hown8 rfl,Ext.more (by repeat (first|exact Ext.refl _|assumption|apply Ext.alloc|apply Ext.drew|apply Ext.drewN|(refine Ext.trans ?_ aS))) hbl8⟩
   ·have hd0:decide ((0:Int)<((VA t (ids t) 3 m).2:Int))=false:=by simp;omega
    have HD:=zA (show fI t (p,j+1)=[(p,j+2)] by rw[CM hp hn' yK];unfold toB;rw[yK,k,HM.out];simp[hn,h0])
    go_quiet (fail)
    revert nq;intro n1
    go_wp2
    go_ret
    exact⟨_,rfl,by rw[HD.out];exact yN.drewN _,pV.drewN _⟩
 ·have hd:decide (((j+1:Nat):Int)<(t[p].evs.length:Int))=false:=by simp;omega
  have hd':decide ((j:Int)+1<(t[p].evs.length:Int))=false:=by simp;omega
  have ZLK:b2<w.heap.size+1+1:=by omega
  go_wp2_with fail

  have yN:nE (((w.alloc (.cells #[.slice (some ⟨b,off,none⟩) t.length c] 34)).alloc (.cells #[.int .i64 p,.int .i64 ((j:Int)+1)] 47)).alloc (.cells #[.int .i64 t[p].evs[j].kind,.int .i64 t[p].evs[j].peer,.int .i64 t[p].evs[j].msg,.int .i64 t[p].evs[j].time,.slice A4 t[p].evs[j].asg.length cc4] 45)) w.heap.size (Value.slice none 0 0) ([]):=uC.nil _ _ _ _
  have pV:Ext w (((w.alloc (.cells #[.slice (some ⟨b,off,none⟩) t.length c] 34)).alloc (.cells #[.int .i64 p,.int .i64 ((j:Int)+1)] 47)).alloc (.cells #[.int .i64 t[p].evs[j].kind,.int .i64 t[p].evs[j].peer,.int .i64 t[p].evs[j].msg,.int .i64 t[p].evs[j].time,.slice A4 t[p].evs[j].asg.length cc4] 45)):=(((Ext.refl w).alloc _).alloc _).alloc _
  have b6:JA (((w.alloc (.cells #[.slice (some ⟨b,off,none⟩) t.length c] 34)).alloc (.cells #[.int .i64 p,.int .i64 ((j:Int)+1)] 47)).alloc (.cells #[.int .i64 t[p].evs[j].kind,.int .i64 t[p].evs[j].peer,.int .i64 t[p].evs[j].msg,.int .i64 t[p].evs[j].time,.slice A4 t[p].evs[j].asg.length cc4] 45)) (w.heap.size+1+1) 45 #[.int .i64 t[p].evs[j].kind,.int .i64 t[p].evs[j].peer,.int .i64 t[p].evs[j].msg,.int .i64 t[p].evs[j].time,.slice A4 t[p].evs[j].asg.length cc4]:=JA.newAt _ _ kS
  generalize hbe:w.heap.size+1+1=be at *
  clear hbe
  generalize ((w.alloc (.cells #[.slice (some ⟨b,off,none⟩) t.length c] 34)).alloc (.cells #[.int .i64 p,.int .i64 ((j:Int)+1)] 47)).alloc (.cells #[.int .i64 t[p].evs[j].kind,.int .i64 t[p].evs[j].peer,.int .i64 t[p].evs[j].msg,.int .i64 t[p].evs[j].time,.slice A4 t[p].evs[j].asg.length cc4] 45)=W6 at yN pV b6⊢
  have hL6:=hL.ext pV
  have k0:=b6.cell (j:=0) rfl
  have k2:=b6.cell (j:=2) rfl
  cases k:t[p].evs[j].kind==2
  ·have HD:=zA (show fI t (p,j+1)=[] by rw[CM hp hn' yK];unfold toB;rw[yK,k];simp[hn])
   go_quiet (fail)
   revert nq;intro n1
   go_wp2
   go_ret
   exact⟨_,rfl,by rw[HD.out];exact yN.drewN _,pV.drewN _⟩
  ·obtain⟨m,q,hm,SW,_,_,_⟩:=sE (hform'.out (p,j+1) hx) (by rw[yK];cases h1:t[p].evs[j].kind==1<;>simp_all)
   rw[yK]at hm
   have hm3:(m:Int)<200:=by omega
   rw[hm]at k2
   obtain⟨_,_,a2,a3⟩:=hA.2 m SW
   have c2:=hL6.cell a2
   have c3:=hL6.cell a3
   have HM:=zA hm
   clear hm
   by_cases h0:0<(VA t (ids t) 3 m).2
   ·have hd0:decide ((0:Int)<((VA t (ids t) 3 m).2:Int))=true:=by simp;omega
    have HD:=zA (show fI t (p,j+1)=[]++[VA t (ids t) 3 m] by rw[CM hp hn' yK];unfold toB;rw[yK,k,HM.out];simp[hn,h0])
    go_quiet (fail)
    revert nq;intro n1
    go_wp2
    have ZDp:=uC.drewN yN n1
    have ZIZ:=pV.drewN n1
    have k27:(W6.drewN n1).cell? ⟨be,2,none⟩=some (.int .i64 m):=k2
    have c27:(W6.drewN n1).cell? ⟨bL,m*4+2,none⟩=some (.int .i64 (VA t (ids t) 3 m).1):=c2
    have c37:(W6.drewN n1).cell? ⟨bL,m*4+3,none⟩=some (.int .i64 (VA t (ids t) 3 m).2):=c3
    clear k2 c2 c3 k0 hL6 b6 yN
    generalize W6.drewN n1=W7 at *
    have NN:=ZIZ.size
    go_region_law (first
     |(refine sU (v:=Value.slice none 0 0) (.tmp 51) (.tmp 59) ZED rfl rfl rfl rfl (ZDp.ext (by repeat (first|exact Ext.refl _|assumption|apply Ext.alloc|apply Ext.drew|apply Ext.drewN|(refine Ext.trans ?_ aS)))) (SlC.lit (x:=VA t (ids t) 3 m) _ kS rfl rfl) (uM _) (by simp<;>omega) (by simp<;>omega) ?_;intro v8 w8 hown8 hgr8 hbl8))
    all_goals
     go_wp2
     go_ret
     exact⟨v8,rfl,by rw[HD.out];exact nE.snoc hown8 rfl,Ext.more (by repeat (first|exact Ext.refl _|assumption|apply Ext.alloc|apply Ext.drew|apply Ext.drewN|(refine Ext.trans ?_ aS))) hbl8⟩
   ·have hd0:decide ((0:Int)<((VA t (ids t) 3 m).2:Int))=false:=by simp;omega
    have HD:=zA (show fI t (p,j+1)=[] by rw[CM hp hn' yK];unfold toB;rw[yK,k,HM.out];simp[hn,h0])
    go_quiet (fail)
    revert nq;intro n1
    go_wp2
    go_ret
    exact⟨_,rfl,by rw[HD.out];exact yN.drewN _,pV.drewN _⟩
end Go.Proofs.YtadnnjchehjbiaaGreatDoor
namespace Go.Proofs.YtadnnjchehjbiaaGreatDoor
open Go.RowKit
set_option linter.unusedVariables false

theorem ZHs (d:Nat) (x y:Nat×Nat) (w:World):(Op.equalIn (d+1+1) 47 (RB x) (RB y)).run Tryz.prog w=.ok (x==y) w:=by
 have hf:Tryz.prog.fieldsOf 47=#[{name:= "Proc",type:=3,offset:=0,embedded:=false,tag:= "",pkgPath:= "",byteOffset:=0},{name:= "Index",type:=3,offset:=1,embedded:=false,tag:= "",pkgPath:= "",byteOffset:=8}]:=by
  simp[Program.fieldsOf,Tryz.underlying47]
 unfold RB
 rw[run_equalIn_agg w _ _ _ _ (by rw[hf];exact Tryz.underlying47) Tryz.stoodInHeld47,hf]
 simp[Op.eqFields,go_sem]
 obtain⟨a,b⟩:=x
 obtain⟨c,d⟩:=y
 simp only
 by_cases h1:a=c
 ·by_cases h2:b=d
  ·subst h1;subst h2;simp
  ·have:¬((b:Int)=d):=by omega
   rw[if_pos oM,if_neg this]
   simp[h1,h2]
 ·rw[if_neg oM]
  simp[h1]
theorem VV (d:Nat) (e:Bool) (x:Nat×Nat) (w:World):(Instr.checkKey e (d+1+1) 47 (RB x)).run Tryz.prog w=.ok () w:=by
 unfold RB
 simp[Instr.checkKey,run_underlying Tryz.underlying47,go_sem]
def OI (w:World) (r:Nat) (S:List (Nat×Nat)):Prop:=∃es clock,w.heap[r]? = some (.map es clock)∧es.toList.map (fun e=>(e.key,e.val))=S.map fun x=>(RB x,Value.bool true)
theorem P7 (y:Nat×Nat) (w:World):∀(es:List MapEntry) (S:List (Nat×Nat)) (i:Nat),es.map (fun e=>(e.key,e.val))=S.map (fun x=>(RB x,Value.bool true)) →
  ∃r,(Instr.findAsking 47 (RB y) es i).run Tryz.prog w=.ok r w∧(y∈S→∃k,r=some (k,.bool true))∧(y∉S→r=none)
 |[],S,i,h=>by
   have:S=[]:=by cases S<;>simp at h⊢
   subst this
   exact⟨none,rfl,fun h=>absurd h kS,fun _=>rfl⟩
 |e::es,[],i,h=>by simp at h
 |e::es,x::S,i,h=>by
   simp only[ba,List.cons.injEq,ku]at h
   obtain⟨⟨h1,h2⟩,h3⟩:=h
   unfold Instr.findAsking
   have he:(Op.equal 47 (RB y) e.key).run Tryz.prog w=.ok (y==x) w:=by rw[h1];exact ZHs 9998 y x w
   by_cases hyx:y=x
   ·subst hyx
    refine⟨some (i,e.val),by simp[he],fun _=>⟨i,by rw[h2]⟩,fun hn=>absurd kS hn⟩
   ·obtain⟨r,hr,ha,hb⟩:=P7 y w es S (i+1) h3
    refine⟨r,by simp[he,hyx,hr],fun hm=>ha ((dx.1 hm).resolve_left hyx),fun hn=>hb (fun hm=>hn (lw _ hm))⟩
theorem KS (y:Nat×Nat) (w:World) (es:List MapEntry) (S:List (Nat×Nat)) (h:es.map (fun e=>(e.key,e.val))=S.map (fun x=>(RB x,Value.bool true))) :
  ∃r,(Instr.findKey 47 (RB y) es).run Tryz.prog w=.ok r w∧(y∈S→∃k,r=some (k,.bool true))∧(y∉S→r=none):=by
 obtain⟨r,hr,ha,hb⟩:=P7 y w es S 0 h
 refine⟨r,?_,ha,hb⟩
 unfold Instr.findKey
 cases es with
 |nil =>
   have:r=none:=by
    refine hb (fun hm=>?_)
    cases S<;>simp at h hm
   subst this
   simp[run_underlying Tryz.underlying47,Instr.findNow]
 |cons e es =>
   have hs:Instr.findNow (TypeDesc.struct #[{name:= "Proc",type:=3,offset:=0,embedded:=false,tag:= "",pkgPath:= "",byteOffset:=0},{name:= "Index",type:=3,offset:=1,embedded:=false,tag:= "",pkgPath:= "",byteOffset:=8}]) (RB y) (e::es) 0=none:=by
    simp[Instr.findNow,Instr.sameNow]
   simp[run_underlying Tryz.underlying47,hs,hr]
theorem aH {w:World} {r:Nat} {S:List (Nat×Nat)} (h:OI w r S) (y:Nat×Nat):(Instr.lookup 172 (.map (some r)) (RB y) false).run Tryz.prog w=.ok (.bool (decide (y∈S))) w:=by
 obtain⟨es,clock,hb,hS⟩:=h
 obtain⟨q,hq,ha,hc⟩:=KS y w es.toList S hS
 have hk:(Instr.checkKey es.isEmpty 10000 47 (RB y)).run Tryz.prog w=.ok () w:=VV 9998 es.isEmpty y w
 have hg:=run_getObj_map (P:=Tryz.prog) w r es clock hb
 unfold Instr.lookup
 by_cases hm:y∈S
 ·obtain⟨k,rfl⟩:=ha hm
  simp[run_underlying Tryz.underlying172,hg,hk,hq,hm]
 ·obtain rfl:=hc hm
  simp[run_underlying Tryz.underlying172,hg,hk,hq,hm,go_sem]
theorem VN {w:World} {r:Nat} {S:List (Nat×Nat)} (h:OI w r S) (y:Nat×Nat) (hy:y∉S):∃w',(Instr.mapUpdate 172 (.map (some r)) (RB y) (.bool true)).run Tryz.prog w=.ok () w'∧OI w' r (S++[y])∧w.grownBy w' (some r):=by
 obtain⟨es,clock,hb,hS⟩:=h
 obtain⟨q,hq,ha,hc⟩:=KS y w es.toList S hS
 have hk:(Instr.checkKey false 10000 47 (RB y)).run Tryz.prog w=.ok () w:=VV 9998 false y w
 have hg:=run_getObj_map (P:=Tryz.prog) w r es clock hb
 have tV:∀o,(setObj r o).run Tryz.prog w=.ok () (w.putObj r o):=fun o=>by
  simp[setObj,Sem.run,World.putObj,hb]
 obtain rfl:=hc hy
 refine⟨w.putObj r (.map (es.push {key:=RB y,val:=.bool true,born:=clock}) (clock+1)),?_,⟨_,_,World.putObj_heap_same (bp.1 hb).1,?_⟩,grownBy_putObj' _ _ _⟩
 ·unfold Instr.mapUpdate
  simp[run_underlying Tryz.underlying172,hg,hk,hq,tV]
 ·simp[hS]
theorem OI.new (w:World):OI (w.alloc (.map #[] 0)) w.heap.size []:=⟨#[],0,World.alloc_heap_new w _,rfl⟩
theorem OI.kept {w w':World} {row:Option Nat} {r:Nat} {S:List (Nat×Nat)} (h:OI w r S) (hg:w.grownBy w' row) (YH:some r≠row):OI w' r S:=by
 obtain⟨es,clock,hb,hS⟩:=h
 exact⟨es,clock,(hg.block r (bp.1 hb).1 YH).trans hb,hS⟩
theorem OI.lt {w:World} {r:Nat} {S:List (Nat×Nat)} (h:OI w r S):r<w.heap.size:=by
 obtain⟨es,clock,hb,hS⟩:=h
 exact (bp.1 hb).1
theorem OI.alloc {w:World} {r:Nat} {S:List (Nat×Nat)} (h:OI w r S) (o:Obj):OI (w.alloc o) r S:=h.kept (World.grownBy_alloc w o none) kS
theorem OI.ext {w w':World} {r:Nat} {S:List (Nat×Nat)} (h:OI w r S) (he:Ext w w'):OI w' r S:=by
 obtain⟨es,clock,hb,hS⟩:=h
 exact⟨es,clock,(he.block r (bp.1 hb).1).trans hb,hS⟩
theorem OI.other {w:World} {r b j:Nat} {S:List (Nat×Nat)} (h:OI w r S) (YH:r≠b) (u:Value):OI (w.setCell ⟨b,j,none⟩ u) r S:=by
 obtain⟨es,clock,hb,hS⟩:=h
 exact⟨es,clock,(Below.heap_setCell _ _ _ _ (by simpa using YH)).trans hb,hS⟩
theorem OI.not_box {w:World} {r b:Nat} {S:List (Nat×Nat)} {t:TypeId} {cs:Array Value} (h:OI w r S) (hb:JA w b t cs):r≠b:=by
 rintro rfl
 obtain⟨es,clock,h1,_⟩:=h
 rw[show w.heap[r]? = _ from hb]at h1;cases h1
theorem uC.not_map {size:Nat} {e:TypeId} {w:World} {B:Nat} {v:Value} {n:Nat} {cs:List Value} (h:uC size e w B v n cs) {r:Nat} {S:List (Nat×Nat)} (hm:OI w r S):v.ownBlock≠some r:=by
 rcases h.2 with ⟨rfl,_⟩|⟨g,off,cap,cur,rfl,_,hb,_⟩
 ·simp[Value.ownBlock]
 ·intro he
  simp[Value.ownBlock]at he
  exact hm.not_box hb he.symm
end Go.Proofs.YtadnnjchehjbiaaGreatDoor
namespace Go.Proofs.YtadnnjchehjbiaaGreatDoor
set_option linter.unusedVariables false

theorem LX {t:Tr} {k m:Int} (h:0<(VA t (ids t) k m).2):VA t (ids t) k m∈ids t∧TC t k m=some (VA t (ids t) k m):=by
 have e:TC t k m=(ids t).find? (ZG t k m):=rfl
 rw[e]
 unfold VA at h⊢
 cases hf:(ids t).find? (ZG t k m) with
 |none=>rw[hf]at h;simp at h
 |some y=>exact⟨ge hf,rfl⟩
theorem xC {t:Tr} {k m:Int} {y:Nat×Nat} (h:TC t k m=some y):VA t (ids t) k m=y∧0<y.2∧y∈ids t:=by
 have e:TC t k m=(ids t).find? (ZG t k m):=rfl
 rw[e]at h
 refine⟨by unfold VA;rw[h];rfl,MF (ge h),ge h⟩
theorem JZ {t:Tr} {x y:Nat×Nat}:y∈fI t x↔Dir t x y:=by
 unfold fI Dir toB
 rw[bn]
 constructor
 ·rintro (h|h)
  ·split at h
   ·rename_i bB
    exact .inl ⟨by simpa using h,bB⟩
   ·cases h
  ·split at h
   ·rename_i hb
    simp only[ar,beq_iff_eq,bj]at hb
    have:y=VA t (ids t) 3 (rA t x).msg:=by simpa using h
    subst this
    exact .inr ⟨hb.1,(LX hb.2).2⟩
   ·cases h
 ·rintro (⟨rfl,bB⟩|⟨hk,hf⟩)
  ·rw[if_pos bB];exact .inl kS
  ·obtain⟨h1,h2,_⟩:=xC hf
   refine .inr ?_
   rw[if_pos (by rw[h1];simp[hk,h2]),h1]
   simp
theorem Dir.mem {t:Tr} {x y:Nat×Nat} (hx:x∈ids t) (h:Dir t x y):y∈ids t:=by
 rcases h with ⟨rfl,bB⟩|⟨_,hf⟩
 ·obtain⟨hp,_,_⟩:=VE.1 hx
  refine VE.2 ⟨hp,by simp,?_⟩
  unfold sA at bB
  rw[SC dfPr t hp]at bB
  exact bB
 ·exact (xC hf).2.2
theorem Hb.mem {t:Tr} {x y:Nat×Nat} (hx:x∈ids t) (h:Hb t x y):y∈ids t:=by
 induction h with
 |one h=>exact h.mem hx
 |more _ h ih=>exact h.mem ih
structure DfsI (t:Tr) (id:Nat×Nat) (S R:List (Nat×Nat)):Prop where
 nod:S.Nodup
 notid:id∉S
 reach:∀y∈S,Hb t id y
 rest:∀y∈R,y=id∨y∈S
 closed:∀x,x=id∨x∈S→x∈R∨∀y,Dir t x y→y∈S
structure DfsJ (t:Tr) (id x:Nat×Nat) (S R:List (Nat×Nat)) (k:Nat):Prop where
 nod:S.Nodup
 notid:id∉S
 reach:∀y∈S,Hb t id y
 rest:∀y∈R,y=id∨y∈S
 cur:x=id∨x∈S
 closed:∀z,z=id∨z∈S→z∈R∨z=x∨∀y,Dir t z y→y∈S
 done:∀y∈(fI t x).take k,y∈S
theorem DfsI.start (t:Tr) (id:Nat×Nat):DfsI t id [] [id]:=
 ⟨List.nodup_nil,by simp,by simp,fun y h=>.inl (by simpa using h),fun x h=>.inl (by simpa using h)⟩
theorem DfsI.pop {t:Tr} {id x:Nat×Nat} {S R:List (Nat×Nat)} (h:DfsI t id S (R++[x])):DfsJ t id x S R 0:=
 ⟨h.nod,h.notid,h.reach,fun y hy=>h.rest y (by simp[hy]),h.rest x kS,fun z hz=>by
  rcases h.closed z hz with h1|h1
  ·rcases bn.1 h1 with h2|h2
   ·exact .inl h2
   ·exact .inr (.inl (by simpa using h2))
  ·exact .inr (.inr h1),by simp⟩
theorem nN {α:Type} {l:List α} {k:Nat} {y:α} (h:l[k]? = some y):l.take (k+1)=l.take k++[y]:=by
 rw[gu,h];rfl
theorem DfsJ.skip {t:Tr} {id x y:Nat×Nat} {S R:List (Nat×Nat)} {k:Nat} (h:DfsJ t id x S R k) (hk:(fI t x)[k]? = some y) (hy:y∈S):DfsJ t id x S R (k+1):=
 ⟨h.nod,h.notid,h.reach,h.rest,h.cur,h.closed,fun z hz=>by
  rw[nN hk]at hz
  rcases bn.1 hz with h1|h1
  ·exact h.done z h1
  ·have:z=y:=by simpa using h1
   subst this;exact hy⟩
theorem DfsJ.hb {t:Tr} {id x y:Nat×Nat} {S R:List (Nat×Nat)} {k:Nat} (h:DfsJ t id x S R k) (hk:(fI t x)[k]? = some y):Hb t id y:=by
 have hd:Dir t x y:=JZ.1 (cd hk)
 rcases h.cur with rfl|h1
 ·exact .one hd
 ·exact .more (h.reach x h1) hd
theorem DfsJ.push {t:Tr} {id x y:Nat×Nat} {S R:List (Nat×Nat)} {k:Nat} (h:DfsJ t id x S R k) (hk:(fI t x)[k]? = some y) (hy:y∉S) (YH:y≠id):DfsJ t id x (S++[y]) (R++[y]) (k+1):=by
 have hr:=h.hb hk
 refine⟨?_,?_,?_,?_,?_,?_,?_⟩
 ·refine jo.2 ⟨h.nod,by simp,fun a ha b hb=>?_⟩
  have:b=y:=by simpa using hb
  subst this
  exact fun e=>hy (e▸ha)
 ·intro hm
  rcases bn.1 hm with h1|h1
  ·exact h.notid h1
  ·exact YH (by simpa using h1:id=y).symm
 ·intro z hz
  rcases bn.1 hz with h1|h1
  ·exact h.reach z h1
  ·have:z=y:=by simpa using h1
   subst this;exact hr
 ·intro z hz
  rcases bn.1 hz with h1|h1
  ·exact (h.rest z h1).imp_right fun h2=>by simp[h2]
  ·exact .inr (bn.2 (.inr h1))
 ·exact h.cur.imp_right fun h2=>by simp[h2]
 ·intro z hz
  have:z=y∨z=id∨z∈S:=by
   rcases hz with h1|h1
   ·exact .inr (.inl h1)
   ·rcases bn.1 h1 with h2|h2
    ·exact .inr (.inr h2)
    ·exact .inl (by simpa using h2)
  rcases this with rfl|h1
  ·exact .inl kS
  ·rcases h.closed z h1 with h2|h2|h2
   ·exact .inl (by simp[h2])
   ·exact .inr (.inl h2)
   ·exact .inr (.inr fun w hw=>by simp[h2 w hw])
 ·intro z hz
  rw[nN hk]at hz
  rcases bn.1 hz with h1|h1
  ·simp[h.done z h1]
  ·exact bn.2 (.inr h1)
theorem DfsJ.fin {t:Tr} {id x:Nat×Nat} {S R:List (Nat×Nat)} {k:Nat} (h:DfsJ t id x S R k) (hk:(fI t x).length≤k):DfsI t id S R:=
 ⟨h.nod,h.notid,h.reach,h.rest,fun z hz=>by
  rcases h.closed z hz with h2|h2|h2
  ·exact .inl h2
  ·subst h2
   refine .inr fun y hy=>h.done y ?_
   rw[cv hk]
   exact JZ.2 hy
  ·exact .inr h2⟩
theorem DfsI.no {t:Tr} {id:Nat×Nat} {S:List (Nat×Nat)} (h:DfsI t id S []):¬Hb t id id:=by
 have key:∀y,Hb t id y→y∈S:=by
  intro y hy
  induction hy with
  |one hd=>exact (h.closed id (.inl rfl)).resolve_left kS _ hd
  |more _ hd ih=>exact (h.closed _ (.inr ih)).resolve_left kS _ hd
 exact fun hh=>h.notid (key id hh)
theorem xM {α:Type} [DecidableEq α]:∀{S L:List α},S.Nodup→(∀x∈S,x∈L)→S.length≤L.length
 |[],_,_,_=>an _
 |a::S,L,hn,hs=>by
   have h1:=kj.1 hn
   have h2:S.length≤(L.erase a).length:=xM h1.2 fun x hx=>by
    have YH:x≠a:=fun e=>h1.1 (e▸hx)
    exact (List.mem_erase_of_ne YH).2 (hs x (by simp[hx]))
   have ha:a∈L:=hs a kS
   rw[List.length_erase_of_mem ha]at h2
   have:=List.length_pos_of_mem ha
   simp;omega
theorem DfsI.few {t:Tr} {id:Nat×Nat} {S R:List (Nat×Nat)} (h:DfsI t id S R) (hid:id∈ids t):S.length≤(ids t).length:=
 xM h.nod fun x hx=>(h.reach x hx).mem hid
theorem DfsJ.few {t:Tr} {id x:Nat×Nat} {S R:List (Nat×Nat)} {k:Nat} (h:DfsJ t id x S R k) (hid:id∈ids t):S.length≤(ids t).length:=
 xM h.nod fun x hx=>(h.reach x hx).mem hid
theorem DfsJ.mem {t:Tr} {id x:Nat×Nat} {S R:List (Nat×Nat)} {k:Nat} (h:DfsJ t id x S R k) (hid:id∈ids t):x∈ids t:=by
 rcases h.cur with rfl|h1
 ·exact hid
 ·exact (h.reach x h1).mem hid
set_option linter.unusedSimpArgs false

theorem YA {α:Type} {l:List α} {i:Nat} {d:α} (h:i<l.length):l.getD i d=l[i]:=by simp[List.getD,h]
theorem ZC1 {v w:List Int} (h:v.length=w.length) (hg:∀i,i<v.length→v.getD i 0=w.getD i 0):v=w:=by
 refine ma h (fun i h1 h2=>?_)
 have:=hg i h1
 rwa [YA h1,YA h2]at this
theorem getD_set_ne {α:Type} {l:List α} {i j:Nat} {x d:α} (h:i≠j):(l.set i x).getD j d=l.getD j d:=by
 simp only[aq,bq h]
open Go.RowKit
attribute [local go_sem] Oper.semAt_some

def YI (t:Tr) (w:World) (u:Value) (bL:Nat) (l:List (Nat×Nat)) (W:World):Prop:=
 (((((JA W w.heap.size 34 #[u]∧JA W (w.heap.size+1) 110 #[.pointer (some ⟨bL,0,none⟩)])∧JA W (w.heap.size+1+1) 47 #[.int .i64 0,.int .i64 0])∧JA W (w.heap.size+1+1+1) 4 #[.bool false])∧Ext w W)∧∀x∈l,¬Hb t x x)
def YX (t:Tr) (w:World) (l:List (Nat×Nat)) (W:World):Prop:=
 ∃a x,(((l=a++[x]∧(∀y∈a,¬Hb t y y)∧Hb t x x)∧JA W (w.heap.size+1+1) 47 #[.int .i64 x.1,.int .i64 x.2])∧JA W (w.heap.size+1+1+1) 4 #[.bool true])∧Ext w W
open Classical in
noncomputable def UI (t:Tr):Option (Nat×Nat):=(ids t).find? (fun x=>decide (Hb t x x))
def YPost (t:Tr) (w:World) (e:Ending) (w':World):Prop:=Ext w w' ∧
 ((∃x,UI t=some x∧e=.returned (.tuple #[RB x,.bool true]))∨(UI t=none∧e=.returned (.tuple #[RB (0,0),.bool false])))
theorem n6 (t:Tr) (w:World) (u:Value) (bL:Nat) {n:Nat} (hn:w.heap.size≤n):OwnFrom n (fun (pre:List (Idt t)) W=>YI t w u bL (pre.map (·.1)) W):=
 OwnFrom.and (OwnFrom.and (OwnFrom.and (OwnFrom.and (OwnFrom.and (GA _ _ _ _) (GA _ _ _ _)) (GA _ _ _ _)) (GA _ _ _ _)) (dG hn)) (ownFrom_pure _ _)
theorem ZEX (t:Tr) (w:World) {n:Nat} (hn:w.heap.size≤n):OwnFrom n (fun (pre:List (Idt t)) W=>YX t w (pre.map (·.1)) W):=by
 rintro s X Y row ⟨a,x,h⟩ hg hr
 refine⟨a,x,⟨⟨h.1.1.1,?_⟩,?_⟩,dG hn () X Y row h.2 hg hr⟩
 ·exact GA _ n _ (fun (_:Unit)=>_) () X Y row h.1.1.2 hg hr
 ·exact GA _ n _ (fun (_:Unit)=>_) () X Y row h.1.2 hg hr
theorem ZF0 {t:Tr} (h:∀x∈ids t,¬Hb t x x):UI t=none:=by
 unfold UI
 rw[dg]
 intro x hx;simpa using h x hx
open Classical in
theorem ZFZ {t:Tr} {a:List (Nat×Nat)} {x:Nat×Nat} (hp:a++[x] <+: ids t) (ha:∀y∈a,¬Hb t y y) (hx:Hb t x x):UI t=some x:=by
 obtain⟨c,hc⟩:=hp
 unfold UI
 rw[←hc,ay,hU]
 have:a.find? (fun x=>decide (Hb t x x))=none:=by
  rw[dg]
  intro y hy;simpa using ha y hy
 rw[this]
 simp[hx]
def wW (w:World) (r:Nat):Nat:=match w.heap[r]? with|some (.map es _)=>es.size|_=>0
theorem OI.size {w:World} {r:Nat} {S:List (Nat×Nat)} (h:OI w r S):wW w r=S.length:=by
 obtain⟨es,clock,hb,hS⟩:=h
 unfold wW
 rw[hb]
 have:=congrArg List.length hS
 simpa using this
def lenV:Value→Nat|.slice _ n _=>n|_=>0
def SrI (t:Tr) (id:Nat×Nat) (W:World) (r:Nat) (v:Value) (wr:World):Prop:=∃S R,DfsI t id S R∧OI wr r S∧nE wr W.heap.size v R∧Ext W wr∧2*((ids t).length-S.length)+R.length≤2*(ids t).length+1
def SrJ (t:Tr) (id x:Nat×Nat) (W:World) (r N:Nat) (v2 i v:Value) (wr:World):Prop:=∃S R k,DfsJ t id x S R k∧k≤(fI t x).length∧i=.int .i64 k∧OI wr r S∧nE wr W.heap.size v R∧Ext W wr∧2*((ids t).length-S.length)+R.length≤N∧nE wr 0 v2 (fI t x)∧(∀k,v.ownBlock=some k→v2.ownBlock≠some k)
theorem snoc_cases {α:Type} (l:List α):l=[]∨∃L b,l=L++[b]:=by
 rcases List.eq_nil_or_concat l with h|⟨L,b,h⟩
 ·exact .inl h
 ·exact .inr ⟨L,b,by rw[h,List.concat_eq_append]⟩
theorem ZCS {l:List (Nat×Nat)}:∀{k:Nat} {z:Nat×Nat},l[k]? = some z→(NK l)[k*2]? = some (.int .i64 z.1)∧(NK l)[k*2+1]? = some (.int .i64 z.2):=by
 induction l with
 |nil=>intro k z h;simp at h
 |cons a l ih =>
   intro k z h
   have e:NK (a::l)=(.int .i64 a.1)::(.int .i64 a.2)::NK l:=rfl
   rw[e]
   cases k with
   |zero=>simp at h;subst h;simp
   |succ k =>
     have:=ih (k:=k) (z:=z) (by simpa using h)
     rw[show (k+1)*2=k*2+1+1 by omega]
     simpa using this
theorem nE.at_ {w:World} {B:Nat} {v:Value} {l:List (Nat×Nat)} (h:nE w B v l) (h0:0<l.length):∃g off cap,v=.slice (some ⟨g,off,none⟩) l.length cap∧l.length≤cap∧cap≤maxLen∧B≤g∧g<w.heap.size ∧
  ∀(k:Nat) (z:Nat×Nat),l[k]? = some z→w.cell? ⟨g,off+k*2,none⟩=some (.int .i64 z.1)∧w.cell? ⟨g,off+k*2+1,none⟩=some (.int .i64 z.2):=by
 obtain⟨g,off,cap,cur,rfl,h1,h2,h3,h4,h5,h6⟩:=uC.open_ h h0
 refine⟨g,off,cap,rfl,h3,h4,h1,h2.lt,fun k z hk=>?_⟩
 obtain⟨a,b⟩:=ZCS hk
 exact⟨h2.cell (h6 _ _ a),h2.cell (h6 _ _ b)⟩
theorem nE.pop {w:World} {B:Nat} {A:Option Addr} {c n:Nat} {l:List (Nat×Nat)} {y:Nat×Nat} (h:nE w B (.slice A n c) (l++[y])):nE w B (.slice A l.length c) l:=by
 obtain⟨A',c',hv,_⟩:=uC.form h
 injection hv with e1 e2 e3
 subst e1;subst e2;subst e3
 have:=uC.take h l.length kS
 have e:(NK (l++[y])).take (l.length*2)=NK l:=by
  rw[show NK (l++[y])=NK l++NK [y] by simp[NK],List.take_left' (ZCR l)]
 rw[e]at this
 exact this

theorem U3 (u:Value) (t:Tr) (bL:Nat) (cs:Array Value) (w:World) (hl:t.length≤1000000) (nL:∀x∈t,x.evs.length≤1000000) (hN:(ids t).length≤1000000) (hs:SlR 3 RPr w u t) (VK:∀x∈ids t,lC t.length x.1 (rA t x)=true)
  (hL:JA w bL 151 cs) (hA:ON t (ids t) cs) :
  Calls Tryz.prog 92 #[.agg #[u],.pointer (some ⟨bL,0,none⟩)] w fun e w'=>YPost t w e w':=by
 refine callsIn_wide (n:=9).1 ?_
 refine callsIn_of_wp_marks Tryz.func92 rfl trivial ?_ rfl
 simp only[Tryz.ntmps92,eh,ck,cr,Nat.reduceAdd,Nat.reduceSub,ik,il,im,io,cg,bw]
 gi_wp2_with (refine⟨trivial,?_⟩;gi_at_call 55;refine (callsIn_wide.2 (cH _ _)).mono ?_;rintro e w' ⟨rfl,rfl⟩)
 obtain⟨W0,pY⟩:∃W0,(((((w.alloc (Obj.cells #[u] 34)).alloc (Obj.cells #[Value.pointer (some ⟨bL,0,none⟩)] 110)).alloc (Obj.cells #[Value.int IntKind.i64 0,Value.int IntKind.i64 0] 47)).alloc (Obj.cells #[Value.bool false] 4)).alloc (Obj.cells #[u] 34))=W0:=⟨_,rfl⟩
 rw[pY]
 have NN:W0.heap.size=w.heap.size+1+1+1+1+1:=by rw[←pY];simp
 have hM0:YI t w u bL [] W0:=by
  rw[←pY]
  refine⟨⟨⟨⟨⟨?_,?_⟩,?_⟩,?_⟩,?_⟩,fun x hx=>by cases hx⟩
  ·exact ((((JA.newAt _ _ kS).alloc _).alloc _).alloc _).alloc _
  ·exact (((JA.newAt _ _ kS).alloc _).alloc _).alloc _
  ·exact ((JA.newAt _ _ kS).alloc _).alloc _
  ·exact (JA.newAt _ _ kS).alloc _
  ·exact (((((Ext.refl w).alloc _).alloc _).alloc _).alloc _).alloc _
 have bt:JA W0 (w.heap.size+1+1+1+1) 34 #[u]:=by rw[←pY];exact JA.newAt _ _ kS
 clear pY
 have LP:Ext w W0:=hM0.1.2
 refine wpIn_rangeFunc_ownH rfl oM (gf:=94) (lb:=#[.pointer (some ⟨w.heap.size+1+1+1+1,0,none⟩)]) rfl trivial (XD Tryz.func94 kE rfl)
  (gG 8 oM w u t (w.heap.size+1+1+1+1) W0 hl nL hs LP (bt.cell rfl) oM) belowK_t (belowK_b oM) (Below.refl _ _) (fun _=>rfl)
  (fun pre W=>YI t w u bL (pre.map (·.1)) W) (fun c pre W=>c=.ret∧YX t w (pre.map (·.1)) W) (n6 t w u bL oM) (fun c=>OwnFrom.and (ownFrom_pure _ _) (ZEX t w oM)) hM0
  (fun x a' W=>∃B6 v14 v15,w.heap.size+1+1+1<B6∧JA W B6 47 #[.int .i64 x.1.1,.int .i64 x.1.2] ∧
   a'={tmps:=#[.agg #[u],.pointer (some ⟨bL,0,none⟩),.pointer (some ⟨w.heap.size,0,none⟩),.pointer (some ⟨w.heap.size+1,0,none⟩),.pointer (some ⟨w.heap.size+1+1,0,none⟩),.pointer (some ⟨w.heap.size+1+1+1,0,none⟩),.pointer (some ⟨B6,0,none⟩),undef,undef,undef,undef,undef,.agg #[u],.func (.func 94) #[] #[.pointer (some ⟨w.heap.size+1+1+1+1,0,none⟩)],v14,v15,undef,undef,undef,undef,undef,undef,undef,undef,undef,undef,undef,undef,undef,undef,undef,undef,undef,undef,undef,undef,undef,undef,undef,undef,undef,undef,undef,undef,undef,undef,undef,undef,undef,undef,undef,undef,undef,undef,undef,undef,undef,undef],defers:=[]})
  ?hax ?assign ?body ?done ?stop
 case hax =>
  rintro x a' _ X Y row ⟨B6,v14,v15,hB,b6,ha⟩ hg hr
  exact⟨B6,v14,v15,hB,GA B6 _ _ (fun (_:Unit)=>_) () X Y row b6 hg hr,ha⟩
 case assign =>
  rintro l pre x W K hI hK
  have hsW:=hI.1.2.size
  have h5:=hI.1.1.2.lt
  unfold RB
  gi_wp2
  exact hK _ _ ((KeepsOthers.alloc _ _).from _) ((Below.refl _ W).alloc hsW _) ((n6 t w u bL (ah _)).alloc _ hI) ⟨W.heap.size,_,_,h5,JA.new _ _ _,rfl⟩
 case body =>
  rintro l pre x a' W hlW ⟨r,hr⟩ hI ⟨B6,v14,v15,hB,b6,rfl⟩ jD
  have hI0:=hI
  obtain⟨⟨⟨⟨⟨tb,lb⟩,r1⟩,r2⟩,hx0⟩,DO⟩:=hI
  have hsW:=hx0.size
  have hB6:=b6.lt
  have t3:=r2.lt
  have HNO:=zA DO
  clear DO
  have i0:=b6.cell (j:=0) rfl
  have i1:=b6.cell (j:=1) rfl
  have hmm:=@run_makeMap Tryz.prog
  gi_wp2
  clear hmm i0 i1
  gi_loopw [8] (fun v wr=>SrI t x.1 W W.heap.size v wr) (fun v wr=>2*((ids t).length-wW wr W.heap.size)+lenV v)
  case atStart =>
   refine⟨[],[x.1],DfsI.start t x.1,(OI.new W).alloc _,?_,((Ext.refl W).alloc _).alloc _,by simp⟩
   exact uC.madeAt kS #[.int .i64 x.1.1,.int .i64 x.1.2] kS (by simp[maxLen]) rfl
  case round =>
   obtain⟨Sn,R,hD,hm,ho,hx,hbd⟩:=hrel
   have HM:=zA hm
   have HO:=zA ho
   have HD:=zA hD
   have tb1:=tb.ext hx
   have lb1:=lb.ext hx
   have b61:=b6.ext hx
   have lt1:=tb1.lt
   have lt2:=lb1.lt
   have lt3:=b61.lt
   have t0:=tb1.cell (j:=0) rfl
   have l0:=lb1.cell (j:=0) rfl
   have i0:=b61.cell (j:=0) rfl
   have i1:=b61.cell (j:=1) rfl
   rcases snoc_cases R with rfl|⟨R',y,rfl⟩
   ·obtain⟨A,c,rfl,_,_⟩:=ho.form
    clear hm ho hD
    gi_wp2
    refine⟨KF.ext (KeepsFrom.refl _ _) hx,BL.ext (Below.refl _ _) hx hsW,?_⟩
    show YI t w u bL ((pre++[x]).map (·.1)) _
    rw[mF]
    refine⟨⟨⟨⟨⟨tb1,lb1⟩,r1.ext hx⟩,r2.ext hx⟩,hx0.trans hx⟩,fun z hz=>?_⟩
    rcases bn.1 hz with h1|h1
    ·exact HNO.out z h1
    ·rw[show z=x.1 by simpa using h1];exact HD.out.no
   ·obtain⟨g,off,cap,rfl,aC,NI,IQ,hg4,hg5⟩:=ho.at_ kS
    have hop:=zA (nE.pop ho)
    obtain⟨c0,c1⟩:=hg5 R'.length y kS
    rw[am,fa]at aC
    have hJ:=zA hD.pop
    have hy:=hJ.out.mem x.2
    have uF:=kC c0
    clear hm ho hD hg5
    simp only[am,ck,cr,br]at *
    unfold maxLen at NI
    gi_wp2_with fail
    refine⟨trivial,?_⟩
    have iH:Ext W (wr.alloc (.cells #[.int .i64 y.1,.int .i64 y.2] 47)):=hx.alloc _
    refine (CallsIn.inRound l (callsIn_wide (n:=6).2 (ZAJ u t y.1 y.2 bL cs _ hl nL (hs.ext RPr.keeps (hx0.trans iH)) hy VK (hL.ext (hx0.trans iH)) hA))).mono ?_
    rintro e w2 ⟨v2,rfl,ho2,QI⟩
    have SW:=(HM.out.alloc _).ext QI
    have ho3:=uC.ext (uC.alloc hop.out _) QI
    have tb2:=(tb1.alloc _).ext QI
    have lb2:=(lb1.alloc _).ext QI
    have b62:=(b61.alloc _).ext QI
    have RT:=iH.trans QI
    have ho4:nE w2 0 v2 (fI t (y.1,y.2)):=uC.mono ho2 (an _)
    have YH:∀k,(Value.slice (some ⟨g,off,none⟩) R'.length cap).ownBlock=some k→v2.ownBlock≠some k:=fun k hk e=>by
     simp[Value.ownBlock]at hk;subst hk
     have:=(uC.blk ho2 _ e).1
     simp at this;omega
    have HM2:=zA (show SrJ t x.1 y W W.heap.size (2*((ids t).length-Sn.length)+R'.length) v2 (.int .i64 0) (.slice (some ⟨g,off,none⟩) R'.length cap) w2 from⟨Sn,R',0,hJ.out,an _,rfl,SW,ho3,RT,ah _,ho4,YH⟩)
    obtain⟨A2,c2,rfl,hv1,hv2⟩:=uC.form ho2
    unfold maxLen at hv2
    have hv3:(fI t y).length≤c2:=hv1
    clear SW ho3 ho4 YH ho2 c0 c1 t0 l0 i0 i1
    gi_wp2
    gi_loopw [38,8] (fun i v wi=>SrJ t x.1 y W W.heap.size (2*((ids t).length-Sn.length)+R'.length) (.slice A2 (fI t (y.1,y.2)).length c2) i v wi) (fun i _ _=>(fI t y).length-(intOf i).toNat)
    case atStart=>exact HM2.out
    case round =>
     obtain⟨S,R,k,hJ,hk,rfl,hm,ho,pR,hNN,hd2,YH⟩:=hrel
     have HJ:=zA hJ
     have HM3:=zA hm
     have HO3:=zA ho
     have HD2:=zA hd2
     have HNE:=zA YH
     have tb3:=tb.ext pR
     have lb3:=lb.ext pR
     have b63:=b6.ext pR
     have r13:=r1.ext pR
     have r23:=r2.ext pR
     have lt13:=tb3.lt
     have lt23:=lb3.lt
     have lt33:=b63.lt
     have lt43:=r13.lt
     have lt53:=r23.lt
     have i0:=b63.cell (j:=0) rfl
     have i1:=b63.cell (j:=1) rfl
     by_cases bB:k<(fI t y).length
     ·obtain⟨⟨za,zb⟩,hz⟩:∃z,(fI t y)[k]? = some z:=⟨_,ae bB⟩
      obtain⟨g2,off2,cap2,hv,Q5,_,_,ZNv,ZDf⟩:=hd2.at_ oM
      injection hv with hA2 _ hc22
      subst hA2;subst hc22
      obtain⟨e0,e1⟩:=ZDf k _ hz
      have HZ:=zA hz
      clear ZDf hz hJ hm ho hd2 YH
      by_cases hid:(za,zb)=x.1
      ·have HZ2:=zA (show Hb t x.1 x.1 by have:=HJ.out.hb HZ.out;rw[hid]at this;exact this)
       obtain rfl:za=x.1.1:=by rw[←hid]
       obtain rfl:zb=x.1.2:=by rw[←hid]
       clear hid
       have ZJu:KeepsFrom (w.heap.size+1+1+1+1+1) W wr:=KF.ext (KeepsFrom.refl _ _) pR
       have ZNw:Below w.heap.size W wr:=BL.ext (Below.refl _ _) pR hsW
       have ZJv:Ext w wr:=hx0.trans pR
       have f1:=r13.frozen 0
       have f2:=r13.frozen 1
       have f3:=r23.frozen 0
       have p1:=r13.cell (j:=0) rfl
       have p2:=r13.cell (j:=1) rfl
       have p3:=r23.cell (j:=0) rfl
       gi_wp2
       refine⟨?_,rfl,pre.map (·.1),x.1,⟨⟨⟨mF pre x,HNO.out,HZ2.out⟩,?_⟩,?_⟩,?_⟩
       all_goals exact kW0
      ·by_cases hz1:za=x.1.1
       ·have hz2:zb≠x.1.2:=fun e=>hid (Prod.ext hz1 e)
        subst hz1
        have hq3:((zb:Int)==(x.1.2:Int))=false:=by simp;omega
        have hq4:¬((zb:Int)=(x.1.2:Int)):=by omega
        have HID:=zA hid
        clear hid hz2
        by_cases yF:(x.1.1,zb)∈S
        ·have hlk:=aH (HM3.out.alloc (.cells #[.int .i64 x.1.1,.int .i64 zb] 47)) (x.1.1,zb)
         rw[ag yF]at hlk
         unfold RB at hlk
         have HIN:=zA yF
         clear yF
         gi_wp2
         go_roundw
         case rel=>exact⟨S,R,k+1,HJ.out.skip HZ.out HIN.out,bB,by go_num,HM3.out.alloc _,uC.alloc HO3.out _,pR.alloc _,hNN,uC.alloc HD2.out _,HNE.out⟩
         case measure=>simp[intOf];omega
        ·have hlk:=aH (HM3.out.alloc (.cells #[.int .i64 x.1.1,.int .i64 zb] 47)) (x.1.1,zb)
         rw[ak yF]at hlk
         obtain⟨w3,TD,hm4,mS⟩:=VN (HM3.out.alloc (.cells #[.int .i64 x.1.1,.int .i64 zb] 47)) (x.1.1,zb) yF
         unfold RB at hlk TD
         have HIN:=zA yF
         have HG3:=zA mS
         have HM4:=zA hm4
         have rY:=HM3.out.lt
         have bz:JA w3 wr.heap.size 47 #[.int .i64 x.1.1,.int .i64 zb]:=(JA.new wr _ _).kept mS kT
         have z0:=bz.cell (j:=0) rfl
         have z1:=bz.cell (j:=1) rfl
         have ho5:nE w3 W.heap.size u8 R:=uC.kept (uC.alloc HO3.out _) mS (.inr (uC.not_map (uC.alloc HO3.out (.cells #[.int .i64 x.1.1,.int .i64 zb] 47)) (HM3.out.alloc _)))
         have hx3:Ext W w3:=Ext.grown (pR.alloc (.cells #[.int .i64 x.1.1,.int .i64 zb] 47)) mS (fun k hk=>by injection hk with hk;omega)
         have ZI0:=mS.size
         rw[World.size_alloc]at ZI0
         have U5:R.length≤2000001:=by omega
         have HO5:=zA ho5
         clear yF mS hm4 ho5
         gi_wp2_with (gi_at_builtin;go_must (refine eR (v:=u8) (.tmp 52) (.tmp 54) ZED rfl rfl rfl rfl (uC.alloc HO5.out _) (SlC.lit (x:=(x.1.1,zb)) _ rfl rfl rfl) (uM _) oM (by have:=hx3.size;simp;omega) ?_;intro v4 w4 hown4 ZAt hbl4))
         go_roundw
         case rel =>
          refine⟨_,_,_,?_,rfl,rfl,rfl⟩
          have hd3:nE w3 0 (.slice (some ⟨g2,off2,none⟩) (fI t (y.1,y.2)).length c2) (fI t y):=uC.kept (uC.alloc HD2.out _) HG3.out (.inr (uC.not_map (uC.alloc HD2.out (.cells #[.int .i64 x.1.1,.int .i64 zb] 47)) (HM3.out.alloc _)))
          refine⟨S++[(x.1.1,zb)],R++[(x.1.1,zb)],k+1,HJ.out.push HZ.out HIN.out HID.out,bB,by go_num,(HM4.out.alloc _).kept ZAt.1 (uC.not_map HO5.out HM4.out).symm,nE.snoc hown4 rfl,Ext.more (hx3.alloc _) hbl4,?_,uC.kept (uC.alloc hd3 _) ZAt.1 (.inr fun e=>HNE.out _ e.symm rfl),?_⟩
          ·have h1:=HJ.out.push HZ.out HIN.out HID.out
           have h2:=h1.few x.2
           simp at h2⊢
           omega
          ·intro q hq e
           rcases ZAt.2 q hq with h1|h1
           ·exact HNE.out q h1 e
           ·simp[Value.ownBlock]at e
            subst e
            simp at h1;omega
         case measure=>simp[intOf];omega
       ·have hq1:((za:Int)==(x.1.1:Int))=false:=by simp;omega
        have MN:¬((za:Int)=(x.1.1:Int)):=by omega
        have HID:=zA hid
        clear hid hz1
        by_cases yF:(za,zb)∈S
        ·have hlk:=aH (HM3.out.alloc (.cells #[.int .i64 za,.int .i64 zb] 47)) (za,zb)
         rw[ag yF]at hlk
         unfold RB at hlk
         have HIN:=zA yF
         clear yF
         gi_wp2
         go_roundw
         case rel=>exact⟨S,R,k+1,HJ.out.skip HZ.out HIN.out,bB,by go_num,HM3.out.alloc _,uC.alloc HO3.out _,pR.alloc _,hNN,uC.alloc HD2.out _,HNE.out⟩
         case measure=>simp[intOf];omega
        ·have hlk:=aH (HM3.out.alloc (.cells #[.int .i64 za,.int .i64 zb] 47)) (za,zb)
         rw[ak yF]at hlk
         obtain⟨w3,TD,hm4,mS⟩:=VN (HM3.out.alloc (.cells #[.int .i64 za,.int .i64 zb] 47)) (za,zb) yF
         unfold RB at hlk TD
         have HIN:=zA yF
         have HG3:=zA mS
         have HM4:=zA hm4
         have rY:=HM3.out.lt
         have bz:JA w3 wr.heap.size 47 #[.int .i64 za,.int .i64 zb]:=(JA.new wr _ _).kept mS kT
         have z0:=bz.cell (j:=0) rfl
         have z1:=bz.cell (j:=1) rfl
         have ho5:nE w3 W.heap.size u8 R:=uC.kept (uC.alloc HO3.out _) mS (.inr (uC.not_map (uC.alloc HO3.out (.cells #[.int .i64 za,.int .i64 zb] 47)) (HM3.out.alloc _)))
         have hx3:Ext W w3:=Ext.grown (pR.alloc (.cells #[.int .i64 za,.int .i64 zb] 47)) mS (fun k hk=>by injection hk with hk;omega)
         have ZI0:=mS.size
         rw[World.size_alloc]at ZI0
         have U5:R.length≤2000001:=by omega
         have HO5:=zA ho5
         clear yF mS hm4 ho5
         gi_wp2_with (gi_at_builtin;go_must (refine eR (v:=u8) (.tmp 52) (.tmp 54) ZED rfl rfl rfl rfl (uC.alloc HO5.out _) (SlC.lit (x:=(za,zb)) _ rfl rfl rfl) (uM _) oM (by have:=hx3.size;simp;omega) ?_;intro v4 w4 hown4 ZAt hbl4))
         go_roundw
         case rel =>
          refine⟨_,_,_,?_,rfl,rfl,rfl⟩
          have hd3:nE w3 0 (.slice (some ⟨g2,off2,none⟩) (fI t (y.1,y.2)).length c2) (fI t y):=uC.kept (uC.alloc HD2.out _) HG3.out (.inr (uC.not_map (uC.alloc HD2.out (.cells #[.int .i64 za,.int .i64 zb] 47)) (HM3.out.alloc _)))
          refine⟨S++[(za,zb)],R++[(za,zb)],k+1,HJ.out.push HZ.out HIN.out HID.out,bB,by go_num,(HM4.out.alloc _).kept ZAt.1 (uC.not_map HO5.out HM4.out).symm,nE.snoc hown4 rfl,Ext.more (hx3.alloc _) hbl4,?_,uC.kept (uC.alloc hd3 _) ZAt.1 (.inr fun e=>HNE.out _ e.symm rfl),?_⟩
          ·have h1:=HJ.out.push HZ.out HIN.out HID.out
           have h2:=h1.few x.2
           simp at h2⊢
           omega
          ·intro q hq e
           rcases ZAt.2 q hq with h1|h1
           ·exact HNE.out q h1 e
           ·simp[Value.ownBlock]at e
            subst e
            simp at h1;omega
         case measure=>simp[intOf];omega
     ·clear hJ hm ho hd2 YH
      gi_wp2
      go_roundw
      case rel=>exact⟨S,R,HJ.out.fin oM,HM3.out,HO3.out,pR,by omega⟩
      case measure =>
       rw[HM3.out.size,HM.out.size]
       obtain⟨A3,c3,rfl,_,_⟩:=HO3.out.form
       simp[lenV]
       omega
 case done =>
  rintro D ys W hD hys ⟨⟨⟨⟨⟨tb,lb⟩,r1⟩,r2⟩,hx⟩,DO⟩ hK
  rw[hys]at DO
  have q2:=r1.frozen 0
  have q3:=r1.frozen 1
  have q4:=r2.frozen 0
  have p2:=r1.cell (j:=0) rfl
  have p3:=r1.cell (j:=1) rfl
  have p4:=r2.cell (j:=0) rfl
  have HNO:=zA (ZF0 DO)
  clear DO
  gi_wp2
  obtain⟨Wr,dH⟩:∃Wr,(((W.setCell ⟨w.heap.size+1+1,0,none⟩ (Value.int .i64 0)).setCell ⟨w.heap.size+1+1,1,none⟩ (Value.int .i64 0)).setCell ⟨w.heap.size+1+1+1,0,none⟩ (Value.bool false))=Wr:=⟨_,rfl⟩
  rw[dH]
  have s2:JA Wr (w.heap.size+1+1) 47 #[.int .i64 0,.int .i64 0]:=by rw[←dH];exact kW0
  have s3:JA Wr (w.heap.size+1+1+1) 4 #[.bool false]:=by rw[←dH];exact kW0
  have sx:Ext w Wr:=by rw[←dH];exact kW0
  have BP:Wr.heap[D]? = some (.deferred (some [])):=by rw[←dH];exact (KF.set (KF.set (KF.set (KeepsFrom.refl W0.heap.size W) _ _) _ _) _ _).same D _ hD hK rfl
  clear dH
  have e2:=(s2.putObj BP rfl (.deferred none)).cell (j:=0) rfl
  have e3:=(s2.putObj BP rfl (.deferred none)).cell (j:=1) rfl
  have e4:=(s3.putObj BP rfl (.deferred none)).cell (j:=0) rfl
  refine⟨by simp,.inl ⟨_,_,rfl,run_takeDeferred BP,?_⟩⟩
  refine⟨.tuple #[RB (0,0),.bool false],?_,sx.putObj oM BP _,.inr ⟨HNO.out,rfl⟩⟩
  simp[results,Tryz.f92,go_sem,e2,e3,e4,RB]
 case stop =>
  rintro D c pre W hD pJ ⟨rfl,a,x,⟨⟨⟨hp,DO,hhb⟩,r1⟩,r2⟩,hx⟩ hK
  rw[hp]at pJ
  have HST:=zA (ZFZ pJ DO hhb)
  clear DO hhb
  gi_wp2
  have e2:=(r1.putObj hK rfl (.deferred none)).cell (j:=0) rfl
  have e3:=(r1.putObj hK rfl (.deferred none)).cell (j:=1) rfl
  have e4:=(r2.putObj hK rfl (.deferred none)).cell (j:=0) rfl
  refine⟨by simp,.inl ⟨_,_,rfl,run_takeDeferred hK,?_⟩⟩
  refine⟨.tuple #[RB x,.bool true],?_,hx.putObj oM hK _,.inl ⟨x,HST.out,rfl⟩⟩
  simp[results,Tryz.f92,go_sem,e2,e3,e4,RB]

structure Small (t:Tr):Prop where
 np:t.length≤1000000
 nv:∀x∈t,x.vars.length≤1000000
 ne:∀x∈t,x.evs.length≤1000000
 na:∀x∈t,∀e∈x.evs,e.asg.length≤1000000
structure Sm (t:Tr):Prop where
 np:t.length≤1000000
 nv:∀x∈t,x.vars.length≤1000000
 ne:∀x∈t,x.evs.length≤9223372036854775807
 na:∀x∈t,∀e∈x.evs,e.asg.length≤1000000
theorem Small.sm {t:Tr} (h:Small t):Sm t:=⟨h.np,h.nv,fun x hx=>ee (h.ne x hx) kE,h.na⟩
theorem OJ {t:Tr} {p:Nat} (hp:p<t.length) (h:gE t p=0):t[p].evs.length≤64:=by
 rw[pO t p hp]at h
 split at h
 ·cases h
 split at h
 ·cases h
 split at h
 ·rename_i h2;exact absurd h h2
 split at h
 ·cases h
 ·omega
theorem Sm.small {t:Tr} (h:Sm t) (hz:∀q,q<t.length→gE t q=0):Small t:=
 ⟨h.np,h.nv,fun x hx=>by
  obtain⟨p,hp,rfl⟩:=dh hx
  have:=OJ hp (hz p hp)
  omega,h.na⟩
def FPost (t:Tr) (w:World) (e:Ending) (w':World):Prop:=e=.returned (.tuple #[RB (DF t).1,.int .i64 (DF t).2])∧Ext w w'
theorem C9 {t:Tr} (h:inB t.length 1 8=false):DF t=((0,0),1):=by
 unfold DF
 rw[if_pos (by simp[inB]at h;omega)]
theorem Z3 {t:Tr} {p:Nat} (h:inB t.length 1 8=true) (hp:p<t.length) (h0:∀q,q<p→gE t q=0) (YH:gE t p≠0):DF t=((p,0),gE t p):=by
 have hf:(List.range t.length).find? (fun p=>gE t p != 0)=some p:=by
  rw[show t.length=p+(1+(t.length-p-1)) by omega,kx,hU]
  have:(List.range p).find? (fun p=>gE t p != 0)=none:=by
   rw[dg];intro q hq;simp[h0 q (bc.1 hq)]
  rw[this,ir 1,mc]
  simp[YH]
 unfold DF
 rw[if_neg (by simp[inB]at h;omega),hf]
theorem lM {t:Tr} (h0:∀q,q<t.length→gE t q=0):(List.range t.length).find? (fun p=>gE t p != 0)=none:=by
 rw[dg];intro q hq;simp[h0 q (bc.1 hq)]
theorem Q3 {t:Tr} {x:Nat×Nat} (h:inB t.length 1 8=true) (h0:∀q,q<t.length→gE t q=0) (hx:(ids t).find? (fun x=>mE t x != 0)=some x):DF t=(x,mE t x):=by
 unfold DF
 rw[if_neg (by simp[inB]at h;omega),lM h0]
 simp only[hx]
theorem O2 {t:Tr} {x:Nat×Nat} (h:inB t.length 1 8=true) (h0:∀q,q<t.length→gE t q=0) (hf:(ids t).find? (fun x=>mE t x != 0)=none) (hx:(ids t).find? (fun x=>UF t x != 0)=some x):DF t=(x,UF t x):=by
 unfold DF
 rw[if_neg (by simp[inB]at h;omega),lM h0]
 simp only[hf,hx]
theorem ZC0 {t:Tr} {x:Nat×Nat} (h:inB t.length 1 8=true) (h0:∀q,q<t.length→gE t q=0) (hf:(ids t).find? (fun x=>mE t x != 0)=none) (hp:(ids t).find? (fun x=>UF t x != 0)=none) (hx:UI t=some x):DF t=(x,10):=by
 unfold UI at hx
 unfold DF
 rw[if_neg (by simp[inB]at h;omega),lM h0]
 simp only[hf,hp,hx]
theorem ZCZ {t:Tr} (h:inB t.length 1 8=true) (h0:∀q,q<t.length→gE t q=0) (hf:(ids t).find? (fun x=>mE t x != 0)=none) (hp:(ids t).find? (fun x=>UF t x != 0)=none) (hx:UI t=none):DF t=((0,0),0):=by
 unfold UI at hx
 unfold DF
 rw[if_neg (by simp[inB]at h;omega),lM h0]
 simp only[hf,hp,hx]
theorem vH {t:Tr} {x:Nat×Nat} (h:mE t x=0):lC t.length x.1 (rA t x)=true:=by
 unfold mE at h
 cases hb:lC t.length x.1 (rA t x) with
 |true=>rfl
 |false=>rw[hb]at h;simp at h
def GI (t:Tr) (w:World) (u:Value) (l:List (Nat×Nat)) (W:World):Prop:=
 (((JA W w.heap.size 34 #[u]∧JA W (w.heap.size+1) 47 #[.int .i64 0,.int .i64 0])∧JA W (w.heap.size+1+1) 50 #[.int .i64 0])∧Ext w W)∧∀x∈l,mE t x=0
def GX (t:Tr) (w:World) (l:List (Nat×Nat)) (W:World):Prop:=
 ∃a x,(((l=a++[x]∧(∀y∈a,mE t y=0)∧mE t x≠0)∧JA W (w.heap.size+1) 47 #[.int .i64 x.1,.int .i64 x.2])∧JA W (w.heap.size+1+1) 50 #[.int .i64 (mE t x)])∧Ext w W
theorem xW (t:Tr) (w:World) (u:Value) {n:Nat} (hn:w.heap.size≤n):OwnFrom n (fun (pre:List (Idt t)) W=>GI t w u (pre.map (·.1)) W):=
 OwnFrom.and (OwnFrom.and (OwnFrom.and (OwnFrom.and (GA _ _ _ _) (GA _ _ _ _)) (GA _ _ _ _)) (dG hn)) (ownFrom_pure _ _)
theorem ZF2 (t:Tr) (w:World) {n:Nat} (hn:w.heap.size≤n):OwnFrom n (fun (pre:List (Idt t)) W=>GX t w (pre.map (·.1)) W):=by
 rintro s X Y row ⟨a,x,h⟩ hg hr
 refine⟨a,x,⟨⟨h.1.1.1,?_⟩,?_⟩,dG hn () X Y row h.2 hg hr⟩
 ·exact GA _ n _ (fun (_:Unit)=>_) () X Y row h.1.1.2 hg hr
 ·exact GA _ n _ (fun (_:Unit)=>_) () X Y row h.1.2 hg hr
theorem VZ {f:Nat→List (Nat×Nat)} {b:Nat}:∀n:Nat,(∀p,p<n→(f p).length≤b)→((List.range n).flatMap f).length≤n*b
 |0,_=>by simp
 |n+1,h=>by
   rw[ig,kw,am]
   have h1:=VZ n fun p hp=>h p oM
   have h2:=h n oM
   have h3:([n].flatMap f).length=(f n).length:=by simp
   rw[h3,ca]
   omega
theorem ZFY {t:Tr} (h1:t.length≤1000000) (h2:∀x∈t,x.evs.length≤1000000) (h:inB t.length 1 8=true) (h0:∀q,q<t.length→gE t q=0):(ids t).length≤1000000:=by
 have:=VZ (f:=jN t) (b:=64) t.length fun p hp=>by
  unfold jN sA
  rw[aa,jy,SC dfPr t hp]
  exact OJ hp (h0 p hp)
 simp[inB]at h
 unfold ids
 have h3:t.length*64≤8*64:=ct _ oM
 omega
theorem L9 {t:Tr} (h:∀x∈ids t,mE t x=0):(ids t).find? (fun x=>mE t x != 0)=none:=by
 rw[dg];intro x hx;simp[h x hx]
theorem M9 {t:Tr} {a:List (Nat×Nat)} {x:Nat×Nat} (hp:a++[x] <+: ids t) (ha:∀y∈a,mE t y=0) (hx:mE t x≠0):(ids t).find? (fun x=>mE t x != 0)=some x:=by
 obtain⟨c,hc⟩:=hp
 rw[←hc,ay,hU]
 have:a.find? (fun x=>mE t x != 0)=none:=by
  rw[dg];intro y hy;simp[ha y hy]
 rw[this]
 simp[hx]
theorem ZA2 (u:Value) (t:Tr) (w:World) (hS:Sm t) (hs:SlR 3 RPr w u t) :
  Calls Tryz.prog 52 #[.agg #[u]] w fun e w'=>FPost t w e w':=by
 refine callsIn_wide (n:=9).1 ?_
 refine callsIn_of_wp_marks Tryz.func52 rfl trivial ?_ rfl
 simp only[Tryz.ntmps52,eh,ck,cr,Nat.reduceAdd,Nat.reduceSub,ik,il,im,io,cg,bw]
 obtain⟨A,c,rfl,_,sM,_⟩:=hs.at_
 have HI:=zA (fun w=>callsIn_wide (n:=8).2 (DJ t.length 1 8 w))
 cases yF:inB t.length 1 8
 ·rw[yF]at HI
  have HF:=zA (C9 yF)
  clear yF
  gi_wp2_with (refine⟨trivial,?_⟩;gi_at_call 53;refine (HI.out _).mono ?_;rintro e w' ⟨rfl,rfl⟩)
  refine⟨.tuple #[RB (0,0),.int .i64 1],by simp[results,Tryz.f52,go_sem,RB],by rw[HF.out];rfl,(((Ext.refl w).alloc _).alloc _).alloc _⟩
 ·have HIN:=zA yF
  rw[yF]at HI
  clear yF
  gi_wp2_with (refine⟨trivial,?_⟩;gi_at_call 53;refine (HI.out _).mono ?_;rintro e w' ⟨rfl,rfl⟩)
  have tb0:=((JA.new w 34 #[.slice A t.length c]).alloc (.cells #[.int .i64 0,.int .i64 0] 47)).alloc (.cells #[.int .i64 0] 50)
  obtain⟨W1,iI⟩:∃W1,((w.alloc (Obj.cells #[Value.slice A t.length c] 34)).alloc (Obj.cells #[Value.int .i64 0,Value.int .i64 0] 47)).alloc (Obj.cells #[Value.int .i64 0] 50)=W1:=⟨_,rfl⟩
  rw[iI]at tb0⊢
  have hx1:Ext w W1:=by rw[←iI];exact (((Ext.refl w).alloc _).alloc _).alloc _
  have rb1:JA W1 (w.heap.size+1) 47 #[.int .i64 0,.int .i64 0]:=by rw[←iI];exact (JA.newAt _ _ kS).alloc _
  have rb2:JA W1 (w.heap.size+1+1) 50 #[.int .i64 0]:=by rw[←iI];exact JA.newAt _ _ kS
  have ZJw:Hx (W1.heap.size=w.heap.size+1+1+1):=zA (by rw[←iI];simp)
  clear iI
  have hnp:=hS.np
  gi_loopw [23] (fun i wr=>∃k:Nat,k≤t.length∧i=.int .i64 k∧(∀q,q<k→gE t q=0)∧Ext W1 wr) (fun i _=>t.length-(intOf i).toNat)
  case atStart=>exact⟨0,an _,rfl,fun q hq=>absurd hq (gr _),Ext.refl _⟩
  case round =>
   obtain⟨k,hk,rfl,h0,hx⟩:=hrel
   have H0:=zA h0
   clear h0
   have tb:=tb0.ext hx
   have r1:=rb1.ext hx
   have r2:=rb2.ext hx
   have t0:=tb.cell (j:=0) rfl
   by_cases bB:k<t.length
   ·have HP:=zA (fun w' (he:Ext w w')=>callsIn_wide (n:=8).2 (YP (.slice A t.length c) t k w' bB hnp (hS.nv _ (ap bB)) (hS.ne _ (ap bB)) (hs.ext RPr.keeps he)))
    gi_wp2_with fail
    refine⟨trivial,?_⟩
    refine (HP.out _ (hx1.trans hx)).mono ?_
    rintro e w2 ⟨rfl,QI⟩
    by_cases hz:gE t k=0
    ·have HZ:=zA hz
     rw[hz]
     clear hz
     gi_wp2
     go_roundw
     case rel=>exact⟨k+1,bB,by go_num,fun q hq=>(jc.1 hq).elim (H0.out q) (fun e=>e▸HZ.out),hx.trans QI⟩
     case measure=>simp[intOf];omega
    ·have HF:=zA (Z3 HIN.out bB H0.out hz)
     have YH:((gE t k:Int) != 0)=true:=by simp;omega
     have r12:=r1.ext QI
     have r22:=r2.ext QI
     have f1:=r12.frozen 0
     have f2:=r12.frozen 1
     have f3:=r22.frozen 0
     have p1:=r12.cell (j:=0) rfl
     have p2:=r12.cell (j:=1) rfl
     have p3:=r22.cell (j:=0) rfl
     gi_wp2
     obtain⟨Wr,dH⟩:∃Wr,((w2.setCell ⟨w.heap.size+1,0,none⟩ (Value.int .i64 k)).setCell ⟨w.heap.size+1,1,none⟩ (Value.int .i64 0)).setCell ⟨w.heap.size+1+1,0,none⟩ (Value.int .i64 (gE t k))=Wr:=⟨_,rfl⟩
     rw[dH]
     have ZI1:Ext w w2:=hx1.trans (hx.trans QI)
     have s1:JA Wr (w.heap.size+1) 47 #[.int .i64 k,.int .i64 0]:=by rw[←dH];exact kW0
     have s2:JA Wr (w.heap.size+1+1) 50 #[.int .i64 (gE t k)]:=by rw[←dH];exact kW0
     have sx:Ext w Wr:=by rw[←dH];exact kW0
     clear dH
     exact⟨.tuple #[RB (k,0),.int .i64 (gE t k)],by simp[results,Tryz.f52,go_sem,RB,s1.cell (j:=0) rfl,s1.cell (j:=1) rfl,s2.cell (j:=0) rfl],by rw[HF.out],sx⟩
   ·obtain rfl:k=t.length:=by omega
    have hS:=hS.small H0.out
    have ZJx:Ext w wr:=hx1.trans hx
    gi_wp2_with (refine⟨trivial,?_⟩;gi_at_call 55;refine (callsIn_wide.2 (cH _ _)).mono ?_;rintro e w' ⟨rfl,rfl⟩)
    have bt:=JA.new wr 34 #[.slice A t.length c]
    have hM0:GI t w (.slice A t.length c) [] (wr.alloc (.cells #[.slice A t.length c] 34)):=⟨⟨⟨⟨tb.alloc _,r1.alloc _⟩,r2.alloc _⟩,ZJx.alloc _⟩,fun x hx=>by cases hx⟩
    obtain⟨W0,pY⟩:∃W0,wr.alloc (.cells #[.slice A t.length c] 34)=W0:=⟨_,rfl⟩
    have kU:W0.heap.size=wr.heap.size+1:=by rw[←pY];simp
    have hwr:w.heap.size≤wr.heap.size:=ZJx.size
    rw[pY]at bt hM0⊢
    clear pY
    have LP:Ext w W0:=hM0.1.2
    have HSZ0:=zA kU
    have JW:w.heap.size≤W0.heap.size:=by omega
    clear kU
    refine wpIn_rangeFunc_ownH rfl oM (gf:=94) (lb:=#[.pointer (some ⟨wr.heap.size,0,none⟩)]) rfl trivial (XD Tryz.func94 kE rfl)
     (gG 8 oM w (.slice A t.length c) t wr.heap.size W0 hnp hS.ne hs LP (bt.cell rfl) hwr) belowK_t (belowK_b JW) (Below.refl _ _) (fun _=>rfl)
     (fun pre W=>GI t w (.slice A t.length c) (pre.map (·.1)) W) (fun c pre W=>c=.ret∧GX t w (pre.map (·.1)) W) (xW t w _ JW) (fun c=>OwnFrom.and (ownFrom_pure _ _) (ZF2 t w JW)) hM0
     (fun x a' W=>∃B6 B7 A4 n4 c4 v37 v38,(w.heap.size+1+1<B6∧w.heap.size+1+1<B7∧SlR 2 RAsg w (.slice A4 n4 c4) (rA t x.1).asg)∧JA W B6 47 #[.int .i64 x.1.1,.int .i64 x.1.2]∧JA W B7 45 #[.int .i64 (rA t x.1).kind,.int .i64 (rA t x.1).peer,.int .i64 (rA t x.1).msg,.int .i64 (rA t x.1).time,.slice A4 n4 c4] ∧
      a'={tmps:=#[.agg #[.slice A t.length c],.pointer (some ⟨w.heap.size,0,none⟩),.pointer (some ⟨w.heap.size+1,0,none⟩),.pointer (some ⟨w.heap.size+1+1,0,none⟩),u4,u5,.pointer (some ⟨B6,0,none⟩),.pointer (some ⟨B7,0,none⟩),undef,undef,undef,undef,undef,undef,.pointer (some ⟨w.heap.size,0,none⟩),.slice A t.length c,.int .i64 t.length,.bool true,.bool false,undef,.pointer (some ⟨w.heap.size,0,none⟩),.slice A t.length c,.int .i64 t.length,.int .i64 t.length,.bool false,u25,u26,u27,u28,u29,u30,u31,u32,u33,u34,.agg #[.slice A t.length c],.func (.func 94) #[] #[.pointer (some ⟨wr.heap.size,0,none⟩)],v37,v38,undef,undef,undef,undef,undef,undef,undef,undef,undef,undef,undef,undef,undef,undef,undef,undef,undef,undef,undef,undef,undef,undef,undef,undef,undef,undef,undef],defers:=[]})
     ?hax ?assign ?body ?done ?stop
    case hax =>
     rintro x a' _ X Y row ⟨B6,B7,A4,n4,c4,v37,v38,hB,b6,b7,ha⟩ hg hr
     exact⟨B6,B7,A4,n4,c4,v37,v38,hB,GA B6 _ _ (fun (_:Unit)=>_) () X Y row b6 hg hr,GA B7 _ _ (fun (_:Unit)=>_) () X Y row b7 hg hr,ha⟩
    case assign =>
     rintro l pre x W K hI hK
     obtain⟨a,hv,hsa⟩:=fO hs x.2
     obtain⟨A4,c4,rfl,_,_,_⟩:=hsa.at_
     simp only[hv]
     have hsW:=hI.1.2.size
     have h5:=hI.1.1.2.lt
     unfold RB
     gi_wp2
     exact hK _ _ (((KeepsOthers.alloc _ _).trans (KeepsOthers.alloc _ _)).from _) (((Below.refl _ W).alloc hsW _).alloc kT _) ((xW t w _ (ah _)).alloc _ ((xW t w _ (ah _)).alloc _ hI))
      ⟨W.heap.size,W.heap.size+1,A4,_,c4,_,_,⟨h5,by omega,hsa⟩,(JA.new _ _ _).alloc _,JA.newAt _ _ kS,rfl⟩
    case body =>
     rintro l pre x a' W hlW ⟨r,hr⟩ hI ⟨B6,B7,A4,n4,c4,v37,v38,⟨hB6,hB7,hsa⟩,b6,b7,rfl⟩ jD
     obtain⟨⟨⟨⟨tbW,r1W⟩,r2W⟩,TQ⟩,hg⟩:=hI
     have hsW:=TQ.size
     have HG:=zA hg
     have HSA:=zA hsa
     clear hg hsa
     have k0:=b7.cell (j:=0) rfl
     have k1:=b7.cell (j:=1) rfl
     have k2:=b7.cell (j:=2) rfl
     have k3:=b7.cell (j:=3) rfl
     have k4:=b7.cell (j:=4) rfl
     have i0:=b6.cell (j:=0) rfl
     have i1:=b6.cell (j:=1) rfl
     have t0:=tbW.cell (j:=0) rfl
     obtain⟨hp,hi1,V8⟩:=VE.1 x.2
     have hee:t[x.1.1].evs[x.1.2-1]=rA t x.1:=by
      unfold rA sA;rw[SC dfPr t hp,SC qK _ oM]
     have HE:=zA (fun w' (he:Ext w w')=>CallsIn.inRound l (callsIn_wide (n:=6).2 (JR (.slice A t.length c) (.slice A4 n4 c4) t x.1.1 x.1.2 (rA t x.1) w' hp hi1 V8 hee hnp (hS.nv _ (ap hp)) (hS.ne _ (ap hp)) (by rw[←hee];exact hS.na _ (ap hp) _ (ap _)) (hs.ext RPr.keeps he) (HSA.out.ext RAsg.keeps he))))
     clear hee
     gi_wp2_with fail
     refine⟨trivial,?_⟩
     refine (HE.out _ TQ).mono ?_
     rintro e w2 ⟨rfl,QI⟩
     by_cases hz:mE t x.1=0
     ·have HZ:=zA hz
      rw[show mE t (x.1.1,x.1.2)=0 from hz]
      clear hz
      gi_wp2
      refine⟨KF.ext (KeepsFrom.refl _ _) QI,BL.ext (Below.refl _ _) QI hsW,?_⟩
      show GI t w (.slice A t.length c) ((pre++[x]).map (·.1)) _
      rw[mF]
      refine⟨⟨⟨⟨tbW.ext QI,r1W.ext QI⟩,r2W.ext QI⟩,TQ.trans QI⟩,fun z hz=>?_⟩
      rcases bn.1 hz with h1|h1
      ·exact HG.out z h1
      ·rw[show z=x.1 by simpa using h1];exact HZ.out
     ·have YH:((mE t (x.1.1,x.1.2):Int) != 0)=true:=by
       have:¬mE t (x.1.1,x.1.2)=0:=hz
       simp;omega
      have HZ:=zA hz
      clear hz
      have r12:=r1W.ext QI
      have r22:=r2W.ext QI
      have b62:=b6.ext QI
      have f1:=r12.frozen 0
      have f2:=r12.frozen 1
      have f3:=r22.frozen 0
      have p1:=r12.cell (j:=0) rfl
      have p2:=r12.cell (j:=1) rfl
      have p3:=r22.cell (j:=0) rfl
      have i02:=b62.cell (j:=0) rfl
      have i12:=b62.cell (j:=1) rfl
      have ZJu:KeepsFrom W0.heap.size W w2:=KF.ext (KeepsFrom.refl _ _) QI
      have ZJv:Ext w w2:=TQ.trans QI
      gi_wp2
      refine⟨?_,rfl,pre.map (·.1),x.1,⟨⟨⟨mF pre x,HG.out,HZ.out⟩,?_⟩,?_⟩,?_⟩
      all_goals exact kW0
    case done =>
     rintro D ys W hD hys ⟨⟨⟨⟨tbW,r1W⟩,r2W⟩,TQ⟩,hg⟩ hK
     rw[hys]at hg
     have HG:=zA hg
     clear hg
     have VK:∀x∈ids t,lC t.length x.1 (rA t x)=true:=fun x hx=>vH (HG.out x hx)
     have hfn:=zA (L9 HG.out)
     have t0:=tbW.cell (j:=0) rfl
     have HMF:=zA (fun w' (he:Ext w w')=>callsIn_wide (n:=8).2 (lH (.slice A t.length c) t w' hnp hS.ne (hs.ext RPr.keeps he) VK))
     have hform':=zA VK
     clear VK
     gi_wp2_with fail
     refine⟨trivial,?_⟩
     refine (HMF.out _ TQ).mono ?_
     rintro e w2 ⟨QI,hm⟩
     have ZLM:KeepsFrom W0.heap.size W w2:=KF.ext (KeepsFrom.refl _ _) QI
     have ZI1:Ext w w2:=TQ.trans QI
     have r12:=r1W.ext QI
     have r22:=r2W.ext QI
     have tb2:=tbW.ext QI
     have t02:=tb2.cell (j:=0) rfl
     have lt1:=tb2.lt
     have lt2:=r12.lt
     have lt3:=r22.lt
     clear t0
     rcases hm with ⟨x,hx,rfl⟩|⟨hpn,b,cs,hb,hbox,hlet,rfl⟩
     ·have HP:=zA (O2 HIN.out H0.out hfn.out hx)
      have hne0:((UF t x:Int) != 0)=true:=by
       have:=gg hx
       simp at this⊢;omega
      clear hx
      unfold RB
      have f1:=r12.frozen 0
      have f2:=r12.frozen 1
      have f3:=r22.frozen 0
      have p1:=r12.cell (j:=0) rfl
      have p2:=r12.cell (j:=1) rfl
      have p3:=r22.cell (j:=0) rfl
      gi_wp2
      obtain⟨Wr,dH⟩:∃Wr,(((w2.setCell ⟨w.heap.size+1,0,none⟩ (Value.int .i64 x.1)).setCell ⟨w.heap.size+1,1,none⟩ (Value.int .i64 x.2)).setCell ⟨w.heap.size+1+1,0,none⟩ (Value.int .i64 (UF t x))).alloc (Obj.cells #[Value.int .i64 x.1,Value.int .i64 x.2] 47)=Wr:=⟨_,rfl⟩
      rw[dH]
      have s1:JA Wr (w.heap.size+1) 47 #[.int .i64 x.1,.int .i64 x.2]:=by rw[←dH];exact kW0
      have s2:JA Wr (w.heap.size+1+1) 50 #[.int .i64 (UF t x)]:=by rw[←dH];exact kW0
      have sx:Ext w Wr:=by rw[←dH];exact kW0
      have hkf:KeepsFrom W0.heap.size W Wr:=by rw[←dH];exact kW0
      have BP:Wr.heap[D]? = some (.deferred (some [])):=hkf.same D _ hD hK rfl
      clear dH
      have e2:=(s1.putObj BP rfl (.deferred none)).cell (j:=0) rfl
      have e3:=(s1.putObj BP rfl (.deferred none)).cell (j:=1) rfl
      have e4:=(s2.putObj BP rfl (.deferred none)).cell (j:=0) rfl
      refine⟨by simp,.inl ⟨_,_,rfl,run_takeDeferred BP,?_⟩⟩
      refine⟨.tuple #[RB x,.int .i64 (UF t x)],?_,by first|(rw[HP.out];done)|(rw[HP.out];rfl),sx.putObj oM BP _⟩
      simp[results,Tryz.f52,go_sem,e2,e3,e4,RB]
     ·have HPN:=zA hpn
      clear hpn
      have HC:=zA (fun w' (he:Ext w w') (hb':JA w' b 151 cs)=>callsIn_wide (n:=8).2 (U3 (.slice A t.length c) t b cs w' hnp hS.ne (ZFY hnp (fun x hx=>hS.ne x hx) HIN.out H0.out) (hs.ext RPr.keeps he) hform'.out hb' hlet))
      unfold RB
      gi_wp2_with fail
      refine⟨trivial,?_⟩
      refine (HC.out _ (ZI1.alloc _) (hbox.alloc _)).mono ?_
      rintro e w3 ⟨z8,hm3⟩
      have ZGE:Ext w2 w3:=Ext.trans ((Ext.refl w2).alloc _) z8
      have ZJu:KeepsFrom W0.heap.size W w3:=KF.ext ZLM ZGE
      have ZJv:Ext w w3:=ZI1.trans ZGE
      have r13:=r12.ext ZGE
      have r23:=r22.ext ZGE
      have lt13:=r13.lt
      have lt23:=r23.lt
      have f1:=r13.frozen 0
      have f2:=r13.frozen 1
      have f3:=r23.frozen 0
      have p1:=r13.cell (j:=0) rfl
      have p2:=r13.cell (j:=1) rfl
      have p3:=r23.cell (j:=0) rfl
      rcases hm3 with ⟨x,hx,rfl⟩|⟨hx,rfl⟩
      ·have HP:=zA (ZC0 HIN.out H0.out hfn.out HPN.out hx)
       clear hx
       unfold RB
       gi_wp2
       obtain⟨Wr,dH⟩:∃Wr,(((w3.setCell ⟨w.heap.size+1,0,none⟩ (Value.int .i64 x.1)).setCell ⟨w.heap.size+1,1,none⟩ (Value.int .i64 x.2)).setCell ⟨w.heap.size+1+1,0,none⟩ (Value.int .i64 10)).alloc (Obj.cells #[Value.int .i64 x.1,Value.int .i64 x.2] 47)=Wr:=⟨_,rfl⟩
       rw[dH]
       have s1:JA Wr (w.heap.size+1) 47 #[.int .i64 x.1,.int .i64 x.2]:=by rw[←dH];exact kW0
       have s2:JA Wr (w.heap.size+1+1) 50 #[.int .i64 10]:=by rw[←dH];exact kW0
       have sx:Ext w Wr:=by rw[←dH];exact kW0
       have hkf:KeepsFrom W0.heap.size W Wr:=by rw[←dH];exact kW0
       have BP:Wr.heap[D]? = some (.deferred (some [])):=hkf.same D _ hD hK rfl
       clear dH
       have e2:=(s1.putObj BP rfl (.deferred none)).cell (j:=0) rfl
       have e3:=(s1.putObj BP rfl (.deferred none)).cell (j:=1) rfl
       have e4:=(s2.putObj BP rfl (.deferred none)).cell (j:=0) rfl
       refine⟨by simp,.inl ⟨_,_,rfl,run_takeDeferred BP,?_⟩⟩
       refine⟨.tuple #[RB x,.int .i64 10],?_,by first|(rw[HP.out];done)|(rw[HP.out];rfl),sx.putObj oM BP _⟩
       simp[results,Tryz.f52,go_sem,e2,e3,e4,RB]
      ·have HP:=zA (ZCZ HIN.out H0.out hfn.out HPN.out hx)
       clear hx
       unfold RB
       gi_wp2
       obtain⟨Wr,dH⟩:∃Wr,(((w3.setCell ⟨w.heap.size+1,0,none⟩ (Value.int .i64 0)).setCell ⟨w.heap.size+1,1,none⟩ (Value.int .i64 0)).setCell ⟨w.heap.size+1+1,0,none⟩ (Value.int .i64 0)).alloc (Obj.cells #[Value.int .i64 0,Value.int .i64 0] 47)=Wr:=⟨_,rfl⟩
       rw[dH]
       have s1:JA Wr (w.heap.size+1) 47 #[.int .i64 0,.int .i64 0]:=by rw[←dH];exact kW0
       have s2:JA Wr (w.heap.size+1+1) 50 #[.int .i64 0]:=by rw[←dH];exact kW0
       have sx:Ext w Wr:=by rw[←dH];exact kW0
       have hkf:KeepsFrom W0.heap.size W Wr:=by rw[←dH];exact kW0
       have BP:Wr.heap[D]? = some (.deferred (some [])):=hkf.same D _ hD hK rfl
       clear dH
       have e2:=(s1.putObj BP rfl (.deferred none)).cell (j:=0) rfl
       have e3:=(s1.putObj BP rfl (.deferred none)).cell (j:=1) rfl
       have e4:=(s2.putObj BP rfl (.deferred none)).cell (j:=0) rfl
       refine⟨by simp,.inl ⟨_,_,rfl,run_takeDeferred BP,?_⟩⟩
       refine⟨.tuple #[RB (0,0),.int .i64 0],?_,by first|(rw[HP.out];done)|(rw[HP.out];rfl),sx.putObj oM BP _⟩
       simp[results,Tryz.f52,go_sem,e2,e3,e4,RB]
    case stop =>
     rintro D c' pre W hD pJ ⟨rfl,a,x,⟨⟨⟨hp,hg,YH⟩,r1W⟩,r2W⟩,TQ⟩ hK
     rw[hp]at pJ
     have HST:=zA (Q3 HIN.out H0.out (M9 pJ hg YH))
     clear hg
     gi_wp2
     have e2:=(r1W.putObj hK rfl (.deferred none)).cell (j:=0) rfl
     have e3:=(r1W.putObj hK rfl (.deferred none)).cell (j:=1) rfl
     have e4:=(r2W.putObj hK rfl (.deferred none)).cell (j:=0) rfl
     refine⟨by simp,.inl ⟨_,_,rfl,run_takeDeferred hK,?_⟩⟩
     refine⟨.tuple #[RB x,.int .i64 (mE t x)],?_,by rw[HST.out],TQ.putObj oM hK _⟩
     simp[results,Tryz.f52,go_sem,e2,e3,e4,RB]

theorem aM (u:Value) (t:Tr) (w:World) (hS:Sm t) (hs:SlR 3 RPr w u t) :
  Calls Tryz.prog 20 #[.agg #[u]] w fun e w'=>e=.returned (.bool (pD t))∧Ext w w':=by
 have HF:=zA (fun w' (he:Ext w w')=>ZA2 u t w' hS (hs.ext RPr.keeps he))
 obtain⟨A,c,rfl,_,sM,_⟩:=hs.at_
 go_enter Tryz.func20,Tryz.ntmps20
 go_wp2_with fail
 refine (HF.out _ ((Ext.refl w).alloc _)).mono ?_
 rintro e w2 ⟨rfl,QI⟩
 unfold RB
 go_wp2
 go_ret
 refine⟨ZBs ?_,Ext.alloc (Ext.trans ((Ext.refl w).alloc _) QI) _⟩
 unfold pD
 rw[jd];simp

def lE (t:Tr) (k m:Int):Nat×Nat:=VA t (ids t) k m


def vN (t:Tr) (x:Nat×Nat):List (Nat×Nat):=(if 1<x.2 then [(x.1,x.2-1)] else [])++if (rA t x).kind==3 then [lE t 2 (rA t x).msg] else []


def ZDz (D:List Nat):Array Value:=(D.map fun d:Nat=>Value.int .i64 d).toArray
theorem ZBr (D:List Nat) (k d:Nat):(ZDz D).setIfInBounds k (.int .i64 d)=ZDz (D.set k d):=by
 unfold ZDz
 rw[List.setIfInBounds_toArray,ie]
theorem JA.setRow {W:World} {B:Nat} {t:TypeId} {D:List Nat} {k:Nat} (h:JA W B t (ZDz D)) (d:Nat):JA (W.setCell ⟨B,k,none⟩ (.int .i64 d)) B t (ZDz (D.set k d)):=by
 rw[←ZBr];exact h.set _ _
end Go.Proofs.YtadnnjchehjbiaaGreatDoor
namespace Go.Proofs.YtadnnjchehjbiaaGreatDoor
set_option linter.unusedVariables false

theorem Hb.back {t:Tr} {x z:Nat×Nat} (h:Hb t x z):∃y,Dir t y z∧(y=x∨Hb t x y):=by
 cases h with
 |one h=>exact⟨_,h,.inl rfl⟩
 |more h1 h2=>exact⟨_,h2,.inr h1⟩
def nS (D:List Nat) (x:Nat×Nat):Prop:=x.2≤D.getD x.1 0
structure KI (t:Tr) (D:List Nat):Prop where
 len:D.length=t.length
 le:∀p (hp:p<t.length),D.getD p 0≤t[p].evs.length
 closed:∀x∈ids t,nS D x→∀y∈ids t,Dir t y x→nS D y
 acyc:∀x∈ids t,nS D x→¬Hb t x x
theorem KI.start (t:Tr):KI t (List.replicate t.length 0):=by
 have h0:∀p,(List.replicate t.length 0).getD p 0=0:=fun p=>by
  rw[aq,jl];split<;>rfl
 have hn:∀x∈ids t,¬nS (List.replicate t.length 0) x:=fun x hx hg=>by
  have:=MF hx
  unfold nS at hg;rw[h0]at hg;omega
 exact⟨by simp,fun p hp=>by rw[h0];exact an _,fun x hx hg=>absurd hg (hn x hx),fun x hx hg=>absurd hg (hn x hx)⟩
theorem KI.gone_back {t:Tr} {D:List Nat} (h:KI t D) {x z:Nat×Nat} (hx:x∈ids t) (hz:z∈ids t) (hg:nS D z) (hb:Hb t x z):nS D x:=by
 induction hb with
 |one hd=>exact h.closed _ hz hg _ hx hd
 |more h1 hd ih =>
   have hy:=h1.mem hx
   exact ih hy (h.closed _ hz hg _ hy hd)
theorem jZ {D:List Nat} {p q d:Nat} (hp:p<D.length):(D.set p d).getD q 0=if q=p then d else D.getD q 0:=by
 rw[aq,jp]
 by_cases h:p=q
 ·subst h;rw[if_pos rfl,if_pos rfl,if_pos hp];rfl
 ·rw[if_neg h,if_neg (fun e=>h e.symm),aq]
theorem KI.step {t:Tr} {D:List Nat} (h:KI t D) {p:Nat} (hp:p<t.length) (hi:D.getD p 0<t[p].evs.length) (pJ:∀y∈ids t,Dir t y (p,D.getD p 0+1)→nS D y):KI t (D.set p (D.getD p 0+1)):=by
 have jD:p<D.length:=by rw[h.len];exact hp
 have GZ:∀x,x∈ids t→(nS (D.set p (D.getD p 0+1)) x↔nS D x∨x=(p,D.getD p 0+1)):=fun x hx=>by
  unfold nS
  rw[jZ jD]
  obtain⟨a,b⟩:=x
  simp only[ku]
  by_cases ha:a=p
  ·subst ha;rw[if_pos rfl];omega
  ·rw[if_neg ha];simp[ha]
 have ZI2:(p,D.getD p 0+1)∈ids t:=VE.2 ⟨hp,by simp,hi⟩
 have hnx:¬nS D (p,D.getD p 0+1):=by unfold nS;simp
 refine⟨by simpa using h.len,fun q hq=>?_,fun x hx hg y hy hd=>?_,fun x hx hg hb=>?_⟩
 ·rw[jZ jD]
  split
  ·rename_i e;subst e;exact hi
  ·exact h.le q hq
 ·rcases (GZ x hx).1 hg with h1|rfl
  ·exact (GZ y hy).2 (.inl (h.closed x hx h1 y hy hd))
  ·exact (GZ y hy).2 (.inl (pJ y hy hd))
 ·rcases (GZ x hx).1 hg with h1|rfl
  ·exact h.acyc x hx h1 hb
  ·obtain⟨y,hd,he⟩:=hb.back
   rcases he with rfl|h2
   ·exact hnx (pJ _ ZI2 hd)
   ·have hy:=h2.mem ZI2
    exact hnx (h.gone_back ZI2 hy (pJ y hy hd) h2)
theorem KI.all {t:Tr} {D:List Nat} (h:KI t D) (hd:∀p (hp:p<t.length),t[p].evs.length≤D.getD p 0):∀x∈ids t,¬Hb t x x:=by
 intro x hx
 obtain⟨hp,h1,h2⟩:=VE.1 hx
 exact h.acyc x hx (ee h2 (hd x.1 hp))
open Go.RowKit

theorem P0 {t:Tr} {q m p:Nat} (hq:q<t.length) (h:zF t q m p=true):∃y,TC t 2 m=some y:=by
 have e:TC t 2 m=(ids t).find? (ZG t 2 m):=rfl
 rw[e]
 unfold zF sA at h
 rw[SC dfPr t hq,ga]at h
 obtain⟨ev,he,hk⟩:=h
 obtain⟨j,hj,yK⟩:=List.mem_iff_getElem.1 he
 simp only[ar,beq_iff_eq]at hk
 have QP:(q,j+1)∈ids t:=VE.2 ⟨hq,by simp,hj⟩
 cases hf:(ids t).find? (ZG t 2 m) with
 |some y=>exact⟨y,rfl⟩
 |none =>
   rw[dg]at hf
   refine absurd ?_ (hf _ QP)
   unfold ZG
   rw[EM hq hj,yK,hk.1.1,hk.1.2]
   simp
structure Paired (t:Tr):Prop where
 form:∀x∈ids t,lC t.length x.1 (rA t x)=true
 pair:∀x∈ids t,UF t x=0
theorem Paired.recv {t:Tr} (h:Paired t) {x:Nat×Nat} (hx:x∈ids t) (hk:(rA t x).kind=3):TC t 3 (rA t x).msg=some x∧∃y,TC t 2 (rA t x).msg=some y:=by
 have hp:=h.pair x hx
 obtain⟨m,q,hm,_,hq,MN,_⟩:=sE (h.form x hx) (by rw[hk];rfl)
 unfold UF at hp
 rw[hk]at hp
 simp only[show ((3:Int)==2)=false from rfl,show ((3:Int)==3)=true from rfl,if_true,bx,if_false]at hp
 by_cases h1:(TC t 3 (rA t x).msg==some x)=true
 ·rw[if_pos h1]at hp
  refine⟨by simpa using h1,?_⟩
  by_cases h2:zF t (rA t x).peer.toNat (rA t x).msg x.1=true
  ·rw[hq,hm,bs]at h2
   rw[hm]
   exact P0 MN h2
  ·rw[if_neg h2]at hp;cases hp
 ·rw[if_neg h1]at hp;cases hp
theorem Paired.send {t:Tr} (h:Paired t) {x:Nat×Nat} (hx:x∈ids t) (hk:(rA t x).kind=2):TC t 2 (rA t x).msg=some x:=by
 have hp:=h.pair x hx
 unfold UF at hp
 rw[hk]at hp
 simp only[show ((2:Int)==2)=true from rfl,if_true]at hp
 by_cases h1:(TC t 2 (rA t x).msg==some x)=true
 ·simpa using h1
 ·rw[if_neg h1]at hp;cases hp
theorem CD {t:Tr} {k m:Int} {y:Nat×Nat} (h:TC t k m=some y):(rA t y).kind=k∧(rA t y).msg=m:=by
 have e:TC t k m=(ids t).find? (ZG t k m):=rfl
 rw[e]at h
 have:=gg h
 simpa [ZG] using this
theorem MH {t:Tr} (h:Paired t) {x y:Nat×Nat} (hx:x∈ids t):y∈vN t x↔(y∈ids t∧Dir t y x):=by
 obtain⟨hp,h1,h2⟩:=VE.1 hx
 unfold vN
 rw[bn]
 constructor
 ·rintro (hy|hy)
  ·split at hy
   ·rename_i bB
    have:y=(x.1,x.2-1):=by simpa using hy
    subst this
    refine⟨VE.2 ⟨hp,by simp;omega,by simp;omega⟩,.inl ⟨?_,?_⟩⟩
    ·ext<;>simp;omega
    ·unfold sA;simp only;rw[SC dfPr t hp];omega
   ·cases hy
  ·split at hy
   ·rename_i hk
    have nY:(rA t x).kind=3:=by simpa using hk
    obtain⟨h3,z,hz⟩:=h.recv hx nY
    have hv:lE t 2 (rA t x).msg=z:=(xC hz).1
    have:y=z:=by rw[←hv];simpa using hy
    subst this
    obtain⟨k2,m2⟩:=CD hz
    refine⟨(xC hz).2.2,.inr ⟨k2,?_⟩⟩
    rw[m2];exact h3
   ·cases hy
 ·rintro⟨hy,(⟨he,hl⟩|⟨hk,hf⟩)⟩
  ·obtain⟨_,hy1,_⟩:=VE.1 hy
   left
   rw[he]
   simp only
   rw[if_pos oM]
   simp
  ·right
   obtain⟨k3,m3⟩:=CD hf
   rw[k3]
   simp only[show ((3:Int)==3)=true from rfl,if_true]
   have:=h.send hy hk
   rw[m3,show lE t 2 (rA t y).msg=y from (xC this).1]
   simp
theorem Hb.cons {t:Tr} {x y z:Nat×Nat} (h:Dir t x y) (k:Hb t y z):Hb t x z:=by
 induction k with
 |one h2=>exact .more (.one h) h2
 |more _ h2 ih=>exact .more ih h2
structure PaI (t:Tr) (x:Nat×Nat) (S R:List (Nat×Nat)):Prop where
 nod:S.Nodup
 s:∀y∈S,y∈ids t∧Hb t y x
 r:∀y∈R,y∈ids t∧Hb t y x
 closed:∀z,z=x∨z∈S→∀y∈ids t,Dir t y z→y∈S∨y∈R
structure PaJ (t:Tr) (x z0:Nat×Nat) (S R:List (Nat×Nat)) (k:Nat):Prop where
 nod:S.Nodup
 s:∀y∈S,y∈ids t∧Hb t y x
 r:∀y∈R,y∈ids t∧Hb t y x
 cur:z0∈S
 done:∀y∈(vN t z0).take k,y∈R
 closed:∀z,z=x∨z∈S→z≠z0→∀y∈ids t,Dir t y z→y∈S∨y∈R
theorem PaI.start {t:Tr} (h:Paired t) {x:Nat×Nat} (hx:x∈ids t):PaI t x [] (vN t x):=
 ⟨List.nodup_nil,by simp,fun y hy=>let ⟨a,b⟩:=(MH h hx).1 hy;⟨a,.one b⟩,fun z hz y hy hd=>by
  rcases hz with rfl|h1
  ·exact .inr ((MH h hx).2 ⟨hy,hd⟩)
  ·cases h1⟩
theorem PaI.skip {t:Tr} {x y:Nat×Nat} {S R:List (Nat×Nat)} (h:PaI t x S (y::R)) (hy:y∈S):PaI t x S R:=
 ⟨h.nod,h.s,fun z hz=>h.r z (by simp[hz]),fun z hz w hw hd=>by
  rcases h.closed z hz w hw hd with h1|h1
  ·exact .inl h1
  ·rcases dx.1 h1 with rfl|h2
   ·exact .inl hy
   ·exact .inr h2⟩
theorem PaJ.push {t:Tr} (hp:Paired t) {x z0 y:Nat×Nat} {S R:List (Nat×Nat)} {k:Nat} (h:PaJ t x z0 S R k) (hk:(vN t z0)[k]? = some y):PaJ t x z0 S (R++[y]) (k+1):=by
 obtain⟨hz,hzx⟩:=h.s z0 h.cur
 obtain⟨hy,hd⟩:=(MH hp hz).1 (cd hk)
 refine⟨h.nod,h.s,fun w hw=>?_,h.cur,fun w hw=>?_,fun z hz' YH w hw hd'=>?_⟩
 ·rcases bn.1 hw with h1|h1
  ·exact h.r w h1
  ·have:w=y:=by simpa using h1
   subst this;exact⟨hy,.cons hd hzx⟩
 ·rw[nN hk]at hw
  rcases bn.1 hw with h1|h1
  ·simp[h.done w h1]
  ·exact bn.2 (.inr h1)
 ·rcases h.closed z hz' YH w hw hd' with h1|h1
  ·exact .inl h1
  ·exact .inr (by simp[h1])
theorem PaJ.fin {t:Tr} (hp:Paired t) {x z0:Nat×Nat} {S R:List (Nat×Nat)} {k:Nat} (h:PaJ t x z0 S R k) (hk:(vN t z0).length≤k):PaI t x S R:=
 ⟨h.nod,h.s,h.r,fun z hz w hw hd=>by
  by_cases he:z=z0
  ·subst he
   refine .inr (h.done w ?_)
   rw[cv hk]
   exact (MH hp (h.s z h.cur).1).2 ⟨hw,hd⟩
  ·exact h.closed z hz he w hw hd⟩
theorem PaI.all {t:Tr} {x:Nat×Nat} {S:List (Nat×Nat)} (h:PaI t x S []):∀y∈ids t,y∈S↔Hb t y x:=by
 intro y hy
 refine⟨fun hs=>(h.s y hs).2,fun hb=>?_⟩
 have key:∀z,Hb t y z→(z=x∨z∈S)→y∈S:=by
  intro z hz
  induction hz with
  |one hd=>exact fun hc=>(h.closed _ hc _ hy hd).resolve_right kS
  |more h1 hd ih=>exact fun hc=>ih (.inr ((h.closed _ hc _ (h1.mem hy) hd).resolve_right kS))
 exact key x hb (.inl rfl)
theorem PaI.few {t:Tr} {x:Nat×Nat} {S R:List (Nat×Nat)} (h:PaI t x S R):S.length≤(ids t).length:=xM h.nod fun y hy=>(h.s y hy).1
theorem PaJ.few {t:Tr} {x z0:Nat×Nat} {S R:List (Nat×Nat)} {k:Nat} (h:PaJ t x z0 S R k):S.length≤(ids t).length:=xM h.nod fun y hy=>(h.s y hy).1
def rowM (S:List (Nat×Nat)) (p n:Nat):Array Value:=((List.range n).map fun i=>Value.bool (decide ((p,i)∈S))).toArray
def rowV (q:Nat×Nat):Value:=.slice (some ⟨q.1,0,none⟩) q.2 q.2
structure GridM (tr tb:TypeId) (W:World) (B:Nat) (v:Value) (gs S:List (Nat×Nat)):Prop where
 out:uC 1 tr W B v gs.length (gs.map rowV)
 row:∀p (hp:p<gs.length),JA W gs[p].1 tb (rowM S p gs[p].2)∧B≤gs[p].1
 nod:∀p q (hp:p<gs.length) (hq:q<gs.length),gs[p].1=gs[q].1→p=q
section
variable {tr tb:TypeId} {W W':World} {B:Nat} {v:Value} {gs S:List (Nat×Nat)}
theorem GridM.ext (h:GridM tr tb W B v gs S) (he:Ext W W'):GridM tr tb W' B v gs S:=⟨h.out.ext he,fun p hp=>⟨(h.row p hp).1.ext he,(h.row p hp).2⟩,h.nod⟩
theorem GridM.drewN (h:GridM tr tb W B v gs S) (n:Nat):GridM tr tb (W.drewN n) B v gs S:=h.ext ((Ext.refl W).drewN n)
theorem GridM.alloc (h:GridM tr tb W B v gs S) (o:Obj):GridM tr tb (W.alloc o) B v gs S:=h.ext ((Ext.refl W).alloc o)
theorem GridM.kept (h:GridM tr tb W B v gs S) {r:Option Nat} (hg:W.grownBy W' r) (h1:v.ownBlock≠r∨v.ownBlock=none) (h2:∀p (hp:p<gs.length),some gs[p].1≠r):GridM tr tb W' B v gs S:=
 ⟨h.out.kept hg (h1.symm),fun p hp=>⟨(h.row p hp).1.kept hg (h2 p hp),(h.row p hp).2⟩,h.nod⟩
end
def marks (t:Tr) (gs:List (Nat×Nat)) (w:World):Nat:=(ids t).countP fun x=>match w.cell? ⟨(gs.getD x.1 (0,0)).1,x.2,none⟩ with|some (.bool true)=>true|_=>false

section
variable {size:Nat} {e:TypeId} {w w':World} {B:Nat} {v v':Value} {n:Nat} {cs:List Value}
theorem uC.apart {size' n':Nat} {e':TypeId} {B':Nat} {v':Value} {cs':List Value} (h:uC size e w B v n cs) (h':uC size' e' w B' v' n' cs') (YH:e≠e'):v.ownBlock=none∨v.ownBlock≠v'.ownBlock:=by
 rcases h'.2 with ⟨rfl,_⟩|⟨g,off,cap,cur,rfl,_,hbox,_⟩
 ·cases hv:v.ownBlock
  ·exact .inl rfl
  ·right;simp[Value.ownBlock]
 ·exact .inr (h.not_box hbox YH.symm)
end
attribute [local go_sem] Oper.semAt_some

noncomputable def vD (t:Tr) (kd m:Int):Nat×Nat:=if pD t then lE t kd m else (0,0)
noncomputable def qG (t:Tr):Nat:=if pD t then (ids t).length else 0
def Y6 (t:Tr) (kd m:Int) (w:World) (e:Ending) (w':World):Prop:=e=.returned (.tuple #[RB (vD t kd m),.bool (decide (0<(vD t kd m).2))])∧Ext w w'
def FdI (t:Tr) (w:World) (kd m:Int) (l:List (Nat×Nat)) (W:World):Prop:=
 (((((JA W (w.heap.size+1) 3 #[.int .i64 kd]∧JA W (w.heap.size+1+1) 3 #[.int .i64 m])∧JA W (w.heap.size+1+1+1) 47 #[.int .i64 0,.int .i64 0])∧JA W (w.heap.size+1+1+1+1) 4 #[.bool false])∧Ext w W)∧l.find? (ZG t kd m)=none)
def FdX (t:Tr) (w:World) (kd m:Int) (l:List (Nat×Nat)) (W:World):Prop:=
 ∃a x,(((l=a++[x]∧a.find? (ZG t kd m)=none∧ZG t kd m x=true)∧JA W (w.heap.size+1+1+1) 47 #[.int .i64 x.1,.int .i64 x.2])∧JA W (w.heap.size+1+1+1+1) 4 #[.bool true])∧Ext w W
theorem CS (t:Tr) (w:World) (kd m:Int) {n:Nat} (hn:w.heap.size≤n):OwnFrom n (fun (pre:List (Idt t)) W=>FdI t w kd m (pre.map (·.1)) W):=
 OwnFrom.and (OwnFrom.and (OwnFrom.and (OwnFrom.and (OwnFrom.and (GA _ _ _ _) (GA _ _ _ _)) (GA _ _ _ _)) (GA _ _ _ _)) (dG hn)) (ownFrom_pure _ _)
theorem ZCY (t:Tr) (w:World) (kd m:Int) {n:Nat} (hn:w.heap.size≤n):OwnFrom n (fun (pre:List (Idt t)) W=>FdX t w kd m (pre.map (·.1)) W):=by
 rintro s X Y row ⟨a,x,h⟩ hg hr
 refine⟨a,x,⟨⟨h.1.1.1,?_⟩,?_⟩,dG hn () X Y row h.2 hg hr⟩
 ·exact GA _ n _ (fun (_:Unit)=>_) () X Y row h.1.1.2 hg hr
 ·exact GA _ n _ (fun (_:Unit)=>_) () X Y row h.1.2 hg hr
theorem M2 {t:Tr} {kd m:Int} {a:List (Nat×Nat)} {x:Nat×Nat} (hv:pD t=true) (hp:a++[x] <+: ids t) (h0:a.find? (ZG t kd m)=none) (hx:ZG t kd m x=true):vD t kd m=x∧0<x.2:=by
 obtain⟨c,hc⟩:=hp
 have hf:(ids t).find? (ZG t kd m)=some x:=by
  rw[←hc,ay,hU,h0];simp[hx]
 refine⟨?_,MF (t:=t) (by rw[←hc];simp)⟩
 unfold vD lE VA
 rw[if_pos hv,hf];rfl
theorem E2 {t:Tr} {kd m:Int} (h:(ids t).find? (ZG t kd m)=none):vD t kd m=(0,0):=by
 unfold vD lE VA
 rw[h];simp

theorem kW1 {p:Prop} (h:p:=by (with_reducible repeat (first|assumption|exact KeepsFrom.refl _ _|refine KF.set ?_ _ _|refine KF.alloc ?_ _|refine KF.drew ?_|refine KF.drewN ?_ _|refine KF.ext ?_ aS|exact Below.refl _ _|refine BL.set ?_ _ _ _ oM|refine BL.alloc ?_ _ oM|refine BL.drew ?_|refine BL.drewN ?_ _|refine BL.ext ?_ aS oM|exact Ext.refl _|refine Ext.set ?_ oM _|refine Ext.alloc ?_ _|refine Ext.drew ?_|refine Ext.drewN ?_ _|refine Ext.trans ?_ aS|refine JA.alloc ?_ _|refine JA.drew ?_|refine JA.drewN ?_ _|refine JA.other ?_ oM _|refine JA.set ?_ _ _|apply JA.set1|apply JA.set2_1|apply JA.set2_0|apply JA.set5_4|apply JA.set5_3|apply JA.set5_2|apply JA.set5_1|apply JA.set5_0|apply JA.set3_2|apply JA.set3_1|apply JA.set3_0|apply JA.set4_3|apply JA.set4_2|apply JA.set4_1|apply JA.set4_0|refine JA.ext ?_ aS));done):p:=h
theorem kZ (u:Value) (t:Tr) (kd m:Int) (w:World) (hS:Small t) (hs:SlR 3 RPr w u t) :
  Calls Tryz.prog 36 #[.agg #[u],.int .i64 kd,.int .i64 m] w fun e w'=>Y6 t kd m w e w':=by
 have HV:=zA (fun w' (he:Ext w w')=>callsIn_wide (n:=8).2 (aM u t w' hS.sm (hs.ext RPr.keeps he)))
 refine callsIn_wide (n:=9).1 ?_
 refine callsIn_of_wp_marks Tryz.func36 rfl trivial ?_ rfl
 simp only[Tryz.ntmps36,eh,ck,cr,Nat.reduceAdd,Nat.reduceSub,ik,il,im,io,cg,bw]
 obtain⟨A,c,rfl,_,sM,_⟩:=hs.at_
 gi_wp2_with fail
 refine⟨trivial,?_⟩
 have hx1:Ext w ((((((w).alloc (.cells #[.slice A t.length c] 34)).alloc (.cells #[.int .i64 kd] 3)).alloc (.cells #[.int .i64 m] 3)).alloc (.cells #[.int .i64 0,.int .i64 0] 47)).alloc (.cells #[.bool false] 4)):=(((((Ext.refl w).alloc _).alloc _).alloc _).alloc _).alloc _
 have b1:JA ((((((w).alloc (.cells #[.slice A t.length c] 34)).alloc (.cells #[.int .i64 kd] 3)).alloc (.cells #[.int .i64 m] 3)).alloc (.cells #[.int .i64 0,.int .i64 0] 47)).alloc (.cells #[.bool false] 4)) (w.heap.size+1) 3 #[.int .i64 kd]:=(((JA.newAt _ _ kS).alloc _).alloc _).alloc _
 have b2:JA ((((((w).alloc (.cells #[.slice A t.length c] 34)).alloc (.cells #[.int .i64 kd] 3)).alloc (.cells #[.int .i64 m] 3)).alloc (.cells #[.int .i64 0,.int .i64 0] 47)).alloc (.cells #[.bool false] 4)) (w.heap.size+1+1) 3 #[.int .i64 m]:=((JA.newAt _ _ kS).alloc _).alloc _
 have b3:JA ((((((w).alloc (.cells #[.slice A t.length c] 34)).alloc (.cells #[.int .i64 kd] 3)).alloc (.cells #[.int .i64 m] 3)).alloc (.cells #[.int .i64 0,.int .i64 0] 47)).alloc (.cells #[.bool false] 4)) (w.heap.size+1+1+1) 47 #[.int .i64 0,.int .i64 0]:=(JA.newAt _ _ kS).alloc _
 have b4:JA ((((((w).alloc (.cells #[.slice A t.length c] 34)).alloc (.cells #[.int .i64 kd] 3)).alloc (.cells #[.int .i64 m] 3)).alloc (.cells #[.int .i64 0,.int .i64 0] 47)).alloc (.cells #[.bool false] 4)) (w.heap.size+1+1+1+1) 4 #[.bool false]:=JA.newAt _ _ kS
 have bT:JA ((((((w).alloc (.cells #[.slice A t.length c] 34)).alloc (.cells #[.int .i64 kd] 3)).alloc (.cells #[.int .i64 m] 3)).alloc (.cells #[.int .i64 0,.int .i64 0] 47)).alloc (.cells #[.bool false] 4)) (w.heap.size) 34 #[.slice A t.length c]:=((((JA.new _ _ _).alloc _).alloc _).alloc _).alloc _
 generalize (((((w).alloc (.cells #[.slice A t.length c] 34)).alloc (.cells #[.int .i64 kd] 3)).alloc (.cells #[.int .i64 m] 3)).alloc (.cells #[.int .i64 0,.int .i64 0] 47)).alloc (.cells #[.bool false] 4)=W1 at *
 refine (HV.out _ hx1).mono ?_
 rintro e w2 ⟨rfl,QI⟩
 replace hx1:=hx1.trans QI
 replace b1:=b1.ext QI
 replace b2:=b2.ext QI
 replace b3:=b3.ext QI
 replace b4:=b4.ext QI
 replace bT:=bT.ext QI
 clear QI
 have f0:=b3.frozen 0
 have f1:=b3.frozen 1
 have f2:=b4.frozen 0
 have r0:w2.cell? ⟨w.heap.size+1+1+1,0,none⟩=some (.int .i64 0):=b3.cell (j:=0) rfl
 have r1:w2.cell? ⟨w.heap.size+1+1+1,1,none⟩=some (.int .i64 0):=b3.cell (j:=1) rfl
 have r2:w2.cell? ⟨w.heap.size+1+1+1+1,0,none⟩=some (.bool false):=b4.cell (j:=0) rfl
 have t0:w2.cell? ⟨w.heap.size,0,none⟩=some (.slice A t.length c):=bT.cell (j:=0) rfl
 cases hv:pD t
 ·have HF:=zA (show vD t kd m=(0,0) by unfold vD;rw[hv];rfl)
  clear hv
  gi_wp2_with fail
  obtain⟨Wr,dH⟩:∃Wr,((w2.setCell ⟨w.heap.size+1+1+1,0,none⟩ (Value.int .i64 0)).setCell ⟨w.heap.size+1+1+1,1,none⟩ (Value.int .i64 0)).setCell ⟨w.heap.size+1+1+1+1,0,none⟩ (Value.bool false)=Wr:=⟨_,rfl⟩
  rw[dH]
  have s1:JA Wr (w.heap.size+1+1+1) 47 #[.int .i64 0,.int .i64 0]:=by rw[←dH];exact kW1
  have s2:JA Wr (w.heap.size+1+1+1+1) 4 #[.bool false]:=by rw[←dH];exact kW1
  have sx:Ext w Wr:=by rw[←dH];exact kW1
  clear dH
  refine⟨.tuple #[RB (0,0),.bool false],by simp[results,Tryz.f36,go_sem,RB,s1.cell (j:=0) rfl,s1.cell (j:=1) rfl,s2.cell (j:=0) rfl],by rw[HF.out];rfl,sx⟩
 ·have HVL:=zA hv
  clear hv
  have hnp:=hS.np
  gi_wp2_with (refine⟨trivial,?_⟩;gi_at_call 55;refine (callsIn_wide.2 (cH _ _)).mono ?_;rintro e w' ⟨rfl,rfl⟩)
  have bt:=JA.new w2 34 #[.slice A t.length c]
  have hM0:FdI t w kd m [] (w2.alloc (.cells #[.slice A t.length c] 34)):=⟨⟨⟨⟨⟨b1.alloc _,b2.alloc _⟩,b3.alloc _⟩,b4.alloc _⟩,hx1.alloc _⟩,rfl⟩
  have hwr:w.heap.size≤w2.heap.size:=hx1.size
  have kU:(w2.alloc (.cells #[.slice A t.length c] 34)).heap.size=w2.heap.size+1:=by simp
  generalize (w2.alloc (.cells #[.slice A t.length c] 34))=W0 at *
  have LP:Ext w W0:=hM0.1.2
  have JW:w.heap.size≤W0.heap.size:=by omega
  clear kU f0 f1 f2 r0 r1 r2 t0
  refine wpIn_rangeFunc_ownH rfl oM (gf:=94) (lb:=#[.pointer (some ⟨w2.heap.size,0,none⟩)]) rfl trivial (XD Tryz.func94 kE rfl)
   (gG 8 oM w (.slice A t.length c) t w2.heap.size W0 hnp hS.ne hs LP (bt.cell rfl) hwr) belowK_t (belowK_b JW) (Below.refl _ _) (fun _=>rfl)
   (fun pre W=>FdI t w kd m (pre.map (·.1)) W) (fun c pre W=>c=.ret∧FdX t w kd m (pre.map (·.1)) W) (CS t w kd m JW) (fun c=>OwnFrom.and (ownFrom_pure _ _) (ZCY t w kd m JW)) hM0
   (fun x a' W=>∃B6 B7 A4 n4 c4 v13 v14,(w.heap.size+1+1+1+1<B6∧w.heap.size+1+1+1+1<B7)∧JA W B6 47 #[.int .i64 x.1.1,.int .i64 x.1.2]∧JA W B7 45 #[.int .i64 (rA t x.1).kind,.int .i64 (rA t x.1).peer,.int .i64 (rA t x.1).msg,.int .i64 (rA t x.1).time,.slice A4 n4 c4] ∧
    a'={tmps:=#[.agg #[.slice A t.length c],.int .i64 kd,.int .i64 m,.pointer (some ⟨w.heap.size,0,none⟩),.pointer (some ⟨w.heap.size+1,0,none⟩),.pointer (some ⟨w.heap.size+1+1,0,none⟩),.pointer (some ⟨w.heap.size+1+1+1,0,none⟩),.pointer (some ⟨w.heap.size+1+1+1+1,0,none⟩),.pointer (some ⟨B6,0,none⟩),.pointer (some ⟨B7,0,none⟩),.agg #[.slice A t.length c],.bool true,.bool false,undef,.agg #[.slice A t.length c],.func (.func 94) #[] #[.pointer (some ⟨w2.heap.size,0,none⟩)],v13,v14,undef,undef,undef,undef,undef,undef,undef,undef,undef,undef,undef,undef],defers:=[]})
   ?hax ?assign ?body ?done ?stop
  case hax =>
   rintro x a' _ X Y row ⟨B6,B7,A4,n4,c4,v13,v14,hB,b6,b7,ha⟩ hg hr
   exact⟨B6,B7,A4,n4,c4,v13,v14,hB,GA B6 _ _ (fun (_:Unit)=>_) () X Y row b6 hg hr,GA B7 _ _ (fun (_:Unit)=>_) () X Y row b7 hg hr,ha⟩
  case assign =>
   rintro l pre x W K hI hK
   obtain⟨a,hv,hsa⟩:=fO hs x.2
   obtain⟨A4,c4,rfl,_,_,_⟩:=hsa.at_
   clear hsa
   simp only[hv]
   have hsW:=hI.1.2.size
   have h5:=hI.1.1.2.lt
   unfold RB
   gi_wp2
   exact hK _ _ (((KeepsOthers.alloc _ _).trans (KeepsOthers.alloc _ _)).from _) (((Below.refl _ W).alloc hsW _).alloc kT _) ((CS t w kd m (ah _)).alloc _ ((CS t w kd m (ah _)).alloc _ hI))
    ⟨W.heap.size,W.heap.size+1,A4,_,c4,_,_,⟨h5,by omega⟩,(JA.new _ _ _).alloc _,JA.newAt _ _ kS,rfl⟩
  case body =>
   rintro l pre x a' W hlW ⟨r,hr⟩ hI ⟨B6,B7,A4,n4,c4,v13,v14,⟨hB6,hB7⟩,b6,b7,rfl⟩ jD
   obtain⟨⟨⟨⟨⟨c1,c2⟩,c3⟩,c4'⟩,TQ⟩,DO⟩:=hI
   have hsW:=TQ.size
   have HNO:=zA DO
   have HKEY:=zA (show ZG t kd m x.1=(((rA t x.1).kind==kd)&&((rA t x.1).msg==m)) from rfl)
   clear DO
   have k0:=b7.cell (j:=0) rfl
   have k1:=b7.cell (j:=1) rfl
   have k2:=b7.cell (j:=2) rfl
   have k3:=b7.cell (j:=3) rfl
   have k4:=b7.cell (j:=4) rfl
   have i0:=b6.cell (j:=0) rfl
   have i1:=b6.cell (j:=1) rfl
   have d1:=c1.cell (j:=0) rfl
   have d2:=c2.cell (j:=0) rfl
   have f0:=c3.frozen 0
   have f1:=c3.frozen 1
   have f2:=c4'.frozen 0
   have r0:=c3.cell (j:=0) rfl
   have r1:=c3.cell (j:=1) rfl
   have r2:=c4'.cell (j:=0) rfl
   have VP:∀b1 b2,((rA t x.1).kind==kd)=b1→((rA t x.1).msg==m)=b2→ZG t kd m x.1=(b1&&b2):=fun b1 b2 h1 h2=>by rw[HKEY.out,h1,h2]
   have HKK:=zA VP
   clear VP
   have ZJy:∀y:Nat×Nat,y=x.1→ZG t kd m x.1=false→(pre.map (·.1)++[y]).find? (ZG t kd m)=none:=fun y hy h=>by
    rw[hU,HNO.out,hy];simp[h]
   have HIOK:=zA ZJy
   clear ZJy
   cases q1:(rA t x.1).kind==kd
   ·have HN:=zA (HIOK.out x.1 rfl (HKK.out _ _ q1 rfl))
    gi_wp2
    refine⟨KeepsFrom.refl _ _,Below.refl _ _,?_⟩
    show FdI t w kd m ((pre++[x]).map (·.1)) _
    rw[mF]
    exact⟨⟨⟨⟨⟨c1,c2⟩,c3⟩,c4'⟩,TQ⟩,HN.out⟩
   ·cases q2:(rA t x.1).msg==m
    ·have HN:=zA (HIOK.out x.1 rfl (by rw[HKK.out _ _ q1 q2];rfl))
     gi_wp2
     refine⟨KeepsFrom.refl _ _,Below.refl _ _,?_⟩
     show FdI t w kd m ((pre++[x]).map (·.1)) _
     rw[mF]
     exact⟨⟨⟨⟨⟨c1,c2⟩,c3⟩,c4'⟩,TQ⟩,HN.out⟩
    ·have HN:=zA (HKK.out _ _ q1 q2)
     gi_wp2
     refine⟨?_,rfl,pre.map (·.1),x.1,⟨⟨⟨mF pre x,HNO.out,HN.out⟩,?_⟩,?_⟩,?_⟩
     all_goals exact kW1
  case done =>
   rintro D ys W hD hys ⟨⟨⟨⟨⟨c1,c2⟩,c3⟩,c4⟩,TQ⟩,DO⟩ hK
   rw[hys]at DO
   have HF:=zA (E2 DO)
   clear DO
   have f0:=c3.frozen 0
   have f1:=c3.frozen 1
   have f2:=c4.frozen 0
   have r0:=c3.cell (j:=0) rfl
   have r1:=c3.cell (j:=1) rfl
   have r2:=c4.cell (j:=0) rfl
   gi_wp2
   obtain⟨Wr,dH⟩:∃Wr,((W.setCell ⟨w.heap.size+1+1+1,0,none⟩ (Value.int .i64 0)).setCell ⟨w.heap.size+1+1+1,1,none⟩ (Value.int .i64 0)).setCell ⟨w.heap.size+1+1+1+1,0,none⟩ (Value.bool false)=Wr:=⟨_,rfl⟩
   rw[dH]
   have s1:JA Wr (w.heap.size+1+1+1) 47 #[.int .i64 0,.int .i64 0]:=by rw[←dH];exact kW1
   have s2:JA Wr (w.heap.size+1+1+1+1) 4 #[.bool false]:=by rw[←dH];exact kW1
   have sx:Ext w Wr:=by rw[←dH];exact kW1
   have hkf:KeepsFrom W0.heap.size W Wr:=by rw[←dH];exact kW1
   have BP:Wr.heap[D]? = some (.deferred (some [])):=hkf.same D _ hD hK rfl
   clear dH
   have e2:=(s1.putObj BP rfl (.deferred none)).cell (j:=0) rfl
   have e3:=(s1.putObj BP rfl (.deferred none)).cell (j:=1) rfl
   have e4:=(s2.putObj BP rfl (.deferred none)).cell (j:=0) rfl
   refine⟨by simp,.inl ⟨_,_,rfl,run_takeDeferred BP,?_⟩⟩
   refine⟨.tuple #[RB (0,0),.bool false],?_,by rw[HF.out];rfl,sx.putObj oM BP _⟩
   simp[results,Tryz.f36,go_sem,e2,e3,e4,RB]
  case stop =>
   rintro D c' pre W hD pJ ⟨rfl,a,x,⟨⟨⟨hp,h0,hx⟩,r1W⟩,r2W⟩,TQ⟩ hK
   rw[hp]at pJ
   have HST:=zA (M2 HVL.out pJ h0 hx)
   clear h0 hx
   gi_wp2
   have e2:=(r1W.putObj hK rfl (.deferred none)).cell (j:=0) rfl
   have e3:=(r1W.putObj hK rfl (.deferred none)).cell (j:=1) rfl
   have e4:=(r2W.putObj hK rfl (.deferred none)).cell (j:=0) rfl
   refine⟨by simp,.inl ⟨_,_,rfl,run_takeDeferred hK,?_⟩⟩
   refine⟨.tuple #[RB x,.bool true],?_,by rw[HST.out.1,ag HST.out.2],TQ.putObj oM hK _⟩
   simp[results,Tryz.f36,go_sem,e2,e3,e4,RB]
theorem O4 (u:Value) (t:Tr) (m:Int) (w:World) (hS:Small t) (hs:SlR 3 RPr w u t) :
  Calls Tryz.prog 10 #[.agg #[u],.int .i64 m] w fun e w'=>Y6 t 2 m w e w':=by
 have HF:=zA (fun w' (he:Ext w w')=>kZ u t 2 m w' hS (hs.ext RPr.keeps he))
 obtain⟨A,c,rfl,_,sM,_⟩:=hs.at_
 go_enter Tryz.func10,Tryz.ntmps10
 go_wp2_with fail
 have hx1:=((Ext.refl w).alloc (.cells #[.slice A t.length c] 34)).alloc (.cells #[.int .i64 0,.int .i64 0] 47)
 have b3:JA ((w.alloc (.cells #[.slice A t.length c] 34)).alloc (.cells #[.int .i64 0,.int .i64 0] 47)) (w.heap.size+1) 47 #[.int .i64 0,.int .i64 0]:=JA.newAt _ _ kS
 generalize (w.alloc (.cells #[.slice A t.length c] 34)).alloc (.cells #[.int .i64 0,.int .i64 0] 47)=W1 at *
 refine (HF.out _ hx1).mono ?_
 rintro e w2 ⟨rfl,QI⟩
 have RT:=hx1.trans QI
 have b4:=b3.ext QI
 have f0:=b4.frozen 0
 have f1:=b4.frozen 1
 have r0:=b4.cell (j:=0) rfl
 have r1:=b4.cell (j:=1) rfl
 unfold RB
 go_wp2
 obtain⟨Wr,dH⟩:∃Wr,(w2.setCell ⟨w.heap.size+1,0,none⟩ (Value.int .i64 (vD t 2 m).1)).setCell ⟨w.heap.size+1,1,none⟩ (Value.int .i64 (vD t 2 m).2)=Wr:=⟨_,rfl⟩
 rw[dH]
 have s1:JA Wr (w.heap.size+1) 47 #[.int .i64 (vD t 2 m).1,.int .i64 (vD t 2 m).2]:=by rw[←dH];exact kW1
 have sx:Ext w Wr:=by rw[←dH];exact kW1
 clear dH
 refine bodyPost_ret (v:=.tuple #[RB (vD t 2 m),.bool (decide (0<(vD t 2 m).2))]) ?_ rfl ⟨rfl,sx⟩
 simp[results,Tryz.f10,go_sem,RB,s1.cell (j:=0) rfl,s1.cell (j:=1) rfl]
theorem OV (u:Value) (t:Tr) (m:Int) (w:World) (hS:Small t) (hs:SlR 3 RPr w u t) :
  Calls Tryz.prog 112 #[.agg #[u],.int .i64 m] w fun e w'=>Y6 t 3 m w e w':=by
 have HF:=zA (fun w' (he:Ext w w')=>kZ u t 3 m w' hS (hs.ext RPr.keeps he))
 obtain⟨A,c,rfl,_,sM,_⟩:=hs.at_
 go_enter Tryz.func112,Tryz.ntmps112
 go_wp2_with fail
 have hx1:=((Ext.refl w).alloc (.cells #[.slice A t.length c] 34)).alloc (.cells #[.int .i64 0,.int .i64 0] 47)
 have b3:JA ((w.alloc (.cells #[.slice A t.length c] 34)).alloc (.cells #[.int .i64 0,.int .i64 0] 47)) (w.heap.size+1) 47 #[.int .i64 0,.int .i64 0]:=JA.newAt _ _ kS
 generalize (w.alloc (.cells #[.slice A t.length c] 34)).alloc (.cells #[.int .i64 0,.int .i64 0] 47)=W1 at *
 refine (HF.out _ hx1).mono ?_
 rintro e w2 ⟨rfl,QI⟩
 have RT:=hx1.trans QI
 have b4:=b3.ext QI
 have f0:=b4.frozen 0
 have f1:=b4.frozen 1
 have r0:=b4.cell (j:=0) rfl
 have r1:=b4.cell (j:=1) rfl
 unfold RB
 go_wp2
 obtain⟨Wr,dH⟩:∃Wr,(w2.setCell ⟨w.heap.size+1,0,none⟩ (Value.int .i64 (vD t 3 m).1)).setCell ⟨w.heap.size+1,1,none⟩ (Value.int .i64 (vD t 3 m).2)=Wr:=⟨_,rfl⟩
 rw[dH]
 have s1:JA Wr (w.heap.size+1) 47 #[.int .i64 (vD t 3 m).1,.int .i64 (vD t 3 m).2]:=by rw[←dH];exact kW1
 have sx:Ext w Wr:=by rw[←dH];exact kW1
 clear dH
 refine bodyPost_ret (v:=.tuple #[RB (vD t 3 m),.bool (decide (0<(vD t 3 m).2))]) ?_ rfl ⟨rfl,sx⟩
 simp[results,Tryz.f112,go_sem,RB,s1.cell (j:=0) rfl,s1.cell (j:=1) rfl]

def CtI (t:Tr) (w:World) (gc:Nat) (l:List (Nat×Nat)) (W:World):Prop:=(JA W gc 3 #[.int .i64 l.length]∧Ext w W)
theorem ZC8 (t:Tr) (w:World) (gc:Nat) {n:Nat} (hn:w.heap.size≤n):OwnFrom n (fun (pre:List (Idt t)) W=>CtI t w gc (pre.map (·.1)) W):=
 OwnFrom.and (GA _ _ _ _) (dG hn)
theorem ZA3 (u:Value) (t:Tr) (w:World) (hS:Small t) (hN:(ids t).length≤1000000) (hs:SlR 3 RPr w u t) :
  Calls Tryz.prog 24 #[.agg #[u]] w fun e w'=>e=.returned (.int .i64 (qG t))∧Ext w w':=by
 have HV:=zA (fun w' (he:Ext w w')=>callsIn_wide (n:=8).2 (aM u t w' hS.sm (hs.ext RPr.keeps he)))
 refine callsIn_wide (n:=9).1 ?_
 refine callsIn_of_wp_marks Tryz.func24 rfl trivial ?_ rfl
 simp only[Tryz.ntmps24,eh,ck,cr,Nat.reduceAdd,Nat.reduceSub,ik,il,im,io,cg,bw]
 obtain⟨A,c,rfl,_,sM,_⟩:=hs.at_
 gi_wp2_with fail
 refine⟨trivial,?_⟩
 have hx1:Ext w (w.alloc (.cells #[.slice A t.length c] 34)):=(Ext.refl w).alloc _
 have bT:JA (w.alloc (.cells #[.slice A t.length c] 34)) (w.heap.size) 34 #[.slice A t.length c]:=JA.new _ _ _
 generalize w.alloc (.cells #[.slice A t.length c] 34)=W1 at *
 refine (HV.out _ hx1).mono ?_
 rintro e w2 ⟨rfl,QI⟩
 replace hx1:=hx1.trans QI
 replace bT:=bT.ext QI
 clear QI
 have t0:w2.cell? ⟨w.heap.size,0,none⟩=some (.slice A t.length c):=bT.cell (j:=0) rfl
 have lt0:=bT.lt
 cases hv:pD t
 ·have HF:=zA (show qG t=0 by unfold qG;rw[hv];rfl)
  clear hv
  gi_wp2_with fail
  exact⟨.int .i64 0,by simp[results,Tryz.f24,go_sem],by rw[HF.out];rfl,hx1⟩
 ·have HVL:=zA (show qG t=(ids t).length by unfold qG;rw[hv];rfl)
  clear hv
  have hnp:=hS.np
  gi_wp2_with (refine⟨trivial,?_⟩;gi_at_call 55;refine (callsIn_wide.2 (cH _ _)).mono ?_;rintro e w' ⟨rfl,rfl⟩)
  have bt:JA ((w2.alloc (.cells #[.int .i64 0] 3)).alloc (.cells #[.slice A t.length c] 34)) (w2.heap.size+1) 34 #[.slice A t.length c]:=JA.newAt _ _ kS
  have hM0:CtI t w w2.heap.size [] ((w2.alloc (.cells #[.int .i64 0] 3)).alloc (.cells #[.slice A t.length c] 34)):=⟨(JA.new _ _ _).alloc _,(hx1.alloc _).alloc _⟩
  have hwr:w.heap.size≤w2.heap.size:=hx1.size
  have kU:((w2.alloc (.cells #[.int .i64 0] 3)).alloc (.cells #[.slice A t.length c] 34)).heap.size=w2.heap.size+1+1:=by simp
  generalize ((w2.alloc (.cells #[.int .i64 0] 3)).alloc (.cells #[.slice A t.length c] 34))=W0 at *
  have LP:Ext w W0:=hM0.2
  have JW:w.heap.size≤W0.heap.size:=by omega
  clear kU t0 lt0 hx1 bT
  generalize w2.heap.size=gc at *
  refine wpIn_rangeFunc_ownH rfl oM (gf:=94) (lb:=#[.pointer (some ⟨gc+1,0,none⟩)]) rfl trivial (XD Tryz.func94 kE rfl)
   (gG 8 oM w (.slice A t.length c) t (gc+1) W0 hnp hS.ne hs LP (bt.cell rfl) oM) belowK_t (belowK_b JW) (Below.refl _ _) (fun _=>rfl)
   (fun pre W=>CtI t w gc (pre.map (·.1)) W) (fun c pre W=>False) (ZC8 t w gc JW) (fun c=>ownFrom_pure _ _) hM0
   (fun x a' W=>∃v13 v14,
    a'={tmps:=#[.agg #[.slice A t.length c],.pointer (some ⟨w.heap.size,0,none⟩),.int .i64 0,.pointer (some ⟨gc,0,none⟩),.agg #[.slice A t.length c],.bool true,.bool false,.agg #[.slice A t.length c],.func (.func 94) #[] #[.pointer (some ⟨gc+1,0,none⟩)],v13,v14,undef,undef,undef],defers:=[]})
   ?hax ?assign ?body ?done ?stop
  case hax =>
   rintro x a' _ X Y row ⟨v13,v14,ha⟩ hg hr
   exact⟨v13,v14,ha⟩
  case assign =>
   rintro l pre x W K hI hK
   gi_wp2
   exact hK _ _ (KeepsFrom.refl _ _) (Below.refl _ _) hI ⟨RB x.1,LT w (.slice A t.length c) x.1,by simp⟩
  case body =>
   rintro l pre x a' W hlW ⟨r,hr⟩ hI ⟨v13,v14,rfl⟩ jD
   obtain⟨c1,TQ⟩:=hI
   have hsW:=TQ.size
   have d0:W.cell? ⟨gc,0,none⟩=some (.int .i64 ((pre.length:Nat):Int)):=by rw[c1.cell (j:=0) rfl];simp
   have f0:=c1.frozen 0
   have uT:pre.length<1000000:=by omega
   have ZMA:=(i8 pre.length 1 1 rfl oM).1
   have HGC:=zA hwr
   gi_wp2
   refine⟨KF.set (KeepsFrom.refl _ _) _ _,BL.set (Below.refl _ _) _ _ _ hwr,?_⟩
   show CtI t w gc ((pre++[x]).map (·.1)) _
   refine⟨?_,Ext.set TQ hwr _⟩
   rw[show (((pre++[x]).map (·.1)).length:Int)=(pre.length:Int)+1 by simp]
   exact JA.set1 c1
  case done =>
   rintro D ys W hD hys ⟨c1,TQ⟩ hK
   rw[hys]at c1
   have d0:W.cell? ⟨gc,0,none⟩=some (.int .i64 ((ids t).length:Nat)):=c1.cell (j:=0) rfl
   gi_wp2
   refine⟨by simp,.inl ⟨_,_,rfl,run_takeDeferred hK,?_⟩⟩
   refine⟨.int .i64 ((ids t).length:Nat),?_,by rw[HVL.out],TQ.putObj oM hK _⟩
   simp[results,Tryz.f24,go_sem]
  case stop=>rintro D c' pre W hD pJ h;exact h.elim
end Go.Proofs.YtadnnjchehjbiaaGreatDoor
namespace Go.Proofs.YtadnnjchehjbiaaGreatDoor
set_option linter.unusedVariables false

structure Vok (t:Tr):Prop where
 lo:1≤t.length
 hi:t.length≤8
 head:∀p,p<t.length→gE t p=0
 form:∀x∈ids t,mE t x=0
 pair:∀x∈ids t,UF t x=0
 acyc:∀x∈ids t,¬Hb t x x
theorem vok {t:Tr} (h:pD t=true):Vok t:=by
 unfold pD DF at h
 split at h
 ·simp at h
 rename_i hl
 split at h
 ·rename_i p hp
  have:=gg hp
  simp at h this;exact absurd h this
 rename_i h1
 split at h
 ·rename_i p hp
  have:=gg hp
  simp at h this;exact absurd h this
 rename_i h2
 split at h
 ·rename_i p hp
  have:=gg hp
  simp at h this;exact absurd h this
 rename_i h3
 split at h
 ·simp at h
 rename_i h4
 rw[dg]at h1 h2 h3 h4
 refine⟨by omega,by omega,fun p hp=>?_,fun x hx=>?_,fun x hx=>?_,fun x hx=>?_⟩
 ·simpa using h1 p (bc.2 hp)
 ·simpa using h2 x hx
 ·simpa using h3 x hx
 ·simpa using h4 x hx
theorem Vok.paired {t:Tr} (h:Vok t):Paired t:=⟨fun x hx=>vH (h.form x hx),h.pair⟩
theorem yE {t:Tr} {p:Nat} (h:p<t.length):sA t p=t[p].evs:=by unfold sA;simp[List.getD,h]
theorem kD {t:Tr} {p i:Nat}:(p,i+1)∈ids t↔p<t.length∧i<(sA t p).length:=by
 rw[VE]
 constructor
 ·rintro⟨hp,_,h⟩
  have h:i+1≤t[p].evs.length:=h
  exact⟨hp,by rw[yE hp];omega⟩
 ·rintro⟨hp,h⟩;rw[yE hp]at h;exact⟨hp,by simp,(show i+1≤t[p].evs.length by omega)⟩

theorem Hb.trans {t:Tr} {x y z:Nat×Nat} (h:Hb t x y) (k:Hb t y z):Hb t x z:=by
 induction k with
 |one h2=>exact .more h h2
 |more _ h2 ih=>exact .more ih h2
def Le (t:Tr) (x y:Nat×Nat):Prop:=x=y∨Hb t x y
theorem Le.refl {t:Tr} (x:Nat×Nat):Le t x x:=.inl rfl
theorem Le.hb {t:Tr} {x y z:Nat×Nat} (h:Le t x y) (k:Hb t y z):Hb t x z:=by
 rcases h with rfl|h
 ·exact k
 ·exact h.trans k
theorem Le.trans {t:Tr} {x y z:Nat×Nat} (h:Le t x y) (k:Le t y z):Le t x z:=by
 rcases k with rfl|k
 ·exact h
 ·exact .inr (h.hb k)
theorem ZDU {t:Tr} {p i:Nat}:∀{j:Nat},i<j→j≤(sA t p).length→Hb t (p,i) (p,j)
 |0,h,_=>by omega
 |j+1,h,hl=>by
   have d:Dir t (p,j) (p,j+1):=.inl ⟨rfl,hl⟩
   by_cases hj:i=j
   ·subst hj;exact .one d
   ·exact .more (ZDU (show i<j by omega) oM) d
theorem ZHh {t:Tr} {p i j:Nat} (h:i≤j) (hl:j≤(sA t p).length):Le t (p,i) (p,j):=by
 by_cases hj:i=j
 ·exact .inl (by rw[hj])
 ·exact .inr (ZDU oM hl)

noncomputable def leB (t:Tr) (x y:Nat×Nat):Bool:=@decide (Le t x y) (Classical.propDecidable _)
theorem MO {t:Tr} {x y:Nat×Nat}:leB t x y=true↔Le t x y:=by unfold leB;exact @decide_eq_true_iff _ (Classical.propDecidable _)
noncomputable def vc (t:Tr) (x:Nat×Nat) (q:Nat):Nat:=(List.range (sA t q).length).countP fun i=>leB t (q,i+1) x
theorem vS {P:Nat→Bool}:∀{n:Nat},(∀i j,i<n→j≤i→P i=true→P j=true)→∀i,i<n→(P i=true↔i<(List.range n).countP P)
 |0,_,i,hi=>by omega
 |n+1,h,i,hi=>by
   have ih:=vS (P:=P) (n:=n) (fun i j hi hj hp=>h i j oM hj hp)
   have nL:=List.countP_le_length (p:=P) (l:=List.range n)
   rw[jy]at nL
   rw[ig,List.countP_append,List.countP_singleton]
   by_cases hn:P n=true
   ·have all:∀j,j<n→P j=true:=fun j hj=>h n j oM oM hn
    have hc:(List.range n).countP P=n:=by
     rcases cq ((List.range n).countP P) n with bB|TK
     ·have:=(ih _ bB).1 (all _ bB);omega
     ·omega
    rw[if_pos hn,hc]
    constructor
    ·intro _;omega
    ·intro _
     rcases cq i n with bB|TK
     ·exact all i bB
     ·have:i=n:=by omega
      subst this;exact hn
   ·rw[if_neg hn]
    rcases cq i n with bB|TK
    ·exact ih i bB
    ·have:i=n:=by omega
     subst this
     constructor
     ·intro hp;exact absurd hp hn
     ·intro hp;omega
theorem ZHA {t:Tr} {x:Nat×Nat} {q i:Nat} (h:i<(sA t q).length):Le t (q,i+1) x↔i<vc t x q:=by
 have:=vS (P:=fun i=>leB t (q,i+1) x) (n:=(sA t q).length) (fun i j hi hj hp=>by
  rw[MO]at hp⊢
  exact (ZHh oM oM).trans hp) i h
 rw[←MO]
 exact this
theorem vc_le {t:Tr} {x:Nat×Nat} {q:Nat}:vc t x q≤(sA t q).length:=by
 have:=List.countP_le_length (p:=fun i=>leB t (q,i+1) x) (l:=List.range (sA t q).length)
 rwa [jy]at this
theorem ZHP {a b n:Nat} (ha:a≤n) (hb:b≤n) (h:∀j,j<n→(j<a↔j<b)):a=b:=by
 rcases jz a b with hl|hl|hl
 ·have:=(h a oM).2 hl;omega
 ·exact hl
 ·have:=(h b oM).1 hl;omega
theorem ZFT {t:Tr} (hv:Vok t) {x w:Nat×Nat} (hx:x∈ids t) (hw:w∈ids t):Le t w x↔w=x∨∃y∈vN t x,Le t w y:=by
 constructor
 ·rintro (h|h)
  ·exact .inl h
  ·obtain⟨y,h1,h2⟩:=h.back
   refine .inr ⟨y,?_,?_⟩
   ·refine (MH hv.paired hx).2 ⟨?_,h1⟩
    rcases h2 with rfl|h2
    ·exact hw
    ·exact h2.mem hw
   ·rcases h2 with rfl|h2
    ·exact .inl rfl
    ·exact .inr h2
 ·rintro (h|⟨y,h1,h2⟩)
  ·exact .inl h
  ·exact .inr (h2.hb (.one ((MH hv.paired hx).1 h1).2))
theorem tZ {t:Tr} (hv:Vok t) {x y:Nat×Nat} (hx:x∈ids t) (hy:y∈vN t x):y∈ids t∧Hb t y x:=by
 obtain⟨h1,h2⟩:=(MH hv.paired hx).1 hy
 exact⟨h1,.one h2⟩
noncomputable def UK (t:Tr) (x:Nat×Nat):Nat×Nat:=lE t 2 (rA t x).msg
theorem S8 {t:Tr} {x:Nat×Nat} (hk:(rA t x).kind=3):UK t x∈vN t x:=by
 unfold vN UK;rw[hk];simp
noncomputable def rk (t:Tr) (x:Nat×Nat):Nat:=(ids t).countP fun z=>leB t z x
theorem YV {α:Type} {P Q:α→Bool}:∀{l:List α} {a:α},(∀x∈l,P x=true→Q x=true)→a∈l→P a=false→Q a=true→l.countP P<l.countP Q
 |[],a,_,h,_,_=>by simp at h
 |y::l,a,h,ha,h1,h2=>by
   have nL:l.countP P≤l.countP Q:=List.countP_mono_left (fun x hx hp=>h x (by simp[hx]) hp)
   rw[List.countP_cons,List.countP_cons]
   rcases dx.1 ha with rfl|ha
   ·rw[h1,h2];simp;omega
   ·have ih:=YV (fun x hx=>h x (by simp[hx])) ha h1 h2
    have hy:=h y kS
    cases hP:P y
    ·simp;omega
    ·rw[hy hP];simp;omega
theorem rk_lt {t:Tr} (hv:Vok t) {x y:Nat×Nat} (hy:y∈ids t) (h:Hb t x y):rk t x<rk t y:=by
 unfold rk
 refine YV (a:=y) (fun z _ hz=>?_) hy ?_ (MO.2 (.refl y))
 ·rw[MO]at hz⊢;exact .inr (hz.hb h)
 ·rw[Bool.eq_false_iff]
  intro hz
  exact hv.acyc y hy ((MO.1 hz).hb h)
end Go.Proofs.YtadnnjchehjbiaaGreatDoor
