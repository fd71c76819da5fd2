/- Texts of one proof, laid together: W0, W1, W2, W3, W4, W5, W6, W7, W8, W9, WA, WX. No condition. -/
import Derived.Test.YtoccdlnoaindmaaGreatDoorWC10
import Derived.Calls
import Derived.Orders
import Derived.Below
import Derived.Laws.AppendOwn
import Derived.Laws.OwnMore
import Derived.Laws.StructEq
import Derived.Laws.Slices
import Derived.Laws.Sem
import Derived.Lib.TrailingZeros
import Derived.Laws.Concat
import Derived.Laws.MakeOwn
import Derived.Laws.BytesString
namespace Go.Proofs.YtoccdlnoaindmaaGreatDoor
set_option linter.unusedVariables false

inductive IV where
 |int (k:IntKind) (n:Int)
 |bool (b:Bool)
 |str (s:ByteArray)
 |zsl
 |isl (sz:Nat) (rows:List (List IV))
 |iptr (row:List IV) (j:Nat)
 |nilp
 |nilm
 |nilf
 |yl (l:Nat)

inductive AV where
 |any
 |v (x:IV)
 |agg (cs:List AV)
 |tup (cs:List AV)
 |sl (id ver off len:Nat)
 |ptr (id ver k j:Nat)
 |fn (f:Nat) (caps:List AV)
 |mp (id ver:Nat)

inductive Row where
 |live (ver sz:Nat) (els:List (List AV))
 |dead (ver:Nat)

def Row.ver:Row→Nat
 |.live v _ _=>v
 |.dead v=>v

inductive Loc where
 |nil
 |pl (blk off sz cap:Nat)
 |mp (blk:Nat)

def Loc.on:Loc→Nat→Prop
 |.nil,_=>False
 |.pl b _ _ _,k=>b=k
 |.mp b,k=>b=k

abbrev LMap:=Nat→Nat→Option Loc

def AV.cell:AV→Bool
 |.v _=>true
 |.sl .. => true
 |.ptr .. => true
 |.fn .. => true
 |.mp .. => true
 |_=>false

inductive RepI (w:World) (F:Nat→Prop):IV→Value→Prop where
 |int (k:IntKind) (n:Int):RepI w F (.int k n) (.int k n)
 |bool (b:Bool):RepI w F (.bool b) (.bool b)
 |str (s:ByteArray):RepI w F (.str s) (.string s)
 |zsl (a:Option Addr):RepI w F .zsl (.slice a 0 0)
 |isl0 (sz:Nat) (a:Option Addr) (c:Nat) (hm:c≤maxLen):RepI w F (.isl sz []) (.slice a 0 c)
 |isl (rows:List (List IV)) (b off sz c:Nat) (val:Nat→Nat→Value) (hF:F b) (hc:rows.length≤c) (hm:c≤maxLen)
   (hsz:∀(k:Nat) (row:List IV),rows[k]? = some row→row.length=sz)
   (hcell:∀(k:Nat) (row:List IV) (j:Nat) (a:IV),rows[k]? = some row→row[j]? = some a→w.cell? ⟨b,off+k*sz+j,none⟩=some (val k j))
   (hrep:∀(k:Nat) (row:List IV) (j:Nat) (a:IV),rows[k]? = some row→row[j]? = some a→RepI w F a (val k j)):RepI w F (.isl sz rows) (.slice (some ⟨b,off,none⟩) rows.length c)
 |iptr (row:List IV) (j b off:Nat) (val:Nat→Value) (hF:F b)
   (hcell:∀(j:Nat) (a:IV),row[j]? = some a→w.cell? ⟨b,off+j,none⟩=some (val j))
   (hrep:∀(j:Nat) (a:IV),row[j]? = some a→RepI w F a (val j)):RepI w F (.iptr row j) (.pointer (some ⟨b,off+j,none⟩))
 |nilp:RepI w F .nilp (.pointer none)
 |nilm:RepI w F .nilm (.map none)
 |nilf:RepI w F .nilf .nilFunc
 |yl (l:Nat):RepI w F (.yl l) (.func (.yield l) #[] #[])

inductive RepA (w:World) (F:Nat→Prop) (L:LMap):AV→Value→Prop where
 |any (v:Value):RepA w F L .any v
 |v (x:IV) (v:Value) (h:RepI w F x v):RepA w F L (.v x) v
 |agg (cs:List AV) (vs:Array Value) (hl:cs.length=vs.size) (h:∀(i:Nat) (a:AV) (v:Value),cs[i]? = some a→vs[i]? = some v→RepA w F L a v):RepA w F L (.agg cs) (.agg vs)
 |tup (cs:List AV) (vs:Array Value) (hl:cs.length=vs.size) (h:∀(i:Nat) (a:AV) (v:Value),cs[i]? = some a→vs[i]? = some v→RepA w F L a v):RepA w F L (.tup cs) (.tuple vs)
 |sl (id ver off len b o sz cap:Nat) (hL:L id ver=some (.pl b o sz cap)) (h:off+len≤cap) (hm:cap≤maxLen):RepA w F L (.sl id ver off len) (.slice (some ⟨b,o+off*sz,none⟩) len (cap-off))
 |slz (id ver off b o sz cap x:Nat) (hL:L id ver=some (.pl b o sz cap)) (h:off=cap):RepA w F L (.sl id ver off 0) (.slice (some ⟨b,x,none⟩) 0 0)
 |sln (id ver:Nat) (ad:Option Addr) (hL:L id ver=some .nil):RepA w F L (.sl id ver 0 0) (.slice ad 0 0)
 |ptr (id ver k j b o sz cap:Nat) (hL:L id ver=some (.pl b o sz cap)):RepA w F L (.ptr id ver k j) (.pointer (some ⟨b,o+k*sz+j,none⟩))
 |fn (f:Nat) (cs:List AV) (vs:Array Value) (hl:cs.length=vs.size) (h:∀(i:Nat) (a:AV) (v:Value),cs[i]? = some a→vs[i]? = some v→RepA w F L a v):RepA w F L (.fn f cs) (.func (.func f) #[] vs)
 |mp (id ver b:Nat) (hL:L id ver=some (.mp b)):RepA w F L (.mp id ver) (.map (some b))

theorem RepI.mono {w w':World} {F F':Nat→Prop} {x:IV} {v:Value} (h:RepI w F x v) (hF:∀b,F b→F' b)
  (hw:∀b,F b→w'.heap[b]? = w.heap[b]?):RepI w' F' x v:=by
 induction h with
 |int k n=>exact .int k n
 |bool b=>exact .bool b
 |str s=>exact .str s
 |zsl a=>exact .zsl a
 |isl0 sz a c hm=>exact .isl0 sz a c hm
 |isl rows b off sz c val h1 h2 h3 h4 h5 h6 ih =>
   exact .isl rows b off sz c val (hF b h1) h2 h3 h4 (fun k row j a hk hj=>by rw[←h5 k row j a hk hj];exact World.cell?_of_block (hw b h1)) ih
 |iptr row j b off val h1 h2 h3 ih =>
   exact .iptr row j b off val (hF b h1) (fun j a hj=>by rw[←h2 j a hj];exact World.cell?_of_block (hw b h1)) ih
 |nilp=>exact .nilp
 |nilm=>exact .nilm
 |nilf=>exact .nilf
 |yl l=>exact .yl l

theorem RepA.mono {w w':World} {F F':Nat→Prop} {L L':LMap} {x:AV} {v:Value} (h:RepA w F L x v) (hF:∀b,F b→F' b)
  (hw:∀b,F b→w'.heap[b]? = w.heap[b]?) (hL:∀id ver l,L id ver=some l→L' id ver=some l):RepA w' F' L' x v:=by
 induction h with
 |any v=>exact .any v
 |v x v h=>exact .v x v (h.mono hF hw)
 |agg cs vs hl _ ih=>exact .agg cs vs hl ih
 |tup cs vs hl _ ih=>exact .tup cs vs hl ih
 |sl id ver off len b o sz cap h1 h2 h3=>exact .sl id ver off len b o sz cap (hL _ _ _ h1) h2 h3
 |slz id ver off b o sz cap x h1 h2=>exact .slz id ver off b o sz cap x (hL _ _ _ h1) h2
 |sln id ver ad h1=>exact .sln id ver ad (hL _ _ _ h1)
 |ptr id ver k j b o sz cap h1=>exact .ptr id ver k j b o sz cap (hL _ _ _ h1)
 |fn f cs vs hl _ ih=>exact .fn f cs vs hl ih
 |mp id ver b h1=>exact .mp id ver b (hL _ _ _ h1)

def ZCt (w:World) (F:Nat→Prop) (L:LMap) (sz:Nat) (els:List (List AV)):Loc→Prop
 |.nil=>els=[]
 |.pl b o z cap=>z=sz∧els.length≤cap∧cap≤maxLen∧∃cur T,w.heap[b]? = some (.cells cur T (0,0))∧o+cap*sz≤cur.size ∧
   (∀(k:Nat) (row:List AV),els[k]? = some row→row.length=sz) ∧
   ∀(k:Nat) (row:List AV) (j:Nat) (a:AV),els[k]? = some row→row[j]? = some a→a.cell=true∧∃v,cur[o+k*sz+j]? = some v∧RepA w F L a v
 |.mp b=>∃es clk,w.heap[b]? = some (.map es clk)∧es.size=els.length∧∀(k:Nat) (row:List AV) (e:MapEntry),els[k]? = some row→es[k]? = some e→∃x y,row=[x,y]∧RepA w F L x e.key∧RepA w F L y e.val

theorem ZCt.lt {w:World} {F:Nat→Prop} {L:LMap} {sz:Nat} {els:List (List AV)} {q:Loc} {b:Nat} (h:ZCt w F L sz els q) (hb:q.on b):b<w.heap.size:=by
 cases q with
 |nil=>exact hb.elim
 |pl b' o z c =>
   cases hb
   obtain⟨_,_,_,cur,T,h4,_⟩:=h
   exact (Array.getElem?_eq_some_iff.1 h4).1
 |mp b' =>
   cases hb
   obtain⟨es,clk,h4,_⟩:=h
   exact (Array.getElem?_eq_some_iff.1 h4).1
theorem ZCt.mono {w w':World} {F F':Nat→Prop} {L L':LMap} {sz:Nat} {els:List (List AV)} {q:Loc} (h:ZCt w F L sz els q) (hw:∀b,q.on b→w'.heap[b]? = w.heap[b]?)
  (m:∀(x:AV) (v:Value),RepA w F L x v→RepA w' F' L' x v):ZCt w' F' L' sz els q:=by
 cases q with
 |nil=>exact h
 |pl b o z c =>
   obtain⟨h1,h2,h3,cur,T,h4,h5,h6,h7⟩:=h
   refine⟨h1,h2,h3,cur,T,by rw[hw b rfl];exact h4,h5,h6,fun k row i a hk hi=>?_⟩
   obtain⟨h8,u,h9,h10⟩:=h7 k row i a hk hi
   exact⟨h8,u,h9,m _ _ h10⟩
 |mp b =>
   obtain⟨es,clk,h4,h5,h6⟩:=h
   refine⟨es,clk,by rw[hw b rfl];exact h4,h5,fun k row e hk he=>?_⟩
   obtain⟨x,y,h7,h8,h9⟩:=h6 k row e hk he
   exact⟨x,y,h7,m _ _ h8,m _ _ h9⟩

def Qz (L:LMap) (h:List Row) (b:Nat):Prop:=∃id ver s els q,h[id]? = some (.live ver s els)∧L id ver=some q∧q.on b

def gtab:Option (Nat×List Nat):=none
def ZM3 (w:World) (F:Nat→Prop):Prop:=∀g tab,gtab=some (g,tab)→F g∧∀j,j<tab.length→w.cell? ⟨g,j,none⟩=some (.int .u8 (tab.getD j 0))
theorem ZM3.mono {w w':World} {F F':Nat→Prop} (h:ZM3 w F) (hF:∀b,F b→F' b) (hw:∀b,F b→w'.heap[b]? = w.heap[b]?):ZM3 w' F':=by
 intro g tab e
 obtain⟨h1,h2⟩:=h g tab e
 exact⟨hF g h1,fun j hj=>by rw[←h2 j hj];exact World.cell?_of_block (hw g h1)⟩

structure Sim (F:Nat→Prop) (L:LMap) (h:List Row) (w:World):Prop where
 row:∀id ver sz els,h[id]? = some (.live ver sz els)→∃l,L id ver=some l∧ZCt w F L sz els l
 born:∀id ver l,L id ver=some l→∃r,h[id]? = some r∧ver≤r.ver
 apart:∀id id' ver ver' s s' els els' b q q',h[id]? = some (.live ver s els)→h[id']? = some (.live ver' s' els') →
  L id ver=some q→L id' ver'=some q'→q.on b→q'.on b→id=id'
 imm:∀b,F b→b<w.heap.size∧¬Qz L h b
 glob:ZM3 w F

structure Step (nb:Nat) (F:Nat→Prop) (L:LMap) (h:List Row) (w:World) (F':Nat→Prop) (L':LMap) (h':List Row) (w':World):Prop where
 imm:∀b,F b→F' b
 loc:∀id ver l,id<nb→L id ver=some l→L' id ver=some l
 os:w'.os=w.os
 tape:w'.tape=w.tape
 output:w'.output=w.output
 size:w.heap.size≤w'.heap.size
 block:∀b,b<w.heap.size→¬Qz L h b→w'.heap[b]? = w.heap[b]?
 own:∀b,b<w.heap.size→Qz L' h' b→Qz L h b
 base:∀(id:Nat),id<nb→∀(v:Nat),h[id]? = some (Row.dead v)→h'[id]? = some (Row.dead v)
 fnew:∀b,b<w.heap.size→F' b→F b∨Qz L h b

theorem Step.refl (nb:Nat) (F:Nat→Prop) (L:LMap) (h:List Row) (w:World):Step nb F L h w F L h w:=
 ⟨fun _ h=>h,fun _ _ _ _ h=>h,rfl,rfl,rfl,Nat.le_refl _,fun _ _ _=>rfl,fun _ _ h=>h,fun _ _ _ h=>h,fun _ _ h=>.inl h⟩

theorem Step.trans {nb:Nat} {F F1 F2:Nat→Prop} {L L1 L2:LMap} {h h1 h2:List Row} {w w1 w2:World}
  (a:Step nb F L h w F1 L1 h1 w1) (b:Step nb F1 L1 h1 w1 F2 L2 h2 w2):Step nb F L h w F2 L2 h2 w2:=
 ⟨fun k hk=>b.imm k (a.imm k hk),fun id ver l hn hl=>b.loc id ver l hn (a.loc id ver l hn hl),b.os.trans a.os,b.tape.trans a.tape,b.output.trans a.output,
  Nat.le_trans a.size b.size,
  fun k hk ho=>(b.block k (Nat.lt_of_lt_of_le hk a.size) (fun h=>ho (a.own k hk h))).trans (a.block k hk ho),
  fun k hk ho=>a.own k hk (b.own k (Nat.lt_of_lt_of_le hk a.size) ho),fun id hn v hv=>b.base id hn v (a.base id hn v hv),fun k hk hf=>(b.fnew k (Nat.lt_of_lt_of_le hk a.size) hf).elim (fun h=>a.fnew k hk h) (fun h=>.inr (a.own k hk h))⟩

theorem Step.weaken {nb nb':Nat} {F F1:Nat→Prop} {L L1:LMap} {h h1:List Row} {w w1:World}
  (a:Step nb F L h w F1 L1 h1 w1) (hn:nb'≤nb):Step nb' F L h w F1 L1 h1 w1:=
 ⟨a.imm,fun id ver l hi=>a.loc id ver l (Nat.lt_of_lt_of_le hi hn),a.os,a.tape,a.output,a.size,a.block,a.own,fun id hi=>a.base id (Nat.lt_of_lt_of_le hi hn),a.fnew⟩

def XH (w:World) (F:Nat→Prop) (L:LMap) (e:List AV) (a:Act):Prop:=
 a.defers=[]∧a.tmps.size=e.length∧∀(i:Nat) (x:AV) (v:Value),e[i]? = some x→a.tmps[i]? = some v→RepA w F L x v

theorem Sim.lt {F:Nat→Prop} {L:LMap} {h:List Row} {w:World} (s:Sim F L h w) {id ver:Nat} {l:Loc} (hl:L id ver=some l):id<h.length:=by
 obtain⟨r,hr,_⟩:=s.born id ver l hl
 exact (List.getElem?_eq_some_iff.1 hr).1

theorem XH.mono {w w':World} {F F':Nat→Prop} {L L':LMap} {e:List AV} {a:Act} (h:XH w F L e a) (hF:∀b,F b→F' b)
  (hw:∀b,F b→w'.heap[b]? = w.heap[b]?) (hL:∀id ver l,L id ver=some l→L' id ver=some l):XH w' F' L' e a:=
 ⟨h.1,h.2.1,fun i x v hx hv=>(h.2.2 i x v hx hv).mono hF hw hL⟩

theorem Step.immEq {nb:Nat} {F F1:Nat→Prop} {L L1:LMap} {h h1:List Row} {w w1:World} (a:Step nb F L h w F1 L1 h1 w1) (s:Sim F L h w) :
  ∀b,F b→w1.heap[b]? = w.heap[b]?:=fun b hb=>a.block b (s.imm b hb).1 (s.imm b hb).2

theorem Step.locAll {F F1:Nat→Prop} {L L1:LMap} {h h1:List Row} {w w1:World} (a:Step h.length F L h w F1 L1 h1 w1) (s:Sim F L h w) :
  ∀id ver l,L id ver=some l→L1 id ver=some l:=fun id ver l hl=>a.loc id ver l (s.lt hl) hl

theorem XH.step {w w':World} {F F':Nat→Prop} {L L':LMap} {h h':List Row} {e:List AV} {a:Act} (he:XH w F L e a) (s:Sim F L h w)
  (st:Step h.length F L h w F' L' h' w'):XH w' F' L' e a:=he.mono st.imm (st.immEq s) (st.locAll s)

theorem RepA.step {w w':World} {F F':Nat→Prop} {L L':LMap} {h h':List Row} {x:AV} {v:Value} (hx:RepA w F L x v) (s:Sim F L h w)
  (st:Step h.length F L h w F' L' h' w'):RepA w' F' L' x v:=hx.mono st.imm (st.immEq s) (st.locAll s)

def nth:List AV→Nat→AV
 |[],_=>.tup []
 |a::_,0=>a
 |_::l,n+1=>nth l n
def upd:List AV→Nat→AV→List AV
 |[],_,_=>[]
 |_::l,0,x=>x::l
 |a::l,n+1,x=>a::upd l n x

theorem ZAJ (l:List AV) (n:Nat):nth l n=(l[n]?).getD (.tup []):=by
 induction l generalizing n with
 |nil=>simp[nth]
 |cons a l ih=>cases n with
   |zero=>simp[nth]
   |succ n=>simp[nth,ih]
theorem Vl (l:List AV) (n:Nat) (x:AV):upd l n x=l.set n x:=by
 induction l generalizing n with
 |nil=>simp[upd]
 |cons a l ih=>cases n with
   |zero=>simp[upd]
   |succ n=>simp[upd,ih]

theorem RepA.undef (w:World) (F:Nat→Prop) (L:LMap):RepA w F L (.tup []) undef:=.tup [] #[] rfl (by simp)

theorem XH.nth {w:World} {F:Nat→Prop} {L:LMap} {e:List AV} {a:Act} (h:XH w F L e a) (n:Nat):RepA w F L (nth e n) (a.tmps.getD n Go.undef):=by
 rw[ZAJ]
 rcases Nat.lt_or_ge n e.length with hn|hn
 ·have hn':n<a.tmps.size:=by rw[h.2.1];exact hn
  rw[List.getElem?_eq_getElem hn]
  have:=h.2.2 n e[n] a.tmps[n] (List.getElem?_eq_getElem hn) (Array.getElem?_eq_getElem hn')
  simpa [Array.getD,hn'] using this
 ·have hn':¬n<a.tmps.size:=by rw[h.2.1];omega
  rw[List.getElem?_eq_none hn]
  simp only[Array.getD,hn',dif_neg,not_false_eq_true,Option.getD_none]
  exact RepA.undef w F L

theorem XH.upd {w:World} {F:Nat→Prop} {L:LMap} {e:List AV} {a:Act} (h:XH w F L e a) (n:Nat) {x:AV} {v:Value} (hx:RepA w F L x v) :
  XH w F L (upd e n x) (a.put (some n) v):=by
 rw[Vl]
 refine⟨h.1,by simp[Act.put,h.2.1],fun i y u hy hu=>?_⟩
 simp only[Act.put]at hu
 by_cases hi:n=i
 ·subst hi
  rw[List.getElem?_set]at hy
  rw[Array.getElem?_setIfInBounds]at hu
  simp only[if_true]at hy hu
  split at hy
  ·split at hu
   ·cases hy;cases hu;exact hx
   ·cases hu
  ·cases hy
 ·rw[List.getElem?_set_ne hi]at hy
  rw[Array.getElem?_setIfInBounds_ne hi]at hu
  exact h.2.2 i y u hy hu

def put (e:List AV) (d:Option Nat) (x:AV):List AV:=
 match d with
 |some n=>upd e n x
 |none=>e

theorem XH.put {w:World} {F:Nat→Prop} {L:LMap} {e:List AV} {a:Act} (h:XH w F L e a) (d:Option Nat) {x:AV} {v:Value} (hx:RepA w F L x v) :
  XH w F L (put e d x) (a.put d v):=by
 cases d with
 |none=>exact h
 |some n=>exact h.upd n hx

def hget (b l:List Row) (id:Nat):Option Row:=if id<b.length then b[id]? else l[id-b.length]?

theorem Qq (b l:List Row) (id:Nat):hget b l id=(b++l)[id]?:=by
 unfold hget
 split
 ·rename_i h;rw[List.getElem?_append_left h]
 ·rename_i h;rw[List.getElem?_append_right oM]

def YA (b:List Row) (id:Nat) (r:Row):List Row:=if id<b.length then b.set id r else b
def YP (b l:List Row) (id:Nat) (r:Row):List Row:=if id<b.length then l else l.set (id-b.length) r

theorem XX (b l:List Row) (id:Nat) (r:Row):YA b id r++YP b l id r=(b++l).set id r:=by
 unfold YA YP
 split
 ·rename_i h;rw[List.set_append_left _ _ h]
 ·rename_i h;rw[List.set_append_right _ _ oM]

theorem Xz (b:List Row) (id:Nat) (r:Row):(YA b id r).length=b.length:=by unfold YA;split<;>simp

end Go.Proofs.YtoccdlnoaindmaaGreatDoor
namespace Go.Proofs.YtoccdlnoaindmaaGreatDoor
set_option linter.unusedVariables false

inductive Opd where
 |t (n:Nat)
 |c (x:AV)

inductive FK where
 |i
 |b
 |s

inductive KK where
 |one (k:FK)
 |many (ks:List FK)

inductive AOp where
 |mv (x:Opd)
 |nilck (x:Opd)
 |pick (c a b:Opd)
 |bin (o:BinOp) (x y:Opd)
 |binB (o:BinOp) (x y:Opd)
 |binS (o:BinOp) (x y:Opd)
 |eqs (neg:Bool) (ks:List FK) (x y:Opd)
 |not (x:Opd)
 |neg (x:Opd)
 |conv (k:IntKind) (x:Opd)
 |alloc (zs:List AV)
 |box (x:Opd)
 |build (zs:List AV) (ps:List (Nat×Nat×Opd))
 |bslice (sz:Nat) (zs:List AV) (len:Nat) (ps:List (Nat×Opd))
 |islb (sz:Nat) (zs:List AV) (len:Nat) (ps:List (Nat×Opd))
 |load (n:Option Nat) (x:Opd)
 |store (n:Nat) (x y:Opd)
 |faddr (d:Nat) (x:Opd)
 |iaddr (sz:Nat) (x i:Opd)
 |iaddrA (len sz:Nat) (x i:Opd)
 |field (off:Nat) (n:Option Nat) (x:Opd)
 |indexS (x i:Opd)
 |indexA (len sz:Nat) (n:Option Nat) (x i:Opd)
 |slice (sz:Nat) (x:Opd) (lo hi:Option Opd)
 |slice0 (x:Opd)
 |sliceS (x:Opd) (lo hi:Option Opd)
 |len (x:Opd)
 |lenS (x:Opd)
 |append (sz bytes:Nat) (s x:Opd)
 |mkslice (sz:Nat) (zs:List AV) (bytes:Nat) (l c:Opd)
 |mkfn (f:Nat) (caps:List Opd)
 |extract (i:Nat) (x:Opd)
 |call (f:Opd) (args:List Opd)
 |mm (isMax:Bool) (x y:Opd)
 |copy (sz:Nat) (x y:Opd)
 |isnil (neg:Bool) (x:Opd)
 |mkmap
 |lookup (kk:KK) (zero:AV) (comma:Bool) (m x:Opd)
 |mupdate (kk:KK) (m x y:Opd)
 |lenM (x:Opd)
 |tostr (x:Opd)
 |capz (x:Opd)
 |appz (sz bytes:Nat) (zs:List AV) (s n:Opd)

structure AOper where
 dst:Option Nat
 op:AOp
 guard:Option (Nat×Bool)

structure DOper where
 i:Nat
 o:AOper
 re:List AOper

inductive ACode where
 |skip
 |region (ops:List AOper)
 |draw (ds:List DOper)
 |both (a b:ACode)
 |seq (a b:ACode)
 |cond (c:Opd) (x y:ACode)
 |block (id:Nat) (c:ACode)
 |loop (c:ACode)
 |exit (id:Nat)
 |ret

inductive AExit where
 |normal
 |exit (id:Nat)
 |ret

inductive ARes where
 |tmp (t:Nat)
 |cell (t:Nat) (n:Option Nat)

structure AFunc where
 nargs:Nat
 ntmps:Nat
 res:List ARes
 body:ACode

def AOp.quiet:AOp→Bool
 |.alloc _=>false
 |.box _=>false
 |.bslice .. => false
 |.store .. => false
 |.append .. => false
 |.appz .. => false
 |.mkslice .. => false
 |.call .. => false
 |.copy .. => false
 |.isnil .. => false
 |.mkmap=>false
 |.mupdate .. => false
 |_=>true

def AOp.isAlloc:AOp→Bool
 |.alloc _=>true
 |_=>false

def Opd.slot:Opd→List Nat
 |.t n=>[n]
 |.c _=>[]
def Vv:List Opd→List Nat
 |[]=>[]
 |x::xs=>x.slot++Vv xs
def ZGn:Option Opd→List Nat
 |some x=>x.slot
 |none=>[]
def AOp.looks:AOp→List Nat
 |.mv x=>x.slot
 |.nilck x=>x.slot
 |.pick c x y=>c.slot++x.slot++y.slot
 |.bin _ x y=>x.slot++y.slot
 |.binB _ x y=>x.slot++y.slot
 |.binS _ x y=>x.slot++y.slot
 |.eqs _ _ x y=>x.slot++y.slot
 |.not x=>x.slot
 |.neg x=>x.slot
 |.conv _ x=>x.slot
 |.alloc _=>[]
 |.box x=>x.slot
 |.build _ ps=>Vv (ps.map (·.2.2))
 |.bslice _ _ _ ps=>Vv (ps.map (·.2))
 |.islb _ _ _ ps=>Vv (ps.map (·.2))
 |.load _ x=>x.slot
 |.store _ x y=>x.slot++y.slot
 |.faddr _ x=>x.slot
 |.iaddr _ x y=>x.slot++y.slot
 |.iaddrA _ _ x y=>x.slot++y.slot
 |.field _ _ x=>x.slot
 |.indexS x y=>x.slot++y.slot
 |.indexA _ _ _ x y=>x.slot++y.slot
 |.slice _ x lo hi=>x.slot++ZGn lo++ZGn hi
 |.slice0 x=>x.slot
 |.sliceS x lo hi=>x.slot++ZGn lo++ZGn hi
 |.len x=>x.slot
 |.lenS x=>x.slot
 |.append _ _ x y=>x.slot++y.slot
 |.mkslice _ _ _ x y=>x.slot++y.slot
 |.mkfn _ cs=>Vv cs
 |.extract _ x=>x.slot
 |.call f az=>f.slot++Vv az
 |.mm _ x y=>x.slot++y.slot
 |.copy _ x y=>x.slot++y.slot
 |.isnil _ x=>x.slot
 |.mkmap=>[]
 |.lookup _ _ _ m x=>m.slot++x.slot
 |.mupdate _ m x y=>m.slot++x.slot++y.slot
 |.lenM x=>x.slot
 |.tostr x=>x.slot
 |.capz x=>x.slot
 |.appz _ _ _ x y=>x.slot++y.slot
def AOper.looks (o:AOper):List Nat:=o.op.looks++(match o.guard with
 |some (g,_)=>[g]
 |none=>[])

def ev (e:List AV):Opd→AV
 |.t n=>nth e n
 |.c x=>x
def evs (e:List AV):List Opd→List AV
 |[]=>[]
 |x::xs=>ev e x::evs e xs

inductive OpR where
 |val (x:AV) (b l:List Row)
 |two (c:Bool) (x y:AV)
 |call (f:Nat) (args:List AV)
 |bad

def YO (o:BinOp) (k:IntKind) (a b:Int):Option IV:=
 match o with
 |.add=>some (.int k (k.wrap (a+b)))
 |.sub=>some (.int k (k.wrap (a-b)))
 |.mul=>some (.int k (k.wrap (a*b)))
 |.quo=>if b=0 then none else some (.int k (k.wrap (a.tdiv b)))
 |.rem=>if b=0 then none else some (.int k (a.tmod b))
 |.and=>some (.int k (k.wrap ((BitVec.ofInt k.bits a &&& BitVec.ofInt k.bits b).toNat)))
 |.or=>some (.int k (k.wrap ((BitVec.ofInt k.bits a ||| BitVec.ofInt k.bits b).toNat)))
 |.xor=>some (.int k (k.wrap ((BitVec.ofInt k.bits a ^^^ BitVec.ofInt k.bits b).toNat)))
 |.andNot=>some (.int k (k.wrap ((BitVec.ofInt k.bits a &&& ~~~(BitVec.ofInt k.bits b)).toNat)))
 |.eql=>some (.bool (a==b))
 |.neq=>some (.bool (a != b))
 |.lss=>some (.bool (decide (a<b)))
 |.leq=>some (.bool (decide (a≤b)))
 |.gtr=>some (.bool (decide (a>b)))
 |.geq=>some (.bool (decide (a≥b)))
 |.shl=>none
 |.shr=>none

def UK (o:BinOp) (k:IntKind) (a b:Int):Option IV:=
 if b<0 then none else
 match o with
 |.shl=>some (.int k (k.wrap (a*2 ^ (min b.toNat k.bits))))
 |.shr=>some (.int k (a.fdiv (2 ^ (min b.toNat k.bits))))
 |_=>none

def UL:BinOp→Bool
 |.shl=>true
 |.shr=>true
 |_=>false

def YM (o:BinOp) (a b:ByteArray):Option IV:=
 match o with
 |.add=>if a.size+b.size≤9223372036854775807 then some (.str (a++b)) else none
 |.eql=>some (.bool (a==b))
 |.neq=>some (.bool (!(a==b)))
 |.lss=>some (.bool (Op.bytesLess a.toList b.toList))
 |.geq=>some (.bool (!(Op.bytesLess a.toList b.toList)))
 |_=>none

def XJ (o:BinOp) (a b:Bool):Option IV:=
 match o with
 |.eql=>some (.bool (a==b))
 |.neq=>some (.bool (!(a==b)))
 |_=>none

def Ug (o:BinOp):AV→AV→Option IV
 |.v (.int k a),.v (.int k' b)=>if UL o=true then UK o k a b else if k=k' then YO o k a b else none
 |_,_=>none
def Y2 (o:BinOp):AV→AV→Option IV
 |.v (.bool a),.v (.bool b)=>XJ o a b
 |_,_=>none
def Y1 (o:BinOp):AV→AV→Option IV
 |.v (.str a),.v (.str b)=>YM o a b
 |_,_=>none

def Jg:Option Bool→Option Bool→Option Bool
 |some r,some s=>some (r&&s)
 |_,_=>none

def eqF:FK→AV→AV→Option Bool
 |.i,.v (.int k a),.v (.int k' b)=>if k=k' then some (a==b) else none
 |.b,.v (.bool a),.v (.bool b)=>some (a==b)
 |.s,.v (.str a),.v (.str b)=>some (a==b)
 |_,_,_=>none

def eqC:List FK→List AV→List AV→Option Bool
 |[],[],[]=>some true
 |k::ks,x::xs,y::ys=>Jg (eqF k x y) (eqC ks xs ys)
 |_,_,_=>none

def Qx:KK→AV→AV→Option Bool
 |.one k,x,y=>eqF k x y
 |.many ks,.agg xs,.agg ys=>eqC ks xs ys
 |_,_,_=>none
def ZBh (kk:KK) (x:AV):List (List AV)→Option (Option AV)
 |[]=>some none
 |[y,v]::r=>match Qx kk x y with
   |some true=>some (some v)
   |some false=>ZBh kk x r
   |none=>none
 |_::_=>none
def ZKg (kk:KK) (x v:AV):List (List AV)→Option (List (List AV))
 |[]=>some [[x,v]]
 |[y,u]::r=>match Qx kk x y with
   |some true=>some ([x,v]::r)
   |some false=>(ZKg kk x v r).map ([y,u]::·)
   |none=>none
 |_::_=>none

def cellsOf:AV→Option (List AV)
 |.v x=>some [.v x]
 |.agg cs=>some cs
 |.sl a b c d=>some [.sl a b c d]
 |.ptr a b c d=>some [.ptr a b c d]
 |.fn f cs=>some [.fn f cs]
 |.mp a b=>some [.mp a b]
 |_=>none

def ZC (row:List AV) (j:Nat):List AV→List AV
 |[]=>row
 |c::cs=>ZC (row.set j c) (j+1) cs

def Xm (e:List AV) (row:List AV):List (Nat×Nat×Opd)→Option (List AV)
 |[]=>some row
 |(off,size,x)::ps =>
   match cellsOf (ev e x) with
   |some cs=>if cs.length=size∧off+size≤row.length then Xm e (ZC row off cs) ps else none
   |none=>none

def Xg (e:List AV) (sz:Nat) (els:List (List AV)):List (Nat×Opd)→Option (List (List AV))
 |[]=>some els
 |(i,x)::ps =>
   match cellsOf (ev e x) with
   |some cs=>if cs.length=sz∧i<els.length∧cs.all AV.cell=true then Xg e sz (els.set i cs) ps else none
   |none=>none

def Vx:List AV→Option (List IV)
 |[]=>some []
 |.v x::r=>match Vx r with
   |some ys=>some (x::ys)
   |none=>none
 |_::_=>none
def YN:List (List AV)→Option (List (List IV))
 |[]=>some []
 |r::rs=>match Vx r,YN rs with
   |some x,some xs=>some (x::xs)
   |_,_=>none

def rd (row:List AV) (j:Nat):Option Nat→Option AV
 |none=>row[j]?
 |some n=>if j+n≤row.length then some (.agg ((row.drop j).take n)) else none
def rdI (row:List IV) (j:Nat):Option Nat→Option AV
 |none=>(row[j]?).map .v
 |some n=>if j+n≤row.length then some (.agg (((row.drop j).take n).map .v)) else none

def Vi (x:Option AV) (b l:List Row):OpR:=
 match x with
 |some x=>.val x b l
 |none=>.bad

def Xs (b l:List Row) (sz:Nat):AV→Option (List (List AV))
 |.v .zsl=>some []
 |.v (.isl s rows)=>if s=sz then some (rows.map (·.map .v)) else none
 |.sl id ver off len =>
   match hget b l id with
   |some (.live v s els)=>if v=ver∧s=sz∧off+len≤els.length then some ((els.drop off).take len) else none
   |_=>none
 |.v (.str s)=>if sz=1 then some (s.data.toList.map fun c=>[.v (.int .u8 c.toNat)]) else none
 |_=>none

def mk (b l:List Row) (sz:Nat) (els:List (List AV)) (x:Nat→AV):OpR:=.val (x (b.length+l.length)) b (l++[.live 0 sz els])

def Qr (n:Nat) (lo hi:Option AV):Option (Nat×Nat):=
 match lo,hi with
 |none,none=>some (0,n)
 |some (.v (.int _ a)),none=>if 0≤a∧a≤(n:Int) then some (a.toNat,n) else none
 |none,some (.v (.int _ c))=>if 0≤c∧c≤(n:Int) then some (0,c.toNat) else none
 |some (.v (.int _ a)),some (.v (.int _ c))=>if 0≤a∧a≤c∧c≤(n:Int) then some (a.toNat,c.toNat) else none
 |_,_=>none

def room:Nat:=140737488355328

def XB (b l:List Row) (sz:Nat) (x:AV) (lo hi:Option AV):OpR:=
 match x with
 |.v .zsl=>match Qr 0 lo hi with
   |some _=>.val (.v .zsl) b l
   |none=>.bad
 |.v (.isl s rows) =>
   if s=sz then match Qr rows.length lo hi with
    |some (p,q)=>.val (.v (.isl s ((rows.take q).drop p))) b l
    |none=>.bad
   else .bad
 |.sl id ver off len =>
   match hget b l id with
   |some (.live v s els)=>if v=ver∧s=sz then match Qr len lo hi with
     |some (p,q)=>.val (.sl id ver (off+p) (q-p)) b l
     |none=>.bad
    else .bad
   |_=>.bad
 |_=>.bad

def Q2 (b l:List Row) (sz bytes:Nat) (s x:AV):OpR:=
 match Xs b l sz x with
 |none=>.bad
 |some xs =>
   match s with
   |.v .zsl=>if xs=[] then .val (.v .zsl) b l else if xs.length*bytes≤room∧xs.length≤room then mk b l sz xs (fun i=>.sl i 0 0 xs.length) else .bad
   |.sl id ver off len =>
     match hget b l id with
     |some (.live v s' els) =>
       if v=ver∧s'=sz∧off+len≤els.length∧(len+xs.length)*bytes≤room∧len+xs.length≤room then
        .val (.sl id (ver+1) 0 (len+xs.length)) (YA b id (.live (ver+1) sz ((els.drop off).take len++xs))) (YP b l id (.live (ver+1) sz ((els.drop off).take len++xs)))
       else .bad
     |_=>.bad
   |_=>.bad

def Y0 (b l:List Row) (sz bytes:Nat) (zs:List AV) (s n:AV):OpR:=
 match s,n with
 |.v .zsl,.v (.int .i64 n)=>if n=0 then .val (.v .zsl) b l else if 0<n∧n.toNat*bytes≤room∧n.toNat≤room then mk b l sz (List.replicate n.toNat zs) (fun i=>.sl i 0 0 n.toNat) else .bad
 |_,_=>.bad

def YC (b l:List Row) (n:Option Nat):AV→OpR
 |.v (.iptr row j)=>Vi (rdI row j n) b l
 |.ptr id ver k j =>
   match hget b l id with
   |some (.live v _ els)=>if v=ver then match els[k]? with
     |some row=>Vi (rd row j n) b l
     |none=>.bad
    else .bad
   |_=>.bad
 |_=>.bad

def XG (b l:List Row) (n:Nat) (x y:AV):OpR:=
 match x,cellsOf y with
 |.ptr id ver k j,some cs =>
   match hget b l id with
   |some (.live v s els)=>if v=ver∧cs.length=n∧cs.all AV.cell=true then match els[k]? with
     |some row=>if j+n≤row.length then .val (.tup []) (YA b id (.live ver s (els.set k (ZC row j cs)))) (YP b l id (.live ver s (els.set k (ZC row j cs)))) else .bad
     |none=>.bad
    else .bad
   |_=>.bad
 |_,_=>.bad

def XC (b l:List Row) (sz:Nat) (x i:AV):OpR:=
 match x,i with
 |.v (.isl s rows),.v (.int _ n)=>if s=sz∧0≤n then match rows[n.toNat]? with
   |some row=>.val (.v (.iptr row 0)) b l
   |none=>.bad
  else .bad
 |.sl id ver off len,.v (.int _ n)=>match hget b l id with
   |some (.live v s els)=>if v=ver∧s=sz∧0≤n∧n<(len:Int) then .val (.ptr id ver (off+n.toNat) 0) b l else .bad
   |_=>.bad
 |_,_=>.bad

def QU (b l:List Row) (len sz:Nat) (x i:AV):OpR:=
 match x,i with
 |.v (.iptr row j),.v (.int _ n)=>if 0≤n∧n<(len:Int) then .val (.v (.iptr row (j+n.toNat*sz))) b l else .bad
 |.ptr id ver k j,.v (.int _ n)=>if 0≤n∧n<(len:Int) then .val (.ptr id ver k (j+n.toNat*sz)) b l else .bad
 |_,_=>.bad

def XD (b l:List Row) (d:Nat):AV→OpR
 |.v (.iptr row j)=>.val (.v (.iptr row (j+d))) b l
 |.ptr id ver k j=>.val (.ptr id ver k (j+d)) b l
 |_=>.bad

def Y4:AV→Option AV
 |.v (.str s)=>some (.v (.int .i64 s.size))
 |_=>none
def Uh:AV→Option AV
 |.v .zsl=>some (.v (.int .i64 0))
 |.v (.isl _ rows)=>some (.v (.int .i64 rows.length))
 |.sl _ _ _ n=>some (.v (.int .i64 n))
 |_=>none

def YZ (b l:List Row) (sz:Nat) (x y:AV):OpR:=
 match Xs b l sz y with
 |none=>.bad
 |some xs =>
   match x with
   |.sl id ver off len =>
     match hget b l id with
     |some (.live v s els) =>
       if v=ver∧s=sz∧off+len≤els.length then
        .val (.v (.int .i64 ((min xs.length len:Nat):Int))) (YA b id (.live ver s (els.take off++xs.take len++els.drop (off+min xs.length len)))) (YP b l id (.live ver s (els.take off++xs.take len++els.drop (off+min xs.length len))))
       else .bad
     |_=>.bad
   |_=>.bad

def comma (c:Bool) (v:AV) (ok:Bool):AV:=if c then .tup [v,.v (.bool ok)] else v
def QT (b l:List Row) (kk:KK) (zero:AV) (c:Bool) (m x:AV):OpR:=
 if Qx kk x x=some true then match m with
  |.v .nilm=>.val (comma c zero false) b l
  |.mp id ver=>match hget b l id with
    |some (.live v _ els)=>if v=ver then match ZBh kk x els with
      |some (some y)=>.val (comma c y true) b l
      |some none=>.val (comma c zero false) b l
      |none=>.bad
     else .bad
    |_=>.bad
  |_=>.bad
 else .bad
def Zp (b l:List Row) (kk:KK) (m x y:AV):OpR:=
 if Qx kk x x=some true then match m with
  |.mp id ver=>match hget b l id with
    |some (.live v s els)=>if v=ver then match ZKg kk x y els with
      |some els'=>.val (.tup []) (YA b id (.live ver s els')) (YP b l id (.live ver s els'))
      |none=>.bad
     else .bad
    |_=>.bad
  |_=>.bad
 else .bad
def ZCU:List (List AV)→Option (List Int)
 |[]=>some []
 |[.v (.int .u8 n)]::rs=>(ZCU rs).map (n::·)
 |_=>none
def ZGi (ns:List Int):ByteArray:=⟨(ns.map fun n=>UInt8.ofNat n.toNat).toArray⟩
def XA (b l:List Row) (x:AV):OpR:=
 match x with
 |.v (.str _)=>.bad
 |x=>match Xs b l 1 x with
   |some xs=>match ZCU xs with
     |some ns=>.val (.v (.str (ZGi ns))) b l
     |none=>.bad
   |none=>.bad
def YQ (b l:List Row):AV→OpR
 |.v .nilm=>.val (.v (.int .i64 0)) b l
 |.mp id ver=>match hget b l id with
   |some (.live v _ els)=>if v=ver then .val (.v (.int .i64 els.length)) b l else .bad
   |_=>.bad
 |_=>.bad

def amm (isMax:Bool):AV→AV→Option AV
 |.v (.int k x),.v (.int _ y)=>some (.v (.int k (if isMax then (if y>x then y else x) else (if y<x then y else x))))
 |_,_=>none

def evo (e:List AV):Option Opd→Option AV
 |some x=>some (ev e x)
 |none=>none

def YK:AV→List AV→OpR
 |.fn f caps,args=>.call f (args++caps)
 |_,_=>.bad

def Y3:AV→AV→AV→Option AV
 |.v (.bool t),.v (.bool a),.v (.bool c)=>some (.v (.bool (if t then a else c)))
 |.v (.bool t),a,c=>some (if t then a else c)
 |_,_,_=>none

def aop (e:List AV) (b l:List Row):AOp→OpR
 |.mv x=>.val (ev e x) b l
 |.nilck x=>match ev e x with
   |.v (.iptr row j)=>.val (.v (.iptr row j)) b l
   |.ptr id ver k j=>.val (.ptr id ver k j) b l
   |.fn f cs=>.val (.fn f cs) b l
   |_=>.bad
 |.pick c x y=>Vi (Y3 (ev e c) (ev e x) (ev e y)) b l
 |.bin o x y=>Vi ((Ug o (ev e x) (ev e y)).map .v) b l
 |.binB o x y=>Vi ((Y2 o (ev e x) (ev e y)).map .v) b l
 |.binS o x y=>Vi ((Y1 o (ev e x) (ev e y)).map .v) b l
 |.eqs neg ks x y=>match ev e x,ev e y with
   |.agg xs,.agg ys=>match eqC ks xs ys with
     |some t=>.val (.v (.bool (if neg then !t else t))) b l
     |none=>.bad
   |_,_=>.bad
 |.not x=>match ev e x with
   |.v (.bool t)=>.val (.v (.bool (!t))) b l
   |_=>.bad
 |.neg x=>match ev e x with
   |.v (.int k n)=>.val (.v (.int k (k.wrap (0-n)))) b l
   |_=>.bad
 |.conv k x=>match ev e x with
   |.v (.int _ n)=>.val (.v (.int k (k.wrap n))) b l
   |_=>.bad
 |.alloc zs=>mk b l zs.length [zs] (fun i=>.ptr i 0 0 0)
 |.box x=>match cellsOf (ev e x) with
   |some cs=>if cs.all AV.cell=true then mk b l cs.length [cs] (fun i=>.ptr i 0 0 0) else .bad
   |none=>.bad
 |.build zs ps=>match Xm e zs ps with
   |some cs=>.val (.agg cs) b l
   |none=>.bad
 |.bslice sz zs len ps=>match Xg e sz (List.replicate len zs) ps with
   |some els=>mk b l sz els (fun i=>.sl i 0 0 len)
   |none=>.bad
 |.islb sz zs len ps=>match Xg e sz (List.replicate len zs) ps with
   |some els=>match YN els with
     |some rows=>.val (.v (.isl sz rows)) b l
     |none=>.bad
   |none=>.bad
 |.load n x=>YC b l n (ev e x)
 |.store n x y=>XG b l n (ev e x) (ev e y)
 |.faddr d x=>XD b l d (ev e x)
 |.iaddr sz x i=>XC b l sz (ev e x) (ev e i)
 |.iaddrA len sz x i=>QU b l len sz (ev e x) (ev e i)
 |.field off n x=>match ev e x with
   |.agg cs=>Vi (rd cs off n) b l
   |_=>.bad
 |.indexS x i=>match ev e x,ev e i with
   |.v (.str s),.v (.int _ n)=>if h:0≤n∧n.toNat<s.size then .val (.v (.int .u8 (s[n.toNat]'h.2).toNat)) b l else .bad
   |_,_=>.bad
 |.indexA len sz n x i=>match ev e x,ev e i with
   |.agg cs,.v (.int _ k)=>if 0≤k∧k<(len:Int) then Vi (rd cs (k.toNat*sz) n) b l else .bad
   |_,_=>.bad
 |.slice sz x lo hi=>XB b l sz (ev e x) (evo e lo) (evo e hi)
 |.slice0 x=>match ev e x with
   |.v .zsl=>.val (.v .zsl) b l
   |.v (.isl _ _)=>.val (.v .zsl) b l
   |.sl .. => .val (.v .zsl) b l
   |_=>.bad
 |.sliceS x lo hi=>match ev e x with
   |.v (.str s)=>match Qr s.size (evo e lo) (evo e hi) with
     |some (p,q)=>.val (.v (.str (s.extract p q))) b l
     |none=>.bad
   |_=>.bad
 |.len x=>Vi (Uh (ev e x)) b l
 |.capz x=>match ev e x with
   |.v .zsl=>.val (.v (.int .i64 0)) b l
   |_=>.bad
 |.lenS x=>Vi (Y4 (ev e x)) b l
 |.append sz bytes s x=>Q2 b l sz bytes (ev e s) (ev e x)
 |.appz sz bytes zs s n=>Y0 b l sz bytes zs (ev e s) (ev e n)
 |.mkslice sz zs bytes n c=>match ev e n,ev e c with
   |.v (.int _ n),.v (.int _ c)=>if 0≤n∧n≤c∧c.toNat*bytes≤room∧c.toNat≤room then mk b l sz (List.replicate n.toNat zs) (fun i=>.sl i 0 0 n.toNat) else .bad
   |_,_=>.bad
 |.mkfn f caps=>.val (.fn f (evs e caps)) b l
 |.extract i x=>match ev e x with
   |.tup cs=>Vi (cs[i]?) b l
   |_=>.bad
 |.call f args=>YK (ev e f) (evs e args)
 |.mm t x y=>Vi (amm t (ev e x) (ev e y)) b l
 |.copy sz x y=>YZ b l sz (ev e x) (ev e y)
 |.isnil neg x=>match ev e x with
   |.v .zsl=>.two true (.v (.bool (!neg))) (.v (.bool neg))
   |.v (.isl _ rows)=>.two rows.isEmpty (.v (.bool (!neg))) (.v (.bool neg))
   |.sl _ _ _ n=>.two (n==0) (.v (.bool (!neg))) (.v (.bool neg))
   |_=>.bad
 |.mkmap=>mk b l 0 [] (fun i=>.mp i 0)
 |.lookup kk zero c m x=>QT b l kk zero c (ev e m) (ev e x)
 |.mupdate kk m x y=>Zp b l kk (ev e m) (ev e x) (ev e y)
 |.lenM x=>YQ b l (ev e x)
 |.tostr x=>XA b l (ev e x)

def gd (e:List AV):Option (Nat×Bool)→Option Bool
 |none=>some true
 |some (s,want)=>match nth e s with
   |.v (.bool t)=>some (t==want)
   |.tup []=>some false
   |_=>none

def YB (t:Option Bool) (A B:Prop):Prop:=
 match t with
 |some t=>if t=true then A else B
 |none=>False

abbrev CallP:=Nat→List AV→List Row→List Row→(AV→List Row→List Row→Prop)→Prop

def US (C:CallP) (b l:List Row) (K:AV→List Row→List Row→Prop):OpR→Prop
 |.val x b' l'=>K x b' l'
 |.two c x y=>(c=true→K x b l)∧K y b l
 |.call f args=>C f args b l K
 |.bad=>False

def YS (C:CallP):List AOper→List AV→List Row→List Row→(List AV→List Row→List Row→Prop)→Prop
 |[],e,b,l,K=>K e b l
 |o::os,e,b,l,K =>
   YB (gd e o.guard)
    (US C b l (fun x b' l'=>YS C os (put e o.dst x) b' l' K) (aop e b l o.op))
    (YS C os (put e o.dst (.tup [])) b l K)

def XT (e:List AV) (b l:List Row) (r:AOper):Prop:=
 YB (gd e r.guard) (∃v,aop e b l r.op=.val v b l∧(match r.dst with
  |some d=>nth e d=v∨e.length≤d
  |none=>True)) True
def JC (e:List AV) (b l:List Row):List AOper→Prop
 |[]=>True
 |r::rs=>XT e b l r∧JC e b l rs

def VI (C:CallP):List DOper→List AV→List Row→List Row→(List AV→List Row→List Row→Prop)→Prop
 |[],e,b,l,K=>K e b l
 |d::ds,e,b,l,K =>
   YB (gd e d.o.guard)
    (US C b l (fun x b' l'=>JC e b' l' d.re∧VI C ds (put e d.o.dst x) b' l' K) (aop e b l d.o.op))
    (VI C ds (put e d.o.dst (.tup [])) b l K)

abbrev WeakP:=List AV→List Row→List Row→List AV→List Row→List Row→Prop

def ZGq (R:List AV→List Row→List Row→Prop) (Q:AExit→List AV→List Row→List Row→Prop):AExit→List AV→List Row→List Row→Prop
 |.normal,e,b,l=>R e b l
 |.exit i,e,b,l=>Q (.exit i) e b l
 |.ret,e,b,l=>Q .ret e b l
def ZKW (id:Nat) (Q:AExit→List AV→List Row→List Row→Prop):AExit→List AV→List Row→List Row→Prop
 |.normal,e,b,l=>Q .normal e b l
 |.exit i,e,b,l=>if i=id then Q .normal e b l else Q (.exit i) e b l
 |.ret,e,b,l=>Q .ret e b l

def run (C:CallP) (W:WeakP):ACode→List AV→List Row→List Row→(AExit→List AV→List Row→List Row→Prop)→Prop
 |.skip,e,b,l,Q=>Q .normal e b l
 |.region ops,e,b,l,Q=>YS C ops e b l (Q .normal)
 |.draw ds,e,b,l,Q=>VI C ds e b l (Q .normal)
 |.both x y,e,b,l,Q=>run C W x e b l Q∧run C W y e b l Q
 |.seq x y,e,b,l,Q=>run C W x e b l (ZGq (fun e b l=>run C W y e b l Q) Q)
 |.cond c x y,e,b,l,Q =>
   match ev e c with
   |.v (.bool t)=>if t=true then run C W x e b l Q else run C W y e b l Q
   |_=>False
 |.block id c,e,b,l,Q=>run C W c e b l (ZKW id Q)
 |.loop c,e,b,l,Q =>
   ∃I:List AV→List Row→List Row→Nat→Prop,(∃e' b' l' m,W e b l e' b' l'∧I e' b' l' m) ∧
    ∀e b l m,I e b l m→run C W c e b l (ZGq (fun e b l=>∃e' b' l' m',W e b l e' b' l'∧I e' b' l' m'∧m'<m) Q)
 |.exit i,e,b,l,Q=>Q (.exit i) e b l
 |.ret,e,b,l,Q=>Q .ret e b l

def ZY (e:List AV) (b l:List Row):ARes→Option AV
 |.tmp t=>some (nth e t)
 |.cell t n=>match YC b l n (nth e t) with
   |.val x _ _=>some x
   |_=>none
def ZE (e:List AV) (b l:List Row):List ARes→Option (List AV)
 |[]=>some []
 |r::rs=>match ZY e b l r,ZE e b l rs with
   |some x,some xs=>some (x::xs)
   |_,_=>none
def one:List AV→AV
 |[x]=>x
 |xs=>.tup xs

def cvI:Value→Option IV
 |.int k n=>some (.int k n)
 |.bool b=>some (.bool b)
 |.string s=>some (.str s)
 |.pointer none=>some .nilp
 |.slice none 0 0=>some .zsl
 |.map none=>some .nilm
 |.nilFunc=>some .nilf
 |_=>none
def cvL:List Value→Option (List AV)
 |[]=>some []
 |v::vs=>match cvI v,cvL vs with
   |some x,some xs=>some (.v x::xs)
   |_,_=>none
def cvA:Value→Option AV
 |.agg cs=>(cvL cs.toList).map .agg
 |.tuple vs=>if vs.size=0 then some (.tup []) else none
 |.func (.func f) first caps=>if first.size=0∧caps.size=0 then some (.fn f []) else none
 |v=>(cvI v).map .v

def QK:Operand→Option Opd
 |.tmp t=>some (.t t)
 |.const v=>(cvA v).map .c
 |.func f=>some (.c (.fn f []))
 |.global _=>none
def ZCh:List Operand→Option (List Opd)
 |[]=>some []
 |x::xs=>match QK x,ZCh xs with
   |some y,some ys=>some (y::ys)
   |_,_=>none
def K9:Option Operand→Option (Option Opd)
 |none=>some none
 |some x=>(QK x).map some

section
variable (P:Program)
def ZMU (t:TypeId):Option Bool:=
 match P.underlying t with
 |some (.struct _)=>some true
 |some (.array _ _)=>some true
 |some _=>some false
 |none=>none
def Xw (t:TypeId):Option Nat:=(P.info? t).map (·.size)
def ZDA (t:TypeId):Option Nat:=(P.info? t).map (·.bytes)
def UT (t:TypeId):Option (Option Nat):=
 match ZMU P t,Xw P t with
 |some true,some n=>some (some n)
 |some false,some _=>some none
 |_,_=>none
def Yi (t:TypeId):Option (List AV):=
 match P.info? t with
 |some i=>match i.zero with
   |some z=>cvL z.cells.toList
   |none=>none
 |none=>none
def Vj (t:TypeId):Option FK:=
 match P.underlying t with
 |some (.int _)=>some .i
 |some .bool=>some .b
 |some .string=>some .s
 |_=>none
def U6:Nat→List Field→Option (List FK)
 |_,[]=>some []
 |n,f::fs=>if f.offset=n∧f.name≠ "_" then
   match Vj P f.type,U6 (n+1) fs with
   |some k,some ks=>some (k::ks)
   |_,_=>none
  else none
def ZBT (fs:Array Field):List (Nat×Operand)→Option (List (Nat×Nat×Opd))
 |[]=>some []
 |(i,x)::ps=>match fs[i]?,QK x,ZBT fs ps with
   |some f,some y,some ys=>match Xw P f.type with
     |some n=>some ((f.offset,n,y)::ys)
     |none=>none
   |_,_,_=>none
def KC (n:Nat):List (Nat×Operand)→Option (List (Nat×Nat×Opd))
 |[]=>some []
 |(i,x)::ps=>match QK x,KC n ps with
   |some y,some ys=>some ((i*n,n,y)::ys)
   |_,_=>none
def V0:List (Nat×Operand)→Option (List (Nat×Opd))
 |[]=>some []
 |(i,x)::ps=>match QK x,V0 ps with
   |some y,some ys=>some ((i,y)::ys)
   |_,_=>none
def ZHu:Operand→Bool
 |.const (.slice none 0 0)=>true
 |_=>false
def ZBI:Option Operand→Bool
 |some (.const (.int _ 0))=>true
 |_=>false

def kkT (t:TypeId):Option KK:=
 match P.underlying t with
 |some (.struct fs)=>if P.stoodInHeld t=false then (U6 P 0 fs.toList).map .many else none
 |some (.array n el)=>match Vj P el,Xw P el with
   |some k,some 1=>some (.many (List.replicate n k))
   |_,_=>none
 |some _=>(Vj P t).map .one
 |none=>none
def ZJO (t:TypeId):Option AV:=
 match P.info? t with
 |some i=>match i.zero with
   |some z=>cvA z
   |none=>none
 |none=>none
def ZHw:Option Operand→Bool
 |none=>true
 |some (.const (.int _ _))=>true
 |_=>false
def ZHv:Option TypeDesc→Bool
 |some (.map _ _)=>true
 |_=>false

def ZLx:Option TypeDesc→Bool
 |some (.int .i64)=>true
 |_=>false
def ZAK:Option TypeDesc→Bool
 |some (.slice _)=>true
 |some .string=>true
 |_=>false

def cOp (o:Op):Option AOp:=
 match o with
 |.move x=>(QK x).map .mv
 |.assign x=>(QK x).map .mv
 |.nilCheck x=>(QK x).map .nilck
 |.pick c a b=>do let c ←QK c;let a ←QK a;let b ←QK b;pure (.pick c a b)
 |.binOp o t x y _ =>
   match P.underlying t with
   |some (.struct fs)=>match U6 P 0 fs.toList with
     |some ks=>if P.stoodInHeld t=false∧P.eqGuardType P.depth t=false∧(o=.eql∨o=.neq) then
       do let x ←QK x;let y ←QK y;pure (.eqs (o==.neq) ks x y) else none
     |none=>none
   |some (.array n el)=>match Vj P el,Xw P el with
     |some k,some 1=>if P.eqGuardType P.depth t=false∧(o=.eql∨o=.neq) then
       do let x ←QK x;let y ←QK y;pure (.eqs (o==.neq) (List.replicate n k) x y) else none
     |_,_=>none
   |some (.int _)=>do let x ←QK x;let y ←QK y;pure (.bin o x y)
   |some .bool=>do let x ←QK x;let y ←QK y;pure (.binB o x y)
   |some .string=>do let x ←QK x;let y ←QK y;pure (.binS o x y)
   |some (.slice _)=>if (o=.eql∨o=.neq)∧ZHu y=true then (QK x).map (.isnil (o==.neq)) else none
   |_=>none
 |.unOp .not _ x=>(QK x).map .not
 |.unOp .neg _ x=>(QK x).map .neg
 |.convert s d x=>match P.underlying s,P.underlying d with
   |some (.int _),some (.int k)=>(QK x).map (.conv k)
   |some (.slice el),some .string=>match P.underlying el with
     |some (.int .u8)=>(QK x).map .tostr
     |_=>none
   |_,_=>none
 |.alloc t=>(Yi P t).map .alloc
 |.box _ x=>(QK x).map .box
 |.build t ps=>match P.underlying t,Yi P t with
   |some (.struct fs),some zs=>if fs.toList.all (fun f=>(Xw P f.type).isSome)=true then (ZBT P fs ps.toList).map (.build zs) else none
   |some (.array _ el),some zs=>match Xw P el with
     |some n=>(KC n ps.toList).map (.build zs)
     |none=>none
   |_,_=>none
 |.buildSlice t len ps=>match P.underlying t with
   |some (.slice el)=>match Xw P el,Yi P el with
     |some n,some zs=>if 0<n∧len*n≤16777216∧zs.length=n then (V0 ps.toList).map (.bslice n zs len) else none
     |_,_=>none
   |_=>none
 |.load t x=>match UT P t with
   |some n=>(QK x).map (.load n)
   |none=>none
 |.store t a v=>match Xw P t with
   |some n=>do let a ←QK a;let v ←QK v;pure (.store n a v)
   |none=>none
 |.fieldAddr t x i=>match P.underlying t with
   |some (.struct fs)=>match fs[i]? with
     |some f=>match Xw P f.type with
       |some n=>if 0<n then (QK x).map (.faddr f.offset) else none
       |none=>none
     |none=>none
   |_=>none
 |.field t x i=>match P.underlying t with
   |some (.struct fs)=>match fs[i]? with
     |some f=>match UT P f.type with
       |some n=>(QK x).map (.field f.offset n)
       |none=>none
     |none=>none
   |_=>none
 |.indexAddr t x i=>match P.underlying t with
   |some (.slice el)=>match Xw P el with
     |some n=>do let x ←QK x;let i ←QK i;pure (.iaddr n x i)
     |none=>none
   |some (.array len el)=>match Xw P el with
     |some n=>do let x ←QK x;let i ←QK i;pure (.iaddrA len n x i)
     |none=>none
   |_=>none
 |.index t x i=>match P.underlying t with
   |some .string=>do let x ←QK x;let i ←QK i;pure (.indexS x i)
   |some (.array len el)=>match Xw P el,UT P el with
     |some n,some s=>do let x ←QK x;let i ←QK i;pure (.indexA len n s x i)
     |_,_=>none
   |_=>none
 |.slice t x lo hi mx=>match P.underlying t with
   |some (.slice el)=>match mx with
     |none=>match Xw P el with
       |some n=>do let x ←QK x;let lo ←K9 lo;let hi ←K9 hi;pure (.slice n x lo hi)
       |none=>none
     |some _=>if ZBI mx&&ZBI hi&&lo.isNone&&(Xw P el).isSome then (QK x).map .slice0 else none
   |some .string=>match mx with
     |none=>do let x ←QK x;let lo ←K9 lo;let hi ←K9 hi;pure (.sliceS x lo hi)
     |some _=>none
   |_=>none
 |.makeSlice t n c=>match P.underlying t with
   |some (.slice el)=>match Xw P el,Yi P el,ZDA P el with
     |some s,some zs,some bytes=>if zs.length=s∧0<s then do let n ←QK n;let c ←QK c;pure (.mkslice s zs bytes n c) else none
     |_,_,_=>none
   |_=>none
 |.makeMap t r=>if ZHv (P.underlying t)=true∧ZHw r=true then some .mkmap else none
 |.lookup t x i c=>match P.underlying t with
   |some (.map k el)=>match kkT P k,ZJO P el with
     |some kk,some z=>do let x ←QK x;let i ←QK i;pure (.lookup kk z c x i)
     |_,_=>none
   |_=>none
 |.mapUpdate t m x y=>match P.underlying t with
   |some (.map k _)=>match kkT P k with
     |some kk=>do let m ←QK m;let x ←QK x;let y ←QK y;pure (.mupdate kk m x y)
     |none=>none
   |_=>none
 |.makeFunc (.func f) first caps=>if first.size=0 then (ZCh caps.toList).map (.mkfn f) else none
 |.extract x i=>(QK x).map (.extract i)
 |.call c=>match c.callee with
   |.value f=>do let f ←QK f;let args ←ZCh c.args.toList;pure (.call f args)
   |.builtin .len=>match c.args.toList,c.argTypes.toList with
     |[x],[t]=>match P.underlying t with
       |some .string=>(QK x).map .lenS
       |some (.slice _)=>(QK x).map .len
       |some (.array n _)=>some (.mv (.c (.v (.int .i64 n))))
       |some (.map _ _)=>(QK x).map .lenM
       |_=>none
     |_,_=>none
   |.builtin .append=>match c.args.toList,c.argTypes.toList with
     |[s,x],[t,u]=>match P.underlying t with
       |some (.slice el)=>match Xw P el,ZDA P el,Yi P el with
         |some n,some bytes,some zs=>if 0<n∧0<bytes∧zs.length=n∧ZAK (P.underlying u)=true then do let s ←QK s;let x ←QK x;pure (.append n bytes s x)
           else if 0<n∧0<bytes∧zs.length=n∧ZLx (P.underlying u)=true then do let s ←QK s;let x ←QK x;pure (.appz n bytes zs s x) else none
         |_,_,_=>none
       |_=>none
     |_,_=>none
   |.builtin .copy=>match c.args.toList,c.argTypes.toList with
     |[x,y],[t,_]=>match P.underlying t with
       |some (.slice el)=>match Xw P el with
         |some n=>if 0<n then do let x ←QK x;let y ←QK y;pure (.copy n x y) else none
         |none=>none
       |_=>none
     |_,_=>none
   |.builtin .max=>match c.args.toList with
     |[x,y]=>do let x ←QK x;let y ←QK y;pure (.mm true x y)
     |_=>none
   |.builtin .min=>match c.args.toList with
     |[x,y]=>do let x ←QK x;let y ←QK y;pure (.mm false x y)
     |_=>none
   |.builtin .cap=>match c.args.toList,c.argTypes.toList with
     |[x],[t]=>match P.underlying t with
       |some (.slice _)=>(QK x).map .capz
       |_=>none
     |_,_=>none
   |_=>none
 |_=>none

def ZLy:AOp→AOp
 |.bslice sz zs len ps=>.islb sz zs len ps
 |o=>o
def ZJM (imm:Bool) (o:Op):Option AOp:=if imm=true then (cOp P o).map ZLy else cOp P o
def ZBU (ops:Array Oper):Option (Nat×Bool)→Option (Option (Nat×Bool))
 |none=>some none
 |some (j,want)=>match (ops[j]?).bind (·.dst) with
   |some d=>some (some (d,want))
   |none=>none
def ZFl (imm:Bool) (ops:Array Oper):List Oper→Option (List AOper)
 |[]=>some []
 |o::os=>match ZJM P imm o.op,ZBU ops o.guard,ZFl imm ops os with
   |some x,some g,some xs=>some (⟨o.dst,x,g⟩::xs)
   |_,_,_=>none
def anc (ops:Array Oper) (x:Nat):Nat→Nat→Bool
 |0,_=>false
 |n+1,i=>match ops[i]? with
   |some o=>o.after.toList.any fun ed=>Region.binds .any ed&&(ed.on==x||anc ops x n ed.on)
   |none=>false
def ZGx (ops:Array Oper) (done:List Nat) (i:Nat):Bool:=match ops[i]? with
 |some o=>o.after.toList.all fun ed=>!Region.binds .any ed||done.contains ed.on
 |none=>false
def ZBC (ops:Array Oper) (qs als:List Bool):Nat→List Nat→List Nat→List Nat
 |0,_,_=>[]
 |n+1,left,done =>
   match left.find? (fun i=>ZGx ops done i&&qs.getD i false) with
   |some i=>i::ZBC ops qs als n (left.erase i) (i::done)
   |none=>match left.find? (fun i=>ZGx ops done i&&!als.getD i false) with
     |some i=>i::ZBC ops qs als n (left.erase i) (i::done)
     |none=>match left.find? (fun i=>ZGx ops done i) with
       |some i=>i::ZBC ops qs als n (left.erase i) (i::done)
       |none=>[]
def ZMY (ops:Array Oper) (aos:List AOper) (i:Nat):List Nat→List AOper
 |[]=>[]
 |j::js=>match aos[j]? with
   |some r=>if r.op.quiet&&!anc ops j ops.size i then r::ZMY ops aos i js else ZMY ops aos i js
   |none=>ZMY ops aos i js
def mkD (ops:Array Oper) (aos:List AOper):List Nat→List Nat→List DOper
 |_,[]=>[]
 |done,i::is=>match aos[i]? with
   |some o=>⟨i,o,if o.op.quiet then [] else ZMY ops aos i done⟩::mkD ops aos (done++[i]) is
   |none=>[]
def ZCT (ops:Array Oper) (fin:List Nat) (a c:DOper):Bool:=
 (!fin.contains a.i||anc ops a.i ops.size c.i)&&(match c.o.dst with
  |some d=>(!(a.o.op.quiet||c.o.op.isAlloc)||(fin.contains c.i&&!c.o.op.isAlloc&&anc ops a.i ops.size c.i)||!a.o.looks.contains d)&&a.o.dst != some d&&(!c.o.op.isAlloc||a.re.all (fun r=>!r.looks.contains d&&r.dst != some d))
  |none=>true) &&
 (anc ops a.i ops.size c.i||((a.o.op.quiet||c.o.op.isAlloc)&&(match a.o.dst with
  |some d=>!c.o.looks.contains d
  |none=>true)))
def ZBw (o:AOper):Bool:=!o.op.isAlloc||(o.guard.isNone&&o.dst.isSome)
def ZAy (a:DOper):Bool:=match a.o.dst with
 |some d=>!(a.o.op.quiet||a.o.op.isAlloc)||(!a.o.looks.contains d&&a.re.all (fun r=>!r.looks.contains d&&r.dst != some d))
 |none=>true
def ZB5 (ops:Array Oper) (fin:List Nat):List DOper→Bool
 |[]=>true
 |a::ds=>ZAy a&&ds.all (ZCT ops fin a)&&ZB5 ops fin ds
def ZDN (ops:Array Oper):List DOper→List Nat
 |[]=>[]
 |d::ds=>if ds.all (fun c=>anc ops d.i ops.size c.i) then d.i::ZDN ops ds else ZDN ops ds
def KM (is:List Nat) (i:Nat):Nat:=is.findIdx (· == i)
def ZDl (ops:Array Oper) (is:List Nat):Bool:=(List.range ops.size).all fun i=>match ops[i]? with
 |some o=>o.after.toList.all fun ed=>!Region.binds .any ed||decide (KM is ed.on<KM is i)
 |none=>true
def ZCj (imm:Bool) (ops:Array Oper):Option (List DOper):=
 match ZFl P imm ops ops.toList with
 |some aos =>
   let ds:=mkD ops aos [] (ZBC ops (aos.map (·.op.quiet)) (aos.map (·.op.isAlloc)) ops.size (List.range ops.size) [])
   if P.follows .mixedOrders=true∧ZDl ops (ds.map (·.i))=true∧aos.all ZBw=true∧ZB5 ops (ZDN ops ds) ds=true∧(ds.map (·.i)).length=ops.size∧(ds.map (·.i)).Nodup∧(List.range ops.size).all (fun i=>(ds.map (·.i)).contains i)=true then some ds else none
 |none=>none
def Q1 (ops:Array Oper) (k i:Nat):Array Oper:=match ops[k]? with
 |some o=>ops.setIfInBounds k {o with after:=o.after.push ⟨i,.data⟩}
 |none=>ops
def ZLN (ops:Array Oper) (aos:List AOper):Option (Nat×Nat):=
 let ms:=(List.range ops.size).filter fun i=>match aos[i]? with
  |some o=>!o.op.quiet&&!o.op.isAlloc
  |none=>false
 ms.findSome? fun i=>(ms.find? fun k=>decide (i<k)&&!anc ops i ops.size k&&!anc ops k ops.size i).map fun k=>(i,k)
def Jz (imm:Bool):Nat→Array Oper→Option ACode
 |0,ops=>(ZCj P imm ops).map .draw
 |n+1,ops=>match ZCj P imm ops with
   |some ds=>some (.draw ds)
   |none=>match ZFl P imm ops ops.toList with
     |some aos=>match ZLN ops aos with
       |some (i,k)=>if i≠k∧i<ops.size∧k<ops.size then match Jz imm n (Q1 ops k i),Jz imm n (Q1 ops i k) with
         |some x,some y=>some (.both x y)
         |_,_=>none else none
       |none=>none
     |none=>none
def ZEN:ACode:=.region [⟨none,.extract 0 (.c .any),none⟩]
def ZL4:Option ACode→ACode
 |some c=>c
 |none=>ZEN
def ZNY (ops:Array Oper) (draw:Bool):Option ACode:=if draw then (match Jz P false 6 ops with
 |some c=>some c
 |none=>Jz P true 6 ops) else (ZFl P false ops ops.toList).map .region
def VB:Code→Option ACode
 |.skip=>some .skip
 |.region _ ops draw=>some (ZL4 (ZNY P ops draw))
 |.seq a b=>match VB a,VB b with
   |some x,some y=>some (.seq x y)
   |_,_=>none
 |.cond c a b=>match QK c,VB a,VB b with
   |some c,some x,some y=>some (.cond c x y)
   |_,_,_=>none
 |.block id c=>(VB c).map (.block id)
 |.loop c=>(VB c).map .loop
 |.exit id=>some (.exit id)
 |.ret=>some .ret
 |_=>some ZEN
def ZMR:List ResultVar→Option (List ARes)
 |[]=>some []
 |.tmp t::rs=>(ZMR rs).map (ARes.tmp t::·)
 |.cell a t::rs=>match UT P t,ZMR rs with
   |some n,some xs=>some (.cell a n::xs)
   |_,_=>none
def Zq (f:FuncId):Option AFunc:=
 match P.funcs[f]? with
 |some fn=>if fn.name == "runtime.NumGoroutine" then none else
   match fn.body with
   |some c=>match VB P c,ZMR P fn.results.toList with
     |some c,some rs=>some ⟨fn.params.size+fn.nfree,fn.ntmps,rs,c⟩
     |_,_=>none
   |none=>none
 |none=>none
end
end Go.Proofs.YtoccdlnoaindmaaGreatDoor
namespace Go.Proofs.YtoccdlnoaindmaaGreatDoor
set_option linter.unusedVariables false

theorem RepI.one {w:World} {F:Nat→Prop} {x:IV} {v:Value} (h:RepI w F x v):v.oneCell'=true:=by cases h<;>rfl

theorem RepA.one {w:World} {F:Nat→Prop} {L:LMap} {x:AV} {v:Value} (h:RepA w F L x v) (hx:x.cell=true):v.oneCell'=true:=by
 cases h<;>first|rfl|(simp[AV.cell]at hx;done)|skip
 case v h=>exact h.one

theorem ZCg {v:Value} (h:v.oneCell'=true):v.cells=#[v]:=by cases v<;>first|rfl|cases h

theorem Sim.putLoc {F:Nat→Prop} {L:LMap} {h h':List Row} {w w':World} (s:Sim F L h w) (id ver sz blk:Nat) (q:Loc) (els:List (List AV)) (hq:∀k,q.on k→k=blk)
  (hos:w'.os=w.os) (htp:w'.tape=w.tape) (hout:w'.output=w.output) (hsize:w.heap.size≤w'.heap.size)
  (hb:∀k,k<w.heap.size→k≠blk→w'.heap[k]? = w.heap[k]?)
  (hnew:w.heap.size≤blk∨∃v z els0 q0,h[id]? = some (.live v z els0)∧L id v=some q0∧q0.on blk)
  (hh:h'[id]? = some (.live ver sz els)) (hother:∀j,j≠id→h'[j]? = h[j]?)
  (hver:∀r,h[id]? = some r→r.ver≤ver∧∃v z els0,r=.live v z els0)
  (hfresh:L id ver=none∨L id ver=some q)
  (hrow:∀L':LMap,(∀(x:AV) (v:Value),RepA w F L x v→RepA w' F L' x v)→ZCt w' F L' sz els q) :
  ∃L':LMap,Sim F L' h' w'∧Step h.length F L h w F L' h' w'∧L' id ver=some q∧∀i v l,L i v=some l→L' i v=some l:=by
 have hL':∃L':LMap,L' id ver=some q∧(∀i v l,L i v=some l→L' i v=some l)∧∀i v,(i≠id∨v≠ver)→L' i v=L i v:=by
  refine⟨fun i v=>if i=id∧v=ver then some q else L i v,by simp,?_,?_⟩
  ·intro i v l hl
   by_cases hi:i=id∧v=ver
   ·obtain⟨rfl,rfl⟩:=hi
    rcases hfresh with h0|h0
    ·rw[h0]at hl;cases hl
    ·rw[h0]at hl;simpa using hl
   ·simp[hi,hl]
  ·intro i v hi
   have:¬(i=id∧v=ver):=fun ⟨a,b⟩=>hi.elim (fun h=>h a) (fun h=>h b)
   simp[this]
 obtain⟨L',hLn,hLm,hLo⟩:=hL'
 have notF:¬F blk:=fun hF=>by
  obtain⟨hlt,hno⟩:=s.imm blk hF
  rcases hnew with h0|⟨v,z,els0,q0,h1,h2,h3⟩
  ·omega
  ·exact hno ⟨id,v,z,els0,q0,h1,h2,h3⟩
 have hF:∀k,F k→w'.heap[k]? = w.heap[k]?:=fun k hk=>hb k (s.imm k hk).1 (fun e=>notF (e▸hk))
 have mono:∀(x:AV) (v:Value),RepA w F L x v→RepA w' F L' x v:=fun _ _ hx=>hx.mono (fun _ h=>h) hF hLm
 have liveO:∀j v z els0 b q1,j≠id→h[j]? = some (.live v z els0)→L j v=some q1→q1.on b→b≠blk:=by
  intro j v z els0 b q1 hj h1 h2 h5 e
  subst e
  rcases hnew with h0|⟨v',z',els',q',h3,h4,h6⟩
  ·obtain⟨l,g1,g2⟩:=s.row j v z els0 h1
   rw[h2]at g1;cases g1
   have:=g2.lt h5
   omega
  ·exact hj (s.apart j id v v' z z' els0 els' b q1 q' h1 h3 h2 h4 h5 h6)
 refine⟨L',⟨?_,?_,?_,?_,s.glob.mono (fun _ h=>h) hF⟩,⟨fun _ h=>h,fun i v l _ hl=>hLm i v l hl,hos,htp,hout,hsize,?_,?_,?_,fun _ _ h=>.inl h⟩,hLn,hLm⟩
 ·intro j v z e1 hj
  by_cases hji:j=id
  ·subst hji
   rw[hh]at hj
   cases hj
   exact⟨_,hLn,hrow L' mono⟩
  ·rw[hother j hji]at hj
   obtain⟨l,hl1,hl2⟩:=s.row j v z e1 hj
   exact⟨l,hLm _ _ _ hl1,hl2.mono (fun b hbo=>hb b (hl2.lt hbo) (liveO j v z e1 b l hji hj hl1 hbo)) mono⟩
 ·intro i v l hl1
  by_cases hi:i=id
  ·subst hi
   refine⟨_,hh,?_⟩
   by_cases hv:v=ver
   ·subst hv;exact Nat.le_refl _
   ·rw[hLo i v (.inr hv)]at hl1
    obtain⟨r,h1,h2⟩:=s.born _ _ _ hl1
    exact Nat.le_trans h2 (hver r h1).1
  ·rw[hLo i v (.inl hi)]at hl1
   obtain⟨r,h1,h2⟩:=s.born _ _ _ hl1
   exact⟨r,by rw[hother i hi];exact h1,h2⟩
 ·intro i i' v v' z z' e1 e2 b q1 q2 h1 h2 h3 h4 h5 h6
  by_cases hi:i=id
  ·by_cases hi':i'=id
   ·rw[hi,hi']
   ·subst hi
    rw[hh]at h1;cases h1
    rw[hother i' hi']at h2
    rw[hLn]at h3;cases h3
    rw[hLo i' v' (.inl hi')]at h4
    exact absurd (hq b h5) (liveO i' v' z' e2 b q2 hi' h2 h4 h6)
  ·by_cases hi':i'=id
   ·subst hi'
    rw[hh]at h2;cases h2
    rw[hother i hi]at h1
    rw[hLn]at h4;cases h4
    rw[hLo i v (.inl hi)]at h3
    exact absurd (hq b h6) (liveO i v z e1 b q1 hi h1 h3 h5)
   ·rw[hother i hi]at h1
    rw[hother i' hi']at h2
    rw[hLo i v (.inl hi)]at h3
    rw[hLo i' v' (.inl hi')]at h4
    exact s.apart i i' v v' z z' e1 e2 b q1 q2 h1 h2 h3 h4 h5 h6
 ·intro k hk
  refine⟨Nat.lt_of_lt_of_le (s.imm k hk).1 hsize,?_⟩
  rintro⟨i,v,z,e1,q1,h1,h2,h3⟩
  by_cases hi:i=id
  ·subst hi
   rw[hh]at h1;cases h1
   rw[hLn]at h2;cases h2
   exact notF (hq k h3▸hk)
  ·rw[hother i hi]at h1
   rw[hLo i v (.inl hi)]at h2
   exact (s.imm k hk).2 ⟨i,v,z,e1,q1,h1,h2,h3⟩
 ·intro k hk hno
  refine hb k hk fun e=>?_
  subst e
  rcases hnew with h0|⟨v',z',els',q',h3,h4,h5⟩
  ·omega
  ·exact hno ⟨id,v',z',els',q',h3,h4,h5⟩
 ·rintro k hk ⟨i,v,z,e1,q1,h1,h2,h3⟩
  by_cases hi:i=id
  ·subst hi
   rw[hh]at h1;cases h1
   rw[hLn]at h2;cases h2
   obtain rfl:=hq k h3
   rcases hnew with h0|⟨v',z',els',q',h3,h4,h5⟩
   ·omega
   ·exact⟨i,v',z',els',q',h3,h4,h5⟩
  ·rw[hother i hi]at h1
   rw[hLo i v (.inl hi)]at h2
   exact⟨i,v,z,e1,q1,h1,h2,h3⟩
 ·intro i hi v hv
  by_cases hii:i=id
  ·subst hii
   obtain⟨_,v',z',e',he⟩:=hver _ hv
   cases he
  ·rw[hother i hii];exact hv

theorem Sim.putRow {F:Nat→Prop} {L:LMap} {h h':List Row} {w w':World} (s:Sim F L h w) (id ver sz blk o cap:Nat) (els:List (List AV))
  (hos:w'.os=w.os) (htp:w'.tape=w.tape) (hout:w'.output=w.output) (hsize:w.heap.size≤w'.heap.size)
  (hb:∀k,k<w.heap.size→k≠blk→w'.heap[k]? = w.heap[k]?)
  (hnew:w.heap.size≤blk∨∃v z els0 o0 z0 cap0,h[id]? = some (.live v z els0)∧L id v=some (.pl blk o0 z0 cap0))
  (hh:h'[id]? = some (.live ver sz els)) (hother:∀j,j≠id→h'[j]? = h[j]?)
  (hver:∀r,h[id]? = some r→r.ver≤ver∧∃v z els0,r=.live v z els0)
  (hfresh:L id ver=none∨L id ver=some (.pl blk o sz cap))
  (hl:els.length≤cap) (hcm:cap≤maxLen) (cur:Array Value) (T:TypeId) (hcur:w'.heap[blk]? = some (.cells cur T (0,0))) (hfit:o+cap*sz≤cur.size)
  (hsz:∀(k:Nat) (row:List AV),els[k]? = some row→row.length=sz)
  (hcell:∀(k:Nat) (row:List AV) (j:Nat) (a:AV),els[k]? = some row→row[j]? = some a→a.cell=true∧∃v,cur[o+k*sz+j]? = some v∧RepA w F L a v) :
  ∃L':LMap,Sim F L' h' w'∧Step h.length F L h w F L' h' w'∧L' id ver=some (.pl blk o sz cap)∧∀i v l,L i v=some l→L' i v=some l:=by
 refine s.putLoc id ver sz blk (.pl blk o sz cap) els (fun k hk=>hk.symm) hos htp hout hsize hb (hnew.imp (fun h=>h) fun ⟨v,z,e,o0,z0,c0,h1,h2⟩=>⟨v,z,e,_,h1,h2,rfl⟩) hh hother hver hfresh ?_
 intro L' mono
 exact⟨rfl,hl,hcm,cur,T,hcur,hfit,hsz,fun k row i a hk hi=>by
  obtain⟨h1,v,h2,h3⟩:=hcell k row i a hk hi
  exact⟨h1,v,h2,mono _ _ h3⟩⟩

theorem Sim.same {F:Nat→Prop} {L:LMap} {h:List Row} {w w':World} (s:Sim F L h w) (hh:w'.heap=w.heap):Sim F L h w':=by
 have m:∀{x:AV} {v:Value},RepA w F L x v→RepA w' F L x v:=fun hx=>hx.mono (fun _ h=>h) (fun _ _=>by rw[hh]) (fun _ _ _ h=>h)
 refine⟨fun id ver sz els hr=>?_,s.born,s.apart,fun b hb=>⟨by rw[hh];exact (s.imm b hb).1,(s.imm b hb).2⟩,s.glob.mono (fun _ h=>h) (fun _ _=>by rw[hh])⟩
 obtain⟨l,h1,h2⟩:=s.row id ver sz els hr
 exact⟨l,h1,h2.mono (fun _ _=>by rw[hh]) (fun _ _=>m)⟩

theorem Step.same {nb:Nat} {F:Nat→Prop} {L:LMap} {h:List Row} {w w':World} (hh:w'.heap=w.heap) (hos:w'.os=w.os) (htp:w'.tape=w.tape) (hout:w'.output=w.output) :
  Step nb F L h w F L h w':=⟨fun _ h=>h,fun _ _ _ _ h=>h,hos,htp,hout,by rw[hh];exact Nat.le_refl _,fun _ _ _=>by rw[hh],fun _ _ h=>h,fun _ _ _ h=>h,fun _ _ h=>.inl h⟩

theorem Sim.cell {F:Nat→Prop} {L:LMap} {h:List Row} {w:World} (s:Sim F L h w) {id ver sz b o z cap k j:Nat} {els:List (List AV)} {row:List AV} {a:AV}
  (hr:h[id]? = some (.live ver sz els)) (hL:L id ver=some (.pl b o z cap)) (hk:els[k]? = some row) (hj:row[j]? = some a) :
  z=sz∧a.cell=true∧∃v,w.cell? ⟨b,o+k*z+j,none⟩=some v∧RepA w F L a v:=by
 obtain⟨l,h1,h2⟩:=s.row id ver sz els hr
 rw[hL]at h1;cases h1
 obtain⟨a1,a2,a3,cur,T,a4,a5,a6,a7⟩:=h2
 subst a1
 obtain⟨b1,v,b2,b3⟩:=a7 k row j a hk hj
 exact⟨rfl,b1,v,by simp[World.cell?,a4,b2],b3⟩

end Go.Proofs.YtoccdlnoaindmaaGreatDoor
namespace Go.Proofs.YtoccdlnoaindmaaGreatDoor
set_option linter.unusedVariables false

def Ends (P:Program) (o:Oper) (a:Act) (w:World) (v:Value) (w':World):Prop:=
 (execOp a.eval o).run P w=.ok (.value v) w'∨((execOp a.eval o).run P w=.ok .skip w'∧v=undef)

def Q3 (P:Program) (o:Oper) (a:Act) (w:World) (F:Nat→Prop) (L:LMap) (b l:List Row) (x:AV) (b' l':List Row):Prop:=
 ∃v w' L',Ends P o a w v w'∧RepA w' F L' x v∧Sim F L' (b'++l') w'∧Step (b++l).length F L (b++l) w F L' (b'++l') w'∧b'.length=b.length

def ZBz (P:Program) (o:Oper) (a:Act) (w:World) (F:Nat→Prop) (L:LMap) (b l:List Row) (x:AV) (b' l':List Row):Prop:=
 ∃v w' F' L',Ends P o a w v w'∧RepA w' F' L' x v∧Sim F' L' (b'++l') w'∧Step (b++l).length F L (b++l) w F' L' (b'++l') w'∧b'.length=b.length
theorem Q3.toF {P:Program} {o:Oper} {a:Act} {w:World} {F:Nat→Prop} {L:LMap} {b l:List Row} {x:AV} {b' l':List Row} (h:Q3 P o a w F L b l x b' l'):ZBz P o a w F L b l x b' l':=by
 obtain⟨v,w',L',h1,h2,h3,h4,h5⟩:=h
 exact⟨v,w',F,L',h1,h2,h3,h4,h5⟩

theorem Q3.pure {P:Program} {o:Oper} {a:Act} {w:World} {F:Nat→Prop} {L:LMap} {b l:List Row} {x:AV} {v:Value} (s:Sim F L (b++l) w)
  (h:(execOp a.eval o).run P w=.ok (.value v) w) (hx:RepA w F L x v):Q3 P o a w F L b l x b l:=
 ⟨v,w,L,.inl h,hx,s,Step.refl _ _ _ _ _,rfl⟩

section
variable {P:Program} {w:World} {F:Nat→Prop} {L:LMap}

theorem ZI6 {v:Value} {x:IV} (h:cvI v=some x):RepI w F x v:=by
 unfold cvI at h
 split at h<;>first|(cases h;constructor)|cases h

def QL (w:World) (F:Nat→Prop) (L:LMap) (cs:List AV) (vs:List Value):Prop:=
 cs.length=vs.length∧∀(i:Nat) (a:AV) (v:Value),cs[i]? = some a→vs[i]? = some v→RepA w F L a v

theorem QL.nil:QL w F L [] []:=⟨rfl,by simp⟩
theorem QL.cons {a:AV} {v:Value} {cs:List AV} {vs:List Value} (h:RepA w F L a v) (t:QL w F L cs vs):QL w F L (a::cs) (v::vs):=by
 refine⟨by simp[t.1],fun i x u hx hu=>?_⟩
 cases i with
 |zero=>simp at hx hu;subst hx;subst hu;exact h
 |succ i=>simp at hx hu;exact t.2 i x u hx hu

theorem YG:∀{vs:List Value} {xs:List AV},cvL vs=some xs→QL w F L xs vs∧xs.all AV.cell=true
 |[],xs,h=>by simp[cvL]at h;subst h;exact⟨QL.nil,rfl⟩
 |v::vs,xs,h=>by
   unfold cvL at h
   split at h
   ·rename_i x ys h1 h2
    cases h
    obtain⟨h3,h4⟩:=YG h2
    exact⟨QL.cons (.v _ _ (ZI6 h1)) h3,by simp[AV.cell,h4]⟩
   ·cases h

theorem QL.agg {cs:List AV} {vs:Array Value} (h:QL w F L cs vs.toList):RepA w F L (.agg cs) (.agg vs):=
 .agg cs vs (by simpa using h.1) (fun i a v hi hv=>h.2 i a v hi (by simpa using hv))
theorem QL.tup {cs:List AV} {vs:Array Value} (h:QL w F L cs vs.toList):RepA w F L (.tup cs) (.tuple vs):=
 .tup cs vs (by simpa using h.1) (fun i a v hi hv=>h.2 i a v hi (by simpa using hv))
theorem QL.fn {f:Nat} {cs:List AV} {vs:Array Value} (h:QL w F L cs vs.toList):RepA w F L (.fn f cs) (.func (.func f) #[] vs):=
 .fn f cs vs (by simpa using h.1) (fun i a v hi hv=>h.2 i a v hi (by simpa using hv))

theorem RepA.aggL {cs:List AV} {v:Value} (h:RepA w F L (.agg cs) v):∃vs:Array Value,v=.agg vs∧QL w F L cs vs.toList:=by
 cases h with
 |agg _ vs hl h=>exact⟨vs,rfl,by simpa using hl,fun i a v hi hv=>h i a v hi (by simpa using hv)⟩
theorem RepA.tupL {cs:List AV} {v:Value} (h:RepA w F L (.tup cs) v):∃vs:Array Value,v=.tuple vs∧QL w F L cs vs.toList:=by
 cases h with
 |tup _ vs hl h=>exact⟨vs,rfl,by simpa using hl,fun i a v hi hv=>h i a v hi (by simpa using hv)⟩
theorem RepA.fnL {f:Nat} {cs:List AV} {v:Value} (h:RepA w F L (.fn f cs) v):∃vs:Array Value,v=.func (.func f) #[] vs∧QL w F L cs vs.toList:=by
 cases h with
 |fn _ _ vs hl h=>exact⟨vs,rfl,by simpa using hl,fun i a v hi hv=>h i a v hi (by simpa using hv)⟩
theorem RepA.vI {x:IV} {v:Value} (h:RepA w F L (.v x) v):RepI w F x v:=by cases h;assumption

theorem ZI7 {v:Value} {x:AV} (h:cvA v=some x):RepA w F L x v:=by
 unfold cvA at h
 split at h
 ·rename_i cs
  cases hc:cvL cs.toList with
  |none=>simp[hc]at h
  |some xs=>simp[hc]at h;subst h;exact (YG hc).1.agg
 ·split at h
  ·rename_i vs hv
   cases h
   have:vs=#[]:=Array.eq_empty_of_size_eq_zero hv
   subst this
   exact QL.tup QL.nil
  ·cases h
 ·rename_i f first caps
  split at h
  ·rename_i hv
   cases h
   have h1:first=#[]:=Array.eq_empty_of_size_eq_zero hv.1
   have h2:caps=#[]:=Array.eq_empty_of_size_eq_zero hv.2
   subst h1;subst h2
   exact QL.fn QL.nil
  ·cases h
 ·cases hc:cvI v with
  |none=>simp[hc]at h
  |some y=>simp[hc]at h;subst h;exact .v _ _ (ZI6 hc)

theorem ZX {e:List AV} {a:Act} (he:XH w F L e a) {x:Operand} {y:Opd} (h:QK x=some y):RepA w F L (ev e y) (a.eval x):=by
 unfold QK at h
 split at h
 ·cases h;exact he.nth _
 ·rename_i v
  cases hc:cvA v with
  |none=>simp[hc]at h
  |some z=>simp[hc]at h;subst h;exact ZI7 hc
 ·cases h;exact QL.fn QL.nil
 ·cases h

theorem ZDf {e:List AV} {a:Act} (he:XH w F L e a):∀{xs:List Operand} {ys:List Opd},ZCh xs=some ys→QL w F L (evs e ys) (xs.map a.eval)
 |[],ys,h=>by simp[ZCh]at h;subst h;exact QL.nil
 |x::xs,ys,h=>by
   unfold ZCh at h
   split at h
   ·rename_i y zs h1 h2
    cases h
    exact QL.cons (ZX he h1) (ZDf he h2)
   ·cases h

theorem Xx {t:TypeId} {c:Bool} (h:ZMU P t=some c):(isAgg t).run P w=.ok c w:=by
 unfold ZMU at h
 unfold isAgg
 split at h
 ·rename_i hu;cases h;simp[run_underlying hu]
 ·rename_i hu;cases h;simp[run_underlying hu]
 ·rename_i d h1 h2 hu
  cases h
  simp only[Sem.run_bind,run_underlying hu,Result.andThen_ok]
  rfl
 ·cases h

theorem ZW {t:TypeId} {n:Nat} (h:Xw P t=some n):(sizeOf t).run P w=.ok n w:=by
 unfold Xw at h
 cases hi:P.info? t with
 |none=>simp[hi]at h
 |some i=>simp[hi]at h;simp[sizeOf,typeInfo,hi,h]

theorem ZAw {t:TypeId} {n:Nat} (h:UT P t=some (some n)):ZMU P t=some true∧Xw P t=some n:=by
 unfold UT at h
 split at h<;>first|(cases h;exact⟨by assumption,by assumption⟩)|cases h
theorem ZAx {t:TypeId} (h:UT P t=some none):ZMU P t=some false:=by
 unfold UT at h
 split at h<;>first|(cases h;assumption)|cases h

theorem ZJ6 {cs:List AV} {vs:List Value} (h:QL w F L cs vs) (j n:Nat):QL w F L ((cs.drop j).take n) ((vs.drop j).take n):=by
 refine⟨by simp[h.1],fun i a v ha hv=>?_⟩
 rw[List.getElem?_take]at ha hv
 split at ha
 ·rename_i hi
  simp only[hi,if_true]at hv
  rw[List.getElem?_drop]at ha hv
  exact h.2 _ a v ha hv
 ·cases ha

theorem QL.get {cs:List AV} {vs:List Value} (h:QL w F L cs vs) {j:Nat} {a:AV} (ha:cs[j]? = some a):∃v,vs[j]? = some v∧RepA w F L a v:=by
 have hj:j<vs.length:=by rw[←h.1];exact (List.getElem?_eq_some_iff.1 ha).1
 exact⟨vs[j],List.getElem?_eq_getElem hj,h.2 j a _ ha (List.getElem?_eq_getElem hj)⟩

theorem QL.append {cs ds:List AV} {vs us:List Value} (h:QL w F L cs vs) (k:QL w F L ds us):QL w F L (cs++ds) (vs++us):=by
 refine⟨by simp[h.1,k.1],fun i a v ha hv=>?_⟩
 by_cases hi:i<cs.length
 ·rw[List.getElem?_append_left hi]at ha
  rw[List.getElem?_append_left (by rw[←h.1];exact hi)]at hv
  exact h.2 i a v ha hv
 ·rw[List.getElem?_append_right oM]at ha
  rw[List.getElem?_append_right (by have:=h.1;omega),←h.1]at hv
  exact k.2 _ a v ha hv

theorem ZHI {cs:List AV} {vs:Array Value} (h:QL w F L cs vs.toList) {t:TypeId} {n:Option Nat} (ht:UT P t=some n) {off:Nat} {x:AV} (hx:rd cs off n=some x) :
  ∃v,(part t vs off).run P w=.ok v w∧RepA w F L x v:=by
 cases n with
 |none =>
   simp only[rd]at hx
   obtain⟨v,hv,hr⟩:=h.get hx
   refine⟨v,?_,hr⟩
   have:vs[off]? = some v:=by simpa using hv
   simp[part,Xx (ZAx ht),this]
 |some n =>
   simp only[rd]at hx
   split at hx
   ·rename_i hle
    cases hx
    obtain⟨h1,h2⟩:=ZAw ht
    refine⟨.agg (vs.extract off (off+n)),?_,?_⟩
    ·simp[part,Xx h1,ZW h2]
    ·refine QL.agg ?_
     have:=ZJ6 h off n
     simpa [List.take_drop,Nat.add_comm] using this
   ·cases hx

theorem ZBG {t:TypeId} {n:Option Nat} (ht:UT P t=some n) {b o:Nat} {vals:List AV} (hc:∀(i:Nat) (x:AV),vals[i]? = some x→∃v,w.cell? ⟨b,o+i,none⟩=some v∧RepA w F L x v) {x:AV}
  (hx:(match n with|none=>vals[0]?|some n=>if n≤vals.length then some (.agg (vals.take n)) else none)=some x) :
  ∃v,(loadVar t ⟨b,o,none⟩).run P w=.ok v w∧RepA w F L x v:=by
 cases n with
 |none =>
   obtain⟨v,hv,hr⟩:=hc 0 x hx
   exact⟨v,by simp[loadVar,Xx (ZAx ht),show w.cell? ⟨b,o,none⟩=some v from hv],hr⟩
 |some n =>
   simp only at hx
   split at hx
   ·rename_i hle
    cases hx
    obtain⟨h1,h2⟩:=ZAw ht
    have hlen:∀m,m≤vals.length→∃vs:List Value,vs.length=m∧(∀j v,vs[j]? = some v→w.cell? ⟨b,o+j,none⟩=some v)∧QL w F L (vals.take m) vs:=by
     intro m
     induction m with
     |zero=>intro _;exact⟨[],rfl,by simp,by simpa using QL.nil⟩
     |succ m ih =>
       intro hm
       obtain⟨vs,e1,e2,e3⟩:=ih oM
       obtain⟨v,hv,hr⟩:=hc m vals[m] (List.getElem?_eq_getElem oM)
       refine⟨vs++[v],by simp[e1],?_,?_⟩
       ·intro j u hu
        by_cases hj:j<vs.length
        ·rw[List.getElem?_append_left hj]at hu;exact e2 j u hu
        ·have hj2:j=vs.length:=by
          have:=(List.getElem?_eq_some_iff.1 hu).1
          simp at this;omega
         subst hj2
         simp at hu
         subst hu
         rw[e1];exact hv
       ·rw[List.take_succ_eq_append_getElem oM]
        exact e3.append (QL.cons hr QL.nil)
    obtain⟨vs,e1,e2,e3⟩:=hlen n hle
    have hl:=run_loadCells_list (P:=P) w ⟨b,o,none⟩ vs (fun j v hv=>by rw[Addr.add_lit];exact e2 j v hv)
    rw[e1]at hl
    refine⟨.agg vs.toArray,?_,QL.agg (by simpa using e3)⟩
    simp[loadVar,Xx h1,ZW h2,hl]
   ·cases hx
end
end Go.Proofs.YtoccdlnoaindmaaGreatDoor
namespace Go.Proofs.YtoccdlnoaindmaaGreatDoor
set_option linter.unusedVariables false

section
variable {P:Program} {w:World} {F:Nat→Prop} {L:LMap} {o:Oper} {a:Act} {e:List AV} {b l b' l':List Row} {x:AV}

theorem ZAz {t:Bool} {v:Value} (h:RepA w F L (.v (.bool t)) v):v=.bool t:=by cases h.vI;rfl
theorem UW {k:IntKind} {n:Int} {v:Value} (h:RepA w F L (.v (.int k n)) v):v=.int k n:=by cases h.vI;rfl
theorem ZDT {s:ByteArray} {v:Value} (h:RepA w F L (.v (.str s)) v):v=.string s:=by cases h.vI;rfl
theorem ZG7 (t:Bool):RepA w F L (.v (.bool t)) (.bool t):=.v _ _ (.bool t)
theorem toN (k:IntKind) (n:Int):RepA w F L (.v (.int k n)) (.int k n):=.v _ _ (.int k n)
theorem toS (s:ByteArray):RepA w F L (.v (.str s)) (.string s):=.v _ _ (.str s)

theorem XN {y:Option AV} (h:Vi y b l=.val x b' l'):y=some x∧b'=b∧l'=l:=by
 cases y with
 |none=>cases h
 |some y=>cases h;exact⟨rfl,rfl,rfl⟩

theorem ZMt (s:Sim F L (b++l) w) (he:XH w F L e a) {y:Operand} {z:Opd} (ho:o.op=.move y∨o.op=.assign y) (hy:QK y=some z) :
  Q3 P o a w F L b l (ev e z) b l:=by
 refine Q3.pure s (v:=a.eval y) ?_ (ZX he hy)
 rcases ho with ho|ho<;>simp[execOp,ho]

theorem ZJc (s:Sim F L (b++l) w) (he:XH w F L e a) {y:Operand} {z:Opd} (ho:o.op=.nilCheck y) (hy:QK y=some z)
  (h:aop e b l (.nilck z)=.val x b' l'):Q3 P o a w F L b l x b' l':=by
 have hr:=ZX he hy
 simp only[aop]at h
 generalize ev e z=q at *
 split at h
 ·cases h
  obtain⟨u,hu⟩:∃u,a.eval y=.pointer (some u):=by
   generalize a.eval y=q at hr
   cases hr.vI;exact⟨_,rfl⟩
  exact Q3.pure s (v:=a.eval y) (by simp[execOp,ho,hu]) hr
 ·cases h
  obtain⟨u,hu⟩:∃u,a.eval y=.pointer (some u):=by
   generalize a.eval y=q at hr
   cases hr;exact⟨_,rfl⟩
  exact Q3.pure s (v:=a.eval y) (by simp[execOp,ho,hu]) hr
 ·cases h
  obtain⟨vs,hu,_⟩:=hr.fnL
  exact Q3.pure s (v:=a.eval y) (by simp[execOp,ho,hu]) hr
 ·cases h

theorem ZL6 (s:Sim F L (b++l) w) (he:XH w F L e a) {c y z:Operand} {c' y' z':Opd} (ho:o.op=.pick c y z) (hc:QK c=some c') (hy:QK y=some y') (hz:QK z=some z')
  (h:aop e b l (.pick c' y' z')=.val x b' l'):Q3 P o a w F L b l x b' l':=by
 have h1:=ZX he hc
 have h2:=ZX he hy
 have h3:=ZX he hz
 simp only[aop]at h
 replace h:=XN h
 obtain⟨h,rfl,rfl⟩:=h
 generalize ev e c'=p at *
 generalize ev e y'=q at *
 generalize ev e z'=r at *
 unfold Y3 at h
 split at h
 ·rename_i t t1 t2
  cases h
  have e1:=ZAz h1
  have e2:=ZAz h2
  have e3:=ZAz h3
  refine Q3.pure s (v:=.bool (if t then t1 else t2)) ?_ (ZG7 _)
  cases t<;>simp[execOp,ho,e1,e2,e3,asBool]
 ·rename_i t hno
  cases h
  have e1:=ZAz h1
  cases t
  ·exact Q3.pure s (v:=a.eval z) (by simp[execOp,ho,e1,asBool]) h3
  ·exact Q3.pure s (v:=a.eval y) (by simp[execOp,ho,e1,asBool]) h2
 ·cases h

theorem VG {op:BinOp} {t:TypeId} {y z:Operand} {k k':IntKind} {m n:Int}:(eqGuard op t y z (.int k m) (.int k' n)).run P w=.ok () w:=by
 cases op<;>simp[eqGuard]
theorem Jv {op:BinOp} {t:TypeId} {y z:Operand} {m n:Bool}:(eqGuard op t y z (.bool m) (.bool n)).run P w=.ok () w:=by
 cases op<;>simp[eqGuard]
theorem ZAA {op:BinOp} {t:TypeId} {y z:Operand} {m n:ByteArray}:(eqGuard op t y z (.string m) (.string n)).run P w=.ok () w:=by
 cases op<;>simp[eqGuard]

theorem ZMy (s:Sim F L (b++l) w) (he:XH w F L e a) {op:BinOp} {t u:TypeId} {y z:Operand} {y' z':Opd} (ho:o.op=.binOp op t y z u) (hy:QK y=some y') (hz:QK z=some z')
  (h:aop e b l (.bin op y' z')=.val x b' l'):Q3 P o a w F L b l x b' l':=by
 have h2:=ZX he hy
 have h3:=ZX he hz
 simp only[aop]at h
 replace h:=XN h
 obtain⟨h,rfl,rfl⟩:=h
 generalize ev e y'=q at *
 generalize ev e z'=r at *
 unfold Ug at h
 split at h
 case h_2=>cases h
 rename_i k m k' n
 have e2:=UW h2
 have e3:=UW h3
 cases hsh:UL op
 ·simp only[hsh,Bool.false_eq_true,if_false]at h
  by_cases hk:k=k'
  ·subst hk
   simp only[if_true]at h
   have key:∀iv,YO op k m n=some iv→∃v,(binOp op t (.int k m) (.int k n)).run P w=.ok v w∧RepI w F iv v:=by
    intro iv hiv
    cases op<;>simp only[YO,UL]at hiv hsh<;>first|(cases hsh;done)|skip
    all_goals first
     |(cases hiv;refine⟨_,by simp[binOp,Op.intArith,Op.intBits,Op.intCmp];rfl,?_⟩;constructor)
     |(cases hiv;refine⟨_,by simp only[binOp,ne_eq,not_true_eq_false,if_false,Op.intBits];rfl,?_⟩;constructor)
     | (split at hiv
        ·cases hiv
        ·rename_i hn
         cases hiv
         refine⟨_,by simp[binOp,Op.intDiv,hn];rfl,?_⟩
         constructor)
   cases hi:YO op k m n with
   |none=>simp[hi]at h
   |some iv =>
     simp[hi]at h
     subst h
     obtain⟨v,hv,hr⟩:=key iv hi
     refine Q3.pure s (v:=v) ?_ (.v _ _ hr)
     simp[execOp,ho,e2,e3,VG,hv]
  ·simp[hk]at h
 ·simp only[hsh,if_true]at h
  cases hi:UK op k m n with
  |none=>simp[hi]at h
  |some iv =>
    simp[hi]at h
    subst h
    unfold UK at hi
    split at hi
    ·cases hi
    ·rename_i hn
     cases op<;>simp only[UL]at hsh<;>first|(cases hsh;done)|skip
     all_goals
      cases hi
      refine Q3.pure s (v:=.int k _) ?_ (toN _ _)
      simp[execOp,ho,e2,e3,VG,binOp,Op.shift,hn]

theorem Vn {t:TypeId} (ht:P.underlying t=some .bool) (m n:Bool):(Op.equal t (.bool m) (.bool n)).run P w=.ok (m==n) w:=run_equalIn_bool w 9999 t m n ht

theorem ZLj (s:Sim F L (b++l) w) (he:XH w F L e a) {op:BinOp} {t u:TypeId} (ht:P.underlying t=some .bool) {y z:Operand} {y' z':Opd} (ho:o.op=.binOp op t y z u) (hy:QK y=some y') (hz:QK z=some z')
  (h:aop e b l (.binB op y' z')=.val x b' l'):Q3 P o a w F L b l x b' l':=by
 have h2:=ZX he hy
 have h3:=ZX he hz
 simp only[aop]at h
 replace h:=XN h
 obtain⟨h,rfl,rfl⟩:=h
 generalize ev e y'=q at *
 generalize ev e z'=r at *
 unfold Y2 at h
 split at h
 case h_2=>cases h
 rename_i m n
 have e2:=ZAz h2
 have e3:=ZAz h3
 cases op<;>simp[XJ]at h<;>subst h
 ·exact Q3.pure s (v:=.bool (m==n)) (by simp[execOp,ho,e2,e3,Jv,binOp,Vn ht]) (ZG7 _)
 ·exact Q3.pure s (v:=.bool (!(m==n))) (by simp[execOp,ho,e2,e3,Jv,binOp,Vn ht]) (ZG7 _)

theorem ZLi (s:Sim F L (b++l) w) (he:XH w F L e a) {op:BinOp} {t u:TypeId} {y z:Operand} {y' z':Opd} (ho:o.op=.binOp op t y z u) (hy:QK y=some y') (hz:QK z=some z')
  (h:aop e b l (.binS op y' z')=.val x b' l'):Q3 P o a w F L b l x b' l':=by
 have h2:=ZX he hy
 have h3:=ZX he hz
 simp only[aop]at h
 replace h:=XN h
 obtain⟨h,rfl,rfl⟩:=h
 generalize ev e y'=q at *
 generalize ev e z'=r at *
 unfold Y1 at h
 split at h
 case h_2=>cases h
 rename_i m n
 have e2:=ZDT h2
 have e3:=ZDT h3
 have key:∀iv,YM op m n=some iv→∃v,(binOp op t (.string m) (.string n)).run P w=.ok v w∧RepI w F iv v:=by
  intro iv hiv
  cases op<;>simp only[YM]at hiv<;>first|(cases hiv;done)|skip
  ·split at hiv
   ·rename_i hle
    cases hiv
    exact⟨_,run_string_add_sum w m n hle,.str _⟩
   ·cases hiv
  all_goals (cases hiv;refine⟨_,?_,.bool _⟩;simp[binOp,Op.stringOp,beq_toListBytes])
 cases hi:YM op m n with
 |none=>simp[hi]at h
 |some iv =>
   simp[hi]at h
   subst h
   obtain⟨v,hv,hr⟩:=key iv hi
   exact Q3.pure s (v:=v) (by simp[execOp,ho,e2,e3,ZAA,hv]) (.v _ _ hr)

theorem ZMr (s:Sim F L (b++l) w) (he:XH w F L e a) {t:TypeId} {y:Operand} {z:Opd} (ho:o.op=.unOp .not t y) (hy:QK y=some z)
  (h:aop e b l (.not z)=.val x b' l'):Q3 P o a w F L b l x b' l':=by
 have hr:=ZX he hy
 simp only[aop]at h
 generalize ev e z=q at *
 split at h<;>cases h
 have e1:=ZAz hr
 exact Q3.pure s (v:=.bool _) (by simp[execOp,ho,e1,Op.unary]) (ZG7 _)

theorem ZMs (s:Sim F L (b++l) w) (he:XH w F L e a) {t:TypeId} {y:Operand} {z:Opd} (ho:o.op=.unOp .neg t y) (hy:QK y=some z)
  (h:aop e b l (.neg z)=.val x b' l'):Q3 P o a w F L b l x b' l':=by
 have hr:=ZX he hy
 simp only[aop]at h
 generalize ev e z=q at *
 split at h<;>cases h
 have e1:=UW hr
 exact Q3.pure s (v:=.int _ _) (by simp[execOp,ho,e1,Op.unary,Op.intArith]) (toN _ _)

theorem ZLf (s:Sim F L (b++l) w) (he:XH w F L e a) {t u:TypeId} {k k':IntKind} (ht:P.underlying t=some (.int k')) (hu:P.underlying u=some (.int k)) {y:Operand} {z:Opd} (ho:o.op=.convert t u y) (hy:QK y=some z)
  (h:aop e b l (.conv k z)=.val x b' l'):Q3 P o a w F L b l x b' l':=by
 have hr:=ZX he hy
 simp only[aop]at h
 generalize ev e z=q at *
 split at h<;>cases h
 have e1:=UW hr
 exact Q3.pure s (v:=.int _ _) (by simp[execOp,ho,e1,convert,run_underlying ht,run_underlying hu,Conv.intToInt]) (toN _ _)

theorem ZJg (s:Sim F L (b++l) w) (he:XH w F L e a) {t:TypeId} {i:Nat} {fs:Array Field} {f:Field} (ht:P.underlying t=some (.struct fs)) (hf:fs[i]? = some f) {n:Option Nat} (hn:UT P f.type=some n)
  {y:Operand} {z:Opd} (ho:o.op=.field t y i) (hy:QK y=some z)
  (h:aop e b l (.field f.offset n z)=.val x b' l'):Q3 P o a w F L b l x b' l':=by
 have hr:=ZX he hy
 simp only[aop]at h
 generalize ev e z=q at *
 split at h
 case h_2=>cases h
 replace h:=XN h
 obtain⟨h,rfl,rfl⟩:=h
 obtain⟨vs,hv,hl⟩:=hr.aggL
 obtain⟨v,h1,h2⟩:=ZHI (P:=P) hl hn h
 exact Q3.pure s (v:=v) (by simp[execOp,ho,hv,Instr.field,run_underlying ht,hf,asAgg,h1]) h2

theorem ZFO (s:Sim F L (b++l) w) (he:XH w F L e a) {i:Nat} {y:Operand} {z:Opd} (ho:o.op=.extract y i) (hy:QK y=some z)
  (h:aop e b l (.extract i z)=.val x b' l'):Q3 P o a w F L b l x b' l':=by
 have hr:=ZX he hy
 simp only[aop]at h
 generalize ev e z=q at *
 split at h
 case h_2=>cases h
 replace h:=XN h
 obtain⟨h,rfl,rfl⟩:=h
 obtain⟨vs,hv,hl⟩:=hr.tupL
 obtain⟨v,h1,h2⟩:=hl.get h
 have h1':vs[i]? = some v:=by simpa using h1
 exact Q3.pure s (v:=v) (by simp[execOp,ho,hv,Instr.extract,h1']) h2

theorem ZL7 (s:Sim F L (b++l) w) (he:XH w F L e a) {f:FuncId} {first caps:Array Operand} {cs:List Opd} (h0:first.size=0) (ho:o.op=.makeFunc (.func f) first caps) (hc:ZCh caps.toList=some cs)
  : Q3 P o a w F L b l (.fn f (evs e cs)) b l:=by
 have hr:=ZDf he hc
 have:first=#[]:=Array.eq_empty_of_size_eq_zero h0
 subst this
 exact Q3.pure s (v:=.func (.func f) #[] (caps.map a.eval)) (by simp[execOp,ho,Instr.makeFunc]) (QL.fn (by simpa using hr))

theorem ZHT (s:Sim F L (b++l) w) (he:XH w F L e a) {t:TypeId} (ht:P.underlying t=some .string) {y i:Operand} {y' i':Opd} (ho:o.op=.index t y i) (hy:QK y=some y') (hi:QK i=some i')
  (h:aop e b l (.indexS y' i')=.val x b' l'):Q3 P o a w F L b l x b' l':=by
 have h1:=ZX he hy
 have h2:=ZX he hi
 simp only[aop]at h
 generalize ev e y'=q at *
 generalize ev e i'=r at *
 split at h
 case h_2=>cases h
 rename_i str k n
 split at h
 case isFalse=>cases h
 rename_i hb
 cases h
 have e1:=ZDT h1
 have e2:=UW h2
 exact Q3.pure s (v:=.int .u8 (str[n.toNat]'hb.2).toNat) (by simp[execOp,ho,e1,e2,Instr.index,asIntOf,run_underlying ht,hb.1,hb.2]) (toN _ _)

theorem ZHU (s:Sim F L (b++l) w) (he:XH w F L e a) {t el:TypeId} {len sz:Nat} {n:Option Nat} (ht:P.underlying t=some (.array len el)) (hz:Xw P el=some sz) (hn:UT P el=some n)
  {y i:Operand} {y' i':Opd} (ho:o.op=.index t y i) (hy:QK y=some y') (hi:QK i=some i')
  (h:aop e b l (.indexA len sz n y' i')=.val x b' l'):Q3 P o a w F L b l x b' l':=by
 have h1:=ZX he hy
 have h2:=ZX he hi
 simp only[aop]at h
 generalize ev e y'=q at *
 generalize ev e i'=r at *
 split at h
 case h_2=>cases h
 rename_i cs k m
 split at h
 case isFalse=>cases h
 rename_i hb
 replace h:=XN h
 obtain⟨h,rfl,rfl⟩:=h
 obtain⟨vs,hv,hl⟩:=h1.aggL
 have e2:=UW h2
 obtain⟨v,h3,h4⟩:=ZHI (P:=P) hl hn h
 exact Q3.pure s (v:=v) (by simp[execOp,ho,hv,e2,Instr.index,asIntOf,run_underlying ht,hb.1,hb.2,ZW hz,h3]) h4

theorem ZMu (s:Sim F L (b++l) w) (he:XH w F L e a) {t:Bool} {c:Call} (hc:c.callee=.builtin (if t then .max else .min)) {y z:Operand} {y' z':Opd} (ha:c.args.toList=[y,z]) (ho:o.op=.call c) (hy:QK y=some y') (hz:QK z=some z')
  (h:aop e b l (.mm t y' z')=.val x b' l'):Q3 P o a w F L b l x b' l':=by
 have h1:=ZX he hy
 have h2:=ZX he hz
 simp only[aop]at h
 replace h:=XN h
 obtain⟨h,rfl,rfl⟩:=h
 generalize ev e y'=q at *
 generalize ev e z'=r at *
 unfold amm at h
 split at h
 case h_2=>cases h
 rename_i k m k' n
 cases h
 have e1:=UW h1
 have e2:=UW h2
 have ha':c.args=#[y,z]:=by rw[←Array.toArray_toList (xs:=c.args),ha]
 cases t
 ·exact Q3.pure s (v:=.int k _) (by simp[execOp,ho,resolve,hc,ha',invoke,builtin,e1,e2,Builtin.min_,Builtin.min2]) (toN _ _)
 ·exact Q3.pure s (v:=.int k _) (by simp[execOp,ho,resolve,hc,ha',invoke,builtin,e1,e2,Builtin.max_,Builtin.max2]) (toN _ _)
end
end Go.Proofs.YtoccdlnoaindmaaGreatDoor
namespace Go.Proofs.YtoccdlnoaindmaaGreatDoor
set_option linter.unusedVariables false

theorem J5 {α:Type} (xs ys:List α) (p i:Nat) (h:p+ys.length≤xs.length) :
  (xs.take p++ys++xs.drop (p+ys.length))[i]? = if p≤i∧i<p+ys.length then ys[i-p]? else xs[i]?:=by
 have h1:(xs.take p).length=p:=by simp;omega
 by_cases hi:i<p
 ·rw[List.append_assoc,List.getElem?_append_left oM,List.getElem?_take,if_pos hi,if_neg oM]
 ·by_cases hj:i<p+ys.length
  ·rw[List.append_assoc,List.getElem?_append_right oM,h1,List.getElem?_append_left oM,if_pos oM]
  ·rw[List.getElem?_append_right (by simp;omega),if_neg oM,List.getElem?_drop]
   congr 1
   simp;omega

theorem Kv (cs:List AV):∀(row:List AV) (j:Nat),(ZC row j cs).length=row.length:=by
 induction cs with
 |nil=>intro row j;rfl
 |cons c cs ih=>intro row j;simp[ZC,ih]
theorem Kw (cs:List AV):∀(row:List AV) (j i:Nat),j+cs.length≤row.length→(ZC row j cs)[i]? = if j≤i∧i<j+cs.length then cs[i-j]? else row[i]?:=by
 induction cs with
 |nil=>intro row j i _;simp only[ZC,List.length_nil];rw[if_neg oM]
 |cons c cs ih =>
   intro row j i h
   simp only[List.length_cons]at h
   simp only[ZC]
   rw[ih _ _ _ (by simp;omega)]
   by_cases h1:i=j
   ·subst h1
    rw[if_neg oM,if_pos (by simp),List.getElem?_set_self oM]
    simp
   ·by_cases h2:j+1≤i∧i<j+1+cs.length
    ·rw[if_pos h2,if_pos (by simp;omega),show i-j=(i-(j+1))+1 by omega]
     simp
    ·rw[if_neg h2,if_neg (by simp;omega),List.getElem?_set_ne oM]

theorem ZIV {sz k k' j j' n:Nat} (hk:k≠k') (hj:j'<sz) (hn:j+n≤sz):¬(k*sz+j≤k'*sz+j'∧k'*sz+j'<k*sz+j+n):=by
 rintro⟨h1,h2⟩
 rcases Nat.lt_or_gt_of_ne hk with h|h
 ·have:=Nat.mul_le_mul_right sz (show k+1≤k' by omega)
  rw[Nat.add_mul]at this
  omega
 ·have:=Nat.mul_le_mul_right sz (show k'+1≤k by omega)
  rw[Nat.add_mul]at this
  omega
theorem JR {sz k j n cap:Nat} (hk:k<cap) (hn:j+n≤sz):k*sz+j+n≤cap*sz:=by
 have:=Nat.mul_le_mul_right sz (show k+1≤cap by omega)
 rw[Nat.add_mul]at this
 omega

section
variable {P:Program} {w:World} {F:Nat→Prop} {L:LMap} {o:Oper} {a:Act} {e:List AV} {b l b' l':List Row} {x:AV}

theorem UJ {x:AV} {v:Value} {cs:List AV} (h:RepA w F L x v) (hc:cellsOf x=some cs) (ha:cs.all AV.cell=true) :
  QL w F L cs v.cells.toList∧∀u∈v.cells.toList,u.oneCell'=true:=by
 cases x with
 |any=>cases hc
 |tup cs=>cases hc
 |agg ds =>
   cases hc
   obtain⟨vs,rfl,hl⟩:=h.aggL
   refine⟨hl,fun u hu=>?_⟩
   obtain⟨i,hi⟩:=List.mem_iff_getElem?.1 hu
   simp only[Value.cells]at hi
   have hi2:i<cs.length:=by rw[hl.1];exact (List.getElem?_eq_some_iff.1 hi).1
   exact (hl.2 i cs[i] u (List.getElem?_eq_getElem hi2) hi).one (by simpa using List.all_eq_true.1 ha cs[i] (List.getElem_mem hi2))
 |_ =>
   cases hc
   have h1:=h.one rfl
   rw[ZCg h1]
   exact⟨by simpa using QL.cons h QL.nil,by simpa using h1⟩

theorem ZJh (s:Sim F L (b++l) w) (he:XH w F L e a) {t:TypeId} {i n:Nat} {fs:Array Field} {f:Field} (ht:P.underlying t=some (.struct fs)) (hf:fs[i]? = some f) (hn:Xw P f.type=some n) (h0:0<n)
  {y:Operand} {z:Opd} (ho:o.op=.fieldAddr t y i) (hy:QK y=some z)
  (h:aop e b l (.faddr f.offset z)=.val x b' l'):Q3 P o a w F L b l x b' l':=by
 have hr:=ZX he hy
 simp only[aop]at h
 generalize ev e z=q at *
 have key:∀blk p,a.eval y=.pointer (some ⟨blk,p,none⟩)→(execOp a.eval o).run P w=.ok (.value (.pointer (some ⟨blk,p+f.offset,none⟩))) w:=by
  intro blk p hp
  simp[execOp,ho,hp,Instr.fieldAt,run_underlying ht,hf,Instr.sureAddr,fieldPlace,ZW hn,show n≠0 by omega,Addr.add_lit]
 unfold XD at h
 split at h
 ·rename_i row j
  cases h
  generalize hp:a.eval y=u at *
  cases hr.vI with
  |iptr _ _ b1 off val h1 h2 h3 =>
    exact Q3.pure s (key _ _ rfl) (.v _ _ (by rw[Nat.add_assoc];exact .iptr row _ b1 off val h1 h2 h3))
 ·rename_i id ver k j
  cases h
  generalize hp:a.eval y=u at *
  cases hr with
  |ptr _ _ _ _ b1 o1 sz cap hL =>
    exact Q3.pure s (key _ _ rfl) (by rw[Nat.add_assoc];exact .ptr id ver k _ b1 o1 sz cap hL)
 ·cases h

theorem ZJf (s:Sim F L (b++l) w) (he:XH w F L e a) {t el:TypeId} {sz:Nat} (ht:P.underlying t=some (.slice el)) (hz:Xw P el=some sz)
  {y i:Operand} {y' i':Opd} (ho:o.op=.indexAddr t y i) (hy:QK y=some y') (hi:QK i=some i')
  (h:aop e b l (.iaddr sz y' i')=.val x b' l'):Q3 P o a w F L b l x b' l':=by
 have h1:=ZX he hy
 have h2:=ZX he hi
 simp only[aop]at h
 generalize ev e y'=q at *
 generalize ev e i'=r at *
 have key:∀(blk p len cap:Nat) (k:IntKind) (n:Int),a.eval y=.slice (some ⟨blk,p,none⟩) len cap→a.eval i=.int k n→0≤n→n<(len:Int)→(execOp a.eval o).run P w=.ok (.value (.pointer (some ⟨blk,p+n.toNat*sz,none⟩))) w:=by
  intro blk p len cap k n e1 e2 h0 hn
  simp[execOp,ho,e1,e2,Instr.indexAt,asIntOf,run_underlying ht,ZW hz,h0,hn,Addr.add_lit]
 unfold XC at h
 split at h
 ·rename_i s0 rows k n
  split at h
  case isFalse=>cases h
  rename_i hb
  obtain⟨rfl,h0⟩:=hb
  split at h
  case h_2=>cases h
  rename_i row hrow
  cases h
  have e2:=UW h2
  have hlt:n.toNat<rows.length:=(List.getElem?_eq_some_iff.1 hrow).1
  generalize hp:a.eval y=u at *
  cases h1.vI with
  |isl0=>simp at hrow
  |isl _ b1 off _ c val g1 g2 g3 g4 g5 g6 =>
    refine Q3.pure s (key _ _ _ _ _ _ rfl e2 h0 oM) (.v _ _ ?_)
    have:=RepI.iptr (w:=w) (F:=F) row 0 b1 (off+n.toNat*s0) (val n.toNat) g1 (fun j a hj=>g5 _ row j a hrow hj) (fun j a hj=>g6 _ row j a hrow hj)
    simpa using this
 ·rename_i id ver off len k n
  split at h
  case h_2=>cases h
  rename_i v s0 els hg
  split at h
  case isFalse=>cases h
  rename_i hb
  obtain⟨rfl,rfl,h0,hn⟩:=hb
  cases h
  rw[Qq]at hg
  have e2:=UW h2
  generalize hp:a.eval y=u at *
  cases h1 with
  |sl _ _ _ _ b1 o1 sz1 cap1 g1 g2 g3 =>
    obtain⟨lc,k1,k2⟩:=s.row _ _ _ _ hg
    rw[g1]at k1;cases k1
    obtain⟨rfl,_⟩:=k2
    refine Q3.pure s (key _ _ _ _ _ _ rfl e2 h0 hn) ?_
    have:=RepA.ptr (w:=w) (F:=F) id v (off+n.toNat) 0 b1 o1 sz1 cap1 g1
    rw[Nat.add_mul]at this
    simpa [Nat.add_assoc] using this
  |slz=>simp at hn;omega
  |sln=>simp at hn;omega
 ·cases h

theorem ZHV (s:Sim F L (b++l) w) (he:XH w F L e a) {t el:TypeId} {len sz:Nat} (ht:P.underlying t=some (.array len el)) (hz:Xw P el=some sz)
  {y i:Operand} {y' i':Opd} (ho:o.op=.indexAddr t y i) (hy:QK y=some y') (hi:QK i=some i')
  (h:aop e b l (.iaddrA len sz y' i')=.val x b' l'):Q3 P o a w F L b l x b' l':=by
 have h1:=ZX he hy
 have h2:=ZX he hi
 simp only[aop]at h
 generalize ev e y'=q at *
 generalize ev e i'=r at *
 have key:∀(blk p:Nat) (k:IntKind) (n:Int),a.eval y=.pointer (some ⟨blk,p,none⟩)→a.eval i=.int k n→0≤n→n<(len:Int)→(execOp a.eval o).run P w=.ok (.value (.pointer (some ⟨blk,p+n.toNat*sz,none⟩))) w:=by
  intro blk p k n e1 e2 h0 hn
  simp[execOp,ho,e1,e2,Instr.indexAt,asIntOf,run_underlying ht,ZW hz,h0,hn,Addr.add_lit,Instr.sureAddr]
 unfold QU at h
 split at h
 ·rename_i row j k n
  split at h
  case isFalse=>cases h
  rename_i hb
  cases h
  have e2:=UW h2
  generalize hp:a.eval y=u at *
  cases h1.vI with
  |iptr _ _ b1 off val g1 g2 g3 =>
    exact Q3.pure s (key _ _ _ _ rfl e2 hb.1 hb.2) (.v _ _ (by rw[Nat.add_assoc];exact .iptr row _ b1 off val g1 g2 g3))
 ·rename_i id ver k j kk n
  split at h
  case isFalse=>cases h
  rename_i hb
  cases h
  have e2:=UW h2
  generalize hp:a.eval y=u at *
  cases h1 with
  |ptr _ _ _ _ b1 o1 sz1 cap hL =>
    exact Q3.pure s (key _ _ _ _ rfl e2 hb.1 hb.2) (by rw[Nat.add_assoc];exact .ptr id ver k _ b1 o1 sz1 cap hL)
 ·cases h

theorem ZEo (s:Sim F L (b++l) w) {t:TypeId} {n:Option Nat} (hn:UT P t=some n) {q:AV} {v:Value} (hr:RepA w F L q v)
  (h:YC b l n q=.val x b' l'):∃blk p u,v=.pointer (some ⟨blk,p,none⟩)∧(loadVar t ⟨blk,p,none⟩).run P w=.ok u w∧RepA w F L x u∧b'=b∧l'=l:=by
 unfold YC at h
 split at h
 ·rename_i row j
  replace h:=XN h
  obtain⟨h,rfl,rfl⟩:=h
  cases hr.vI with
  |iptr _ _ b1 off val g1 g2 g3 =>
    have:=ZBG (P:=P) (w:=w) (F:=F) (L:=L) hn (b:=b1) (o:=off+j) (vals:=(row.drop j).map .v) (x:=x) (by
     intro i y hy
     rw[List.getElem?_map]at hy
     cases hq:(row.drop j)[i]? with
     |none=>simp[hq]at hy
     |some z =>
       simp[hq]at hy
       subst hy
       rw[List.getElem?_drop]at hq
       exact⟨_,by rw[Nat.add_assoc];exact g2 _ _ hq,.v _ _ (g3 _ _ hq)⟩) (by
     cases n with
     |none=>simp only[rdI]at h;simpa using h
     |some n =>
       simp only[rdI]at h
       split at h
       ·rename_i hle
        cases h
        simp only
        rw[if_pos (by simp;omega),List.map_take]
       ·cases h)
    obtain⟨u,h1,h2⟩:=this
    exact⟨b1,off+j,u,rfl,h1,h2,rfl,rfl⟩
 ·rename_i id ver k j
  split at h
  case h_2=>cases h
  rename_i v0 s0 els hg
  split at h
  case isFalse=>cases h
  rename_i hv
  subst hv
  split at h
  case h_2=>cases h
  rename_i row hrow
  replace h:=XN h
  obtain⟨h,rfl,rfl⟩:=h
  rw[Qq]at hg
  cases hr with
  |ptr _ _ _ _ b1 o1 sz1 cap hL =>
    have:=ZBG (P:=P) (w:=w) (F:=F) (L:=L) hn (b:=b1) (o:=o1+k*sz1+j) (vals:=row.drop j) (x:=x) (by
     intro i y hy
     rw[List.getElem?_drop]at hy
     obtain⟨_,_,u,h1,h2⟩:=s.cell hg hL hrow hy
     exact⟨u,by rw[Nat.add_assoc];exact h1,h2⟩) (by
     cases n with
     |none=>simp only[rd]at h;simpa using h
     |some n =>
       simp only[rd]at h
       split at h
       ·rename_i hle
        cases h
        simp only
        rw[if_pos (by simp;omega)]
       ·cases h)
    obtain⟨u,h1,h2⟩:=this
    exact⟨b1,o1+k*sz1+j,u,rfl,h1,h2,rfl,rfl⟩
 ·cases h

theorem ZL8 (s:Sim F L (b++l) w) (he:XH w F L e a) {t:TypeId} {n:Option Nat} (hn:UT P t=some n) {y:Operand} {z:Opd} (ho:o.op=.load t y) (hy:QK y=some z)
  (h:aop e b l (.load n z)=.val x b' l'):Q3 P o a w F L b l x b' l':=by
 have hr:=ZX he hy
 simp only[aop]at h
 obtain⟨blk,p,u,h1,h2,h3,rfl,rfl⟩:=ZEo (P:=P) s hn hr h
 exact Q3.pure s (v:=u) (by simp[execOp,ho,h1,Instr.loadAt,Instr.sureAddr,h2]) h3

theorem ZJa (s:Sim F L (b++l) w) (he:XH w F L e a) {t:TypeId} {n:Nat} (hn:Xw P t=some n) {y z:Operand} {y' z':Opd} (ho:o.op=.store t y z) (hy:QK y=some y') (hz:QK z=some z')
  (h:aop e b l (.store n y' z')=.val x b' l'):Q3 P o a w F L b l x b' l':=by
 have h1:=ZX he hy
 have h2:=ZX he hz
 simp only[aop]at h
 generalize ev e y'=q at *
 generalize ev e z'=r at *
 unfold XG at h
 split at h
 case h_2=>cases h
 rename_i id ver k j cs hcs
 split at h
 case h_2=>cases h
 rename_i v0 s0 els hg
 split at h
 case isFalse=>cases h
 rename_i hb
 obtain⟨rfl,hlen,hall⟩:=hb
 split at h
 case h_2=>cases h
 rename_i row hrow
 split at h
 case isFalse=>cases h
 rename_i hfit
 cases h
 rw[Qq]at hg
 obtain⟨c1,c2⟩:=UJ h2 hcs hall
 generalize hvs:a.eval z=v at *
 generalize hp:a.eval y=u at *
 cases h1 with
 |ptr _ _ _ _ b1 o1 sz1 cap hL =>
   obtain⟨lc,k1,k2⟩:=s.row _ _ _ _ hg
   rw[hL]at k1;cases k1
   obtain⟨rfl,k3,k4,cur,T,k5,k6,k7,k8⟩:=k2
   have hk:k<els.length:=(List.getElem?_eq_some_iff.1 hrow).1
   have hrl:=k7 k row hrow
   have hvl:v.cells.toList.length=n:=by rw[←c1.1,hlen]
   have hvz:v.cells.size=n:=by simpa using hvl
   have hle:k*sz1+j+n≤cap*sz1:=JR oM oM
   have hst:=run_storeCells_at P b1 (o1+k*sz1+j) T v.cells.toList 0 cur w k5 oM c2
   have hrun:(execOp a.eval o).run P w=.ok .skip (w.setRow b1 (cur.toList.take (o1+k*sz1+j)++v.cells.toList++cur.toList.drop (o1+k*sz1+j+v.cells.toList.length)).toArray):=by
    simp only[Nat.add_zero]at hst
    have hsz:v.cells.size=n:=by simpa using hvl
    simp[execOp,ho,hp,hvs,Instr.storeAt,Instr.sureAddr,storeVar,ZW hn,hsz,hst]
   have hcurlen:(cur.toList.take (o1+k*sz1+j)++v.cells.toList++cur.toList.drop (o1+k*sz1+j+v.cells.toList.length)).toArray.size=cur.size:=by
    simp only[List.size_toArray,List.length_append,List.length_take,List.length_drop,Array.length_toList]
    omega
   have hget:∀i,(cur.toList.take (o1+k*sz1+j)++v.cells.toList++cur.toList.drop (o1+k*sz1+j+v.cells.toList.length)).toArray[i]? = if o1+k*sz1+j≤i∧i<o1+k*sz1+j+n then v.cells.toList[i-(o1+k*sz1+j)]? else cur[i]?:=by
    intro i
    have:=J5 cur.toList v.cells.toList (o1+k*sz1+j) i (by simp only[Array.length_toList];omega)
    rw[hvl]at this
    simp only[List.getElem?_toArray]
    rw[hvl,this]
    simp
   obtain⟨L',r1,r2,r3,r4⟩:=s.putRow (h':=(b++l).set id (.live v0 sz1 (els.set k (ZC row j cs)))) (w':=w.setRow b1 (cur.toList.take (o1+k*sz1+j)++v.cells.toList++cur.toList.drop (o1+k*sz1+j+v.cells.toList.length)).toArray)
    id v0 sz1 b1 o1 cap (els.set k (ZC row j cs)) rfl rfl rfl (by simp) (fun i _ hi=>setRow_other w b1 i _ hi) (.inr ⟨_,_,_,_,_,_,hg,hL⟩)
    (List.getElem?_set_self (List.getElem?_eq_some_iff.1 hg).1) (fun i hi=>List.getElem?_set_ne (Ne.symm hi)) (fun r hr=>by rw[hg]at hr;cases hr;exact⟨Nat.le_refl _,_,_,_,rfl⟩) (.inr hL)
    (by simpa using k3) k4 _ T (setRow_heap w b1 cur _ T _ k5) (by rw[hcurlen];exact k6)
    (fun k' row' hk'=>by
     by_cases hkk:k=k'
     ·subst hkk
      rw[List.getElem?_set_self hk]at hk';cases hk'
      rw[Kv];exact hrl
     ·rw[List.getElem?_set_ne hkk]at hk';exact k7 _ _ hk')
    (fun k' row' j' a' hk' hj'=>by
     by_cases hkk:k=k'
     ·subst hkk
      rw[List.getElem?_set_self hk]at hk';cases hk'
      rw[Kw cs row j j' oM]at hj'
      rw[hget]
      by_cases hin:j≤j'∧j'<j+cs.length
      ·rw[if_pos hin]at hj'
       rw[if_pos oM]
       obtain⟨u,hu,hru⟩:=c1.get hj'
       refine⟨?_,u,by rw[show o1+k*sz1+j'-(o1+k*sz1+j)=j'-j by omega];exact hu,hru⟩
       exact List.all_eq_true.1 hall _ (List.mem_of_getElem? hj')
      ·rw[if_neg hin]at hj'
       rw[if_neg oM]
       exact k8 k row j' a' hrow hj'
     ·rw[List.getElem?_set_ne hkk]at hk'
      have hj2:j'<sz1:=by rw[←k7 _ _ hk'];exact (List.getElem?_eq_some_iff.1 hj').1
      rw[hget,if_neg (by have:=ZIV (n:=n) (j:=j) hkk hj2 oM;omega)]
      exact k8 k' row' j' a' hk' hj')
   refine⟨undef,_,L',.inr ⟨hrun,rfl⟩,RepA.undef _ _ _,by rw[XX];exact r1,by rw[XX];exact r2,Xz _ _ _⟩
end
end Go.Proofs.YtoccdlnoaindmaaGreatDoor
namespace Go.Proofs.YtoccdlnoaindmaaGreatDoor
set_option linter.unusedVariables false

section
variable {P:Program} {w:World} {F:Nat→Prop} {L:LMap} {o:Oper} {a:Act} {e:List AV} {b l b' l':List Row} {x:AV}

theorem ZDR {t ty el:TypeId} (ht:P.underlying t=some (.slice el)) (ad:Option Addr) (n c:Nat):(Builtin.len_ #[t] ty #[.slice ad n c]).run P w=.ok (goInt n) w:=by
 simp[Builtin.len_,run_underlying ht]

theorem XF {c:Call} {bi:Builtin} {xs:List Operand} {ts:List TypeId} (ho:o.op=.call c) (hc:c.callee=.builtin bi) (ha:c.args.toList=xs) (hts:c.argTypes.toList=ts) :
  execOp a.eval o=(do let d ←(Pure.pure {target:=.builtin bi ts.toArray o.type (xs.toArray.map fun|.const _=>true|_=>false),args:=(xs.map a.eval).toArray}:Sem Deferred);invoke d.target d.args):=by
 have h1:c.args=xs.toArray:=by rw[←ha]
 have h2:c.argTypes=ts.toArray:=by rw[←hts]
 simp only[execOp,ho,resolve,hc,h1,h2,List.map_toArray]
 rfl

theorem ZMv (s:Sim F L (b++l) w) (he:XH w F L e a) {c:Call} {t el:TypeId} (ht:P.underlying t=some (.slice el)) {y:Operand} {z:Opd} (hc:c.callee=.builtin .len) (ha:c.args.toList=[y]) (hts:c.argTypes.toList=[t]) (ho:o.op=.call c) (hy:QK y=some z)
  (h:aop e b l (.len z)=.val x b' l'):Q3 P o a w F L b l x b' l':=by
 have hr:=ZX he hy
 simp only[aop]at h
 replace h:=XN h
 obtain⟨h,rfl,rfl⟩:=h
 generalize ev e z=q at *
 have key:∀ad n cp,a.eval y=.slice ad n cp→Q3 P o a w F L b' l' (.v (.int .i64 n)) b' l':=by
  intro ad n cp hv
  refine Q3.pure s (v:=goInt n) ?_ (toN _ _)
  rw[XF ho hc ha hts]
  simp[invoke,builtin,hv,ZDR ht]
 unfold Uh at h
 split at h
 ·cases h
  generalize hv:a.eval y=v at hr
  cases hr.vI
  exact key _ _ _ hv
 ·cases h
  generalize hv:a.eval y=v at hr
  cases hr.vI
  ·exact key _ _ _ hv
  ·exact key _ _ _ hv
 ·cases h
  generalize hv:a.eval y=v at hr
  cases hr
  ·exact key _ _ _ hv
  ·exact key _ _ _ hv
  ·exact key _ _ _ hv
 ·cases h

theorem ZDS {t ty el:TypeId} (ht:P.underlying t=some (.slice el)) (ad:Option Addr) (n c:Nat):(Builtin.cap_ #[t] ty #[.slice ad n c]).run P w=.ok (goInt c) w:=by
 simp[Builtin.cap_,run_underlying ht]

theorem ZLg (s:Sim F L (b++l) w) (he:XH w F L e a) {c:Call} {t el:TypeId} (ht:P.underlying t=some (.slice el)) {y:Operand} {z:Opd} (hc:c.callee=.builtin .cap) (ha:c.args.toList=[y]) (hts:c.argTypes.toList=[t]) (ho:o.op=.call c) (hy:QK y=some z)
  (h:aop e b l (.capz z)=.val x b' l'):Q3 P o a w F L b l x b' l':=by
 have hr:=ZX he hy
 simp only[aop]at h
 generalize ev e z=q at *
 split at h
 case h_2=>cases h
 cases h
 generalize hv:a.eval y=v at hr
 cases hr.vI
 refine Q3.pure s (v:=goInt 0) ?_ (toN _ _)
 rw[XF ho hc ha hts]
 simp[invoke,builtin,hv,ZDS ht]

theorem ZL9 (s:Sim F L (b++l) w) (he:XH w F L e a) {c:Call} {t:TypeId} (ht:P.underlying t=some .string) {y:Operand} {z:Opd} (hc:c.callee=.builtin .len) (ha:c.args.toList=[y]) (hts:c.argTypes.toList=[t]) (ho:o.op=.call c) (hy:QK y=some z)
  (h:aop e b l (.lenS z)=.val x b' l'):Q3 P o a w F L b l x b' l':=by
 have hr:=ZX he hy
 simp only[aop]at h
 replace h:=XN h
 obtain⟨h,rfl,rfl⟩:=h
 generalize ev e z=q at *
 unfold Y4 at h
 split at h
 ·cases h
  have hv:=ZDT hr
  refine Q3.pure s (v:=goInt _) ?_ (toN _ _)
  rw[XF ho hc ha hts]
  simp[invoke,builtin,hv,Builtin.len_,run_underlying ht]
 ·cases h

theorem ZLb (s:Sim F L (b++l) w) {c:Call} {t el:TypeId} {n:Nat} (ht:P.underlying t=some (.array n el)) {y:Operand} (hc:c.callee=.builtin .len) (ha:c.args.toList=[y]) (hts:c.argTypes.toList=[t]) (ho:o.op=.call c) :
  Q3 P o a w F L b l (.v (.int .i64 n)) b l:=by
 refine Q3.pure s (v:=goInt n) ?_ (toN _ _)
 rw[XF ho hc ha hts]
 simp[invoke,builtin,Builtin.len_,run_underlying ht]

theorem YY {n m p q:Nat} {lo hi:Option AV} {vlo vhi:Option Value} (h:Qr n lo hi=some (p,q)) (hm:n≤m) (isS:Bool)
  (h1:∀y,lo=some y→∃v,vlo=some v∧RepA w F L y v) (h1n:lo=none→vlo=none)
  (h2:∀y,hi=some y→∃v,vhi=some v∧RepA w F L y v) (h2n:hi=none→vhi=none) :
  (Instr.sliceBounds isS n m vlo vhi none).run P w=.ok (p,q,m) w∧p≤q∧q≤n:=by
 unfold Qr at h
 split at h
 ·cases h
  rw[h1n rfl,h2n rfl]
  exact⟨by simp[Instr.sliceBounds],Nat.zero_le _,Nat.le_refl _⟩
 ·rename_i k i
  split at h
  ·rename_i hb
   cases h
   obtain⟨v,e1,e2⟩:=h1 _ rfl
   rw[e1,h2n rfl,UW e2]
   exact⟨by simp[Instr.sliceBounds,Instr.sliceBound,asIntOf,hb.1,hb.2],by omega,Nat.le_refl _⟩
  ·cases h
 ·rename_i k i
  split at h
  ·rename_i hb
   cases h
   obtain⟨v,e1,e2⟩:=h2 _ rfl
   rw[e1,h1n rfl,UW e2]
   have:i≤(m:Int):=by omega
   exact⟨by simp[Instr.sliceBounds,Instr.sliceBound,asIntOf,hb.1,this],by omega,by omega⟩
  ·cases h
 ·rename_i k i k' i'
  split at h
  ·rename_i hb
   cases h
   obtain⟨v,e1,e2⟩:=h1 _ rfl
   obtain⟨u,e3,e4⟩:=h2 _ rfl
   rw[e1,e3,UW e2,UW e4]
   have h0:0≤i':=by omega
   have h3:i'≤(m:Int):=by omega
   have h4:i≤((i'.toNat:Nat):Int):=by omega
   have h5:¬(max i' 0<i):=by omega
   exact⟨by simp[Instr.sliceBounds,Instr.sliceBound,asIntOf,hb.1,h0,h3,h5],by omega,by omega⟩
  ·cases h
 ·cases h

theorem ZBl (he:XH w F L e a) {y:Option Operand} {z:Option Opd} (h:K9 y=some z) :
  (∀u,evo e z=some u→∃v,y.map a.eval=some v∧RepA w F L u v)∧(evo e z=none→y.map a.eval=none):=by
 cases y with
 |none=>simp[K9]at h;subst h;exact⟨fun u hu=>by simp[evo]at hu,fun _=>rfl⟩
 |some y =>
   cases hc:QK y with
   |none=>simp[K9,hc]at h
   |some q =>
     simp[K9,hc]at h
     subst h
     exact⟨fun u hu=>by simp[evo]at hu;subst hu;exact⟨_,rfl,ZX he hc⟩,fun h=>by simp[evo]at h⟩

theorem Yz {t el:TypeId} {sz:Nat} (ht:P.underlying t=some (.slice el)) (hz:Xw P el=some sz) {ad:Option Addr} {n m p q:Nat} {vlo vhi:Option Value} (hb:(Instr.sliceBounds true n m vlo vhi none).run P w=.ok (p,q,m) w) :
  (Instr.sliceAt t (.slice ad n m) vlo vhi none).run P w=.ok (.slice (if m=p then ad else ad.map (·.add (p*sz))) (q-p) (m-p)) w:=by
 simp only[Instr.sliceAt,Sem.run_bind,run_underlying ht,Result.andThen_ok,Instr.slice,hb,ZW hz,Sem.run_pure]

theorem ZJb (s:Sim F L (b++l) w) (he:XH w F L e a) {t el:TypeId} {sz:Nat} (ht:P.underlying t=some (.slice el)) (hz:Xw P el=some sz)
  {y:Operand} {y':Opd} {lo hi:Option Operand} {lo' hi':Option Opd} (ho:o.op=.slice t y lo hi none) (hy:QK y=some y') (hlo:K9 lo=some lo') (hhi:K9 hi=some hi')
  (h:aop e b l (.slice sz y' lo' hi')=.val x b' l'):Q3 P o a w F L b l x b' l':=by
 have hr:=ZX he hy
 obtain⟨g1,g2⟩:=ZBl he hlo
 obtain⟨g3,g4⟩:=ZBl he hhi
 simp only[aop]at h
 generalize ev e y'=q at *
 unfold XB at h
 split at h
 ·split at h
  case h_2=>cases h
  rename_i pq hb
  obtain⟨p,q⟩:=pq
  cases h
  generalize hv:a.eval y=v at hr
  cases hr.vI with
  |zsl ad =>
    obtain⟨k1,k2,k3⟩:=YY (P:=P) hb (Nat.le_refl _) true g1 g2 g3 g4
    have hq:q=0:=by omega
    subst hq
    have hp:p=0:=by omega
    subst hp
    refine Q3.pure s (v:=.slice ad 0 0) ?_ (.v _ _ (.zsl _))
    simp[execOp,ho,hv,Yz ht hz k1]
 ·rename_i s0 rows
  split at h
  case isFalse=>cases h
  rename_i hs
  subst hs
  split at h
  case h_2=>cases h
  rename_i p q hb
  cases h
  have hkey:∀ad m,rows.length≤m→a.eval y=.slice ad rows.length m→RepA w F L (.v (.isl s0 ((rows.take q).drop p))) (.slice (if m=p then ad else ad.map (·.add (p*s0))) (q-p) (m-p))→Q3 P o a w F L b l (.v (.isl s0 ((rows.take q).drop p))) b l:=by
   intro ad m hm hv hx
   obtain⟨k1,_,_⟩:=YY (P:=P) hb hm true g1 g2 g3 g4
   refine Q3.pure s (v:=_) ?_ hx
   simp[execOp,ho,hv,Yz ht hz k1]
  generalize hv:a.eval y=v at hr
  cases hr.vI with
  |isl0 _ ad m hm =>
    refine hkey _ _ (Nat.zero_le _) hv (.v _ _ ?_)
    obtain⟨_,k2,k3⟩:=YY (P:=P) hb (Nat.le_refl _) true g1 g2 g3 g4
    simp at k3
    subst k3
    simp
    exact .isl0 s0 _ _ oM
  |isl _ b1 off _ m val h1 h2 h3 h4 h5 h6 =>
    refine hkey _ _ h2 hv (.v _ _ ?_)
    obtain⟨_,k2,k3⟩:=YY (P:=P) hb h2 true g1 g2 g3 g4
    by_cases hpq:p=q
    ·subst hpq
     have:(rows.take p).drop p=[]:=by simp
     rw[this,Nat.sub_self]
     exact .isl0 s0 _ _ oM
    ·rw[if_neg oM]
     have hlen:((rows.take q).drop p).length=q-p:=by simp;omega
     have:=RepI.isl (w:=w) (F:=F) ((rows.take q).drop p) b1 (off+p*s0) s0 (m-p) (fun k j=>val (p+k) j) h1 oM oM
      (fun k row hk=>by
       rw[List.getElem?_drop,List.getElem?_take]at hk
       split at hk
       ·exact h4 _ _ hk
       ·cases hk)
      (fun k row j a hk hj=>by
       rw[List.getElem?_drop,List.getElem?_take]at hk
       split at hk
       ·have:=h5 _ row j a hk hj
        rw[Nat.add_mul]at this
        simpa [Nat.add_assoc] using this
       ·cases hk)
      (fun k row j a hk hj=>by
       rw[List.getElem?_drop,List.getElem?_take]at hk
       split at hk
       ·exact h6 _ row j a hk hj
       ·cases hk)
     rw[hlen]at this
     simpa [Addr.add_lit] using this
 ·rename_i id ver off len
  split at h
  case h_2=>cases h
  rename_i v0 s0 els hg
  split at h
  case isFalse=>cases h
  rename_i hs
  obtain⟨rfl,rfl⟩:=hs
  split at h
  case h_2=>cases h
  rename_i p q hb
  cases h
  rw[Qq]at hg
  have hkey:∀ad m,len≤m→a.eval y=.slice ad len m→RepA w F L (.sl id v0 (off+p) (q-p)) (.slice (if m=p then ad else ad.map (·.add (p*s0))) (q-p) (m-p))→Q3 P o a w F L b l (.sl id v0 (off+p) (q-p)) b l:=by
   intro ad m hm hv hx
   obtain⟨k1,_,_⟩:=YY (P:=P) hb hm true g1 g2 g3 g4
   refine Q3.pure s (v:=_) ?_ hx
   simp[execOp,ho,hv,Yz ht hz k1]
  generalize hv:a.eval y=v at hr
  cases hr with
  |sl _ _ _ _ b1 o1 z1 c1 hL h1 h2 =>
    obtain⟨lc,k1,k2⟩:=s.row _ _ _ _ hg
    rw[hL]at k1;cases k1
    obtain⟨rfl,_⟩:=k2
    refine hkey _ _ oM hv ?_
    obtain⟨_,k2,k3⟩:=YY (P:=P) hb (show len≤c1-off by omega) true g1 g2 g3 g4
    by_cases hp:c1-off=p
    ·rw[if_pos hp,hp,Nat.sub_self]
     have:q-p=0:=by omega
     rw[this]
     exact .slz id v0 (off+p) b1 o1 z1 c1 _ hL oM
    ·rw[if_neg hp]
     have:=RepA.sl (w:=w) (F:=F) id v0 (off+p) (q-p) b1 o1 z1 c1 hL oM h2
     rw[Nat.add_mul]at this
     simpa [Addr.add_lit,Nat.add_assoc,Nat.sub_sub] using this
  |slz _ _ _ b1 o1 z1 cap1 x1 hL hoff =>
    refine hkey _ _ (Nat.le_refl _) hv ?_
    obtain⟨_,k2,k3⟩:=YY (P:=P) hb (Nat.le_refl _) true g1 g2 g3 g4
    have hq:q=0:=by omega
    subst hq
    have hp:p=0:=by omega
    subst hp
    simp
    exact .slz id v0 _ b1 o1 z1 _ _ hL hoff
  |sln _ _ ad hL =>
    refine hkey _ _ (Nat.le_refl _) hv ?_
    obtain⟨_,k2,k3⟩:=YY (P:=P) hb (Nat.le_refl _) true g1 g2 g3 g4
    have hq:q=0:=by omega
    subst hq
    have hp:p=0:=by omega
    subst hp
    simp
    exact .sln id v0 _ hL
 ·cases h

theorem ZC4 {y:Option Operand} (h:ZBI y=true):∃k,y=some (.const (.int k 0)):=by
 unfold ZBI at h
 split at h
 ·exact⟨_,rfl⟩
 ·cases h

theorem ZHQ (s:Sim F L (b++l) w) (he:XH w F L e a) {t el:TypeId} {sz:Nat} (ht:P.underlying t=some (.slice el)) (hz:Xw P el=some sz)
  {y:Operand} {y':Opd} {hi mx:Option Operand} (ho:o.op=.slice t y none hi mx) (hhi:ZBI hi=true) (hmx:ZBI mx=true) (hy:QK y=some y')
  (h:aop e b l (.slice0 y')=.val x b' l'):Q3 P o a w F L b l x b' l':=by
 have hr:=ZX he hy
 obtain⟨k,rfl⟩:=ZC4 hhi
 obtain⟨k',rfl⟩:=ZC4 hmx
 simp only[aop]at h
 generalize ev e y'=q at *
 have hkey:∀ad n m,a.eval y=.slice ad n m→Q3 P o a w F L b l (.v .zsl) b l:=by
  intro ad n m hv
  have:(execOp a.eval o).run P w=.ok (.value (.slice ad 0 0)) w:=by
   have c1:a.eval (.const (.int k 0))=.int k 0:=rfl
   have c2:a.eval (.const (.int k' 0))=.int k' 0:=rfl
   have hb:(Instr.sliceBounds true n m none (some (.int k 0)) (some (.int k' 0))).run P w=.ok (0,0,0) w:=by simp[Instr.sliceBounds,Instr.sliceBound,asIntOf]
   simp[execOp,ho,hv,c1,c2,Instr.sliceAt,run_underlying ht,Instr.slice,hb,ZW hz]
  exact Q3.pure s this (.v _ _ (.zsl ad))
 split at h<;>cases h
 ·generalize hv:a.eval y=v at hr
  cases hr.vI
  exact hkey _ _ _ hv
 ·generalize hv:a.eval y=v at hr
  cases hr.vI
  ·exact hkey _ _ _ hv
  ·exact hkey _ _ _ hv
 ·generalize hv:a.eval y=v at hr
  cases hr
  ·exact hkey _ _ _ hv
  ·exact hkey _ _ _ hv
  ·exact hkey _ _ _ hv

theorem ZHP (s:Sim F L (b++l) w) (he:XH w F L e a) {t:TypeId} (ht:P.underlying t=some .string)
  {y:Operand} {y':Opd} {lo hi:Option Operand} {lo' hi':Option Opd} (ho:o.op=.slice t y lo hi none) (hy:QK y=some y') (hlo:K9 lo=some lo') (hhi:K9 hi=some hi')
  (h:aop e b l (.sliceS y' lo' hi')=.val x b' l'):Q3 P o a w F L b l x b' l':=by
 have hr:=ZX he hy
 obtain⟨g1,g2⟩:=ZBl he hlo
 obtain⟨g3,g4⟩:=ZBl he hhi
 simp only[aop]at h
 generalize ev e y'=q at *
 split at h
 case h_2=>cases h
 rename_i str
 split at h
 case h_2=>cases h
 rename_i p q hb
 cases h
 have hv:=ZDT hr
 obtain⟨k1,_,_⟩:=YY (P:=P) hb (Nat.le_refl _) false g1 g2 g3 g4
 refine Q3.pure s (v:=.string (str.extract p q)) ?_ (toS _)
 simp[execOp,ho,hv,Instr.sliceAt,run_underlying ht,Instr.slice,k1]
end
end Go.Proofs.YtoccdlnoaindmaaGreatDoor
namespace Go.Proofs.YtoccdlnoaindmaaGreatDoor
set_option linter.unusedVariables false

section
variable {P:Program} {w:World} {F:Nat→Prop} {L:LMap} {o:Oper} {a:Act} {e:List AV} {b l b' l':List Row} {x:AV}

theorem ZFZ (s:Sim F L (b++l) w) {w':World} {sz cap:Nat} {els:List (List AV)} {g:Nat→AV} {cur:Array Value} {T:TypeId} {v:Value}
  (hrun:Ends P o a w v w') (hheap:w'.heap=w.heap.push (.cells cur T (0,0))) (hos:w'.os=w.os) (htp:w'.tape=w.tape) (hout:w'.output=w.output)
  (hl:els.length≤cap) (hcm:cap≤maxLen) (hfit:cap*sz≤cur.size)
  (hsz:∀(k:Nat) (row:List AV),els[k]? = some row→row.length=sz)
  (hcell:∀(k:Nat) (row:List AV) (j:Nat) (c:AV),els[k]? = some row→row[j]? = some c→c.cell=true∧∃u,cur[k*sz+j]? = some u∧RepA w F L c u)
  (hg:∀(L':LMap),L' (b.length+l.length) 0=some (.pl w.heap.size 0 sz cap)→RepA w' F L' (g (b.length+l.length)) v)
  (h:mk b l sz els g=.val x b' l'):Q3 P o a w F L b l x b' l':=by
 unfold mk at h
 cases h
 have hlen:(b++l).length=b.length+l.length:=by simp
 obtain⟨L',r1,r2,r3,r4⟩:=s.putRow (h':=b++(l++[.live 0 sz els])) (w':=w') (b.length+l.length) 0 sz w.heap.size 0 cap els hos htp hout (by rw[hheap];simp)
  (fun k hk _=>by rw[hheap,Array.getElem?_push,if_neg oM]) (.inl (Nat.le_refl _))
  (by rw[←List.append_assoc,List.getElem?_append_right oM];simp)
  (fun j hj=>by
   rw[←List.append_assoc]
   by_cases hjl:j<(b++l).length
   ·rw[List.getElem?_append_left hjl]
   ·rw[List.getElem?_eq_none (by simp;omega),List.getElem?_eq_none oM])
  (fun r hr=>by rw[List.getElem?_eq_none oM]at hr;cases hr)
  (.inl (by
   cases hq:L (b.length+l.length) 0 with
   |none=>rfl
   |some q=>exact absurd (s.lt hq) oM))
  hl hcm cur T (by rw[hheap];simp) (by simpa using hfit) hsz (fun k row j c hk hj=>by simpa using hcell k row j c hk hj)
 exact⟨v,w',L',hrun,hg L' r3,r1,r2,rfl⟩

theorem ZJj (s:Sim F L (b++l) w) {t:TypeId} {zs:List AV} (ho:o.op=.alloc t) (hz:Yi P t=some zs)
  (h:aop e b l (.alloc zs)=.val x b' l'):Q3 P o a w F L b l x b' l':=by
 simp only[aop]at h
 unfold Yi at hz
 split at hz
 case h_2=>cases hz
 rename_i i hi
 split at hz
 case h_2=>cases hz
 rename_i z hzz
 obtain⟨c1,c2⟩:=YG (w:=w) (F:=F) (L:=L) hz
 have hzl:zs.length=z.cells.size:=by simpa using c1.1
 refine ZFZ s (w':=w.alloc (.cells z.cells t)) (cur:=z.cells) (T:=t) (cap:=1) (v:=.pointer (some ⟨w.heap.size,0,none⟩)) (.inl ?_) rfl rfl rfl rfl (by simp) (by decide) oM ?_ ?_ ?_ h
 ·simp[execOp,ho,Instr.alloc,zeroValue,typeInfo,hi,hzz,newVar,newRow]
 ·intro k row hk
  cases k with
  |zero=>simp at hk;subst hk;rfl
  |succ k=>simp at hk
 ·intro k row j c hk hj
  cases k with
  |zero =>
    simp at hk;subst hk
    obtain⟨u,hu,hr⟩:=c1.get hj
    exact⟨List.all_eq_true.1 c2 _ (List.mem_of_getElem? hj),u,by simpa using hu,hr⟩
  |succ k=>simp at hk
 ·intro L' hL'
  have:=RepA.ptr (w:=w.alloc (.cells z.cells t)) (F:=F) (b.length+l.length) 0 0 0 _ _ _ _ hL'
  simpa using this

theorem ZMx (s:Sim F L (b++l) w) (he:XH w F L e a) {t:TypeId} {y:Operand} {z:Opd} (ho:o.op=.box t y) (hy:QK y=some z)
  (h:aop e b l (.box z)=.val x b' l'):Q3 P o a w F L b l x b' l':=by
 have hr:=ZX he hy
 simp only[aop]at h
 generalize ev e z=q at *
 split at h
 case h_2=>cases h
 rename_i cs hcs
 split at h
 case isFalse=>cases h
 rename_i hall
 obtain⟨c1,c2⟩:=UJ hr hcs hall
 have hzl:cs.length=(a.eval y).cells.size:=by simpa using c1.1
 refine ZFZ s (w':=w.alloc (.cells (a.eval y).cells t)) (cur:=(a.eval y).cells) (T:=t) (cap:=1) (v:=.pointer (some ⟨w.heap.size,0,none⟩)) (.inl ?_) rfl rfl rfl rfl (by simp) (by decide) oM ?_ ?_ ?_ h
 ·simp[execOp,ho,Instr.box,newVar,newRow]
 ·intro k row hk
  cases k with
  |zero=>simp at hk;subst hk;rfl
  |succ k=>simp at hk
 ·intro k row j c hk hj
  cases k with
  |zero =>
    simp at hk;subst hk
    obtain⟨u,hu,hr⟩:=c1.get hj
    exact⟨List.all_eq_true.1 hall _ (List.mem_of_getElem? hj),u,by simpa using hu,hr⟩
  |succ k=>simp at hk
 ·intro L' hL'
  have:=RepA.ptr (w:=w.alloc (.cells (a.eval y).cells t)) (F:=F) (b.length+l.length) 0 0 0 _ _ _ _ hL'
  simpa using this

theorem U5 (vs:List Value):∀(cs:Array Value) (off n:Nat) (i:Nat),off+n+vs.length≤cs.size →
  ((vs.zipIdx n).foldl (fun cs (p:Value×Nat)=>cs.setIfInBounds (off+p.2) p.1) cs).size=cs.size ∧
  ((vs.zipIdx n).foldl (fun cs (p:Value×Nat)=>cs.setIfInBounds (off+p.2) p.1) cs)[i]? = if off+n≤i∧i<off+n+vs.length then vs[i-(off+n)]? else cs[i]?:=by
 induction vs with
 |nil=>intro cs off n i _;simp;intro h1 h2;omega
 |cons v vs ih =>
   intro cs off n i h
   simp only[List.length_cons]at h
   simp only[List.zipIdx_cons,List.foldl_cons]
   obtain⟨h1,h2⟩:=ih (cs.setIfInBounds (off+n) v) off (n+1) i (by simp;omega)
   refine⟨by rw[h1];simp,?_⟩
   rw[h2]
   by_cases hi:i=off+n
   ·subst hi
    rw[if_neg oM,if_pos (by simp),Array.getElem?_setIfInBounds_self_of_lt oM]
    simp
   ·by_cases hj:off+(n+1)≤i∧i<off+(n+1)+vs.length
    ·rw[if_pos hj,if_pos (by simp;omega),show i-(off+n)=(i-(off+(n+1)))+1 by omega]
     simp
    ·rw[if_neg hj,if_neg (by simp;omega),Array.getElem?_setIfInBounds_ne oM]

theorem JP (vs cs:Array Value) (off:Nat):vs.zipIdx.foldl (fun cs (p:Value×Nat)=>cs.setIfInBounds (off+p.2) p.1) cs=(vs.toList.zipIdx 0).foldl (fun cs (p:Value×Nat)=>cs.setIfInBounds (off+p.2) p.1) cs:=by
 rw[←Array.foldl_toList];simp

theorem ZJt {row ds:List AV} {cs vs:Array Value} (h:QL w F L row cs.toList) (k:QL w F L ds vs.toList) {off:Nat} (hle:off+ds.length≤row.length) :
  QL w F L (ZC row off ds) (vs.zipIdx.foldl (fun cs (p:Value×Nat)=>cs.setIfInBounds (off+p.2) p.1) cs).toList:=by
 have hl:cs.size=row.length:=by simpa using h.1.symm
 have hk:vs.toList.length=ds.length:=k.1.symm
 rw[JP]
 have key:=fun i=>U5 vs.toList cs off 0 i oM
 refine⟨?_,fun i c u hc hu=>?_⟩
 ·rw[Kv,Array.length_toList]
  exact (hl.symm.trans (key 0).1.symm)
 ·rw[Kw ds row off i hle]at hc
  rw[Array.getElem?_toList,(key i).2]at hu
  simp only[Nat.add_zero,hk]at hu
  split at hc
  ·rename_i hin
   rw[if_pos hin]at hu
   exact k.2 _ c u hc hu
  ·rename_i hin
   rw[if_neg hin]at hu
   exact h.2 i c u hc (by simpa using hu)

theorem ZDe (he:XH w F L e a) {place:Nat→Option (Nat×Nat)}:∀{ps:List (Nat×Operand)} {qs:List (Nat×Nat×Opd)} {row:List AV} {cs:Array Value} {out:List AV},
  (∀(i:Nat) (p:Nat×Operand),ps[i]? = some p→∃(off n:Nat) (z:Opd),qs[i]? = some (off,n,z)∧place p.1=some (off,n)∧QK p.2=some z)→qs.length=ps.length →
  QL w F L row cs.toList→Xm e row qs=some out→∃vs,Instr.fill place cs (ps.map fun p=>(p.1,a.eval p.2))=some vs∧QL w F L out vs.toList
 |[],qs,row,cs,out,_,hl,hr,hf=>by
   have:qs=[]:=List.eq_nil_of_length_eq_zero (by simpa using hl)
   subst this
   simp[Xm]at hf
   subst hf
   exact⟨cs,rfl,hr⟩
 |p::ps,[],row,cs,out,_,hl,hr,hf=>by simp at hl
 |p::ps,q::qs,row,cs,out,hp,hl,hr,hf=>by
   obtain⟨off,n,z,e1,e2,e3⟩:=hp 0 p rfl
   simp at e1
   subst e1
   unfold Xm at hf
   split at hf
   case h_2=>cases hf
   rename_i ds hds
   split at hf
   case isFalse=>cases hf
   rename_i hb
   have hz:=ZX he e3
   have hcell:QL w F L ds (a.eval p.2).cells.toList:=by
    generalize ev e z=q at *
    cases q with
    |any=>cases hds
    |tup cs=>cases hds
    |agg ds =>
      cases hds
      obtain⟨vs,hv,hl⟩:=hz.aggL
      rw[hv];exact hl
    |_=>cases hds;rw[ZCg (hz.one rfl)];simpa using QL.cons hz QL.nil
   have hsz:(a.eval p.2).cells.size=n:=by have:=hcell.1;simp at this;omega
   have hlay:=ZJt hr hcell (off:=off) oM
   obtain⟨vs,h1,h2⟩:=ZDe he (place:=place) (ps:=ps) (qs:=qs) (fun i p' hi=>hp (i+1) p' (by simpa using hi)) (by simpa using hl) hlay hf
   refine⟨vs,?_,h2⟩
   simp only[List.map_cons,Instr.fill,e2,hsz]
   have hrl:row.length=cs.size:=by simpa using hr.1
   rw[if_neg (by simp;omega)]
   exact h1

theorem ZAf {fs:Array Field}:∀{ps:List (Nat×Operand)} {qs:List (Nat×Nat×Opd)},ZBT P fs ps=some qs→qs.length=ps.length ∧
  ∀(i:Nat) (p:Nat×Operand),ps[i]? = some p→∃(off n:Nat) (z:Opd) (f:Field),qs[i]? = some (off,n,z)∧fs[p.1]? = some f∧f.offset=off∧Xw P f.type=some n∧QK p.2=some z
 |[],qs,h=>by simp[ZBT]at h;subst h;simp
 |(i,y)::ps,qs,h=>by
   unfold ZBT at h
   split at h
   case h_2=>cases h
   rename_i f z ys h1 h2 h3
   split at h
   case h_2=>cases h
   rename_i n h4
   cases h
   obtain⟨h5,h6⟩:=ZAf h3
   refine⟨by simp[h5],fun j p hj=>?_⟩
   cases j with
   |zero=>simp at hj;subst hj;exact⟨_,_,_,f,rfl,h1,rfl,h4,h2⟩
   |succ j=>simp at hj;simpa using h6 j p hj

theorem KY {n:Nat}:∀{ps:List (Nat×Operand)} {qs:List (Nat×Nat×Opd)},KC n ps=some qs→qs.length=ps.length ∧
  ∀(i:Nat) (p:Nat×Operand),ps[i]? = some p→∃(z:Opd),qs[i]? = some (p.1*n,n,z)∧QK p.2=some z
 |[],qs,h=>by simp[KC]at h;subst h;simp
 |(i,y)::ps,qs,h=>by
   unfold KC at h
   split at h
   case h_2=>cases h
   rename_i z ys h1 h2
   cases h
   obtain⟨h5,h6⟩:=KY h2
   refine⟨by simp[h5],fun j p hj=>?_⟩
   cases j with
   |zero=>simp at hj;subst hj;exact⟨_,rfl,h1⟩
   |succ j=>simp at hj;simpa using h6 j p hj

theorem UV {α β:Type} (f:α→Sem β) (g:α→β):∀(xs:List α),(∀x∈xs,(f x).run P w=.ok (g x) w)→(xs.mapM f).run P w=.ok (xs.map g) w
 |[],_=>by simp
 |x::xs,h=>by
   have ih:=UV f g xs (fun y hy=>h y (by simp[hy]))
   rw[List.mapM_cons]
   simp[h x (by simp),ih]
end
end Go.Proofs.YtoccdlnoaindmaaGreatDoor
namespace Go.Proofs.YtoccdlnoaindmaaGreatDoor
set_option linter.unusedVariables false

section
variable {P:Program} {w:World} {F:Nat→Prop} {L:LMap} {o:Oper} {a:Act} {e:List AV} {b l b' l':List Row} {x:AV}

theorem XL {t:TypeId} {zs:List AV} (hz:Yi P t=some zs):∃i z,P.info? t=some i∧i.zero=some z∧cvL z.cells.toList=some zs:=by
 unfold Yi at hz
 split at hz
 case h_2=>cases hz
 rename_i i hi
 split at hz
 case h_2=>cases hz
 rename_i z hzz
 exact⟨i,z,hi,hzz,hz⟩

theorem Yr {t:TypeId} {i:TypeInfo} {z:Value} (hi:P.info? t=some i) (hz:i.zero=some z):(zeroValue t).run P w=.ok z w:=by
 simp[zeroValue,typeInfo,hi,hz]

theorem ZFJ (fs:Array Field) (h:fs.toList.all (fun f=>(Xw P f.type).isSome)=true) :
  (fs.mapM fun f=>(do pure (f.offset,←sizeOf f.type):Sem (Nat×Nat))).run P w=.ok (fs.map fun f=>(f.offset,(Xw P f.type).getD 0)) w:=by
 rw[Array.mapM_eq_mapM_toList]
 have:=UV (P:=P) (w:=w) (fun f:Field=>(do pure (f.offset,←sizeOf f.type):Sem (Nat×Nat))) (fun f=>(f.offset,(Xw P f.type).getD 0)) fs.toList (fun f hf=>by
  have h1:=List.all_eq_true.1 h f hf
  cases hn:Xw P f.type with
  |none=>simp[hn]at h1
  |some n=>simp[ZW hn])
 simp only[map_eq_pure_bind,Sem.run_bind,this,Result.andThen_ok,Sem.run_pure]
 congr 1
 apply Array.ext'
 simp

theorem ZJi (s:Sim F L (b++l) w) (he:XH w F L e a) {t:TypeId} {fs:Array Field} {zs:List AV} {parts:Array (Nat×Operand)} {qs:List (Nat×Nat×Opd)} (ht:P.underlying t=some (.struct fs)) (hz:Yi P t=some zs)
  (hall:fs.toList.all (fun f=>(Xw P f.type).isSome)=true) (hq:ZBT P fs parts.toList=some qs) (ho:o.op=.build t parts)
  (h:aop e b l (.build zs qs)=.val x b' l'):Q3 P o a w F L b l x b' l':=by
 obtain⟨i,z,hi,hzz,hzc⟩:=XL hz
 obtain⟨c1,c2⟩:=YG (w:=w) (F:=F) (L:=L) hzc
 obtain⟨q1,q2⟩:=ZAf hq
 simp only[aop]at h
 split at h
 case h_2=>cases h
 rename_i cs hcs
 cases h
 obtain⟨vs,h1,h2⟩:=ZDe he (place:=fun j=>(fs.map fun f=>(f.offset,(Xw P f.type).getD 0))[j]?) (ps:=parts.toList) (qs:=qs) (fun j p hj=>by
  obtain⟨off,n,y,f,e1,e2,e3,e4,e5⟩:=q2 j p hj
  exact⟨off,n,y,e1,by simp[e2,e3,e4],e5⟩) q1 c1 hcs
 refine Q3.pure s (v:=.agg vs) ?_ h2.agg
 have hm:(parts.map fun (j,y)=>(j,a.eval y)).toList=parts.toList.map fun p=>(p.1,a.eval p.2):=by simp
 simp only[execOp,ho,Instr.build,Sem.run_bind,Yr hi hzz,Result.andThen_ok,run_underlying ht,ZFJ fs hall,hm,h1,Sem.run_pure]

theorem ZHW (s:Sim F L (b++l) w) (he:XH w F L e a) {t el:TypeId} {m n:Nat} {zs:List AV} {parts:Array (Nat×Operand)} {qs:List (Nat×Nat×Opd)} (ht:P.underlying t=some (.array m el)) (hn:Xw P el=some n) (hz:Yi P t=some zs)
  (hq:KC n parts.toList=some qs) (ho:o.op=.build t parts)
  (h:aop e b l (.build zs qs)=.val x b' l'):Q3 P o a w F L b l x b' l':=by
 obtain⟨i,z,hi,hzz,hzc⟩:=XL hz
 obtain⟨c1,c2⟩:=YG (w:=w) (F:=F) (L:=L) hzc
 obtain⟨q1,q2⟩:=KY hq
 simp only[aop]at h
 split at h
 case h_2=>cases h
 rename_i cs hcs
 cases h
 obtain⟨vs,h1,h2⟩:=ZDe he (place:=fun j=>some (j*n,n)) (ps:=parts.toList) (qs:=qs) (fun j p hj=>by
  obtain⟨y,e1,e2⟩:=q2 j p hj
  exact⟨_,_,y,e1,rfl,e2⟩) q1 c1 hcs
 refine Q3.pure s (v:=.agg vs) ?_ h2.agg
 have hm:(parts.map fun (j,y)=>(j,a.eval y)).toList=parts.toList.map fun p=>(p.1,a.eval p.2):=by simp
 simp only[execOp,ho,Instr.build,Sem.run_bind,Yr hi hzz,Result.andThen_ok,run_underlying ht,ZW hn,hm,h1,Sem.run_pure]

theorem VZ:∀{ps:List (Nat×Operand)} {qs:List (Nat×Opd)},V0 ps=some qs→qs.length=ps.length ∧
  ∀(i:Nat) (p:Nat×Operand),ps[i]? = some p→∃(z:Opd),qs[i]? = some (p.1,z)∧QK p.2=some z
 |[],qs,h=>by simp[V0]at h;subst h;simp
 |(i,y)::ps,qs,h=>by
   unfold V0 at h
   split at h
   case h_2=>cases h
   rename_i z ys h1 h2
   cases h
   obtain⟨h5,h6⟩:=VZ h2
   refine⟨by simp[h5],fun j p hj=>?_⟩
   cases j with
   |zero=>simp at hj;subst hj;exact⟨_,rfl,h1⟩
   |succ j=>simp at hj;simpa using h6 j p hj

def ZBy (w:World) (F:Nat→Prop) (L:LMap) (sz:Nat) (els:List (List AV)) (cur:Array Value):Prop:=
 (∀(k:Nat) (row:List AV),els[k]? = some row→row.length=sz) ∧
 ∀(k:Nat) (row:List AV) (j:Nat) (c:AV),els[k]? = some row→row[j]? = some c→c.cell=true∧∃u,cur[k*sz+j]? = some u∧RepA w F L c u

theorem ZBj (he:XH w F L e a) {sz:Nat}:∀{ps:List (Nat×Operand)} {qs:List (Nat×Opd)} {els out:List (List AV)} {cur:Array Value},
  (∀(i:Nat) (p:Nat×Operand),ps[i]? = some p→∃(z:Opd),qs[i]? = some (p.1,z)∧QK p.2=some z)→qs.length=ps.length →
  cur.size=els.length*sz→ZBy w F L sz els cur→Xg e sz els qs=some out →
  ∃vs,Instr.fill (fun i=>some (i*sz,sz)) cur (ps.map fun p=>(p.1,a.eval p.2))=some vs∧vs.size=cur.size∧out.length=els.length∧ZBy w F L sz out vs
 |[],qs,els,out,cur,_,hl,hs,hr,hf=>by
   have:qs=[]:=List.eq_nil_of_length_eq_zero (by simpa using hl)
   subst this
   simp[Xg]at hf
   subst hf
   exact⟨cur,rfl,rfl,rfl,hr⟩
 |p::ps,[],els,out,cur,_,hl,hs,hr,hf=>by simp at hl
 |p::ps,q::qs,els,out,cur,hp,hl,hs,hr,hf=>by
   obtain⟨z,e1,e3⟩:=hp 0 p rfl
   simp at e1
   subst e1
   unfold Xg at hf
   split at hf
   case h_2=>cases hf
   rename_i ds hds
   split at hf
   case isFalse=>cases hf
   rename_i hb
   obtain⟨hb1,hb2,hb3⟩:=hb
   obtain⟨d1,d2⟩:=UJ (ZX he e3) hds hb3
   have hsz:(a.eval p.2).cells.size=sz:=by have:=d1.1;simp at this;omega
   have hsz2:(a.eval p.2).cells.toList.length=sz:=by simpa using hsz
   have hfit:p.1*sz+sz≤cur.size:=by
    rw[hs];have:=JR (sz:=sz) (j:=0) (n:=sz) hb2 oM;omega
   have key:=fun i=>U5 (a.eval p.2).cells.toList cur (p.1*sz) 0 i oM
   have hnew:ZBy w F L sz (els.set p.1 ds) ((a.eval p.2).cells.zipIdx.foldl (fun cs (q:Value×Nat)=>cs.setIfInBounds (p.1*sz+q.2) q.1) cur):=by
    rw[JP]
    refine⟨fun k row hk=>?_,fun k row j c hk hj=>?_⟩
    ·by_cases hkk:p.1=k
     ·subst hkk
      rw[List.getElem?_set_self hb2]at hk;cases hk;exact hb1
     ·rw[List.getElem?_set_ne hkk]at hk;exact hr.1 k row hk
    ·rw[(key _).2]
     simp only[Nat.add_zero,hsz2]
     by_cases hkk:p.1=k
     ·subst hkk
      rw[List.getElem?_set_self hb2]at hk;cases hk
      have hjl:j<sz:=by have:=(List.getElem?_eq_some_iff.1 hj).1;omega
      rw[if_pos oM,Nat.add_sub_cancel_left]
      obtain⟨u,hu,hru⟩:=d1.get hj
      exact⟨List.all_eq_true.1 hb3 _ (List.mem_of_getElem? hj),u,hu,hru⟩
     ·rw[List.getElem?_set_ne hkk]at hk
      have hjl:j<sz:=by rw[←hr.1 k row hk];exact (List.getElem?_eq_some_iff.1 hj).1
      rw[if_neg (by have:=ZIV (sz:=sz) (j:=0) (n:=sz) hkk hjl oM;omega)]
      exact hr.2 k row j c hk hj
   have hszn:((a.eval p.2).cells.zipIdx.foldl (fun cs (q:Value×Nat)=>cs.setIfInBounds (p.1*sz+q.2) q.1) cur).size=cur.size:=by rw[JP];exact (key 0).1
   obtain⟨vs,h1,h2,h3,h4⟩:=ZBj he (ps:=ps) (qs:=qs) (fun i p' hi=>hp (i+1) p' (by simpa using hi)) (by simpa using hl) (by rw[hszn];simpa using hs) hnew hf
   refine⟨vs,?_,by rw[h2,hszn],by simpa using h3,h4⟩
   simp only[List.map_cons,Instr.fill,hsz]
   rw[if_neg (by simp;omega)]
   exact h1

theorem Kd {sz n:Nat} {z:Value} {zs:List AV} (c1:QL w F L zs z.cells.toList) (c2:zs.all AV.cell=true) (hl:zs.length=sz) (m:Nat) (hm:n*sz≤m) :
  ZBy w F L sz (List.replicate n zs) (madeCells z.cells m):=by
 have hzs:z.cells.size=sz:=by have:=c1.1;simp at this;omega
 refine⟨fun k row hk=>?_,fun k row j c hk hj=>?_⟩
 ·rw[List.getElem?_replicate]at hk
  split at hk
  ·cases hk;exact hl
  ·cases hk
 ·rw[List.getElem?_replicate]at hk
  split at hk
  ·rename_i hkn
   cases hk
   have hjl:j<sz:=by have:=(List.getElem?_eq_some_iff.1 hj).1;omega
   obtain⟨u,hu,hru⟩:=c1.get hj
   refine⟨List.all_eq_true.1 c2 _ (List.mem_of_getElem? hj),u,?_,hru⟩
   have hlt:k*sz+j<m:=by have:=JR (sz:=sz) (j:=j) (n:=1) hkn oM;omega
   have hmod:(k*sz+j) % sz=j:=by rw[Nat.mul_comm,Nat.mul_add_mod,Nat.mod_eq_of_lt hjl]
   have hu':z.cells[j]? = some u:=by simpa using hu
   have hj2:j<z.cells.size:=by omega
   simp only[madeCells,Array.getElem?_map,Array.getElem?_range,hlt,if_true,Option.map_some,hzs,hmod]
   rw[getElem!_pos z.cells j hj2]
   rw[Array.getElem?_eq_getElem hj2]at hu'
   exact hu'
  ·cases hk

theorem ZHX (s:Sim F L (b++l) w) (he:XH w F L e a) {t el:TypeId} {n len:Nat} {zs:List AV} {parts:Array (Nat×Operand)} {qs:List (Nat×Opd)} (ht:P.underlying t=some (.slice el)) (hn:Xw P el=some n) (hz:Yi P el=some zs)
  (h0:0<n) (hle:len*n≤16777216) (hzl:zs.length=n) (hq:V0 parts.toList=some qs) (ho:o.op=.buildSlice t len parts)
  (h:aop e b l (.bslice n zs len qs)=.val x b' l'):Q3 P o a w F L b l x b' l':=by
 obtain⟨i,z,hi,hzz,hzc⟩:=XL hz
 obtain⟨c1,c2⟩:=YG (w:=w) (F:=F) (L:=L) hzc
 obtain⟨q1,q2⟩:=VZ hq
 simp only[aop]at h
 split at h
 case h_2=>cases h
 rename_i els hels
 obtain⟨vs,h1,h2,h3,h4⟩:=ZBj he (ps:=parts.toList) (qs:=qs) q2 q1 (cur:=madeCells z.cells (len*n)) (by simp[size_madeCells]) (Kd c1 c2 hzl _ (Nat.le_refl _)) hels
 have hlen:els.length=len:=by simpa using h3
 have hm:(parts.map fun (j,y)=>(j,a.eval y)).toList=parts.toList.map fun p=>(p.1,a.eval p.2):=by simp
 have hlm:len≤16777216:=by
  rcases Nat.eq_zero_or_pos len with h|h
  ·omega
  ·have:=Nat.le_mul_of_pos_right len h0;omega
 refine ZFZ s (w':=w.alloc (.cells vs el)) (cur:=vs) (T:=el) (cap:=len) (v:=.slice (some ⟨w.heap.size,0,none⟩) len len) (.inl ?_) rfl rfl rfl rfl oM (by unfold maxLen;omega) (by rw[h2,size_madeCells];exact Nat.le_refl _) h4.1 h4.2 ?_ h
 ·have hlt:¬(len*n>2 ^ 24):=by omega
  by_cases h00:len*n=0
  ·have hmc:madeCells z.cells (len*n)=#[]:=by rw[h00];simp[madeCells,Array.range_zero']
   rw[hmc]at h1
   have hmd:(Array.range (len*n)).map (((#[]:Array Value)[· % (#[]:Array Value).size]!))=#[]:=by rw[h00];simp[Array.range_zero']
   have hlt':¬(len*n>16777216):=by omega
   simp only[execOp,ho,Instr.buildSlice,Sem.run_bind,run_underlying ht,Result.andThen_ok,ZW hn,Sem.run_ite,h00,if_true,Sem.run_pure,hm]
   rw[h00]at hmd
   simp only[hmd,h1,newRow,Sem.run_bind]
   simp
  ·simp only[execOp,ho,Instr.buildSlice,Sem.run_bind,run_underlying ht,Result.andThen_ok,ZW hn,Sem.run_ite,hlt,if_false,h00,Sem.run_pure,hm,Yr hi hzz]
   have h1':=h1
   unfold madeCells at h1'
   simp only[h1',newRow,Sem.run_bind]
   simp
 ·intro L' hL'
  have:=RepA.sl (w:=w.alloc (.cells vs el)) (F:=F) (b.length+l.length) 0 0 len _ _ _ _ hL' oM (by unfold maxLen;omega)
  simpa using this

theorem ZFN (s:Sim F L (b++l) w) (he:XH w F L e a) {t el:TypeId} {sz bytes:Nat} {zs:List AV} (ht:P.underlying t=some (.slice el)) (hn:Xw P el=some sz) (hby:ZDA P el=some bytes) (hz:Yi P el=some zs) (hzl:zs.length=sz)
  {y z:Operand} {y' z':Opd} (ho:o.op=.makeSlice t y z) (hy:QK y=some y') (hzz':QK z=some z')
  (h:aop e b l (.mkslice sz zs bytes y' z')=.val x b' l'):Q3 P o a w F L b l x b' l':=by
 obtain⟨i,zv,hi,hzz,hzc⟩:=XL hz
 obtain⟨c1,c2⟩:=YG (w:=w) (F:=F) (L:=L) hzc
 have h1:=ZX he hy
 have h2:=ZX he hzz'
 simp only[aop]at h
 generalize ev e y'=q at *
 generalize ev e z'=r at *
 split at h
 case h_2=>cases h
 rename_i k n k' c
 split at h
 case isFalse=>cases h
 rename_i hb
 obtain⟨hb1,hb2,hb3,hb4⟩:=hb
 have e1:=UW h1
 have e2:=UW h2
 have hsz:i.size=sz:=by simp[Xw,hi]at hn;exact hn
 have hbz:i.bytes=bytes:=by simp[ZDA,hi]at hby;exact hby
 have hcm:c.toNat≤maxLen:=by unfold maxLen;unfold room at hb4;omega
 have hbb:(i.bytes:Int)*c≤281474976710656:=by
  unfold room at hb3
  have h0:c=(c.toNat:Int):=by omega
  rw[h0,hbz]
  have:((bytes*c.toNat:Nat):Int)≤281474976710656:=by rw[Nat.mul_comm];omega
  rwa [Int.natCast_mul]at this
 have hrun:=run_make (P:=P) w t el i zv ht hi hzz k k' n c hb1 hb2 hbb (by unfold room at hb4;omega)
 have hfit:n.toNat*sz≤c.toNat*sz:=Nat.mul_le_mul_right _ oM
 rw[hsz]at hrun
 have hmade:=Kd (n:=n.toNat) c1 c2 hzl (c.toNat*sz) hfit
 refine ZFZ s (w':=w.alloc (.cells (madeCells zv.cells (c.toNat*sz)) el)) (cur:=madeCells zv.cells (c.toNat*sz)) (T:=el) (cap:=c.toNat) (v:=.slice (some ⟨w.heap.size,0,none⟩) n.toNat c.toNat) (.inl ?_) rfl rfl rfl rfl (by simp;omega) hcm (by rw[size_madeCells];exact Nat.le_refl _) hmade.1 hmade.2 ?_ h
 ·simp[execOp,ho,e1,e2,hrun]
 ·intro L' hL'
  have:=RepA.sl (w:=w.alloc (.cells (madeCells zv.cells (c.toNat*sz)) el)) (F:=F) (b.length+l.length) 0 0 n.toNat _ _ _ _ hL' oM hcm
  simpa using this

theorem ZIS {d:Nat} {t:TypeId} {k:FK} (hk:Vj P t=some k) {x y:AV} {v u:Value} (hx:RepA w F L x v) (hy:RepA w F L y u) {r:Bool} (h:eqF k x y=some r) :
  (Op.equalIn (d+1) t v u).run P w=.ok r w:=by
 unfold Vj at hk
 unfold eqF at h
 split at h
 ·split at h
  ·rename_i hkk
   cases h
   subst hkk
   rw[UW hx,UW hy]
   split at hk<;>cases hk
   rename_i hd
   exact run_equalIn_int w d t _ _ _ _ hd
  ·cases h
 ·cases h
  rw[ZAz hx,ZAz hy]
  split at hk<;>cases hk
  rename_i hd
  exact run_equalIn_bool w d t _ _ hd
 ·cases h
  rw[ZDT hx,ZDT hy]
  split at hk<;>cases hk
  rename_i hd
  rw[beq_toListBytes]
  exact run_equalIn_string w d t _ _ hd
 ·cases h

theorem U7 {t:TypeId} {k:FK} (hk:Vj P t=some k):ZMU P t=some false:=by
 unfold Vj at hk
 unfold ZMU
 split at hk<;>first|(cases hk;done)|skip
 all_goals (rename_i hd;rw[hd])

theorem ZIT {d:Nat}:∀{n:Nat} {fs:List Field} {ks:List FK} {xs ys:List AV} {vs us:Array Value} {r:Bool},U6 P n fs=some ks →
  QL w F L xs (vs.toList.drop n)→QL w F L ys (us.toList.drop n)→eqC ks xs ys=some r→(Op.eqFields (d+1) vs us fs).run P w=.ok r w
 |n,[],ks,xs,ys,vs,us,r,hp,hx,hy,he=>by
   simp[U6]at hp
   subst hp
   cases xs<;>cases ys<;>simp[eqC]at he
   subst he
   simp[Op.eqFields]
 |n,f::fs,ks,xs,ys,vs,us,r,hp,hx,hy,he=>by
   unfold U6 at hp
   split at hp
   case isFalse=>cases hp
   rename_i hb
   obtain⟨hoff,hname⟩:=hb
   split at hp
   case h_2=>cases hp
   rename_i k ks' hk hks
   cases hp
   cases xs with
   |nil=>simp[eqC]at he
   |cons x xs0 =>
   cases ys with
   |nil=>simp[eqC]at he
   |cons y ys0 =>
   simp only[eqC]at he
   cases hq:eqF k x y with
   |none=>simp[hq,Jg]at he
   |some r1 =>
     cases hq2:eqC ks' xs0 ys0 with
     |none=>simp[hq,hq2,Jg]at he
     |some r2 =>
       simp[hq,hq2,Jg]at he
       obtain⟨v,hv,hrv⟩:=hx.get (j:=0) (a:=x) rfl
       obtain⟨u,hu,hru⟩:=hy.get (j:=0) (a:=y) rfl
       have hv':vs[n]? = some v:=by simpa using hv
       have hu':us[n]? = some u:=by simpa using hu
       have hagg:=U7 hk
       have hpv:(part f.type vs f.offset).run P w=.ok v w:=by simp[part,Xx hagg,hoff,hv']
       have hpu:(part f.type us f.offset).run P w=.ok u w:=by simp[part,Xx hagg,hoff,hu']
       have tail:∀{cs:List AV} {c:AV} {zs:Array Value},QL w F L (c::cs) (zs.toList.drop n)→QL w F L cs (zs.toList.drop (n+1)):=by
        intro cs c zs hz
        refine⟨by have:=hz.1;simp at this⊢;omega,fun i c' z' hc hz'=>?_⟩
        exact hz.2 (i+1) c' z' (by simpa using hc) (by
         rw[List.getElem?_drop]at hz'⊢
         rw[show n+(i+1)=n+1+i by omega];exact hz')
       have hfld:=ZIS (P:=P) (d:=d) hk hrv hru hq
       have ih:=ZIT (d:=d) hks (tail hx) (tail hy) hq2
       simp only[Op.eqFields,hname,ne_eq,not_false_eq_true,if_true,Sem.run_bind,hpv,hpu,Result.andThen_ok,hfld,Sem.run_ite,ih,Sem.run_pure]
       subst he
       cases r1<;>simp

theorem ZMw (s:Sim F L (b++l) w) (he:XH w F L e a) {op:BinOp} {t u:TypeId} {fs:Array Field} {ks:List FK} (ht:P.underlying t=some (.struct fs)) (hks:U6 P 0 fs.toList=some ks)
  (hst:P.stoodInHeld t=false) (hg:P.eqGuardType P.depth t=false) (hop:op=.eql∨op=.neq) {y z:Operand} {y' z':Opd} (ho:o.op=.binOp op t y z u) (hy:QK y=some y') (hz:QK z=some z')
  (h:aop e b l (.eqs (op==.neq) ks y' z')=.val x b' l'):Q3 P o a w F L b l x b' l':=by
 have h1:=ZX he hy
 have h2:=ZX he hz
 simp only[aop]at h
 generalize ev e y'=q at *
 generalize ev e z'=r at *
 split at h
 case h_2=>cases h
 rename_i xs ys
 split at h
 case h_2=>cases h
 rename_i r hr
 cases h
 obtain⟨vs,e1,l1⟩:=h1.aggL
 obtain⟨us,e2,l2⟩:=h2.aggL
 have hf:P.fieldsOf t=fs:=by simp[Program.fieldsOf,ht]
 have hrun:=ZIT (P:=P) (d:=9998) hks (vs:=vs) (us:=us) (by simpa using l1) (by simpa using l2) hr
 have hstr:=run_equalIn_struct w 9999 t vs us (by rw[hf];exact ht) hst
 rw[hf,hrun]at hstr
 rcases hop with rfl|rfl
 ·refine Q3.pure s (v:=.bool r) ?_ (ZG7 _)
  simp[execOp,ho,e1,e2,run_eqGuard_agg w _ t _ _ _ _ hg,run_eql_struct,hstr]
 ·refine Q3.pure s (v:=.bool (!r)) ?_ (ZG7 _)
  simp[execOp,ho,e1,e2,run_eqGuard_agg w _ t _ _ _ _ hg,run_neq_struct,hstr]
end
end Go.Proofs.YtoccdlnoaindmaaGreatDoor
namespace Go.Proofs.YtoccdlnoaindmaaGreatDoor
set_option linter.unusedVariables false

section
variable {P:Program} {w:World} {F:Nat→Prop} {L:LMap} {o:Oper} {a:Act} {e:List AV} {b l b' l':List Row} {x:AV}

theorem VM {xs:List (List AV)} {sz blk p:Nat} (hz:0<sz) (h1:∀(k:Nat) (row:List AV),xs[k]? = some row→row.length=sz)
  (h2:∀(k:Nat) (row:List AV) (j:Nat) (c:AV),xs[k]? = some row→row[j]? = some c→c.cell=true∧∃u,w.cell? ⟨blk,p+k*sz+j,none⟩=some u∧RepA w F L c u) :
  ∃news:Array Value,news.size=xs.length*sz∧ZBy w F L sz xs news∧(∀u∈news.toList,u.oneCell'=true)∧∀j u,news[j]? = some u→w.cell? ⟨blk,p+j,none⟩=some u:=by
 have hq:∀q,q<xs.length*sz→∃c u,w.cell? ⟨blk,p+q,none⟩=some u∧RepA w F L c u∧c.cell=true:=by
  intro q hq
  have hk:q / sz<xs.length:=by rw[Nat.div_lt_iff_lt_mul hz];exact hq
  have hrow:=List.getElem?_eq_getElem hk
  have hlen:=h1 _ _ hrow
  have hj:q % sz<xs[q / sz].length:=by rw[hlen];exact Nat.mod_lt _ hz
  obtain⟨c1,u,hu,hr⟩:=h2 _ _ _ _ hrow (List.getElem?_eq_getElem hj)
  have hqe:q / sz*sz+q % sz=q:=Nat.div_add_mod' q sz
  exact⟨_,u,by rw[←hqe,←Nat.add_assoc];exact hu,hr,c1⟩
 refine⟨(Array.range (xs.length*sz)).map fun q=>(w.cell? ⟨blk,p+q,none⟩).getD undef,by simp,⟨h1,fun k row j c hk hj=>?_⟩,fun u hu=>?_,fun j u hju=>?_⟩
 ·obtain⟨c1,u,hu,hr⟩:=h2 k row j c hk hj
  have hkl:k<xs.length:=(List.getElem?_eq_some_iff.1 hk).1
  have hjl:j<sz:=by rw[←h1 k row hk];exact (List.getElem?_eq_some_iff.1 hj).1
  have hlt:k*sz+j<xs.length*sz:=by have:=JR (sz:=sz) (j:=j) (n:=1) hkl oM;omega
  refine⟨c1,u,?_,hr⟩
  rw[Nat.add_assoc]at hu
  simp[hlt,hu]
 ·simp at hu
  obtain⟨q,hql,rfl⟩:=hu
  obtain⟨c,u,h3,h4,h5⟩:=hq q hql
  rw[h3]
  exact h4.one h5
 ·simp at hju
  obtain⟨hjl,rfl⟩:j<xs.length*sz∧(w.cell? ⟨blk,p+j,none⟩).getD undef=u:=by
   rw[Array.getElem?_range]at hju
   split at hju
   ·rename_i hlt;exact⟨hlt,by simpa using hju⟩
   ·simp at hju
  obtain⟨c,u,h3,h4,h5⟩:=hq j hjl
  rw[h3];rfl

theorem ZT {sz n:Nat} {blk p len cap:Nat} {news:Array Value} (h:∀j u,news[j]? = some u→w.cell? ⟨blk,p+j,none⟩=some u) (hn:n*sz≤news.size) {w2:World} (hw:w2.heap=w.heap) :
  (Builtin.firstCells sz n (.slice (some ⟨blk,p,none⟩) len cap)).run P w2=.ok (news.extract 0 (n*sz)) w2:=by
 have:=run_loadCells_list (P:=P) w2 ⟨blk,p,none⟩ (news.extract 0 (n*sz)).toList (fun j u hu=>by
  rw[Addr.add_lit]
  have hc:w2.cell? ⟨blk,p+j,none⟩=w.cell? ⟨blk,p+j,none⟩:=World.cell?_of_block (by rw[hw])
  rw[hc]
  refine h j u ?_
  simp only[Array.toList_extract,List.extract_eq_take_drop,Nat.sub_zero,List.drop_zero,List.getElem?_take]at hu
  split at hu
  ·simpa using hu
  ·cases hu)
 have hl:(news.extract 0 (n*sz)).toList.length=n*sz:=by simp;omega
 rw[hl,Array.toArray_toList]at this
 exact this

theorem Kl (s:Sim F L (b++l) w) {sz:Nat} (hz:0<sz) {q:AV} {v:Value} {xs:List (List AV)} (h:Xs b l sz q=some xs) (hr:RepA w F L q v) :
  (∀w2,(Builtin.lenOf v).run P w2=.ok xs.length w2)∧∃news:Array Value,news.size=xs.length*sz∧ZBy w F L sz xs news∧(∀u∈news.toList,u.oneCell'=true) ∧
   ∀n w2,n≤xs.length→w2.heap=w.heap→(Builtin.firstCells sz n v).run P w2=.ok (news.extract 0 (n*sz)) w2:=by
 have empty:∀(ad:Option Addr) (c:Nat),v=.slice ad 0 c→xs=[]→(∀w2,(Builtin.lenOf v).run P w2=.ok xs.length w2)∧∃news:Array Value,news.size=xs.length*sz∧ZBy w F L sz xs news∧(∀u∈news.toList,u.oneCell'=true) ∧
   ∀n w2,n≤xs.length→w2.heap=w.heap→(Builtin.firstCells sz n v).run P w2=.ok (news.extract 0 (n*sz)) w2:=by
  intro ad c hv hx
  subst hv;subst hx
  refine⟨fun w2=>by simp[Builtin.lenOf],#[],by simp,⟨by simp,by simp⟩,by simp,fun n w2 hn _=>?_⟩
  have:n=0:=by simpa using hn
  subst this
  cases ad<;>simp[Builtin.firstCells,loadCells,loadCellsFrom]
 unfold Xs at h
 split at h
 ·cases h
  cases hr.vI
  exact empty _ _ rfl rfl
 ·rename_i s0 rows
  split at h
  case isFalse=>cases h
  rename_i hs
  subst hs
  cases h
  cases hr.vI with
  |isl0 _ ad c=>exact empty _ _ rfl rfl
  |isl _ b1 off _ c val h1 h2 h3 h4 h5 h6 =>
    obtain⟨news,n1,n2,n3,n4⟩:=VM (w:=w) (F:=F) (L:=L) (xs:=rows.map (·.map .v)) (blk:=b1) (p:=off) hz (fun k row hk=>by
     rw[List.getElem?_map]at hk
     cases hq:rows[k]? with
     |none=>simp[hq]at hk
     |some r0=>simp[hq]at hk;subst hk;simpa using h4 k r0 hq) (fun k row j c hk hj=>by
     rw[List.getElem?_map]at hk
     cases hq:rows[k]? with
     |none=>simp[hq]at hk
     |some r0 =>
       simp[hq]at hk
       subst hk
       rw[List.getElem?_map]at hj
       cases hq2:r0[j]? with
       |none=>simp[hq2]at hj
       |some y =>
         simp[hq2]at hj
         subst hj
         exact⟨rfl,_,h5 k r0 j y hq hq2,.v _ _ (h6 k r0 j y hq hq2)⟩)
    refine⟨fun w2=>by simp[Builtin.lenOf],news,n1,n2,n3,fun n w2 hn hw=>ZT n4 (by rw[n1];exact Nat.mul_le_mul_right _ hn) hw⟩
 ·rename_i id ver off len
  split at h
  case h_2=>cases h
  rename_i v0 s0 els hg
  split at h
  case isFalse=>cases h
  rename_i hs
  obtain⟨rfl,rfl,hle⟩:=hs
  cases h
  rw[Qq]at hg
  cases hr with
  |sl _ _ _ _ b1 o1 z1 c1 hL h1 h2 =>
    obtain⟨lc,k1,k2⟩:=s.row _ _ _ _ hg
    rw[hL]at k1;cases k1
    obtain⟨rfl,k3,k4,cur,T,k5,k6,k7,k8⟩:=k2
    have hel:∀(k:Nat) (row:List AV),((els.drop off).take len)[k]? = some row→els[off+k]? = some row:=by
     intro k row hk
     rw[List.getElem?_take]at hk
     split at hk
     ·rwa [List.getElem?_drop]at hk
     ·cases hk
    obtain⟨news,n1,n2,n3,n4⟩:=VM (w:=w) (F:=F) (L:=L) (xs:=(els.drop off).take len) (blk:=b1) (p:=o1+off*z1) hz (fun k row hk=>k7 _ _ (hel k row hk)) (fun k row j c hk hj=>by
     obtain⟨c1,u,hu,hru⟩:=k8 _ _ j c (hel k row hk) hj
     refine⟨c1,u,?_,hru⟩
     rw[Nat.add_mul]at hu
     simp[World.cell?,k5,←Nat.add_assoc]at hu⊢
     exact hu)
    have hlen:((els.drop off).take len).length=len:=by simp;omega
    refine⟨fun w2=>by rw[hlen];simp[Builtin.lenOf],news,n1,n2,n3,fun n w2 hn hw=>ZT n4 (by rw[n1];exact Nat.mul_le_mul_right _ hn) hw⟩
  |slz _ _ _ b1 o1 z1 c1 x1 hL hoff=>exact empty _ _ rfl (by simp)
  |sln _ _ ad hL=>exact empty _ _ rfl (by simp)
 ·rename_i str
  split at h
  case isFalse=>cases h
  rename_i hs
  subst hs
  cases h
  have hv:=ZDT hr
  subst hv
  have hsz:str.data.size=str.size:=rfl
  refine⟨fun w2=>by simp[Builtin.lenOf,hsz],str.data.map fun c=>.int .u8 c.toNat,by simp,⟨fun k row hk=>?_,fun k row j c hk hj=>?_⟩,fun u hu=>?_,fun n w2 hn hw=>?_⟩
  ·rw[List.getElem?_map]at hk
   cases hq:str.data.toList[k]? with
   |none=>simp[hq]at hk
   |some c=>simp[hq]at hk;subst hk;rfl
  ·rw[List.getElem?_map]at hk
   cases hq:str.data.toList[k]? with
   |none=>simp[hq]at hk
   |some ch =>
     simp[hq]at hk
     subst hk
     cases j with
     |succ j=>simp at hj
     |zero =>
       simp at hj
       subst hj
       refine⟨rfl,.int .u8 ch.toNat,?_,toN _ _⟩
       have:str.data[k]? = some ch:=by simpa using hq
       simp[this]
  ·simp at hu
   obtain⟨c,_,rfl⟩:=hu
   rfl
  ·simp[Builtin.firstCells]
 ·cases h

theorem ZDY {xs:List (List AV)} {ns:List Int} (h:ZCU xs=some ns) {news:Array Value} (hs:news.size=xs.length*1) (hr:ZBy w F L 1 xs news):news=(ns.map (Value.int .u8)).toArray:=by
 have key:∀(xs:List (List AV)) (ns:List Int),ZCU xs=some ns→xs.length=ns.length∧∀(k:Nat) (n:Int),ns[k]? = some n→xs[k]? = some [.v (.int .u8 n)]:=by
  intro xs
  induction xs with
  |nil=>intro ns h;cases h;exact⟨rfl,by simp⟩
  |cons x xs ih =>
    intro ns h
    unfold ZCU at h
    split at h
    ·rename_i h0;cases h0
    ·rename_i n rs h0
     cases h0
     obtain⟨ms,h1,h2⟩:=Option.map_eq_some_iff.1 h
     subst h2
     obtain⟨i1,i2⟩:=ih ms h1
     refine⟨by simp[i1],fun k m hk=>?_⟩
     cases k with
     |zero=>simp at hk⊢;exact hk
     |succ k=>simp at hk⊢;exact i2 k m hk
    ·cases h
 obtain⟨k1,k2⟩:=key xs ns h
 apply Array.ext_getElem?
 intro j
 by_cases hj:j<ns.length
 ·have hn:=k2 j ns[j] (List.getElem?_eq_getElem hj)
  obtain⟨_,u,g1,g2⟩:=hr.2 j _ 0 _ hn rfl
  rw[UW g2]at g1
  simp only[Nat.mul_one,Nat.add_zero]at g1
  rw[g1]
  simp[hj]
 ·rw[Array.getElem?_eq_none oM,Array.getElem?_eq_none (by simp;omega)]
theorem ZJ9 (s:Sim F L (b++l) w) (he:XH w F L e a) {t u el:TypeId} (ht:P.underlying t=some (.slice el)) (hel:P.underlying el=some (.int .u8)) (hu:P.underlying u=some .string) {y:Operand} {z:Opd} (ho:o.op=.convert t u y) (hy:QK y=some z)
  (h:aop e b l (.tostr z)=.val x b' l'):Q3 P o a w F L b l x b' l':=by
 have hr:=ZX he hy
 simp only[aop]at h
 generalize ev e z=q at *
 generalize hv:a.eval y=v at hr
 unfold XA at h
 split at h
 ·cases h
 rename_i hns
 split at h
 case h_2=>cases h
 rename_i xs hxs
 split at h
 case h_2=>cases h
 rename_i ns hnn
 cases h
 obtain⟨h1,news,n1,n2,_,n4⟩:=Kl s (P:=P) (sz:=1) (by decide) hxs hr
 obtain⟨ad,len,cap,rfl⟩:∃ad len cap,v=.slice ad len cap:=by
  unfold Xs at hxs
  split at hxs
  ·cases hr.vI;exact⟨_,_,_,rfl⟩
  ·split at hxs
   ·cases hr.vI<;>exact⟨_,_,_,rfl⟩
   ·cases hxs
  ·cases hr<;>exact⟨_,_,_,rfl⟩
  ·exact absurd rfl (hns _)
  ·cases hxs
 have hlen:len=xs.length:=by
  have:=h1 w
  simp[Builtin.lenOf]at this
  exact this
 have hnw:=ZDY hnn n1 n2
 have hf:=n4 len w oM rfl
 have hsz:news.size=len:=by omega
 have hall:news.extract 0 (len*1)=news:=by
  apply Array.ext_getElem?
  intro j
  rw[Array.getElem?_extract]
  by_cases hj:j<news.size
  ·rw[if_pos oM,Nat.zero_add]
  ·rw[if_neg oM,Array.getElem?_eq_none oM]
 rw[hall,hnw]at hf
 refine Q3.pure s (v:=.string (ZGi ns)) ?_ (toS _)
 have hc:(convert t u (.slice ad len cap)).run P w=.ok (.string (ZGi ns)) w:=by
  rw[run_convert_bytes_string w t u el ad len cap ht hel hu]
  cases ad with
  |none =>
    have h0:(ns.map (Value.int .u8)).toArray=#[]:=by
     simp[Builtin.firstCells]at hf
     simp[hf]
    have:ns=[]:=by simpa using h0
    subst this
    simp[Conv.bytesToString,ZGi]
    rfl
  |some ad =>
    have hl:(loadCells ad len).run P w=.ok (ns.map (Value.int .u8)).toArray w:=by
     simpa [Builtin.firstCells] using hf
    rw[run_bytesToString w ad len cap ns hl]
    have key:∀(ns:List Int) (s:ByteArray),ns.foldl (fun r n=>r.push (UInt8.ofNat n.toNat)) s=⟨s.data++(ns.map fun n=>UInt8.ofNat n.toNat).toArray⟩:=by
     intro ns
     induction ns with
     |nil=>intro s;simp
     |cons n ns ih=>intro s;rw[List.foldl_cons,ih];simp[ByteArray.push]
    rw[key]
    simp[ZGi,ByteArray.empty,ByteArray.emptyWithCapacity]
    try rfl
 simp[execOp,ho,hv,hc]

theorem notInt_or {d:TypeDesc} (h:ZAK (some d)=true):(∃el,d=.slice el)∨d=.string:=by
 cases d<;>first|(cases h;done)|exact .inl ⟨_,rfl⟩|exact .inr rfl

theorem YR {t u el ty:TypeId} {du:TypeDesc} {sz:Nat} (ht:P.underlying t=some (.slice el)) (hu:P.underlying u=some du) (hd:ZAK (some du)=true) (hs:Xw P el=some sz)
  {blk p len cap m:Nat} {vx:Value} {news cur:Array Value} {T:TypeId} (hl:(Builtin.lenOf vx).run P w=.ok m w) (hf:(Builtin.firstCells sz m vx).run P w=.ok news w) (hn:news.size=m*sz)
  (hroom:len+m≤cap) (hcur:w.heap[blk]? = some (.cells cur T (0,0))) (hfit:p+len*sz+m*sz≤cur.size) (h1:∀u∈news.toList,u.oneCell'=true) :
  (Builtin.append_ #[t,u] ty #[.slice (some ⟨blk,p,none⟩) len cap,vx]).run P w=.ok (.slice (some ⟨blk,p,none⟩) (len+m) cap) (w.setRow blk (cur.toList.take (p+len*sz)++news.toList++cur.toList.drop (p+len*sz+news.toList.length)).toArray):=by
 have hst:=run_storeCells_at P blk (p+len*sz) T news.toList 0 cur w hcur (by simp;omega) h1
 simp only[Nat.add_zero]at hst
 rcases notInt_or hd with ⟨el',rfl⟩|rfl<;>simp[Builtin.append_,run_underlying ht,run_underlying hu,ZW hs,hl,hroom,hf,Addr.add_lit,hst]

theorem Y9 {t u el ty:TypeId} {du:TypeDesc} {sz bytes:Nat} {i:TypeInfo} {z:Value} (ht:P.underlying t=some (.slice el)) (hu:P.underlying u=some du) (hd:ZAK (some du)=true) (hs:Xw P el=some sz)
  (hi:P.info? el=some i) (hz:i.zero=some z) (hby:i.bytes=bytes)
  {base:Option Addr} {len cap m:Nat} {vx:Value} {olds news:Array Value} (hl:(Builtin.lenOf vx).run P w=.ok m w)
  (hf:(Builtin.firstCells sz m vx).run P w.drew=.ok news w.drew) (ho:(Builtin.firstCells sz len (.slice base len cap)).run P w.drew=.ok olds w.drew)
  (hroom:cap<len+m) (hbytes:(len+m)*bytes≤140737488355328) (hm:len+m≤140737488355328) (h0:0<bytes) :
  (Builtin.append_ #[t,u] ty #[.slice base len cap,vx]).run P w=.ok (.slice (some ⟨w.heap.size,0,none⟩) (len+m) (grownCap w (len+m) cap el))
    (w.drew.alloc (.cells (olds++news++Builtin.zeroCells z.cells (grownCap w (len+m) cap el-(len+m))) el)):=by
 have hn:¬(len+m≤cap):=by omega
 have h63:¬(9223372036854775807<((len:Int)+(m:Int))):=by omega
 have hfits:=growslice_fits (need:=len+m) (old:=cap) (bytes:=bytes) hroom hbytes
 have h48:¬(281474976710656<Builtin.nextslicecap (len+m) cap*i.bytes):=by rw[hby];omega
 rcases notInt_or hd with ⟨el',rfl⟩|rfl<;>simp[Builtin.append_,run_underlying ht,run_underlying hu,ZW hs,typeInfo,zeroValue,hi,hz,hl,hn,h63,h48,Question.forced,ho,hf,newRow,grownCap]
end
end Go.Proofs.YtoccdlnoaindmaaGreatDoor
namespace Go.Proofs.YtoccdlnoaindmaaGreatDoor
set_option linter.unusedVariables false

section
variable {P:Program} {w:World} {F:Nat→Prop} {L:LMap} {o:Oper} {a:Act} {e:List AV} {b l b' l':List Row} {x:AV}

theorem ZBy.append {sz:Nat} {xs ys:List (List AV)} {us vs zs:Array Value} (h:ZBy w F L sz xs us) (k:ZBy w F L sz ys vs) (hu:us.size=xs.length*sz) (hv:vs.size=ys.length*sz):ZBy w F L sz (xs++ys) (us++vs++zs):=by
 refine⟨fun i row hi=>?_,fun i row j c hi hj=>?_⟩
 ·by_cases hlt:i<xs.length
  ·rw[List.getElem?_append_left hlt]at hi;exact h.1 i row hi
  ·rw[List.getElem?_append_right oM]at hi;exact k.1 _ row hi
 ·by_cases hlt:i<xs.length
  ·rw[List.getElem?_append_left hlt]at hi
   obtain⟨h1,u,h2,h3⟩:=h.2 i row j c hi hj
   have:i*sz+j<us.size:=(Array.getElem?_eq_some_iff.1 h2).1
   exact⟨h1,u,by rw[Array.append_assoc,Array.getElem?_append_left this];exact h2,h3⟩
  ·rw[List.getElem?_append_right oM]at hi
   obtain⟨h1,u,h2,h3⟩:=k.2 _ row j c hi hj
   have h4:(i-xs.length)*sz+j<vs.size:=(Array.getElem?_eq_some_iff.1 h2).1
   have h5:i*sz=xs.length*sz+(i-xs.length)*sz:=by rw[←Nat.add_mul];congr 1;omega
   refine⟨h1,u,?_,h3⟩
   rw[Array.getElem?_append_left (by simp;omega),Array.getElem?_append_right oM]
   rw[show i*sz+j-us.size=(i-xs.length)*sz+j by omega]
   exact h2

theorem JB {t u el ty:TypeId} {du:TypeDesc} {sz:Nat} (ht:P.underlying t=some (.slice el)) (hu:P.underlying u=some du) (hd:ZAK (some du)=true) (hs:Xw P el=some sz)
  {base:Option Addr} {len cap:Nat} {vx:Value} (hl:(Builtin.lenOf vx).run P w=.ok 0 w) (hf:(Builtin.firstCells sz 0 vx).run P w=.ok #[] w) (hle:len≤cap) :
  (Builtin.append_ #[t,u] ty #[.slice base len cap,vx]).run P w=.ok (.slice base len cap) w:=by
 rcases notInt_or hd with ⟨el',rfl⟩|rfl<;>cases base<;>simp[Builtin.append_,run_underlying ht,run_underlying hu,ZW hs,hl,hf,hle,storeCells]

theorem Sim.bumpNil {h:List Row} (s:Sim F L h w) {id ver sz:Nat} {els:List (List AV)} (hr:h[id]? = some (.live ver sz els)) (hL:L id ver=some .nil) :
  ∃L':LMap,Sim F L' (h.set id (.live (ver+1) sz [])) w∧Step h.length F L h w F L' (h.set id (.live (ver+1) sz [])) w∧L' id (ver+1)=some .nil∧∀i v l,L i v=some l→L' i v=some l:=by
 have hid:id<h.length:=(List.getElem?_eq_some_iff.1 hr).1
 have hfresh:L id (ver+1)=none:=by
  cases hq:L id (ver+1) with
  |none=>rfl
  |some q =>
    obtain⟨r,h1,h2⟩:=s.born _ _ _ hq
    rw[hr]at h1;cases h1
    simp[Row.ver]at h2
    omega
 obtain⟨L',hLn,hLm,hLo⟩:∃L':LMap,L' id (ver+1)=some .nil∧(∀i v l,L i v=some l→L' i v=some l)∧∀i v,(i≠id∨v≠ver+1)→L' i v=L i v:=by
  refine⟨fun i v=>if i=id∧v=ver+1 then some .nil else L i v,by simp,?_,?_⟩
  ·intro i v q hl
   by_cases hi:i=id∧v=ver+1
   ·obtain⟨rfl,rfl⟩:=hi
    rw[hfresh]at hl;cases hl
   ·simp[hi,hl]
  ·intro i v hi
   have:¬(i=id∧v=ver+1):=fun ⟨a,b⟩=>hi.elim (fun h=>h a) (fun h=>h b)
   simp[this]
 have mono:∀{x:AV} {v:Value},RepA w F L x v→RepA w F L' x v:=fun hx=>hx.mono (fun _ h=>h) (fun _ _=>rfl) hLm
 have own:∀k,Qz L' (h.set id (.live (ver+1) sz [])) k→Qz L h k:=by
  rintro k ⟨i,v,z,e1,q1,h1,h2,h3⟩
  by_cases hi:i=id
  ·subst hi
   rw[List.getElem?_set_self hid]at h1;cases h1
   rw[hLn]at h2;cases h2
   exact h3.elim
  ·rw[List.getElem?_set_ne (Ne.symm hi)]at h1
   rw[hLo i v (.inl hi)]at h2
   exact⟨i,v,z,e1,q1,h1,h2,h3⟩
 refine⟨L',⟨?_,?_,?_,fun k hk=>⟨(s.imm k hk).1,fun ho=>(s.imm k hk).2 (own k ho)⟩,s.glob⟩,⟨fun _ h=>h,fun i v l _ hl=>hLm i v l hl,rfl,rfl,rfl,Nat.le_refl _,fun _ _ _=>rfl,fun k _ ho=>own k ho,?_,fun _ _ h=>.inl h⟩,hLn,hLm⟩
 ·intro j v z e1 hj
  by_cases hji:j=id
  ·subst hji
   rw[List.getElem?_set_self hid]at hj
   cases hj
   exact⟨.nil,hLn,rfl⟩
  ·rw[List.getElem?_set_ne (Ne.symm hji)]at hj
   obtain⟨l,hl1,hl2⟩:=s.row j v z e1 hj
   exact⟨l,hLm _ _ _ hl1,hl2.mono (fun _ _=>rfl) (fun _ _=>mono)⟩
 ·intro i v l hl1
  by_cases hi:i=id
  ·subst hi
   refine⟨_,List.getElem?_set_self hid,?_⟩
   by_cases hv:v=ver+1
   ·subst hv;exact Nat.le_refl _
   ·rw[hLo i v (.inr hv)]at hl1
    obtain⟨r,h1,h2⟩:=s.born _ _ _ hl1
    rw[hr]at h1;cases h1
    exact Nat.le_trans h2 (Nat.le_succ _)
  ·rw[hLo i v (.inl hi)]at hl1
   obtain⟨r,h1,h2⟩:=s.born _ _ _ hl1
   exact⟨r,by rw[List.getElem?_set_ne (Ne.symm hi)];exact h1,h2⟩
 ·intro i i' v v' z z' e1 e2 b q1 q2 h1 h2 h3 h4 h5 h6
  by_cases hi:i=id
  ·subst hi
   rw[List.getElem?_set_self hid]at h1;cases h1
   rw[hLn]at h3;cases h3
   exact h5.elim
  ·by_cases hi':i'=id
   ·subst hi'
    rw[List.getElem?_set_self hid]at h2;cases h2
    rw[hLn]at h4;cases h4
    exact h6.elim
   ·rw[List.getElem?_set_ne (Ne.symm hi)]at h1
    rw[List.getElem?_set_ne (Ne.symm hi')]at h2
    rw[hLo i v (.inl hi)]at h3
    rw[hLo i' v' (.inl hi')]at h4
    exact s.apart i i' v v' z z' e1 e2 b q1 q2 h1 h2 h3 h4 h5 h6
 ·intro i hi v hv
  by_cases hii:i=id
  ·subst hii;rw[hr]at hv;cases hv
  ·rw[List.getElem?_set_ne (Ne.symm hii)];exact hv

theorem Ut {h:List Row} (s:Sim F L h w) {id ver sz:Nat} {els:List (List AV)} (hr:h[id]? = some (.live ver sz els)):L id (ver+1)=none:=by
 cases hq:L id (ver+1) with
 |none=>rfl
 |some q =>
   obtain⟨r,h1,h2⟩:=s.born _ _ _ hq
   rw[hr]at h1;cases h1
   simp[Row.ver]at h2
   omega

theorem ZHY (s:Sim F L (b++l) w) (he:XH w F L e a) {c:Call} {t u el:TypeId} {sz bytes:Nat} {zs:List AV} (ht:P.underlying t=some (.slice el)) (hu:ZAK (P.underlying u)=true)
  (hs:Xw P el=some sz) (hby:ZDA P el=some bytes) (hz:Yi P el=some zs) (hzl:zs.length=sz) (h0:0<sz) (hb0:0<bytes)
  {y z:Operand} {y' z':Opd} (hc:c.callee=.builtin .append) (ha:c.args.toList=[y,z]) (hts:c.argTypes.toList=[t,u]) (ho:o.op=.call c) (hy:QK y=some y') (hz':QK z=some z')
  (h:aop e b l (.append sz bytes y' z')=.val x b' l'):Q3 P o a w F L b l x b' l':=by
 obtain⟨i,zv,hi,hzz,hzc⟩:=XL hz
 obtain⟨c1,c2⟩:=YG (w:=w) (F:=F) (L:=L) hzc
 have hzv:zv.cells.size=sz:=by have:=c1.1;simp at this;omega
 have hbz:i.bytes=bytes:=by simp[ZDA,hi]at hby;exact hby
 obtain⟨du,hdu,hd⟩:∃du,P.underlying u=some du∧ZAK (some du)=true:=by
  cases hq:P.underlying u with
  |none=>rw[hq]at hu;cases hu
  |some du=>rw[hq]at hu;exact⟨du,rfl,hu⟩
 have h1:=ZX he hy
 have h2:=ZX he hz'
 simp only[aop]at h
 generalize ev e y'=q at *
 generalize ev e z'=r at *
 have hexec:∀v w',(Builtin.append_ #[t,u] o.type #[a.eval y,a.eval z]).run P w=.ok v w'→(execOp a.eval o).run P w=.ok (.value v) w':=by
  intro v w' hr
  rw[XF ho hc ha hts]
  simp[invoke,builtin,hr]
 unfold Q2 at h
 split at h
 case h_1=>cases h
 rename_i xs hxs
 obtain⟨hlen,news,n1,n2,n3,n4⟩:=Kl (P:=P) s h0 hxs h2
 have hzero:xs.length=0→(Builtin.firstCells sz 0 (a.eval z)).run P w=.ok #[] w:=by
  intro hx
  have:=n4 0 w (Nat.zero_le _) rfl
  simpa using this
 have hnews:news.extract 0 (xs.length*sz)=news:=by rw[←n1];simp
 have hf:∀w2,w2.heap=w.heap→(Builtin.firstCells sz xs.length (a.eval z)).run P w2=.ok news w2:=by
  intro w2 hw
  have:=n4 xs.length w2 (Nat.le_refl _) hw
  rwa [hnews]at this
 split at h
 ·split at h
  ·rename_i hx0
   cases h
   obtain⟨ad,hv⟩:∃ad,a.eval y=.slice ad 0 0:=by
    generalize a.eval y=v at h1
    cases h1.vI;exact⟨_,rfl⟩
   refine Q3.pure s (v:=a.eval y) (hexec _ _ ?_) h1
   rw[hv]
   have hl0:=hlen w
   rw[hx0]at hl0
   exact JB ht hdu hd hs hl0 (hzero (by rw[hx0];rfl)) (Nat.le_refl _)
  ·rename_i hx0
   split at h
   case isFalse=>cases h
   rename_i hb
   unfold room at hb
   obtain⟨ad,hv⟩:∃ad,a.eval y=.slice ad 0 0:=by
    generalize a.eval y=v at h1
    cases h1.vI;exact⟨_,rfl⟩
   have hpos:0<xs.length:=by cases xs with
    |nil=>exact absurd rfl hx0
    |cons _ _=>simp
   have hold:(Builtin.firstCells sz 0 (.slice ad 0 0)).run P w.drew=.ok #[] w.drew:=by
    cases ad<;>simp[Builtin.firstCells,loadCells,loadCellsFrom]
   have hrun:=Y9 (P:=P) (w:=w) (ty:=o.type) ht hdu hd hs hi hzz hbz (base:=ad) (len:=0) (cap:=0) (hlen w) (hf _ rfl) hold oM (by simpa using hb.1) (by simpa using hb.2) hb0
   rw[←hv]at hrun
   simp only[Nat.zero_add,Array.empty_append]at hrun
   have hge:=grownCap_ge w xs.length 0 el
   have hcm:grownCap w xs.length 0 el≤maxLen:=grownCap_le_maxLen w _ 0 el (by unfold maxLen;omega)
   refine ZFZ s (w':=w.drew.alloc (.cells (news++Builtin.zeroCells zv.cells (grownCap w xs.length 0 el-xs.length)) el)) (cur:=news++Builtin.zeroCells zv.cells (grownCap w xs.length 0 el-xs.length)) (T:=el) (cap:=grownCap w xs.length 0 el)
    (v:=.slice (some ⟨w.heap.size,0,none⟩) xs.length (grownCap w xs.length 0 el)) (.inl (hexec _ _ hrun)) rfl rfl rfl rfl hge hcm ?_ n2.1 ?_ ?_ h
   ·rw[Array.size_append,size_zeroCells,n1,hzv,←Nat.add_mul]
    exact Nat.mul_le_mul_right _ oM
   ·intro k row j cc hk hj
    obtain⟨g1,v,g2,g3⟩:=n2.2 k row j cc hk hj
    exact⟨g1,v,by rw[Array.getElem?_append_left (Array.getElem?_eq_some_iff.1 g2).1];exact g2,g3⟩
   ·intro L' hL'
    have:=RepA.sl (w:=w.drew.alloc (.cells (news++Builtin.zeroCells zv.cells (grownCap w xs.length 0 el-xs.length)) el)) (F:=F) (b.length+l.length) 0 0 xs.length _ _ _ _ hL' oM hcm
    simpa using this
 ·rename_i id ver off len
  split at h
  case h_2=>cases h
  rename_i v0 s0 els hg
  split at h
  case isFalse=>cases h
  rename_i hb
  obtain⟨rfl,rfl,hle,hbytes,hroom⟩:=hb
  unfold room at hbytes hroom
  cases h
  have hg':(b++l)[id]? = some (.live v0 s0 els):=by rw[←Qq];exact hg
  have hid:id<(b++l).length:=(List.getElem?_eq_some_iff.1 hg').1
  have hfr:=Ut s hg'
  have hel:Xs b l s0 (.sl id v0 off len)=some ((els.drop off).take len):=by simp[Xs,hg,hle]
  obtain⟨klen,olds,m1,m2,m3,m4⟩:=Kl (P:=P) s h0 hel h1
  have holen:((els.drop off).take len).length=len:=by simp;omega
  rw[holen]at m1 m4 klen
  have holds:olds.extract 0 (len*s0)=olds:=by rw[←m1];simp
  have grow:∀base cap,a.eval y=.slice base len cap→cap<len+xs.length→Q3 P o a w F L b l (.sl id (v0+1) 0 (len+xs.length)) (YA b id (.live (v0+1) s0 ((els.drop off).take len++xs))) (YP b l id (.live (v0+1) s0 ((els.drop off).take len++xs))):=by
   intro base cap hv hlt
   have ho2:=m4 len w.drew (Nat.le_refl _) rfl
   rw[hv,holds]at ho2
   have hrun:=Y9 (P:=P) (w:=w) (ty:=o.type) ht hdu hd hs hi hzz hbz (hlen w) (hf _ rfl) ho2 hlt hbytes hroom hb0
   rw[←hv]at hrun
   have hge:=grownCap_ge w (len+xs.length) cap el
   have hcm:grownCap w (len+xs.length) cap el≤maxLen:=grownCap_le_maxLen w _ cap el (by unfold maxLen;omega)
   obtain⟨L',r1,r2,r3,r4⟩:=s.putRow (h':=(b++l).set id (.live (v0+1) s0 ((els.drop off).take len++xs))) (w':=w.drew.alloc (.cells (olds++news++Builtin.zeroCells zv.cells (grownCap w (len+xs.length) cap el-(len+xs.length))) el))
    id (v0+1) s0 w.heap.size 0 (grownCap w (len+xs.length) cap el) ((els.drop off).take len++xs) rfl rfl rfl (by simp) (fun k hk _=>heap_alloc_old w.drew _ k hk) (.inl (Nat.le_refl _))
    (List.getElem?_set_self hid) (fun j hj=>List.getElem?_set_ne (Ne.symm hj)) (fun r hr=>by rw[hg']at hr;cases hr;exact⟨Nat.le_succ _,_,_,_,rfl⟩) (.inl hfr)
    (by rw[List.length_append,holen];exact hge) hcm (olds++news++Builtin.zeroCells zv.cells (grownCap w (len+xs.length) cap el-(len+xs.length))) el (heap_alloc_new w.drew _)
    (by
     rw[Array.size_append,Array.size_append,size_zeroCells,n1,m1,hzv,←Nat.add_mul,←Nat.add_mul,Nat.zero_add]
     exact Nat.mul_le_mul_right _ oM)
    (ZBy.append m2 n2 (by rw[holen];exact m1) n1 (zs:=Builtin.zeroCells zv.cells (grownCap w (len+xs.length) cap el-(len+xs.length)))).1
    (fun k row j cc hk hj=>by simpa using (ZBy.append m2 n2 (by rw[holen];exact m1) n1 (zs:=Builtin.zeroCells zv.cells (grownCap w (len+xs.length) cap el-(len+xs.length)))).2 k row j cc hk hj)
   refine⟨_,_,L',.inl (hexec _ _ hrun),?_,by rw[XX];exact r1,by rw[XX];exact r2,Xz _ _ _⟩
   have:=RepA.sl (w:=w.drew.alloc (.cells (olds++news++Builtin.zeroCells zv.cells (grownCap w (len+xs.length) cap el-(len+xs.length))) el)) (F:=F) id (v0+1) 0 (len+xs.length) _ _ _ _ r3 oM hcm
   simpa using this
  generalize hv:a.eval y=vy at h1
  cases h1 with
  |sl _ _ _ _ b1 o1 z1 cap1 hL g1 g2 =>
    by_cases hfit:len+xs.length≤cap1-off
    ·obtain⟨lc,k1,k2⟩:=s.row _ _ _ _ hg'
     rw[hL]at k1;cases k1
     obtain⟨rfl,k3,k4,cur,T,k5,k6,k7,k8⟩:=k2
     have hmul:(off+(len+xs.length))*z1≤cap1*z1:=Nat.mul_le_mul_right _ oM
     rw[Nat.add_mul,Nat.add_mul]at hmul
     have hrun:=YR (P:=P) (w:=w) (ty:=o.type) (p:=o1+off*z1) ht hdu hd hs (hlen w) (hf _ rfl) n1 hfit k5 oM n3
     rw[←hv]at hrun
     have hnl:news.toList.length=xs.length*z1:=by simpa using n1
     have hcl:cur.toList.length=cur.size:=by simp
     have hcurlen:(cur.toList.take (o1+off*z1+len*z1)++news.toList++cur.toList.drop (o1+off*z1+len*z1+news.toList.length)).toArray.size=cur.size:=by
      simp only[List.size_toArray,List.length_append,List.length_take,List.length_drop,hnl,hcl]
      omega
     have hget:∀i,(cur.toList.take (o1+off*z1+len*z1)++news.toList++cur.toList.drop (o1+off*z1+len*z1+news.toList.length)).toArray[i]? = if o1+off*z1+len*z1≤i∧i<o1+off*z1+len*z1+xs.length*z1 then news[i-(o1+off*z1+len*z1)]? else cur[i]?:=by
      intro i
      have:=J5 cur.toList news.toList (o1+off*z1+len*z1) i (by rw[hnl,hcl];omega)
      simp only[List.getElem?_toArray]
      rw[this,hnl]
      simp
     obtain⟨L',r1,r2,r3,r4⟩:=s.putRow (h':=(b++l).set id (.live (v0+1) z1 ((els.drop off).take len++xs))) (w':=w.setRow b1 (cur.toList.take (o1+off*z1+len*z1)++news.toList++cur.toList.drop (o1+off*z1+len*z1+news.toList.length)).toArray)
      id (v0+1) z1 b1 (o1+off*z1) (cap1-off) ((els.drop off).take len++xs) rfl rfl rfl (by simp) (fun i _ hi=>setRow_other w b1 i _ hi) (.inr ⟨_,_,_,_,_,_,hg',hL⟩)
      (List.getElem?_set_self hid) (fun j hj=>List.getElem?_set_ne (Ne.symm hj)) (fun r hr=>by rw[hg']at hr;cases hr;exact⟨Nat.le_succ _,_,_,_,rfl⟩) (.inl hfr)
      (by rw[List.length_append,holen];exact hfit) oM _ T (setRow_heap w b1 cur _ T _ k5)
      (by
       rw[hcurlen]
       have:off*z1+(cap1-off)*z1=cap1*z1:=by rw[←Nat.add_mul];congr 1;omega
       omega)
      (fun k row hk=>by
       by_cases hkl:k<len
       ·rw[List.getElem?_append_left oM]at hk;exact m2.1 k row hk
       ·rw[List.getElem?_append_right oM]at hk;exact n2.1 _ row hk)
      (fun k row j cc hk hj=>by
       rw[hget]
       by_cases hkl:k<len
       ·rw[List.getElem?_append_left oM]at hk
        rw[List.getElem?_take,if_pos hkl,List.getElem?_drop]at hk
        obtain⟨q1,u,q2,q3⟩:=k8 _ row j cc hk hj
        have hjl:j<z1:=by rw[←k7 _ _ hk];exact (List.getElem?_eq_some_iff.1 hj).1
        have:=JR (sz:=z1) (j:=j) (n:=1) hkl oM
        refine⟨q1,u,?_,q3⟩
        rw[if_neg oM]
        rw[Nat.add_mul]at q2
        rw[←q2];congr 1;omega
       ·rw[List.getElem?_append_right oM,holen]at hk
        obtain⟨q1,u,q2,q3⟩:=n2.2 _ row j cc hk hj
        have hq:=(Array.getElem?_eq_some_iff.1 q2).1
        have h5:k*z1=len*z1+(k-len)*z1:=by rw[←Nat.add_mul];congr 1;omega
        refine⟨q1,u,?_,q3⟩
        rw[if_pos oM,show o1+off*z1+k*z1+j-(o1+off*z1+len*z1)=(k-len)*z1+j by omega]
        exact q2)
     refine⟨_,_,L',.inl (hexec _ _ hrun),?_,by rw[XX];exact r1,by rw[XX];exact r2,Xz _ _ _⟩
     have:=RepA.sl (w:=w.setRow b1 (cur.toList.take (o1+off*z1+len*z1)++news.toList++cur.toList.drop (o1+off*z1+len*z1+news.toList.length)).toArray) (F:=F) id (v0+1) 0 (len+xs.length) _ _ _ _ r3 oM oM
     simpa using this
    ·exact grow _ _ hv oM
  |slz _ _ _ b1 o1 z1 cap1 x1 hL hoff =>
    by_cases hx:xs.length=0
    ·obtain⟨lc,k1,k2⟩:=s.row _ _ _ _ hg'
     rw[hL]at k1;cases k1
     obtain⟨rfl,k3,k4,cur,T,k5,k6,k7,k8⟩:=k2
     have hxn:xs=[]:=List.eq_nil_of_length_eq_zero hx
     subst hxn
     have hl0:=hlen w
     have hrun:=JB (P:=P) (w:=w) (ty:=o.type) (base:=some ⟨b1,x1,none⟩) (len:=0) (cap:=0) ht hdu hd hs hl0 (hzero rfl) (Nat.le_refl _)
     rw[←hv]at hrun
     obtain⟨L',r1,r2,r3,r4⟩:=s.putRow (h':=(b++l).set id (.live (v0+1) z1 ((els.drop off).take 0++[]))) (w':=w)
      id (v0+1) z1 b1 (o1+off*z1) 0 ((els.drop off).take 0++[]) rfl rfl rfl (Nat.le_refl _) (fun i _ hi=>rfl) (.inr ⟨_,_,_,_,_,_,hg',hL⟩)
      (List.getElem?_set_self hid) (fun j hj=>List.getElem?_set_ne (Ne.symm hj)) (fun r hr=>by rw[hg']at hr;cases hr;exact⟨Nat.le_succ _,_,_,_,rfl⟩) (.inl hfr)
      (by simp) (by decide) cur T k5 (by rw[←hoff]at k6;omega) (by simp) (by simp)
     refine⟨a.eval y,w,L',.inl (hexec _ _ (by rw[hrun,hv])),?_,by rw[XX];exact r1,by rw[XX];exact r2,Xz _ _ _⟩
     rw[hv]
     exact .slz id (v0+1) 0 _ _ _ _ x1 r3 rfl
    ·exact grow _ _ hv oM
  |sln _ _ ad hL =>
    by_cases hx:xs.length=0
    ·have hxn:xs=[]:=List.eq_nil_of_length_eq_zero hx
     subst hxn
     obtain⟨lc,k1,k2⟩:=s.row _ _ _ _ hg'
     rw[hL]at k1;cases k1
     have hels:els=[]:=k2
     subst hels
     have hl0:=hlen w
     have hrun:=JB (P:=P) (w:=w) (ty:=o.type) (base:=ad) (len:=0) (cap:=0) ht hdu hd hs hl0 (hzero rfl) (Nat.le_refl _)
     rw[←hv]at hrun
     obtain⟨L',r1,r2,r3,r4⟩:=s.bumpNil hg' hL
     refine⟨a.eval y,w,L',.inl (hexec _ _ (by rw[hrun,hv])),?_,by rw[XX];exact r1,by rw[XX];exact r2,Xz _ _ _⟩
     rw[hv]
     exact .sln id (v0+1) ad r3
    ·exact grow _ _ hv oM
 ·cases h

theorem ZAB {t u el ty:TypeId} {sz bytes:Nat} {i:TypeInfo} {z:Value} (ht:P.underlying t=some (.slice el)) (hu:P.underlying u=some (.int .i64)) (hs:Xw P el=some sz)
  (hi:P.info? el=some i) (hz:i.zero=some z) (hby:i.bytes=bytes) {base:Option Addr} {m:Nat} (hm0:0<m) (hsz:0<sz) (hbytes:m*bytes≤140737488355328) (hm:m≤140737488355328) (h0:0<bytes) :
  (Builtin.append_ #[t,u] ty #[.slice base 0 0,.int .i64 (m:Int)]).run P w=.ok (.slice (some ⟨w.heap.size,0,none⟩) m (grownCap w m 0 el))
    (w.drew.alloc (.cells (Builtin.zeroCells z.cells m++Builtin.zeroCells z.cells (grownCap w m 0 el-m)) el)):=by
 have hfits:=growslice_fits (need:=m) (old:=0) (bytes:=bytes) hm0 hbytes
 have h48:¬(281474976710656<Builtin.nextslicecap m 0*i.bytes):=by rw[hby];omega
 have hw:IntKind.i64.wrap (m:Int)=(m:Int):=by rw[IntKind.wrap_i64];omega
 have h1:¬((m:Int)<0):=by omega
 have h2:¬(281474976710656<(m:Int)*(i.bytes:Int)):=by
  rw[hby]
  have:(m:Int)*(bytes:Int)=((m*bytes:Nat):Int):=by rw[Int.natCast_mul]
  omega
 have h3:¬(m*sz=0):=by
  have:0<m*sz:=Nat.mul_pos hm0 hsz
  omega
 have h5:¬(9223372036854775807<(m:Int)):=by omega
 have h6:m≠0:=by omega
 cases base<;>simp[Builtin.append_,run_underlying ht,run_underlying hu,ZW hs,typeInfo,zeroValue,hi,hz,asInt,asIntOf,hw,h1,h2,h3,h5,h6,h48,Question.forced,newRow,grownCap,Builtin.firstCells,loadCells,loadCellsFrom]

theorem K1 {t u el ty:TypeId} {sz:Nat} {i:TypeInfo} (ht:P.underlying t=some (.slice el)) (hu:P.underlying u=some (.int .i64)) (hs:Xw P el=some sz) (hi:P.info? el=some i) {base:Option Addr} :
  (Builtin.append_ #[t,u] ty #[.slice base 0 0,.int .i64 0]).run P w=.ok (.slice base 0 0) w:=by
 have hw:IntKind.i64.wrap 0=0:=by rw[IntKind.wrap_i64];omega
 cases base<;>simp[Builtin.append_,run_underlying ht,run_underlying hu,ZW hs,typeInfo,hi,asInt,asIntOf,hw,storeCells]

theorem ZLk (s:Sim F L (b++l) w) (he:XH w F L e a) {c:Call} {t u el:TypeId} {sz bytes:Nat} {zs:List AV} (ht:P.underlying t=some (.slice el)) (hu:ZLx (P.underlying u)=true)
  (hs:Xw P el=some sz) (hby:ZDA P el=some bytes) (hz:Yi P el=some zs) (hzl:zs.length=sz) (h0:0<sz) (hb0:0<bytes)
  {y z:Operand} {y' z':Opd} (hc:c.callee=.builtin .append) (ha:c.args.toList=[y,z]) (hts:c.argTypes.toList=[t,u]) (ho:o.op=.call c) (hy:QK y=some y') (hz':QK z=some z')
  (h:aop e b l (.appz sz bytes zs y' z')=.val x b' l'):Q3 P o a w F L b l x b' l':=by
 obtain⟨i,zv,hi,hzz,hzc⟩:=XL hz
 obtain⟨c1,c2⟩:=YG (w:=w) (F:=F) (L:=L) hzc
 have hzv:zv.cells.size=sz:=by have:=c1.1;simp at this;omega
 have hbz:i.bytes=bytes:=by simp[ZDA,hi]at hby;exact hby
 have hdu:P.underlying u=some (.int .i64):=by
  unfold ZLx at hu
  split at hu
  ·rename_i h;exact h
  ·cases hu
 have h1:=ZX he hy
 have h2:=ZX he hz'
 simp only[aop]at h
 generalize ev e y'=q at *
 generalize ev e z'=r at *
 have hexec:∀v w',(Builtin.append_ #[t,u] o.type #[a.eval y,a.eval z]).run P w=.ok v w'→(execOp a.eval o).run P w=.ok (.value v) w':=by
  intro v w' hr
  rw[XF ho hc ha hts]
  simp[invoke,builtin,hr]
 unfold Y0 at h
 split at h
 case h_2=>cases h
 rename_i n
 obtain⟨ad,hv⟩:∃ad,a.eval y=.slice ad 0 0:=by
  generalize a.eval y=v at h1
  cases h1.vI;exact⟨_,rfl⟩
 have hn:=UW h2
 split at h
 ·rename_i hn0
  subst hn0
  cases h
  refine Q3.pure s (v:=a.eval y) (hexec _ _ ?_) h1
  rw[hv,hn]
  exact K1 ht hdu hs hi
 ·split at h
  case isFalse=>cases h
  rename_i hn0 hb
  obtain⟨g1,g2,g3⟩:=hb
  unfold room at g2 g3
  obtain⟨m,rfl⟩:∃m:Nat,n=m:=⟨n.toNat,by omega⟩
  simp only[Int.toNat_natCast]at *
  have hm0:0<m:=by omega
  have hrun:=ZAB (P:=P) (w:=w) (ty:=o.type) ht hdu hs hi hzz hbz (base:=ad) hm0 h0 g2 g3 hb0
  rw[←hv,←hn]at hrun
  have hge:=grownCap_ge w m 0 el
  have hcm:grownCap w m 0 el≤maxLen:=grownCap_le_maxLen w _ 0 el (by unfold maxLen;omega)
  have hmade:=Kd (w:=w) (F:=F) (L:=L) (n:=m) c1 c2 hzl (m*sz) (Nat.le_refl _)
  have hmz:madeCells zv.cells (m*sz)=Builtin.zeroCells zv.cells m:=by unfold madeCells Builtin.zeroCells;rw[hzv]
  rw[hmz]at hmade
  refine ZFZ s (w':=w.drew.alloc (.cells (Builtin.zeroCells zv.cells m++Builtin.zeroCells zv.cells (grownCap w m 0 el-m)) el)) (cur:=Builtin.zeroCells zv.cells m++Builtin.zeroCells zv.cells (grownCap w m 0 el-m)) (T:=el) (cap:=grownCap w m 0 el)
   (v:=.slice (some ⟨w.heap.size,0,none⟩) m (grownCap w m 0 el)) (.inl (hexec _ _ hrun)) rfl rfl rfl rfl (by rw[List.length_replicate];exact hge) hcm ?_ hmade.1 ?_ ?_ h
  ·rw[Array.size_append,size_zeroCells,size_zeroCells,hzv,←Nat.add_mul]
   exact Nat.mul_le_mul_right _ oM
  ·intro k row j cc hk hj
   obtain⟨g1,v,g2,g3⟩:=hmade.2 k row j cc hk hj
   exact⟨g1,v,by rw[Array.getElem?_append_left (Array.getElem?_eq_some_iff.1 g2).1];exact g2,g3⟩
  ·intro L' hL'
   have:=RepA.sl (w:=w.drew.alloc (.cells (Builtin.zeroCells zv.cells m++Builtin.zeroCells zv.cells (grownCap w m 0 el-m)) el)) (F:=F) (b.length+l.length) 0 0 m _ _ _ _ hL' oM hcm
   simpa using this

theorem ZLe (s:Sim F L (b++l) w) (he:XH w F L e a) {c:Call} {t u el:TypeId} {sz:Nat} (ht:P.underlying t=some (.slice el)) (hs:Xw P el=some sz) (h0:0<sz)
  {y z:Operand} {y' z':Opd} (hc:c.callee=.builtin .copy) (ha:c.args.toList=[y,z]) (hts:c.argTypes.toList=[t,u]) (ho:o.op=.call c) (hy:QK y=some y') (hz':QK z=some z')
  (h:aop e b l (.copy sz y' z')=.val x b' l'):Q3 P o a w F L b l x b' l':=by
 have h1:=ZX he hy
 have h2:=ZX he hz'
 simp only[aop]at h
 generalize ev e y'=q at *
 generalize ev e z'=r at *
 have hexec:∀v w',(Builtin.copy_ #[t,u] o.type #[a.eval y,a.eval z]).run P w=.ok v w'→(execOp a.eval o).run P w=.ok (.value v) w':=by
  intro v w' hr
  rw[XF ho hc ha hts]
  simp[invoke,builtin,hr]
 unfold YZ at h
 split at h
 case h_1=>cases h
 rename_i xs hxs
 obtain⟨hlen,news,n1,n2,n3,n4⟩:=Kl (P:=P) s h0 hxs h2
 split at h
 case h_2=>cases h
 rename_i id ver off len
 split at h
 case h_2=>cases h
 rename_i v0 s0 els hg
 split at h
 case isFalse=>cases h
 rename_i hb
 obtain⟨rfl,rfl,hle⟩:=hb
 cases h
 have hg':(b++l)[id]? = some (.live v0 s0 els):=by rw[←Qq];exact hg
 have hid:id<(b++l).length:=(List.getElem?_eq_some_iff.1 hg').1
 have hfn:=n4 (min xs.length len) w (Nat.min_le_left _ _) rfl
 have none_:∀base c0,a.eval y=.slice base 0 c0→len=0→Q3 P o a w F L b l (.v (.int .i64 (min xs.length len:Nat))) (YA b id (.live v0 s0 (els.take off++xs.take len++els.drop (off+min xs.length len)))) (YP b l id (.live v0 s0 (els.take off++xs.take len++els.drop (off+min xs.length len)))):=by
  intro base c0 hv hl0
  subst hl0
  have hels:els.take off++xs.take 0++els.drop (off+min xs.length 0)=els:=by simp
  rw[hels]
  have hset:(b++l).set id (.live v0 s0 els)=b++l:=by
   apply List.ext_getElem?
   intro j
   by_cases hj:id=j
   ·subst hj;rw[List.getElem?_set_self hid,hg']
   ·rw[List.getElem?_set_ne hj]
  have hrun:(Builtin.copy_ #[t,u] o.type #[a.eval y,a.eval z]).run P w=.ok (goInt 0) w:=by
   simp at hfn
   cases base<;>simp[Builtin.copy_,run_underlying ht,ZW hs,hlen w,hv,hfn,storeCells]
  refine⟨goInt 0,w,L,.inl (hexec _ _ hrun),by simp[goInt];exact toN .i64 0,by rw[XX,hset];exact s,by rw[XX,hset];exact Step.refl _ _ _ _ _,Xz _ _ _⟩
 generalize hv:a.eval y=vy at h1
 cases h1 with
 |slz _ _ _ b1 o1 z1 cap1 x1 hL hoff=>exact none_ _ _ hv rfl
 |sln _ _ ad hL=>exact none_ _ _ hv rfl
 |sl _ _ _ _ b1 o1 z1 cap1 hL g1 g2 =>
   obtain⟨lc,k1,k2⟩:=s.row _ _ _ _ hg'
   rw[hL]at k1;cases k1
   obtain⟨rfl,k3,k4,cur,T,k5,k6,k7,k8⟩:=k2
   have hcl:cur.toList.length=cur.size:=by simp
   have hmn:min xs.length len≤len:=Nat.min_le_right _ _
   have hmx:min xs.length len≤xs.length:=Nat.min_le_left _ _
   have hmul:(off+min xs.length len)*z1≤cap1*z1:=Nat.mul_le_mul_right _ oM
   rw[Nat.add_mul]at hmul
   have hmn2:min xs.length len*z1≤xs.length*z1:=Nat.mul_le_mul_right _ hmx
   have hnl:(news.extract 0 (min xs.length len*z1)).toList.length=min xs.length len*z1:=by simp;omega
   have hone:∀v∈(news.extract 0 (min xs.length len*z1)).toList,v.oneCell'=true:=fun v hv2=>n3 v (by
    simp only[Array.toList_extract,List.extract_eq_take_drop,Nat.sub_zero,List.drop_zero]at hv2
    exact List.mem_of_mem_take hv2)
   have hst:=run_storeCells_at P b1 (o1+off*z1) T (news.extract 0 (min xs.length len*z1)).toList 0 cur w k5 (by rw[hnl];omega) hone
   simp only[Nat.add_zero]at hst
   have hrun:(Builtin.copy_ #[t,u] o.type #[a.eval y,a.eval z]).run P w=.ok (goInt (min xs.length len:Nat)) (w.setRow b1 (cur.toList.take (o1+off*z1)++(news.extract 0 (min xs.length len*z1)).toList++cur.toList.drop (o1+off*z1+(news.extract 0 (min xs.length len*z1)).toList.length)).toArray):=by
    have hmin:Nat.min xs.length len=min xs.length len:=rfl
    simp only[Builtin.copy_,run_underlying ht,ZW hs,hlen w,hv,Sem.run_bind,Result.andThen_ok,hmin,hfn,hst,Sem.run_pure,List.getElem?_toArray,List.getElem?_cons_zero,List.getElem?_cons_succ]
   have hcurlen:(cur.toList.take (o1+off*z1)++(news.extract 0 (min xs.length len*z1)).toList++cur.toList.drop (o1+off*z1+(news.extract 0 (min xs.length len*z1)).toList.length)).toArray.size=cur.size:=by
    simp only[List.size_toArray,List.length_append,List.length_take,List.length_drop,hnl,hcl]
    omega
   have hget:∀i,(cur.toList.take (o1+off*z1)++(news.extract 0 (min xs.length len*z1)).toList++cur.toList.drop (o1+off*z1+(news.extract 0 (min xs.length len*z1)).toList.length)).toArray[i]? = if o1+off*z1≤i∧i<o1+off*z1+min xs.length len*z1 then news[i-(o1+off*z1)]? else cur[i]?:=by
    intro i
    have:=J5 cur.toList (news.extract 0 (min xs.length len*z1)).toList (o1+off*z1) i (by rw[hnl,hcl];omega)
    simp only[List.getElem?_toArray]
    rw[this,hnl]
    split
    ·rename_i hin
     simp only[Array.toList_extract,List.extract_eq_take_drop,Nat.sub_zero,List.drop_zero,List.getElem?_take]
     rw[if_pos oM]
     simp
    ·simp
   have htk:(els.take off).length=off:=by simp;omega
   have htk2:(xs.take len).length=min xs.length len:=by simp[Nat.min_comm]
   have hnew:∀k,(els.take off++xs.take len++els.drop (off+min xs.length len))[k]? = if off≤k∧k<off+min xs.length len then xs[k-off]? else els[k]?:=by
    intro k
    have:=J5 els (xs.take len) off k (by rw[htk2];omega)
    rw[htk2]at this
    rw[this]
    split
    ·rename_i hin
     rw[List.getElem?_take,if_pos oM]
    ·rfl
   obtain⟨L',r1,r2,r3,r4⟩:=s.putRow (h':=(b++l).set id (.live v0 z1 (els.take off++xs.take len++els.drop (off+min xs.length len)))) (w':=w.setRow b1 (cur.toList.take (o1+off*z1)++(news.extract 0 (min xs.length len*z1)).toList++cur.toList.drop (o1+off*z1+(news.extract 0 (min xs.length len*z1)).toList.length)).toArray)
    id v0 z1 b1 o1 cap1 (els.take off++xs.take len++els.drop (off+min xs.length len)) rfl rfl rfl (by simp) (fun i _ hi=>setRow_other w b1 i _ hi) (.inr ⟨_,_,_,_,_,_,hg',hL⟩)
    (List.getElem?_set_self hid) (fun j hj=>List.getElem?_set_ne (Ne.symm hj)) (fun r hr=>by rw[hg']at hr;cases hr;exact⟨Nat.le_refl _,_,_,_,rfl⟩) (.inr hL)
    (by simp only[List.length_append,htk,htk2,List.length_drop];omega) k4 _ T (setRow_heap w b1 cur _ T _ k5) (by rw[hcurlen];exact k6)
    (fun k row hk=>by
     rw[hnew]at hk
     split at hk
     ·exact n2.1 _ row hk
     ·exact k7 _ row hk)
    (fun k row j cc hk hj=>by
     rw[hnew]at hk
     rw[hget]
     split at hk
     ·rename_i hin
      obtain⟨q1,u,q2,q3⟩:=n2.2 _ row j cc hk hj
      have hjl:j<z1:=by rw[←n2.1 _ _ hk];exact (List.getElem?_eq_some_iff.1 hj).1
      have h5:k*z1=off*z1+(k-off)*z1:=by rw[←Nat.add_mul];congr 1;omega
      have:=JR (sz:=z1) (j:=j) (n:=1) (show k-off<min xs.length len by omega) oM
      refine⟨q1,u,?_,q3⟩
      rw[if_pos oM,show o1+k*z1+j-(o1+off*z1)=(k-off)*z1+j by omega]
      exact q2
     ·rename_i hin
      have hjl:j<z1:=by rw[←k7 _ _ hk];exact (List.getElem?_eq_some_iff.1 hj).1
      rw[if_neg ?_]
      ·exact k8 k row j cc hk hj
      ·rintro⟨p1,p2⟩
       by_cases hko:k<off
       ·have:=JR (sz:=z1) (j:=j) (n:=1) hko oM;omega
       ·have h5:k*z1=off*z1+(k-off)*z1:=by rw[←Nat.add_mul];congr 1;omega
        have:=Nat.mul_le_mul_right z1 (show min xs.length len≤k-off by omega)
        omega)
   exact⟨_,_,L',.inl (hexec _ _ hrun),toN _ _,by rw[XX];exact r1,by rw[XX];exact r2,Xz _ _ _⟩
end
end Go.Proofs.YtoccdlnoaindmaaGreatDoor
namespace Go.Proofs.YtoccdlnoaindmaaGreatDoor
set_option linter.unusedVariables false

section
variable {P:Program} {w:World} {F:Nat→Prop} {L:LMap} {o:Oper} {a:Act} {e:List AV} {b l b' l':List Row} {x:AV}

theorem VO {α β:Type} {f:α→β} {y:Option α} {z:β} (h:y.map f=some z):∃q,y=some q∧z=f q:=by
 cases y with
 |none=>cases h
 |some q=>cases h;exact⟨q,rfl,rfl⟩
theorem ZDb {r:Nat} {es:Array MapEntry} {clk:Nat} (hb:w.heap[r]? = some (.map es clk)):(getObj r).run P w=.ok (.map es clk) w:=by
 simp[getObj,Sem.run,hb]
theorem ZGp {r:Nat} {es:Array MapEntry} {clk:Nat} (o:Obj) (hb:w.heap[r]? = some (.map es clk)):(setObj r o).run P w=.ok () {w with heap:=w.heap.setIfInBounds r o}:=by
 simp[setObj,Sem.run,hb]
theorem ZBt {a b:ByteArray} (h:(a==b)=true):a=b:=by
 rw[beq_toListBytes]at h
 have:=eq_of_beq h
 rw[ByteArray.toList_eq,ByteArray.toList_eq]at this
 obtain⟨x⟩:=a
 obtain⟨y⟩:=b
 simp at this
 rw[this]
theorem Ve (a:ByteArray):(a==a)=true:=by rw[beq_toListBytes];simp
def kOk:FK→AV→Bool
 |.i,.v (.int _ _)=>true
 |.b,.v (.bool _)=>true
 |.s,.v (.str _)=>true
 |_,_=>false
theorem ZDi {k:FK} {x y:AV} {r:Bool} (h:eqF k x y=some r):kOk k x=true:=by
 unfold eqF at h
 split at h<;>first|rfl|cases h

theorem Yj {em:Bool} {n:Nat} {t:TypeId} {k:FK} (hk:Vj P t=some k) {x:AV} {v:Value} (hx:RepA w F L x v) (ho:kOk k x=true):(Instr.checkKey em (n+1) t v).run P w=.ok () w:=by
 unfold Vj at hk
 unfold kOk at ho
 split at ho
 ·rename_i kk m
  split at hk<;>first|(cases hk;done)|skip
  rename_i hd
  rw[UW hx]
  simp[Instr.checkKey,run_underlying hd]
 ·rename_i t
  split at hk<;>first|(cases hk;done)|skip
  rename_i hd
  rw[ZAz hx]
  simp[Instr.checkKey,run_underlying hd]
 ·rename_i t
  split at hk<;>first|(cases hk;done)|skip
  rename_i hd
  rw[ZDT hx]
  simp[Instr.checkKey,run_underlying hd]
 ·cases ho

theorem JA {em:Bool} {d:Nat}:∀{fs:List Field} {n:Nat} {ks:List FK} {xs ys:List AV} {vs:Array Value} {r:Bool},U6 P n fs=some ks →
  QL w F L xs (vs.toList.drop n)→eqC ks xs ys=some r→(forIn fs PUnit.unit (fun f (_:PUnit)=>(if f.name≠ "_" then do
    let x ←part f.type vs f.offset
    Instr.checkKey em (d+1) f.type x
    pure (ForInStep.yield PUnit.unit)
   else pure (ForInStep.yield PUnit.unit):Sem (ForInStep PUnit)))).run P w=.ok PUnit.unit w
 |[],n,ks,xs,ys,vs,r,hp,hx,he=>by simp
 |f::fs,n,ks,xs,ys,vs,r,hp,hx,he=>by
   unfold U6 at hp
   split at hp
   case isFalse=>cases hp
   rename_i hb
   obtain⟨hoff,hname⟩:=hb
   split at hp
   case h_2=>cases hp
   rename_i k ks' hk hks
   cases hp
   cases xs with
   |nil=>simp[eqC]at he
   |cons x xs0 =>
   cases ys with
   |nil=>simp[eqC]at he
   |cons y ys0 =>
   simp only[eqC]at he
   cases hq:eqF k x y with
   |none=>simp[hq,Jg]at he
   |some r1 =>
     cases hq2:eqC ks' xs0 ys0 with
     |none=>simp[hq,hq2,Jg]at he
     |some r2 =>
       obtain⟨v,hv,hrv⟩:=hx.get (j:=0) (a:=x) rfl
       have hv':vs[n]? = some v:=by simpa using hv
       have hagg:=U7 hk
       have hpv:(part f.type vs f.offset).run P w=.ok v w:=by simp[part,Xx hagg,hoff,hv']
       have hck:=Yj (em:=em) (n:=d) hk hrv (ZDi hq)
       have tail:QL w F L xs0 (vs.toList.drop (n+1)):=by
        refine⟨by have:=hx.1;simp at this⊢;omega,fun i c' z' hc hz'=>?_⟩
        exact hx.2 (i+1) c' z' (by simpa using hc) (by
         rw[List.getElem?_drop]at hz'⊢
         rw[show n+(i+1)=n+1+i by omega];exact hz')
       have ih:=JA (em:=em) (d:=d) hks tail hq2
       rw[List.forIn_cons]
       simp only[hname,ne_eq,not_false_eq_true,if_true,Sem.run_bind,hpv,Result.andThen_ok,hck,Sem.run_pure]
       exact ih

theorem JW {em:Bool} {d:Nat} {el:TypeId} {k:FK} (hk:Vj P el=some k):∀{m n:Nat} {xs ys:List AV} {vs:Array Value} {r:Bool},
  QL w F L xs (vs.toList.drop n)→eqC (List.replicate m k) xs ys=some r→(hs:Xw P el=some 1)→(forIn (List.range' n m) PUnit.unit (fun i (_:PUnit)=>(do
   let s ←sizeOf el
   let x ←part el vs (i*s)
   Instr.checkKey em (d+1) el x
   pure (ForInStep.yield PUnit.unit):Sem (ForInStep PUnit)))).run P w=.ok PUnit.unit w
 |0,n,xs,ys,vs,r,hx,he,hs=>by simp
 |m+1,n,xs,ys,vs,r,hx,he,hs=>by
   rw[List.replicate_succ]at he
   cases xs with
   |nil=>simp[eqC]at he
   |cons x xs0 =>
   cases ys with
   |nil=>simp[eqC]at he
   |cons y ys0 =>
   simp only[eqC]at he
   cases hq:eqF k x y with
   |none=>simp[hq,Jg]at he
   |some r1 =>
     cases hq2:eqC (List.replicate m k) xs0 ys0 with
     |none=>simp[hq,hq2,Jg]at he
     |some r2 =>
       obtain⟨v,hv,hrv⟩:=hx.get (j:=0) (a:=x) rfl
       have hv':vs[n]? = some v:=by simpa using hv
       have hagg:=U7 hk
       have hpv:(part el vs n).run P w=.ok v w:=by simp[part,Xx hagg,hv']
       have hck:=Yj (em:=em) (n:=d) hk hrv (ZDi hq)
       have tail:QL w F L xs0 (vs.toList.drop (n+1)):=by
        refine⟨by have:=hx.1;simp at this⊢;omega,fun i c' z' hc hz'=>?_⟩
        exact hx.2 (i+1) c' z' (by simpa using hc) (by
         rw[List.getElem?_drop]at hz'⊢
         rw[show n+(i+1)=n+1+i by omega];exact hz')
       have ih:=JW (em:=em) (d:=d) hk tail hq2 hs
       rw[List.range'_succ,List.forIn_cons]
       simp only[Sem.run_bind,ZW hs,Nat.mul_one,hpv,Result.andThen_ok,hck,Sem.run_pure]
       exact ih

theorem VH {em:Bool} {n:Nat} {t:TypeId} {kk:KK} (hk:kkT P t=some kk) {x y:AV} {v:Value} {r:Bool} (hx:RepA w F L x v) (he:Qx kk x y=some r):(Instr.checkKey em (n+2) t v).run P w=.ok () w:=by
 unfold kkT at hk
 split at hk
 ·rename_i fs ht
  split at hk
  case isFalse=>cases hk
  obtain⟨ks,hks,rfl⟩:=VO hk
  unfold Qx at he
  split at he<;>first|(cases he;done)|skip
  ·rename_i h;cases h
  ·rename_i xs ys h
   cases h
   obtain⟨vs,rfl,hl⟩:=hx.aggL
   have:=JA (em:=em) (d:=n) hks (vs:=vs) (by simpa using hl) he
   unfold Instr.checkKey
   simp only[Sem.run_bind,run_underlying ht,Result.andThen_ok]
   rw[←Array.forIn_toList]
   rw[this]
   simp
 ·rename_i m el ht
  split at hk
  case h_2=>cases hk
  rename_i k hkk hs
  cases hk
  unfold Qx at he
  split at he<;>first|(cases he;done)|skip
  ·rename_i h;cases h
  ·rename_i xs ys h
   cases h
   obtain⟨vs,rfl,hl⟩:=hx.aggL
   have:=JW (em:=em) (d:=n) hkk (n:=0) (vs:=vs) (by simpa using hl) he hs
   unfold Instr.checkKey
   simp only[Sem.run_bind,run_underlying ht,Result.andThen_ok]
   rw[Std.Legacy.Range.forIn_eq_forIn_range']
   simp only[Std.Legacy.Range.size,Nat.sub_zero,Nat.add_sub_cancel,Nat.div_one]
   rw[this]
   simp
 ·obtain⟨k,hk2,rfl⟩:=VO hk
  refine Yj (n:=n+1) hk2 hx ?_
  simp only[Qx]at he
  exact ZDi he
 ·cases hk

def UG (d:Nat) (el:TypeId) (xs ys:Array Value):List Nat→Sem Bool
 |[]=>pure true
 |i::is=>do
   let x ←part el xs (i*1)
   let y ←part el ys (i*1)
   let r ←Op.equalIn d el x y
   if r then UG d el xs ys is else pure false

theorem J6 {d:Nat} {t el:TypeId} {m:Nat} {xs ys:Array Value} (ht:P.underlying t=some (.array m el)) (hs:Xw P el=some 1) :
  (Op.equalIn (d+1) t (.agg xs) (.agg ys)).run P w=(UG d el xs ys (List.range' 0 m)).run P w:=by
 unfold Op.equalIn
 simp only[Sem.run_bind,run_underlying ht,Result.andThen_ok,ZW hs]
 rw[Std.Legacy.Range.forIn_eq_forIn_range']
 simp only[Std.Legacy.Range.size,Nat.sub_zero,Nat.add_sub_cancel,Nat.div_one]
 generalize List.range' 0 m=is
 clear ht
 induction is generalizing w with
 |nil=>simp[UG]
 |cons i is ih =>
   simp only[List.forIn_cons,UG,Sem.run_bind,Sem.run_ite]
   generalize (part el xs (i*1)).run P w=r1
   cases r1 with
   |ok a w1 =>
     simp only[Result.andThen_ok]
     generalize (part el ys (i*1)).run P w1=r2
     cases r2 with
     |ok b w2 =>
       simp only[Result.andThen_ok]
       generalize (Op.equalIn d el a b).run P w2=r3
       cases r3 with
       |ok r w3 =>
         cases r
         ·simp only[Result.andThen_ok,Bool.not_false,if_true,Sem.run_pure,Bool.false_eq_true,if_false]
         ·simp only[Result.andThen_ok,Bool.not_true,Bool.false_eq_true,if_false,Sem.run_pure,if_true]
          exact ih
       |halt x w3=>simp[Result.andThen]
     |halt x w2=>simp[Result.andThen]
   |halt x w1=>simp[Result.andThen]

theorem Uw {d:Nat} {el:TypeId} {k:FK} (hk:Vj P el=some k):∀{m n:Nat} {xs ys:List AV} {vs us:Array Value} {r:Bool},
  QL w F L xs (vs.toList.drop n)→QL w F L ys (us.toList.drop n)→eqC (List.replicate m k) xs ys=some r→(UG (d+1) el vs us (List.range' n m)).run P w=.ok r w
 |0,n,xs,ys,vs,us,r,hx,hy,he=>by
   cases xs<;>cases ys<;>simp[eqC]at he
   subst he
   simp[UG]
 |m+1,n,xs,ys,vs,us,r,hx,hy,he=>by
   rw[List.replicate_succ]at he
   cases xs with
   |nil=>simp[eqC]at he
   |cons x xs0 =>
   cases ys with
   |nil=>simp[eqC]at he
   |cons y ys0 =>
   simp only[eqC]at he
   cases hq:eqF k x y with
   |none=>simp[hq,Jg]at he
   |some r1 =>
     cases hq2:eqC (List.replicate m k) xs0 ys0 with
     |none=>simp[hq,hq2,Jg]at he
     |some r2 =>
       simp[hq,hq2,Jg]at he
       obtain⟨v,hv,hrv⟩:=hx.get (j:=0) (a:=x) rfl
       obtain⟨u,hu,hru⟩:=hy.get (j:=0) (a:=y) rfl
       have hv':vs[n]? = some v:=by simpa using hv
       have hu':us[n]? = some u:=by simpa using hu
       have hagg:=U7 hk
       have hpv:(part el vs n).run P w=.ok v w:=by simp[part,Xx hagg,hv']
       have hpu:(part el us n).run P w=.ok u w:=by simp[part,Xx hagg,hu']
       have tail:∀{cs:List AV} {c:AV} {zs:Array Value},QL w F L (c::cs) (zs.toList.drop n)→QL w F L cs (zs.toList.drop (n+1)):=by
        intro cs c zs hz
        refine⟨by have:=hz.1;simp at this⊢;omega,fun i c' z' hc hz'=>?_⟩
        exact hz.2 (i+1) c' z' (by simpa using hc) (by
         rw[List.getElem?_drop]at hz'⊢
         rw[show n+(i+1)=n+1+i by omega];exact hz')
       have hfld:=ZIS (P:=P) (d:=d) hk hrv hru hq
       have ih:=Uw (d:=d) hk (tail hx) (tail hy) hq2
       rw[List.range'_succ]
       simp only[UG,Sem.run_bind,Nat.mul_one,hpv,hpu,Result.andThen_ok,hfld,Sem.run_ite,ih,Sem.run_pure]
       subst he
       cases r1<;>simp

theorem ZLd (s:Sim F L (b++l) w) (he:XH w F L e a) {op:BinOp} {t u el:TypeId} {m:Nat} {k:FK} (ht:P.underlying t=some (.array m el)) (hk:Vj P el=some k) (hs:Xw P el=some 1)
  (hg:P.eqGuardType P.depth t=false) (hop:op=.eql∨op=.neq) {y z:Operand} {y' z':Opd} (ho:o.op=.binOp op t y z u) (hy:QK y=some y') (hz:QK z=some z')
  (h:aop e b l (.eqs (op==.neq) (List.replicate m k) y' z')=.val x b' l'):Q3 P o a w F L b l x b' l':=by
 have h1:=ZX he hy
 have h2:=ZX he hz
 simp only[aop]at h
 generalize ev e y'=q at *
 generalize ev e z'=r at *
 split at h
 case h_2=>cases h
 rename_i xs ys
 split at h
 case h_2=>cases h
 rename_i r hr
 cases h
 obtain⟨vs,e1,l1⟩:=h1.aggL
 obtain⟨us,e2,l2⟩:=h2.aggL
 have hrun:=Uw (P:=P) (d:=9998) hk (n:=0) (vs:=vs) (us:=us) (by simpa using l1) (by simpa using l2) hr
 have hstr:=J6 (P:=P) (w:=w) (d:=9999) (xs:=vs) (ys:=us) ht hs
 rw[hrun]at hstr
 rcases hop with rfl|rfl
 ·refine Q3.pure s (v:=.bool r) ?_ (ZG7 _)
  simp[execOp,ho,e1,e2,run_eqGuard_agg w _ t _ _ _ _ hg,run_eql_struct,hstr]
 ·refine Q3.pure s (v:=.bool (!r)) ?_ (ZG7 _)
  simp[execOp,ho,e1,e2,run_eqGuard_agg w _ t _ _ _ _ hg,run_neq_struct,hstr]

theorem JV {t:TypeId} {kk:KK} (hk:kkT P t=some kk) {x y:AV} {v u:Value} {r:Bool} (hx:RepA w F L x v) (hy:RepA w F L y u) (he:Qx kk x y=some r):(Op.equal t v u).run P w=.ok r w:=by
 unfold Op.equal Op.maxDepth
 unfold kkT at hk
 split at hk
 ·rename_i fs ht
  split at hk
  case isFalse=>cases hk
  rename_i hst
  obtain⟨ks,hks,rfl⟩:=VO hk
  unfold Qx at he
  split at he<;>first|(cases he;done)|skip
  ·rename_i h;cases h
  ·rename_i xs ys h
   cases h
   obtain⟨vs,rfl,hl⟩:=hx.aggL
   obtain⟨us,rfl,hl2⟩:=hy.aggL
   have hf:P.fieldsOf t=fs:=by simp[Program.fieldsOf,ht]
   have hrun:=ZIT (P:=P) (d:=9998) hks (vs:=vs) (us:=us) (by simpa using hl) (by simpa using hl2) he
   have hstr:=run_equalIn_struct w 9999 t vs us (by rw[hf];exact ht) hst
   rw[hf,hrun]at hstr
   exact hstr
 ·rename_i m el ht
  split at hk
  case h_2=>cases hk
  rename_i k hkk hs
  cases hk
  unfold Qx at he
  split at he<;>first|(cases he;done)|skip
  ·rename_i h;cases h
  ·rename_i xs ys h
   cases h
   obtain⟨vs,rfl,hl⟩:=hx.aggL
   obtain⟨us,rfl,hl2⟩:=hy.aggL
   rw[J6 (d:=9999) ht hs]
   exact Uw (P:=P) (d:=9998) hkk (n:=0) (vs:=vs) (us:=us) (by simpa using hl) (by simpa using hl2) he
 ·obtain⟨k,hk2,rfl⟩:=VO hk
  simp only[Qx]at he
  exact ZIS (d:=9999) hk2 hx hy he
 ·cases hk

def ZAj (w:World) (F:Nat→Prop) (L:LMap):List (List AV)→List MapEntry→Prop
 |[],[]=>True
 |row::els,e::es=>(∃x y,row=[x,y]∧RepA w F L x e.key∧RepA w F L y e.val)∧ZAj w F L els es
 |_,_=>False
theorem ZDj:∀{els:List (List AV)} {es:List MapEntry},es.length=els.length→(∀(k:Nat) (row:List AV) (e:MapEntry),els[k]? = some row→es[k]? = some e→∃x y,row=[x,y]∧RepA w F L x e.key∧RepA w F L y e.val)→ZAj w F L els es
 |[],[],_,_=>trivial
 |[],e::es,h,_=>by simp at h
 |r::els,[],h,_=>by simp at h
 |row::els,e::es,h,g=>⟨g 0 row e rfl rfl,ZDj (by simpa using h) (fun k row e hr he=>g (k+1) row e (by simpa using hr) (by simpa using he))⟩
theorem ZAj.to:∀{els:List (List AV)} {es:List MapEntry},ZAj w F L els es→es.length=els.length∧∀(k:Nat) (row:List AV) (e:MapEntry),els[k]? = some row→es[k]? = some e→∃x y,row=[x,y]∧RepA w F L x e.key∧RepA w F L y e.val
 |[],[],_=>⟨rfl,by simp⟩
 |[],e::es,h=>h.elim
 |r::els,[],h=>h.elim
 |row::els,e::es,h=>by
   obtain⟨h1,h2⟩:=ZAj.to h.2
   refine⟨by simp[h1],fun k row' e' hr he=>?_⟩
   cases k with
   |zero=>simp at hr he;subst hr;subst he;exact h.1
   |succ k=>exact h2 k row' e' (by simpa using hr) (by simpa using he)

theorem ZA2 {t:TypeId} {kk:KK} (hk:kkT P t=some kk) {x:AV} {v:Value} (hx:RepA w F L x v):∀{els:List (List AV)} {es:List MapEntry} {i:Nat} {r:Option AV},ZAj w F L els es→ZBh kk x els=some r →
  ∃q,(Instr.findAsking t v es i).run P w=.ok q w∧(∀y,r=some y→∃j u,q=some (j,u)∧RepA w F L y u)∧(r=none→q=none)
 |[],[],i,r,_,h=>by
   simp[ZBh]at h
   subst h
   exact⟨none,rfl,by simp,fun _=>rfl⟩
 |[],e::es,i,r,h,_=>h.elim
 |row::els,[],i,r,h,_=>h.elim
 |row::els,e::es,i,r,h,hf=>by
   obtain⟨⟨y,u,rfl,h1,h2⟩,h3⟩:=h
   simp only[ZBh]at hf
   split at hf
   ·rename_i hq
    cases hf
    have:=JV hk hx h1 hq
    exact⟨some (i,e.val),by simp[Instr.findAsking,this],fun y hy=>by cases hy;exact⟨_,_,rfl,h2⟩,by simp⟩
   ·rename_i hq
    have:=JV hk hx h1 hq
    obtain⟨q,g1,g2⟩:=ZA2 hk hx (i:=i+1) h3 hf
    exact⟨q,by simp[Instr.findAsking,this,g1],g2⟩
   ·cases hf

theorem V6 {t:TypeId} {d:TypeDesc} {kk:KK} (hd:P.underlying t=some d) (hk:kkT P t=some kk) {x y:AV} {v u:Value} {r c:Bool} (hx:RepA w F L x v) (hy:RepA w F L y u) (he:Qx kk x y=some r) (hs:Instr.sameNow d v u=some c):c=r:=by
 unfold kkT at hk
 rw[hd]at hk
 unfold Instr.sameNow at hs
 split at hs
 ·simp only[Vj,hd,Option.map_some,Option.some.injEq]at hk
  subst hk
  simp only[Qx]at he
  unfold eqF at he
  split at he<;>first|(cases he;done)|skip
  ·have e1:=UW hx;have e2:=UW hy;cases e1;cases e2
   split at hs<;>split at he<;>simp_all
  ·have e1:=ZAz hx;cases e1
  ·have e1:=ZDT hx;cases e1
 ·simp only[Vj,hd,Option.map_some,Option.some.injEq]at hk
  subst hk
  simp only[Qx]at he
  unfold eqF at he
  split at he<;>first|(cases he;done)|skip
  ·have e1:=UW hx;cases e1
  ·have e1:=ZAz hx;cases e1
  ·have e1:=ZDT hx;have e2:=ZDT hy;cases e1;cases e2;simp_all
 ·simp only[Vj,hd,Option.map_some,Option.some.injEq]at hk
  subst hk
  simp only[Qx]at he
  unfold eqF at he
  split at he<;>first|(cases he;done)|skip
  ·have e1:=UW hx;cases e1
  ·have e1:=ZAz hx;have e2:=ZAz hy;cases e1;cases e2;simp_all
  ·have e1:=ZDT hx;cases e1
 ·cases hs

theorem ZEh {t:TypeId} {d:TypeDesc} {kk:KK} (hd:P.underlying t=some d) (hk:kkT P t=some kk) {x:AV} {v:Value} (hx:RepA w F L x v):∀{els:List (List AV)} {es:List MapEntry} {i:Nat} {r:Option AV} {q:Option (Nat×Value)},ZAj w F L els es→ZBh kk x els=some r→Instr.findNow d v es i=some q →
  (∀y,r=some y→∃j u,q=some (j,u)∧RepA w F L y u)∧(r=none→q=none)
 |[],[],i,r,q,_,h,hn=>by
   simp[ZBh]at h
   subst h
   simp[Instr.findNow]at hn
   subst hn
   exact⟨by simp,fun _=>rfl⟩
 |[],e::es,i,r,q,h,_,_=>h.elim
 |row::els,[],i,r,q,h,_,_=>h.elim
 |row::els,e::es,i,r,q,h,hf,hn=>by
   obtain⟨⟨y,u,rfl,h1,h2⟩,h3⟩:=h
   simp only[ZBh]at hf
   simp only[Instr.findNow]at hn
   split at hf
   ·rename_i hq
    cases hf
    split at hn
    ·cases hn;exact⟨fun y hy=>by cases hy;exact⟨_,_,rfl,h2⟩,by simp⟩
    ·rename_i hs;have:=V6 hd hk hx h1 hq hs;cases this
    ·cases hn
   ·rename_i hq
    split at hn
    ·rename_i hs;have:=V6 hd hk hx h1 hq hs;cases this
    ·exact ZEh hd hk hx h3 hf hn
    ·cases hn
   ·cases hf

theorem ZEc {t:TypeId} {kk:KK} (hk:kkT P t=some kk):∃d,P.underlying t=some d:=by
 unfold kkT at hk
 cases h:P.underlying t with
 |none=>rw[h]at hk;cases hk
 |some d=>exact⟨d,rfl⟩

theorem ZAN {t:TypeId} {kk:KK} (hk:kkT P t=some kk) {x:AV} {v:Value} (hx:RepA w F L x v) {els:List (List AV)} {es:List MapEntry} {r:Option AV} (h:ZAj w F L els es) (hf:ZBh kk x els=some r) :
  ∃q,(Instr.findKey t v es).run P w=.ok q w∧(∀y,r=some y→∃j u,q=some (j,u)∧RepA w F L y u)∧(r=none→q=none):=by
 obtain⟨d,hd⟩:=ZEc hk
 obtain⟨q,g1,g2,g3⟩:=ZA2 hk hx (i:=0) h hf
 cases hn:Instr.findNow d v es 0 with
 |none=>exact⟨q,by simp[Instr.findKey,run_underlying hd,hn,g1],g2,g3⟩
 |some q' =>
   obtain⟨k1,k2⟩:=ZEh hd hk hx h hf hn
   exact⟨q',by simp[Instr.findKey,run_underlying hd,hn],k1,k2⟩

theorem ZJN {t:TypeId} {z:AV} (hz:ZJO P t=some z):∃u,(zeroValue t).run P w=.ok u w∧RepA w F L z u:=by
 unfold ZJO at hz
 split at hz
 case h_2=>cases hz
 rename_i inf hinf
 split at hz
 case h_2=>cases hz
 rename_i zz hzz
 exact⟨zz,by simp[zeroValue,typeInfo,hinf,hzz],ZI7 hz⟩

theorem ZBq (c:Bool) {y:AV} {u:Value} (k:Bool) (h:RepA w F L y u):RepA w F L (comma c y k) (if c then .tuple #[u,.bool k] else u):=by
 unfold comma
 cases c
 ·simpa using h
 ·simp only[if_true]
  exact QL.tup (QL.cons h (QL.cons (ZG7 _) QL.nil))

theorem ZHR (s:Sim F L (b++l) w) (he:XH w F L e a) {t kt el:TypeId} {kk:KK} {z:AV} {c:Bool} (ht:P.underlying t=some (.map kt el)) (hk:kkT P kt=some kk) (hz:ZJO P el=some z)
  {m y:Operand} {m' y':Opd} (ho:o.op=.lookup t m y c) (hm:QK m=some m') (hy:QK y=some y') (h:aop e b l (.lookup kk z c m' y')=.val x b' l'):Q3 P o a w F L b l x b' l':=by
 have h1:=ZX he hm
 have h2:=ZX he hy
 simp only[aop,QT]at h
 generalize ev e m'=q at *
 generalize ev e y'=r at *
 generalize hv:a.eval m=vm at h1
 split at h
 case isFalse=>cases h
 rename_i hkey
 have hck:∀em,(Instr.checkKey em 10000 kt (a.eval y)).run P w=.ok () w:=fun em=>VH (em:=em) (n:=9998) hk h2 hkey
 obtain⟨u,hu,hru⟩:=ZJN (w:=w) (F:=F) (L:=L) hz
 split at h
 ·cases h
  obtain rfl:vm=.map none:=by cases h1.vI;rfl
  refine Q3.pure s (v:=if c then .tuple #[u,.bool false] else u) ?_ (ZBq c false hru)
  have hfk:(Instr.findKey kt (a.eval y) []).run P w=.ok none w:=by
   obtain⟨q,g1,_,g3⟩:=ZAN hk h2 (els:=[]) (es:=[]) (r:=none) (w:=w) (F:=F) (L:=L) trivial rfl
   rw[g1,g3 rfl]
  simp[execOp,ho,Instr.lookup,run_underlying ht,hv,hck,hfk,hu]
 ·rename_i id ver
  split at h
  case h_2=>cases h
  rename_i v sz els hg
  split at h
  case isFalse=>cases h
  rename_i hve
  subst hve
  cases h1 with
  |mp _ _ blk hL =>
  rw[Qq]at hg
  obtain⟨lc,g1,g2⟩:=s.row _ _ _ _ hg
  rw[hL]at g1;cases g1
  obtain⟨es,clk,g3,g4,g5⟩:=g2
  have hent:ZAj w F L els es.toList:=ZDj (by simpa using g4) (fun k row e hr he=>g5 k row e hr (by simpa using he))
  have hgo:=ZDb (P:=P) g3
  have hck':=hck es.isEmpty
  split at h
  ·rename_i y1 hf
   cases h
   obtain⟨q,k1,k2,_⟩:=ZAN hk h2 hent hf
   obtain⟨j,u1,rfl,hu1⟩:=k2 _ rfl
   refine Q3.pure s (v:=if c then .tuple #[u1,.bool true] else u1) ?_ (ZBq c true hu1)
   simp[execOp,ho,Instr.lookup,run_underlying ht,hv,hgo,hck',k1]
  ·rename_i hf
   cases h
   obtain⟨q,k1,_,k3⟩:=ZAN hk h2 hent hf
   obtain rfl:=k3 rfl
   refine Q3.pure s (v:=if c then .tuple #[u,.bool false] else u) ?_ (ZBq c false hru)
   simp[execOp,ho,Instr.lookup,run_underlying ht,hv,hgo,hck',k1,hu]
  ·cases h
 ·cases h

theorem ZEj {k:FK} {x y:AV} {v u:Value} (hx:RepA w F L x v) (hy:RepA w F L y u) (h:eqF k x y=some true):v=u∧∀n,Instr.sameBits n v v=true:=by
 unfold eqF at h
 split at h<;>first|(cases h;done)|skip
 ·split at h<;>simp at h
  rename_i hk
  subst hk;subst h
  rw[UW hx,UW hy]
  exact⟨rfl,fun n=>by cases n<;>simp[Instr.sameBits]⟩
 ·simp at h
  subst h
  rw[ZAz hx,ZAz hy]
  exact⟨rfl,fun n=>by cases n<;>simp[Instr.sameBits]⟩
 ·have h:=ZBt (by simpa using h)
  subst h
  rw[ZDT hx,ZDT hy]
  exact⟨rfl,fun n=>by cases n<;>simp[Instr.sameBits,Ve]⟩
theorem ZEk:∀{ks:List FK} {xs ys:List AV} {vs us:List Value},QL w F L xs vs→QL w F L ys us→eqC ks xs ys=some true→vs=us∧∀n,(vs.zip vs).all (fun p=>Instr.sameBits n p.1 p.2)=true
 |[],[],[],vs,us,hx,hy,h=>by
   have h1:vs=[]:=List.eq_nil_of_length_eq_zero hx.1.symm
   have h2:us=[]:=List.eq_nil_of_length_eq_zero hy.1.symm
   subst h1;subst h2
   exact⟨rfl,fun n=>rfl⟩
 |k::ks,x::xs,y::ys,vs,us,hx,hy,h=>by
   cases vs with
   |nil=>have:=hx.1;simp at this
   |cons v vs =>
   cases us with
   |nil=>have:=hy.1;simp at this
   |cons u us =>
   simp only[eqC]at h
   cases hq:eqF k x y with
   |none=>simp[hq,Jg]at h
   |some r1 =>
     cases hq2:eqC ks xs ys with
     |none=>simp[hq,hq2,Jg]at h
     |some r2 =>
       simp[hq,hq2,Jg]at h
       obtain⟨rfl,rfl⟩:=h
       have tl:∀{c:AV} {cs:List AV} {z:Value} {zs:List Value},QL w F L (c::cs) (z::zs)→QL w F L cs zs:=fun h=>⟨by simpa using h.1,fun i a v ha hv=>h.2 (i+1) a v (by simpa using ha) (by simpa using hv)⟩
       obtain⟨h1,h2⟩:=ZEj (hx.2 0 _ _ rfl rfl) (hy.2 0 _ _ rfl rfl) hq
       obtain⟨h3,h4⟩:=ZEk (tl hx) (tl hy) hq2
       exact⟨by rw[h1,h3],fun n=>by simp[h2 n];simpa using h4 n⟩
 |[],_::_,_,_,_,_,_,h=>by simp[eqC]at h
 |[],[],_::_,_,_,_,_,h=>by simp[eqC]at h
 |_::_,[],_,_,_,_,_,h=>by simp[eqC]at h
 |_::_,_::_,[],_,_,_,_,h=>by simp[eqC]at h
theorem ZF2 {kk:KK} {x y:AV} {v u:Value} (hx:RepA w F L x v) (hy:RepA w F L y u) (h:Qx kk x y=some true):v=u∧Instr.sameBits 10000 v v=true:=by
 unfold Qx at h
 split at h
 ·obtain⟨h1,h2⟩:=ZEj hx hy h
  exact⟨h1,h2 _⟩
 ·obtain⟨vs,rfl,hl⟩:=hx.aggL
  obtain⟨us,rfl,hl2⟩:=hy.aggL
  obtain⟨h1,h2⟩:=ZEk hl hl2 h
  have:vs=us:=Array.toList_inj.1 h1
  subst this
  refine⟨rfl,?_⟩
  unfold Instr.sameBits
  simp only[beq_self_eq_true,Bool.true_and]
  exact h2 9999
 ·cases h

theorem ZAj.snoc {x y:AV} {e1:MapEntry} (h1:RepA w F L x e1.key) (h2:RepA w F L y e1.val):∀{els:List (List AV)} {es:List MapEntry},ZAj w F L els es→ZAj w F L (els++[[x,y]]) (es++[e1])
 |[],[],_=>⟨⟨x,y,rfl,h1,h2⟩,trivial⟩
 |[],e::es,h=>h.elim
 |r::els,[],h=>h.elim
 |row::els,e::es,h=>⟨h.1,ZAj.snoc h1 h2 h.2⟩
theorem ZAj.setAt {x y:AV} {e1:MapEntry} (h1:RepA w F L x e1.key) (h2:RepA w F L y e1.val):∀{els:List (List AV)} {es:List MapEntry} {j:Nat},ZAj w F L els es→ZAj w F L (els.set j [x,y]) (es.set j e1)
 |[],[],_,_=>trivial
 |[],e::es,_,h=>h.elim
 |r::els,[],_,h=>h.elim
 |row::els,e::es,0,h=>⟨⟨x,y,rfl,h1,h2⟩,h.2⟩
 |row::els,e::es,j+1,h=>⟨h.1,ZAj.setAt h1 h2 h.2⟩

def ZFL (kk:KK) (x:AV):List (List AV)→Nat→Option (Option Nat)
 |[],_=>some none
 |[y,v]::r,i=>match Qx kk x y with
   |some true=>some (some i)
   |some false=>ZFL kk x r (i+1)
   |none=>none
 |_::_,_=>none
theorem ZGa {kk:KK} {x v:AV}:∀{els els':List (List AV)} (i:Nat),ZKg kk x v els=some els'→∃r,ZFL kk x els i=some r∧((r=none∧els'=els++[[x,v]])∨∃j,r=some (i+j)∧els'=els.set j [x,v])
 |[],els',i,h=>by simp[ZKg]at h;subst h;exact⟨none,rfl,.inl ⟨rfl,rfl⟩⟩
 |[]::_,_,_,h=>by simp[ZKg]at h
 |[_]::_,_,_,h=>by simp[ZKg]at h
 |(_::_::_::_)::_,_,_,h=>by simp[ZKg]at h
 |[y,u]::els,els',i,h=>by
   simp only[ZKg]at h
   simp only[ZFL]
   cases hq:Qx kk x y with
   |none=>simp only[hq]at h;cases h
   |some c =>
     cases c with
     |true =>
       simp only[hq]at h⊢
       cases h
       exact⟨_,rfl,.inr ⟨0,rfl,rfl⟩⟩
     |false =>
       simp only[hq]at h⊢
       obtain⟨r,h1,rfl⟩:=VO h
       obtain⟨q,g1,g2⟩:=ZGa (i+1) h1
       refine⟨q,g1,?_⟩
       rcases g2 with ⟨rfl,rfl⟩|⟨j,rfl,rfl⟩
       ·exact .inl ⟨rfl,rfl⟩
       ·exact .inr ⟨j+1,by congr 1;omega,rfl⟩

theorem ZBB {t:TypeId} {kk:KK} (hk:kkT P t=some kk) {x:AV} {v:Value} (hx:RepA w F L x v):∀{els:List (List AV)} {es:List MapEntry} {i:Nat} {r:Option Nat},ZAj w F L els es→ZFL kk x els i=some r →
  ∃q,(Instr.findAsking t v es i).run P w=.ok q w∧(∀j,r=some j→∃u,q=some (j,u))∧(r=none→q=none)
 |[],[],i,r,_,h=>by
   simp[ZFL]at h
   subst h
   exact⟨none,rfl,by simp,fun _=>rfl⟩
 |[],e::es,i,r,h,_=>h.elim
 |row::els,[],i,r,h,_=>h.elim
 |row::els,e::es,i,r,h,hf=>by
   obtain⟨⟨y,u,rfl,h1,h2⟩,h3⟩:=h
   simp only[ZFL]at hf
   split at hf
   ·rename_i hq
    cases hf
    have:=JV hk hx h1 hq
    exact⟨some (i,e.val),by simp[Instr.findAsking,this],fun y hy=>by cases hy;exact⟨_,rfl⟩,by simp⟩
   ·rename_i hq
    have:=JV hk hx h1 hq
    obtain⟨q,g1,g2⟩:=ZBB hk hx (i:=i+1) h3 hf
    exact⟨q,by simp[Instr.findAsking,this,g1],g2⟩
   ·cases hf
theorem ZHG {t:TypeId} {d:TypeDesc} {kk:KK} (hd:P.underlying t=some d) (hk:kkT P t=some kk) {x:AV} {v:Value} (hx:RepA w F L x v):∀{els:List (List AV)} {es:List MapEntry} {i:Nat} {r:Option Nat} {q:Option (Nat×Value)},ZAj w F L els es→ZFL kk x els i=some r→Instr.findNow d v es i=some q →
  (∀j,r=some j→∃u,q=some (j,u))∧(r=none→q=none)
 |[],[],i,r,q,_,h,hn=>by
   simp[ZFL]at h
   subst h
   simp[Instr.findNow]at hn
   subst hn
   exact⟨by simp,fun _=>rfl⟩
 |[],e::es,i,r,q,h,_,_=>h.elim
 |row::els,[],i,r,q,h,_,_=>h.elim
 |row::els,e::es,i,r,q,h,hf,hn=>by
   obtain⟨⟨y,u,rfl,h1,h2⟩,h3⟩:=h
   simp only[ZFL]at hf
   simp only[Instr.findNow]at hn
   split at hf
   ·rename_i hq
    cases hf
    split at hn
    ·cases hn;exact⟨fun y hy=>by cases hy;exact⟨_,rfl⟩,by simp⟩
    ·rename_i hs;have:=V6 hd hk hx h1 hq hs;cases this
    ·cases hn
   ·rename_i hq
    split at hn
    ·rename_i hs;have:=V6 hd hk hx h1 hq hs;cases this
    ·exact ZHG hd hk hx h3 hf hn
    ·cases hn
   ·cases hf
theorem ZL2 {t:TypeId} {kk:KK} (hk:kkT P t=some kk) {x:AV} {v:Value} (hx:RepA w F L x v) {els:List (List AV)} {es:List MapEntry} {r:Option Nat} (h:ZAj w F L els es) (hf:ZFL kk x els 0=some r) :
  ∃q,(Instr.findKey t v es).run P w=.ok q w∧(∀j,r=some j→∃u,q=some (j,u))∧(r=none→q=none):=by
 obtain⟨d,hd⟩:=ZEc hk
 obtain⟨q,g1,g2,g3⟩:=ZBB hk hx (i:=0) h hf
 cases hn:Instr.findNow d v es 0 with
 |none=>exact⟨q,by simp[Instr.findKey,run_underlying hd,hn,g1],g2,g3⟩
 |some q' =>
   obtain⟨k1,k2⟩:=ZHG hd hk hx h hf hn
   exact⟨q',by simp[Instr.findKey,run_underlying hd,hn],k1,k2⟩
theorem ZKr {kk:KK} {x:AV}:∀{els:List (List AV)} {es:List MapEntry} {i j:Nat},ZAj w F L els es→ZFL kk x els i=some (some j)→∃k e0 x0,j=i+k∧es[k]? = some e0∧RepA w F L x0 e0.key∧Qx kk x x0=some true
 |[],[],i,j,_,h=>by simp[ZFL]at h
 |[],e::es,i,j,h,_=>h.elim
 |row::els,[],i,j,h,_=>h.elim
 |row::els,e::es,i,j,h,hf=>by
   obtain⟨⟨y,u,rfl,h1,h2⟩,h3⟩:=h
   simp only[ZFL]at hf
   split at hf
   ·rename_i hq
    cases hf
    exact⟨0,e,y,rfl,rfl,h1,hq⟩
   ·obtain⟨k,e0,x0,g1,g2,g3⟩:=ZKr h3 hf
    exact⟨k+1,e0,x0,by omega,by simpa using g2,g3⟩
   ·cases hf

theorem ZFM (s:Sim F L (b++l) w) (he:XH w F L e a) {t kt el:TypeId} {kk:KK} (ht:P.underlying t=some (.map kt el)) (hk:kkT P kt=some kk)
  {m y z:Operand} {m' y' z':Opd} (ho:o.op=.mapUpdate t m y z) (hm:QK m=some m') (hy:QK y=some y') (hz:QK z=some z') (h:aop e b l (.mupdate kk m' y' z')=.val x b' l'):Q3 P o a w F L b l x b' l':=by
 have h1:=ZX he hm
 have h2:=ZX he hy
 have h3:=ZX he hz
 simp only[aop,Zp]at h
 generalize ev e m'=q at *
 generalize ev e y'=r at *
 generalize ev e z'=z1 at *
 generalize hv:a.eval m=vm at h1
 split at h
 case isFalse=>cases h
 rename_i hkey
 have hck:(Instr.checkKey false 10000 kt (a.eval y)).run P w=.ok () w:=VH (n:=9998) hk h2 hkey
 split at h
 case h_2=>cases h
 rename_i id ver
 split at h
 case h_2=>cases h
 rename_i v sz els hg
 split at h
 case isFalse=>cases h
 rename_i hve
 subst hve
 split at h
 case h_2=>cases h
 rename_i els' hu
 cases h
 cases h1 with
 |mp _ _ blk hL =>
 rw[Qq]at hg
 obtain⟨lc,g1,g2⟩:=s.row _ _ _ _ hg
 rw[hL]at g1;cases g1
 obtain⟨es,clk,g3,g4,g5⟩:=g2
 have hent:ZAj w F L els es.toList:=ZDj (by simpa using g4) (fun k row e hr he=>g5 k row e hr (by simpa using he))
 have hgo:=ZDb (P:=P) g3
 have hblk:blk<w.heap.size:=(Array.getElem?_eq_some_iff.1 g3).1
 have hid:id<(b++l).length:=(List.getElem?_eq_some_iff.1 hg).1
 obtain⟨r0,p1,p2⟩:=ZGa 0 hu
 obtain⟨q,k1,k2,k3⟩:=ZL2 hk h2 hent p1
 obtain⟨es',clk',hrun,hent'⟩:∃(es':Array MapEntry) (clk':Nat),(execOp a.eval o).run P w=.ok .skip {w with heap:=w.heap.setIfInBounds blk (.map es' clk')}∧ZAj w F L els' es'.toList:=by
  rcases p2 with ⟨rfl,rfl⟩|⟨j,rfl,rfl⟩
  ·obtain rfl:=k3 rfl
   refine⟨es.push {key:=a.eval y,val:=a.eval z,born:=clk},clk+1,?_,?_⟩
   ·simp[execOp,ho,Instr.mapUpdate,run_underlying ht,hv,hgo,hck,k1,ZGp _ g3]
   ·rw[Array.toList_push]
    exact hent.snoc h2 h3
  ·obtain⟨u,rfl⟩:=k2 _ rfl
   obtain⟨k,e0,x0,hjk,he0,hx0,hq0⟩:=ZKr hent p1
   have hjk:j=k:=by omega
   subst hjk
   obtain⟨hs1,hs2⟩:=ZF2 h2 hx0 hq0
   have he0':es[j]? = some e0:=by simpa using he0
   refine⟨es.modify j (fun e=>{e with key:=a.eval y,val:=a.eval z}),clk,?_,?_⟩
   ·have hks:(Instr.keyThatStays e0.key (a.eval y)).run P w=.ok (a.eval y) w:=by
     rw[←hs1]
     simp[Instr.keyThatStays,hs2]
    simp[execOp,ho,Instr.mapUpdate,run_underlying ht,hv,hgo,hck,k1,he0',hks,ZGp _ g3]
   ·have:(es.modify j (fun e=>{e with key:=a.eval y,val:=a.eval z})).toList=es.toList.set j {e0 with key:=a.eval y,val:=a.eval z}:=by
     have hj:j<es.size:=(Array.getElem?_eq_some_iff.1 he0').1
     apply List.ext_getElem?
     intro i
     rw[Array.getElem?_toList,Array.getElem?_modify,List.getElem?_set]
     by_cases hi:j=i
     ·subst hi;simp[hj,(Array.getElem?_eq_some_iff.1 he0').2]
     ·simp[hi]
    rw[this]
    exact hent.setAt h2 h3
 obtain⟨L',r1,r2,r3,r4⟩:=s.putLoc (h':=(b++l).set id (.live v sz els')) (w':={w with heap:=w.heap.setIfInBounds blk (.map es' clk')}) id v sz blk (.mp blk) els' (fun k hk=>hk.symm) rfl rfl rfl (by simp)
  (fun k hk hne=>by simp[Array.getElem?_setIfInBounds_ne (Ne.symm hne)]) (.inr ⟨v,sz,els,.mp blk,hg,hL,rfl⟩) (List.getElem?_set_self hid) (fun j hj=>List.getElem?_set_ne (Ne.symm hj))
  (fun r hr=>by rw[hg]at hr;cases hr;exact⟨Nat.le_refl _,_,_,_,rfl⟩) (.inr hL)
  (fun L' mono=>by
   obtain⟨q1,q2⟩:=hent'.to
   refine⟨es',clk',by simp[hblk],by simpa using q1,fun k row e hr he=>?_⟩
   obtain⟨x1,y1,e1,e2,e3⟩:=q2 k row e hr (by simpa using he)
   exact⟨x1,y1,e1,mono _ _ e2,mono _ _ e3⟩)
 rw[←XX]at r1 r2
 exact⟨undef,_,L',.inr ⟨hrun,rfl⟩,RepA.undef _ _ _,r1,r2,Xz _ _ _⟩

theorem ZJd (s:Sim F L (b++l) w) {t:TypeId} {r:Option Operand} (ht:ZHv (P.underlying t)=true) (hr:ZHw r=true) (ho:o.op=.makeMap t r) (h:aop e b l .mkmap=.val x b' l'):Q3 P o a w F L b l x b' l':=by
 simp only[aop,mk]at h
 cases h
 have hlen:(b++l).length=b.length+l.length:=by simp
 obtain⟨kt,el,hu⟩:∃kt el,P.underlying t=some (.map kt el):=by
  unfold ZHv at ht
  split at ht
  ·rename_i h;exact⟨_,_,h⟩
  ·cases ht
 have hrun:(execOp a.eval o).run P w=.ok (.value (.map (some w.heap.size))) (w.alloc (.map #[] 0)):=by
  unfold ZHw at hr
  split at hr
  ·simp[execOp,ho,Instr.makeMap]
  ·simp[execOp,ho,Instr.makeMap,run_underlying hu,Act.eval,asInt,asIntOf]
  ·cases hr
 obtain⟨L',r1,r2,r3,r4⟩:=s.putLoc (h':=b++(l++[.live 0 0 []])) (w':=w.alloc (.map #[] 0)) (b.length+l.length) 0 0 w.heap.size (.mp w.heap.size) [] (fun k hk=>hk.symm) rfl rfl rfl (by show _≤(w.heap.push _).size;simp)
  (fun k hk _=>by show (w.heap.push _)[k]? = _;rw[Array.getElem?_push,if_neg oM]) (.inl (Nat.le_refl _))
  (by rw[←List.append_assoc,List.getElem?_append_right oM];simp)
  (fun j hj=>by
   rw[←List.append_assoc]
   by_cases hjl:j<(b++l).length
   ·rw[List.getElem?_append_left hjl]
   ·rw[List.getElem?_eq_none (by simp;omega),List.getElem?_eq_none oM])
  (fun r hr=>by rw[List.getElem?_eq_none oM]at hr;cases hr)
  (.inl (by
   cases hq:L (b.length+l.length) 0 with
   |none=>rfl
   |some q=>exact absurd (s.lt hq) oM))
  (fun L' mono=>⟨#[],0,by show (w.heap.push _)[w.heap.size]? = _;simp,rfl,by simp⟩)
 exact⟨_,_,L',.inl hrun,.mp _ _ _ r3,r1,r2,rfl⟩

theorem ZLa (s:Sim F L (b++l) w) (he:XH w F L e a) {c:Call} {t kt el:TypeId} (ht:P.underlying t=some (.map kt el)) {y:Operand} {y':Opd} (hc:c.callee=.builtin .len) (ha:c.args.toList=[y]) (hts:c.argTypes.toList=[t]) (ho:o.op=.call c) (hy:QK y=some y')
  (h:aop e b l (.lenM y')=.val x b' l'):Q3 P o a w F L b l x b' l':=by
 have hr:=ZX he hy
 simp only[aop]at h
 generalize ev e y'=q at *
 generalize hv:a.eval y=v at hr
 unfold YQ at h
 split at h
 ·cases h
  obtain rfl:v=.map none:=by cases hr.vI;rfl
  refine Q3.pure s (v:=goInt 0) ?_ (toN _ _)
  rw[XF ho hc ha hts]
  simp[invoke,builtin,hv,Builtin.len_,run_underlying ht]
 ·rename_i id ver
  split at h
  case h_2=>cases h
  rename_i v sz els hg
  split at h
  case isFalse=>cases h
  rename_i hve
  subst hve
  cases h
  cases hr with
  |mp _ _ blk hL =>
  rw[Qq]at hg
  obtain⟨lc,g1,g2⟩:=s.row _ _ _ _ hg
  rw[hL]at g1;cases g1
  obtain⟨es,clk,g3,g4,g5⟩:=g2
  have hgo:=ZDb (P:=P) g3
  refine Q3.pure s (v:=goInt es.size) ?_ (by rw[g4];exact toN _ _)
  rw[XF ho hc ha hts]
  simp[invoke,builtin,hv,Builtin.len_,run_underlying ht,hgo]
 ·cases h
end
end Go.Proofs.YtoccdlnoaindmaaGreatDoor
