/- Texts of one proof, laid together: ZZ, W0, W1, W2, W3, W4, W5, W6, W7, W8, W9, WA, WX. No condition. -/
import Derived.Calls
import Derived.Orders
import Derived.Below
import Derived.Laws.AppendOwn
import Derived.Laws.OwnMore
import Derived.Laws.StructEq
import Derived.Laws.Slices
import Derived.Laws.Sem
import Derived.Lib.TrailingZeros
import Derived.Laws.Concat
import Derived.Laws.MakeOwn
import Derived.Laws.BytesString
namespace Go.Proofs.YtoccdlnoaindmaaGreatDoor
theorem oM {p:Prop} (h:p:=by omega):p:=h
theorem aS {p:Prop} (h:p:=by assumption):p:=h
theorem kH {p:Prop} (h:p:=by (repeat' (first|exact trivial|refine And.intro ?_ ?_))<;>(first|rfl|(congr 2;omega))):p:=h
set_option linter.unusedVariables false

inductive IV where
 |int (k:IntKind) (n:Int)
 |bool (b:Bool)
 |str (s:ByteArray)
 |zsl
 |isl (sz:Nat) (rows:List (List IV))
 |iptr (row:List IV) (j:Nat)
 |nilp
 |nilm
 |nilf
 |yl (l:Nat)

inductive AV where
 |any
 |v (x:IV)
 |agg (cs:List AV)
 |tup (cs:List AV)
 |sl (id ver off len:Nat)
 |ptr (id ver k j:Nat)
 |fn (f:Nat) (caps:List AV)
 |mp (id ver:Nat)

inductive Row where
 |live (ver sz:Nat) (els:List (List AV))
 |dead (ver:Nat)

def Row.ver:Row→Nat
 |.live v _ _=>v
 |.dead v=>v

inductive Loc where
 |nil
 |pl (blk off sz cap:Nat)
 |mp (blk:Nat)

def Loc.on:Loc→Nat→Prop
 |.nil,_=>False
 |.pl b _ _ _,k=>b=k
 |.mp b,k=>b=k

abbrev LMap:=Nat→Nat→Option Loc

def AV.cell:AV→Bool
 |.v _=>true
 |.sl .. => true
 |.ptr .. => true
 |.fn .. => true
 |.mp .. => true
 |_=>false

inductive RepI (w:World) (F:Nat→Prop):IV→Value→Prop where
 |int (k:IntKind) (n:Int):RepI w F (.int k n) (.int k n)
 |bool (b:Bool):RepI w F (.bool b) (.bool b)
 |str (s:ByteArray):RepI w F (.str s) (.string s)
 |zsl (a:Option Addr):RepI w F .zsl (.slice a 0 0)
 |isl0 (sz:Nat) (a:Option Addr) (c:Nat) (hm:c≤maxLen):RepI w F (.isl sz []) (.slice a 0 c)
 |isl (rows:List (List IV)) (b off sz c:Nat) (val:Nat→Nat→Value) (hF:F b) (hc:rows.length≤c) (hm:c≤maxLen)
   (sM:∀(k:Nat) (row:List IV),rows[k]? = some row→row.length=sz)
   (SF:∀(k:Nat) (row:List IV) (j:Nat) (a:IV),rows[k]? = some row→row[j]? = some a→w.cell? ⟨b,off+k*sz+j,none⟩=some (val k j))
   (mT:∀(k:Nat) (row:List IV) (j:Nat) (a:IV),rows[k]? = some row→row[j]? = some a→RepI w F a (val k j)):RepI w F (.isl sz rows) (.slice (some ⟨b,off,none⟩) rows.length c)
 |iptr (row:List IV) (j b off:Nat) (val:Nat→Value) (hF:F b)
   (SF:∀(j:Nat) (a:IV),row[j]? = some a→w.cell? ⟨b,off+j,none⟩=some (val j))
   (mT:∀(j:Nat) (a:IV),row[j]? = some a→RepI w F a (val j)):RepI w F (.iptr row j) (.pointer (some ⟨b,off+j,none⟩))
 |nilp:RepI w F .nilp (.pointer none)
 |nilm:RepI w F .nilm (.map none)
 |nilf:RepI w F .nilf .nilFunc
 |yl (l:Nat):RepI w F (.yl l) (.func (.yield l) #[] #[])

inductive RepA (w:World) (F:Nat→Prop) (L:LMap):AV→Value→Prop where
 |any (v:Value):RepA w F L .any v
 |v (x:IV) (v:Value) (h:RepI w F x v):RepA w F L (.v x) v
 |agg (cs:List AV) (vs:Array Value) (hl:cs.length=vs.size) (h:∀(i:Nat) (a:AV) (v:Value),cs[i]? = some a→vs[i]? = some v→RepA w F L a v):RepA w F L (.agg cs) (.agg vs)
 |tup (cs:List AV) (vs:Array Value) (hl:cs.length=vs.size) (h:∀(i:Nat) (a:AV) (v:Value),cs[i]? = some a→vs[i]? = some v→RepA w F L a v):RepA w F L (.tup cs) (.tuple vs)
 |sl (id ver off len b o sz cap:Nat) (hL:L id ver=some (.pl b o sz cap)) (h:off+len≤cap) (hm:cap≤maxLen):RepA w F L (.sl id ver off len) (.slice (some ⟨b,o+off*sz,none⟩) len (cap-off))
 |slz (id ver off b o sz cap x:Nat) (hL:L id ver=some (.pl b o sz cap)) (h:off=cap):RepA w F L (.sl id ver off 0) (.slice (some ⟨b,x,none⟩) 0 0)
 |sln (id ver:Nat) (ad:Option Addr) (hL:L id ver=some .nil):RepA w F L (.sl id ver 0 0) (.slice ad 0 0)
 |ptr (id ver k j b o sz cap:Nat) (hL:L id ver=some (.pl b o sz cap)):RepA w F L (.ptr id ver k j) (.pointer (some ⟨b,o+k*sz+j,none⟩))
 |fn (f:Nat) (cs:List AV) (vs:Array Value) (hl:cs.length=vs.size) (h:∀(i:Nat) (a:AV) (v:Value),cs[i]? = some a→vs[i]? = some v→RepA w F L a v):RepA w F L (.fn f cs) (.func (.func f) #[] vs)
 |mp (id ver b:Nat) (hL:L id ver=some (.mp b)):RepA w F L (.mp id ver) (.map (some b))

theorem RepI.mono {w w':World} {F F':Nat→Prop} {x:IV} {v:Value} (h:RepI w F x v) (hF:∀b,F b→F' b)
  (hw:∀b,F b→w'.heap[b]? = w.heap[b]?):RepI w' F' x v:=by
 induction h with
 |int k n=>exact .int k n
 |bool b=>exact .bool b
 |str s=>exact .str s
 |zsl a=>exact .zsl a
 |isl0 sz a c hm=>exact .isl0 sz a c hm
 |isl rows b off sz c val h1 h2 h3 h4 h5 h6 ih =>
   exact .isl rows b off sz c val (hF b h1) h2 h3 h4 (fun k row j a hk hj=>by rw[←h5 k row j a hk hj];exact World.cell?_of_block (hw b h1)) ih
 |iptr row j b off val h1 h2 h3 ih =>
   exact .iptr row j b off val (hF b h1) (fun j a hj=>by rw[←h2 j a hj];exact World.cell?_of_block (hw b h1)) ih
 |nilp=>exact .nilp
 |nilm=>exact .nilm
 |nilf=>exact .nilf
 |yl l=>exact .yl l

theorem RepA.mono {w w':World} {F F':Nat→Prop} {L L':LMap} {x:AV} {v:Value} (h:RepA w F L x v) (hF:∀b,F b→F' b)
  (hw:∀b,F b→w'.heap[b]? = w.heap[b]?) (hL:∀id ver l,L id ver=some l→L' id ver=some l):RepA w' F' L' x v:=by
 induction h with
 |any v=>exact .any v
 |v x v h=>exact .v x v (h.mono hF hw)
 |agg cs vs hl _ ih=>exact .agg cs vs hl ih
 |tup cs vs hl _ ih=>exact .tup cs vs hl ih
 |sl id ver off len b o sz cap h1 h2 h3=>exact .sl id ver off len b o sz cap (hL _ _ _ h1) h2 h3
 |slz id ver off b o sz cap x h1 h2=>exact .slz id ver off b o sz cap x (hL _ _ _ h1) h2
 |sln id ver ad h1=>exact .sln id ver ad (hL _ _ _ h1)
 |ptr id ver k j b o sz cap h1=>exact .ptr id ver k j b o sz cap (hL _ _ _ h1)
 |fn f cs vs hl _ ih=>exact .fn f cs vs hl ih
 |mp id ver b h1=>exact .mp id ver b (hL _ _ _ h1)

def dP (w:World) (F:Nat→Prop) (L:LMap) (sz:Nat) (els:List (List AV)):Loc→Prop
 |.nil=>els=[]
 |.pl b o z cap=>z=sz∧els.length≤cap∧cap≤maxLen∧∃cur T,w.heap[b]? = some (.cells cur T (0,0))∧o+cap*sz≤cur.size ∧
   (∀(k:Nat) (row:List AV),els[k]? = some row→row.length=sz) ∧
   ∀(k:Nat) (row:List AV) (j:Nat) (a:AV),els[k]? = some row→row[j]? = some a→a.cell=true∧∃v,cur[o+k*sz+j]? = some v∧RepA w F L a v
 |.mp b=>∃es clk,w.heap[b]? = some (.map es clk)∧es.size=els.length∧∀(k:Nat) (row:List AV) (e:MapEntry),els[k]? = some row→es[k]? = some e→∃x y,row=[x,y]∧RepA w F L x e.key∧RepA w F L y e.val

theorem dP.lt {w:World} {F:Nat→Prop} {L:LMap} {sz:Nat} {els:List (List AV)} {q:Loc} {b:Nat} (h:dP w F L sz els q) (hb:q.on b):b<w.heap.size:=by
 cases q with
 |nil=>exact hb.elim
 |pl b' o z c =>
   cases hb
   obtain⟨_,_,_,cur,T,h4,_⟩:=h
   exact (Array.getElem?_eq_some_iff.1 h4).1
 |mp b' =>
   cases hb
   obtain⟨es,clk,h4,_⟩:=h
   exact (Array.getElem?_eq_some_iff.1 h4).1
theorem dP.mono {w w':World} {F F':Nat→Prop} {L L':LMap} {sz:Nat} {els:List (List AV)} {q:Loc} (h:dP w F L sz els q) (hw:∀b,q.on b→w'.heap[b]? = w.heap[b]?)
  (m:∀(x:AV) (v:Value),RepA w F L x v→RepA w' F' L' x v):dP w' F' L' sz els q:=by
 cases q with
 |nil=>exact h
 |pl b o z c =>
   obtain⟨h1,h2,h3,cur,T,h4,h5,h6,h7⟩:=h
   refine⟨h1,h2,h3,cur,T,by rw[hw b rfl];exact h4,h5,h6,fun k row i a hk hi=>?_⟩
   obtain⟨h8,u,h9,h10⟩:=h7 k row i a hk hi
   exact⟨h8,u,h9,m _ _ h10⟩
 |mp b =>
   obtain⟨es,clk,h4,h5,h6⟩:=h
   refine⟨es,clk,by rw[hw b rfl];exact h4,h5,fun k row e hk he=>?_⟩
   obtain⟨x,y,h7,h8,h9⟩:=h6 k row e hk he
   exact⟨x,y,h7,m _ _ h8,m _ _ h9⟩

def LC (L:LMap) (h:List Row) (b:Nat):Prop:=∃id ver s els q,h[id]? = some (.live ver s els)∧L id ver=some q∧q.on b

def gtab:Option (Nat×List Nat):=none
def s9 (w:World) (F:Nat→Prop):Prop:=∀g tab,gtab=some (g,tab)→F g∧∀j,j<tab.length→w.cell? ⟨g,j,none⟩=some (.int .u8 (tab.getD j 0))
theorem s9.mono {w w':World} {F F':Nat→Prop} (h:s9 w F) (hF:∀b,F b→F' b) (hw:∀b,F b→w'.heap[b]? = w.heap[b]?):s9 w' F':=by
 intro g tab e
 obtain⟨h1,h2⟩:=h g tab e
 exact⟨hF g h1,fun j hj=>by rw[←h2 j hj];exact World.cell?_of_block (hw g h1)⟩

structure Sim (F:Nat→Prop) (L:LMap) (h:List Row) (w:World):Prop where
 row:∀id ver sz els,h[id]? = some (.live ver sz els)→∃l,L id ver=some l∧dP w F L sz els l
 born:∀id ver l,L id ver=some l→∃r,h[id]? = some r∧ver≤r.ver
 apart:∀id id' ver ver' s s' els els' b q q',h[id]? = some (.live ver s els)→h[id']? = some (.live ver' s' els') →
  L id ver=some q→L id' ver'=some q'→q.on b→q'.on b→id=id'
 imm:∀b,F b→b<w.heap.size∧¬LC L h b
 glob:s9 w F

structure Step (nb:Nat) (F:Nat→Prop) (L:LMap) (h:List Row) (w:World) (F':Nat→Prop) (L':LMap) (h':List Row) (w':World):Prop where
 imm:∀b,F b→F' b
 loc:∀id ver l,id<nb→L id ver=some l→L' id ver=some l
 os:w'.os=w.os
 tape:w'.tape=w.tape
 output:w'.output=w.output
 size:w.heap.size≤w'.heap.size
 block:∀b,b<w.heap.size→¬LC L h b→w'.heap[b]? = w.heap[b]?
 own:∀b,b<w.heap.size→LC L' h' b→LC L h b
 base:∀(id:Nat),id<nb→∀(v:Nat),h[id]? = some (Row.dead v)→h'[id]? = some (Row.dead v)
 fnew:∀b,b<w.heap.size→F' b→F b∨LC L h b

theorem Step.refl (nb:Nat) (F:Nat→Prop) (L:LMap) (h:List Row) (w:World):Step nb F L h w F L h w:=
 ⟨fun _ h=>h,fun _ _ _ _ h=>h,rfl,rfl,rfl,Nat.le_refl _,fun _ _ _=>rfl,fun _ _ h=>h,fun _ _ _ h=>h,fun _ _ h=>.inl h⟩

theorem Step.trans {nb:Nat} {F F1 F2:Nat→Prop} {L L1 L2:LMap} {h h1 h2:List Row} {w w1 w2:World}
  (a:Step nb F L h w F1 L1 h1 w1) (b:Step nb F1 L1 h1 w1 F2 L2 h2 w2):Step nb F L h w F2 L2 h2 w2:=
 ⟨fun k hk=>b.imm k (a.imm k hk),fun id ver l hn hl=>b.loc id ver l hn (a.loc id ver l hn hl),b.os.trans a.os,b.tape.trans a.tape,b.output.trans a.output,
  Nat.le_trans a.size b.size,
  fun k hk ho=>(b.block k (Nat.lt_of_lt_of_le hk a.size) (fun h=>ho (a.own k hk h))).trans (a.block k hk ho),
  fun k hk ho=>a.own k hk (b.own k (Nat.lt_of_lt_of_le hk a.size) ho),fun id hn v hv=>b.base id hn v (a.base id hn v hv),fun k hk hf=>(b.fnew k (Nat.lt_of_lt_of_le hk a.size) hf).elim (fun h=>a.fnew k hk h) (fun h=>.inr (a.own k hk h))⟩

theorem Step.weaken {nb nb':Nat} {F F1:Nat→Prop} {L L1:LMap} {h h1:List Row} {w w1:World}
  (a:Step nb F L h w F1 L1 h1 w1) (hn:nb'≤nb):Step nb' F L h w F1 L1 h1 w1:=
 ⟨a.imm,fun id ver l hi=>a.loc id ver l (Nat.lt_of_lt_of_le hi hn),a.os,a.tape,a.output,a.size,a.block,a.own,fun id hi=>a.base id (Nat.lt_of_lt_of_le hi hn),a.fnew⟩

def YC (w:World) (F:Nat→Prop) (L:LMap) (e:List AV) (a:Act):Prop:=
 a.defers=[]∧a.tmps.size=e.length∧∀(i:Nat) (x:AV) (v:Value),e[i]? = some x→a.tmps[i]? = some v→RepA w F L x v

theorem Sim.lt {F:Nat→Prop} {L:LMap} {h:List Row} {w:World} (s:Sim F L h w) {id ver:Nat} {l:Loc} (hl:L id ver=some l):id<h.length:=by
 obtain⟨r,hr,_⟩:=s.born id ver l hl
 exact (List.getElem?_eq_some_iff.1 hr).1

theorem YC.mono {w w':World} {F F':Nat→Prop} {L L':LMap} {e:List AV} {a:Act} (h:YC w F L e a) (hF:∀b,F b→F' b)
  (hw:∀b,F b→w'.heap[b]? = w.heap[b]?) (hL:∀id ver l,L id ver=some l→L' id ver=some l):YC w' F' L' e a:=
 ⟨h.1,h.2.1,fun i x v hx hv=>(h.2.2 i x v hx hv).mono hF hw hL⟩

theorem Step.immEq {nb:Nat} {F F1:Nat→Prop} {L L1:LMap} {h h1:List Row} {w w1:World} (a:Step nb F L h w F1 L1 h1 w1) (s:Sim F L h w) :
  ∀b,F b→w1.heap[b]? = w.heap[b]?:=fun b hb=>a.block b (s.imm b hb).1 (s.imm b hb).2

theorem Step.locAll {F F1:Nat→Prop} {L L1:LMap} {h h1:List Row} {w w1:World} (a:Step h.length F L h w F1 L1 h1 w1) (s:Sim F L h w) :
  ∀id ver l,L id ver=some l→L1 id ver=some l:=fun id ver l hl=>a.loc id ver l (s.lt hl) hl

theorem YC.step {w w':World} {F F':Nat→Prop} {L L':LMap} {h h':List Row} {e:List AV} {a:Act} (he:YC w F L e a) (s:Sim F L h w)
  (st:Step h.length F L h w F' L' h' w'):YC w' F' L' e a:=he.mono st.imm (st.immEq s) (st.locAll s)

theorem RepA.step {w w':World} {F F':Nat→Prop} {L L':LMap} {h h':List Row} {x:AV} {v:Value} (hx:RepA w F L x v) (s:Sim F L h w)
  (st:Step h.length F L h w F' L' h' w'):RepA w' F' L' x v:=hx.mono st.imm (st.immEq s) (st.locAll s)

def nth:List AV→Nat→AV
 |[],_=>.tup []
 |a::_,0=>a
 |_::l,n+1=>nth l n
def upd:List AV→Nat→AV→List AV
 |[],_,_=>[]
 |_::l,0,x=>x::l
 |a::l,n+1,x=>a::upd l n x

theorem pM (l:List AV) (n:Nat):nth l n=(l[n]?).getD (.tup []):=by
 induction l generalizing n with
 |nil=>simp[nth]
 |cons a l ih=>cases n with
   |zero=>simp[nth]
   |succ n=>simp[nth,ih]
theorem UJ (l:List AV) (n:Nat) (x:AV):upd l n x=l.set n x:=by
 induction l generalizing n with
 |nil=>simp[upd]
 |cons a l ih=>cases n with
   |zero=>simp[upd]
   |succ n=>simp[upd,ih]

theorem RepA.undef (w:World) (F:Nat→Prop) (L:LMap):RepA w F L (.tup []) undef:=.tup [] #[] rfl (by simp)

theorem YC.nth {w:World} {F:Nat→Prop} {L:LMap} {e:List AV} {a:Act} (h:YC w F L e a) (n:Nat):RepA w F L (nth e n) (a.tmps.getD n Go.undef):=by
 rw[pM]
 rcases Nat.lt_or_ge n e.length with hn|hn
 ·have hn':n<a.tmps.size:=by rw[h.2.1];exact hn
  rw[List.getElem?_eq_getElem hn]
  have:=h.2.2 n e[n] a.tmps[n] (List.getElem?_eq_getElem hn) (Array.getElem?_eq_getElem hn')
  simpa [Array.getD,hn'] using this
 ·have hn':¬n<a.tmps.size:=by rw[h.2.1];omega
  rw[List.getElem?_eq_none hn]
  simp only[Array.getD,hn',dif_neg,not_false_eq_true,Option.getD_none]
  exact RepA.undef w F L

theorem YC.upd {w:World} {F:Nat→Prop} {L:LMap} {e:List AV} {a:Act} (h:YC w F L e a) (n:Nat) {x:AV} {v:Value} (hx:RepA w F L x v) :
  YC w F L (upd e n x) (a.put (some n) v):=by
 rw[UJ]
 refine⟨h.1,by simp[Act.put,h.2.1],fun i y u hy hu=>?_⟩
 simp only[Act.put]at hu
 by_cases hi:n=i
 ·subst hi
  rw[List.getElem?_set]at hy
  rw[Array.getElem?_setIfInBounds]at hu
  simp only[if_true]at hy hu
  split at hy
  ·split at hu
   ·cases hy;cases hu;exact hx
   ·cases hu
  ·cases hy
 ·rw[List.getElem?_set_ne hi]at hy
  rw[Array.getElem?_setIfInBounds_ne hi]at hu
  exact h.2.2 i y u hy hu

def put (e:List AV) (d:Option Nat) (x:AV):List AV:=
 match d with
 |some n=>upd e n x
 |none=>e

theorem YC.put {w:World} {F:Nat→Prop} {L:LMap} {e:List AV} {a:Act} (h:YC w F L e a) (d:Option Nat) {x:AV} {v:Value} (hx:RepA w F L x v) :
  YC w F L (put e d x) (a.put d v):=by
 cases d with
 |none=>exact h
 |some n=>exact h.upd n hx

def hget (b l:List Row) (id:Nat):Option Row:=if id<b.length then b[id]? else l[id-b.length]?

theorem zD (b l:List Row) (id:Nat):hget b l id=(b++l)[id]?:=by
 unfold hget
 split
 ·rename_i h;rw[List.getElem?_append_left h]
 ·rename_i h;rw[List.getElem?_append_right oM]

def qE (b:List Row) (id:Nat) (r:Row):List Row:=if id<b.length then b.set id r else b
def sE (b l:List Row) (id:Nat) (r:Row):List Row:=if id<b.length then l else l.set (id-b.length) r

theorem CD (b l:List Row) (id:Nat) (r:Row):qE b id r++sE b l id r=(b++l).set id r:=by
 unfold qE sE
 split
 ·rename_i h;rw[List.set_append_left _ _ h]
 ·rename_i h;rw[List.set_append_right _ _ oM]

theorem YF (b:List Row) (id:Nat) (r:Row):(qE b id r).length=b.length:=by unfold qE;split<;>simp


inductive Opd where
 |t (n:Nat)
 |c (x:AV)

inductive FK where
 |i
 |b
 |s

inductive KK where
 |one (k:FK)
 |many (ks:List FK)

inductive AOp where
 |mv (x:Opd)
 |nilck (x:Opd)
 |pick (c a b:Opd)
 |bin (o:BinOp) (x y:Opd)
 |binB (o:BinOp) (x y:Opd)
 |binS (o:BinOp) (x y:Opd)
 |eqs (neg:Bool) (ks:List FK) (x y:Opd)
 |not (x:Opd)
 |neg (x:Opd)
 |conv (k:IntKind) (x:Opd)
 |alloc (zs:List AV)
 |box (x:Opd)
 |build (zs:List AV) (ps:List (Nat×Nat×Opd))
 |bslice (sz:Nat) (zs:List AV) (len:Nat) (ps:List (Nat×Opd))
 |islb (sz:Nat) (zs:List AV) (len:Nat) (ps:List (Nat×Opd))
 |load (n:Option Nat) (x:Opd)
 |store (n:Nat) (x y:Opd)
 |faddr (d:Nat) (x:Opd)
 |iaddr (sz:Nat) (x i:Opd)
 |iaddrA (len sz:Nat) (x i:Opd)
 |field (off:Nat) (n:Option Nat) (x:Opd)
 |indexS (x i:Opd)
 |indexA (len sz:Nat) (n:Option Nat) (x i:Opd)
 |slice (sz:Nat) (x:Opd) (lo hi:Option Opd)
 |slice0 (x:Opd)
 |sliceS (x:Opd) (lo hi:Option Opd)
 |len (x:Opd)
 |lenS (x:Opd)
 |append (sz bytes:Nat) (s x:Opd)
 |mkslice (sz:Nat) (zs:List AV) (bytes:Nat) (l c:Opd)
 |mkfn (f:Nat) (caps:List Opd)
 |extract (i:Nat) (x:Opd)
 |call (f:Opd) (args:List Opd)
 |mm (isMax:Bool) (x y:Opd)
 |copy (sz:Nat) (x y:Opd)
 |isnil (neg:Bool) (x:Opd)
 |mkmap
 |lookup (kk:KK) (zero:AV) (comma:Bool) (m x:Opd)
 |mupdate (kk:KK) (m x y:Opd)
 |lenM (x:Opd)
 |tostr (x:Opd)
 |capz (x:Opd)
 |appz (sz bytes:Nat) (zs:List AV) (s n:Opd)

structure AOper where
 dst:Option Nat
 op:AOp
 guard:Option (Nat×Bool)

structure DOper where
 i:Nat
 o:AOper
 re:List AOper

inductive ACode where
 |skip
 |region (ops:List AOper)
 |draw (ds:List DOper)
 |both (a b:ACode)
 |seq (a b:ACode)
 |cond (c:Opd) (x y:ACode)
 |block (id:Nat) (c:ACode)
 |loop (c:ACode)
 |exit (id:Nat)
 |ret

inductive AExit where
 |normal
 |exit (id:Nat)
 |ret

inductive ARes where
 |tmp (t:Nat)
 |cell (t:Nat) (n:Option Nat)

structure AFunc where
 nargs:Nat
 ntmps:Nat
 res:List ARes
 body:ACode

def AOp.quiet:AOp→Bool
 |.alloc _=>false
 |.box _=>false
 |.bslice .. => false
 |.store .. => false
 |.append .. => false
 |.appz .. => false
 |.mkslice .. => false
 |.call .. => false
 |.copy .. => false
 |.isnil .. => false
 |.mkmap=>false
 |.mupdate .. => false
 |_=>true

def AOp.isAlloc:AOp→Bool
 |.alloc _=>true
 |_=>false

def Opd.slot:Opd→List Nat
 |.t n=>[n]
 |.c _=>[]
def WI:List Opd→List Nat
 |[]=>[]
 |x::xs=>x.slot++WI xs
def YY:Option Opd→List Nat
 |some x=>x.slot
 |none=>[]
def AOp.looks:AOp→List Nat
 |.mv x=>x.slot
 |.nilck x=>x.slot
 |.pick c x y=>c.slot++x.slot++y.slot
 |.bin _ x y=>x.slot++y.slot
 |.binB _ x y=>x.slot++y.slot
 |.binS _ x y=>x.slot++y.slot
 |.eqs _ _ x y=>x.slot++y.slot
 |.not x=>x.slot
 |.neg x=>x.slot
 |.conv _ x=>x.slot
 |.alloc _=>[]
 |.box x=>x.slot
 |.build _ ps=>WI (ps.map (·.2.2))
 |.bslice _ _ _ ps=>WI (ps.map (·.2))
 |.islb _ _ _ ps=>WI (ps.map (·.2))
 |.load _ x=>x.slot
 |.store _ x y=>x.slot++y.slot
 |.faddr _ x=>x.slot
 |.iaddr _ x y=>x.slot++y.slot
 |.iaddrA _ _ x y=>x.slot++y.slot
 |.field _ _ x=>x.slot
 |.indexS x y=>x.slot++y.slot
 |.indexA _ _ _ x y=>x.slot++y.slot
 |.slice _ x lo hi=>x.slot++YY lo++YY hi
 |.slice0 x=>x.slot
 |.sliceS x lo hi=>x.slot++YY lo++YY hi
 |.len x=>x.slot
 |.lenS x=>x.slot
 |.append _ _ x y=>x.slot++y.slot
 |.mkslice _ _ _ x y=>x.slot++y.slot
 |.mkfn _ cs=>WI cs
 |.extract _ x=>x.slot
 |.call f az=>f.slot++WI az
 |.mm _ x y=>x.slot++y.slot
 |.copy _ x y=>x.slot++y.slot
 |.isnil _ x=>x.slot
 |.mkmap=>[]
 |.lookup _ _ _ m x=>m.slot++x.slot
 |.mupdate _ m x y=>m.slot++x.slot++y.slot
 |.lenM x=>x.slot
 |.tostr x=>x.slot
 |.capz x=>x.slot
 |.appz _ _ _ x y=>x.slot++y.slot
def AOper.looks (o:AOper):List Nat:=o.op.looks++(match o.guard with
 |some (g,_)=>[g]
 |none=>[])

def ev (e:List AV):Opd→AV
 |.t n=>nth e n
 |.c x=>x
def evs (e:List AV):List Opd→List AV
 |[]=>[]
 |x::xs=>ev e x::evs e xs

inductive OpR where
 |val (x:AV) (b l:List Row)
 |two (c:Bool) (x y:AV)
 |call (f:Nat) (args:List AV)
 |bad

def iE (o:BinOp) (k:IntKind) (a b:Int):Option IV:=
 match o with
 |.add=>some (.int k (k.wrap (a+b)))
 |.sub=>some (.int k (k.wrap (a-b)))
 |.mul=>some (.int k (k.wrap (a*b)))
 |.quo=>if b=0 then none else some (.int k (k.wrap (a.tdiv b)))
 |.rem=>if b=0 then none else some (.int k (a.tmod b))
 |.and=>some (.int k (k.wrap ((BitVec.ofInt k.bits a &&& BitVec.ofInt k.bits b).toNat)))
 |.or=>some (.int k (k.wrap ((BitVec.ofInt k.bits a ||| BitVec.ofInt k.bits b).toNat)))
 |.xor=>some (.int k (k.wrap ((BitVec.ofInt k.bits a ^^^ BitVec.ofInt k.bits b).toNat)))
 |.andNot=>some (.int k (k.wrap ((BitVec.ofInt k.bits a &&& ~~~(BitVec.ofInt k.bits b)).toNat)))
 |.eql=>some (.bool (a==b))
 |.neq=>some (.bool (a != b))
 |.lss=>some (.bool (decide (a<b)))
 |.leq=>some (.bool (decide (a≤b)))
 |.gtr=>some (.bool (decide (a>b)))
 |.geq=>some (.bool (decide (a≥b)))
 |.shl=>none
 |.shr=>none

def XH (o:BinOp) (k:IntKind) (a b:Int):Option IV:=
 if b<0 then none else
 match o with
 |.shl=>some (.int k (k.wrap (a*2 ^ (min b.toNat k.bits))))
 |.shr=>some (.int k (a.fdiv (2 ^ (min b.toNat k.bits))))
 |_=>none

def YH:BinOp→Bool
 |.shl=>true
 |.shr=>true
 |_=>false

def xE (o:BinOp) (a b:ByteArray):Option IV:=
 match o with
 |.add=>if a.size+b.size≤9223372036854775807 then some (.str (a++b)) else none
 |.eql=>some (.bool (a==b))
 |.neq=>some (.bool (!(a==b)))
 |.lss=>some (.bool (Op.bytesLess a.toList b.toList))
 |.geq=>some (.bool (!(Op.bytesLess a.toList b.toList)))
 |_=>none

def kD (o:BinOp) (a b:Bool):Option IV:=
 match o with
 |.eql=>some (.bool (a==b))
 |.neq=>some (.bool (!(a==b)))
 |_=>none

def nH (o:BinOp):AV→AV→Option IV
 |.v (.int k a),.v (.int k' b)=>if YH o=true then XH o k a b else if k=k' then iE o k a b else none
 |_,_=>none
def bE (o:BinOp):AV→AV→Option IV
 |.v (.bool a),.v (.bool b)=>kD o a b
 |_,_=>none
def eE (o:BinOp):AV→AV→Option IV
 |.v (.str a),.v (.str b)=>xE o a b
 |_,_=>none

def rF:Option Bool→Option Bool→Option Bool
 |some r,some s=>some (r&&s)
 |_,_=>none

def eqF:FK→AV→AV→Option Bool
 |.i,.v (.int k a),.v (.int k' b)=>if k=k' then some (a==b) else none
 |.b,.v (.bool a),.v (.bool b)=>some (a==b)
 |.s,.v (.str a),.v (.str b)=>some (a==b)
 |_,_,_=>none

def eqC:List FK→List AV→List AV→Option Bool
 |[],[],[]=>some true
 |k::ks,x::xs,y::ys=>rF (eqF k x y) (eqC ks xs ys)
 |_,_,_=>none

def RC:KK→AV→AV→Option Bool
 |.one k,x,y=>eqF k x y
 |.many ks,.agg xs,.agg ys=>eqC ks xs ys
 |_,_,_=>none
def VO (kk:KK) (x:AV):List (List AV)→Option (Option AV)
 |[]=>some none
 |[y,v]::r=>match RC kk x y with
   |some true=>some (some v)
   |some false=>VO kk x r
   |none=>none
 |_::_=>none
def Q2 (kk:KK) (x v:AV):List (List AV)→Option (List (List AV))
 |[]=>some [[x,v]]
 |[y,u]::r=>match RC kk x y with
   |some true=>some ([x,v]::r)
   |some false=>(Q2 kk x v r).map ([y,u]::·)
   |none=>none
 |_::_=>none

def cellsOf:AV→Option (List AV)
 |.v x=>some [.v x]
 |.agg cs=>some cs
 |.sl a b c d=>some [.sl a b c d]
 |.ptr a b c d=>some [.ptr a b c d]
 |.fn f cs=>some [.fn f cs]
 |.mp a b=>some [.mp a b]
 |_=>none

def YA (row:List AV) (j:Nat):List AV→List AV
 |[]=>row
 |c::cs=>YA (row.set j c) (j+1) cs

def aD (e:List AV) (row:List AV):List (Nat×Nat×Opd)→Option (List AV)
 |[]=>some row
 |(off,size,x)::ps =>
   match cellsOf (ev e x) with
   |some cs=>if cs.length=size∧off+size≤row.length then aD e (YA row off cs) ps else none
   |none=>none

def lD (e:List AV) (sz:Nat) (els:List (List AV)):List (Nat×Opd)→Option (List (List AV))
 |[]=>some els
 |(i,x)::ps =>
   match cellsOf (ev e x) with
   |some cs=>if cs.length=sz∧i<els.length∧cs.all AV.cell=true then lD e sz (els.set i cs) ps else none
   |none=>none

def PG:List AV→Option (List IV)
 |[]=>some []
 |.v x::r=>match PG r with
   |some ys=>some (x::ys)
   |none=>none
 |_::_=>none
def uE:List (List AV)→Option (List (List IV))
 |[]=>some []
 |r::rs=>match PG r,uE rs with
   |some x,some xs=>some (x::xs)
   |_,_=>none

def rd (row:List AV) (j:Nat):Option Nat→Option AV
 |none=>row[j]?
 |some n=>if j+n≤row.length then some (.agg ((row.drop j).take n)) else none
def rdI (row:List IV) (j:Nat):Option Nat→Option AV
 |none=>(row[j]?).map .v
 |some n=>if j+n≤row.length then some (.agg (((row.drop j).take n).map .v)) else none

def uI (x:Option AV) (b l:List Row):OpR:=
 match x with
 |some x=>.val x b l
 |none=>.bad

def TD (b l:List Row) (sz:Nat):AV→Option (List (List AV))
 |.v .zsl=>some []
 |.v (.isl s rows)=>if s=sz then some (rows.map (·.map .v)) else none
 |.sl id ver off len =>
   match hget b l id with
   |some (.live v s els)=>if v=ver∧s=sz∧off+len≤els.length then some ((els.drop off).take len) else none
   |_=>none
 |.v (.str s)=>if sz=1 then some (s.data.toList.map fun c=>[.v (.int .u8 c.toNat)]) else none
 |_=>none

def mk (b l:List Row) (sz:Nat) (els:List (List AV)) (x:Nat→AV):OpR:=.val (x (b.length+l.length)) b (l++[.live 0 sz els])

def MC (n:Nat) (lo hi:Option AV):Option (Nat×Nat):=
 match lo,hi with
 |none,none=>some (0,n)
 |some (.v (.int _ a)),none=>if 0≤a∧a≤(n:Int) then some (a.toNat,n) else none
 |none,some (.v (.int _ c))=>if 0≤c∧c≤(n:Int) then some (0,c.toNat) else none
 |some (.v (.int _ a)),some (.v (.int _ c))=>if 0≤a∧a≤c∧c≤(n:Int) then some (a.toNat,c.toNat) else none
 |_,_=>none

def room:Nat:=140737488355328

def ZD (b l:List Row) (sz:Nat) (x:AV) (lo hi:Option AV):OpR:=
 match x with
 |.v .zsl=>match MC 0 lo hi with
   |some _=>.val (.v .zsl) b l
   |none=>.bad
 |.v (.isl s rows) =>
   if s=sz then match MC rows.length lo hi with
    |some (p,q)=>.val (.v (.isl s ((rows.take q).drop p))) b l
    |none=>.bad
   else .bad
 |.sl id ver off len =>
   match hget b l id with
   |some (.live v s els)=>if v=ver∧s=sz then match MC len lo hi with
     |some (p,q)=>.val (.sl id ver (off+p) (q-p)) b l
     |none=>.bad
    else .bad
   |_=>.bad
 |_=>.bad

def VC (b l:List Row) (sz bytes:Nat) (s x:AV):OpR:=
 match TD b l sz x with
 |none=>.bad
 |some xs =>
   match s with
   |.v .zsl=>if xs=[] then .val (.v .zsl) b l else if xs.length*bytes≤room∧xs.length≤room then mk b l sz xs (fun i=>.sl i 0 0 xs.length) else .bad
   |.sl id ver off len =>
     match hget b l id with
     |some (.live v s' els) =>
       if v=ver∧s'=sz∧off+len≤els.length∧(len+xs.length)*bytes≤room∧len+xs.length≤room then
        .val (.sl id (ver+1) 0 (len+xs.length)) (qE b id (.live (ver+1) sz ((els.drop off).take len++xs))) (sE b l id (.live (ver+1) sz ((els.drop off).take len++xs)))
       else .bad
     |_=>.bad
   |_=>.bad

def nE (b l:List Row) (sz bytes:Nat) (zs:List AV) (s n:AV):OpR:=
 match s,n with
 |.v .zsl,.v (.int .i64 n)=>if n=0 then .val (.v .zsl) b l else if 0<n∧n.toNat*bytes≤room∧n.toNat≤room then mk b l sz (List.replicate n.toNat zs) (fun i=>.sl i 0 0 n.toNat) else .bad
 |_,_=>.bad

def YE (b l:List Row) (n:Option Nat):AV→OpR
 |.v (.iptr row j)=>uI (rdI row j n) b l
 |.ptr id ver k j =>
   match hget b l id with
   |some (.live v _ els)=>if v=ver then match els[k]? with
     |some row=>uI (rd row j n) b l
     |none=>.bad
    else .bad
   |_=>.bad
 |_=>.bad

def jD (b l:List Row) (n:Nat) (x y:AV):OpR:=
 match x,cellsOf y with
 |.ptr id ver k j,some cs =>
   match hget b l id with
   |some (.live v s els)=>if v=ver∧cs.length=n∧cs.all AV.cell=true then match els[k]? with
     |some row=>if j+n≤row.length then .val (.tup []) (qE b id (.live ver s (els.set k (YA row j cs)))) (sE b l id (.live ver s (els.set k (YA row j cs)))) else .bad
     |none=>.bad
    else .bad
   |_=>.bad
 |_,_=>.bad

def QD (b l:List Row) (sz:Nat) (x i:AV):OpR:=
 match x,i with
 |.v (.isl s rows),.v (.int _ n)=>if s=sz∧0≤n then match rows[n.toNat]? with
   |some row=>.val (.v (.iptr row 0)) b l
   |none=>.bad
  else .bad
 |.sl id ver off len,.v (.int _ n)=>match hget b l id with
   |some (.live v s els)=>if v=ver∧s=sz∧0≤n∧n<(len:Int) then .val (.ptr id ver (off+n.toNat) 0) b l else .bad
   |_=>.bad
 |_,_=>.bad

def OB (b l:List Row) (len sz:Nat) (x i:AV):OpR:=
 match x,i with
 |.v (.iptr row j),.v (.int _ n)=>if 0≤n∧n<(len:Int) then .val (.v (.iptr row (j+n.toNat*sz))) b l else .bad
 |.ptr id ver k j,.v (.int _ n)=>if 0≤n∧n<(len:Int) then .val (.ptr id ver k (j+n.toNat*sz)) b l else .bad
 |_,_=>.bad

def XD (b l:List Row) (d:Nat):AV→OpR
 |.v (.iptr row j)=>.val (.v (.iptr row (j+d))) b l
 |.ptr id ver k j=>.val (.ptr id ver k (j+d)) b l
 |_=>.bad

def GE:AV→Option AV
 |.v (.str s)=>some (.v (.int .i64 s.size))
 |_=>none
def pH:AV→Option AV
 |.v .zsl=>some (.v (.int .i64 0))
 |.v (.isl _ rows)=>some (.v (.int .i64 rows.length))
 |.sl _ _ _ n=>some (.v (.int .i64 n))
 |_=>none

def tE (b l:List Row) (sz:Nat) (x y:AV):OpR:=
 match TD b l sz y with
 |none=>.bad
 |some xs =>
   match x with
   |.sl id ver off len =>
     match hget b l id with
     |some (.live v s els) =>
       if v=ver∧s=sz∧off+len≤els.length then
        .val (.v (.int .i64 ((min xs.length len:Nat):Int))) (qE b id (.live ver s (els.take off++xs.take len++els.drop (off+min xs.length len)))) (sE b l id (.live ver s (els.take off++xs.take len++els.drop (off+min xs.length len))))
       else .bad
     |_=>.bad
   |_=>.bad

def comma (c:Bool) (v:AV) (ok:Bool):AV:=if c then .tup [v,.v (.bool ok)] else v
def AB (b l:List Row) (kk:KK) (zero:AV) (c:Bool) (m x:AV):OpR:=
 if RC kk x x=some true then match m with
  |.v .nilm=>.val (comma c zero false) b l
  |.mp id ver=>match hget b l id with
    |some (.live v _ els)=>if v=ver then match VO kk x els with
      |some (some y)=>.val (comma c y true) b l
      |some none=>.val (comma c zero false) b l
      |none=>.bad
     else .bad
    |_=>.bad
  |_=>.bad
 else .bad
def rB (b l:List Row) (kk:KK) (m x y:AV):OpR:=
 if RC kk x x=some true then match m with
  |.mp id ver=>match hget b l id with
    |some (.live v s els)=>if v=ver then match Q2 kk x y els with
      |some els'=>.val (.tup []) (qE b id (.live ver s els')) (sE b l id (.live ver s els'))
      |none=>.bad
     else .bad
    |_=>.bad
  |_=>.bad
 else .bad
def XP:List (List AV)→Option (List Int)
 |[]=>some []
 |[.v (.int .u8 n)]::rs=>(XP rs).map (n::·)
 |_=>none
def GU (ns:List Int):ByteArray:=⟨(ns.map fun n=>UInt8.ofNat n.toNat).toArray⟩
def OC (b l:List Row) (x:AV):OpR:=
 match x with
 |.v (.str _)=>.bad
 |x=>match TD b l 1 x with
   |some xs=>match XP xs with
     |some ns=>.val (.v (.str (GU ns))) b l
     |none=>.bad
   |none=>.bad
def dE (b l:List Row):AV→OpR
 |.v .nilm=>.val (.v (.int .i64 0)) b l
 |.mp id ver=>match hget b l id with
   |some (.live v _ els)=>if v=ver then .val (.v (.int .i64 els.length)) b l else .bad
   |_=>.bad
 |_=>.bad

def amm (isMax:Bool):AV→AV→Option AV
 |.v (.int k x),.v (.int _ y)=>some (.v (.int k (if isMax then (if y>x then y else x) else (if y<x then y else x))))
 |_,_=>none

def evo (e:List AV):Option Opd→Option AV
 |some x=>some (ev e x)
 |none=>none

def vE:AV→List AV→OpR
 |.fn f caps,args=>.call f (args++caps)
 |_,_=>.bad

def aE:AV→AV→AV→Option AV
 |.v (.bool t),.v (.bool a),.v (.bool c)=>some (.v (.bool (if t then a else c)))
 |.v (.bool t),a,c=>some (if t then a else c)
 |_,_,_=>none

def aop (e:List AV) (b l:List Row):AOp→OpR
 |.mv x=>.val (ev e x) b l
 |.nilck x=>match ev e x with
   |.v (.iptr row j)=>.val (.v (.iptr row j)) b l
   |.ptr id ver k j=>.val (.ptr id ver k j) b l
   |.fn f cs=>.val (.fn f cs) b l
   |_=>.bad
 |.pick c x y=>uI (aE (ev e c) (ev e x) (ev e y)) b l
 |.bin o x y=>uI ((nH o (ev e x) (ev e y)).map .v) b l
 |.binB o x y=>uI ((bE o (ev e x) (ev e y)).map .v) b l
 |.binS o x y=>uI ((eE o (ev e x) (ev e y)).map .v) b l
 |.eqs neg ks x y=>match ev e x,ev e y with
   |.agg xs,.agg ys=>match eqC ks xs ys with
     |some t=>.val (.v (.bool (if neg then !t else t))) b l
     |none=>.bad
   |_,_=>.bad
 |.not x=>match ev e x with
   |.v (.bool t)=>.val (.v (.bool (!t))) b l
   |_=>.bad
 |.neg x=>match ev e x with
   |.v (.int k n)=>.val (.v (.int k (k.wrap (0-n)))) b l
   |_=>.bad
 |.conv k x=>match ev e x with
   |.v (.int _ n)=>.val (.v (.int k (k.wrap n))) b l
   |_=>.bad
 |.alloc zs=>mk b l zs.length [zs] (fun i=>.ptr i 0 0 0)
 |.box x=>match cellsOf (ev e x) with
   |some cs=>if cs.all AV.cell=true then mk b l cs.length [cs] (fun i=>.ptr i 0 0 0) else .bad
   |none=>.bad
 |.build zs ps=>match aD e zs ps with
   |some cs=>.val (.agg cs) b l
   |none=>.bad
 |.bslice sz zs len ps=>match lD e sz (List.replicate len zs) ps with
   |some els=>mk b l sz els (fun i=>.sl i 0 0 len)
   |none=>.bad
 |.islb sz zs len ps=>match lD e sz (List.replicate len zs) ps with
   |some els=>match uE els with
     |some rows=>.val (.v (.isl sz rows)) b l
     |none=>.bad
   |none=>.bad
 |.load n x=>YE b l n (ev e x)
 |.store n x y=>jD b l n (ev e x) (ev e y)
 |.faddr d x=>XD b l d (ev e x)
 |.iaddr sz x i=>QD b l sz (ev e x) (ev e i)
 |.iaddrA len sz x i=>OB b l len sz (ev e x) (ev e i)
 |.field off n x=>match ev e x with
   |.agg cs=>uI (rd cs off n) b l
   |_=>.bad
 |.indexS x i=>match ev e x,ev e i with
   |.v (.str s),.v (.int _ n)=>if h:0≤n∧n.toNat<s.size then .val (.v (.int .u8 (s[n.toNat]'h.2).toNat)) b l else .bad
   |_,_=>.bad
 |.indexA len sz n x i=>match ev e x,ev e i with
   |.agg cs,.v (.int _ k)=>if 0≤k∧k<(len:Int) then uI (rd cs (k.toNat*sz) n) b l else .bad
   |_,_=>.bad
 |.slice sz x lo hi=>ZD b l sz (ev e x) (evo e lo) (evo e hi)
 |.slice0 x=>match ev e x with
   |.v .zsl=>.val (.v .zsl) b l
   |.v (.isl _ _)=>.val (.v .zsl) b l
   |.sl .. => .val (.v .zsl) b l
   |_=>.bad
 |.sliceS x lo hi=>match ev e x with
   |.v (.str s)=>match MC s.size (evo e lo) (evo e hi) with
     |some (p,q)=>.val (.v (.str (s.extract p q))) b l
     |none=>.bad
   |_=>.bad
 |.len x=>uI (pH (ev e x)) b l
 |.capz x=>match ev e x with
   |.v .zsl=>.val (.v (.int .i64 0)) b l
   |_=>.bad
 |.lenS x=>uI (GE (ev e x)) b l
 |.append sz bytes s x=>VC b l sz bytes (ev e s) (ev e x)
 |.appz sz bytes zs s n=>nE b l sz bytes zs (ev e s) (ev e n)
 |.mkslice sz zs bytes n c=>match ev e n,ev e c with
   |.v (.int _ n),.v (.int _ c)=>if 0≤n∧n≤c∧c.toNat*bytes≤room∧c.toNat≤room then mk b l sz (List.replicate n.toNat zs) (fun i=>.sl i 0 0 n.toNat) else .bad
   |_,_=>.bad
 |.mkfn f caps=>.val (.fn f (evs e caps)) b l
 |.extract i x=>match ev e x with
   |.tup cs=>uI (cs[i]?) b l
   |_=>.bad
 |.call f args=>vE (ev e f) (evs e args)
 |.mm t x y=>uI (amm t (ev e x) (ev e y)) b l
 |.copy sz x y=>tE b l sz (ev e x) (ev e y)
 |.isnil neg x=>match ev e x with
   |.v .zsl=>.two true (.v (.bool (!neg))) (.v (.bool neg))
   |.v (.isl _ rows)=>.two rows.isEmpty (.v (.bool (!neg))) (.v (.bool neg))
   |.sl _ _ _ n=>.two (n==0) (.v (.bool (!neg))) (.v (.bool neg))
   |_=>.bad
 |.mkmap=>mk b l 0 [] (fun i=>.mp i 0)
 |.lookup kk zero c m x=>AB b l kk zero c (ev e m) (ev e x)
 |.mupdate kk m x y=>rB b l kk (ev e m) (ev e x) (ev e y)
 |.lenM x=>dE b l (ev e x)
 |.tostr x=>OC b l (ev e x)

def gd (e:List AV):Option (Nat×Bool)→Option Bool
 |none=>some true
 |some (s,want)=>match nth e s with
   |.v (.bool t)=>some (t==want)
   |.tup []=>some false
   |_=>none

def jE (t:Option Bool) (A B:Prop):Prop:=
 match t with
 |some t=>if t=true then A else B
 |none=>False

abbrev CallP:=Nat→List AV→List Row→List Row→(AV→List Row→List Row→Prop)→Prop

def tJ (C:CallP) (b l:List Row) (K:AV→List Row→List Row→Prop):OpR→Prop
 |.val x b' l'=>K x b' l'
 |.two c x y=>(c=true→K x b l)∧K y b l
 |.call f args=>C f args b l K
 |.bad=>False

def JF (C:CallP):List AOper→List AV→List Row→List Row→(List AV→List Row→List Row→Prop)→Prop
 |[],e,b,l,K=>K e b l
 |o::os,e,b,l,K =>
   jE (gd e o.guard)
    (tJ C b l (fun x b' l'=>JF C os (put e o.dst x) b' l' K) (aop e b l o.op))
    (JF C os (put e o.dst (.tup [])) b l K)

def gD (e:List AV) (b l:List Row) (r:AOper):Prop:=
 jE (gd e r.guard) (∃v,aop e b l r.op=.val v b l∧(match r.dst with
  |some d=>nth e d=v∨e.length≤d
  |none=>True)) True
def qG (e:List AV) (b l:List Row):List AOper→Prop
 |[]=>True
 |r::rs=>gD e b l r∧qG e b l rs

def vG (C:CallP):List DOper→List AV→List Row→List Row→(List AV→List Row→List Row→Prop)→Prop
 |[],e,b,l,K=>K e b l
 |d::ds,e,b,l,K =>
   jE (gd e d.o.guard)
    (tJ C b l (fun x b' l'=>qG e b' l' d.re∧vG C ds (put e d.o.dst x) b' l' K) (aop e b l d.o.op))
    (vG C ds (put e d.o.dst (.tup [])) b l K)

abbrev WeakP:=List AV→List Row→List Row→List AV→List Row→List Row→Prop

def XS (R:List AV→List Row→List Row→Prop) (Q:AExit→List AV→List Row→List Row→Prop):AExit→List AV→List Row→List Row→Prop
 |.normal,e,b,l=>R e b l
 |.exit i,e,b,l=>Q (.exit i) e b l
 |.ret,e,b,l=>Q .ret e b l
def LX (id:Nat) (Q:AExit→List AV→List Row→List Row→Prop):AExit→List AV→List Row→List Row→Prop
 |.normal,e,b,l=>Q .normal e b l
 |.exit i,e,b,l=>if i=id then Q .normal e b l else Q (.exit i) e b l
 |.ret,e,b,l=>Q .ret e b l

def run (C:CallP) (W:WeakP):ACode→List AV→List Row→List Row→(AExit→List AV→List Row→List Row→Prop)→Prop
 |.skip,e,b,l,Q=>Q .normal e b l
 |.region ops,e,b,l,Q=>JF C ops e b l (Q .normal)
 |.draw ds,e,b,l,Q=>vG C ds e b l (Q .normal)
 |.both x y,e,b,l,Q=>run C W x e b l Q∧run C W y e b l Q
 |.seq x y,e,b,l,Q=>run C W x e b l (XS (fun e b l=>run C W y e b l Q) Q)
 |.cond c x y,e,b,l,Q =>
   match ev e c with
   |.v (.bool t)=>if t=true then run C W x e b l Q else run C W y e b l Q
   |_=>False
 |.block id c,e,b,l,Q=>run C W c e b l (LX id Q)
 |.loop c,e,b,l,Q =>
   ∃I:List AV→List Row→List Row→Nat→Prop,(∃e' b' l' m,W e b l e' b' l'∧I e' b' l' m) ∧
    ∀e b l m,I e b l m→run C W c e b l (XS (fun e b l=>∃e' b' l' m',W e b l e' b' l'∧I e' b' l' m'∧m'<m) Q)
 |.exit i,e,b,l,Q=>Q (.exit i) e b l
 |.ret,e,b,l,Q=>Q .ret e b l

def zA (e:List AV) (b l:List Row):ARes→Option AV
 |.tmp t=>some (nth e t)
 |.cell t n=>match YE b l n (nth e t) with
   |.val x _ _=>some x
   |_=>none
def JA (e:List AV) (b l:List Row):List ARes→Option (List AV)
 |[]=>some []
 |r::rs=>match zA e b l r,JA e b l rs with
   |some x,some xs=>some (x::xs)
   |_,_=>none
def one:List AV→AV
 |[x]=>x
 |xs=>.tup xs

def cvI:Value→Option IV
 |.int k n=>some (.int k n)
 |.bool b=>some (.bool b)
 |.string s=>some (.str s)
 |.pointer none=>some .nilp
 |.slice none 0 0=>some .zsl
 |.map none=>some .nilm
 |.nilFunc=>some .nilf
 |_=>none
def cvL:List Value→Option (List AV)
 |[]=>some []
 |v::vs=>match cvI v,cvL vs with
   |some x,some xs=>some (.v x::xs)
   |_,_=>none
def cvA:Value→Option AV
 |.agg cs=>(cvL cs.toList).map .agg
 |.tuple vs=>if vs.size=0 then some (.tup []) else none
 |.func (.func f) first caps=>if first.size=0∧caps.size=0 then some (.fn f []) else none
 |v=>(cvI v).map .v

def TA:Operand→Option Opd
 |.tmp t=>some (.t t)
 |.const v=>(cvA v).map .c
 |.func f=>some (.c (.fn f []))
 |.global _=>none
def wP:List Operand→Option (List Opd)
 |[]=>some []
 |x::xs=>match TA x,wP xs with
   |some y,some ys=>some (y::ys)
   |_,_=>none
def TK:Option Operand→Option (Option Opd)
 |none=>some none
 |some x=>(TA x).map some

section
variable (P:Program)
def c8 (t:TypeId):Option Bool:=
 match P.underlying t with
 |some (.struct _)=>some true
 |some (.array _ _)=>some true
 |some _=>some false
 |none=>none
def iD (t:TypeId):Option Nat:=(P.info? t).map (·.size)
def lN (t:TypeId):Option Nat:=(P.info? t).map (·.bytes)
def nJ (t:TypeId):Option (Option Nat):=
 match c8 P t,iD P t with
 |some true,some n=>some (some n)
 |some false,some _=>some none
 |_,_=>none
def kF (t:TypeId):Option (List AV):=
 match P.info? t with
 |some i=>match i.zero with
   |some z=>cvL z.cells.toList
   |none=>none
 |none=>none
def iI (t:TypeId):Option FK:=
 match P.underlying t with
 |some (.int _)=>some .i
 |some .bool=>some .b
 |some .string=>some .s
 |_=>none
def xK:Nat→List Field→Option (List FK)
 |_,[]=>some []
 |n,f::fs=>if f.offset=n∧f.name≠ "_" then
   match iI P f.type,xK (n+1) fs with
   |some k,some ks=>some (k::ks)
   |_,_=>none
  else none
def VP (fs:Array Field):List (Nat×Operand)→Option (List (Nat×Nat×Opd))
 |[]=>some []
 |(i,x)::ps=>match fs[i]?,TA x,VP fs ps with
   |some f,some y,some ys=>match iD P f.type with
     |some n=>some ((f.offset,n,y)::ys)
     |none=>none
   |_,_,_=>none
def CL (n:Nat):List (Nat×Operand)→Option (List (Nat×Nat×Opd))
 |[]=>some []
 |(i,x)::ps=>match TA x,CL n ps with
   |some y,some ys=>some ((i*n,n,y)::ys)
   |_,_=>none
def AI:List (Nat×Operand)→Option (List (Nat×Opd))
 |[]=>some []
 |(i,x)::ps=>match TA x,AI ps with
   |some y,some ys=>some ((i,y)::ys)
   |_,_=>none
def K1:Operand→Bool
 |.const (.slice none 0 0)=>true
 |_=>false
def YP:Option Operand→Bool
 |some (.const (.int _ 0))=>true
 |_=>false

def kkT (t:TypeId):Option KK:=
 match P.underlying t with
 |some (.struct fs)=>if P.stoodInHeld t=false then (xK P 0 fs.toList).map .many else none
 |some (.array n el)=>match iI P el,iD P el with
   |some k,some 1=>some (.many (List.replicate n k))
   |_,_=>none
 |some _=>(iI P t).map .one
 |none=>none
def Z8 (t:TypeId):Option AV:=
 match P.info? t with
 |some i=>match i.zero with
   |some z=>cvA z
   |none=>none
 |none=>none
def I1:Option Operand→Bool
 |none=>true
 |some (.const (.int _ _))=>true
 |_=>false
def G1:Option TypeDesc→Bool
 |some (.map _ _)=>true
 |_=>false

def ZB5:Option TypeDesc→Bool
 |some (.int .i64)=>true
 |_=>false
def mM:Option TypeDesc→Bool
 |some (.slice _)=>true
 |some .string=>true
 |_=>false

def cOp (o:Op):Option AOp:=
 match o with
 |.move x=>(TA x).map .mv
 |.assign x=>(TA x).map .mv
 |.nilCheck x=>(TA x).map .nilck
 |.pick c a b=>do let c ←TA c;let a ←TA a;let b ←TA b;pure (.pick c a b)
 |.binOp o t x y _ =>
   match P.underlying t with
   |some (.struct fs)=>match xK P 0 fs.toList with
     |some ks=>if P.stoodInHeld t=false∧P.eqGuardType P.depth t=false∧(o=.eql∨o=.neq) then
       do let x ←TA x;let y ←TA y;pure (.eqs (o==.neq) ks x y) else none
     |none=>none
   |some (.array n el)=>match iI P el,iD P el with
     |some k,some 1=>if P.eqGuardType P.depth t=false∧(o=.eql∨o=.neq) then
       do let x ←TA x;let y ←TA y;pure (.eqs (o==.neq) (List.replicate n k) x y) else none
     |_,_=>none
   |some (.int _)=>do let x ←TA x;let y ←TA y;pure (.bin o x y)
   |some .bool=>do let x ←TA x;let y ←TA y;pure (.binB o x y)
   |some .string=>do let x ←TA x;let y ←TA y;pure (.binS o x y)
   |some (.slice _)=>if (o=.eql∨o=.neq)∧K1 y=true then (TA x).map (.isnil (o==.neq)) else none
   |_=>none
 |.unOp .not _ x=>(TA x).map .not
 |.unOp .neg _ x=>(TA x).map .neg
 |.convert s d x=>match P.underlying s,P.underlying d with
   |some (.int _),some (.int k)=>(TA x).map (.conv k)
   |some (.slice el),some .string=>match P.underlying el with
     |some (.int .u8)=>(TA x).map .tostr
     |_=>none
   |_,_=>none
 |.alloc t=>(kF P t).map .alloc
 |.box _ x=>(TA x).map .box
 |.build t ps=>match P.underlying t,kF P t with
   |some (.struct fs),some zs=>if fs.toList.all (fun f=>(iD P f.type).isSome)=true then (VP P fs ps.toList).map (.build zs) else none
   |some (.array _ el),some zs=>match iD P el with
     |some n=>(CL n ps.toList).map (.build zs)
     |none=>none
   |_,_=>none
 |.buildSlice t len ps=>match P.underlying t with
   |some (.slice el)=>match iD P el,kF P el with
     |some n,some zs=>if 0<n∧len*n≤16777216∧zs.length=n then (AI ps.toList).map (.bslice n zs len) else none
     |_,_=>none
   |_=>none
 |.load t x=>match nJ P t with
   |some n=>(TA x).map (.load n)
   |none=>none
 |.store t a v=>match iD P t with
   |some n=>do let a ←TA a;let v ←TA v;pure (.store n a v)
   |none=>none
 |.fieldAddr t x i=>match P.underlying t with
   |some (.struct fs)=>match fs[i]? with
     |some f=>match iD P f.type with
       |some n=>if 0<n then (TA x).map (.faddr f.offset) else none
       |none=>none
     |none=>none
   |_=>none
 |.field t x i=>match P.underlying t with
   |some (.struct fs)=>match fs[i]? with
     |some f=>match nJ P f.type with
       |some n=>(TA x).map (.field f.offset n)
       |none=>none
     |none=>none
   |_=>none
 |.indexAddr t x i=>match P.underlying t with
   |some (.slice el)=>match iD P el with
     |some n=>do let x ←TA x;let i ←TA i;pure (.iaddr n x i)
     |none=>none
   |some (.array len el)=>match iD P el with
     |some n=>do let x ←TA x;let i ←TA i;pure (.iaddrA len n x i)
     |none=>none
   |_=>none
 |.index t x i=>match P.underlying t with
   |some .string=>do let x ←TA x;let i ←TA i;pure (.indexS x i)
   |some (.array len el)=>match iD P el,nJ P el with
     |some n,some s=>do let x ←TA x;let i ←TA i;pure (.indexA len n s x i)
     |_,_=>none
   |_=>none
 |.slice t x lo hi mx=>match P.underlying t with
   |some (.slice el)=>match mx with
     |none=>match iD P el with
       |some n=>do let x ←TA x;let lo ←TK lo;let hi ←TK hi;pure (.slice n x lo hi)
       |none=>none
     |some _=>if YP mx&&YP hi&&lo.isNone&&(iD P el).isSome then (TA x).map .slice0 else none
   |some .string=>match mx with
     |none=>do let x ←TA x;let lo ←TK lo;let hi ←TK hi;pure (.sliceS x lo hi)
     |some _=>none
   |_=>none
 |.makeSlice t n c=>match P.underlying t with
   |some (.slice el)=>match iD P el,kF P el,lN P el with
     |some s,some zs,some bytes=>if zs.length=s∧0<s then do let n ←TA n;let c ←TA c;pure (.mkslice s zs bytes n c) else none
     |_,_,_=>none
   |_=>none
 |.makeMap t r=>if G1 (P.underlying t)=true∧I1 r=true then some .mkmap else none
 |.lookup t x i c=>match P.underlying t with
   |some (.map k el)=>match kkT P k,Z8 P el with
     |some kk,some z=>do let x ←TA x;let i ←TA i;pure (.lookup kk z c x i)
     |_,_=>none
   |_=>none
 |.mapUpdate t m x y=>match P.underlying t with
   |some (.map k _)=>match kkT P k with
     |some kk=>do let m ←TA m;let x ←TA x;let y ←TA y;pure (.mupdate kk m x y)
     |none=>none
   |_=>none
 |.makeFunc (.func f) first caps=>if first.size=0 then (wP caps.toList).map (.mkfn f) else none
 |.extract x i=>(TA x).map (.extract i)
 |.call c=>match c.callee with
   |.value f=>do let f ←TA f;let args ←wP c.args.toList;pure (.call f args)
   |.builtin .len=>match c.args.toList,c.argTypes.toList with
     |[x],[t]=>match P.underlying t with
       |some .string=>(TA x).map .lenS
       |some (.slice _)=>(TA x).map .len
       |some (.array n _)=>some (.mv (.c (.v (.int .i64 n))))
       |some (.map _ _)=>(TA x).map .lenM
       |_=>none
     |_,_=>none
   |.builtin .append=>match c.args.toList,c.argTypes.toList with
     |[s,x],[t,u]=>match P.underlying t with
       |some (.slice el)=>match iD P el,lN P el,kF P el with
         |some n,some bytes,some zs=>if 0<n∧0<bytes∧zs.length=n∧mM (P.underlying u)=true then do let s ←TA s;let x ←TA x;pure (.append n bytes s x)
           else if 0<n∧0<bytes∧zs.length=n∧ZB5 (P.underlying u)=true then do let s ←TA s;let x ←TA x;pure (.appz n bytes zs s x) else none
         |_,_,_=>none
       |_=>none
     |_,_=>none
   |.builtin .copy=>match c.args.toList,c.argTypes.toList with
     |[x,y],[t,_]=>match P.underlying t with
       |some (.slice el)=>match iD P el with
         |some n=>if 0<n then do let x ←TA x;let y ←TA y;pure (.copy n x y) else none
         |none=>none
       |_=>none
     |_,_=>none
   |.builtin .max=>match c.args.toList with
     |[x,y]=>do let x ←TA x;let y ←TA y;pure (.mm true x y)
     |_=>none
   |.builtin .min=>match c.args.toList with
     |[x,y]=>do let x ←TA x;let y ←TA y;pure (.mm false x y)
     |_=>none
   |.builtin .cap=>match c.args.toList,c.argTypes.toList with
     |[x],[t]=>match P.underlying t with
       |some (.slice _)=>(TA x).map .capz
       |_=>none
     |_,_=>none
   |_=>none
 |_=>none

def ZB6:AOp→AOp
 |.bslice sz zs len ps=>.islb sz zs len ps
 |o=>o
def gV (imm:Bool) (o:Op):Option AOp:=if imm=true then (cOp P o).map ZB6 else cOp P o
def UP (ops:Array Oper):Option (Nat×Bool)→Option (Option (Nat×Bool))
 |none=>some none
 |some (j,want)=>match (ops[j]?).bind (·.dst) with
   |some d=>some (some (d,want))
   |none=>none
def IQ (imm:Bool) (ops:Array Oper):List Oper→Option (List AOper)
 |[]=>some []
 |o::os=>match gV P imm o.op,UP ops o.guard,IQ imm ops os with
   |some x,some g,some xs=>some (⟨o.dst,x,g⟩::xs)
   |_,_,_=>none
def anc (ops:Array Oper) (x:Nat):Nat→Nat→Bool
 |0,_=>false
 |n+1,i=>match ops[i]? with
   |some o=>o.after.toList.any fun ed=>Region.binds .any ed&&(ed.on==x||anc ops x n ed.on)
   |none=>false
def M0 (ops:Array Oper) (done:List Nat) (i:Nat):Bool:=match ops[i]? with
 |some o=>o.after.toList.all fun ed=>!Region.binds .any ed||done.contains ed.on
 |none=>false
def QP (ops:Array Oper) (qs als:List Bool):Nat→List Nat→List Nat→List Nat
 |0,_,_=>[]
 |n+1,left,done =>
   match left.find? (fun i=>M0 ops done i&&qs.getD i false) with
   |some i=>i::QP ops qs als n (left.erase i) (i::done)
   |none=>match left.find? (fun i=>M0 ops done i&&!als.getD i false) with
     |some i=>i::QP ops qs als n (left.erase i) (i::done)
     |none=>match left.find? (fun i=>M0 ops done i) with
       |some i=>i::QP ops qs als n (left.erase i) (i::done)
       |none=>[]
def g9 (ops:Array Oper) (aos:List AOper) (i:Nat):List Nat→List AOper
 |[]=>[]
 |j::js=>match aos[j]? with
   |some r=>if r.op.quiet&&!anc ops j ops.size i then r::g9 ops aos i js else g9 ops aos i js
   |none=>g9 ops aos i js
def mkD (ops:Array Oper) (aos:List AOper):List Nat→List Nat→List DOper
 |_,[]=>[]
 |done,i::is=>match aos[i]? with
   |some o=>⟨i,o,if o.op.quiet then [] else g9 ops aos i done⟩::mkD ops aos (done++[i]) is
   |none=>[]
def gR (ops:Array Oper) (fin:List Nat) (a c:DOper):Bool:=
 (!fin.contains a.i||anc ops a.i ops.size c.i)&&(match c.o.dst with
  |some d=>(!(a.o.op.quiet||c.o.op.isAlloc)||(fin.contains c.i&&!c.o.op.isAlloc&&anc ops a.i ops.size c.i)||!a.o.looks.contains d)&&a.o.dst != some d&&(!c.o.op.isAlloc||a.re.all (fun r=>!r.looks.contains d&&r.dst != some d))
  |none=>true) &&
 (anc ops a.i ops.size c.i||((a.o.op.quiet||c.o.op.isAlloc)&&(match a.o.dst with
  |some d=>!c.o.looks.contains d
  |none=>true)))
def TP (o:AOper):Bool:=!o.op.isAlloc||(o.guard.isNone&&o.dst.isSome)
def ZP (a:DOper):Bool:=match a.o.dst with
 |some d=>!(a.o.op.quiet||a.o.op.isAlloc)||(!a.o.looks.contains d&&a.re.all (fun r=>!r.looks.contains d&&r.dst != some d))
 |none=>true
def aP (ops:Array Oper) (fin:List Nat):List DOper→Bool
 |[]=>true
 |a::ds=>ZP a&&ds.all (gR ops fin a)&&aP ops fin ds
def iU (ops:Array Oper):List DOper→List Nat
 |[]=>[]
 |d::ds=>if ds.all (fun c=>anc ops d.i ops.size c.i) then d.i::iU ops ds else iU ops ds
def fL (is:List Nat) (i:Nat):Nat:=is.findIdx (· == i)
def bU (ops:Array Oper) (is:List Nat):Bool:=(List.range ops.size).all fun i=>match ops[i]? with
 |some o=>o.after.toList.all fun ed=>!Region.binds .any ed||decide (fL is ed.on<fL is i)
 |none=>true
def xP (imm:Bool) (ops:Array Oper):Option (List DOper):=
 match IQ P imm ops ops.toList with
 |some aos =>
   let ds:=mkD ops aos [] (QP ops (aos.map (·.op.quiet)) (aos.map (·.op.isAlloc)) ops.size (List.range ops.size) [])
   if P.follows .mixedOrders=true∧bU ops (ds.map (·.i))=true∧aos.all TP=true∧aP ops (iU ops ds) ds=true∧(ds.map (·.i)).length=ops.size∧(ds.map (·.i)).Nodup∧(List.range ops.size).all (fun i=>(ds.map (·.i)).contains i)=true then some ds else none
 |none=>none
def xC (ops:Array Oper) (k i:Nat):Array Oper:=match ops[k]? with
 |some o=>ops.setIfInBounds k {o with after:=o.after.push ⟨i,.data⟩}
 |none=>ops
def ZCW (ops:Array Oper) (aos:List AOper):Option (Nat×Nat):=
 let ms:=(List.range ops.size).filter fun i=>match aos[i]? with
  |some o=>!o.op.quiet&&!o.op.isAlloc
  |none=>false
 ms.findSome? fun i=>(ms.find? fun k=>decide (i<k)&&!anc ops i ops.size k&&!anc ops k ops.size i).map fun k=>(i,k)
def eH (imm:Bool):Nat→Array Oper→Option ACode
 |0,ops=>(xP P imm ops).map .draw
 |n+1,ops=>match xP P imm ops with
   |some ds=>some (.draw ds)
   |none=>match IQ P imm ops ops.toList with
     |some aos=>match ZCW ops aos with
       |some (i,k)=>if i≠k∧i<ops.size∧k<ops.size then match eH imm n (xC ops k i),eH imm n (xC ops i k) with
         |some x,some y=>some (.both x y)
         |_,_=>none else none
       |none=>none
     |none=>none
def FU:ACode:=.region [⟨none,.extract 0 (.c .any),none⟩]
def ZCa:Option ACode→ACode
 |some c=>c
 |none=>FU
def ZBr (ops:Array Oper) (draw:Bool):Option ACode:=if draw then (match eH P false 6 ops with
 |some c=>some c
 |none=>eH P true 6 ops) else (IQ P false ops ops.toList).map .region
def dH:Code→Option ACode
 |.skip=>some .skip
 |.region _ ops draw=>some (ZCa (ZBr P ops draw))
 |.seq a b=>match dH a,dH b with
   |some x,some y=>some (.seq x y)
   |_,_=>none
 |.cond c a b=>match TA c,dH a,dH b with
   |some c,some x,some y=>some (.cond c x y)
   |_,_,_=>none
 |.block id c=>(dH c).map (.block id)
 |.loop c=>(dH c).map .loop
 |.exit id=>some (.exit id)
 |.ret=>some .ret
 |_=>some FU
def p8:List ResultVar→Option (List ARes)
 |[]=>some []
 |.tmp t::rs=>(p8 rs).map (ARes.tmp t::·)
 |.cell a t::rs=>match nJ P t,p8 rs with
   |some n,some xs=>some (.cell a n::xs)
   |_,_=>none
def dA (f:FuncId):Option AFunc:=
 match P.funcs[f]? with
 |some fn=>if fn.name == "runtime.NumGoroutine" then none else
   match fn.body with
   |some c=>match dH P c,p8 P fn.results.toList with
     |some c,some rs=>some ⟨fn.params.size+fn.nfree,fn.ntmps,rs,c⟩
     |_,_=>none
   |none=>none
 |none=>none
end

theorem RepI.one {w:World} {F:Nat→Prop} {x:IV} {v:Value} (h:RepI w F x v):v.oneCell'=true:=by cases h<;>rfl

theorem RepA.one {w:World} {F:Nat→Prop} {L:LMap} {x:AV} {v:Value} (h:RepA w F L x v) (hx:x.cell=true):v.oneCell'=true:=by
 cases h<;>first|rfl|(simp[AV.cell]at hx;done)|skip
 case v h=>exact h.one

theorem jT {v:Value} (h:v.oneCell'=true):v.cells=#[v]:=by cases v<;>first|rfl|cases h

theorem Sim.putLoc {F:Nat→Prop} {L:LMap} {h h':List Row} {w w':World} (s:Sim F L h w) (id ver sz blk:Nat) (q:Loc) (els:List (List AV)) (hq:∀k,q.on k→k=blk)
  (hos:w'.os=w.os) (htp:w'.tape=w.tape) (MG:w'.output=w.output) (V8:w.heap.size≤w'.heap.size)
  (hb:∀k,k<w.heap.size→k≠blk→w'.heap[k]? = w.heap[k]?)
  (KG:w.heap.size≤blk∨∃v z els0 q0,h[id]? = some (.live v z els0)∧L id v=some q0∧q0.on blk)
  (hh:h'[id]? = some (.live ver sz els)) (tI:∀j,j≠id→h'[j]? = h[j]?)
  (ZDd:∀r,h[id]? = some r→r.ver≤ver∧∃v z els0,r=.live v z els0)
  (GM:L id ver=none∨L id ver=some q)
  (yE:∀L':LMap,(∀(x:AV) (v:Value),RepA w F L x v→RepA w' F L' x v)→dP w' F L' sz els q) :
  ∃L':LMap,Sim F L' h' w'∧Step h.length F L h w F L' h' w'∧L' id ver=some q∧∀i v l,L i v=some l→L' i v=some l:=by
 have hL':∃L':LMap,L' id ver=some q∧(∀i v l,L i v=some l→L' i v=some l)∧∀i v,(i≠id∨v≠ver)→L' i v=L i v:=by
  refine⟨fun i v=>if i=id∧v=ver then some q else L i v,by simp,?_,?_⟩
  ·intro i v l hl
   by_cases hi:i=id∧v=ver
   ·obtain⟨rfl,rfl⟩:=hi
    rcases GM with h0|h0
    ·rw[h0]at hl;cases hl
    ·rw[h0]at hl;simpa using hl
   ·simp[hi,hl]
  ·intro i v hi
   have:¬(i=id∧v=ver):=fun ⟨a,b⟩=>hi.elim (fun h=>h a) (fun h=>h b)
   simp[this]
 obtain⟨L',yR,PU,IR⟩:=hL'
 have notF:¬F blk:=fun hF=>by
  obtain⟨LA,jP⟩:=s.imm blk hF
  rcases KG with h0|⟨v,z,els0,q0,h1,h2,h3⟩
  ·omega
  ·exact jP ⟨id,v,z,els0,q0,h1,h2,h3⟩
 have hF:∀k,F k→w'.heap[k]? = w.heap[k]?:=fun k hk=>hb k (s.imm k hk).1 (fun e=>notF (e▸hk))
 have mono:∀(x:AV) (v:Value),RepA w F L x v→RepA w' F L' x v:=fun _ _ hx=>hx.mono (fun _ h=>h) hF PU
 have liveO:∀j v z els0 b q1,j≠id→h[j]? = some (.live v z els0)→L j v=some q1→q1.on b→b≠blk:=by
  intro j v z els0 b q1 hj h1 h2 h5 e
  subst e
  rcases KG with h0|⟨v',z',els',q',h3,h4,h6⟩
  ·obtain⟨l,g1,g2⟩:=s.row j v z els0 h1
   rw[h2]at g1;cases g1
   have:=g2.lt h5
   omega
  ·exact hj (s.apart j id v v' z z' els0 els' b q1 q' h1 h3 h2 h4 h5 h6)
 refine⟨L',⟨?_,?_,?_,?_,s.glob.mono (fun _ h=>h) hF⟩,⟨fun _ h=>h,fun i v l _ hl=>PU i v l hl,hos,htp,MG,V8,?_,?_,?_,fun _ _ h=>.inl h⟩,yR,PU⟩
 ·intro j v z e1 hj
  by_cases fG:j=id
  ·subst fG
   rw[hh]at hj
   cases hj
   exact⟨_,yR,yE L' mono⟩
  ·rw[tI j fG]at hj
   obtain⟨l,TO,nT⟩:=s.row j v z e1 hj
   exact⟨l,PU _ _ _ TO,nT.mono (fun b hbo=>hb b (nT.lt hbo) (liveO j v z e1 b l fG hj TO hbo)) mono⟩
 ·intro i v l TO
  by_cases hi:i=id
  ·subst hi
   refine⟨_,hh,?_⟩
   by_cases hv:v=ver
   ·subst hv;exact Nat.le_refl _
   ·rw[IR i v (.inr hv)]at TO
    obtain⟨r,h1,h2⟩:=s.born _ _ _ TO
    exact Nat.le_trans h2 (ZDd r h1).1
  ·rw[IR i v (.inl hi)]at TO
   obtain⟨r,h1,h2⟩:=s.born _ _ _ TO
   exact⟨r,by rw[tI i hi];exact h1,h2⟩
 ·intro i i' v v' z z' e1 e2 b q1 q2 h1 h2 h3 h4 h5 h6
  by_cases hi:i=id
  ·by_cases hi':i'=id
   ·rw[hi,hi']
   ·subst hi
    rw[hh]at h1;cases h1
    rw[tI i' hi']at h2
    rw[yR]at h3;cases h3
    rw[IR i' v' (.inl hi')]at h4
    exact absurd (hq b h5) (liveO i' v' z' e2 b q2 hi' h2 h4 h6)
  ·by_cases hi':i'=id
   ·subst hi'
    rw[hh]at h2;cases h2
    rw[tI i hi]at h1
    rw[yR]at h4;cases h4
    rw[IR i v (.inl hi)]at h3
    exact absurd (hq b h6) (liveO i v z e1 b q1 hi h1 h3 h5)
   ·rw[tI i hi]at h1
    rw[tI i' hi']at h2
    rw[IR i v (.inl hi)]at h3
    rw[IR i' v' (.inl hi')]at h4
    exact s.apart i i' v v' z z' e1 e2 b q1 q2 h1 h2 h3 h4 h5 h6
 ·intro k hk
  refine⟨Nat.lt_of_lt_of_le (s.imm k hk).1 V8,?_⟩
  rintro⟨i,v,z,e1,q1,h1,h2,h3⟩
  by_cases hi:i=id
  ·subst hi
   rw[hh]at h1;cases h1
   rw[yR]at h2;cases h2
   exact notF (hq k h3▸hk)
  ·rw[tI i hi]at h1
   rw[IR i v (.inl hi)]at h2
   exact (s.imm k hk).2 ⟨i,v,z,e1,q1,h1,h2,h3⟩
 ·intro k hk jP
  refine hb k hk fun e=>?_
  subst e
  rcases KG with h0|⟨v',z',els',q',h3,h4,h5⟩
  ·omega
  ·exact jP ⟨id,v',z',els',q',h3,h4,h5⟩
 ·rintro k hk ⟨i,v,z,e1,q1,h1,h2,h3⟩
  by_cases hi:i=id
  ·subst hi
   rw[hh]at h1;cases h1
   rw[yR]at h2;cases h2
   obtain rfl:=hq k h3
   rcases KG with h0|⟨v',z',els',q',h3,h4,h5⟩
   ·omega
   ·exact⟨i,v',z',els',q',h3,h4,h5⟩
  ·rw[tI i hi]at h1
   rw[IR i v (.inl hi)]at h2
   exact⟨i,v,z,e1,q1,h1,h2,h3⟩
 ·intro i hi v hv
  by_cases hii:i=id
  ·subst hii
   obtain⟨_,v',z',e',he⟩:=ZDd _ hv
   cases he
  ·rw[tI i hii];exact hv

theorem Sim.putRow {F:Nat→Prop} {L:LMap} {h h':List Row} {w w':World} (s:Sim F L h w) (id ver sz blk o cap:Nat) (els:List (List AV))
  (hos:w'.os=w.os) (htp:w'.tape=w.tape) (MG:w'.output=w.output) (V8:w.heap.size≤w'.heap.size)
  (hb:∀k,k<w.heap.size→k≠blk→w'.heap[k]? = w.heap[k]?)
  (KG:w.heap.size≤blk∨∃v z els0 o0 z0 cap0,h[id]? = some (.live v z els0)∧L id v=some (.pl blk o0 z0 cap0))
  (hh:h'[id]? = some (.live ver sz els)) (tI:∀j,j≠id→h'[j]? = h[j]?)
  (ZDd:∀r,h[id]? = some r→r.ver≤ver∧∃v z els0,r=.live v z els0)
  (GM:L id ver=none∨L id ver=some (.pl blk o sz cap))
  (hl:els.length≤cap) (mL:cap≤maxLen) (cur:Array Value) (T:TypeId) (EX:w'.heap[blk]? = some (.cells cur T (0,0))) (IH:o+cap*sz≤cur.size)
  (sM:∀(k:Nat) (row:List AV),els[k]? = some row→row.length=sz)
  (SF:∀(k:Nat) (row:List AV) (j:Nat) (a:AV),els[k]? = some row→row[j]? = some a→a.cell=true∧∃v,cur[o+k*sz+j]? = some v∧RepA w F L a v) :
  ∃L':LMap,Sim F L' h' w'∧Step h.length F L h w F L' h' w'∧L' id ver=some (.pl blk o sz cap)∧∀i v l,L i v=some l→L' i v=some l:=by
 refine s.putLoc id ver sz blk (.pl blk o sz cap) els (fun k hk=>hk.symm) hos htp MG V8 hb (KG.imp (fun h=>h) fun ⟨v,z,e,o0,z0,c0,h1,h2⟩=>⟨v,z,e,_,h1,h2,rfl⟩) hh tI ZDd GM ?_
 intro L' mono
 exact⟨rfl,hl,mL,cur,T,EX,IH,sM,fun k row i a hk hi=>by
  obtain⟨h1,v,h2,h3⟩:=SF k row i a hk hi
  exact⟨h1,v,h2,mono _ _ h3⟩⟩

theorem Sim.same {F:Nat→Prop} {L:LMap} {h:List Row} {w w':World} (s:Sim F L h w) (hh:w'.heap=w.heap):Sim F L h w':=by
 have m:∀{x:AV} {v:Value},RepA w F L x v→RepA w' F L x v:=fun hx=>hx.mono (fun _ h=>h) (fun _ _=>by rw[hh]) (fun _ _ _ h=>h)
 refine⟨fun id ver sz els hr=>?_,s.born,s.apart,fun b hb=>⟨by rw[hh];exact (s.imm b hb).1,(s.imm b hb).2⟩,s.glob.mono (fun _ h=>h) (fun _ _=>by rw[hh])⟩
 obtain⟨l,h1,h2⟩:=s.row id ver sz els hr
 exact⟨l,h1,h2.mono (fun _ _=>by rw[hh]) (fun _ _=>m)⟩

theorem Step.same {nb:Nat} {F:Nat→Prop} {L:LMap} {h:List Row} {w w':World} (hh:w'.heap=w.heap) (hos:w'.os=w.os) (htp:w'.tape=w.tape) (MG:w'.output=w.output) :
  Step nb F L h w F L h w':=⟨fun _ h=>h,fun _ _ _ _ h=>h,hos,htp,MG,by rw[hh];exact Nat.le_refl _,fun _ _ _=>by rw[hh],fun _ _ h=>h,fun _ _ _ h=>h,fun _ _ h=>.inl h⟩

theorem Sim.cell {F:Nat→Prop} {L:LMap} {h:List Row} {w:World} (s:Sim F L h w) {id ver sz b o z cap k j:Nat} {els:List (List AV)} {row:List AV} {a:AV}
  (hr:h[id]? = some (.live ver sz els)) (hL:L id ver=some (.pl b o z cap)) (hk:els[k]? = some row) (hj:row[j]? = some a) :
  z=sz∧a.cell=true∧∃v,w.cell? ⟨b,o+k*z+j,none⟩=some v∧RepA w F L a v:=by
 obtain⟨l,h1,h2⟩:=s.row id ver sz els hr
 rw[hL]at h1;cases h1
 obtain⟨a1,a2,a3,cur,T,a4,a5,a6,a7⟩:=h2
 subst a1
 obtain⟨b1,v,b2,b3⟩:=a7 k row j a hk hj
 exact⟨rfl,b1,v,by simp[World.cell?,a4,b2],b3⟩


def Ends (P:Program) (o:Oper) (a:Act) (w:World) (v:Value) (w':World):Prop:=
 (execOp a.eval o).run P w=.ok (.value v) w'∨((execOp a.eval o).run P w=.ok .skip w'∧v=undef)

def zB (P:Program) (o:Oper) (a:Act) (w:World) (F:Nat→Prop) (L:LMap) (b l:List Row) (x:AV) (b' l':List Row):Prop:=
 ∃v w' L',Ends P o a w v w'∧RepA w' F L' x v∧Sim F L' (b'++l') w'∧Step (b++l).length F L (b++l) w F L' (b'++l') w'∧b'.length=b.length

def zO (P:Program) (o:Oper) (a:Act) (w:World) (F:Nat→Prop) (L:LMap) (b l:List Row) (x:AV) (b' l':List Row):Prop:=
 ∃v w' F' L',Ends P o a w v w'∧RepA w' F' L' x v∧Sim F' L' (b'++l') w'∧Step (b++l).length F L (b++l) w F' L' (b'++l') w'∧b'.length=b.length
theorem zB.toF {P:Program} {o:Oper} {a:Act} {w:World} {F:Nat→Prop} {L:LMap} {b l:List Row} {x:AV} {b' l':List Row} (h:zB P o a w F L b l x b' l'):zO P o a w F L b l x b' l':=by
 obtain⟨v,w',L',h1,h2,h3,h4,h5⟩:=h
 exact⟨v,w',F,L',h1,h2,h3,h4,h5⟩

theorem zB.pure {P:Program} {o:Oper} {a:Act} {w:World} {F:Nat→Prop} {L:LMap} {b l:List Row} {x:AV} {v:Value} (s:Sim F L (b++l) w)
  (h:(execOp a.eval o).run P w=.ok (.value v) w) (hx:RepA w F L x v):zB P o a w F L b l x b l:=
 ⟨v,w,L,.inl h,hx,s,Step.refl _ _ _ _ _,rfl⟩

section
variable {P:Program} {w:World} {F:Nat→Prop} {L:LMap}

theorem C4 {v:Value} {x:IV} (h:cvI v=some x):RepI w F x v:=by
 unfold cvI at h
 split at h<;>first|(cases h;constructor)|cases h

def MA (w:World) (F:Nat→Prop) (L:LMap) (cs:List AV) (vs:List Value):Prop:=
 cs.length=vs.length∧∀(i:Nat) (a:AV) (v:Value),cs[i]? = some a→vs[i]? = some v→RepA w F L a v

theorem MA.nil:MA w F L [] []:=⟨rfl,by simp⟩
theorem MA.cons {a:AV} {v:Value} {cs:List AV} {vs:List Value} (h:RepA w F L a v) (t:MA w F L cs vs):MA w F L (a::cs) (v::vs):=by
 refine⟨by simp[t.1],fun i x u hx hu=>?_⟩
 cases i with
 |zero=>simp at hx hu;subst hx;subst hu;exact h
 |succ i=>simp at hx hu;exact t.2 i x u hx hu

theorem EE:∀{vs:List Value} {xs:List AV},cvL vs=some xs→MA w F L xs vs∧xs.all AV.cell=true
 |[],xs,h=>by simp[cvL]at h;subst h;exact⟨MA.nil,rfl⟩
 |v::vs,xs,h=>by
   unfold cvL at h
   split at h
   ·rename_i x ys h1 h2
    cases h
    obtain⟨h3,h4⟩:=EE h2
    exact⟨MA.cons (.v _ _ (C4 h1)) h3,by simp[AV.cell,h4]⟩
   ·cases h

theorem MA.agg {cs:List AV} {vs:Array Value} (h:MA w F L cs vs.toList):RepA w F L (.agg cs) (.agg vs):=
 .agg cs vs (by simpa using h.1) (fun i a v hi hv=>h.2 i a v hi (by simpa using hv))
theorem MA.tup {cs:List AV} {vs:Array Value} (h:MA w F L cs vs.toList):RepA w F L (.tup cs) (.tuple vs):=
 .tup cs vs (by simpa using h.1) (fun i a v hi hv=>h.2 i a v hi (by simpa using hv))
theorem MA.fn {f:Nat} {cs:List AV} {vs:Array Value} (h:MA w F L cs vs.toList):RepA w F L (.fn f cs) (.func (.func f) #[] vs):=
 .fn f cs vs (by simpa using h.1) (fun i a v hi hv=>h.2 i a v hi (by simpa using hv))

theorem RepA.aggL {cs:List AV} {v:Value} (h:RepA w F L (.agg cs) v):∃vs:Array Value,v=.agg vs∧MA w F L cs vs.toList:=by
 cases h with
 |agg _ vs hl h=>exact⟨vs,rfl,by simpa using hl,fun i a v hi hv=>h i a v hi (by simpa using hv)⟩
theorem RepA.tupL {cs:List AV} {v:Value} (h:RepA w F L (.tup cs) v):∃vs:Array Value,v=.tuple vs∧MA w F L cs vs.toList:=by
 cases h with
 |tup _ vs hl h=>exact⟨vs,rfl,by simpa using hl,fun i a v hi hv=>h i a v hi (by simpa using hv)⟩
theorem RepA.fnL {f:Nat} {cs:List AV} {v:Value} (h:RepA w F L (.fn f cs) v):∃vs:Array Value,v=.func (.func f) #[] vs∧MA w F L cs vs.toList:=by
 cases h with
 |fn _ _ vs hl h=>exact⟨vs,rfl,by simpa using hl,fun i a v hi hv=>h i a v hi (by simpa using hv)⟩
theorem RepA.vI {x:IV} {v:Value} (h:RepA w F L (.v x) v):RepI w F x v:=by cases h;assumption

theorem O4 {v:Value} {x:AV} (h:cvA v=some x):RepA w F L x v:=by
 unfold cvA at h
 split at h
 ·rename_i cs
  cases hc:cvL cs.toList with
  |none=>simp[hc]at h
  |some xs=>simp[hc]at h;subst h;exact (EE hc).1.agg
 ·split at h
  ·rename_i vs hv
   cases h
   have:vs=#[]:=Array.eq_empty_of_size_eq_zero hv
   subst this
   exact MA.tup MA.nil
  ·cases h
 ·rename_i f first caps
  split at h
  ·rename_i hv
   cases h
   have h1:first=#[]:=Array.eq_empty_of_size_eq_zero hv.1
   have h2:caps=#[]:=Array.eq_empty_of_size_eq_zero hv.2
   subst h1;subst h2
   exact MA.fn MA.nil
  ·cases h
 ·cases hc:cvI v with
  |none=>simp[hc]at h
  |some y=>simp[hc]at h;subst h;exact .v _ _ (C4 hc)

theorem IA {e:List AV} {a:Act} (he:YC w F L e a) {x:Operand} {y:Opd} (h:TA x=some y):RepA w F L (ev e y) (a.eval x):=by
 unfold TA at h
 split at h
 ·cases h;exact he.nth _
 ·rename_i v
  cases hc:cvA v with
  |none=>simp[hc]at h
  |some z=>simp[hc]at h;subst h;exact O4 hc
 ·cases h;exact MA.fn MA.nil
 ·cases h

theorem fU {e:List AV} {a:Act} (he:YC w F L e a):∀{xs:List Operand} {ys:List Opd},wP xs=some ys→MA w F L (evs e ys) (xs.map a.eval)
 |[],ys,h=>by simp[wP]at h;subst h;exact MA.nil
 |x::xs,ys,h=>by
   unfold wP at h
   split at h
   ·rename_i y zs h1 h2
    cases h
    exact MA.cons (IA he h1) (fU he h2)
   ·cases h

theorem XF {t:TypeId} {c:Bool} (h:c8 P t=some c):(isAgg t).run P w=.ok c w:=by
 unfold c8 at h
 unfold isAgg
 split at h
 ·rename_i hu;cases h;simp[run_underlying hu]
 ·rename_i hu;cases h;simp[run_underlying hu]
 ·rename_i d h1 h2 hu
  cases h
  simp only[Sem.run_bind,run_underlying hu,Result.andThen_ok]
  rfl
 ·cases h

theorem FA {t:TypeId} {n:Nat} (h:iD P t=some n):(sizeOf t).run P w=.ok n w:=by
 unfold iD at h
 cases hi:P.info? t with
 |none=>simp[hi]at h
 |some i=>simp[hi]at h;simp[sizeOf,typeInfo,hi,h]

theorem VQ {t:TypeId} {n:Nat} (h:nJ P t=some (some n)):c8 P t=some true∧iD P t=some n:=by
 unfold nJ at h
 split at h<;>first|(cases h;exact⟨by assumption,by assumption⟩)|cases h
theorem UQ {t:TypeId} (h:nJ P t=some none):c8 P t=some false:=by
 unfold nJ at h
 split at h<;>first|(cases h;assumption)|cases h

theorem L9 {cs:List AV} {vs:List Value} (h:MA w F L cs vs) (j n:Nat):MA w F L ((cs.drop j).take n) ((vs.drop j).take n):=by
 refine⟨by simp[h.1],fun i a v ha hv=>?_⟩
 rw[List.getElem?_take]at ha hv
 split at ha
 ·rename_i hi
  simp only[hi,if_true]at hv
  rw[List.getElem?_drop]at ha hv
  exact h.2 _ a v ha hv
 ·cases ha

theorem MA.get {cs:List AV} {vs:List Value} (h:MA w F L cs vs) {j:Nat} {a:AV} (ha:cs[j]? = some a):∃v,vs[j]? = some v∧RepA w F L a v:=by
 have hj:j<vs.length:=by rw[←h.1];exact (List.getElem?_eq_some_iff.1 ha).1
 exact⟨vs[j],List.getElem?_eq_getElem hj,h.2 j a _ ha (List.getElem?_eq_getElem hj)⟩

theorem MA.append {cs ds:List AV} {vs us:List Value} (h:MA w F L cs vs) (k:MA w F L ds us):MA w F L (cs++ds) (vs++us):=by
 refine⟨by simp[h.1,k.1],fun i a v ha hv=>?_⟩
 by_cases hi:i<cs.length
 ·rw[List.getElem?_append_left hi]at ha
  rw[List.getElem?_append_left (by rw[←h.1];exact hi)]at hv
  exact h.2 i a v ha hv
 ·rw[List.getElem?_append_right oM]at ha
  rw[List.getElem?_append_right (by have:=h.1;omega),←h.1]at hv
  exact k.2 _ a v ha hv

theorem M3 {cs:List AV} {vs:Array Value} (h:MA w F L cs vs.toList) {t:TypeId} {n:Option Nat} (ht:nJ P t=some n) {off:Nat} {x:AV} (hx:rd cs off n=some x) :
  ∃v,(part t vs off).run P w=.ok v w∧RepA w F L x v:=by
 cases n with
 |none =>
   simp only[rd]at hx
   obtain⟨v,hv,hr⟩:=h.get hx
   refine⟨v,?_,hr⟩
   have:vs[off]? = some v:=by simpa using hv
   simp[part,XF (UQ ht),this]
 |some n =>
   simp only[rd]at hx
   split at hx
   ·rename_i rK
    cases hx
    obtain⟨h1,h2⟩:=VQ ht
    refine⟨.agg (vs.extract off (off+n)),?_,?_⟩
    ·simp[part,XF h1,FA h2]
    ·refine MA.agg ?_
     have:=L9 h off n
     simpa [List.take_drop,Nat.add_comm] using this
   ·cases hx

theorem iQ {t:TypeId} {n:Option Nat} (ht:nJ P t=some n) {b o:Nat} {vals:List AV} (hc:∀(i:Nat) (x:AV),vals[i]? = some x→∃v,w.cell? ⟨b,o+i,none⟩=some v∧RepA w F L x v) {x:AV}
  (hx:(match n with|none=>vals[0]?|some n=>if n≤vals.length then some (.agg (vals.take n)) else none)=some x) :
  ∃v,(loadVar t ⟨b,o,none⟩).run P w=.ok v w∧RepA w F L x v:=by
 cases n with
 |none =>
   obtain⟨v,hv,hr⟩:=hc 0 x hx
   exact⟨v,by simp[loadVar,XF (UQ ht),show w.cell? ⟨b,o,none⟩=some v from hv],hr⟩
 |some n =>
   simp only at hx
   split at hx
   ·rename_i rK
    cases hx
    obtain⟨h1,h2⟩:=VQ ht
    have FC:∀m,m≤vals.length→∃vs:List Value,vs.length=m∧(∀j v,vs[j]? = some v→w.cell? ⟨b,o+j,none⟩=some v)∧MA w F L (vals.take m) vs:=by
     intro m
     induction m with
     |zero=>intro _;exact⟨[],rfl,by simp,by simpa using MA.nil⟩
     |succ m ih =>
       intro hm
       obtain⟨vs,e1,e2,e3⟩:=ih oM
       obtain⟨v,hv,hr⟩:=hc m vals[m] (List.getElem?_eq_getElem oM)
       refine⟨vs++[v],by simp[e1],?_,?_⟩
       ·intro j u hu
        by_cases hj:j<vs.length
        ·rw[List.getElem?_append_left hj]at hu;exact e2 j u hu
        ·have hj2:j=vs.length:=by
          have:=(List.getElem?_eq_some_iff.1 hu).1
          simp at this;omega
         subst hj2
         simp at hu
         subst hu
         rw[e1];exact hv
       ·rw[List.take_succ_eq_append_getElem oM]
        exact e3.append (MA.cons hr MA.nil)
    obtain⟨vs,e1,e2,e3⟩:=FC n rK
    have hl:=run_loadCells_list (P:=P) w ⟨b,o,none⟩ vs (fun j v hv=>by rw[Addr.add_lit];exact e2 j v hv)
    rw[e1]at hl
    refine⟨.agg vs.toArray,?_,MA.agg (by simpa using e3)⟩
    simp[loadVar,XF h1,FA h2,hl]
   ·cases hx
end

section
variable {P:Program} {w:World} {F:Nat→Prop} {L:LMap} {o:Oper} {a:Act} {e:List AV} {b l b' l':List Row} {x:AV}

theorem OK {t:Bool} {v:Value} (h:RepA w F L (.v (.bool t)) v):v=.bool t:=by cases h.vI;rfl
theorem tH {k:IntKind} {n:Int} {v:Value} (h:RepA w F L (.v (.int k n)) v):v=.int k n:=by cases h.vI;rfl
theorem DO {s:ByteArray} {v:Value} (h:RepA w F L (.v (.str s)) v):v=.string s:=by cases h.vI;rfl
theorem wT (t:Bool):RepA w F L (.v (.bool t)) (.bool t):=.v _ _ (.bool t)
theorem toN (k:IntKind) (n:Int):RepA w F L (.v (.int k n)) (.int k n):=.v _ _ (.int k n)
theorem toS (s:ByteArray):RepA w F L (.v (.str s)) (.string s):=.v _ _ (.str s)

theorem MD {y:Option AV} (h:uI y b l=.val x b' l'):y=some x∧b'=b∧l'=l:=by
 cases y with
 |none=>cases h
 |some y=>cases h;exact⟨rfl,rfl,rfl⟩

theorem ZDo (s:Sim F L (b++l) w) (he:YC w F L e a) {y:Operand} {z:Opd} (ho:o.op=.move y∨o.op=.assign y) (hy:TA y=some z) :
  zB P o a w F L b l (ev e z) b l:=by
 refine zB.pure s (v:=a.eval y) ?_ (IA he hy)
 rcases ho with ho|ho<;>simp[execOp,ho]

theorem O9 (s:Sim F L (b++l) w) (he:YC w F L e a) {y:Operand} {z:Opd} (ho:o.op=.nilCheck y) (hy:TA y=some z)
  (h:aop e b l (.nilck z)=.val x b' l'):zB P o a w F L b l x b' l':=by
 have hr:=IA he hy
 simp only[aop]at h
 generalize ev e z=q at *
 split at h
 ·cases h
  obtain⟨u,hu⟩:∃u,a.eval y=.pointer (some u):=by
   generalize a.eval y=q at hr
   cases hr.vI;exact⟨_,rfl⟩
  exact zB.pure s (v:=a.eval y) (by simp[execOp,ho,hu]) hr
 ·cases h
  obtain⟨u,hu⟩:∃u,a.eval y=.pointer (some u):=by
   generalize a.eval y=q at hr
   cases hr;exact⟨_,rfl⟩
  exact zB.pure s (v:=a.eval y) (by simp[execOp,ho,hu]) hr
 ·cases h
  obtain⟨vs,hu,_⟩:=hr.fnL
  exact zB.pure s (v:=a.eval y) (by simp[execOp,ho,hu]) hr
 ·cases h

theorem ZCc (s:Sim F L (b++l) w) (he:YC w F L e a) {c y z:Operand} {c' y' z':Opd} (ho:o.op=.pick c y z) (hc:TA c=some c') (hy:TA y=some y') (hz:TA z=some z')
  (h:aop e b l (.pick c' y' z')=.val x b' l'):zB P o a w F L b l x b' l':=by
 have h1:=IA he hc
 have h2:=IA he hy
 have h3:=IA he hz
 simp only[aop]at h
 replace h:=MD h
 obtain⟨h,rfl,rfl⟩:=h
 generalize ev e c'=p at *
 generalize ev e y'=q at *
 generalize ev e z'=r at *
 unfold aE at h
 split at h
 ·rename_i t t1 t2
  cases h
  have e1:=OK h1
  have e2:=OK h2
  have e3:=OK h3
  refine zB.pure s (v:=.bool (if t then t1 else t2)) ?_ (wT _)
  cases t<;>simp[execOp,ho,e1,e2,e3,asBool]
 ·rename_i t jP
  cases h
  have e1:=OK h1
  cases t
  ·exact zB.pure s (v:=a.eval z) (by simp[execOp,ho,e1,asBool]) h3
  ·exact zB.pure s (v:=a.eval y) (by simp[execOp,ho,e1,asBool]) h2
 ·cases h

theorem EJ {op:BinOp} {t:TypeId} {y z:Operand} {k k':IntKind} {m n:Int}:(eqGuard op t y z (.int k m) (.int k' n)).run P w=.ok () w:=by
 cases op<;>simp[eqGuard]
theorem OI {op:BinOp} {t:TypeId} {y z:Operand} {m n:Bool}:(eqGuard op t y z (.bool m) (.bool n)).run P w=.ok () w:=by
 cases op<;>simp[eqGuard]
theorem MO {op:BinOp} {t:TypeId} {y z:Operand} {m n:ByteArray}:(eqGuard op t y z (.string m) (.string n)).run P w=.ok () w:=by
 cases op<;>simp[eqGuard]

theorem ZEy (s:Sim F L (b++l) w) (he:YC w F L e a) {op:BinOp} {t u:TypeId} {y z:Operand} {y' z':Opd} (ho:o.op=.binOp op t y z u) (hy:TA y=some y') (hz:TA z=some z')
  (h:aop e b l (.bin op y' z')=.val x b' l'):zB P o a w F L b l x b' l':=by
 have h2:=IA he hy
 have h3:=IA he hz
 simp only[aop]at h
 replace h:=MD h
 obtain⟨h,rfl,rfl⟩:=h
 generalize ev e y'=q at *
 generalize ev e z'=r at *
 unfold nH at h
 split at h
 case h_2=>cases h
 rename_i k m k' n
 have e2:=tH h2
 have e3:=tH h3
 cases hsh:YH op
 ·simp only[hsh,Bool.false_eq_true,if_false]at h
  by_cases hk:k=k'
  ·subst hk
   simp only[if_true]at h
   have key:∀iv,iE op k m n=some iv→∃v,(binOp op t (.int k m) (.int k n)).run P w=.ok v w∧RepI w F iv v:=by
    intro iv jU
    cases op<;>simp only[iE,YH]at jU hsh<;>first|(cases hsh;done)|skip
    all_goals first
     |(cases jU;refine⟨_,by simp[binOp,Op.intArith,Op.intBits,Op.intCmp];rfl,?_⟩;constructor)
     |(cases jU;refine⟨_,by simp only[binOp,ne_eq,not_true_eq_false,if_false,Op.intBits];rfl,?_⟩;constructor)
     | (split at jU
        ·cases jU
        ·rename_i hn
         cases jU
         refine⟨_,by simp[binOp,Op.intDiv,hn];rfl,?_⟩
         constructor)
   cases hi:iE op k m n with
   |none=>simp[hi]at h
   |some iv =>
     simp[hi]at h
     subst h
     obtain⟨v,hv,hr⟩:=key iv hi
     refine zB.pure s (v:=v) ?_ (.v _ _ hr)
     simp[execOp,ho,e2,e3,EJ,hv]
  ·simp[hk]at h
 ·simp only[hsh,if_true]at h
  cases hi:XH op k m n with
  |none=>simp[hi]at h
  |some iv =>
    simp[hi]at h
    subst h
    unfold XH at hi
    split at hi
    ·cases hi
    ·rename_i hn
     cases op<;>simp only[YH]at hsh<;>first|(cases hsh;done)|skip
     all_goals
      cases hi
      refine zB.pure s (v:=.int k _) ?_ (toN _ _)
      simp[execOp,ho,e2,e3,EJ,binOp,Op.shift,hn]

theorem tK {t:TypeId} (ht:P.underlying t=some .bool) (m n:Bool):(Op.equal t (.bool m) (.bool n)).run P w=.ok (m==n) w:=run_equalIn_bool w 9999 t m n ht

theorem ZCp (s:Sim F L (b++l) w) (he:YC w F L e a) {op:BinOp} {t u:TypeId} (ht:P.underlying t=some .bool) {y z:Operand} {y' z':Opd} (ho:o.op=.binOp op t y z u) (hy:TA y=some y') (hz:TA z=some z')
  (h:aop e b l (.binB op y' z')=.val x b' l'):zB P o a w F L b l x b' l':=by
 have h2:=IA he hy
 have h3:=IA he hz
 simp only[aop]at h
 replace h:=MD h
 obtain⟨h,rfl,rfl⟩:=h
 generalize ev e y'=q at *
 generalize ev e z'=r at *
 unfold bE at h
 split at h
 case h_2=>cases h
 rename_i m n
 have e2:=OK h2
 have e3:=OK h3
 cases op<;>simp[kD]at h<;>subst h
 ·exact zB.pure s (v:=.bool (m==n)) (by simp[execOp,ho,e2,e3,OI,binOp,tK ht]) (wT _)
 ·exact zB.pure s (v:=.bool (!(m==n))) (by simp[execOp,ho,e2,e3,OI,binOp,tK ht]) (wT _)

theorem ZCo (s:Sim F L (b++l) w) (he:YC w F L e a) {op:BinOp} {t u:TypeId} {y z:Operand} {y' z':Opd} (ho:o.op=.binOp op t y z u) (hy:TA y=some y') (hz:TA z=some z')
  (h:aop e b l (.binS op y' z')=.val x b' l'):zB P o a w F L b l x b' l':=by
 have h2:=IA he hy
 have h3:=IA he hz
 simp only[aop]at h
 replace h:=MD h
 obtain⟨h,rfl,rfl⟩:=h
 generalize ev e y'=q at *
 generalize ev e z'=r at *
 unfold eE at h
 split at h
 case h_2=>cases h
 rename_i m n
 have e2:=DO h2
 have e3:=DO h3
 have key:∀iv,xE op m n=some iv→∃v,(binOp op t (.string m) (.string n)).run P w=.ok v w∧RepI w F iv v:=by
  intro iv jU
  cases op<;>simp only[xE]at jU<;>first|(cases jU;done)|skip
  ·split at jU
   ·rename_i rK
    cases jU
    exact⟨_,run_string_add_sum w m n rK,.str _⟩
   ·cases jU
  all_goals (cases jU;refine⟨_,?_,.bool _⟩;simp[binOp,Op.stringOp,beq_toListBytes])
 cases hi:xE op m n with
 |none=>simp[hi]at h
 |some iv =>
   simp[hi]at h
   subst h
   obtain⟨v,hv,hr⟩:=key iv hi
   exact zB.pure s (v:=v) (by simp[execOp,ho,e2,e3,MO,hv]) (.v _ _ hr)

theorem ZEt (s:Sim F L (b++l) w) (he:YC w F L e a) {t:TypeId} {y:Operand} {z:Opd} (ho:o.op=.unOp .not t y) (hy:TA y=some z)
  (h:aop e b l (.not z)=.val x b' l'):zB P o a w F L b l x b' l':=by
 have hr:=IA he hy
 simp only[aop]at h
 generalize ev e z=q at *
 split at h<;>cases h
 have e1:=OK hr
 exact zB.pure s (v:=.bool _) (by simp[execOp,ho,e1,Op.unary]) (wT _)

theorem ZEu (s:Sim F L (b++l) w) (he:YC w F L e a) {t:TypeId} {y:Operand} {z:Opd} (ho:o.op=.unOp .neg t y) (hy:TA y=some z)
  (h:aop e b l (.neg z)=.val x b' l'):zB P o a w F L b l x b' l':=by
 have hr:=IA he hy
 simp only[aop]at h
 generalize ev e z=q at *
 split at h<;>cases h
 have e1:=tH hr
 exact zB.pure s (v:=.int _ _) (by simp[execOp,ho,e1,Op.unary,Op.intArith]) (toN _ _)

theorem ZCl (s:Sim F L (b++l) w) (he:YC w F L e a) {t u:TypeId} {k k':IntKind} (ht:P.underlying t=some (.int k')) (hu:P.underlying u=some (.int k)) {y:Operand} {z:Opd} (ho:o.op=.convert t u y) (hy:TA y=some z)
  (h:aop e b l (.conv k z)=.val x b' l'):zB P o a w F L b l x b' l':=by
 have hr:=IA he hy
 simp only[aop]at h
 generalize ev e z=q at *
 split at h<;>cases h
 have e1:=tH hr
 exact zB.pure s (v:=.int _ _) (by simp[execOp,ho,e1,convert,run_underlying ht,run_underlying hu,Conv.intToInt]) (toN _ _)

theorem ZAD (s:Sim F L (b++l) w) (he:YC w F L e a) {t:TypeId} {i:Nat} {fs:Array Field} {f:Field} (ht:P.underlying t=some (.struct fs)) (hf:fs[i]? = some f) {n:Option Nat} (hn:nJ P f.type=some n)
  {y:Operand} {z:Opd} (ho:o.op=.field t y i) (hy:TA y=some z)
  (h:aop e b l (.field f.offset n z)=.val x b' l'):zB P o a w F L b l x b' l':=by
 have hr:=IA he hy
 simp only[aop]at h
 generalize ev e z=q at *
 split at h
 case h_2=>cases h
 replace h:=MD h
 obtain⟨h,rfl,rfl⟩:=h
 obtain⟨vs,hv,hl⟩:=hr.aggL
 obtain⟨v,h1,h2⟩:=M3 (P:=P) hl hn h
 exact zB.pure s (v:=v) (by simp[execOp,ho,hv,Instr.field,run_underlying ht,hf,asAgg,h1]) h2

theorem RY (s:Sim F L (b++l) w) (he:YC w F L e a) {i:Nat} {y:Operand} {z:Opd} (ho:o.op=.extract y i) (hy:TA y=some z)
  (h:aop e b l (.extract i z)=.val x b' l'):zB P o a w F L b l x b' l':=by
 have hr:=IA he hy
 simp only[aop]at h
 generalize ev e z=q at *
 split at h
 case h_2=>cases h
 replace h:=MD h
 obtain⟨h,rfl,rfl⟩:=h
 obtain⟨vs,hv,hl⟩:=hr.tupL
 obtain⟨v,h1,h2⟩:=hl.get h
 have h1':vs[i]? = some v:=by simpa using h1
 exact zB.pure s (v:=v) (by simp[execOp,ho,hv,Instr.extract,h1']) h2

theorem ZCd (s:Sim F L (b++l) w) (he:YC w F L e a) {f:FuncId} {first caps:Array Operand} {cs:List Opd} (h0:first.size=0) (ho:o.op=.makeFunc (.func f) first caps) (hc:wP caps.toList=some cs)
  : zB P o a w F L b l (.fn f (evs e cs)) b l:=by
 have hr:=fU he hc
 have:first=#[]:=Array.eq_empty_of_size_eq_zero h0
 subst this
 exact zB.pure s (v:=.func (.func f) #[] (caps.map a.eval)) (by simp[execOp,ho,Instr.makeFunc]) (MA.fn (by simpa using hr))

theorem Q6 (s:Sim F L (b++l) w) (he:YC w F L e a) {t:TypeId} (ht:P.underlying t=some .string) {y i:Operand} {y' i':Opd} (ho:o.op=.index t y i) (hy:TA y=some y') (hi:TA i=some i')
  (h:aop e b l (.indexS y' i')=.val x b' l'):zB P o a w F L b l x b' l':=by
 have h1:=IA he hy
 have h2:=IA he hi
 simp only[aop]at h
 generalize ev e y'=q at *
 generalize ev e i'=r at *
 split at h
 case h_2=>cases h
 rename_i str k n
 split at h
 case isFalse=>cases h
 rename_i hb
 cases h
 have e1:=DO h1
 have e2:=tH h2
 exact zB.pure s (v:=.int .u8 (str[n.toNat]'hb.2).toNat) (by simp[execOp,ho,e1,e2,Instr.index,asIntOf,run_underlying ht,hb.1,hb.2]) (toN _ _)

theorem Y6 (s:Sim F L (b++l) w) (he:YC w F L e a) {t el:TypeId} {len sz:Nat} {n:Option Nat} (ht:P.underlying t=some (.array len el)) (hz:iD P el=some sz) (hn:nJ P el=some n)
  {y i:Operand} {y' i':Opd} (ho:o.op=.index t y i) (hy:TA y=some y') (hi:TA i=some i')
  (h:aop e b l (.indexA len sz n y' i')=.val x b' l'):zB P o a w F L b l x b' l':=by
 have h1:=IA he hy
 have h2:=IA he hi
 simp only[aop]at h
 generalize ev e y'=q at *
 generalize ev e i'=r at *
 split at h
 case h_2=>cases h
 rename_i cs k m
 split at h
 case isFalse=>cases h
 rename_i hb
 replace h:=MD h
 obtain⟨h,rfl,rfl⟩:=h
 obtain⟨vs,hv,hl⟩:=h1.aggL
 have e2:=tH h2
 obtain⟨v,h3,h4⟩:=M3 (P:=P) hl hn h
 exact zB.pure s (v:=v) (by simp[execOp,ho,hv,e2,Instr.index,asIntOf,run_underlying ht,hb.1,hb.2,FA hz,h3]) h4

theorem ZDp (s:Sim F L (b++l) w) (he:YC w F L e a) {t:Bool} {c:Call} (hc:c.callee=.builtin (if t then .max else .min)) {y z:Operand} {y' z':Opd} (ha:c.args.toList=[y,z]) (ho:o.op=.call c) (hy:TA y=some y') (hz:TA z=some z')
  (h:aop e b l (.mm t y' z')=.val x b' l'):zB P o a w F L b l x b' l':=by
 have h1:=IA he hy
 have h2:=IA he hz
 simp only[aop]at h
 replace h:=MD h
 obtain⟨h,rfl,rfl⟩:=h
 generalize ev e y'=q at *
 generalize ev e z'=r at *
 unfold amm at h
 split at h
 case h_2=>cases h
 rename_i k m k' n
 cases h
 have e1:=tH h1
 have e2:=tH h2
 have ha':c.args=#[y,z]:=by rw[←Array.toArray_toList (xs:=c.args),ha]
 cases t
 ·exact zB.pure s (v:=.int k _) (by simp[execOp,ho,resolve,hc,ha',invoke,builtin,e1,e2,Builtin.min_,Builtin.min2]) (toN _ _)
 ·exact zB.pure s (v:=.int k _) (by simp[execOp,ho,resolve,hc,ha',invoke,builtin,e1,e2,Builtin.max_,Builtin.max2]) (toN _ _)
end

theorem FH {α:Type} (xs ys:List α) (p i:Nat) (h:p+ys.length≤xs.length) :
  (xs.take p++ys++xs.drop (p+ys.length))[i]? = if p≤i∧i<p+ys.length then ys[i-p]? else xs[i]?:=by
 have h1:(xs.take p).length=p:=by simp;omega
 by_cases hi:i<p
 ·rw[List.append_assoc,List.getElem?_append_left oM,List.getElem?_take,if_pos hi,if_neg oM]
 ·by_cases hj:i<p+ys.length
  ·rw[List.append_assoc,List.getElem?_append_right oM,h1,List.getElem?_append_left oM,if_pos oM]
  ·rw[List.getElem?_append_right (by simp;omega),if_neg oM,List.getElem?_drop]
   congr 1
   simp;omega

theorem gO (cs:List AV):∀(row:List AV) (j:Nat),(YA row j cs).length=row.length:=by
 induction cs with
 |nil=>intro row j;rfl
 |cons c cs ih=>intro row j;simp[YA,ih]
theorem xO (cs:List AV):∀(row:List AV) (j i:Nat),j+cs.length≤row.length→(YA row j cs)[i]? = if j≤i∧i<j+cs.length then cs[i-j]? else row[i]?:=by
 induction cs with
 |nil=>intro row j i _;simp only[YA,List.length_nil];rw[if_neg oM]
 |cons c cs ih =>
   intro row j i h
   simp only[List.length_cons]at h
   simp only[YA]
   rw[ih _ _ _ (by simp;omega)]
   by_cases h1:i=j
   ·subst h1
    rw[if_neg oM,if_pos (by simp),List.getElem?_set_self oM]
    simp
   ·by_cases h2:j+1≤i∧i<j+1+cs.length
    ·rw[if_pos h2,if_pos (by simp;omega),show i-j=(i-(j+1))+1 by omega]
     simp
    ·rw[if_neg h2,if_neg (by simp;omega),List.getElem?_set_ne oM]

theorem P4 {sz k k' j j' n:Nat} (hk:k≠k') (hj:j'<sz) (hn:j+n≤sz):¬(k*sz+j≤k'*sz+j'∧k'*sz+j'<k*sz+j+n):=by
 rintro⟨h1,h2⟩
 rcases Nat.lt_or_gt_of_ne hk with h|h
 ·have:=Nat.mul_le_mul_right sz (show k+1≤k' by omega)
  rw[Nat.add_mul]at this
  omega
 ·have:=Nat.mul_le_mul_right sz (show k'+1≤k by omega)
  rw[Nat.add_mul]at this
  omega
theorem bG {sz k j n cap:Nat} (hk:k<cap) (hn:j+n≤sz):k*sz+j+n≤cap*sz:=by
 have:=Nat.mul_le_mul_right sz (show k+1≤cap by omega)
 rw[Nat.add_mul]at this
 omega

section
variable {P:Program} {w:World} {F:Nat→Prop} {L:LMap} {o:Oper} {a:Act} {e:List AV} {b l b' l':List Row} {x:AV}

theorem SK {x:AV} {v:Value} {cs:List AV} (h:RepA w F L x v) (hc:cellsOf x=some cs) (ha:cs.all AV.cell=true) :
  MA w F L cs v.cells.toList∧∀u∈v.cells.toList,u.oneCell'=true:=by
 cases x with
 |any=>cases hc
 |tup cs=>cases hc
 |agg ds =>
   cases hc
   obtain⟨vs,rfl,hl⟩:=h.aggL
   refine⟨hl,fun u hu=>?_⟩
   obtain⟨i,hi⟩:=List.mem_iff_getElem?.1 hu
   simp only[Value.cells]at hi
   have V9:i<cs.length:=by rw[hl.1];exact (List.getElem?_eq_some_iff.1 hi).1
   exact (hl.2 i cs[i] u (List.getElem?_eq_getElem V9) hi).one (by simpa using List.all_eq_true.1 ha cs[i] (List.getElem_mem V9))
 |_ =>
   cases hc
   have h1:=h.one rfl
   rw[jT h1]
   exact⟨by simpa using MA.cons h MA.nil,by simpa using h1⟩

theorem ZAE (s:Sim F L (b++l) w) (he:YC w F L e a) {t:TypeId} {i n:Nat} {fs:Array Field} {f:Field} (ht:P.underlying t=some (.struct fs)) (hf:fs[i]? = some f) (hn:iD P f.type=some n) (h0:0<n)
  {y:Operand} {z:Opd} (ho:o.op=.fieldAddr t y i) (hy:TA y=some z)
  (h:aop e b l (.faddr f.offset z)=.val x b' l'):zB P o a w F L b l x b' l':=by
 have hr:=IA he hy
 simp only[aop]at h
 generalize ev e z=q at *
 have key:∀blk p,a.eval y=.pointer (some ⟨blk,p,none⟩)→(execOp a.eval o).run P w=.ok (.value (.pointer (some ⟨blk,p+f.offset,none⟩))) w:=by
  intro blk p hp
  simp[execOp,ho,hp,Instr.fieldAt,run_underlying ht,hf,Instr.sureAddr,fieldPlace,FA hn,show n≠0 by omega,Addr.add_lit]
 unfold XD at h
 split at h
 ·rename_i row j
  cases h
  generalize hp:a.eval y=u at *
  cases hr.vI with
  |iptr _ _ b1 off val h1 h2 h3 =>
    exact zB.pure s (key _ _ rfl) (.v _ _ (by rw[Nat.add_assoc];exact .iptr row _ b1 off val h1 h2 h3))
 ·rename_i id ver k j
  cases h
  generalize hp:a.eval y=u at *
  cases hr with
  |ptr _ _ _ _ b1 o1 sz cap hL =>
    exact zB.pure s (key _ _ rfl) (by rw[Nat.add_assoc];exact .ptr id ver k _ b1 o1 sz cap hL)
 ·cases h

theorem ZAC (s:Sim F L (b++l) w) (he:YC w F L e a) {t el:TypeId} {sz:Nat} (ht:P.underlying t=some (.slice el)) (hz:iD P el=some sz)
  {y i:Operand} {y' i':Opd} (ho:o.op=.indexAddr t y i) (hy:TA y=some y') (hi:TA i=some i')
  (h:aop e b l (.iaddr sz y' i')=.val x b' l'):zB P o a w F L b l x b' l':=by
 have h1:=IA he hy
 have h2:=IA he hi
 simp only[aop]at h
 generalize ev e y'=q at *
 generalize ev e i'=r at *
 have key:∀(blk p len cap:Nat) (k:IntKind) (n:Int),a.eval y=.slice (some ⟨blk,p,none⟩) len cap→a.eval i=.int k n→0≤n→n<(len:Int)→(execOp a.eval o).run P w=.ok (.value (.pointer (some ⟨blk,p+n.toNat*sz,none⟩))) w:=by
  intro blk p len cap k n e1 e2 h0 hn
  simp[execOp,ho,e1,e2,Instr.indexAt,asIntOf,run_underlying ht,FA hz,h0,hn,Addr.add_lit]
 unfold QD at h
 split at h
 ·rename_i s0 rows k n
  split at h
  case isFalse=>cases h
  rename_i hb
  obtain⟨rfl,h0⟩:=hb
  split at h
  case h_2=>cases h
  rename_i row yE
  cases h
  have e2:=tH h2
  have LA:n.toNat<rows.length:=(List.getElem?_eq_some_iff.1 yE).1
  generalize hp:a.eval y=u at *
  cases h1.vI with
  |isl0=>simp at yE
  |isl _ b1 off _ c val g1 g2 g3 g4 g5 g6 =>
    refine zB.pure s (key _ _ _ _ _ _ rfl e2 h0 oM) (.v _ _ ?_)
    have:=RepI.iptr (w:=w) (F:=F) row 0 b1 (off+n.toNat*s0) (val n.toNat) g1 (fun j a hj=>g5 _ row j a yE hj) (fun j a hj=>g6 _ row j a yE hj)
    simpa using this
 ·rename_i id ver off len k n
  split at h
  case h_2=>cases h
  rename_i v s0 els hg
  split at h
  case isFalse=>cases h
  rename_i hb
  obtain⟨rfl,rfl,h0,hn⟩:=hb
  cases h
  rw[zD]at hg
  have e2:=tH h2
  generalize hp:a.eval y=u at *
  cases h1 with
  |sl _ _ _ _ b1 o1 sz1 cap1 g1 g2 g3 =>
    obtain⟨lc,k1,k2⟩:=s.row _ _ _ _ hg
    rw[g1]at k1;cases k1
    obtain⟨rfl,_⟩:=k2
    refine zB.pure s (key _ _ _ _ _ _ rfl e2 h0 hn) ?_
    have:=RepA.ptr (w:=w) (F:=F) id v (off+n.toNat) 0 b1 o1 sz1 cap1 g1
    rw[Nat.add_mul]at this
    simpa [Nat.add_assoc] using this
  |slz=>simp at hn;omega
  |sln=>simp at hn;omega
 ·cases h

theorem J6 (s:Sim F L (b++l) w) (he:YC w F L e a) {t el:TypeId} {len sz:Nat} (ht:P.underlying t=some (.array len el)) (hz:iD P el=some sz)
  {y i:Operand} {y' i':Opd} (ho:o.op=.indexAddr t y i) (hy:TA y=some y') (hi:TA i=some i')
  (h:aop e b l (.iaddrA len sz y' i')=.val x b' l'):zB P o a w F L b l x b' l':=by
 have h1:=IA he hy
 have h2:=IA he hi
 simp only[aop]at h
 generalize ev e y'=q at *
 generalize ev e i'=r at *
 have key:∀(blk p:Nat) (k:IntKind) (n:Int),a.eval y=.pointer (some ⟨blk,p,none⟩)→a.eval i=.int k n→0≤n→n<(len:Int)→(execOp a.eval o).run P w=.ok (.value (.pointer (some ⟨blk,p+n.toNat*sz,none⟩))) w:=by
  intro blk p k n e1 e2 h0 hn
  simp[execOp,ho,e1,e2,Instr.indexAt,asIntOf,run_underlying ht,FA hz,h0,hn,Addr.add_lit,Instr.sureAddr]
 unfold OB at h
 split at h
 ·rename_i row j k n
  split at h
  case isFalse=>cases h
  rename_i hb
  cases h
  have e2:=tH h2
  generalize hp:a.eval y=u at *
  cases h1.vI with
  |iptr _ _ b1 off val g1 g2 g3 =>
    exact zB.pure s (key _ _ _ _ rfl e2 hb.1 hb.2) (.v _ _ (by rw[Nat.add_assoc];exact .iptr row _ b1 off val g1 g2 g3))
 ·rename_i id ver k j kk n
  split at h
  case isFalse=>cases h
  rename_i hb
  cases h
  have e2:=tH h2
  generalize hp:a.eval y=u at *
  cases h1 with
  |ptr _ _ _ _ b1 o1 sz1 cap hL =>
    exact zB.pure s (key _ _ _ _ rfl e2 hb.1 hb.2) (by rw[Nat.add_assoc];exact .ptr id ver k _ b1 o1 sz1 cap hL)
 ·cases h

theorem lX (s:Sim F L (b++l) w) {t:TypeId} {n:Option Nat} (hn:nJ P t=some n) {q:AV} {v:Value} (hr:RepA w F L q v)
  (h:YE b l n q=.val x b' l'):∃blk p u,v=.pointer (some ⟨blk,p,none⟩)∧(loadVar t ⟨blk,p,none⟩).run P w=.ok u w∧RepA w F L x u∧b'=b∧l'=l:=by
 unfold YE at h
 split at h
 ·rename_i row j
  replace h:=MD h
  obtain⟨h,rfl,rfl⟩:=h
  cases hr.vI with
  |iptr _ _ b1 off val g1 g2 g3 =>
    have:=iQ (P:=P) (w:=w) (F:=F) (L:=L) hn (b:=b1) (o:=off+j) (vals:=(row.drop j).map .v) (x:=x) (by
     intro i y hy
     rw[List.getElem?_map]at hy
     cases hq:(row.drop j)[i]? with
     |none=>simp[hq]at hy
     |some z =>
       simp[hq]at hy
       subst hy
       rw[List.getElem?_drop]at hq
       exact⟨_,by rw[Nat.add_assoc];exact g2 _ _ hq,.v _ _ (g3 _ _ hq)⟩) (by
     cases n with
     |none=>simp only[rdI]at h;simpa using h
     |some n =>
       simp only[rdI]at h
       split at h
       ·rename_i rK
        cases h
        simp only
        rw[if_pos (by simp;omega),List.map_take]
       ·cases h)
    obtain⟨u,h1,h2⟩:=this
    exact⟨b1,off+j,u,rfl,h1,h2,rfl,rfl⟩
 ·rename_i id ver k j
  split at h
  case h_2=>cases h
  rename_i v0 s0 els hg
  split at h
  case isFalse=>cases h
  rename_i hv
  subst hv
  split at h
  case h_2=>cases h
  rename_i row yE
  replace h:=MD h
  obtain⟨h,rfl,rfl⟩:=h
  rw[zD]at hg
  cases hr with
  |ptr _ _ _ _ b1 o1 sz1 cap hL =>
    have:=iQ (P:=P) (w:=w) (F:=F) (L:=L) hn (b:=b1) (o:=o1+k*sz1+j) (vals:=row.drop j) (x:=x) (by
     intro i y hy
     rw[List.getElem?_drop]at hy
     obtain⟨_,_,u,h1,h2⟩:=s.cell hg hL yE hy
     exact⟨u,by rw[Nat.add_assoc];exact h1,h2⟩) (by
     cases n with
     |none=>simp only[rd]at h;simpa using h
     |some n =>
       simp only[rd]at h
       split at h
       ·rename_i rK
        cases h
        simp only
        rw[if_pos (by simp;omega)]
       ·cases h)
    obtain⟨u,h1,h2⟩:=this
    exact⟨b1,o1+k*sz1+j,u,rfl,h1,h2,rfl,rfl⟩
 ·cases h

theorem ZCe (s:Sim F L (b++l) w) (he:YC w F L e a) {t:TypeId} {n:Option Nat} (hn:nJ P t=some n) {y:Operand} {z:Opd} (ho:o.op=.load t y) (hy:TA y=some z)
  (h:aop e b l (.load n z)=.val x b' l'):zB P o a w F L b l x b' l':=by
 have hr:=IA he hy
 simp only[aop]at h
 obtain⟨blk,p,u,h1,h2,h3,rfl,rfl⟩:=lX (P:=P) s hn hr h
 exact zB.pure s (v:=u) (by simp[execOp,ho,h1,Instr.loadAt,Instr.sureAddr,h2]) h3

theorem C9 (s:Sim F L (b++l) w) (he:YC w F L e a) {t:TypeId} {n:Nat} (hn:iD P t=some n) {y z:Operand} {y' z':Opd} (ho:o.op=.store t y z) (hy:TA y=some y') (hz:TA z=some z')
  (h:aop e b l (.store n y' z')=.val x b' l'):zB P o a w F L b l x b' l':=by
 have h1:=IA he hy
 have h2:=IA he hz
 simp only[aop]at h
 generalize ev e y'=q at *
 generalize ev e z'=r at *
 unfold jD at h
 split at h
 case h_2=>cases h
 rename_i id ver k j cs HX
 split at h
 case h_2=>cases h
 rename_i v0 s0 els hg
 split at h
 case isFalse=>cases h
 rename_i hb
 obtain⟨rfl,FC,RF⟩:=hb
 split at h
 case h_2=>cases h
 rename_i row yE
 split at h
 case isFalse=>cases h
 rename_i IH
 cases h
 rw[zD]at hg
 obtain⟨c1,c2⟩:=SK h2 HX RF
 generalize hvs:a.eval z=v at *
 generalize hp:a.eval y=u at *
 cases h1 with
 |ptr _ _ _ _ b1 o1 sz1 cap hL =>
   obtain⟨lc,k1,k2⟩:=s.row _ _ _ _ hg
   rw[hL]at k1;cases k1
   obtain⟨rfl,k3,k4,cur,T,k5,k6,k7,k8⟩:=k2
   have hk:k<els.length:=(List.getElem?_eq_some_iff.1 yE).1
   have pS:=k7 k row yE
   have vU:v.cells.toList.length=n:=by rw[←c1.1,FC]
   have hvz:v.cells.size=n:=by simpa using vU
   have rK:k*sz1+j+n≤cap*sz1:=bG oM oM
   have UH:=run_storeCells_at P b1 (o1+k*sz1+j) T v.cells.toList 0 cur w k5 oM c2
   have vD:(execOp a.eval o).run P w=.ok .skip (w.setRow b1 (cur.toList.take (o1+k*sz1+j)++v.cells.toList++cur.toList.drop (o1+k*sz1+j+v.cells.toList.length)).toArray):=by
    simp only[Nat.add_zero]at UH
    have sM:v.cells.size=n:=by simpa using vU
    simp[execOp,ho,hp,hvs,Instr.storeAt,Instr.sureAddr,storeVar,FA hn,sM,UH]
   have nN:(cur.toList.take (o1+k*sz1+j)++v.cells.toList++cur.toList.drop (o1+k*sz1+j+v.cells.toList.length)).toArray.size=cur.size:=by
    simp only[List.size_toArray,List.length_append,List.length_take,List.length_drop,Array.length_toList]
    omega
   have hget:∀i,(cur.toList.take (o1+k*sz1+j)++v.cells.toList++cur.toList.drop (o1+k*sz1+j+v.cells.toList.length)).toArray[i]? = if o1+k*sz1+j≤i∧i<o1+k*sz1+j+n then v.cells.toList[i-(o1+k*sz1+j)]? else cur[i]?:=by
    intro i
    have:=FH cur.toList v.cells.toList (o1+k*sz1+j) i (by simp only[Array.length_toList];omega)
    rw[vU]at this
    simp only[List.getElem?_toArray]
    rw[vU,this]
    simp
   obtain⟨L',r1,r2,r3,r4⟩:=s.putRow (h':=(b++l).set id (.live v0 sz1 (els.set k (YA row j cs)))) (w':=w.setRow b1 (cur.toList.take (o1+k*sz1+j)++v.cells.toList++cur.toList.drop (o1+k*sz1+j+v.cells.toList.length)).toArray)
    id v0 sz1 b1 o1 cap (els.set k (YA row j cs)) rfl rfl rfl (by simp) (fun i _ hi=>setRow_other w b1 i _ hi) (.inr ⟨_,_,_,_,_,_,hg,hL⟩)
    (List.getElem?_set_self (List.getElem?_eq_some_iff.1 hg).1) (fun i hi=>List.getElem?_set_ne (Ne.symm hi)) (fun r hr=>by rw[hg]at hr;cases hr;exact⟨Nat.le_refl _,_,_,_,rfl⟩) (.inr hL)
    (by simpa using k3) k4 _ T (setRow_heap w b1 cur _ T _ k5) (by rw[nN];exact k6)
    (fun k' row' hk'=>by
     by_cases DN:k=k'
     ·subst DN
      rw[List.getElem?_set_self hk]at hk';cases hk'
      rw[gO];exact pS
     ·rw[List.getElem?_set_ne DN]at hk';exact k7 _ _ hk')
    (fun k' row' j' a' hk' hj'=>by
     by_cases DN:k=k'
     ·subst DN
      rw[List.getElem?_set_self hk]at hk';cases hk'
      rw[xO cs row j j' oM]at hj'
      rw[hget]
      by_cases ME:j≤j'∧j'<j+cs.length
      ·rw[if_pos ME]at hj'
       rw[if_pos oM]
       obtain⟨u,hu,hru⟩:=c1.get hj'
       refine⟨?_,u,by rw[show o1+k*sz1+j'-(o1+k*sz1+j)=j'-j by omega];exact hu,hru⟩
       exact List.all_eq_true.1 RF _ (List.mem_of_getElem? hj')
      ·rw[if_neg ME]at hj'
       rw[if_neg oM]
       exact k8 k row j' a' yE hj'
     ·rw[List.getElem?_set_ne DN]at hk'
      have hj2:j'<sz1:=by rw[←k7 _ _ hk'];exact (List.getElem?_eq_some_iff.1 hj').1
      rw[hget,if_neg (by have:=P4 (n:=n) (j:=j) DN hj2 oM;omega)]
      exact k8 k' row' j' a' hk' hj')
   refine⟨undef,_,L',.inr ⟨vD,rfl⟩,RepA.undef _ _ _,by rw[CD];exact r1,by rw[CD];exact r2,YF _ _ _⟩
end

section
variable {P:Program} {w:World} {F:Nat→Prop} {L:LMap} {o:Oper} {a:Act} {e:List AV} {b l b' l':List Row} {x:AV}

theorem bV {t ty el:TypeId} (ht:P.underlying t=some (.slice el)) (ad:Option Addr) (n c:Nat):(Builtin.len_ #[t] ty #[.slice ad n c]).run P w=.ok (goInt n) w:=by
 simp[Builtin.len_,run_underlying ht]

theorem GD {c:Call} {bi:Builtin} {xs:List Operand} {ts:List TypeId} (ho:o.op=.call c) (hc:c.callee=.builtin bi) (ha:c.args.toList=xs) (yU:c.argTypes.toList=ts) :
  execOp a.eval o=(do let d ←(Pure.pure {target:=.builtin bi ts.toArray o.type (xs.toArray.map fun|.const _=>true|_=>false),args:=(xs.map a.eval).toArray}:Sem Deferred);invoke d.target d.args):=by
 have h1:c.args=xs.toArray:=by rw[←ha]
 have h2:c.argTypes=ts.toArray:=by rw[←yU]
 simp only[execOp,ho,resolve,hc,h1,h2,List.map_toArray]
 rfl

theorem ZEv (s:Sim F L (b++l) w) (he:YC w F L e a) {c:Call} {t el:TypeId} (ht:P.underlying t=some (.slice el)) {y:Operand} {z:Opd} (hc:c.callee=.builtin .len) (ha:c.args.toList=[y]) (yU:c.argTypes.toList=[t]) (ho:o.op=.call c) (hy:TA y=some z)
  (h:aop e b l (.len z)=.val x b' l'):zB P o a w F L b l x b' l':=by
 have hr:=IA he hy
 simp only[aop]at h
 replace h:=MD h
 obtain⟨h,rfl,rfl⟩:=h
 generalize ev e z=q at *
 have key:∀ad n cp,a.eval y=.slice ad n cp→zB P o a w F L b' l' (.v (.int .i64 n)) b' l':=by
  intro ad n cp hv
  refine zB.pure s (v:=goInt n) ?_ (toN _ _)
  rw[GD ho hc ha yU]
  simp[invoke,builtin,hv,bV ht]
 unfold pH at h
 split at h
 ·cases h
  generalize hv:a.eval y=v at hr
  cases hr.vI
  exact key _ _ _ hv
 ·cases h
  generalize hv:a.eval y=v at hr
  cases hr.vI
  ·exact key _ _ _ hv
  ·exact key _ _ _ hv
 ·cases h
  generalize hv:a.eval y=v at hr
  cases hr
  ·exact key _ _ _ hv
  ·exact key _ _ _ hv
  ·exact key _ _ _ hv
 ·cases h

theorem aV {t ty el:TypeId} (ht:P.underlying t=some (.slice el)) (ad:Option Addr) (n c:Nat):(Builtin.cap_ #[t] ty #[.slice ad n c]).run P w=.ok (goInt c) w:=by
 simp[Builtin.cap_,run_underlying ht]

theorem ZCm (s:Sim F L (b++l) w) (he:YC w F L e a) {c:Call} {t el:TypeId} (ht:P.underlying t=some (.slice el)) {y:Operand} {z:Opd} (hc:c.callee=.builtin .cap) (ha:c.args.toList=[y]) (yU:c.argTypes.toList=[t]) (ho:o.op=.call c) (hy:TA y=some z)
  (h:aop e b l (.capz z)=.val x b' l'):zB P o a w F L b l x b' l':=by
 have hr:=IA he hy
 simp only[aop]at h
 generalize ev e z=q at *
 split at h
 case h_2=>cases h
 cases h
 generalize hv:a.eval y=v at hr
 cases hr.vI
 refine zB.pure s (v:=goInt 0) ?_ (toN _ _)
 rw[GD ho hc ha yU]
 simp[invoke,builtin,hv,aV ht]

theorem ZCf (s:Sim F L (b++l) w) (he:YC w F L e a) {c:Call} {t:TypeId} (ht:P.underlying t=some .string) {y:Operand} {z:Opd} (hc:c.callee=.builtin .len) (ha:c.args.toList=[y]) (yU:c.argTypes.toList=[t]) (ho:o.op=.call c) (hy:TA y=some z)
  (h:aop e b l (.lenS z)=.val x b' l'):zB P o a w F L b l x b' l':=by
 have hr:=IA he hy
 simp only[aop]at h
 replace h:=MD h
 obtain⟨h,rfl,rfl⟩:=h
 generalize ev e z=q at *
 unfold GE at h
 split at h
 ·cases h
  have hv:=DO hr
  refine zB.pure s (v:=goInt _) ?_ (toN _ _)
  rw[GD ho hc ha yU]
  simp[invoke,builtin,hv,Builtin.len_,run_underlying ht]
 ·cases h

theorem ZCh (s:Sim F L (b++l) w) {c:Call} {t el:TypeId} {n:Nat} (ht:P.underlying t=some (.array n el)) {y:Operand} (hc:c.callee=.builtin .len) (ha:c.args.toList=[y]) (yU:c.argTypes.toList=[t]) (ho:o.op=.call c) :
  zB P o a w F L b l (.v (.int .i64 n)) b l:=by
 refine zB.pure s (v:=goInt n) ?_ (toN _ _)
 rw[GD ho hc ha yU]
 simp[invoke,builtin,Builtin.len_,run_underlying ht]

theorem pF {n m p q:Nat} {lo hi:Option AV} {vlo vhi:Option Value} (h:MC n lo hi=some (p,q)) (hm:n≤m) (isS:Bool)
  (h1:∀y,lo=some y→∃v,vlo=some v∧RepA w F L y v) (h1n:lo=none→vlo=none)
  (h2:∀y,hi=some y→∃v,vhi=some v∧RepA w F L y v) (h2n:hi=none→vhi=none) :
  (Instr.sliceBounds isS n m vlo vhi none).run P w=.ok (p,q,m) w∧p≤q∧q≤n:=by
 unfold MC at h
 split at h
 ·cases h
  rw[h1n rfl,h2n rfl]
  exact⟨by simp[Instr.sliceBounds],Nat.zero_le _,Nat.le_refl _⟩
 ·rename_i k i
  split at h
  ·rename_i hb
   cases h
   obtain⟨v,e1,e2⟩:=h1 _ rfl
   rw[e1,h2n rfl,tH e2]
   exact⟨by simp[Instr.sliceBounds,Instr.sliceBound,asIntOf,hb.1,hb.2],by omega,Nat.le_refl _⟩
  ·cases h
 ·rename_i k i
  split at h
  ·rename_i hb
   cases h
   obtain⟨v,e1,e2⟩:=h2 _ rfl
   rw[e1,h1n rfl,tH e2]
   have:i≤(m:Int):=by omega
   exact⟨by simp[Instr.sliceBounds,Instr.sliceBound,asIntOf,hb.1,this],by omega,by omega⟩
  ·cases h
 ·rename_i k i k' i'
  split at h
  ·rename_i hb
   cases h
   obtain⟨v,e1,e2⟩:=h1 _ rfl
   obtain⟨u,e3,e4⟩:=h2 _ rfl
   rw[e1,e3,tH e2,tH e4]
   have h0:0≤i':=by omega
   have h3:i'≤(m:Int):=by omega
   have h4:i≤((i'.toNat:Nat):Int):=by omega
   have h5:¬(max i' 0<i):=by omega
   exact⟨by simp[Instr.sliceBounds,Instr.sliceBound,asIntOf,hb.1,h0,h3,h5],by omega,by omega⟩
  ·cases h
 ·cases h

theorem SP (he:YC w F L e a) {y:Option Operand} {z:Option Opd} (h:TK y=some z) :
  (∀u,evo e z=some u→∃v,y.map a.eval=some v∧RepA w F L u v)∧(evo e z=none→y.map a.eval=none):=by
 cases y with
 |none=>simp[TK]at h;subst h;exact⟨fun u hu=>by simp[evo]at hu,fun _=>rfl⟩
 |some y =>
   cases hc:TA y with
   |none=>simp[TK,hc]at h
   |some q =>
     simp[TK,hc]at h
     subst h
     exact⟨fun u hu=>by simp[evo]at hu;subst hu;exact⟨_,rfl,IA he hc⟩,fun h=>by simp[evo]at h⟩

theorem zH {t el:TypeId} {sz:Nat} (ht:P.underlying t=some (.slice el)) (hz:iD P el=some sz) {ad:Option Addr} {n m p q:Nat} {vlo vhi:Option Value} (hb:(Instr.sliceBounds true n m vlo vhi none).run P w=.ok (p,q,m) w) :
  (Instr.sliceAt t (.slice ad n m) vlo vhi none).run P w=.ok (.slice (if m=p then ad else ad.map (·.add (p*sz))) (q-p) (m-p)) w:=by
 simp only[Instr.sliceAt,Sem.run_bind,run_underlying ht,Result.andThen_ok,Instr.slice,hb,FA hz,Sem.run_pure]

theorem A9 (s:Sim F L (b++l) w) (he:YC w F L e a) {t el:TypeId} {sz:Nat} (ht:P.underlying t=some (.slice el)) (hz:iD P el=some sz)
  {y:Operand} {y':Opd} {lo hi:Option Operand} {lo' hi':Option Opd} (ho:o.op=.slice t y lo hi none) (hy:TA y=some y') (hlo:TK lo=some lo') (hhi:TK hi=some hi')
  (h:aop e b l (.slice sz y' lo' hi')=.val x b' l'):zB P o a w F L b l x b' l':=by
 have hr:=IA he hy
 obtain⟨g1,g2⟩:=SP he hlo
 obtain⟨g3,g4⟩:=SP he hhi
 simp only[aop]at h
 generalize ev e y'=q at *
 unfold ZD at h
 split at h
 ·split at h
  case h_2=>cases h
  rename_i pq hb
  obtain⟨p,q⟩:=pq
  cases h
  generalize hv:a.eval y=v at hr
  cases hr.vI with
  |zsl ad =>
    obtain⟨k1,k2,k3⟩:=pF (P:=P) hb (Nat.le_refl _) true g1 g2 g3 g4
    have hq:q=0:=by omega
    subst hq
    have hp:p=0:=by omega
    subst hp
    refine zB.pure s (v:=.slice ad 0 0) ?_ (.v _ _ (.zsl _))
    simp[execOp,ho,hv,zH ht hz k1]
 ·rename_i s0 rows
  split at h
  case isFalse=>cases h
  rename_i hs
  subst hs
  split at h
  case h_2=>cases h
  rename_i p q hb
  cases h
  have aM:∀ad m,rows.length≤m→a.eval y=.slice ad rows.length m→RepA w F L (.v (.isl s0 ((rows.take q).drop p))) (.slice (if m=p then ad else ad.map (·.add (p*s0))) (q-p) (m-p))→zB P o a w F L b l (.v (.isl s0 ((rows.take q).drop p))) b l:=by
   intro ad m hm hv hx
   obtain⟨k1,_,_⟩:=pF (P:=P) hb hm true g1 g2 g3 g4
   refine zB.pure s (v:=_) ?_ hx
   simp[execOp,ho,hv,zH ht hz k1]
  generalize hv:a.eval y=v at hr
  cases hr.vI with
  |isl0 _ ad m hm =>
    refine aM _ _ (Nat.zero_le _) hv (.v _ _ ?_)
    obtain⟨_,k2,k3⟩:=pF (P:=P) hb (Nat.le_refl _) true g1 g2 g3 g4
    simp at k3
    subst k3
    simp
    exact .isl0 s0 _ _ oM
  |isl _ b1 off _ m val h1 h2 h3 h4 h5 h6 =>
    refine aM _ _ h2 hv (.v _ _ ?_)
    obtain⟨_,k2,k3⟩:=pF (P:=P) hb h2 true g1 g2 g3 g4
    by_cases hpq:p=q
    ·subst hpq
     have:(rows.take p).drop p=[]:=by simp
     rw[this,Nat.sub_self]
     exact .isl0 s0 _ _ oM
    ·rw[if_neg oM]
     have FC:((rows.take q).drop p).length=q-p:=by simp;omega
     have:=RepI.isl (w:=w) (F:=F) ((rows.take q).drop p) b1 (off+p*s0) s0 (m-p) (fun k j=>val (p+k) j) h1 oM oM
      (fun k row hk=>by
       rw[List.getElem?_drop,List.getElem?_take]at hk
       split at hk
       ·exact h4 _ _ hk
       ·cases hk)
      (fun k row j a hk hj=>by
       rw[List.getElem?_drop,List.getElem?_take]at hk
       split at hk
       ·have:=h5 _ row j a hk hj
        rw[Nat.add_mul]at this
        simpa [Nat.add_assoc] using this
       ·cases hk)
      (fun k row j a hk hj=>by
       rw[List.getElem?_drop,List.getElem?_take]at hk
       split at hk
       ·exact h6 _ row j a hk hj
       ·cases hk)
     rw[FC]at this
     simpa [Addr.add_lit] using this
 ·rename_i id ver off len
  split at h
  case h_2=>cases h
  rename_i v0 s0 els hg
  split at h
  case isFalse=>cases h
  rename_i hs
  obtain⟨rfl,rfl⟩:=hs
  split at h
  case h_2=>cases h
  rename_i p q hb
  cases h
  rw[zD]at hg
  have aM:∀ad m,len≤m→a.eval y=.slice ad len m→RepA w F L (.sl id v0 (off+p) (q-p)) (.slice (if m=p then ad else ad.map (·.add (p*s0))) (q-p) (m-p))→zB P o a w F L b l (.sl id v0 (off+p) (q-p)) b l:=by
   intro ad m hm hv hx
   obtain⟨k1,_,_⟩:=pF (P:=P) hb hm true g1 g2 g3 g4
   refine zB.pure s (v:=_) ?_ hx
   simp[execOp,ho,hv,zH ht hz k1]
  generalize hv:a.eval y=v at hr
  cases hr with
  |sl _ _ _ _ b1 o1 z1 c1 hL h1 h2 =>
    obtain⟨lc,k1,k2⟩:=s.row _ _ _ _ hg
    rw[hL]at k1;cases k1
    obtain⟨rfl,_⟩:=k2
    refine aM _ _ oM hv ?_
    obtain⟨_,k2,k3⟩:=pF (P:=P) hb (show len≤c1-off by omega) true g1 g2 g3 g4
    by_cases hp:c1-off=p
    ·rw[if_pos hp,hp,Nat.sub_self]
     have:q-p=0:=by omega
     rw[this]
     exact .slz id v0 (off+p) b1 o1 z1 c1 _ hL oM
    ·rw[if_neg hp]
     have:=RepA.sl (w:=w) (F:=F) id v0 (off+p) (q-p) b1 o1 z1 c1 hL oM h2
     rw[Nat.add_mul]at this
     simpa [Addr.add_lit,Nat.add_assoc,Nat.sub_sub] using this
  |slz _ _ _ b1 o1 z1 cap1 x1 hL xS =>
    refine aM _ _ (Nat.le_refl _) hv ?_
    obtain⟨_,k2,k3⟩:=pF (P:=P) hb (Nat.le_refl _) true g1 g2 g3 g4
    have hq:q=0:=by omega
    subst hq
    have hp:p=0:=by omega
    subst hp
    simp
    exact .slz id v0 _ b1 o1 z1 _ _ hL xS
  |sln _ _ ad hL =>
    refine aM _ _ (Nat.le_refl _) hv ?_
    obtain⟨_,k2,k3⟩:=pF (P:=P) hb (Nat.le_refl _) true g1 g2 g3 g4
    have hq:q=0:=by omega
    subst hq
    have hp:p=0:=by omega
    subst hp
    simp
    exact .sln id v0 _ hL
 ·cases h

theorem JT {y:Option Operand} (h:YP y=true):∃k,y=some (.const (.int k 0)):=by
 unfold YP at h
 split at h
 ·exact⟨_,rfl⟩
 ·cases h

theorem O5 (s:Sim F L (b++l) w) (he:YC w F L e a) {t el:TypeId} {sz:Nat} (ht:P.underlying t=some (.slice el)) (hz:iD P el=some sz)
  {y:Operand} {y':Opd} {hi mx:Option Operand} (ho:o.op=.slice t y none hi mx) (hhi:YP hi=true) (hmx:YP mx=true) (hy:TA y=some y')
  (h:aop e b l (.slice0 y')=.val x b' l'):zB P o a w F L b l x b' l':=by
 have hr:=IA he hy
 obtain⟨k,rfl⟩:=JT hhi
 obtain⟨k',rfl⟩:=JT hmx
 simp only[aop]at h
 generalize ev e y'=q at *
 have aM:∀ad n m,a.eval y=.slice ad n m→zB P o a w F L b l (.v .zsl) b l:=by
  intro ad n m hv
  have:(execOp a.eval o).run P w=.ok (.value (.slice ad 0 0)) w:=by
   have c1:a.eval (.const (.int k 0))=.int k 0:=rfl
   have c2:a.eval (.const (.int k' 0))=.int k' 0:=rfl
   have hb:(Instr.sliceBounds true n m none (some (.int k 0)) (some (.int k' 0))).run P w=.ok (0,0,0) w:=by simp[Instr.sliceBounds,Instr.sliceBound,asIntOf]
   simp[execOp,ho,hv,c1,c2,Instr.sliceAt,run_underlying ht,Instr.slice,hb,FA hz]
  exact zB.pure s this (.v _ _ (.zsl ad))
 split at h<;>cases h
 ·generalize hv:a.eval y=v at hr
  cases hr.vI
  exact aM _ _ _ hv
 ·generalize hv:a.eval y=v at hr
  cases hr.vI
  ·exact aM _ _ _ hv
  ·exact aM _ _ _ hv
 ·generalize hv:a.eval y=v at hr
  cases hr
  ·exact aM _ _ _ hv
  ·exact aM _ _ _ hv
  ·exact aM _ _ _ hv

theorem A5 (s:Sim F L (b++l) w) (he:YC w F L e a) {t:TypeId} (ht:P.underlying t=some .string)
  {y:Operand} {y':Opd} {lo hi:Option Operand} {lo' hi':Option Opd} (ho:o.op=.slice t y lo hi none) (hy:TA y=some y') (hlo:TK lo=some lo') (hhi:TK hi=some hi')
  (h:aop e b l (.sliceS y' lo' hi')=.val x b' l'):zB P o a w F L b l x b' l':=by
 have hr:=IA he hy
 obtain⟨g1,g2⟩:=SP he hlo
 obtain⟨g3,g4⟩:=SP he hhi
 simp only[aop]at h
 generalize ev e y'=q at *
 split at h
 case h_2=>cases h
 rename_i str
 split at h
 case h_2=>cases h
 rename_i p q hb
 cases h
 have hv:=DO hr
 obtain⟨k1,_,_⟩:=pF (P:=P) hb (Nat.le_refl _) false g1 g2 g3 g4
 refine zB.pure s (v:=.string (str.extract p q)) ?_ (toS _)
 simp[execOp,ho,hv,Instr.sliceAt,run_underlying ht,Instr.slice,k1]
end

section
variable {P:Program} {w:World} {F:Nat→Prop} {L:LMap} {o:Oper} {a:Act} {e:List AV} {b l b' l':List Row} {x:AV}

theorem IU (s:Sim F L (b++l) w) {w':World} {sz cap:Nat} {els:List (List AV)} {g:Nat→AV} {cur:Array Value} {T:TypeId} {v:Value}
  (vD:Ends P o a w v w') (ZB8:w'.heap=w.heap.push (.cells cur T (0,0))) (hos:w'.os=w.os) (htp:w'.tape=w.tape) (MG:w'.output=w.output)
  (hl:els.length≤cap) (mL:cap≤maxLen) (IH:cap*sz≤cur.size)
  (sM:∀(k:Nat) (row:List AV),els[k]? = some row→row.length=sz)
  (SF:∀(k:Nat) (row:List AV) (j:Nat) (c:AV),els[k]? = some row→row[j]? = some c→c.cell=true∧∃u,cur[k*sz+j]? = some u∧RepA w F L c u)
  (hg:∀(L':LMap),L' (b.length+l.length) 0=some (.pl w.heap.size 0 sz cap)→RepA w' F L' (g (b.length+l.length)) v)
  (h:mk b l sz els g=.val x b' l'):zB P o a w F L b l x b' l':=by
 unfold mk at h
 cases h
 have FC:(b++l).length=b.length+l.length:=by simp
 obtain⟨L',r1,r2,r3,r4⟩:=s.putRow (h':=b++(l++[.live 0 sz els])) (w':=w') (b.length+l.length) 0 sz w.heap.size 0 cap els hos htp MG (by rw[ZB8];simp)
  (fun k hk _=>by rw[ZB8,Array.getElem?_push,if_neg oM]) (.inl (Nat.le_refl _))
  (by rw[←List.append_assoc,List.getElem?_append_right oM];simp)
  (fun j hj=>by
   rw[←List.append_assoc]
   by_cases FF:j<(b++l).length
   ·rw[List.getElem?_append_left FF]
   ·rw[List.getElem?_eq_none (by simp;omega),List.getElem?_eq_none oM])
  (fun r hr=>by rw[List.getElem?_eq_none oM]at hr;cases hr)
  (.inl (by
   cases hq:L (b.length+l.length) 0 with
   |none=>rfl
   |some q=>exact absurd (s.lt hq) oM))
  hl mL cur T (by rw[ZB8];simp) (by simpa using IH) sM (fun k row j c hk hj=>by simpa using SF k row j c hk hj)
 exact⟨v,w',L',vD,hg L' r3,r1,r2,rfl⟩

theorem ZAG (s:Sim F L (b++l) w) {t:TypeId} {zs:List AV} (ho:o.op=.alloc t) (hz:kF P t=some zs)
  (h:aop e b l (.alloc zs)=.val x b' l'):zB P o a w F L b l x b' l':=by
 simp only[aop]at h
 unfold kF at hz
 split at hz
 case h_2=>cases hz
 rename_i i hi
 split at hz
 case h_2=>cases hz
 rename_i z kU
 obtain⟨c1,c2⟩:=EE (w:=w) (F:=F) (L:=L) hz
 have G2:zs.length=z.cells.size:=by simpa using c1.1
 refine IU s (w':=w.alloc (.cells z.cells t)) (cur:=z.cells) (T:=t) (cap:=1) (v:=.pointer (some ⟨w.heap.size,0,none⟩)) (.inl ?_) rfl rfl rfl rfl (by simp) (by decide) oM ?_ ?_ ?_ h
 ·simp[execOp,ho,Instr.alloc,zeroValue,typeInfo,hi,kU,newVar,newRow]
 ·intro k row hk
  cases k with
  |zero=>simp at hk;subst hk;rfl
  |succ k=>simp at hk
 ·intro k row j c hk hj
  cases k with
  |zero =>
    simp at hk;subst hk
    obtain⟨u,hu,hr⟩:=c1.get hj
    exact⟨List.all_eq_true.1 c2 _ (List.mem_of_getElem? hj),u,by simpa using hu,hr⟩
  |succ k=>simp at hk
 ·intro L' hL'
  have:=RepA.ptr (w:=w.alloc (.cells z.cells t)) (F:=F) (b.length+l.length) 0 0 0 _ _ _ _ hL'
  simpa using this

theorem ZEx (s:Sim F L (b++l) w) (he:YC w F L e a) {t:TypeId} {y:Operand} {z:Opd} (ho:o.op=.box t y) (hy:TA y=some z)
  (h:aop e b l (.box z)=.val x b' l'):zB P o a w F L b l x b' l':=by
 have hr:=IA he hy
 simp only[aop]at h
 generalize ev e z=q at *
 split at h
 case h_2=>cases h
 rename_i cs HX
 split at h
 case isFalse=>cases h
 rename_i RF
 obtain⟨c1,c2⟩:=SK hr HX RF
 have G2:cs.length=(a.eval y).cells.size:=by simpa using c1.1
 refine IU s (w':=w.alloc (.cells (a.eval y).cells t)) (cur:=(a.eval y).cells) (T:=t) (cap:=1) (v:=.pointer (some ⟨w.heap.size,0,none⟩)) (.inl ?_) rfl rfl rfl rfl (by simp) (by decide) oM ?_ ?_ ?_ h
 ·simp[execOp,ho,Instr.box,newVar,newRow]
 ·intro k row hk
  cases k with
  |zero=>simp at hk;subst hk;rfl
  |succ k=>simp at hk
 ·intro k row j c hk hj
  cases k with
  |zero =>
    simp at hk;subst hk
    obtain⟨u,hu,hr⟩:=c1.get hj
    exact⟨List.all_eq_true.1 RF _ (List.mem_of_getElem? hj),u,by simpa using hu,hr⟩
  |succ k=>simp at hk
 ·intro L' hL'
  have:=RepA.ptr (w:=w.alloc (.cells (a.eval y).cells t)) (F:=F) (b.length+l.length) 0 0 0 _ _ _ _ hL'
  simpa using this

theorem UM (vs:List Value):∀(cs:Array Value) (off n:Nat) (i:Nat),off+n+vs.length≤cs.size →
  ((vs.zipIdx n).foldl (fun cs (p:Value×Nat)=>cs.setIfInBounds (off+p.2) p.1) cs).size=cs.size ∧
  ((vs.zipIdx n).foldl (fun cs (p:Value×Nat)=>cs.setIfInBounds (off+p.2) p.1) cs)[i]? = if off+n≤i∧i<off+n+vs.length then vs[i-(off+n)]? else cs[i]?:=by
 induction vs with
 |nil=>intro cs off n i _;simp;intro h1 h2;omega
 |cons v vs ih =>
   intro cs off n i h
   simp only[List.length_cons]at h
   simp only[List.zipIdx_cons,List.foldl_cons]
   obtain⟨h1,h2⟩:=ih (cs.setIfInBounds (off+n) v) off (n+1) i (by simp;omega)
   refine⟨by rw[h1];simp,?_⟩
   rw[h2]
   by_cases hi:i=off+n
   ·subst hi
    rw[if_neg oM,if_pos (by simp),Array.getElem?_setIfInBounds_self_of_lt oM]
    simp
   ·by_cases hj:off+(n+1)≤i∧i<off+(n+1)+vs.length
    ·rw[if_pos hj,if_pos (by simp;omega),show i-(off+n)=(i-(off+(n+1)))+1 by omega]
     simp
    ·rw[if_neg hj,if_neg (by simp;omega),Array.getElem?_setIfInBounds_ne oM]

theorem vH (vs cs:Array Value) (off:Nat):vs.zipIdx.foldl (fun cs (p:Value×Nat)=>cs.setIfInBounds (off+p.2) p.1) cs=(vs.toList.zipIdx 0).foldl (fun cs (p:Value×Nat)=>cs.setIfInBounds (off+p.2) p.1) cs:=by
 rw[←Array.foldl_toList];simp

theorem ZAR {row ds:List AV} {cs vs:Array Value} (h:MA w F L row cs.toList) (k:MA w F L ds vs.toList) {off:Nat} (rK:off+ds.length≤row.length) :
  MA w F L (YA row off ds) (vs.zipIdx.foldl (fun cs (p:Value×Nat)=>cs.setIfInBounds (off+p.2) p.1) cs).toList:=by
 have hl:cs.size=row.length:=by simpa using h.1.symm
 have hk:vs.toList.length=ds.length:=k.1.symm
 rw[vH]
 have key:=fun i=>UM vs.toList cs off 0 i oM
 refine⟨?_,fun i c u hc hu=>?_⟩
 ·rw[gO,Array.length_toList]
  exact (hl.symm.trans (key 0).1.symm)
 ·rw[xO ds row off i rK]at hc
  rw[Array.getElem?_toList,(key i).2]at hu
  simp only[Nat.add_zero,hk]at hu
  split at hc
  ·rename_i ME
   rw[if_pos ME]at hu
   exact k.2 _ c u hc hu
  ·rename_i ME
   rw[if_neg ME]at hu
   exact h.2 i c u hc (by simpa using hu)

theorem lU (he:YC w F L e a) {place:Nat→Option (Nat×Nat)}:∀{ps:List (Nat×Operand)} {qs:List (Nat×Nat×Opd)} {row:List AV} {cs:Array Value} {out:List AV},
  (∀(i:Nat) (p:Nat×Operand),ps[i]? = some p→∃(off n:Nat) (z:Opd),qs[i]? = some (off,n,z)∧place p.1=some (off,n)∧TA p.2=some z)→qs.length=ps.length →
  MA w F L row cs.toList→aD e row qs=some out→∃vs,Instr.fill place cs (ps.map fun p=>(p.1,a.eval p.2))=some vs∧MA w F L out vs.toList
 |[],qs,row,cs,out,_,hl,hr,hf=>by
   have:qs=[]:=List.eq_nil_of_length_eq_zero (by simpa using hl)
   subst this
   simp[aD]at hf
   subst hf
   exact⟨cs,rfl,hr⟩
 |p::ps,[],row,cs,out,_,hl,hr,hf=>by simp at hl
 |p::ps,q::qs,row,cs,out,hp,hl,hr,hf=>by
   obtain⟨off,n,z,e1,e2,e3⟩:=hp 0 p rfl
   simp at e1
   subst e1
   unfold aD at hf
   split at hf
   case h_2=>cases hf
   rename_i ds zP
   split at hf
   case isFalse=>cases hf
   rename_i hb
   have hz:=IA he e3
   have SF:MA w F L ds (a.eval p.2).cells.toList:=by
    generalize ev e z=q at *
    cases q with
    |any=>cases zP
    |tup cs=>cases zP
    |agg ds =>
      cases zP
      obtain⟨vs,hv,hl⟩:=hz.aggL
      rw[hv];exact hl
    |_=>cases zP;rw[jT (hz.one rfl)];simpa using MA.cons hz MA.nil
   have sM:(a.eval p.2).cells.size=n:=by have:=SF.1;simp at this;omega
   have ZIC:=ZAR hr SF (off:=off) oM
   obtain⟨vs,h1,h2⟩:=lU he (place:=place) (ps:=ps) (qs:=qs) (fun i p' hi=>hp (i+1) p' (by simpa using hi)) (by simpa using hl) ZIC hf
   refine⟨vs,?_,h2⟩
   simp only[List.map_cons,Instr.fill,e2,sM]
   have pS:row.length=cs.size:=by simpa using hr.1
   rw[if_neg (by simp;omega)]
   exact h1

theorem aO {fs:Array Field}:∀{ps:List (Nat×Operand)} {qs:List (Nat×Nat×Opd)},VP P fs ps=some qs→qs.length=ps.length ∧
  ∀(i:Nat) (p:Nat×Operand),ps[i]? = some p→∃(off n:Nat) (z:Opd) (f:Field),qs[i]? = some (off,n,z)∧fs[p.1]? = some f∧f.offset=off∧iD P f.type=some n∧TA p.2=some z
 |[],qs,h=>by simp[VP]at h;subst h;simp
 |(i,y)::ps,qs,h=>by
   unfold VP at h
   split at h
   case h_2=>cases h
   rename_i f z ys h1 h2 h3
   split at h
   case h_2=>cases h
   rename_i n h4
   cases h
   obtain⟨h5,h6⟩:=aO h3
   refine⟨by simp[h5],fun j p hj=>?_⟩
   cases j with
   |zero=>simp at hj;subst hj;exact⟨_,_,_,f,rfl,h1,rfl,h4,h2⟩
   |succ j=>simp at hj;simpa using h6 j p hj

theorem MM {n:Nat}:∀{ps:List (Nat×Operand)} {qs:List (Nat×Nat×Opd)},CL n ps=some qs→qs.length=ps.length ∧
  ∀(i:Nat) (p:Nat×Operand),ps[i]? = some p→∃(z:Opd),qs[i]? = some (p.1*n,n,z)∧TA p.2=some z
 |[],qs,h=>by simp[CL]at h;subst h;simp
 |(i,y)::ps,qs,h=>by
   unfold CL at h
   split at h
   case h_2=>cases h
   rename_i z ys h1 h2
   cases h
   obtain⟨h5,h6⟩:=MM h2
   refine⟨by simp[h5],fun j p hj=>?_⟩
   cases j with
   |zero=>simp at hj;subst hj;exact⟨_,rfl,h1⟩
   |succ j=>simp at hj;simpa using h6 j p hj

theorem YM {α β:Type} (f:α→Sem β) (g:α→β):∀(xs:List α),(∀x∈xs,(f x).run P w=.ok (g x) w)→(xs.mapM f).run P w=.ok (xs.map g) w
 |[],_=>by simp
 |x::xs,h=>by
   have ih:=YM f g xs (fun y hy=>h y (by simp[hy]))
   rw[List.mapM_cons]
   simp[h x (by simp),ih]
end

section
variable {P:Program} {w:World} {F:Nat→Prop} {L:LMap} {o:Oper} {a:Act} {e:List AV} {b l b' l':List Row} {x:AV}

theorem AD {t:TypeId} {zs:List AV} (hz:kF P t=some zs):∃i z,P.info? t=some i∧i.zero=some z∧cvL z.cells.toList=some zs:=by
 unfold kF at hz
 split at hz
 case h_2=>cases hz
 rename_i i hi
 split at hz
 case h_2=>cases hz
 rename_i z kU
 exact⟨i,z,hi,kU,hz⟩

theorem SG {t:TypeId} {i:TypeInfo} {z:Value} (hi:P.info? t=some i) (hz:i.zero=some z):(zeroValue t).run P w=.ok z w:=by
 simp[zeroValue,typeInfo,hi,hz]

theorem mY (fs:Array Field) (h:fs.toList.all (fun f=>(iD P f.type).isSome)=true) :
  (fs.mapM fun f=>(do pure (f.offset,←sizeOf f.type):Sem (Nat×Nat))).run P w=.ok (fs.map fun f=>(f.offset,(iD P f.type).getD 0)) w:=by
 rw[Array.mapM_eq_mapM_toList]
 have:=YM (P:=P) (w:=w) (fun f:Field=>(do pure (f.offset,←sizeOf f.type):Sem (Nat×Nat))) (fun f=>(f.offset,(iD P f.type).getD 0)) fs.toList (fun f hf=>by
  have h1:=List.all_eq_true.1 h f hf
  cases hn:iD P f.type with
  |none=>simp[hn]at h1
  |some n=>simp[FA hn])
 simp only[map_eq_pure_bind,Sem.run_bind,this,Result.andThen_ok,Sem.run_pure]
 congr 1
 apply Array.ext'
 simp

theorem ZAF (s:Sim F L (b++l) w) (he:YC w F L e a) {t:TypeId} {fs:Array Field} {zs:List AV} {parts:Array (Nat×Operand)} {qs:List (Nat×Nat×Opd)} (ht:P.underlying t=some (.struct fs)) (hz:kF P t=some zs)
  (RF:fs.toList.all (fun f=>(iD P f.type).isSome)=true) (hq:VP P fs parts.toList=some qs) (ho:o.op=.build t parts)
  (h:aop e b l (.build zs qs)=.val x b' l'):zB P o a w F L b l x b' l':=by
 obtain⟨i,z,hi,kU,IX⟩:=AD hz
 obtain⟨c1,c2⟩:=EE (w:=w) (F:=F) (L:=L) IX
 obtain⟨q1,q2⟩:=aO hq
 simp only[aop]at h
 split at h
 case h_2=>cases h
 rename_i cs HX
 cases h
 obtain⟨vs,h1,h2⟩:=lU he (place:=fun j=>(fs.map fun f=>(f.offset,(iD P f.type).getD 0))[j]?) (ps:=parts.toList) (qs:=qs) (fun j p hj=>by
  obtain⟨off,n,y,f,e1,e2,e3,e4,e5⟩:=q2 j p hj
  exact⟨off,n,y,e1,by simp[e2,e3,e4],e5⟩) q1 c1 HX
 refine zB.pure s (v:=.agg vs) ?_ h2.agg
 have hm:(parts.map fun (j,y)=>(j,a.eval y)).toList=parts.toList.map fun p=>(p.1,a.eval p.2):=by simp
 simp only[execOp,ho,Instr.build,Sem.run_bind,SG hi kU,Result.andThen_ok,run_underlying ht,mY fs RF,hm,h1,Sem.run_pure]

theorem V6 (s:Sim F L (b++l) w) (he:YC w F L e a) {t el:TypeId} {m n:Nat} {zs:List AV} {parts:Array (Nat×Operand)} {qs:List (Nat×Nat×Opd)} (ht:P.underlying t=some (.array m el)) (hn:iD P el=some n) (hz:kF P t=some zs)
  (hq:CL n parts.toList=some qs) (ho:o.op=.build t parts)
  (h:aop e b l (.build zs qs)=.val x b' l'):zB P o a w F L b l x b' l':=by
 obtain⟨i,z,hi,kU,IX⟩:=AD hz
 obtain⟨c1,c2⟩:=EE (w:=w) (F:=F) (L:=L) IX
 obtain⟨q1,q2⟩:=MM hq
 simp only[aop]at h
 split at h
 case h_2=>cases h
 rename_i cs HX
 cases h
 obtain⟨vs,h1,h2⟩:=lU he (place:=fun j=>some (j*n,n)) (ps:=parts.toList) (qs:=qs) (fun j p hj=>by
  obtain⟨y,e1,e2⟩:=q2 j p hj
  exact⟨_,_,y,e1,rfl,e2⟩) q1 c1 HX
 refine zB.pure s (v:=.agg vs) ?_ h2.agg
 have hm:(parts.map fun (j,y)=>(j,a.eval y)).toList=parts.toList.map fun p=>(p.1,a.eval p.2):=by simp
 simp only[execOp,ho,Instr.build,Sem.run_bind,SG hi kU,Result.andThen_ok,run_underlying ht,FA hn,hm,h1,Sem.run_pure]

theorem RJ:∀{ps:List (Nat×Operand)} {qs:List (Nat×Opd)},AI ps=some qs→qs.length=ps.length ∧
  ∀(i:Nat) (p:Nat×Operand),ps[i]? = some p→∃(z:Opd),qs[i]? = some (p.1,z)∧TA p.2=some z
 |[],qs,h=>by simp[AI]at h;subst h;simp
 |(i,y)::ps,qs,h=>by
   unfold AI at h
   split at h
   case h_2=>cases h
   rename_i z ys h1 h2
   cases h
   obtain⟨h5,h6⟩:=RJ h2
   refine⟨by simp[h5],fun j p hj=>?_⟩
   cases j with
   |zero=>simp at hj;subst hj;exact⟨_,rfl,h1⟩
   |succ j=>simp at hj;simpa using h6 j p hj

def QM (w:World) (F:Nat→Prop) (L:LMap) (sz:Nat) (els:List (List AV)) (cur:Array Value):Prop:=
 (∀(k:Nat) (row:List AV),els[k]? = some row→row.length=sz) ∧
 ∀(k:Nat) (row:List AV) (j:Nat) (c:AV),els[k]? = some row→row[j]? = some c→c.cell=true∧∃u,cur[k*sz+j]? = some u∧RepA w F L c u

theorem XR (he:YC w F L e a) {sz:Nat}:∀{ps:List (Nat×Operand)} {qs:List (Nat×Opd)} {els out:List (List AV)} {cur:Array Value},
  (∀(i:Nat) (p:Nat×Operand),ps[i]? = some p→∃(z:Opd),qs[i]? = some (p.1,z)∧TA p.2=some z)→qs.length=ps.length →
  cur.size=els.length*sz→QM w F L sz els cur→lD e sz els qs=some out →
  ∃vs,Instr.fill (fun i=>some (i*sz,sz)) cur (ps.map fun p=>(p.1,a.eval p.2))=some vs∧vs.size=cur.size∧out.length=els.length∧QM w F L sz out vs
 |[],qs,els,out,cur,_,hl,hs,hr,hf=>by
   have:qs=[]:=List.eq_nil_of_length_eq_zero (by simpa using hl)
   subst this
   simp[lD]at hf
   subst hf
   exact⟨cur,rfl,rfl,rfl,hr⟩
 |p::ps,[],els,out,cur,_,hl,hs,hr,hf=>by simp at hl
 |p::ps,q::qs,els,out,cur,hp,hl,hs,hr,hf=>by
   obtain⟨z,e1,e3⟩:=hp 0 p rfl
   simp at e1
   subst e1
   unfold lD at hf
   split at hf
   case h_2=>cases hf
   rename_i ds zP
   split at hf
   case isFalse=>cases hf
   rename_i hb
   obtain⟨YJ,sR,hb3⟩:=hb
   obtain⟨d1,d2⟩:=SK (IA he e3) zP hb3
   have sM:(a.eval p.2).cells.size=sz:=by have:=d1.1;simp at this;omega
   have ZID:(a.eval p.2).cells.toList.length=sz:=by simpa using sM
   have IH:p.1*sz+sz≤cur.size:=by
    rw[hs];have:=bG (sz:=sz) (j:=0) (n:=sz) sR oM;omega
   have key:=fun i=>UM (a.eval p.2).cells.toList cur (p.1*sz) 0 i oM
   have KG:QM w F L sz (els.set p.1 ds) ((a.eval p.2).cells.zipIdx.foldl (fun cs (q:Value×Nat)=>cs.setIfInBounds (p.1*sz+q.2) q.1) cur):=by
    rw[vH]
    refine⟨fun k row hk=>?_,fun k row j c hk hj=>?_⟩
    ·by_cases DN:p.1=k
     ·subst DN
      rw[List.getElem?_set_self sR]at hk;cases hk;exact YJ
     ·rw[List.getElem?_set_ne DN]at hk;exact hr.1 k row hk
    ·rw[(key _).2]
     simp only[Nat.add_zero,ZID]
     by_cases DN:p.1=k
     ·subst DN
      rw[List.getElem?_set_self sR]at hk;cases hk
      have FF:j<sz:=by have:=(List.getElem?_eq_some_iff.1 hj).1;omega
      rw[if_pos oM,Nat.add_sub_cancel_left]
      obtain⟨u,hu,hru⟩:=d1.get hj
      exact⟨List.all_eq_true.1 hb3 _ (List.mem_of_getElem? hj),u,hu,hru⟩
     ·rw[List.getElem?_set_ne DN]at hk
      have FF:j<sz:=by rw[←hr.1 k row hk];exact (List.getElem?_eq_some_iff.1 hj).1
      rw[if_neg (by have:=P4 (sz:=sz) (j:=0) (n:=sz) DN FF oM;omega)]
      exact hr.2 k row j c hk hj
   have ZHB:((a.eval p.2).cells.zipIdx.foldl (fun cs (q:Value×Nat)=>cs.setIfInBounds (p.1*sz+q.2) q.1) cur).size=cur.size:=by rw[vH];exact (key 0).1
   obtain⟨vs,h1,h2,h3,h4⟩:=XR he (ps:=ps) (qs:=qs) (fun i p' hi=>hp (i+1) p' (by simpa using hi)) (by simpa using hl) (by rw[ZHB];simpa using hs) KG hf
   refine⟨vs,?_,by rw[h2,ZHB],by simpa using h3,h4⟩
   simp only[List.map_cons,Instr.fill,sM]
   rw[if_neg (by simp;omega)]
   exact h1

theorem ZN {sz n:Nat} {z:Value} {zs:List AV} (c1:MA w F L zs z.cells.toList) (c2:zs.all AV.cell=true) (hl:zs.length=sz) (m:Nat) (hm:n*sz≤m) :
  QM w F L sz (List.replicate n zs) (madeCells z.cells m):=by
 have hzs:z.cells.size=sz:=by have:=c1.1;simp at this;omega
 refine⟨fun k row hk=>?_,fun k row j c hk hj=>?_⟩
 ·rw[List.getElem?_replicate]at hk
  split at hk
  ·cases hk;exact hl
  ·cases hk
 ·rw[List.getElem?_replicate]at hk
  split at hk
  ·rename_i Z9
   cases hk
   have FF:j<sz:=by have:=(List.getElem?_eq_some_iff.1 hj).1;omega
   obtain⟨u,hu,hru⟩:=c1.get hj
   refine⟨List.all_eq_true.1 c2 _ (List.mem_of_getElem? hj),u,?_,hru⟩
   have LA:k*sz+j<m:=by have:=bG (sz:=sz) (j:=j) (n:=1) Z9 oM;omega
   have ZIE:(k*sz+j) % sz=j:=by rw[Nat.mul_comm,Nat.mul_add_mod,Nat.mod_eq_of_lt FF]
   have hu':z.cells[j]? = some u:=by simpa using hu
   have hj2:j<z.cells.size:=by omega
   simp only[madeCells,Array.getElem?_map,Array.getElem?_range,LA,if_true,Option.map_some,hzs,ZIE]
   rw[getElem!_pos z.cells j hj2]
   rw[Array.getElem?_eq_getElem hj2]at hu'
   exact hu'
  ·cases hk

theorem U6 (s:Sim F L (b++l) w) (he:YC w F L e a) {t el:TypeId} {n len:Nat} {zs:List AV} {parts:Array (Nat×Operand)} {qs:List (Nat×Opd)} (ht:P.underlying t=some (.slice el)) (hn:iD P el=some n) (hz:kF P el=some zs)
  (h0:0<n) (rK:len*n≤16777216) (G2:zs.length=n) (hq:AI parts.toList=some qs) (ho:o.op=.buildSlice t len parts)
  (h:aop e b l (.bslice n zs len qs)=.val x b' l'):zB P o a w F L b l x b' l':=by
 obtain⟨i,z,hi,kU,IX⟩:=AD hz
 obtain⟨c1,c2⟩:=EE (w:=w) (F:=F) (L:=L) IX
 obtain⟨q1,q2⟩:=RJ hq
 simp only[aop]at h
 split at h
 case h_2=>cases h
 rename_i els lT
 obtain⟨vs,h1,h2,h3,h4⟩:=XR he (ps:=parts.toList) (qs:=qs) q2 q1 (cur:=madeCells z.cells (len*n)) (by simp[size_madeCells]) (ZN c1 c2 G2 _ (Nat.le_refl _)) lT
 have FC:els.length=len:=by simpa using h3
 have hm:(parts.map fun (j,y)=>(j,a.eval y)).toList=parts.toList.map fun p=>(p.1,a.eval p.2):=by simp
 have hlm:len≤16777216:=by
  rcases Nat.eq_zero_or_pos len with h|h
  ·omega
  ·have:=Nat.le_mul_of_pos_right len h0;omega
 refine IU s (w':=w.alloc (.cells vs el)) (cur:=vs) (T:=el) (cap:=len) (v:=.slice (some ⟨w.heap.size,0,none⟩) len len) (.inl ?_) rfl rfl rfl rfl oM (by unfold maxLen;omega) (by rw[h2,size_madeCells];exact Nat.le_refl _) h4.1 h4.2 ?_ h
 ·have LA:¬(len*n>2 ^ 24):=by omega
  by_cases h00:len*n=0
  ·have hmc:madeCells z.cells (len*n)=#[]:=by rw[h00];simp[madeCells,Array.range_zero']
   rw[hmc]at h1
   have hmd:(Array.range (len*n)).map (((#[]:Array Value)[· % (#[]:Array Value).size]!))=#[]:=by rw[h00];simp[Array.range_zero']
   have hlt':¬(len*n>16777216):=by omega
   simp only[execOp,ho,Instr.buildSlice,Sem.run_bind,run_underlying ht,Result.andThen_ok,FA hn,Sem.run_ite,h00,if_true,Sem.run_pure,hm]
   rw[h00]at hmd
   simp only[hmd,h1,newRow,Sem.run_bind]
   simp
  ·simp only[execOp,ho,Instr.buildSlice,Sem.run_bind,run_underlying ht,Result.andThen_ok,FA hn,Sem.run_ite,LA,if_false,h00,Sem.run_pure,hm,SG hi kU]
   have h1':=h1
   unfold madeCells at h1'
   simp only[h1',newRow,Sem.run_bind]
   simp
 ·intro L' hL'
  have:=RepA.sl (w:=w.alloc (.cells vs el)) (F:=F) (b.length+l.length) 0 0 len _ _ _ _ hL' oM (by unfold maxLen;omega)
  simpa using this

theorem DY (s:Sim F L (b++l) w) (he:YC w F L e a) {t el:TypeId} {sz bytes:Nat} {zs:List AV} (ht:P.underlying t=some (.slice el)) (hn:iD P el=some sz) (EM:lN P el=some bytes) (hz:kF P el=some zs) (G2:zs.length=sz)
  {y z:Operand} {y' z':Opd} (ho:o.op=.makeSlice t y z) (hy:TA y=some y') (hzz':TA z=some z')
  (h:aop e b l (.mkslice sz zs bytes y' z')=.val x b' l'):zB P o a w F L b l x b' l':=by
 obtain⟨i,zv,hi,kU,IX⟩:=AD hz
 obtain⟨c1,c2⟩:=EE (w:=w) (F:=F) (L:=L) IX
 have h1:=IA he hy
 have h2:=IA he hzz'
 simp only[aop]at h
 generalize ev e y'=q at *
 generalize ev e z'=r at *
 split at h
 case h_2=>cases h
 rename_i k n k' c
 split at h
 case isFalse=>cases h
 rename_i hb
 obtain⟨YJ,sR,hb3,hb4⟩:=hb
 have e1:=tH h1
 have e2:=tH h2
 have sM:i.size=sz:=by simp[iD,hi]at hn;exact hn
 have hbz:i.bytes=bytes:=by simp[lN,hi]at EM;exact EM
 have mL:c.toNat≤maxLen:=by unfold maxLen;unfold room at hb4;omega
 have hbb:(i.bytes:Int)*c≤281474976710656:=by
  unfold room at hb3
  have h0:c=(c.toNat:Int):=by omega
  rw[h0,hbz]
  have:((bytes*c.toNat:Nat):Int)≤281474976710656:=by rw[Nat.mul_comm];omega
  rwa [Int.natCast_mul]at this
 have vD:=run_make (P:=P) w t el i zv ht hi kU k k' n c YJ sR hbb (by unfold room at hb4;omega)
 have IH:n.toNat*sz≤c.toNat*sz:=Nat.mul_le_mul_right _ oM
 rw[sM]at vD
 have RU:=ZN (n:=n.toNat) c1 c2 G2 (c.toNat*sz) IH
 refine IU s (w':=w.alloc (.cells (madeCells zv.cells (c.toNat*sz)) el)) (cur:=madeCells zv.cells (c.toNat*sz)) (T:=el) (cap:=c.toNat) (v:=.slice (some ⟨w.heap.size,0,none⟩) n.toNat c.toNat) (.inl ?_) rfl rfl rfl rfl (by simp;omega) mL (by rw[size_madeCells];exact Nat.le_refl _) RU.1 RU.2 ?_ h
 ·simp[execOp,ho,e1,e2,vD]
 ·intro L' hL'
  have:=RepA.sl (w:=w.alloc (.cells (madeCells zv.cells (c.toNat*sz)) el)) (F:=F) (b.length+l.length) 0 0 n.toNat _ _ _ _ hL' oM mL
  simpa using this

theorem D1 {d:Nat} {t:TypeId} {k:FK} (hk:iI P t=some k) {x y:AV} {v u:Value} (hx:RepA w F L x v) (hy:RepA w F L y u) {r:Bool} (h:eqF k x y=some r) :
  (Op.equalIn (d+1) t v u).run P w=.ok r w:=by
 unfold iI at hk
 unfold eqF at h
 split at h
 ·split at h
  ·rename_i DN
   cases h
   subst DN
   rw[tH hx,tH hy]
   split at hk<;>cases hk
   rename_i hd
   exact run_equalIn_int w d t _ _ _ _ hd
  ·cases h
 ·cases h
  rw[OK hx,OK hy]
  split at hk<;>cases hk
  rename_i hd
  exact run_equalIn_bool w d t _ _ hd
 ·cases h
  rw[DO hx,DO hy]
  split at hk<;>cases hk
  rename_i hd
  rw[beq_toListBytes]
  exact run_equalIn_string w d t _ _ hd
 ·cases h

theorem sL {t:TypeId} {k:FK} (hk:iI P t=some k):c8 P t=some false:=by
 unfold iI at hk
 unfold c8
 split at hk<;>first|(cases hk;done)|skip
 all_goals (rename_i hd;rw[hd])

theorem R1 {d:Nat}:∀{n:Nat} {fs:List Field} {ks:List FK} {xs ys:List AV} {vs us:Array Value} {r:Bool},xK P n fs=some ks →
  MA w F L xs (vs.toList.drop n)→MA w F L ys (us.toList.drop n)→eqC ks xs ys=some r→(Op.eqFields (d+1) vs us fs).run P w=.ok r w
 |n,[],ks,xs,ys,vs,us,r,hp,hx,hy,he=>by
   simp[xK]at hp
   subst hp
   cases xs<;>cases ys<;>simp[eqC]at he
   subst he
   simp[Op.eqFields]
 |n,f::fs,ks,xs,ys,vs,us,r,hp,hx,hy,he=>by
   unfold xK at hp
   split at hp
   case isFalse=>cases hp
   rename_i hb
   obtain⟨xS,rS⟩:=hb
   split at hp
   case h_2=>cases hp
   rename_i k ks' hk hks
   cases hp
   cases xs with
   |nil=>simp[eqC]at he
   |cons x xs0 =>
   cases ys with
   |nil=>simp[eqC]at he
   |cons y ys0 =>
   simp only[eqC]at he
   cases hq:eqF k x y with
   |none=>simp[hq,rF]at he
   |some r1 =>
     cases kR:eqC ks' xs0 ys0 with
     |none=>simp[hq,kR,rF]at he
     |some r2 =>
       simp[hq,kR,rF]at he
       obtain⟨v,hv,hrv⟩:=hx.get (j:=0) (a:=x) rfl
       obtain⟨u,hu,hru⟩:=hy.get (j:=0) (a:=y) rfl
       have hv':vs[n]? = some v:=by simpa using hv
       have hu':us[n]? = some u:=by simpa using hu
       have CX:=sL hk
       have hpv:(part f.type vs f.offset).run P w=.ok v w:=by simp[part,XF CX,xS,hv']
       have hpu:(part f.type us f.offset).run P w=.ok u w:=by simp[part,XF CX,xS,hu']
       have tail:∀{cs:List AV} {c:AV} {zs:Array Value},MA w F L (c::cs) (zs.toList.drop n)→MA w F L cs (zs.toList.drop (n+1)):=by
        intro cs c zs hz
        refine⟨by have:=hz.1;simp at this⊢;omega,fun i c' z' hc hz'=>?_⟩
        exact hz.2 (i+1) c' z' (by simpa using hc) (by
         rw[List.getElem?_drop]at hz'⊢
         rw[show n+(i+1)=n+1+i by omega];exact hz')
       have ZF5:=D1 (P:=P) (d:=d) hk hrv hru hq
       have ih:=R1 (d:=d) hks (tail hx) (tail hy) kR
       simp only[Op.eqFields,rS,ne_eq,not_false_eq_true,if_true,Sem.run_bind,hpv,hpu,Result.andThen_ok,ZF5,Sem.run_ite,ih,Sem.run_pure]
       subst he
       cases r1<;>simp

theorem ZEw (s:Sim F L (b++l) w) (he:YC w F L e a) {op:BinOp} {t u:TypeId} {fs:Array Field} {ks:List FK} (ht:P.underlying t=some (.struct fs)) (hks:xK P 0 fs.toList=some ks)
  (UH:P.stoodInHeld t=false) (hg:P.eqGuardType P.depth t=false) (hop:op=.eql∨op=.neq) {y z:Operand} {y' z':Opd} (ho:o.op=.binOp op t y z u) (hy:TA y=some y') (hz:TA z=some z')
  (h:aop e b l (.eqs (op==.neq) ks y' z')=.val x b' l'):zB P o a w F L b l x b' l':=by
 have h1:=IA he hy
 have h2:=IA he hz
 simp only[aop]at h
 generalize ev e y'=q at *
 generalize ev e z'=r at *
 split at h
 case h_2=>cases h
 rename_i xs ys
 split at h
 case h_2=>cases h
 rename_i r hr
 cases h
 obtain⟨vs,e1,l1⟩:=h1.aggL
 obtain⟨us,e2,l2⟩:=h2.aggL
 have hf:P.fieldsOf t=fs:=by simp[Program.fieldsOf,ht]
 have vD:=R1 (P:=P) (d:=9998) hks (vs:=vs) (us:=us) (by simpa using l1) (by simpa using l2) hr
 have xV:=run_equalIn_struct w 9999 t vs us (by rw[hf];exact ht) UH
 rw[hf,vD]at xV
 rcases hop with rfl|rfl
 ·refine zB.pure s (v:=.bool r) ?_ (wT _)
  simp[execOp,ho,e1,e2,run_eqGuard_agg w _ t _ _ _ _ hg,run_eql_struct,xV]
 ·refine zB.pure s (v:=.bool (!r)) ?_ (wT _)
  simp[execOp,ho,e1,e2,run_eqGuard_agg w _ t _ _ _ _ hg,run_neq_struct,xV]
end

section
variable {P:Program} {w:World} {F:Nat→Prop} {L:LMap} {o:Oper} {a:Act} {e:List AV} {b l b' l':List Row} {x:AV}

theorem CI {xs:List (List AV)} {sz blk p:Nat} (hz:0<sz) (h1:∀(k:Nat) (row:List AV),xs[k]? = some row→row.length=sz)
  (h2:∀(k:Nat) (row:List AV) (j:Nat) (c:AV),xs[k]? = some row→row[j]? = some c→c.cell=true∧∃u,w.cell? ⟨blk,p+k*sz+j,none⟩=some u∧RepA w F L c u) :
  ∃news:Array Value,news.size=xs.length*sz∧QM w F L sz xs news∧(∀u∈news.toList,u.oneCell'=true)∧∀j u,news[j]? = some u→w.cell? ⟨blk,p+j,none⟩=some u:=by
 have hq:∀q,q<xs.length*sz→∃c u,w.cell? ⟨blk,p+q,none⟩=some u∧RepA w F L c u∧c.cell=true:=by
  intro q hq
  have hk:q / sz<xs.length:=by rw[Nat.div_lt_iff_lt_mul hz];exact hq
  have yE:=List.getElem?_eq_getElem hk
  have FC:=h1 _ _ yE
  have hj:q % sz<xs[q / sz].length:=by rw[FC];exact Nat.mod_lt _ hz
  obtain⟨c1,u,hu,hr⟩:=h2 _ _ _ _ yE (List.getElem?_eq_getElem hj)
  have hqe:q / sz*sz+q % sz=q:=Nat.div_add_mod' q sz
  exact⟨_,u,by rw[←hqe,←Nat.add_assoc];exact hu,hr,c1⟩
 refine⟨(Array.range (xs.length*sz)).map fun q=>(w.cell? ⟨blk,p+q,none⟩).getD undef,by simp,⟨h1,fun k row j c hk hj=>?_⟩,fun u hu=>?_,fun j u hju=>?_⟩
 ·obtain⟨c1,u,hu,hr⟩:=h2 k row j c hk hj
  have qP:k<xs.length:=(List.getElem?_eq_some_iff.1 hk).1
  have FF:j<sz:=by rw[←h1 k row hk];exact (List.getElem?_eq_some_iff.1 hj).1
  have LA:k*sz+j<xs.length*sz:=by have:=bG (sz:=sz) (j:=j) (n:=1) qP oM;omega
  refine⟨c1,u,?_,hr⟩
  rw[Nat.add_assoc]at hu
  simp[LA,hu]
 ·simp at hu
  obtain⟨q,hql,rfl⟩:=hu
  obtain⟨c,u,h3,h4,h5⟩:=hq q hql
  rw[h3]
  exact h4.one h5
 ·simp at hju
  obtain⟨FF,rfl⟩:j<xs.length*sz∧(w.cell? ⟨blk,p+j,none⟩).getD undef=u:=by
   rw[Array.getElem?_range]at hju
   split at hju
   ·rename_i LA;exact⟨LA,by simpa using hju⟩
   ·simp at hju
  obtain⟨c,u,h3,h4,h5⟩:=hq j FF
  rw[h3];rfl

theorem RA {sz n:Nat} {blk p len cap:Nat} {news:Array Value} (h:∀j u,news[j]? = some u→w.cell? ⟨blk,p+j,none⟩=some u) (hn:n*sz≤news.size) {w2:World} (hw:w2.heap=w.heap) :
  (Builtin.firstCells sz n (.slice (some ⟨blk,p,none⟩) len cap)).run P w2=.ok (news.extract 0 (n*sz)) w2:=by
 have:=run_loadCells_list (P:=P) w2 ⟨blk,p,none⟩ (news.extract 0 (n*sz)).toList (fun j u hu=>by
  rw[Addr.add_lit]
  have hc:w2.cell? ⟨blk,p+j,none⟩=w.cell? ⟨blk,p+j,none⟩:=World.cell?_of_block (by rw[hw])
  rw[hc]
  refine h j u ?_
  simp only[Array.toList_extract,List.extract_eq_take_drop,Nat.sub_zero,List.drop_zero,List.getElem?_take]at hu
  split at hu
  ·simpa using hu
  ·cases hu)
 have hl:(news.extract 0 (n*sz)).toList.length=n*sz:=by simp;omega
 rw[hl,Array.toArray_toList]at this
 exact this

theorem jN (s:Sim F L (b++l) w) {sz:Nat} (hz:0<sz) {q:AV} {v:Value} {xs:List (List AV)} (h:TD b l sz q=some xs) (hr:RepA w F L q v) :
  (∀w2,(Builtin.lenOf v).run P w2=.ok xs.length w2)∧∃news:Array Value,news.size=xs.length*sz∧QM w F L sz xs news∧(∀u∈news.toList,u.oneCell'=true) ∧
   ∀n w2,n≤xs.length→w2.heap=w.heap→(Builtin.firstCells sz n v).run P w2=.ok (news.extract 0 (n*sz)) w2:=by
 have empty:∀(ad:Option Addr) (c:Nat),v=.slice ad 0 c→xs=[]→(∀w2,(Builtin.lenOf v).run P w2=.ok xs.length w2)∧∃news:Array Value,news.size=xs.length*sz∧QM w F L sz xs news∧(∀u∈news.toList,u.oneCell'=true) ∧
   ∀n w2,n≤xs.length→w2.heap=w.heap→(Builtin.firstCells sz n v).run P w2=.ok (news.extract 0 (n*sz)) w2:=by
  intro ad c hv hx
  subst hv;subst hx
  refine⟨fun w2=>by simp[Builtin.lenOf],#[],by simp,⟨by simp,by simp⟩,by simp,fun n w2 hn _=>?_⟩
  have:n=0:=by simpa using hn
  subst this
  cases ad<;>simp[Builtin.firstCells,loadCells,loadCellsFrom]
 unfold TD at h
 split at h
 ·cases h
  cases hr.vI
  exact empty _ _ rfl rfl
 ·rename_i s0 rows
  split at h
  case isFalse=>cases h
  rename_i hs
  subst hs
  cases h
  cases hr.vI with
  |isl0 _ ad c=>exact empty _ _ rfl rfl
  |isl _ b1 off _ c val h1 h2 h3 h4 h5 h6 =>
    obtain⟨news,n1,n2,n3,n4⟩:=CI (w:=w) (F:=F) (L:=L) (xs:=rows.map (·.map .v)) (blk:=b1) (p:=off) hz (fun k row hk=>by
     rw[List.getElem?_map]at hk
     cases hq:rows[k]? with
     |none=>simp[hq]at hk
     |some r0=>simp[hq]at hk;subst hk;simpa using h4 k r0 hq) (fun k row j c hk hj=>by
     rw[List.getElem?_map]at hk
     cases hq:rows[k]? with
     |none=>simp[hq]at hk
     |some r0 =>
       simp[hq]at hk
       subst hk
       rw[List.getElem?_map]at hj
       cases kR:r0[j]? with
       |none=>simp[kR]at hj
       |some y =>
         simp[kR]at hj
         subst hj
         exact⟨rfl,_,h5 k r0 j y hq kR,.v _ _ (h6 k r0 j y hq kR)⟩)
    refine⟨fun w2=>by simp[Builtin.lenOf],news,n1,n2,n3,fun n w2 hn hw=>RA n4 (by rw[n1];exact Nat.mul_le_mul_right _ hn) hw⟩
 ·rename_i id ver off len
  split at h
  case h_2=>cases h
  rename_i v0 s0 els hg
  split at h
  case isFalse=>cases h
  rename_i hs
  obtain⟨rfl,rfl,rK⟩:=hs
  cases h
  rw[zD]at hg
  cases hr with
  |sl _ _ _ _ b1 o1 z1 c1 hL h1 h2 =>
    obtain⟨lc,k1,k2⟩:=s.row _ _ _ _ hg
    rw[hL]at k1;cases k1
    obtain⟨rfl,k3,k4,cur,T,k5,k6,k7,k8⟩:=k2
    have bJ:∀(k:Nat) (row:List AV),((els.drop off).take len)[k]? = some row→els[off+k]? = some row:=by
     intro k row hk
     rw[List.getElem?_take]at hk
     split at hk
     ·rwa [List.getElem?_drop]at hk
     ·cases hk
    obtain⟨news,n1,n2,n3,n4⟩:=CI (w:=w) (F:=F) (L:=L) (xs:=(els.drop off).take len) (blk:=b1) (p:=o1+off*z1) hz (fun k row hk=>k7 _ _ (bJ k row hk)) (fun k row j c hk hj=>by
     obtain⟨c1,u,hu,hru⟩:=k8 _ _ j c (bJ k row hk) hj
     refine⟨c1,u,?_,hru⟩
     rw[Nat.add_mul]at hu
     simp[World.cell?,k5,←Nat.add_assoc]at hu⊢
     exact hu)
    have FC:((els.drop off).take len).length=len:=by simp;omega
    refine⟨fun w2=>by rw[FC];simp[Builtin.lenOf],news,n1,n2,n3,fun n w2 hn hw=>RA n4 (by rw[n1];exact Nat.mul_le_mul_right _ hn) hw⟩
  |slz _ _ _ b1 o1 z1 c1 x1 hL xS=>exact empty _ _ rfl (by simp)
  |sln _ _ ad hL=>exact empty _ _ rfl (by simp)
 ·rename_i str
  split at h
  case isFalse=>cases h
  rename_i hs
  subst hs
  cases h
  have hv:=DO hr
  subst hv
  have sM:str.data.size=str.size:=rfl
  refine⟨fun w2=>by simp[Builtin.lenOf,sM],str.data.map fun c=>.int .u8 c.toNat,by simp,⟨fun k row hk=>?_,fun k row j c hk hj=>?_⟩,fun u hu=>?_,fun n w2 hn hw=>?_⟩
  ·rw[List.getElem?_map]at hk
   cases hq:str.data.toList[k]? with
   |none=>simp[hq]at hk
   |some c=>simp[hq]at hk;subst hk;rfl
  ·rw[List.getElem?_map]at hk
   cases hq:str.data.toList[k]? with
   |none=>simp[hq]at hk
   |some ch =>
     simp[hq]at hk
     subst hk
     cases j with
     |succ j=>simp at hj
     |zero =>
       simp at hj
       subst hj
       refine⟨rfl,.int .u8 ch.toNat,?_,toN _ _⟩
       have:str.data[k]? = some ch:=by simpa using hq
       simp[this]
  ·simp at hu
   obtain⟨c,_,rfl⟩:=hu
   rfl
  ·simp[Builtin.firstCells]
 ·cases h

theorem PV {xs:List (List AV)} {ns:List Int} (h:XP xs=some ns) {news:Array Value} (hs:news.size=xs.length*1) (hr:QM w F L 1 xs news):news=(ns.map (Value.int .u8)).toArray:=by
 have key:∀(xs:List (List AV)) (ns:List Int),XP xs=some ns→xs.length=ns.length∧∀(k:Nat) (n:Int),ns[k]? = some n→xs[k]? = some [.v (.int .u8 n)]:=by
  intro xs
  induction xs with
  |nil=>intro ns h;cases h;exact⟨rfl,by simp⟩
  |cons x xs ih =>
    intro ns h
    unfold XP at h
    split at h
    ·rename_i h0;cases h0
    ·rename_i n rs h0
     cases h0
     obtain⟨ms,h1,h2⟩:=Option.map_eq_some_iff.1 h
     subst h2
     obtain⟨i1,i2⟩:=ih ms h1
     refine⟨by simp[i1],fun k m hk=>?_⟩
     cases k with
     |zero=>simp at hk⊢;exact hk
     |succ k=>simp at hk⊢;exact i2 k m hk
    ·cases h
 obtain⟨k1,k2⟩:=key xs ns h
 apply Array.ext_getElem?
 intro j
 by_cases hj:j<ns.length
 ·have hn:=k2 j ns[j] (List.getElem?_eq_getElem hj)
  obtain⟨_,u,g1,g2⟩:=hr.2 j _ 0 _ hn rfl
  rw[tH g2]at g1
  simp only[Nat.mul_one,Nat.add_zero]at g1
  rw[g1]
  simp[hj]
 ·rw[Array.getElem?_eq_none oM,Array.getElem?_eq_none (by simp;omega)]
theorem E9 (s:Sim F L (b++l) w) (he:YC w F L e a) {t u el:TypeId} (ht:P.underlying t=some (.slice el)) (bJ:P.underlying el=some (.int .u8)) (hu:P.underlying u=some .string) {y:Operand} {z:Opd} (ho:o.op=.convert t u y) (hy:TA y=some z)
  (h:aop e b l (.tostr z)=.val x b' l'):zB P o a w F L b l x b' l':=by
 have hr:=IA he hy
 simp only[aop]at h
 generalize ev e z=q at *
 generalize hv:a.eval y=v at hr
 unfold OC at h
 split at h
 ·cases h
 rename_i hns
 split at h
 case h_2=>cases h
 rename_i xs Q9
 split at h
 case h_2=>cases h
 rename_i ns fW
 cases h
 obtain⟨h1,news,n1,n2,_,n4⟩:=jN s (P:=P) (sz:=1) (by decide) Q9 hr
 obtain⟨ad,len,cap,rfl⟩:∃ad len cap,v=.slice ad len cap:=by
  unfold TD at Q9
  split at Q9
  ·cases hr.vI;exact⟨_,_,_,rfl⟩
  ·split at Q9
   ·cases hr.vI<;>exact⟨_,_,_,rfl⟩
   ·cases Q9
  ·cases hr<;>exact⟨_,_,_,rfl⟩
  ·exact absurd rfl (hns _)
  ·cases Q9
 have FC:len=xs.length:=by
  have:=h1 w
  simp[Builtin.lenOf]at this
  exact this
 have hnw:=PV fW n1 n2
 have hf:=n4 len w oM rfl
 have sM:news.size=len:=by omega
 have RF:news.extract 0 (len*1)=news:=by
  apply Array.ext_getElem?
  intro j
  rw[Array.getElem?_extract]
  by_cases hj:j<news.size
  ·rw[if_pos oM,Nat.zero_add]
  ·rw[if_neg oM,Array.getElem?_eq_none oM]
 rw[RF,hnw]at hf
 refine zB.pure s (v:=.string (GU ns)) ?_ (toS _)
 have hc:(convert t u (.slice ad len cap)).run P w=.ok (.string (GU ns)) w:=by
  rw[run_convert_bytes_string w t u el ad len cap ht bJ hu]
  cases ad with
  |none =>
    have h0:(ns.map (Value.int .u8)).toArray=#[]:=by
     simp[Builtin.firstCells]at hf
     simp[hf]
    have:ns=[]:=by simpa using h0
    subst this
    simp[Conv.bytesToString,GU]
    rfl
  |some ad =>
    have hl:(loadCells ad len).run P w=.ok (ns.map (Value.int .u8)).toArray w:=by
     simpa [Builtin.firstCells] using hf
    rw[run_bytesToString w ad len cap ns hl]
    have key:∀(ns:List Int) (s:ByteArray),ns.foldl (fun r n=>r.push (UInt8.ofNat n.toNat)) s=⟨s.data++(ns.map fun n=>UInt8.ofNat n.toNat).toArray⟩:=by
     intro ns
     induction ns with
     |nil=>intro s;simp
     |cons n ns ih=>intro s;rw[List.foldl_cons,ih];simp[ByteArray.push]
    rw[key]
    simp[GU,ByteArray.empty,ByteArray.emptyWithCapacity]
    try rfl
 simp[execOp,ho,hv,hc]

theorem notInt_or {d:TypeDesc} (h:mM (some d)=true):(∃el,d=.slice el)∨d=.string:=by
 cases d<;>first|(cases h;done)|exact .inl ⟨_,rfl⟩|exact .inr rfl

theorem IF {t u el ty:TypeId} {du:TypeDesc} {sz:Nat} (ht:P.underlying t=some (.slice el)) (hu:P.underlying u=some du) (hd:mM (some du)=true) (hs:iD P el=some sz)
  {blk p len cap m:Nat} {vx:Value} {news cur:Array Value} {T:TypeId} (hl:(Builtin.lenOf vx).run P w=.ok m w) (hf:(Builtin.firstCells sz m vx).run P w=.ok news w) (hn:news.size=m*sz)
  (dC:len+m≤cap) (EX:w.heap[blk]? = some (.cells cur T (0,0))) (IH:p+len*sz+m*sz≤cur.size) (h1:∀u∈news.toList,u.oneCell'=true) :
  (Builtin.append_ #[t,u] ty #[.slice (some ⟨blk,p,none⟩) len cap,vx]).run P w=.ok (.slice (some ⟨blk,p,none⟩) (len+m) cap) (w.setRow blk (cur.toList.take (p+len*sz)++news.toList++cur.toList.drop (p+len*sz+news.toList.length)).toArray):=by
 have UH:=run_storeCells_at P blk (p+len*sz) T news.toList 0 cur w EX (by simp;omega) h1
 simp only[Nat.add_zero]at UH
 rcases notInt_or hd with ⟨el',rfl⟩|rfl<;>simp[Builtin.append_,run_underlying ht,run_underlying hu,FA hs,hl,dC,hf,Addr.add_lit,UH]

theorem zG {t u el ty:TypeId} {du:TypeDesc} {sz bytes:Nat} {i:TypeInfo} {z:Value} (ht:P.underlying t=some (.slice el)) (hu:P.underlying u=some du) (hd:mM (some du)=true) (hs:iD P el=some sz)
  (hi:P.info? el=some i) (hz:i.zero=some z) (EM:i.bytes=bytes)
  {base:Option Addr} {len cap m:Nat} {vx:Value} {olds news:Array Value} (hl:(Builtin.lenOf vx).run P w=.ok m w)
  (hf:(Builtin.firstCells sz m vx).run P w.drew=.ok news w.drew) (ho:(Builtin.firstCells sz len (.slice base len cap)).run P w.drew=.ok olds w.drew)
  (dC:cap<len+m) (uK:(len+m)*bytes≤140737488355328) (hm:len+m≤140737488355328) (h0:0<bytes) :
  (Builtin.append_ #[t,u] ty #[.slice base len cap,vx]).run P w=.ok (.slice (some ⟨w.heap.size,0,none⟩) (len+m) (grownCap w (len+m) cap el))
    (w.drew.alloc (.cells (olds++news++Builtin.zeroCells z.cells (grownCap w (len+m) cap el-(len+m))) el)):=by
 have hn:¬(len+m≤cap):=by omega
 have h63:¬(9223372036854775807<((len:Int)+(m:Int))):=by omega
 have ZGY:=growslice_fits (need:=len+m) (old:=cap) (bytes:=bytes) dC uK
 have h48:¬(281474976710656<Builtin.nextslicecap (len+m) cap*i.bytes):=by rw[EM];omega
 rcases notInt_or hd with ⟨el',rfl⟩|rfl<;>simp[Builtin.append_,run_underlying ht,run_underlying hu,FA hs,typeInfo,zeroValue,hi,hz,hl,hn,h63,h48,Question.forced,ho,hf,newRow,grownCap]
end

section
variable {P:Program} {w:World} {F:Nat→Prop} {L:LMap} {o:Oper} {a:Act} {e:List AV} {b l b' l':List Row} {x:AV}

theorem QM.append {sz:Nat} {xs ys:List (List AV)} {us vs zs:Array Value} (h:QM w F L sz xs us) (k:QM w F L sz ys vs) (hu:us.size=xs.length*sz) (hv:vs.size=ys.length*sz):QM w F L sz (xs++ys) (us++vs++zs):=by
 refine⟨fun i row hi=>?_,fun i row j c hi hj=>?_⟩
 ·by_cases LA:i<xs.length
  ·rw[List.getElem?_append_left LA]at hi;exact h.1 i row hi
  ·rw[List.getElem?_append_right oM]at hi;exact k.1 _ row hi
 ·by_cases LA:i<xs.length
  ·rw[List.getElem?_append_left LA]at hi
   obtain⟨h1,u,h2,h3⟩:=h.2 i row j c hi hj
   have:i*sz+j<us.size:=(Array.getElem?_eq_some_iff.1 h2).1
   exact⟨h1,u,by rw[Array.append_assoc,Array.getElem?_append_left this];exact h2,h3⟩
  ·rw[List.getElem?_append_right oM]at hi
   obtain⟨h1,u,h2,h3⟩:=k.2 _ row j c hi hj
   have h4:(i-xs.length)*sz+j<vs.size:=(Array.getElem?_eq_some_iff.1 h2).1
   have h5:i*sz=xs.length*sz+(i-xs.length)*sz:=by rw[←Nat.add_mul];congr 1;omega
   refine⟨h1,u,?_,h3⟩
   rw[Array.getElem?_append_left (by simp;omega),Array.getElem?_append_right oM]
   rw[show i*sz+j-us.size=(i-xs.length)*sz+j by omega]
   exact h2

theorem qH {t u el ty:TypeId} {du:TypeDesc} {sz:Nat} (ht:P.underlying t=some (.slice el)) (hu:P.underlying u=some du) (hd:mM (some du)=true) (hs:iD P el=some sz)
  {base:Option Addr} {len cap:Nat} {vx:Value} (hl:(Builtin.lenOf vx).run P w=.ok 0 w) (hf:(Builtin.firstCells sz 0 vx).run P w=.ok #[] w) (rK:len≤cap) :
  (Builtin.append_ #[t,u] ty #[.slice base len cap,vx]).run P w=.ok (.slice base len cap) w:=by
 rcases notInt_or hd with ⟨el',rfl⟩|rfl<;>cases base<;>simp[Builtin.append_,run_underlying ht,run_underlying hu,FA hs,hl,hf,rK,storeCells]

theorem Sim.bumpNil {h:List Row} (s:Sim F L h w) {id ver sz:Nat} {els:List (List AV)} (hr:h[id]? = some (.live ver sz els)) (hL:L id ver=some .nil) :
  ∃L':LMap,Sim F L' (h.set id (.live (ver+1) sz [])) w∧Step h.length F L h w F L' (h.set id (.live (ver+1) sz [])) w∧L' id (ver+1)=some .nil∧∀i v l,L i v=some l→L' i v=some l:=by
 have hid:id<h.length:=(List.getElem?_eq_some_iff.1 hr).1
 have GM:L id (ver+1)=none:=by
  cases hq:L id (ver+1) with
  |none=>rfl
  |some q =>
    obtain⟨r,h1,h2⟩:=s.born _ _ _ hq
    rw[hr]at h1;cases h1
    simp[Row.ver]at h2
    omega
 obtain⟨L',yR,PU,IR⟩:∃L':LMap,L' id (ver+1)=some .nil∧(∀i v l,L i v=some l→L' i v=some l)∧∀i v,(i≠id∨v≠ver+1)→L' i v=L i v:=by
  refine⟨fun i v=>if i=id∧v=ver+1 then some .nil else L i v,by simp,?_,?_⟩
  ·intro i v q hl
   by_cases hi:i=id∧v=ver+1
   ·obtain⟨rfl,rfl⟩:=hi
    rw[GM]at hl;cases hl
   ·simp[hi,hl]
  ·intro i v hi
   have:¬(i=id∧v=ver+1):=fun ⟨a,b⟩=>hi.elim (fun h=>h a) (fun h=>h b)
   simp[this]
 have mono:∀{x:AV} {v:Value},RepA w F L x v→RepA w F L' x v:=fun hx=>hx.mono (fun _ h=>h) (fun _ _=>rfl) PU
 have own:∀k,LC L' (h.set id (.live (ver+1) sz [])) k→LC L h k:=by
  rintro k ⟨i,v,z,e1,q1,h1,h2,h3⟩
  by_cases hi:i=id
  ·subst hi
   rw[List.getElem?_set_self hid]at h1;cases h1
   rw[yR]at h2;cases h2
   exact h3.elim
  ·rw[List.getElem?_set_ne (Ne.symm hi)]at h1
   rw[IR i v (.inl hi)]at h2
   exact⟨i,v,z,e1,q1,h1,h2,h3⟩
 refine⟨L',⟨?_,?_,?_,fun k hk=>⟨(s.imm k hk).1,fun ho=>(s.imm k hk).2 (own k ho)⟩,s.glob⟩,⟨fun _ h=>h,fun i v l _ hl=>PU i v l hl,rfl,rfl,rfl,Nat.le_refl _,fun _ _ _=>rfl,fun k _ ho=>own k ho,?_,fun _ _ h=>.inl h⟩,yR,PU⟩
 ·intro j v z e1 hj
  by_cases fG:j=id
  ·subst fG
   rw[List.getElem?_set_self hid]at hj
   cases hj
   exact⟨.nil,yR,rfl⟩
  ·rw[List.getElem?_set_ne (Ne.symm fG)]at hj
   obtain⟨l,TO,nT⟩:=s.row j v z e1 hj
   exact⟨l,PU _ _ _ TO,nT.mono (fun _ _=>rfl) (fun _ _=>mono)⟩
 ·intro i v l TO
  by_cases hi:i=id
  ·subst hi
   refine⟨_,List.getElem?_set_self hid,?_⟩
   by_cases hv:v=ver+1
   ·subst hv;exact Nat.le_refl _
   ·rw[IR i v (.inr hv)]at TO
    obtain⟨r,h1,h2⟩:=s.born _ _ _ TO
    rw[hr]at h1;cases h1
    exact Nat.le_trans h2 (Nat.le_succ _)
  ·rw[IR i v (.inl hi)]at TO
   obtain⟨r,h1,h2⟩:=s.born _ _ _ TO
   exact⟨r,by rw[List.getElem?_set_ne (Ne.symm hi)];exact h1,h2⟩
 ·intro i i' v v' z z' e1 e2 b q1 q2 h1 h2 h3 h4 h5 h6
  by_cases hi:i=id
  ·subst hi
   rw[List.getElem?_set_self hid]at h1;cases h1
   rw[yR]at h3;cases h3
   exact h5.elim
  ·by_cases hi':i'=id
   ·subst hi'
    rw[List.getElem?_set_self hid]at h2;cases h2
    rw[yR]at h4;cases h4
    exact h6.elim
   ·rw[List.getElem?_set_ne (Ne.symm hi)]at h1
    rw[List.getElem?_set_ne (Ne.symm hi')]at h2
    rw[IR i v (.inl hi)]at h3
    rw[IR i' v' (.inl hi')]at h4
    exact s.apart i i' v v' z z' e1 e2 b q1 q2 h1 h2 h3 h4 h5 h6
 ·intro i hi v hv
  by_cases hii:i=id
  ·subst hii;rw[hr]at hv;cases hv
  ·rw[List.getElem?_set_ne (Ne.symm hii)];exact hv

theorem uM {h:List Row} (s:Sim F L h w) {id ver sz:Nat} {els:List (List AV)} (hr:h[id]? = some (.live ver sz els)):L id (ver+1)=none:=by
 cases hq:L id (ver+1) with
 |none=>rfl
 |some q =>
   obtain⟨r,h1,h2⟩:=s.born _ _ _ hq
   rw[hr]at h1;cases h1
   simp[Row.ver]at h2
   omega

theorem K6 (s:Sim F L (b++l) w) (he:YC w F L e a) {c:Call} {t u el:TypeId} {sz bytes:Nat} {zs:List AV} (ht:P.underlying t=some (.slice el)) (hu:mM (P.underlying u)=true)
  (hs:iD P el=some sz) (EM:lN P el=some bytes) (hz:kF P el=some zs) (G2:zs.length=sz) (h0:0<sz) (hb0:0<bytes)
  {y z:Operand} {y' z':Opd} (hc:c.callee=.builtin .append) (ha:c.args.toList=[y,z]) (yU:c.argTypes.toList=[t,u]) (ho:o.op=.call c) (hy:TA y=some y') (hz':TA z=some z')
  (h:aop e b l (.append sz bytes y' z')=.val x b' l'):zB P o a w F L b l x b' l':=by
 obtain⟨i,zv,hi,kU,IX⟩:=AD hz
 obtain⟨c1,c2⟩:=EE (w:=w) (F:=F) (L:=L) IX
 have hzv:zv.cells.size=sz:=by have:=c1.1;simp at this;omega
 have hbz:i.bytes=bytes:=by simp[lN,hi]at EM;exact EM
 obtain⟨du,hdu,hd⟩:∃du,P.underlying u=some du∧mM (some du)=true:=by
  cases hq:P.underlying u with
  |none=>rw[hq]at hu;cases hu
  |some du=>rw[hq]at hu;exact⟨du,rfl,hu⟩
 have h1:=IA he hy
 have h2:=IA he hz'
 simp only[aop]at h
 generalize ev e y'=q at *
 generalize ev e z'=r at *
 have LK:∀v w',(Builtin.append_ #[t,u] o.type #[a.eval y,a.eval z]).run P w=.ok v w'→(execOp a.eval o).run P w=.ok (.value v) w':=by
  intro v w' hr
  rw[GD ho hc ha yU]
  simp[invoke,builtin,hr]
 unfold VC at h
 split at h
 case h_1=>cases h
 rename_i xs Q9
 obtain⟨FC,news,n1,n2,n3,n4⟩:=jN (P:=P) s h0 Q9 h2
 have ZB9:xs.length=0→(Builtin.firstCells sz 0 (a.eval z)).run P w=.ok #[] w:=by
  intro hx
  have:=n4 0 w (Nat.zero_le _) rfl
  simpa using this
 have ZGZ:news.extract 0 (xs.length*sz)=news:=by rw[←n1];simp
 have hf:∀w2,w2.heap=w.heap→(Builtin.firstCells sz xs.length (a.eval z)).run P w2=.ok news w2:=by
  intro w2 hw
  have:=n4 xs.length w2 (Nat.le_refl _) hw
  rwa [ZGZ]at this
 split at h
 ·split at h
  ·rename_i hx0
   cases h
   obtain⟨ad,hv⟩:∃ad,a.eval y=.slice ad 0 0:=by
    generalize a.eval y=v at h1
    cases h1.vI;exact⟨_,rfl⟩
   refine zB.pure s (v:=a.eval y) (LK _ _ ?_) h1
   rw[hv]
   have hl0:=FC w
   rw[hx0]at hl0
   exact qH ht hdu hd hs hl0 (ZB9 (by rw[hx0];rfl)) (Nat.le_refl _)
  ·rename_i hx0
   split at h
   case isFalse=>cases h
   rename_i hb
   unfold room at hb
   obtain⟨ad,hv⟩:∃ad,a.eval y=.slice ad 0 0:=by
    generalize a.eval y=v at h1
    cases h1.vI;exact⟨_,rfl⟩
   have AX:0<xs.length:=by cases xs with
    |nil=>exact absurd rfl hx0
    |cons _ _=>simp
   have lG:(Builtin.firstCells sz 0 (.slice ad 0 0)).run P w.drew=.ok #[] w.drew:=by
    cases ad<;>simp[Builtin.firstCells,loadCells,loadCellsFrom]
   have vD:=zG (P:=P) (w:=w) (ty:=o.type) ht hdu hd hs hi kU hbz (base:=ad) (len:=0) (cap:=0) (FC w) (hf _ rfl) lG oM (by simpa using hb.1) (by simpa using hb.2) hb0
   rw[←hv]at vD
   simp only[Nat.zero_add,Array.empty_append]at vD
   have CK:=grownCap_ge w xs.length 0 el
   have mL:grownCap w xs.length 0 el≤maxLen:=grownCap_le_maxLen w _ 0 el (by unfold maxLen;omega)
   refine IU s (w':=w.drew.alloc (.cells (news++Builtin.zeroCells zv.cells (grownCap w xs.length 0 el-xs.length)) el)) (cur:=news++Builtin.zeroCells zv.cells (grownCap w xs.length 0 el-xs.length)) (T:=el) (cap:=grownCap w xs.length 0 el)
    (v:=.slice (some ⟨w.heap.size,0,none⟩) xs.length (grownCap w xs.length 0 el)) (.inl (LK _ _ vD)) rfl rfl rfl rfl CK mL ?_ n2.1 ?_ ?_ h
   ·rw[Array.size_append,size_zeroCells,n1,hzv,←Nat.add_mul]
    exact Nat.mul_le_mul_right _ oM
   ·intro k row j cc hk hj
    obtain⟨g1,v,g2,g3⟩:=n2.2 k row j cc hk hj
    exact⟨g1,v,by rw[Array.getElem?_append_left (Array.getElem?_eq_some_iff.1 g2).1];exact g2,g3⟩
   ·intro L' hL'
    have:=RepA.sl (w:=w.drew.alloc (.cells (news++Builtin.zeroCells zv.cells (grownCap w xs.length 0 el-xs.length)) el)) (F:=F) (b.length+l.length) 0 0 xs.length _ _ _ _ hL' oM mL
    simpa using this
 ·rename_i id ver off len
  split at h
  case h_2=>cases h
  rename_i v0 s0 els hg
  split at h
  case isFalse=>cases h
  rename_i hb
  obtain⟨rfl,rfl,rK,uK,dC⟩:=hb
  unfold room at uK dC
  cases h
  have hg':(b++l)[id]? = some (.live v0 s0 els):=by rw[←zD];exact hg
  have hid:id<(b++l).length:=(List.getElem?_eq_some_iff.1 hg').1
  have L8:=uM s hg'
  have bJ:TD b l s0 (.sl id v0 off len)=some ((els.drop off).take len):=by simp[TD,hg,rK]
  obtain⟨klen,olds,m1,m2,m3,m4⟩:=jN (P:=P) s h0 bJ h1
  have SU:((els.drop off).take len).length=len:=by simp;omega
  rw[SU]at m1 m4 klen
  have holds:olds.extract 0 (len*s0)=olds:=by rw[←m1];simp
  have grow:∀base cap,a.eval y=.slice base len cap→cap<len+xs.length→zB P o a w F L b l (.sl id (v0+1) 0 (len+xs.length)) (qE b id (.live (v0+1) s0 ((els.drop off).take len++xs))) (sE b l id (.live (v0+1) s0 ((els.drop off).take len++xs))):=by
   intro base cap hv LA
   have U9:=m4 len w.drew (Nat.le_refl _) rfl
   rw[hv,holds]at U9
   have vD:=zG (P:=P) (w:=w) (ty:=o.type) ht hdu hd hs hi kU hbz (FC w) (hf _ rfl) U9 LA uK dC hb0
   rw[←hv]at vD
   have CK:=grownCap_ge w (len+xs.length) cap el
   have mL:grownCap w (len+xs.length) cap el≤maxLen:=grownCap_le_maxLen w _ cap el (by unfold maxLen;omega)
   obtain⟨L',r1,r2,r3,r4⟩:=s.putRow (h':=(b++l).set id (.live (v0+1) s0 ((els.drop off).take len++xs))) (w':=w.drew.alloc (.cells (olds++news++Builtin.zeroCells zv.cells (grownCap w (len+xs.length) cap el-(len+xs.length))) el))
    id (v0+1) s0 w.heap.size 0 (grownCap w (len+xs.length) cap el) ((els.drop off).take len++xs) rfl rfl rfl (by simp) (fun k hk _=>heap_alloc_old w.drew _ k hk) (.inl (Nat.le_refl _))
    (List.getElem?_set_self hid) (fun j hj=>List.getElem?_set_ne (Ne.symm hj)) (fun r hr=>by rw[hg']at hr;cases hr;exact⟨Nat.le_succ _,_,_,_,rfl⟩) (.inl L8)
    (by rw[List.length_append,SU];exact CK) mL (olds++news++Builtin.zeroCells zv.cells (grownCap w (len+xs.length) cap el-(len+xs.length))) el (heap_alloc_new w.drew _)
    (by
     rw[Array.size_append,Array.size_append,size_zeroCells,n1,m1,hzv,←Nat.add_mul,←Nat.add_mul,Nat.zero_add]
     exact Nat.mul_le_mul_right _ oM)
    (QM.append m2 n2 (by rw[SU];exact m1) n1 (zs:=Builtin.zeroCells zv.cells (grownCap w (len+xs.length) cap el-(len+xs.length)))).1
    (fun k row j cc hk hj=>by simpa using (QM.append m2 n2 (by rw[SU];exact m1) n1 (zs:=Builtin.zeroCells zv.cells (grownCap w (len+xs.length) cap el-(len+xs.length)))).2 k row j cc hk hj)
   refine⟨_,_,L',.inl (LK _ _ vD),?_,by rw[CD];exact r1,by rw[CD];exact r2,YF _ _ _⟩
   have:=RepA.sl (w:=w.drew.alloc (.cells (olds++news++Builtin.zeroCells zv.cells (grownCap w (len+xs.length) cap el-(len+xs.length))) el)) (F:=F) id (v0+1) 0 (len+xs.length) _ _ _ _ r3 oM mL
   simpa using this
  generalize hv:a.eval y=vy at h1
  cases h1 with
  |sl _ _ _ _ b1 o1 z1 cap1 hL g1 g2 =>
    by_cases IH:len+xs.length≤cap1-off
    ·obtain⟨lc,k1,k2⟩:=s.row _ _ _ _ hg'
     rw[hL]at k1;cases k1
     obtain⟨rfl,k3,k4,cur,T,k5,k6,k7,k8⟩:=k2
     have ZF6:(off+(len+xs.length))*z1≤cap1*z1:=Nat.mul_le_mul_right _ oM
     rw[Nat.add_mul,Nat.add_mul]at ZF6
     have vD:=IF (P:=P) (w:=w) (ty:=o.type) (p:=o1+off*z1) ht hdu hd hs (FC w) (hf _ rfl) n1 IH k5 oM n3
     rw[←hv]at vD
     have F8:news.toList.length=xs.length*z1:=by simpa using n1
     have jO:cur.toList.length=cur.size:=by simp
     have nN:(cur.toList.take (o1+off*z1+len*z1)++news.toList++cur.toList.drop (o1+off*z1+len*z1+news.toList.length)).toArray.size=cur.size:=by
      simp only[List.size_toArray,List.length_append,List.length_take,List.length_drop,F8,jO]
      omega
     have hget:∀i,(cur.toList.take (o1+off*z1+len*z1)++news.toList++cur.toList.drop (o1+off*z1+len*z1+news.toList.length)).toArray[i]? = if o1+off*z1+len*z1≤i∧i<o1+off*z1+len*z1+xs.length*z1 then news[i-(o1+off*z1+len*z1)]? else cur[i]?:=by
      intro i
      have:=FH cur.toList news.toList (o1+off*z1+len*z1) i (by rw[F8,jO];omega)
      simp only[List.getElem?_toArray]
      rw[this,F8]
      simp
     obtain⟨L',r1,r2,r3,r4⟩:=s.putRow (h':=(b++l).set id (.live (v0+1) z1 ((els.drop off).take len++xs))) (w':=w.setRow b1 (cur.toList.take (o1+off*z1+len*z1)++news.toList++cur.toList.drop (o1+off*z1+len*z1+news.toList.length)).toArray)
      id (v0+1) z1 b1 (o1+off*z1) (cap1-off) ((els.drop off).take len++xs) rfl rfl rfl (by simp) (fun i _ hi=>setRow_other w b1 i _ hi) (.inr ⟨_,_,_,_,_,_,hg',hL⟩)
      (List.getElem?_set_self hid) (fun j hj=>List.getElem?_set_ne (Ne.symm hj)) (fun r hr=>by rw[hg']at hr;cases hr;exact⟨Nat.le_succ _,_,_,_,rfl⟩) (.inl L8)
      (by rw[List.length_append,SU];exact IH) oM _ T (setRow_heap w b1 cur _ T _ k5)
      (by
       rw[nN]
       have:off*z1+(cap1-off)*z1=cap1*z1:=by rw[←Nat.add_mul];congr 1;omega
       omega)
      (fun k row hk=>by
       by_cases qP:k<len
       ·rw[List.getElem?_append_left oM]at hk;exact m2.1 k row hk
       ·rw[List.getElem?_append_right oM]at hk;exact n2.1 _ row hk)
      (fun k row j cc hk hj=>by
       rw[hget]
       by_cases qP:k<len
       ·rw[List.getElem?_append_left oM]at hk
        rw[List.getElem?_take,if_pos qP,List.getElem?_drop]at hk
        obtain⟨q1,u,q2,q3⟩:=k8 _ row j cc hk hj
        have FF:j<z1:=by rw[←k7 _ _ hk];exact (List.getElem?_eq_some_iff.1 hj).1
        have:=bG (sz:=z1) (j:=j) (n:=1) qP oM
        refine⟨q1,u,?_,q3⟩
        rw[if_neg oM]
        rw[Nat.add_mul]at q2
        rw[←q2];congr 1;omega
       ·rw[List.getElem?_append_right oM,SU]at hk
        obtain⟨q1,u,q2,q3⟩:=n2.2 _ row j cc hk hj
        have hq:=(Array.getElem?_eq_some_iff.1 q2).1
        have h5:k*z1=len*z1+(k-len)*z1:=by rw[←Nat.add_mul];congr 1;omega
        refine⟨q1,u,?_,q3⟩
        rw[if_pos oM,show o1+off*z1+k*z1+j-(o1+off*z1+len*z1)=(k-len)*z1+j by omega]
        exact q2)
     refine⟨_,_,L',.inl (LK _ _ vD),?_,by rw[CD];exact r1,by rw[CD];exact r2,YF _ _ _⟩
     have:=RepA.sl (w:=w.setRow b1 (cur.toList.take (o1+off*z1+len*z1)++news.toList++cur.toList.drop (o1+off*z1+len*z1+news.toList.length)).toArray) (F:=F) id (v0+1) 0 (len+xs.length) _ _ _ _ r3 oM oM
     simpa using this
    ·exact grow _ _ hv oM
  |slz _ _ _ b1 o1 z1 cap1 x1 hL xS =>
    by_cases hx:xs.length=0
    ·obtain⟨lc,k1,k2⟩:=s.row _ _ _ _ hg'
     rw[hL]at k1;cases k1
     obtain⟨rfl,k3,k4,cur,T,k5,k6,k7,k8⟩:=k2
     have hxn:xs=[]:=List.eq_nil_of_length_eq_zero hx
     subst hxn
     have hl0:=FC w
     have vD:=qH (P:=P) (w:=w) (ty:=o.type) (base:=some ⟨b1,x1,none⟩) (len:=0) (cap:=0) ht hdu hd hs hl0 (ZB9 rfl) (Nat.le_refl _)
     rw[←hv]at vD
     obtain⟨L',r1,r2,r3,r4⟩:=s.putRow (h':=(b++l).set id (.live (v0+1) z1 ((els.drop off).take 0++[]))) (w':=w)
      id (v0+1) z1 b1 (o1+off*z1) 0 ((els.drop off).take 0++[]) rfl rfl rfl (Nat.le_refl _) (fun i _ hi=>rfl) (.inr ⟨_,_,_,_,_,_,hg',hL⟩)
      (List.getElem?_set_self hid) (fun j hj=>List.getElem?_set_ne (Ne.symm hj)) (fun r hr=>by rw[hg']at hr;cases hr;exact⟨Nat.le_succ _,_,_,_,rfl⟩) (.inl L8)
      (by simp) (by decide) cur T k5 (by rw[←xS]at k6;omega) (by simp) (by simp)
     refine⟨a.eval y,w,L',.inl (LK _ _ (by rw[vD,hv])),?_,by rw[CD];exact r1,by rw[CD];exact r2,YF _ _ _⟩
     rw[hv]
     exact .slz id (v0+1) 0 _ _ _ _ x1 r3 rfl
    ·exact grow _ _ hv oM
  |sln _ _ ad hL =>
    by_cases hx:xs.length=0
    ·have hxn:xs=[]:=List.eq_nil_of_length_eq_zero hx
     subst hxn
     obtain⟨lc,k1,k2⟩:=s.row _ _ _ _ hg'
     rw[hL]at k1;cases k1
     have lT:els=[]:=k2
     subst lT
     have hl0:=FC w
     have vD:=qH (P:=P) (w:=w) (ty:=o.type) (base:=ad) (len:=0) (cap:=0) ht hdu hd hs hl0 (ZB9 rfl) (Nat.le_refl _)
     rw[←hv]at vD
     obtain⟨L',r1,r2,r3,r4⟩:=s.bumpNil hg' hL
     refine⟨a.eval y,w,L',.inl (LK _ _ (by rw[vD,hv])),?_,by rw[CD];exact r1,by rw[CD];exact r2,YF _ _ _⟩
     rw[hv]
     exact .sln id (v0+1) ad r3
    ·exact grow _ _ hv oM
 ·cases h

theorem LO {t u el ty:TypeId} {sz bytes:Nat} {i:TypeInfo} {z:Value} (ht:P.underlying t=some (.slice el)) (hu:P.underlying u=some (.int .i64)) (hs:iD P el=some sz)
  (hi:P.info? el=some i) (hz:i.zero=some z) (EM:i.bytes=bytes) {base:Option Addr} {m:Nat} (hm0:0<m) (sM:0<sz) (uK:m*bytes≤140737488355328) (hm:m≤140737488355328) (h0:0<bytes) :
  (Builtin.append_ #[t,u] ty #[.slice base 0 0,.int .i64 (m:Int)]).run P w=.ok (.slice (some ⟨w.heap.size,0,none⟩) m (grownCap w m 0 el))
    (w.drew.alloc (.cells (Builtin.zeroCells z.cells m++Builtin.zeroCells z.cells (grownCap w m 0 el-m)) el)):=by
 have ZGY:=growslice_fits (need:=m) (old:=0) (bytes:=bytes) hm0 uK
 have h48:¬(281474976710656<Builtin.nextslicecap m 0*i.bytes):=by rw[EM];omega
 have hw:IntKind.i64.wrap (m:Int)=(m:Int):=by rw[IntKind.wrap_i64];omega
 have h1:¬((m:Int)<0):=by omega
 have h2:¬(281474976710656<(m:Int)*(i.bytes:Int)):=by
  rw[EM]
  have:(m:Int)*(bytes:Int)=((m*bytes:Nat):Int):=by rw[Int.natCast_mul]
  omega
 have h3:¬(m*sz=0):=by
  have:0<m*sz:=Nat.mul_pos hm0 sM
  omega
 have h5:¬(9223372036854775807<(m:Int)):=by omega
 have h6:m≠0:=by omega
 cases base<;>simp[Builtin.append_,run_underlying ht,run_underlying hu,FA hs,typeInfo,zeroValue,hi,hz,asInt,asIntOf,hw,h1,h2,h3,h5,h6,h48,Question.forced,newRow,grownCap,Builtin.firstCells,loadCells,loadCellsFrom]

theorem aN {t u el ty:TypeId} {sz:Nat} {i:TypeInfo} (ht:P.underlying t=some (.slice el)) (hu:P.underlying u=some (.int .i64)) (hs:iD P el=some sz) (hi:P.info? el=some i) {base:Option Addr} :
  (Builtin.append_ #[t,u] ty #[.slice base 0 0,.int .i64 0]).run P w=.ok (.slice base 0 0) w:=by
 have hw:IntKind.i64.wrap 0=0:=by rw[IntKind.wrap_i64];omega
 cases base<;>simp[Builtin.append_,run_underlying ht,run_underlying hu,FA hs,typeInfo,hi,asInt,asIntOf,hw,storeCells]

theorem ZCq (s:Sim F L (b++l) w) (he:YC w F L e a) {c:Call} {t u el:TypeId} {sz bytes:Nat} {zs:List AV} (ht:P.underlying t=some (.slice el)) (hu:ZB5 (P.underlying u)=true)
  (hs:iD P el=some sz) (EM:lN P el=some bytes) (hz:kF P el=some zs) (G2:zs.length=sz) (h0:0<sz) (hb0:0<bytes)
  {y z:Operand} {y' z':Opd} (hc:c.callee=.builtin .append) (ha:c.args.toList=[y,z]) (yU:c.argTypes.toList=[t,u]) (ho:o.op=.call c) (hy:TA y=some y') (hz':TA z=some z')
  (h:aop e b l (.appz sz bytes zs y' z')=.val x b' l'):zB P o a w F L b l x b' l':=by
 obtain⟨i,zv,hi,kU,IX⟩:=AD hz
 obtain⟨c1,c2⟩:=EE (w:=w) (F:=F) (L:=L) IX
 have hzv:zv.cells.size=sz:=by have:=c1.1;simp at this;omega
 have hbz:i.bytes=bytes:=by simp[lN,hi]at EM;exact EM
 have hdu:P.underlying u=some (.int .i64):=by
  unfold ZB5 at hu
  split at hu
  ·rename_i h;exact h
  ·cases hu
 have h1:=IA he hy
 have h2:=IA he hz'
 simp only[aop]at h
 generalize ev e y'=q at *
 generalize ev e z'=r at *
 have LK:∀v w',(Builtin.append_ #[t,u] o.type #[a.eval y,a.eval z]).run P w=.ok v w'→(execOp a.eval o).run P w=.ok (.value v) w':=by
  intro v w' hr
  rw[GD ho hc ha yU]
  simp[invoke,builtin,hr]
 unfold nE at h
 split at h
 case h_2=>cases h
 rename_i n
 obtain⟨ad,hv⟩:∃ad,a.eval y=.slice ad 0 0:=by
  generalize a.eval y=v at h1
  cases h1.vI;exact⟨_,rfl⟩
 have hn:=tH h2
 split at h
 ·rename_i hn0
  subst hn0
  cases h
  refine zB.pure s (v:=a.eval y) (LK _ _ ?_) h1
  rw[hv,hn]
  exact aN ht hdu hs hi
 ·split at h
  case isFalse=>cases h
  rename_i hn0 hb
  obtain⟨g1,g2,g3⟩:=hb
  unfold room at g2 g3
  obtain⟨m,rfl⟩:∃m:Nat,n=m:=⟨n.toNat,by omega⟩
  simp only[Int.toNat_natCast]at *
  have hm0:0<m:=by omega
  have vD:=LO (P:=P) (w:=w) (ty:=o.type) ht hdu hs hi kU hbz (base:=ad) hm0 h0 g2 g3 hb0
  rw[←hv,←hn]at vD
  have CK:=grownCap_ge w m 0 el
  have mL:grownCap w m 0 el≤maxLen:=grownCap_le_maxLen w _ 0 el (by unfold maxLen;omega)
  have RU:=ZN (w:=w) (F:=F) (L:=L) (n:=m) c1 c2 G2 (m*sz) (Nat.le_refl _)
  have hmz:madeCells zv.cells (m*sz)=Builtin.zeroCells zv.cells m:=by unfold madeCells Builtin.zeroCells;rw[hzv]
  rw[hmz]at RU
  refine IU s (w':=w.drew.alloc (.cells (Builtin.zeroCells zv.cells m++Builtin.zeroCells zv.cells (grownCap w m 0 el-m)) el)) (cur:=Builtin.zeroCells zv.cells m++Builtin.zeroCells zv.cells (grownCap w m 0 el-m)) (T:=el) (cap:=grownCap w m 0 el)
   (v:=.slice (some ⟨w.heap.size,0,none⟩) m (grownCap w m 0 el)) (.inl (LK _ _ vD)) rfl rfl rfl rfl (by rw[List.length_replicate];exact CK) mL ?_ RU.1 ?_ ?_ h
  ·rw[Array.size_append,size_zeroCells,size_zeroCells,hzv,←Nat.add_mul]
   exact Nat.mul_le_mul_right _ oM
  ·intro k row j cc hk hj
   obtain⟨g1,v,g2,g3⟩:=RU.2 k row j cc hk hj
   exact⟨g1,v,by rw[Array.getElem?_append_left (Array.getElem?_eq_some_iff.1 g2).1];exact g2,g3⟩
  ·intro L' hL'
   have:=RepA.sl (w:=w.drew.alloc (.cells (Builtin.zeroCells zv.cells m++Builtin.zeroCells zv.cells (grownCap w m 0 el-m)) el)) (F:=F) (b.length+l.length) 0 0 m _ _ _ _ hL' oM mL
   simpa using this

theorem ZCk (s:Sim F L (b++l) w) (he:YC w F L e a) {c:Call} {t u el:TypeId} {sz:Nat} (ht:P.underlying t=some (.slice el)) (hs:iD P el=some sz) (h0:0<sz)
  {y z:Operand} {y' z':Opd} (hc:c.callee=.builtin .copy) (ha:c.args.toList=[y,z]) (yU:c.argTypes.toList=[t,u]) (ho:o.op=.call c) (hy:TA y=some y') (hz':TA z=some z')
  (h:aop e b l (.copy sz y' z')=.val x b' l'):zB P o a w F L b l x b' l':=by
 have h1:=IA he hy
 have h2:=IA he hz'
 simp only[aop]at h
 generalize ev e y'=q at *
 generalize ev e z'=r at *
 have LK:∀v w',(Builtin.copy_ #[t,u] o.type #[a.eval y,a.eval z]).run P w=.ok v w'→(execOp a.eval o).run P w=.ok (.value v) w':=by
  intro v w' hr
  rw[GD ho hc ha yU]
  simp[invoke,builtin,hr]
 unfold tE at h
 split at h
 case h_1=>cases h
 rename_i xs Q9
 obtain⟨FC,news,n1,n2,n3,n4⟩:=jN (P:=P) s h0 Q9 h2
 split at h
 case h_2=>cases h
 rename_i id ver off len
 split at h
 case h_2=>cases h
 rename_i v0 s0 els hg
 split at h
 case isFalse=>cases h
 rename_i hb
 obtain⟨rfl,rfl,rK⟩:=hb
 cases h
 have hg':(b++l)[id]? = some (.live v0 s0 els):=by rw[←zD];exact hg
 have hid:id<(b++l).length:=(List.getElem?_eq_some_iff.1 hg').1
 have hfn:=n4 (min xs.length len) w (Nat.min_le_left _ _) rfl
 have none_:∀base c0,a.eval y=.slice base 0 c0→len=0→zB P o a w F L b l (.v (.int .i64 (min xs.length len:Nat))) (qE b id (.live v0 s0 (els.take off++xs.take len++els.drop (off+min xs.length len)))) (sE b l id (.live v0 s0 (els.take off++xs.take len++els.drop (off+min xs.length len)))):=by
  intro base c0 hv hl0
  subst hl0
  have lT:els.take off++xs.take 0++els.drop (off+min xs.length 0)=els:=by simp
  rw[lT]
  have fT:(b++l).set id (.live v0 s0 els)=b++l:=by
   apply List.ext_getElem?
   intro j
   by_cases hj:id=j
   ·subst hj;rw[List.getElem?_set_self hid,hg']
   ·rw[List.getElem?_set_ne hj]
  have vD:(Builtin.copy_ #[t,u] o.type #[a.eval y,a.eval z]).run P w=.ok (goInt 0) w:=by
   simp at hfn
   cases base<;>simp[Builtin.copy_,run_underlying ht,FA hs,FC w,hv,hfn,storeCells]
  refine⟨goInt 0,w,L,.inl (LK _ _ vD),by simp[goInt];exact toN .i64 0,by rw[CD,fT];exact s,by rw[CD,fT];exact Step.refl _ _ _ _ _,YF _ _ _⟩
 generalize hv:a.eval y=vy at h1
 cases h1 with
 |slz _ _ _ b1 o1 z1 cap1 x1 hL xS=>exact none_ _ _ hv rfl
 |sln _ _ ad hL=>exact none_ _ _ hv rfl
 |sl _ _ _ _ b1 o1 z1 cap1 hL g1 g2 =>
   obtain⟨lc,k1,k2⟩:=s.row _ _ _ _ hg'
   rw[hL]at k1;cases k1
   obtain⟨rfl,k3,k4,cur,T,k5,k6,k7,k8⟩:=k2
   have jO:cur.toList.length=cur.size:=by simp
   have hmn:min xs.length len≤len:=Nat.min_le_right _ _
   have hmx:min xs.length len≤xs.length:=Nat.min_le_left _ _
   have ZF6:(off+min xs.length len)*z1≤cap1*z1:=Nat.mul_le_mul_right _ oM
   rw[Nat.add_mul]at ZF6
   have uS:min xs.length len*z1≤xs.length*z1:=Nat.mul_le_mul_right _ hmx
   have F8:(news.extract 0 (min xs.length len*z1)).toList.length=min xs.length len*z1:=by simp;omega
   have b8:∀v∈(news.extract 0 (min xs.length len*z1)).toList,v.oneCell'=true:=fun v hv2=>n3 v (by
    simp only[Array.toList_extract,List.extract_eq_take_drop,Nat.sub_zero,List.drop_zero]at hv2
    exact List.mem_of_mem_take hv2)
   have UH:=run_storeCells_at P b1 (o1+off*z1) T (news.extract 0 (min xs.length len*z1)).toList 0 cur w k5 (by rw[F8];omega) b8
   simp only[Nat.add_zero]at UH
   have vD:(Builtin.copy_ #[t,u] o.type #[a.eval y,a.eval z]).run P w=.ok (goInt (min xs.length len:Nat)) (w.setRow b1 (cur.toList.take (o1+off*z1)++(news.extract 0 (min xs.length len*z1)).toList++cur.toList.drop (o1+off*z1+(news.extract 0 (min xs.length len*z1)).toList.length)).toArray):=by
    have ZF7:Nat.min xs.length len=min xs.length len:=rfl
    simp only[Builtin.copy_,run_underlying ht,FA hs,FC w,hv,Sem.run_bind,Result.andThen_ok,ZF7,hfn,UH,Sem.run_pure,List.getElem?_toArray,List.getElem?_cons_zero,List.getElem?_cons_succ]
   have nN:(cur.toList.take (o1+off*z1)++(news.extract 0 (min xs.length len*z1)).toList++cur.toList.drop (o1+off*z1+(news.extract 0 (min xs.length len*z1)).toList.length)).toArray.size=cur.size:=by
    simp only[List.size_toArray,List.length_append,List.length_take,List.length_drop,F8,jO]
    omega
   have hget:∀i,(cur.toList.take (o1+off*z1)++(news.extract 0 (min xs.length len*z1)).toList++cur.toList.drop (o1+off*z1+(news.extract 0 (min xs.length len*z1)).toList.length)).toArray[i]? = if o1+off*z1≤i∧i<o1+off*z1+min xs.length len*z1 then news[i-(o1+off*z1)]? else cur[i]?:=by
    intro i
    have:=FH cur.toList (news.extract 0 (min xs.length len*z1)).toList (o1+off*z1) i (by rw[F8,jO];omega)
    simp only[List.getElem?_toArray]
    rw[this,F8]
    split
    ·rename_i ME
     simp only[Array.toList_extract,List.extract_eq_take_drop,Nat.sub_zero,List.drop_zero,List.getElem?_take]
     rw[if_pos oM]
     simp
    ·simp
   have htk:(els.take off).length=off:=by simp;omega
   have ZF8:(xs.take len).length=min xs.length len:=by simp[Nat.min_comm]
   have KG:∀k,(els.take off++xs.take len++els.drop (off+min xs.length len))[k]? = if off≤k∧k<off+min xs.length len then xs[k-off]? else els[k]?:=by
    intro k
    have:=FH els (xs.take len) off k (by rw[ZF8];omega)
    rw[ZF8]at this
    rw[this]
    split
    ·rename_i ME
     rw[List.getElem?_take,if_pos oM]
    ·rfl
   obtain⟨L',r1,r2,r3,r4⟩:=s.putRow (h':=(b++l).set id (.live v0 z1 (els.take off++xs.take len++els.drop (off+min xs.length len)))) (w':=w.setRow b1 (cur.toList.take (o1+off*z1)++(news.extract 0 (min xs.length len*z1)).toList++cur.toList.drop (o1+off*z1+(news.extract 0 (min xs.length len*z1)).toList.length)).toArray)
    id v0 z1 b1 o1 cap1 (els.take off++xs.take len++els.drop (off+min xs.length len)) rfl rfl rfl (by simp) (fun i _ hi=>setRow_other w b1 i _ hi) (.inr ⟨_,_,_,_,_,_,hg',hL⟩)
    (List.getElem?_set_self hid) (fun j hj=>List.getElem?_set_ne (Ne.symm hj)) (fun r hr=>by rw[hg']at hr;cases hr;exact⟨Nat.le_refl _,_,_,_,rfl⟩) (.inr hL)
    (by simp only[List.length_append,htk,ZF8,List.length_drop];omega) k4 _ T (setRow_heap w b1 cur _ T _ k5) (by rw[nN];exact k6)
    (fun k row hk=>by
     rw[KG]at hk
     split at hk
     ·exact n2.1 _ row hk
     ·exact k7 _ row hk)
    (fun k row j cc hk hj=>by
     rw[KG]at hk
     rw[hget]
     split at hk
     ·rename_i ME
      obtain⟨q1,u,q2,q3⟩:=n2.2 _ row j cc hk hj
      have FF:j<z1:=by rw[←n2.1 _ _ hk];exact (List.getElem?_eq_some_iff.1 hj).1
      have h5:k*z1=off*z1+(k-off)*z1:=by rw[←Nat.add_mul];congr 1;omega
      have:=bG (sz:=z1) (j:=j) (n:=1) (show k-off<min xs.length len by omega) oM
      refine⟨q1,u,?_,q3⟩
      rw[if_pos oM,show o1+k*z1+j-(o1+off*z1)=(k-off)*z1+j by omega]
      exact q2
     ·rename_i ME
      have FF:j<z1:=by rw[←k7 _ _ hk];exact (List.getElem?_eq_some_iff.1 hj).1
      rw[if_neg ?_]
      ·exact k8 k row j cc hk hj
      ·rintro⟨p1,p2⟩
       by_cases hko:k<off
       ·have:=bG (sz:=z1) (j:=j) (n:=1) hko oM;omega
       ·have h5:k*z1=off*z1+(k-off)*z1:=by rw[←Nat.add_mul];congr 1;omega
        have:=Nat.mul_le_mul_right z1 (show min xs.length len≤k-off by omega)
        omega)
   exact⟨_,_,L',.inl (LK _ _ vD),toN _ _,by rw[CD];exact r1,by rw[CD];exact r2,YF _ _ _⟩
end

section
variable {P:Program} {w:World} {F:Nat→Prop} {L:LMap} {o:Oper} {a:Act} {e:List AV} {b l b' l':List Row} {x:AV}

theorem qJ {α β:Type} {f:α→β} {y:Option α} {z:β} (h:y.map f=some z):∃q,y=some q∧z=f q:=by
 cases y with
 |none=>cases h
 |some q=>cases h;exact⟨q,rfl,rfl⟩
theorem mU {r:Nat} {es:Array MapEntry} {clk:Nat} (hb:w.heap[r]? = some (.map es clk)):(getObj r).run P w=.ok (.map es clk) w:=by
 simp[getObj,Sem.run,hb]
theorem Z3 {r:Nat} {es:Array MapEntry} {clk:Nat} (o:Obj) (hb:w.heap[r]? = some (.map es clk)):(setObj r o).run P w=.ok () {w with heap:=w.heap.setIfInBounds r o}:=by
 simp[setObj,Sem.run,hb]
theorem jR {a b:ByteArray} (h:(a==b)=true):a=b:=by
 rw[beq_toListBytes]at h
 have:=eq_of_beq h
 rw[ByteArray.toList_eq,ByteArray.toList_eq]at this
 obtain⟨x⟩:=a
 obtain⟨y⟩:=b
 simp at this
 rw[this]
theorem FJ (a:ByteArray):(a==a)=true:=by rw[beq_toListBytes];simp
def kOk:FK→AV→Bool
 |.i,.v (.int _ _)=>true
 |.b,.v (.bool _)=>true
 |.s,.v (.str _)=>true
 |_,_=>false
theorem eU {k:FK} {x y:AV} {r:Bool} (h:eqF k x y=some r):kOk k x=true:=by
 unfold eqF at h
 split at h<;>first|rfl|cases h

theorem GG {em:Bool} {n:Nat} {t:TypeId} {k:FK} (hk:iI P t=some k) {x:AV} {v:Value} (hx:RepA w F L x v) (ho:kOk k x=true):(Instr.checkKey em (n+1) t v).run P w=.ok () w:=by
 unfold iI at hk
 unfold kOk at ho
 split at ho
 ·rename_i kk m
  split at hk<;>first|(cases hk;done)|skip
  rename_i hd
  rw[tH hx]
  simp[Instr.checkKey,run_underlying hd]
 ·rename_i t
  split at hk<;>first|(cases hk;done)|skip
  rename_i hd
  rw[OK hx]
  simp[Instr.checkKey,run_underlying hd]
 ·rename_i t
  split at hk<;>first|(cases hk;done)|skip
  rename_i hd
  rw[DO hx]
  simp[Instr.checkKey,run_underlying hd]
 ·cases ho

theorem wH {em:Bool} {d:Nat}:∀{fs:List Field} {n:Nat} {ks:List FK} {xs ys:List AV} {vs:Array Value} {r:Bool},xK P n fs=some ks →
  MA w F L xs (vs.toList.drop n)→eqC ks xs ys=some r→(forIn fs PUnit.unit (fun f (_:PUnit)=>(if f.name≠ "_" then do
    let x ←part f.type vs f.offset
    Instr.checkKey em (d+1) f.type x
    pure (ForInStep.yield PUnit.unit)
   else pure (ForInStep.yield PUnit.unit):Sem (ForInStep PUnit)))).run P w=.ok PUnit.unit w
 |[],n,ks,xs,ys,vs,r,hp,hx,he=>by simp
 |f::fs,n,ks,xs,ys,vs,r,hp,hx,he=>by
   unfold xK at hp
   split at hp
   case isFalse=>cases hp
   rename_i hb
   obtain⟨xS,rS⟩:=hb
   split at hp
   case h_2=>cases hp
   rename_i k ks' hk hks
   cases hp
   cases xs with
   |nil=>simp[eqC]at he
   |cons x xs0 =>
   cases ys with
   |nil=>simp[eqC]at he
   |cons y ys0 =>
   simp only[eqC]at he
   cases hq:eqF k x y with
   |none=>simp[hq,rF]at he
   |some r1 =>
     cases kR:eqC ks' xs0 ys0 with
     |none=>simp[hq,kR,rF]at he
     |some r2 =>
       obtain⟨v,hv,hrv⟩:=hx.get (j:=0) (a:=x) rfl
       have hv':vs[n]? = some v:=by simpa using hv
       have CX:=sL hk
       have hpv:(part f.type vs f.offset).run P w=.ok v w:=by simp[part,XF CX,xS,hv']
       have hck:=GG (em:=em) (n:=d) hk hrv (eU hq)
       have tail:MA w F L xs0 (vs.toList.drop (n+1)):=by
        refine⟨by have:=hx.1;simp at this⊢;omega,fun i c' z' hc hz'=>?_⟩
        exact hx.2 (i+1) c' z' (by simpa using hc) (by
         rw[List.getElem?_drop]at hz'⊢
         rw[show n+(i+1)=n+1+i by omega];exact hz')
       have ih:=wH (em:=em) (d:=d) hks tail kR
       rw[List.forIn_cons]
       simp only[rS,ne_eq,not_false_eq_true,if_true,Sem.run_bind,hpv,Result.andThen_ok,hck,Sem.run_pure]
       exact ih

theorem GH {em:Bool} {d:Nat} {el:TypeId} {k:FK} (hk:iI P el=some k):∀{m n:Nat} {xs ys:List AV} {vs:Array Value} {r:Bool},
  MA w F L xs (vs.toList.drop n)→eqC (List.replicate m k) xs ys=some r→(hs:iD P el=some 1)→(forIn (List.range' n m) PUnit.unit (fun i (_:PUnit)=>(do
   let s ←sizeOf el
   let x ←part el vs (i*s)
   Instr.checkKey em (d+1) el x
   pure (ForInStep.yield PUnit.unit):Sem (ForInStep PUnit)))).run P w=.ok PUnit.unit w
 |0,n,xs,ys,vs,r,hx,he,hs=>by simp
 |m+1,n,xs,ys,vs,r,hx,he,hs=>by
   rw[List.replicate_succ]at he
   cases xs with
   |nil=>simp[eqC]at he
   |cons x xs0 =>
   cases ys with
   |nil=>simp[eqC]at he
   |cons y ys0 =>
   simp only[eqC]at he
   cases hq:eqF k x y with
   |none=>simp[hq,rF]at he
   |some r1 =>
     cases kR:eqC (List.replicate m k) xs0 ys0 with
     |none=>simp[hq,kR,rF]at he
     |some r2 =>
       obtain⟨v,hv,hrv⟩:=hx.get (j:=0) (a:=x) rfl
       have hv':vs[n]? = some v:=by simpa using hv
       have CX:=sL hk
       have hpv:(part el vs n).run P w=.ok v w:=by simp[part,XF CX,hv']
       have hck:=GG (em:=em) (n:=d) hk hrv (eU hq)
       have tail:MA w F L xs0 (vs.toList.drop (n+1)):=by
        refine⟨by have:=hx.1;simp at this⊢;omega,fun i c' z' hc hz'=>?_⟩
        exact hx.2 (i+1) c' z' (by simpa using hc) (by
         rw[List.getElem?_drop]at hz'⊢
         rw[show n+(i+1)=n+1+i by omega];exact hz')
       have ih:=GH (em:=em) (d:=d) hk tail kR hs
       rw[List.range'_succ,List.forIn_cons]
       simp only[Sem.run_bind,FA hs,Nat.mul_one,hpv,Result.andThen_ok,hck,Sem.run_pure]
       exact ih

theorem CJ {em:Bool} {n:Nat} {t:TypeId} {kk:KK} (hk:kkT P t=some kk) {x y:AV} {v:Value} {r:Bool} (hx:RepA w F L x v) (he:RC kk x y=some r):(Instr.checkKey em (n+2) t v).run P w=.ok () w:=by
 unfold kkT at hk
 split at hk
 ·rename_i fs ht
  split at hk
  case isFalse=>cases hk
  obtain⟨ks,hks,rfl⟩:=qJ hk
  unfold RC at he
  split at he<;>first|(cases he;done)|skip
  ·rename_i h;cases h
  ·rename_i xs ys h
   cases h
   obtain⟨vs,rfl,hl⟩:=hx.aggL
   have:=wH (em:=em) (d:=n) hks (vs:=vs) (by simpa using hl) he
   unfold Instr.checkKey
   simp only[Sem.run_bind,run_underlying ht,Result.andThen_ok]
   rw[←Array.forIn_toList]
   rw[this]
   simp
 ·rename_i m el ht
  split at hk
  case h_2=>cases hk
  rename_i k DN hs
  cases hk
  unfold RC at he
  split at he<;>first|(cases he;done)|skip
  ·rename_i h;cases h
  ·rename_i xs ys h
   cases h
   obtain⟨vs,rfl,hl⟩:=hx.aggL
   have:=GH (em:=em) (d:=n) DN (n:=0) (vs:=vs) (by simpa using hl) he hs
   unfold Instr.checkKey
   simp only[Sem.run_bind,run_underlying ht,Result.andThen_ok]
   rw[Std.Legacy.Range.forIn_eq_forIn_range']
   simp only[Std.Legacy.Range.size,Nat.sub_zero,Nat.add_sub_cancel,Nat.div_one]
   rw[this]
   simp
 ·obtain⟨k,hk2,rfl⟩:=qJ hk
  refine GG (n:=n+1) hk2 hx ?_
  simp only[RC]at he
  exact eU he
 ·cases hk

def JK (d:Nat) (el:TypeId) (xs ys:Array Value):List Nat→Sem Bool
 |[]=>pure true
 |i::is=>do
   let x ←part el xs (i*1)
   let y ←part el ys (i*1)
   let r ←Op.equalIn d el x y
   if r then JK d el xs ys is else pure false

theorem dI {d:Nat} {t el:TypeId} {m:Nat} {xs ys:Array Value} (ht:P.underlying t=some (.array m el)) (hs:iD P el=some 1) :
  (Op.equalIn (d+1) t (.agg xs) (.agg ys)).run P w=(JK d el xs ys (List.range' 0 m)).run P w:=by
 unfold Op.equalIn
 simp only[Sem.run_bind,run_underlying ht,Result.andThen_ok,FA hs]
 rw[Std.Legacy.Range.forIn_eq_forIn_range']
 simp only[Std.Legacy.Range.size,Nat.sub_zero,Nat.add_sub_cancel,Nat.div_one]
 generalize List.range' 0 m=is
 clear ht
 induction is generalizing w with
 |nil=>simp[JK]
 |cons i is ih =>
   simp only[List.forIn_cons,JK,Sem.run_bind,Sem.run_ite]
   generalize (part el xs (i*1)).run P w=r1
   cases r1 with
   |ok a w1 =>
     simp only[Result.andThen_ok]
     generalize (part el ys (i*1)).run P w1=r2
     cases r2 with
     |ok b w2 =>
       simp only[Result.andThen_ok]
       generalize (Op.equalIn d el a b).run P w2=r3
       cases r3 with
       |ok r w3 =>
         cases r
         ·simp only[Result.andThen_ok,Bool.not_false,if_true,Sem.run_pure,Bool.false_eq_true,if_false]
         ·simp only[Result.andThen_ok,Bool.not_true,Bool.false_eq_true,if_false,Sem.run_pure,if_true]
          exact ih
       |halt x w3=>simp[Result.andThen]
     |halt x w2=>simp[Result.andThen]
   |halt x w1=>simp[Result.andThen]

theorem dM {d:Nat} {el:TypeId} {k:FK} (hk:iI P el=some k):∀{m n:Nat} {xs ys:List AV} {vs us:Array Value} {r:Bool},
  MA w F L xs (vs.toList.drop n)→MA w F L ys (us.toList.drop n)→eqC (List.replicate m k) xs ys=some r→(JK (d+1) el vs us (List.range' n m)).run P w=.ok r w
 |0,n,xs,ys,vs,us,r,hx,hy,he=>by
   cases xs<;>cases ys<;>simp[eqC]at he
   subst he
   simp[JK]
 |m+1,n,xs,ys,vs,us,r,hx,hy,he=>by
   rw[List.replicate_succ]at he
   cases xs with
   |nil=>simp[eqC]at he
   |cons x xs0 =>
   cases ys with
   |nil=>simp[eqC]at he
   |cons y ys0 =>
   simp only[eqC]at he
   cases hq:eqF k x y with
   |none=>simp[hq,rF]at he
   |some r1 =>
     cases kR:eqC (List.replicate m k) xs0 ys0 with
     |none=>simp[hq,kR,rF]at he
     |some r2 =>
       simp[hq,kR,rF]at he
       obtain⟨v,hv,hrv⟩:=hx.get (j:=0) (a:=x) rfl
       obtain⟨u,hu,hru⟩:=hy.get (j:=0) (a:=y) rfl
       have hv':vs[n]? = some v:=by simpa using hv
       have hu':us[n]? = some u:=by simpa using hu
       have CX:=sL hk
       have hpv:(part el vs n).run P w=.ok v w:=by simp[part,XF CX,hv']
       have hpu:(part el us n).run P w=.ok u w:=by simp[part,XF CX,hu']
       have tail:∀{cs:List AV} {c:AV} {zs:Array Value},MA w F L (c::cs) (zs.toList.drop n)→MA w F L cs (zs.toList.drop (n+1)):=by
        intro cs c zs hz
        refine⟨by have:=hz.1;simp at this⊢;omega,fun i c' z' hc hz'=>?_⟩
        exact hz.2 (i+1) c' z' (by simpa using hc) (by
         rw[List.getElem?_drop]at hz'⊢
         rw[show n+(i+1)=n+1+i by omega];exact hz')
       have ZF5:=D1 (P:=P) (d:=d) hk hrv hru hq
       have ih:=dM (d:=d) hk (tail hx) (tail hy) kR
       rw[List.range'_succ]
       simp only[JK,Sem.run_bind,Nat.mul_one,hpv,hpu,Result.andThen_ok,ZF5,Sem.run_ite,ih,Sem.run_pure]
       subst he
       cases r1<;>simp

theorem ZCj (s:Sim F L (b++l) w) (he:YC w F L e a) {op:BinOp} {t u el:TypeId} {m:Nat} {k:FK} (ht:P.underlying t=some (.array m el)) (hk:iI P el=some k) (hs:iD P el=some 1)
  (hg:P.eqGuardType P.depth t=false) (hop:op=.eql∨op=.neq) {y z:Operand} {y' z':Opd} (ho:o.op=.binOp op t y z u) (hy:TA y=some y') (hz:TA z=some z')
  (h:aop e b l (.eqs (op==.neq) (List.replicate m k) y' z')=.val x b' l'):zB P o a w F L b l x b' l':=by
 have h1:=IA he hy
 have h2:=IA he hz
 simp only[aop]at h
 generalize ev e y'=q at *
 generalize ev e z'=r at *
 split at h
 case h_2=>cases h
 rename_i xs ys
 split at h
 case h_2=>cases h
 rename_i r hr
 cases h
 obtain⟨vs,e1,l1⟩:=h1.aggL
 obtain⟨us,e2,l2⟩:=h2.aggL
 have vD:=dM (P:=P) (d:=9998) hk (n:=0) (vs:=vs) (us:=us) (by simpa using l1) (by simpa using l2) hr
 have xV:=dI (P:=P) (w:=w) (d:=9999) (xs:=vs) (ys:=us) ht hs
 rw[vD]at xV
 rcases hop with rfl|rfl
 ·refine zB.pure s (v:=.bool r) ?_ (wT _)
  simp[execOp,ho,e1,e2,run_eqGuard_agg w _ t _ _ _ _ hg,run_eql_struct,xV]
 ·refine zB.pure s (v:=.bool (!r)) ?_ (wT _)
  simp[execOp,ho,e1,e2,run_eqGuard_agg w _ t _ _ _ _ hg,run_neq_struct,xV]

theorem sH {t:TypeId} {kk:KK} (hk:kkT P t=some kk) {x y:AV} {v u:Value} {r:Bool} (hx:RepA w F L x v) (hy:RepA w F L y u) (he:RC kk x y=some r):(Op.equal t v u).run P w=.ok r w:=by
 unfold Op.equal Op.maxDepth
 unfold kkT at hk
 split at hk
 ·rename_i fs ht
  split at hk
  case isFalse=>cases hk
  rename_i UH
  obtain⟨ks,hks,rfl⟩:=qJ hk
  unfold RC at he
  split at he<;>first|(cases he;done)|skip
  ·rename_i h;cases h
  ·rename_i xs ys h
   cases h
   obtain⟨vs,rfl,hl⟩:=hx.aggL
   obtain⟨us,rfl,nT⟩:=hy.aggL
   have hf:P.fieldsOf t=fs:=by simp[Program.fieldsOf,ht]
   have vD:=R1 (P:=P) (d:=9998) hks (vs:=vs) (us:=us) (by simpa using hl) (by simpa using nT) he
   have xV:=run_equalIn_struct w 9999 t vs us (by rw[hf];exact ht) UH
   rw[hf,vD]at xV
   exact xV
 ·rename_i m el ht
  split at hk
  case h_2=>cases hk
  rename_i k DN hs
  cases hk
  unfold RC at he
  split at he<;>first|(cases he;done)|skip
  ·rename_i h;cases h
  ·rename_i xs ys h
   cases h
   obtain⟨vs,rfl,hl⟩:=hx.aggL
   obtain⟨us,rfl,nT⟩:=hy.aggL
   rw[dI (d:=9999) ht hs]
   exact dM (P:=P) (d:=9998) DN (n:=0) (vs:=vs) (us:=us) (by simpa using hl) (by simpa using nT) he
 ·obtain⟨k,hk2,rfl⟩:=qJ hk
  simp only[RC]at he
  exact D1 (d:=9999) hk2 hx hy he
 ·cases hk

def cJ (w:World) (F:Nat→Prop) (L:LMap):List (List AV)→List MapEntry→Prop
 |[],[]=>True
 |row::els,e::es=>(∃x y,row=[x,y]∧RepA w F L x e.key∧RepA w F L y e.val)∧cJ w F L els es
 |_,_=>False
theorem cU:∀{els:List (List AV)} {es:List MapEntry},es.length=els.length→(∀(k:Nat) (row:List AV) (e:MapEntry),els[k]? = some row→es[k]? = some e→∃x y,row=[x,y]∧RepA w F L x e.key∧RepA w F L y e.val)→cJ w F L els es
 |[],[],_,_=>trivial
 |[],e::es,h,_=>by simp at h
 |r::els,[],h,_=>by simp at h
 |row::els,e::es,h,g=>⟨g 0 row e rfl rfl,cU (by simpa using h) (fun k row e hr he=>g (k+1) row e (by simpa using hr) (by simpa using he))⟩
theorem cJ.to:∀{els:List (List AV)} {es:List MapEntry},cJ w F L els es→es.length=els.length∧∀(k:Nat) (row:List AV) (e:MapEntry),els[k]? = some row→es[k]? = some e→∃x y,row=[x,y]∧RepA w F L x e.key∧RepA w F L y e.val
 |[],[],_=>⟨rfl,by simp⟩
 |[],e::es,h=>h.elim
 |r::els,[],h=>h.elim
 |row::els,e::es,h=>by
   obtain⟨h1,h2⟩:=cJ.to h.2
   refine⟨by simp[h1],fun k row' e' hr he=>?_⟩
   cases k with
   |zero=>simp at hr he;subst hr;subst he;exact h.1
   |succ k=>exact h2 k row' e' (by simpa using hr) (by simpa using he)

theorem lO {t:TypeId} {kk:KK} (hk:kkT P t=some kk) {x:AV} {v:Value} (hx:RepA w F L x v):∀{els:List (List AV)} {es:List MapEntry} {i:Nat} {r:Option AV},cJ w F L els es→VO kk x els=some r →
  ∃q,(Instr.findAsking t v es i).run P w=.ok q w∧(∀y,r=some y→∃j u,q=some (j,u)∧RepA w F L y u)∧(r=none→q=none)
 |[],[],i,r,_,h=>by
   simp[VO]at h
   subst h
   exact⟨none,rfl,by simp,fun _=>rfl⟩
 |[],e::es,i,r,h,_=>h.elim
 |row::els,[],i,r,h,_=>h.elim
 |row::els,e::es,i,r,h,hf=>by
   obtain⟨⟨y,u,rfl,h1,h2⟩,h3⟩:=h
   simp only[VO]at hf
   split at hf
   ·rename_i hq
    cases hf
    have:=sH hk hx h1 hq
    exact⟨some (i,e.val),by simp[Instr.findAsking,this],fun y hy=>by cases hy;exact⟨_,_,rfl,h2⟩,by simp⟩
   ·rename_i hq
    have:=sH hk hx h1 hq
    obtain⟨q,g1,g2⟩:=lO hk hx (i:=i+1) h3 hf
    exact⟨q,by simp[Instr.findAsking,this,g1],g2⟩
   ·cases hf

theorem PJ {t:TypeId} {d:TypeDesc} {kk:KK} (hd:P.underlying t=some d) (hk:kkT P t=some kk) {x y:AV} {v u:Value} {r c:Bool} (hx:RepA w F L x v) (hy:RepA w F L y u) (he:RC kk x y=some r) (hs:Instr.sameNow d v u=some c):c=r:=by
 unfold kkT at hk
 rw[hd]at hk
 unfold Instr.sameNow at hs
 split at hs
 ·simp only[iI,hd,Option.map_some,Option.some.injEq]at hk
  subst hk
  simp only[RC]at he
  unfold eqF at he
  split at he<;>first|(cases he;done)|skip
  ·have e1:=tH hx;have e2:=tH hy;cases e1;cases e2
   split at hs<;>split at he<;>simp_all
  ·have e1:=OK hx;cases e1
  ·have e1:=DO hx;cases e1
 ·simp only[iI,hd,Option.map_some,Option.some.injEq]at hk
  subst hk
  simp only[RC]at he
  unfold eqF at he
  split at he<;>first|(cases he;done)|skip
  ·have e1:=tH hx;cases e1
  ·have e1:=OK hx;cases e1
  ·have e1:=DO hx;have e2:=DO hy;cases e1;cases e2;simp_all
 ·simp only[iI,hd,Option.map_some,Option.some.injEq]at hk
  subst hk
  simp only[RC]at he
  unfold eqF at he
  split at he<;>first|(cases he;done)|skip
  ·have e1:=tH hx;cases e1
  ·have e1:=OK hx;have e2:=OK hy;cases e1;cases e2;simp_all
  ·have e1:=DO hx;cases e1
 ·cases hs

theorem rX {t:TypeId} {d:TypeDesc} {kk:KK} (hd:P.underlying t=some d) (hk:kkT P t=some kk) {x:AV} {v:Value} (hx:RepA w F L x v):∀{els:List (List AV)} {es:List MapEntry} {i:Nat} {r:Option AV} {q:Option (Nat×Value)},cJ w F L els es→VO kk x els=some r→Instr.findNow d v es i=some q →
  (∀y,r=some y→∃j u,q=some (j,u)∧RepA w F L y u)∧(r=none→q=none)
 |[],[],i,r,q,_,h,hn=>by
   simp[VO]at h
   subst h
   simp[Instr.findNow]at hn
   subst hn
   exact⟨by simp,fun _=>rfl⟩
 |[],e::es,i,r,q,h,_,_=>h.elim
 |row::els,[],i,r,q,h,_,_=>h.elim
 |row::els,e::es,i,r,q,h,hf,hn=>by
   obtain⟨⟨y,u,rfl,h1,h2⟩,h3⟩:=h
   simp only[VO]at hf
   simp only[Instr.findNow]at hn
   split at hf
   ·rename_i hq
    cases hf
    split at hn
    ·cases hn;exact⟨fun y hy=>by cases hy;exact⟨_,_,rfl,h2⟩,by simp⟩
    ·rename_i hs;have:=PJ hd hk hx h1 hq hs;cases this
    ·cases hn
   ·rename_i hq
    split at hn
    ·rename_i hs;have:=PJ hd hk hx h1 hq hs;cases this
    ·exact rX hd hk hx h3 hf hn
    ·cases hn
   ·cases hf

theorem wX {t:TypeId} {kk:KK} (hk:kkT P t=some kk):∃d,P.underlying t=some d:=by
 unfold kkT at hk
 cases h:P.underlying t with
 |none=>rw[h]at hk;cases hk
 |some d=>exact⟨d,rfl⟩

theorem LN {t:TypeId} {kk:KK} (hk:kkT P t=some kk) {x:AV} {v:Value} (hx:RepA w F L x v) {els:List (List AV)} {es:List MapEntry} {r:Option AV} (h:cJ w F L els es) (hf:VO kk x els=some r) :
  ∃q,(Instr.findKey t v es).run P w=.ok q w∧(∀y,r=some y→∃j u,q=some (j,u)∧RepA w F L y u)∧(r=none→q=none):=by
 obtain⟨d,hd⟩:=wX hk
 obtain⟨q,g1,g2,g3⟩:=lO hk hx (i:=0) h hf
 cases hn:Instr.findNow d v es 0 with
 |none=>exact⟨q,by simp[Instr.findKey,run_underlying hd,hn,g1],g2,g3⟩
 |some q' =>
   obtain⟨k1,k2⟩:=rX hd hk hx h hf hn
   exact⟨q',by simp[Instr.findKey,run_underlying hd,hn],k1,k2⟩

theorem m9 {t:TypeId} {z:AV} (hz:Z8 P t=some z):∃u,(zeroValue t).run P w=.ok u w∧RepA w F L z u:=by
 unfold Z8 at hz
 split at hz
 case h_2=>cases hz
 rename_i inf aT
 split at hz
 case h_2=>cases hz
 rename_i zz kU
 exact⟨zz,by simp[zeroValue,typeInfo,aT,kU],O4 hz⟩

theorem zR (c:Bool) {y:AV} {u:Value} (k:Bool) (h:RepA w F L y u):RepA w F L (comma c y k) (if c then .tuple #[u,.bool k] else u):=by
 unfold comma
 cases c
 ·simpa using h
 ·simp only[if_true]
  exact MA.tup (MA.cons h (MA.cons (wT _) MA.nil))

theorem Z6 (s:Sim F L (b++l) w) (he:YC w F L e a) {t kt el:TypeId} {kk:KK} {z:AV} {c:Bool} (ht:P.underlying t=some (.map kt el)) (hk:kkT P kt=some kk) (hz:Z8 P el=some z)
  {m y:Operand} {m' y':Opd} (ho:o.op=.lookup t m y c) (hm:TA m=some m') (hy:TA y=some y') (h:aop e b l (.lookup kk z c m' y')=.val x b' l'):zB P o a w F L b l x b' l':=by
 have h1:=IA he hm
 have h2:=IA he hy
 simp only[aop,AB]at h
 generalize ev e m'=q at *
 generalize ev e y'=r at *
 generalize hv:a.eval m=vm at h1
 split at h
 case isFalse=>cases h
 rename_i aM
 have hck:∀em,(Instr.checkKey em 10000 kt (a.eval y)).run P w=.ok () w:=fun em=>CJ (em:=em) (n:=9998) hk h2 aM
 obtain⟨u,hu,hru⟩:=m9 (w:=w) (F:=F) (L:=L) hz
 split at h
 ·cases h
  obtain rfl:vm=.map none:=by cases h1.vI;rfl
  refine zB.pure s (v:=if c then .tuple #[u,.bool false] else u) ?_ (zR c false hru)
  have hfk:(Instr.findKey kt (a.eval y) []).run P w=.ok none w:=by
   obtain⟨q,g1,_,g3⟩:=LN hk h2 (els:=[]) (es:=[]) (r:=none) (w:=w) (F:=F) (L:=L) trivial rfl
   rw[g1,g3 rfl]
  simp[execOp,ho,Instr.lookup,run_underlying ht,hv,hck,hfk,hu]
 ·rename_i id ver
  split at h
  case h_2=>cases h
  rename_i v sz els hg
  split at h
  case isFalse=>cases h
  rename_i hve
  subst hve
  cases h1 with
  |mp _ _ blk hL =>
  rw[zD]at hg
  obtain⟨lc,g1,g2⟩:=s.row _ _ _ _ hg
  rw[hL]at g1;cases g1
  obtain⟨es,clk,g3,g4,g5⟩:=g2
  have G8:cJ w F L els es.toList:=cU (by simpa using g4) (fun k row e hr he=>g5 k row e hr (by simpa using he))
  have hgo:=mU (P:=P) g3
  have hck':=hck es.isEmpty
  split at h
  ·rename_i y1 hf
   cases h
   obtain⟨q,k1,k2,_⟩:=LN hk h2 G8 hf
   obtain⟨j,u1,rfl,hu1⟩:=k2 _ rfl
   refine zB.pure s (v:=if c then .tuple #[u1,.bool true] else u1) ?_ (zR c true hu1)
   simp[execOp,ho,Instr.lookup,run_underlying ht,hv,hgo,hck',k1]
  ·rename_i hf
   cases h
   obtain⟨q,k1,_,k3⟩:=LN hk h2 G8 hf
   obtain rfl:=k3 rfl
   refine zB.pure s (v:=if c then .tuple #[u,.bool false] else u) ?_ (zR c false hru)
   simp[execOp,ho,Instr.lookup,run_underlying ht,hv,hgo,hck',k1,hu]
  ·cases h
 ·cases h

theorem tX {k:FK} {x y:AV} {v u:Value} (hx:RepA w F L x v) (hy:RepA w F L y u) (h:eqF k x y=some true):v=u∧∀n,Instr.sameBits n v v=true:=by
 unfold eqF at h
 split at h<;>first|(cases h;done)|skip
 ·split at h<;>simp at h
  rename_i hk
  subst hk;subst h
  rw[tH hx,tH hy]
  exact⟨rfl,fun n=>by cases n<;>simp[Instr.sameBits]⟩
 ·simp at h
  subst h
  rw[OK hx,OK hy]
  exact⟨rfl,fun n=>by cases n<;>simp[Instr.sameBits]⟩
 ·have h:=jR (by simpa using h)
  subst h
  rw[DO hx,DO hy]
  exact⟨rfl,fun n=>by cases n<;>simp[Instr.sameBits,FJ]⟩
theorem nX:∀{ks:List FK} {xs ys:List AV} {vs us:List Value},MA w F L xs vs→MA w F L ys us→eqC ks xs ys=some true→vs=us∧∀n,(vs.zip vs).all (fun p=>Instr.sameBits n p.1 p.2)=true
 |[],[],[],vs,us,hx,hy,h=>by
   have h1:vs=[]:=List.eq_nil_of_length_eq_zero hx.1.symm
   have h2:us=[]:=List.eq_nil_of_length_eq_zero hy.1.symm
   subst h1;subst h2
   exact⟨rfl,fun n=>rfl⟩
 |k::ks,x::xs,y::ys,vs,us,hx,hy,h=>by
   cases vs with
   |nil=>have:=hx.1;simp at this
   |cons v vs =>
   cases us with
   |nil=>have:=hy.1;simp at this
   |cons u us =>
   simp only[eqC]at h
   cases hq:eqF k x y with
   |none=>simp[hq,rF]at h
   |some r1 =>
     cases kR:eqC ks xs ys with
     |none=>simp[hq,kR,rF]at h
     |some r2 =>
       simp[hq,kR,rF]at h
       obtain⟨rfl,rfl⟩:=h
       have tl:∀{c:AV} {cs:List AV} {z:Value} {zs:List Value},MA w F L (c::cs) (z::zs)→MA w F L cs zs:=fun h=>⟨by simpa using h.1,fun i a v ha hv=>h.2 (i+1) a v (by simpa using ha) (by simpa using hv)⟩
       obtain⟨h1,h2⟩:=tX (hx.2 0 _ _ rfl rfl) (hy.2 0 _ _ rfl rfl) hq
       obtain⟨h3,h4⟩:=nX (tl hx) (tl hy) kR
       exact⟨by rw[h1,h3],fun n=>by simp[h2 n];simpa using h4 n⟩
 |[],_::_,_,_,_,_,_,h=>by simp[eqC]at h
 |[],[],_::_,_,_,_,_,h=>by simp[eqC]at h
 |_::_,[],_,_,_,_,_,h=>by simp[eqC]at h
 |_::_,_::_,[],_,_,_,_,h=>by simp[eqC]at h
theorem OY {kk:KK} {x y:AV} {v u:Value} (hx:RepA w F L x v) (hy:RepA w F L y u) (h:RC kk x y=some true):v=u∧Instr.sameBits 10000 v v=true:=by
 unfold RC at h
 split at h
 ·obtain⟨h1,h2⟩:=tX hx hy h
  exact⟨h1,h2 _⟩
 ·obtain⟨vs,rfl,hl⟩:=hx.aggL
  obtain⟨us,rfl,nT⟩:=hy.aggL
  obtain⟨h1,h2⟩:=nX hl nT h
  have:vs=us:=Array.toList_inj.1 h1
  subst this
  refine⟨rfl,?_⟩
  unfold Instr.sameBits
  simp only[beq_self_eq_true,Bool.true_and]
  exact h2 9999
 ·cases h

theorem cJ.snoc {x y:AV} {e1:MapEntry} (h1:RepA w F L x e1.key) (h2:RepA w F L y e1.val):∀{els:List (List AV)} {es:List MapEntry},cJ w F L els es→cJ w F L (els++[[x,y]]) (es++[e1])
 |[],[],_=>⟨⟨x,y,rfl,h1,h2⟩,trivial⟩
 |[],e::es,h=>h.elim
 |r::els,[],h=>h.elim
 |row::els,e::es,h=>⟨h.1,cJ.snoc h1 h2 h.2⟩
theorem cJ.setAt {x y:AV} {e1:MapEntry} (h1:RepA w F L x e1.key) (h2:RepA w F L y e1.val):∀{els:List (List AV)} {es:List MapEntry} {j:Nat},cJ w F L els es→cJ w F L (els.set j [x,y]) (es.set j e1)
 |[],[],_,_=>trivial
 |[],e::es,_,h=>h.elim
 |r::els,[],_,h=>h.elim
 |row::els,e::es,0,h=>⟨⟨x,y,rfl,h1,h2⟩,h.2⟩
 |row::els,e::es,j+1,h=>⟨h.1,cJ.setAt h1 h2 h.2⟩

def GQ (kk:KK) (x:AV):List (List AV)→Nat→Option (Option Nat)
 |[],_=>some none
 |[y,v]::r,i=>match RC kk x y with
   |some true=>some (some i)
   |some false=>GQ kk x r (i+1)
   |none=>none
 |_::_,_=>none
theorem M2 {kk:KK} {x v:AV}:∀{els els':List (List AV)} (i:Nat),Q2 kk x v els=some els'→∃r,GQ kk x els i=some r∧((r=none∧els'=els++[[x,v]])∨∃j,r=some (i+j)∧els'=els.set j [x,v])
 |[],els',i,h=>by simp[Q2]at h;subst h;exact⟨none,rfl,.inl ⟨rfl,rfl⟩⟩
 |[]::_,_,_,h=>by simp[Q2]at h
 |[_]::_,_,_,h=>by simp[Q2]at h
 |(_::_::_::_)::_,_,_,h=>by simp[Q2]at h
 |[y,u]::els,els',i,h=>by
   simp only[Q2]at h
   simp only[GQ]
   cases hq:RC kk x y with
   |none=>simp only[hq]at h;cases h
   |some c =>
     cases c with
     |true =>
       simp only[hq]at h⊢
       cases h
       exact⟨_,rfl,.inr ⟨0,rfl,rfl⟩⟩
     |false =>
       simp only[hq]at h⊢
       obtain⟨r,h1,rfl⟩:=qJ h
       obtain⟨q,g1,g2⟩:=M2 (i+1) h1
       refine⟨q,g1,?_⟩
       rcases g2 with ⟨rfl,rfl⟩|⟨j,rfl,rfl⟩
       ·exact .inl ⟨rfl,rfl⟩
       ·exact .inr ⟨j+1,by congr 1;omega,rfl⟩

theorem yQ {t:TypeId} {kk:KK} (hk:kkT P t=some kk) {x:AV} {v:Value} (hx:RepA w F L x v):∀{els:List (List AV)} {es:List MapEntry} {i:Nat} {r:Option Nat},cJ w F L els es→GQ kk x els i=some r →
  ∃q,(Instr.findAsking t v es i).run P w=.ok q w∧(∀j,r=some j→∃u,q=some (j,u))∧(r=none→q=none)
 |[],[],i,r,_,h=>by
   simp[GQ]at h
   subst h
   exact⟨none,rfl,by simp,fun _=>rfl⟩
 |[],e::es,i,r,h,_=>h.elim
 |row::els,[],i,r,h,_=>h.elim
 |row::els,e::es,i,r,h,hf=>by
   obtain⟨⟨y,u,rfl,h1,h2⟩,h3⟩:=h
   simp only[GQ]at hf
   split at hf
   ·rename_i hq
    cases hf
    have:=sH hk hx h1 hq
    exact⟨some (i,e.val),by simp[Instr.findAsking,this],fun y hy=>by cases hy;exact⟨_,rfl⟩,by simp⟩
   ·rename_i hq
    have:=sH hk hx h1 hq
    obtain⟨q,g1,g2⟩:=yQ hk hx (i:=i+1) h3 hf
    exact⟨q,by simp[Instr.findAsking,this,g1],g2⟩
   ·cases hf
theorem S3 {t:TypeId} {d:TypeDesc} {kk:KK} (hd:P.underlying t=some d) (hk:kkT P t=some kk) {x:AV} {v:Value} (hx:RepA w F L x v):∀{els:List (List AV)} {es:List MapEntry} {i:Nat} {r:Option Nat} {q:Option (Nat×Value)},cJ w F L els es→GQ kk x els i=some r→Instr.findNow d v es i=some q →
  (∀j,r=some j→∃u,q=some (j,u))∧(r=none→q=none)
 |[],[],i,r,q,_,h,hn=>by
   simp[GQ]at h
   subst h
   simp[Instr.findNow]at hn
   subst hn
   exact⟨by simp,fun _=>rfl⟩
 |[],e::es,i,r,q,h,_,_=>h.elim
 |row::els,[],i,r,q,h,_,_=>h.elim
 |row::els,e::es,i,r,q,h,hf,hn=>by
   obtain⟨⟨y,u,rfl,h1,h2⟩,h3⟩:=h
   simp only[GQ]at hf
   simp only[Instr.findNow]at hn
   split at hf
   ·rename_i hq
    cases hf
    split at hn
    ·cases hn;exact⟨fun y hy=>by cases hy;exact⟨_,rfl⟩,by simp⟩
    ·rename_i hs;have:=PJ hd hk hx h1 hq hs;cases this
    ·cases hn
   ·rename_i hq
    split at hn
    ·rename_i hs;have:=PJ hd hk hx h1 hq hs;cases this
    ·exact S3 hd hk hx h3 hf hn
    ·cases hn
   ·cases hf
theorem ZC9 {t:TypeId} {kk:KK} (hk:kkT P t=some kk) {x:AV} {v:Value} (hx:RepA w F L x v) {els:List (List AV)} {es:List MapEntry} {r:Option Nat} (h:cJ w F L els es) (hf:GQ kk x els 0=some r) :
  ∃q,(Instr.findKey t v es).run P w=.ok q w∧(∀j,r=some j→∃u,q=some (j,u))∧(r=none→q=none):=by
 obtain⟨d,hd⟩:=wX hk
 obtain⟨q,g1,g2,g3⟩:=yQ hk hx (i:=0) h hf
 cases hn:Instr.findNow d v es 0 with
 |none=>exact⟨q,by simp[Instr.findKey,run_underlying hd,hn,g1],g2,g3⟩
 |some q' =>
   obtain⟨k1,k2⟩:=S3 hd hk hx h hf hn
   exact⟨q',by simp[Instr.findKey,run_underlying hd,hn],k1,k2⟩
theorem ZBJ {kk:KK} {x:AV}:∀{els:List (List AV)} {es:List MapEntry} {i j:Nat},cJ w F L els es→GQ kk x els i=some (some j)→∃k e0 x0,j=i+k∧es[k]? = some e0∧RepA w F L x0 e0.key∧RC kk x x0=some true
 |[],[],i,j,_,h=>by simp[GQ]at h
 |[],e::es,i,j,h,_=>h.elim
 |row::els,[],i,j,h,_=>h.elim
 |row::els,e::es,i,j,h,hf=>by
   obtain⟨⟨y,u,rfl,h1,h2⟩,h3⟩:=h
   simp only[GQ]at hf
   split at hf
   ·rename_i hq
    cases hf
    exact⟨0,e,y,rfl,rfl,h1,hq⟩
   ·obtain⟨k,e0,x0,g1,g2,g3⟩:=ZBJ h3 hf
    exact⟨k+1,e0,x0,by omega,by simpa using g2,g3⟩
   ·cases hf

theorem IY (s:Sim F L (b++l) w) (he:YC w F L e a) {t kt el:TypeId} {kk:KK} (ht:P.underlying t=some (.map kt el)) (hk:kkT P kt=some kk)
  {m y z:Operand} {m' y' z':Opd} (ho:o.op=.mapUpdate t m y z) (hm:TA m=some m') (hy:TA y=some y') (hz:TA z=some z') (h:aop e b l (.mupdate kk m' y' z')=.val x b' l'):zB P o a w F L b l x b' l':=by
 have h1:=IA he hm
 have h2:=IA he hy
 have h3:=IA he hz
 simp only[aop,rB]at h
 generalize ev e m'=q at *
 generalize ev e y'=r at *
 generalize ev e z'=z1 at *
 generalize hv:a.eval m=vm at h1
 split at h
 case isFalse=>cases h
 rename_i aM
 have hck:(Instr.checkKey false 10000 kt (a.eval y)).run P w=.ok () w:=CJ (n:=9998) hk h2 aM
 split at h
 case h_2=>cases h
 rename_i id ver
 split at h
 case h_2=>cases h
 rename_i v sz els hg
 split at h
 case isFalse=>cases h
 rename_i hve
 subst hve
 split at h
 case h_2=>cases h
 rename_i els' hu
 cases h
 cases h1 with
 |mp _ _ blk hL =>
 rw[zD]at hg
 obtain⟨lc,g1,g2⟩:=s.row _ _ _ _ hg
 rw[hL]at g1;cases g1
 obtain⟨es,clk,g3,g4,g5⟩:=g2
 have G8:cJ w F L els es.toList:=cU (by simpa using g4) (fun k row e hr he=>g5 k row e hr (by simpa using he))
 have hgo:=mU (P:=P) g3
 have WM:blk<w.heap.size:=(Array.getElem?_eq_some_iff.1 g3).1
 have hid:id<(b++l).length:=(List.getElem?_eq_some_iff.1 hg).1
 obtain⟨r0,p1,p2⟩:=M2 0 hu
 obtain⟨q,k1,k2,k3⟩:=ZC9 hk h2 G8 p1
 obtain⟨es',clk',vD,hent'⟩:∃(es':Array MapEntry) (clk':Nat),(execOp a.eval o).run P w=.ok .skip {w with heap:=w.heap.setIfInBounds blk (.map es' clk')}∧cJ w F L els' es'.toList:=by
  rcases p2 with ⟨rfl,rfl⟩|⟨j,rfl,rfl⟩
  ·obtain rfl:=k3 rfl
   refine⟨es.push {key:=a.eval y,val:=a.eval z,born:=clk},clk+1,?_,?_⟩
   ·simp[execOp,ho,Instr.mapUpdate,run_underlying ht,hv,hgo,hck,k1,Z3 _ g3]
   ·rw[Array.toList_push]
    exact G8.snoc h2 h3
  ·obtain⟨u,rfl⟩:=k2 _ rfl
   obtain⟨k,e0,x0,hjk,he0,hx0,hq0⟩:=ZBJ G8 p1
   have hjk:j=k:=by omega
   subst hjk
   obtain⟨LH,G0⟩:=OY h2 hx0 hq0
   have he0':es[j]? = some e0:=by simpa using he0
   refine⟨es.modify j (fun e=>{e with key:=a.eval y,val:=a.eval z}),clk,?_,?_⟩
   ·have hks:(Instr.keyThatStays e0.key (a.eval y)).run P w=.ok (a.eval y) w:=by
     rw[←LH]
     simp[Instr.keyThatStays,G0]
    simp[execOp,ho,Instr.mapUpdate,run_underlying ht,hv,hgo,hck,k1,he0',hks,Z3 _ g3]
   ·have:(es.modify j (fun e=>{e with key:=a.eval y,val:=a.eval z})).toList=es.toList.set j {e0 with key:=a.eval y,val:=a.eval z}:=by
     have hj:j<es.size:=(Array.getElem?_eq_some_iff.1 he0').1
     apply List.ext_getElem?
     intro i
     rw[Array.getElem?_toList,Array.getElem?_modify,List.getElem?_set]
     by_cases hi:j=i
     ·subst hi;simp[hj,(Array.getElem?_eq_some_iff.1 he0').2]
     ·simp[hi]
    rw[this]
    exact G8.setAt h2 h3
 obtain⟨L',r1,r2,r3,r4⟩:=s.putLoc (h':=(b++l).set id (.live v sz els')) (w':={w with heap:=w.heap.setIfInBounds blk (.map es' clk')}) id v sz blk (.mp blk) els' (fun k hk=>hk.symm) rfl rfl rfl (by simp)
  (fun k hk KH=>by simp[Array.getElem?_setIfInBounds_ne (Ne.symm KH)]) (.inr ⟨v,sz,els,.mp blk,hg,hL,rfl⟩) (List.getElem?_set_self hid) (fun j hj=>List.getElem?_set_ne (Ne.symm hj))
  (fun r hr=>by rw[hg]at hr;cases hr;exact⟨Nat.le_refl _,_,_,_,rfl⟩) (.inr hL)
  (fun L' mono=>by
   obtain⟨q1,q2⟩:=hent'.to
   refine⟨es',clk',by simp[WM],by simpa using q1,fun k row e hr he=>?_⟩
   obtain⟨x1,y1,e1,e2,e3⟩:=q2 k row e hr (by simpa using he)
   exact⟨x1,y1,e1,mono _ _ e2,mono _ _ e3⟩)
 rw[←CD]at r1 r2
 exact⟨undef,_,L',.inr ⟨vD,rfl⟩,RepA.undef _ _ _,r1,r2,YF _ _ _⟩

theorem ZAA (s:Sim F L (b++l) w) {t:TypeId} {r:Option Operand} (ht:G1 (P.underlying t)=true) (hr:I1 r=true) (ho:o.op=.makeMap t r) (h:aop e b l .mkmap=.val x b' l'):zB P o a w F L b l x b' l':=by
 simp only[aop,mk]at h
 cases h
 have FC:(b++l).length=b.length+l.length:=by simp
 obtain⟨kt,el,hu⟩:∃kt el,P.underlying t=some (.map kt el):=by
  unfold G1 at ht
  split at ht
  ·rename_i h;exact⟨_,_,h⟩
  ·cases ht
 have vD:(execOp a.eval o).run P w=.ok (.value (.map (some w.heap.size))) (w.alloc (.map #[] 0)):=by
  unfold I1 at hr
  split at hr
  ·simp[execOp,ho,Instr.makeMap]
  ·simp[execOp,ho,Instr.makeMap,run_underlying hu,Act.eval,asInt,asIntOf]
  ·cases hr
 obtain⟨L',r1,r2,r3,r4⟩:=s.putLoc (h':=b++(l++[.live 0 0 []])) (w':=w.alloc (.map #[] 0)) (b.length+l.length) 0 0 w.heap.size (.mp w.heap.size) [] (fun k hk=>hk.symm) rfl rfl rfl (by show _≤(w.heap.push _).size;simp)
  (fun k hk _=>by show (w.heap.push _)[k]? = _;rw[Array.getElem?_push,if_neg oM]) (.inl (Nat.le_refl _))
  (by rw[←List.append_assoc,List.getElem?_append_right oM];simp)
  (fun j hj=>by
   rw[←List.append_assoc]
   by_cases FF:j<(b++l).length
   ·rw[List.getElem?_append_left FF]
   ·rw[List.getElem?_eq_none (by simp;omega),List.getElem?_eq_none oM])
  (fun r hr=>by rw[List.getElem?_eq_none oM]at hr;cases hr)
  (.inl (by
   cases hq:L (b.length+l.length) 0 with
   |none=>rfl
   |some q=>exact absurd (s.lt hq) oM))
  (fun L' mono=>⟨#[],0,by show (w.heap.push _)[w.heap.size]? = _;simp,rfl,by simp⟩)
 exact⟨_,_,L',.inl vD,.mp _ _ _ r3,r1,r2,rfl⟩

theorem ZCg (s:Sim F L (b++l) w) (he:YC w F L e a) {c:Call} {t kt el:TypeId} (ht:P.underlying t=some (.map kt el)) {y:Operand} {y':Opd} (hc:c.callee=.builtin .len) (ha:c.args.toList=[y]) (yU:c.argTypes.toList=[t]) (ho:o.op=.call c) (hy:TA y=some y')
  (h:aop e b l (.lenM y')=.val x b' l'):zB P o a w F L b l x b' l':=by
 have hr:=IA he hy
 simp only[aop]at h
 generalize ev e y'=q at *
 generalize hv:a.eval y=v at hr
 unfold dE at h
 split at h
 ·cases h
  obtain rfl:v=.map none:=by cases hr.vI;rfl
  refine zB.pure s (v:=goInt 0) ?_ (toN _ _)
  rw[GD ho hc ha yU]
  simp[invoke,builtin,hv,Builtin.len_,run_underlying ht]
 ·rename_i id ver
  split at h
  case h_2=>cases h
  rename_i v sz els hg
  split at h
  case isFalse=>cases h
  rename_i hve
  subst hve
  cases h
  cases hr with
  |mp _ _ blk hL =>
  rw[zD]at hg
  obtain⟨lc,g1,g2⟩:=s.row _ _ _ _ hg
  rw[hL]at g1;cases g1
  obtain⟨es,clk,g3,g4,g5⟩:=g2
  have hgo:=mU (P:=P) g3
  refine zB.pure s (v:=goInt es.size) ?_ (by rw[g4];exact toN _ _)
  rw[GD ho hc ha yU]
  simp[invoke,builtin,hv,Builtin.len_,run_underlying ht,hgo]
 ·cases h
end
theorem cfA {α:Type}:(Array.mk ([]:List α))=#[]:=rfl
theorem cfN (n:Nat):Int.negSucc n=-((n+1:Nat):Int):=rfl
structure CF (P:Program) (n:Nat) where
  c:AFunc
  h:dA P n=some c:=by
    conv=>lhs;(reduce;(try simp only[Int.ofNat_eq_natCast,Int.cast_ofNat_Int,Int.natCast_zero,Int.natCast_one,cfN,cfA,Nat.reduceAdd]))
end Go.Proofs.YtoccdlnoaindmaaGreatDoor
