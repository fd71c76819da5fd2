/- Texts of one proof, laid together: WG, B8, WU, NA, VR, DR, NB, DQ, NC, ND, N1, N2, N3, N4, N5. No condition. -/
import Derived.Test.YtmaokjojbjdpoaaGreatDoorWR2
import Derived.Test.YtmaokjojbjdpoaaGreatDoorWR3
import Derived.KernelRfl
import Derived.Test.YtmaokjojbjdpoaaGreatDoorProg
import Derived.Shelf.Spec.SlicesInsert
import Derived.Lib.AppendZerosOnto
set_option linter.unusedSimpArgs false
set_option maxHeartbeats 4000000
set_option maxRecDepth 100000
namespace Go.Proofs.YtmaokjojbjdpoaaGreatDoor
set_option maxHeartbeats 16000000
set_option maxRecDepth 100000
open Go.RowKit
set_option linter.unusedVariables false

section
variable {w:World} {F:Nat→Prop}
def P4 (w:World) (F:Nat→Prop) (b o:Nat) (row:List IV):Prop:=∀(j:Nat) (a:IV),row[j]? = some a→∃v,w.cell? ⟨b,o+j,none⟩=some v∧RepI w F a v

theorem BI {sz:Nat} {rows:List (List IV)} {v:Value} (h:RepI w F (.isl sz rows) v) :
  ∃A c,v=.slice A rows.length c∧rows.length≤c∧c≤maxLen∧(0<rows.length→∃b off,A=some ⟨b,off,none⟩∧F b∧∀(k:Nat) (row:List IV),rows[k]? = some row→row.length=sz∧P4 w F b (off+k*sz) row):=by
 cases h with
 |isl0 _ a c hm=>exact⟨a,c,rfl,aj _,hm,fun h=>by simp at h⟩
 |isl _ b off _ c val hF hc hm NN jG aW =>
   exact⟨_,c,rfl,hc,hm,fun _=>⟨b,off,rfl,hF,fun k row hk=>⟨NN k row hk,fun j a hj=>⟨_,jG k row j a hk hj,aW k row j a hk hj⟩⟩⟩⟩

theorem pT {sz:Nat} {rows:List (List IV)} {A:Option Addr} {c:Nat} (h1:rows.length≤c) (h2:c≤maxLen)
  (h:0<rows.length→∃b off,A=some ⟨b,off,none⟩∧F b∧∀(k:Nat) (row:List IV),rows[k]? = some row→row.length=sz∧P4 w F b (off+k*sz) row):RepI w F (.isl sz rows) (.slice A rows.length c):=by
 by_cases h0:0<rows.length
 ·obtain⟨b,off,rfl,hF,hr⟩:=h h0
  have cell:∀(k:Nat) (row:List IV) (j:Nat) (a:IV),rows[k]? = some row→row[j]? = some a→w.cell? ⟨b,off+k*sz+j,none⟩=some ((w.cell? ⟨b,off+k*sz+j,none⟩).getD undef):=by
   intro k row j a hk hj
   obtain⟨v,hv,_⟩:=(hr k row hk).2 j a hj
   rw[hv];rfl
  exact .isl rows b off sz c (fun k j=>(w.cell? ⟨b,off+k*sz+j,none⟩).getD undef) hF h1 h2 (fun k row hk=>(hr k row hk).1) cell (fun k row j a hk hj=>by
   obtain⟨v,hv,hr⟩:=(hr k row hk).2 j a hj
   rw[hv];exact hr)
 ·have:rows=[]:=cq oM
  subst this
  exact .isl0 _ _ _ h2

section
variable {α:Type} {sz:Nat} {R:World→Nat→Nat→α→Prop} {enc:α→List IV} {xs:List α} {v:Value}
theorem aK (hR:∀b o x,x∈xs→P4 w F b o (enc x)→R w b o x) (h:RepI w F (.isl sz (xs.map enc)) v):SlR sz R w v xs:=by
 obtain⟨A,c,h1,h2,h3,h4⟩:=BI h
 rw[aa]at h1 h2 h4
 refine⟨A,c,h1,h2,h3,fun h0=>?_⟩
 obtain⟨b,off,h5,h6,h7⟩:=h4 h0
 refine⟨b,off,h5,fun j x hx=>hR _ _ _ (ci hx) (h7 j (enc x) (by rw[an,hx];rfl)).2⟩

end

def eAsg (a:Asg):List IV:=[.int .i64 a.v,.int .i64 a.val]
def eEv (e:Ev):List IV:=[.int .i64 e.kind,.int .i64 e.peer,.int .i64 e.msg,.int .i64 e.time,.isl 2 (e.asg.map eAsg)]
def eVr (v:Vr):List IV:=[.str v.name,.int .i64 v.init]
def ePr (p:Pr):List IV:=[.str p.name,.isl 2 (p.vars.map eVr),.isl 5 (p.evs.map eEv)]
def eT (t:Tr):IV:=.isl 3 (t.map ePr)
def eI (n:Int):List IV:=[.int .i64 n]
def Nm (t:Tr):Prop:=∀p∈t,p.name.size≤maxLen∧∀v∈p.vars,v.name.size≤maxLen

theorem MN {k:IntKind} {n:Int} {b o j:Nat} {row:List IV} (h:P4 w F b o row) (hj:row[j]? = some (.int k n)):w.cell? ⟨b,o+j,none⟩=some (.int k n):=by
 obtain⟨v,hv,hr⟩:=h j _ hj
 cases hr;exact hv
theorem ZFA {s:ByteArray} {b o j:Nat} {row:List IV} (h:P4 w F b o row) (hj:row[j]? = some (.str s)):w.cell? ⟨b,o+j,none⟩=some (.string s):=by
 obtain⟨v,hv,hr⟩:=h j _ hj
 cases hr;exact hv
theorem ZJq {b o:Nat} {x:Asg} (h:P4 w F b o (eAsg x)):RAsg w b o x:=⟨MN (j:=0) h rfl,MN (j:=1) h rfl⟩
theorem vr_in {b o:Nat} {x:Vr} (hx:x.name.size≤maxLen) (h:P4 w F b o (eVr x)):RVr w b o x:=⟨ZFA (j:=0) h rfl,MN (j:=1) h rfl,hx⟩
theorem ev_in {b o:Nat} {x:Ev} (h:P4 w F b o (eEv x)):REv w b o x:=by
 obtain⟨v,h1,h2⟩:=h 4 _ rfl
 exact⟨MN (j:=0) h rfl,MN (j:=1) h rfl,MN (j:=2) h rfl,MN (j:=3) h rfl,v,h1,aK (fun _ _ _ _ h=>ZJq h) h2⟩
theorem pr_in {b o:Nat} {x:Pr} (hx:x.name.size≤maxLen∧∀v∈x.vars,v.name.size≤maxLen) (h:P4 w F b o (ePr x)):RPr w b o x:=by
 obtain⟨v,h1,h2⟩:=h 1 _ rfl
 obtain⟨u,h3,h4⟩:=h 2 _ rfl
 exact⟨⟨ZFA (j:=0) h rfl,hx.1⟩,⟨v,h1,aK (fun _ _ y hy h=>vr_in (hx.2 y hy) h) h2⟩,u,h3,aK (fun _ _ _ _ h=>ev_in h) h4⟩
theorem tr_in {t:Tr} {v:Value} (hn:Nm t) (h:RepI w F (eT t) v):SlR 3 RPr w v t:=aK (fun _ _ x hx h=>pr_in (hn x hx) h) h

section
end
end

section
variable {P:Program}
theorem QA.of_ext {f:Nat} {args:List AV} {b l:List Row} {Q:AV→List Row→List Row→Prop} (hf:∃fn,P.funcs[f]? = some fn∧(fn.name == "runtime.NumGoroutine")=false∧fn.body.isSome=true)
  (h:∀F L w (vs:Array Value),GA w F L args vs.toList→Calls P f vs w fun en w'=>Ext w w'∧∃v x,en=.returned v∧RepA w' F L x v∧Q x b l):QA P f args b l Q:=by
 refine⟨hf,fun F L w vs s hr=>Calls.mono (h F L w vs hr) ?_⟩
 rintro en w' ⟨he,v,x,h1,h2,h3⟩
 have ON:∀k,k<w.heap.size→w'.heap[k]? = w.heap[k]?:=he.block
 refine⟨v,x,b,l,F,L,h1,h2,⟨fun i v z els hi=>?_,s.born,s.apart,fun k hk=>⟨fe (s.imm k hk).1 he.size,(s.imm k hk).2⟩,s.glob.mono (fun _ h=>h) (fun k hk=>ON k (s.imm k hk).1)⟩,
  ⟨fun _ h=>h,fun _ _ _ _ h=>h,he.os,he.tape,he.output,he.size,fun k hk _=>ON k hk,fun _ _ h=>h,fun _ _ _ h=>h,fun _ _ h=>.inl h⟩,rfl,h3⟩
 obtain⟨q,g1,g2⟩:=s.row i v z els hi
 exact⟨q,g1,g2.mono (fun k hk=>ON k (g2.lt hk)) (fun _ _ hx=>hx.mono (fun _ h=>h) (fun k hk=>ON k (s.imm k hk).1) (fun _ _ _ h=>h))⟩

theorem QA.calls {f:Nat} {args:List AV} {Q:AV→List Row→List Row→Prop} (h:QA P f args [] [] Q) {w:World} {vs:Array Value} (hr:GA w (fun b=>b<w.heap.size) (fun _ _=>none) args vs.toList) (hG:ZDT w (fun b=>b<w.heap.size):=by intro _ _ h;cases h) :
  Calls P f vs w fun en w'=>∃v x b' l' F' L',en=.returned v∧RepA w' F' L' x v∧Ext w w'∧Q x b' l':=by
 have no:∀k,¬DC (fun _ _=>none) [] k:=by rintro k ⟨i,v,s,e1,q,h1,h2,h3⟩;cases h2
 refine Calls.mono (h.2 _ _ w vs ⟨fun i v z els hi=>by simp at hi,fun i v q hq=>(by cases hq),fun i i' v v' z z' e1 e2 bb q1 q2 h1=>by simp at h1,fun b hb=>⟨hb,no b⟩,hG⟩ hr) ?_
 rintro en w' ⟨v,x,b',l',F',L',h1,h2,h3,h4,h5,h6⟩
 exact⟨v,x,b',l',F',L',h1,h2,⟨h4.os,h4.tape,h4.output,h4.size,fun k hk=>h4.block k hk (no k)⟩,h6⟩
end
set_option linter.unusedSimpArgs false
def ZP (F0:Nat→Prop) (m0:Nat) (J:World→Prop) (e:List AV) (l:List Row) (a:Act) (w:World):Prop:=
 ∃F L,Sim F L ([]++l) w∧FB w F L e a∧(∀k,F0 k→F k)∧(∀k,F k→F0 k∨m0≤k)∧(∀k,DC L ([]++l) k→m0≤k)∧m0≤w.heap.size∧J w
def Low0 (m0:Nat) (A B:World):Prop:=Below m0 A B
structure KeepF (F0:Nat→Prop) (m0:Nat) (A B:World):Prop where
 size:A.heap.size≤B.heap.size
 os:B.os=A.os
 tape:B.tape=A.tape
 output:B.output=A.output
 same:∀k,k<A.heap.size→F0 k∨m0≤k→B.heap[k]? = A.heap[k]?
theorem KeepF.trans {F0:Nat→Prop} {m0:Nat} {A B C:World} (h:KeepF F0 m0 A B) (k:KeepF F0 m0 B C):KeepF F0 m0 A C:=
 ⟨dq h.size k.size,k.os.trans h.os,k.tape.trans h.tape,k.output.trans h.output,fun i hi hf=>(k.same i (fe hi h.size) hf).trans (h.same i hi hf)⟩
theorem KeepF.refl (F0:Nat→Prop) (m0:Nat) (A:World):KeepF F0 m0 A A:=⟨ai _,rfl,rfl,rfl,fun _ _ _=>rfl⟩
theorem OI {P:Program} {nn:Nat} {F0:Nat→Prop} {m0:Nat} {J:World→Prop} (hJ:∀A B,J A→Low0 m0 A B→J B) {code:Code} {ac:ACode} (hc:AH P code=some ac) {e:List AV} {B l:List Row} (hB:B=[]) {Q:AExit→List AV→List Row→List Row→Prop}
  (hr:run (QA P) VA ac e B l Q) {a:Act} {w:World} (h:ZP F0 m0 J e l a w) {K:Exit→Act→World→Prop}
  (hk:∀ex a' w' ax e' l',ExR ex ax→Q ax e' B l'→ZP F0 m0 J e' l' a' w'→K ex a' w'):code.wpIn Fence.wide nn P K a w:=by
 subst hB
 obtain⟨F,L,s,he,h1,h2,h3,h4,h5⟩:=h
 refine wpIn_mono (P5 (fun _ _ _ _ _ h=>h) aD code ac hc e [] l Q hr F L w a s he) ?_
 rintro ex a' w' ⟨ax,e',b',l',F',L',hex,s',he',st,hb,hq⟩
 obtain rfl:b'=[]:=cq hb
 have EF:∀k,DC L' ([]++l') k→m0≤k:=fun k hk=>by
  rcases bp k w.heap.size with yA|yH
  ·exact h3 k (st.own k yA hk)
  ·omega
 refine hk ex a' w' ax e' l' hex hq ⟨F',L',s',he',fun k hk=>st.imm k (h1 k hk),fun k hk=>?_,EF,dq h4 st.size,hJ w w' h5 ⟨st.os,st.tape,st.output,st.size,fun k hk=>st.block k oM (fun ho=>by have:=h3 k ho;omega)⟩⟩
 rcases bp k w.heap.size with yA|yH
 ·rcases st.fnew k yA hk with hf|ho
  ·exact h2 k hf
  ·exact .inr (h3 k ho)
 ·exact .inr oM
theorem ZP.keep {F0:Nat→Prop} {m0:Nat} {J J':World→Prop} {e:List AV} {l:List Row} {a:Act} {w w':World} (h:ZP F0 m0 J e l a w) (k:KeepF F0 m0 w w') (hg:gtab=none) (hJ:J' w'):ZP F0 m0 J' e l a w':=by
 obtain⟨F,L,s,he,h1,h2,h3,h4,h5⟩:=h
 have hF:∀b,F b→w'.heap[b]? = w.heap[b]?:=fun b hb=>k.same b (s.imm b hb).1 (h2 b hb)
 refine⟨F,L,⟨fun i ver z els hi=>?_,s.born,s.apart,fun b hb=>⟨fe (s.imm b hb).1 k.size,(s.imm b hb).2⟩,fun g t ht=>by rw[hg]at ht;cases ht⟩,he.mono (fun _ h=>h) hF (fun _ _ _ h=>h),h1,h2,h3,dq h4 k.size,hJ⟩
 obtain⟨q,g1,g2⟩:=s.row i ver z els hi
 exact⟨q,g1,g2.mono (fun b hb=>k.same b (g2.lt hb) (.inr (h3 b ⟨i,ver,z,els,q,hi,g1,hb⟩))) (fun _ _ h=>h.mono (fun _ h=>h) hF (fun _ _ _ h=>h))⟩
theorem ZBz {w:World} {F:Nat→Prop} {L:LMap} {args:List AV} {us:Array Value} (h:GA w F L args us.toList) (N:Nat) (hN:args.length≤N) :
  FB w F L (kOf N (fun i=>args.getD i (.tup []))) {tmps:=us++Array.replicate (N-us.size) undef,defers:=[]}:=by
 have hl:us.size=args.length:=by have:=h.1;simpa using this.symm
 refine⟨rfl,by rw[mI];simp only[cf,Array.size_replicate];omega,fun i x v hx hv=>?_⟩
 rw[YF]at hx
 split at hx
 case isFalse=>cases hx
 rename_i hi
 cases hx
 by_cases h2:i<us.size
 ·rw[ck h2]at hv
  rw[au,ah oM]
  exact h.2 i _ v (ah oM) (by simpa using hv)
 ·rw[ei oM,Array.getElem?_replicate]at hv
  rw[au,cg oM]
  split at hv
  ·cases hv;exact RepA.undef _ _ _
  ·cases hv
end Go.Proofs.YtmaokjojbjdpoaaGreatDoor
namespace Go.Proofs.YtmaokjojbjdpoaaGreatDoor
set_option linter.unusedVariables false
set_option linter.unusedSimpArgs false

inductive IVle:IV→IV→Prop where
 |refl (x:IV):IVle x x
 |zsl (sz:Nat):IVle .zsl (.isl sz [])
 |isl (sz:Nat) (rows rows':List (List IV)) (hl:rows.length=rows'.length) (cU:∀(k:Nat) (row row':List IV),rows[k]? = some row→rows'[k]? = some row'→row.length=row'.length)
   (hr:∀(k:Nat) (row row':List IV) (j:Nat) (a a':IV),rows[k]? = some row→rows'[k]? = some row'→row[j]? = some a→row'[j]? = some a'→IVle a a'):IVle (.isl sz rows) (.isl sz rows')

theorem RepI.le {w:World} {F:Nat→Prop} {x y:IV} (h:IVle x y):∀{v:Value},RepI w F x v→RepI w F y v:=by
 induction h with
 |refl x=>exact fun h=>h
 |zsl sz=>intro v h;cases h;exact .isl0 _ _ _ (aj _)
 |isl sz rows rows' hl cU hr ih =>
   intro v h
   obtain⟨A,c,rfl,h2,h3,h4⟩:=BI h
   rw[hl]at h2 h4⊢
   refine pT h2 h3 (fun h0=>?_)
   obtain⟨b,off,h5,h6,h7⟩:=h4 h0
   refine⟨b,off,h5,h6,fun k row' hk'=>?_⟩
   have hk:k<rows.length:=by rw[hl];exact (am.1 hk').1
   obtain⟨g1,g2⟩:=h7 k rows[k] (ah hk)
   have hll:=cU k rows[k] row' (ah hk) hk'
   refine⟨by rw[←hll];exact g1,fun j a' hj'=>?_⟩
   have hj:j<rows[k].length:=by rw[hll];exact (am.1 hj').1
   obtain⟨v,hv,aW⟩:=g2 j rows[k][j] (ah hj)
   exact⟨v,hv,ih k _ _ j _ _ (ah hk) hk' (ah hj) hj' aW⟩

def QN:List (List IV)→List (List IV)→Prop
 |[],[]=>True
 |r::rs,q::qs=>(r.length=q.length∧∀(j:Nat) (a a':IV),r[j]? = some a→q[j]? = some a'→IVle a a')∧QN rs qs
 |_,_=>False
theorem QN.len:∀{r q:List (List IV)},QN r q→r.length=q.length
 |[],[],_=>rfl
 |_::_,_::_,h=>by simp[QN.len h.2]
 |[],_::_,h=>h.elim
 |_::_,[],h=>h.elim
theorem QN.get:∀{r q:List (List IV)},QN r q→∀(k:Nat) (row row':List IV),r[k]? = some row→q[k]? = some row'→row.length=row'.length∧∀(j:Nat) (a a':IV),row[j]? = some a→row'[j]? = some a'→IVle a a'
 |[],[],_,k,row,row',h,_=>by simp at h
 |r::rs,q::qs,h,k,row,row',h1,h2=>by
   cases k with
   |zero=>simp at h1 h2;subst h1;subst h2;exact h.1
   |succ k=>simp at h1 h2;exact QN.get h.2 k row row' h1 h2
 |[],_::_,h,_,_,_,_,_=>h.elim
 |_::_,[],h,_,_,_,_,_=>h.elim
theorem IVle.rows {sz:Nat} {r q:List (List IV)} (h:QN r q):IVle (.isl sz r) (.isl sz q):=
 .isl sz r q h.len (fun k row row' h1 h2=>(h.get k row row' h1 h2).1) (fun k row row' j a a' h1 h2=>(h.get k row row' h1 h2).2 j a a')

inductive AVle:AV→AV→Prop where
 |refl (x:AV):AVle x x
 |v (x y:IV) (h:IVle x y):AVle (.v x) (.v y)
 |agg (cs ds:List AV) (hl:cs.length=ds.length) (h:∀(i:Nat) (a c:AV),cs[i]? = some a→ds[i]? = some c→AVle a c):AVle (.agg cs) (.agg ds)
theorem RepA.le {w:World} {F:Nat→Prop} {L:LMap} {x y:AV} (h:AVle x y):∀{v:Value},RepA w F L x v→RepA w F L y v:=by
 induction h with
 |refl x=>exact fun h=>h
 |v x y h=>intro v hx;exact .v _ _ (hx.vI.le h)
 |agg cs ds hl h ih =>
   intro v hx
   obtain⟨vs,rfl,hr⟩:=hx.aggL
   refine GA.agg ⟨by rw[←hl];exact hr.1,fun i c u hc hu=>?_⟩
   have hi:i<cs.length:=by rw[hl];exact (am.1 hc).1
   exact ih i cs[i] c (ah hi) hc (hr.2 i _ u (ah hi) hu)
theorem QA.le {P:Program} {f:Nat} {args args':List AV} {b l:List Row} {Q:AV→List Row→List Row→Prop} (h:QA P f args b l Q) (hl:args'.length=args.length) (LJ:∀(i:Nat) (a c:AV),args'[i]? = some a→args[i]? = some c→AVle a c):QA P f args' b l Q:=
 ⟨h.1,fun F L w vs s hr=>h.2 F L w vs s ⟨by rw[←hl];exact hr.1,fun i c v hc hv=>by
  have hi:i<args'.length:=by rw[hl];exact (am.1 hc).1
  exact RepA.le (LJ i args'[i] c (ah hi) hc) (hr.2 i _ v (ah hi) hv)⟩⟩
theorem VA.le {e e':List AV} {b l:List Row} (hl:e.length=e'.length) (h:∀(i:Nat) (x y:AV),e[i]? = some x→e'[i]? = some y→AVle x y):VA e b l e' b l:=by
 intro F L w a s GU
 refine⟨F,L,s,⟨GU.1,by rw[←hl];exact GU.2.1,fun i y v hy hv=>?_⟩,Step.refl _ _ _ _ _,rfl⟩
 have hi:i<e.length:=by rw[hl];exact (am.1 hy).1
 exact RepA.le (h i e[i] y (ah hi) hy) (GU.2.2 i _ v (ah hi) hv)
def wK (sz:Nat):AFunc:=⟨2,19,[.tmp 4],
 (.seq (.region [⟨(some 4),.mv (.c (.v (.int .i64 0))),none⟩])
 (.seq (.seq (.region [⟨(some 6),.mv (.t 0),none⟩,⟨(some 7),.len (.t 6),none⟩,⟨(some 8),.mv (.c (.v (.int .i64 0))),none⟩])
 (.block 0 (.loop (.seq (.region [⟨(some 9),.bin .lss (.t 8) (.t 7),none⟩])
 (.seq (.cond (.t 9) .skip
 (.exit 0))
 (.seq (.block 1 (.seq (.region [⟨(some 10),.mv (.t 8),none⟩,⟨(some 5),.mv (.t 10),none⟩])
 (.seq (.region [⟨(some 11),.mv (.t 1),none⟩,⟨(some 12),.mv (.t 0),none⟩,⟨(some 13),.mv (.t 5),none⟩,⟨(some 14),.iaddr sz (.t 12) (.t 13),none⟩,⟨(some 15),.load (some sz) (.t 14),none⟩,⟨(some 16),.call (.t 11) [(.t 15)],none⟩])
 (.cond (.t 16) (.seq (.region [⟨(some 17),.mv (.t 5),none⟩,⟨(some 4),.mv (.t 17),none⟩])
 .ret)
 .skip))))
 (.region [⟨(some 18),.bin .add (.t 8) (.c (.v (.int .i64 1))),none⟩,⟨(some 8),.mv (.t 18),none⟩])))))))
 (.seq (.region [⟨(some 4),.mv (.c (.v (.int .i64 (-1)))),none⟩])
 .ret)))⟩
def GH (g:Nat):AFunc:=⟨2,9,[.tmp 4],
 (.seq (.region [⟨(some 4),.mv (.c (.v (.bool false))),none⟩])
 (.seq (.region [⟨(some 5),.mv (.t 0),none⟩,⟨(some 6),.mv (.t 1),none⟩,⟨(some 7),.call (.c (.fn g [])) [(.t 5),(.t 6)],none⟩,⟨(some 8),.bin .geq (.t 7) (.c (.v (.int .i64 0))),none⟩,⟨(some 4),.mv (.t 8),none⟩])
 .ret))⟩
def pY (p:Nat→Bool) (n:Nat):Int:=match (List.range n).find? p with
 |some i=>i
 |none=>-1
theorem lX {p:Nat→Bool} {n i:Nat} (h:i<n) (h0:∀j,j<i→p j=false) (hi:p i=true):pY p n=i:=by
 have hf:(List.range n).find? p=some i:=by
  rw[show n=i+(1+(n-i-1)) by omega,kg,fc]
  have:(List.range i).find? p=none:=by
   rw[db];intro q hq;simp[h0 q (ba.1 hq)]
  rw[this,gz 1,ln]
  simp[hi]
 unfold pY;rw[hf]
theorem jP {p:Nat→Bool} {n:Nat} (h0:∀j,j<n→p j=false):pY p n=-1:=by
 have:(List.range n).find? p=none:=by
  rw[db];intro q hq;simp[h0 q (ba.1 hq)]
 unfold pY;rw[this]
section
attribute [local go_sem ↓] xC UB iC rC wD fB uC gD dC mD LA lB wC MA mB kC QB GB lC KB FA sC eB bB vB aB yB JC nB xD tC uD iD eE pD bE aE
attribute [local go_sem] zB EA YE wB ZB fE tD sD rD C2 O2 M0 C0 rT P2 KL zL nD nC pC mC YD lA UC AA VC CA qB aop AE QE TD LC MD GC LD AJ XG GF amm zF aC MB sF SD IF comma ZD QG EJ ZG AF wJ dF uF vE yJ eqC eqF aG cellsOf rB bC RB iF NI rd rdI IE mk fD AV.cell List.all_cons List.all_nil Bool.and_true Bool.true_and Bool.and_self List.length_cons List.length_nil List.length_append Nat.reduceAdd Nat.reduceSub Nat.reduceMul Nat.zero_add Nat.add_zero List.replicate_succ List.replicate_zero List.cons_append List.nil_append List.append_assoc List.append_nil List.getElem?_cons_zero List.getElem?_cons_succ List.getElem?_nil List.set_cons_zero List.set_cons_succ List.drop_zero List.drop_succ_cons List.take_zero List.take_succ_cons List.take_nil List.drop_nil List.map_cons List.map_nil Option.map_some if_true if_false Bool.false_eq_true and_self true_and and_true Nat.reduceLeDiff Nat.reduceLT Nat.le_refl Nat.reduceEqDiff ite_true ite_false beq_self_eq_true beq_true beq_false Bool.not_true Bool.not_false Bool.true_beq Bool.false_beq lE SB iB jD kD yC vC jC qC yD vD mE pA YL sK JL XL rG iG sG dG geI gtI tG decide_true decide_false room List.getElem?_map List.length_map List.length_take Int.toNat_natCast Nat.min_def Nat.min_self List.getElem_cons_zero List.getElem_cons_succ
theorem M6 {P:Program} {f sz:Nat} (hf:qA P f=some (wK sz)) (rows:List (List IV)) (k:Nat) (caps:List AV) (p:Nat→Bool) (IB:∀row∈rows,row.length=sz) (hn:rows.length≤1000000) (b l:List Row)
  (hp:∀(i:Nat) (row:List IV),rows[i]? = some row→QA P k ([.agg (row.map .v)]++caps) (b++l) [] (fun r b' l'=>r=.v (.bool (p i))∧b'=b++l∧l'=[])) :
  QA P f [.v (.isl sz rows),.fn k caps] b l (fun r b' l'=>r=.v (.int .i64 (pY p rows.length))∧b'=b∧l'=l):=by
 refine TT hf rfl ?_
 intro B hB hR hA
 simp only[wK,go_sem]
 refine pP (ι:=Nat) (fun i=>[.v (.isl sz rows),.fn k caps,.any,.any,.any,.any,.any,.v (.int .i64 rows.length),.v (.int .i64 i),.any,.any,.any,.any,.any,.any,.any,.any,.any,.any])
  (fun _=>B) (fun _=>[]) (fun i=>i≤rows.length∧∀j,j<i→p j=false) (fun i=>rows.length-i) 0 ⟨aj _,fun j hj=>by omega⟩ (VA.forget (by simp[Fgt])) ?_
 rintro i ⟨hi,h0⟩
 by_cases yA:i<rows.length
 ·have hl:=IB rows[i] (ak yA)
  have ht:List.take sz rows[i]=rows[i]:=bo oM
  simp (disch:=omega) only[ht,go_sem]
  refine aD _ _ _ _ _ _ (hB▸hp i rows[i] (ah yA)) ?_
  rintro r b' l' ⟨rfl,rfl,rfl⟩
  simp (disch:=omega) only[go_sem]
  refine ZBq (fun h=>?_) (fun h=>?_)
  ·simp (disch:=omega) only[go_sem]
   exact DA (.inr rfl) rfl (.v _) hR hB ⟨by rw[lX yA h0 h];rfl,rfl,rfl⟩
  ·simp (disch:=omega) only[go_sem]
   refine⟨i+1,⟨yA,fun j hj=>?_⟩,by simp only;omega,VA.forget (by simp[Fgt])⟩
   rcases bp j i with YG|YG
   ·exact h0 j YG
   ·have:j=i:=by omega
    rw[this];exact h
 ·simp (disch:=omega) only[go_sem]
  obtain rfl:i=rows.length:=by omega
  exact DA (.inr rfl) rfl (.v _) hR hB ⟨by rw[jP h0];rfl,rfl,rfl⟩

theorem ZGX {p:Nat→Bool} {n:Nat}:decide (pY p n≥0)=(List.range n).any p:=by
 unfold pY
 cases h:(List.range n).find? p with
 |none =>
   have:=db.1 h
   have hn:(List.range n).any p=false:=by rw[ga];exact this
   rw[hn];rfl
 |some i =>
   have h1:=ge h
   have h2:=fk h
   have hn:(List.range n).any p=true:=fj.2 ⟨i,h2,h1⟩
   rw[hn];simp

theorem qD {P:Program} {f g sz:Nat} (hf:qA P f=some (GH g)) (hg:qA P g=some (wK sz)) (rows:List (List IV)) (k:Nat) (caps:List AV) (p:Nat→Bool) (IB:∀row∈rows,row.length=sz) (hn:rows.length≤1000000) (b l:List Row)
  (hp:∀(i:Nat) (row:List IV),rows[i]? = some row→QA P k ([.agg (row.map .v)]++caps) (b++l) [] (fun r b' l'=>r=.v (.bool (p i))∧b'=b++l∧l'=[])) :
  QA P f [.v (.isl sz rows),.fn k caps] b l (fun r b' l'=>r=.v (.bool ((List.range rows.length).any p))∧b'=b∧l'=l):=by
 refine TT hf rfl ?_
 intro B hB hR hA
 simp only[GH,go_sem]
 refine aD _ _ _ _ _ _ (M6 hg rows k caps p IB hn B [] (by rw[ct,hB];exact hp)) ?_
 rintro r b' l' ⟨rfl,rfl,rfl⟩
 simp only[go_sem]
 exact DA (.inr rfl) rfl (.v _) hR hB ⟨by rw[←ZGX];rfl,rfl,rfl⟩
end
structure Ms where
 fr:Int
 to:Int
 nu:Int
 body:List Int
structure Nw where
 now:Int
 fifo:Bool
 l:List Ms
 tm:List Int
 fates:List (Int×Int)
theorem Nw.eq_iff {a c:Nw}:a=c↔a.now=c.now∧a.fifo=c.fifo∧a.l=c.l∧a.tm=c.tm∧a.fates=c.fates:=by cases a;cases c;simp
def eMs (m:Ms):List IV:=[.int .i64 m.fr,.int .i64 m.to,.int .i64 m.nu,.isl 1 (m.body.map eI)]
def eFt (f:Int×Int):List IV:=[.int .i64 f.1,.int .i64 f.2]
def eNw (n:Nw):List IV:=[.int .i64 n.now,.bool n.fifo,.isl 4 (n.l.map eMs),.isl 1 (n.tm.map eI),.isl 2 (n.fates.map eFt)]
def dfMs:Ms:=⟨0,0,0,[]⟩
def nw0:Nw:=⟨0,false,[],[],[]⟩
def ptB (p:Int):Bool:=decide (0≤p∧p≤7)
def vlB (n:Int):Bool:=decide (-1073741824≤n∧n≤1073741824)
def msB (m:Ms):Bool:=ptB m.fr&&(ptB m.to&&(decide (m.fr≠m.to)&&(decide (0≤m.nu∧m.nu≤199)&&(decide (m.body.length≤20)&&m.body.all vlB))))
def ftB (f:Int×Int):Bool:=decide ((0≤f.1∧f.1≤3)∧0≤f.2∧f.2≤1000000)
def D4 (l:List (Int×Int)):Bool:=l.all ftB
def mtB (n:Nw) (i:Nat):Bool:=msB (n.l.getD i dfMs)&&decide (0≤n.tm.getD i 0∧n.tm.getD i 0≤1099512627776∧(0<i→n.tm.getD (i-1) 0≤n.tm.getD i 0))
def nwB (n:Nw):Bool:=decide (0≤n.now∧n.now≤1099511627776)&&(decide (n.l.length=n.tm.length)&&(decide (n.l.length≤1000)&&(decide (n.fates.length≤1000)&&(D4 n.fates&&(List.range n.l.length).all (mtB n)))))
structure NwS (n:Nw):Prop where
 l:n.l.length≤1000000
 tm:n.tm.length≤1000000
 fates:n.fates.length≤1000000
 body:∀m∈n.l,m.body.length≤1000000
structure NwV (n:Nw):Prop where
 now:0≤n.now∧n.now≤1099511627776
 len:n.l.length=n.tm.length
 l:n.l.length≤1000
 fl:n.fates.length≤1000
 fates:∀f∈n.fates,ftB f=true
 ms:∀m∈n.l,msB m=true
 tm:∀t∈n.tm,0≤t∧t≤1099512627776
 mono:∀i,i+1<n.tm.length→n.tm.getD i 0≤n.tm.getD (i+1) 0
theorem Y3 {m:Ms} (h:msB m=true):m.body.length≤20:=by
 unfold msB at h
 simp only[ar,bf]at h
 exact h.2.2.2.2.1
theorem VG {n:Nw}:nwB n=true↔NwV n:=by
 unfold nwB D4
 simp only[ar,bf,bn]
 constructor
 ·rintro⟨h1,h2,h3,h4,h5,h6⟩
  have key:∀i,i<n.l.length→_:=fun i hi=>h6 i (ba.2 hi)
  unfold mtB at key
  simp only[ar,bf]at key
  refine⟨h1,h2,h3,h4,h5,fun m hm=>?_,fun t ht=>?_,fun i hi=>?_⟩
  ·obtain⟨i,hi,rfl⟩:=cu hm
   have:=(key i hi).1
   rwa [YA hi]at this
  ·obtain⟨i,hi,rfl⟩:=cu ht
   have:=(key i oM).2
   rw[YA hi]at this
   exact⟨this.1,this.2.1⟩
  ·exact (key (i+1) oM).2.2.2 oM
 ·intro h
  refine⟨h.now,h.len,h.l,h.fl,h.fates,fun i hi=>?_⟩
  have hi:=ba.1 hi
  unfold mtB
  simp only[ar,bf]
  have hl:=h.len
  rw[YA hi]
  refine⟨h.ms _ (ak _),?_⟩
  have h1:=h.tm n.tm[i] (ak oM)
  rw[←YA (d:=0)]at h1
  refine⟨h1.1,h1.2,fun h0=>?_⟩
  have:=h.mono (i-1) oM
  rwa [show i-1+1=i by omega]at this
theorem NwV.s {n:Nw} (h:NwV n):NwS n:=⟨by have:=h.l;omega,by have:=h.l;have:=h.len;omega,by have:=h.fl;omega,fun m hm=>by have:=Y3 (h.ms m hm);omega⟩
theorem NwV.sorted {n:Nw} (h:NwV n):∀i j,i≤j→j<n.tm.length→n.tm.getD i 0≤n.tm.getD j 0:=by
 intro i j J5
 induction j with
 |zero=>intro _;rw[show i=0 by omega];exact im _
 |succ j ih =>
   intro hj
   by_cases he:i=j+1
   ·rw[he];exact im _
   ·exact Int.le_trans (ih oM oM) (h.mono j hj)
def leN (l:List Int) (a:Int):Nat:=(l.takeWhile fun t=>decide (t≤a)).length
theorem XR {l:List Int} {a:Int}:leN l a≤l.length:=by
 unfold leN
 exact (List.takeWhile_sublist _).length_le
theorem ZFO {l:List Int} {a:Int} {i:Nat} (hi:i≤l.length) (h1:∀j,j<i→l.getD j 0≤a) (h2:i<l.length→a<l.getD i 0):leN l a=i:=by
 induction l generalizing i with
 |nil=>simp at hi;subst hi;rfl
 |cons x l ih =>
   unfold leN
   rw[List.takeWhile_cons]
   cases i with
   |zero =>
     have:=h2 kS
     simp at this
     rw[if_neg (by simp;omega)]
     rfl
   |succ i =>
     have h0:=h1 0 oM
     simp at h0
     rw[if_pos (by simpa using h0),ej]
     congr 1
     exact ih (by simpa using hi) (fun j hj=>by have:=h1 (j+1) oM;simpa using this) (fun h=>by have:=h2 (by simp;omega);simpa using this)
def xE (n:Nw) (m:Ms):Nat→Int
 |0=>n.now+(n.fates.headD (1,0)).2
 |i+1=>if n.fifo=true∧(n.l.getD i dfMs).fr=m.fr∧(n.l.getD i dfMs).to=m.to then max (xE n m i) (n.tm.getD i 0) else xE n m i
def gE (n:Nw) (m:Ms):Int:=xE n m n.l.length
def wR (n:Nw):Int:=(n.fates.headD (1,0)).1
def KT (n:Nw) (m:Ms) (a:Int) (c:Nat):Nw:=⟨n.now,n.fifo,n.l.take (leN n.tm a)++List.replicate c m++n.l.drop (leN n.tm a),n.tm.take (leN n.tm a)++List.replicate c a++n.tm.drop (leN n.tm a),n.fates.drop 1⟩
def sdE (n:Nw) (m:Ms):Int:=if gE n m>1099512627776 then 9 else if (n.l.length:Int)+wR n>1000 then 5 else 0
def sdR (n:Nw) (m:Ms):Nw:=if sdE n m=0 then KT n m (gE n m) (wR n).toNat else nw0
theorem dW {n:Nw} {m:Ms}:∀i,xE n m 0≤xE n m i
 |0=>im _
 |i+1=>by
   have:=dW (n:=n) (m:=m) i
   simp only[xE]at this⊢
   split<;>omega
theorem UN {n:Nw} (h:NwV n):(0≤(n.fates.headD (1,0)).1∧(n.fates.headD (1,0)).1≤3)∧0≤(n.fates.headD (1,0)).2∧(n.fates.headD (1,0)).2≤1000000:=by
 cases hf:n.fates with
 |nil=>simp
 |cons f r =>
   have:=h.fates f (by rw[hf];simp)
   unfold ftB at this
   simpa using this
theorem dL {n:Nw} (h:NwV n) {m:Ms}:∀i,i≤n.l.length→n.now≤xE n m i∧xE n m i≤1099512627776
 |0,_=>by have:=UN h;have:=h.now;simp only[xE];omega
 |i+1,hi=>by
   have ih:=dL h (m:=m) i oM
   have hl:=h.len
   have:=h.tm (n.tm.getD i 0) (by rw[YA oM];exact ak _)
   simp only[xE]
   split<;>omega
def arB (n:Nw) (to:Int) (i:Nat):Bool:=decide ((n.l.getD i dfMs).to=to)&&decide (n.tm.getD i 0≤n.now)
def fiR (n:Nw) (to:Int):Int:=pY (arB n to) n.l.length
def woN (n:Nw) (k:Nat):Nw:={n with l:=n.l.take k++n.l.drop (k+1),tm:=n.tm.take k++n.tm.drop (k+1)}
def wtN (n:Nw) (to:Int):Nat→Nat
 |0=>0
 |i+1=>if arB n to i=true then wtN n to i+1 else wtN n to i
theorem F8 {n:Nw} {to:Int}:∀i,wtN n to i≤i
 |0=>ai _
 |i+1=>by have:=F8 (n:=n) (to:=to) i;simp only[wtN];split<;>omega
attribute [local go_sem ↓] xC UB iC rC wD fB uC gD dC mD LA lB wC MA mB kC QB GB lC KB FA sC eB bB vB aB yB JC nB xD tC uD iD eE pD bE aE TB ZC
attribute [local go_sem] zB EA YE wB ZB fE tD sD rD KL zL nD nC pC mC YD lA UC AA VC CA qB aop AE QE TD LC MD GC LD AJ XG GF amm zF aC MB sF SD IF comma ZD QG EJ ZG AF wJ dF uF vE yJ eqC eqF aG cellsOf rB bC RB iF NI rd rdI IE mk fD AV.cell List.all_cons List.all_nil Bool.and_true Bool.true_and Bool.and_self List.length_cons List.length_nil List.length_append Nat.reduceAdd Nat.reduceSub Nat.reduceMul Nat.zero_add Nat.add_zero List.cons_append List.nil_append List.append_assoc List.append_nil List.getElem?_cons_zero List.getElem?_cons_succ List.getElem?_nil List.set_cons_zero List.set_cons_succ List.drop_zero List.drop_succ_cons List.take_zero List.take_succ_cons List.take_nil List.drop_nil List.map_cons List.map_nil Option.map_some if_true if_false Bool.false_eq_true and_self true_and and_true Nat.reduceLeDiff Nat.reduceLT Nat.le_refl Nat.reduceEqDiff ite_true ite_false beq_self_eq_true beq_true beq_false Bool.not_true Bool.not_false Bool.true_beq Bool.false_beq lE SB iB jD kD yC vC jC qC yD vD mE pA YL sK JL XL rG iG sG dG geI gtI tG decide_true decide_false room List.getElem?_map List.length_map List.length_take Int.toNat_natCast Nat.min_def Nat.min_self dD XD ED pB GD lF zA List.getElem_cons_zero List.getElem_cons_succ
def a_Ind1:AFunc:=({c:=_}:CF Tryz.prog 159).c
theorem ZC5:qA Tryz.prog 159=some a_Ind1:=by kernel_rfl
def ZA6:List (Nat×Nat):=[(4,5),(8,18)]
def a_Con1:AFunc:=({c:=_}:CF Tryz.prog 118).c
theorem ZC6:qA Tryz.prog 118=some a_Con1:=by kernel_rfl
def a_Eq1:AFunc:=({c:=_}:CF Tryz.prog 24).c
theorem ZEl:qA Tryz.prog 24=some a_Eq1:=by kernel_rfl
def ZFK:List (Nat×Nat):=[(4,5),(13,25)]

def iv (v:List Int):AV:=.v (.isl 1 (v.map eI))

def XK (p:Nat→Bool) (n:Nat):Int:=match (List.range n).find? p with
 |some i=>i
 |none=>-1
theorem zW {p:Nat→Bool} {n i:Nat} (h:i<n) (h0:∀j,j<i→p j=false) (hi:p i=true):XK p n=i:=by
 have hf:(List.range n).find? p=some i:=by
  rw[show n=i+(1+(n-i-1)) by omega,kg,fc]
  have:(List.range i).find? p=none:=by
   rw[db];intro q hq;simp[h0 q (ba.1 hq)]
  rw[this,gz 1,ln]
  simp[hi]
 unfold XK;rw[hf]
theorem nQ {p:Nat→Bool} {n:Nat} (h0:∀j,j<n→p j=false):XK p n=-1:=by
 have:(List.range n).find? p=none:=by
  rw[db];intro q hq;simp[h0 q (ba.1 hq)]
 unfold XK;rw[this]
theorem KW {p:Nat→Bool} {n:Nat}:decide (0≤XK p n)=(List.range n).any p:=by
 unfold XK
 cases h:(List.range n).find? p with
 |none =>
   have:=db.1 h
   have hn:(List.range n).any p=false:=by rw[ga];exact this
   rw[hn];rfl
 |some i =>
   have h1:=ge h
   have h2:=fk h
   have hn:(List.range n).any p=true:=fj.2 ⟨i,h2,h1⟩
   rw[hn];simp

theorem uZ (v:List Int) (k:Nat) (caps:List AV) (p:Nat→Bool) (hn:v.length≤1000000) (b l:List Row)
  (hp:∀(i:Nat) (h:i<v.length),QA Tryz.prog k (.v (.int .i64 v[i])::caps) (b++l) [] (fun r b' l'=>r=.v (.bool (p i))∧b'=b++l∧l'=[])) :
  QA Tryz.prog 159 [.v (.isl 1 (v.map eI)),.fn k caps] b l (fun r b' l'=>r=.v (.int .i64 (XK p v.length))∧b'=b∧l'=l):=by
 refine XA ZC5 rfl kE ?_
 intro B g hB hR hE hA;simp only[zA]at hA
 simp (disch:=decide) only[a_Ind1,hA,aa,go_sem]
 refine JA (ι:=Nat) ZA6 (fun i=>[(8,.v (.int .i64 i))]) 0 (fun _=>[])
  (fun i=>i≤v.length∧∀j,j<i→p j=false) (fun i=>v.length-i) 0 ⟨aj _,fun j hj=>by omega⟩ kM kA kF ?_
 rintro g1 qF TE sA i ⟨hi,h0⟩
 by_cases yA:i<v.length
 ·simp (disch:=first|decide|omega) only[hA,sA,eI,go_sem]
  refine aD _ _ _ _ _ _ (hB▸hp i yA) ?_
  rintro r b' l' ⟨rfl,rfl,rfl⟩
  cases hpi:p i
  ·simp (disch:=first|decide|omega) only[hA,sA,hpi,go_sem]
   refine⟨i+1,⟨yA,fun j hj=>?_⟩,by simp only;omega,?_⟩
   ·rcases bp j i with YG|YG
    ·exact h0 j YG
    ·have:j=i:=by omega
     rw[this];exact hpi
   exact VA.kround (p:=ZA6) (k:=0) kQ kA rfl qF kS kV hR kL
  ·simp (disch:=first|decide|omega) only[hA,sA,hpi,go_sem]
   exact ZA (xs:=[.v (.int .i64 i)]) ⟨by rw[zW yA h0 hpi];rfl,rfl,rfl⟩
 ·simp (disch:=first|decide|omega) only[hA,sA,go_sem]
  obtain rfl:i=v.length:=by omega
  exact ZA (xs:=[.v (.int .i64 (-1))]) ⟨by rw[nQ h0];rfl,rfl,rfl⟩
theorem AL (v:List Int) (k:Nat) (caps:List AV) (p:Nat→Bool) (hn:v.length≤1000000) (b l:List Row)
  (hp:∀(i:Nat) (h:i<v.length),QA Tryz.prog k (.v (.int .i64 v[i])::caps) (b++l) [] (fun r b' l'=>r=.v (.bool (p i))∧b'=b++l∧l'=[])) :
  QA Tryz.prog 118 [.v (.isl 1 (v.map eI)),.fn k caps] b l (fun r b' l'=>r=.v (.bool ((List.range v.length).any p))∧b'=b∧l'=l):=by
 refine XA ZC6 rfl kE ?_
 intro B g hB hR hE hA;simp only[zA]at hA
 simp (disch:=decide) only[a_Con1,hA,go_sem]
 refine aD _ _ _ _ _ _ (uZ v k caps p hn B [] (by rw[ct,hB];exact hp)) ?_
 rintro r b' l' ⟨rfl,rfl,rfl⟩
 simp (disch:=decide) only[hA,go_sem]
 exact ZA (xs:=[.v (.bool (decide (0≤XK p v.length)))]) ⟨by rw[KW];rfl,rfl,rfl⟩
section
variable {b l:List Row} {e:List AV}
theorem ZBf {sz:Nat} (V:Nat) (F:Nat→Prop) (L:LMap) (w:World) (s:Sim F L (b++l) w):∃L':LMap,Sim F L' (b++(l++[.live V sz []])) w∧L' (b.length+l.length) V=some .nil∧(∀i v q,L i v=some q→L' i v=some q) ∧
  Step b.length F L (b++l) w F L' (b++(l++[.live V sz []])) w:=by
 have IB:(b++l).length=b.length+l.length:=by simp
 have U5:∀V,L (b.length+l.length) V=none:=by
  intro V
  cases hq:L (b.length+l.length) V with
  |none=>rfl
  |some q=>exact absurd (s.lt hq) oM
 obtain⟨L',FT,yY,eU⟩:∃L':LMap,L' (b.length+l.length) V=some .nil∧(∀i v q,L i v=some q→L' i v=some q)∧∀i v,(i≠b.length+l.length∨v≠V)→L' i v=L i v:=by
  refine⟨fun i v=>if i=b.length+l.length∧v=V then some .nil else L i v,by simp,?_,?_⟩
  ·intro i v q hl
   by_cases hi:i=b.length+l.length∧v=V
   ·obtain⟨rfl,rfl⟩:=hi
    rw[U5]at hl;cases hl
   ·simp[hi,hl]
  ·intro i v hi
   have:¬(i=b.length+l.length∧v=V):=fun ⟨a,b⟩=>hi.elim (fun h=>h a) (fun h=>h b)
   simp[this]
 have JH:∀j,j≠b.length+l.length→(b++(l++[Row.live V sz []]))[j]? = (b++l)[j]?:=by
  intro j hj
  rw[←bc]
  by_cases wG:j<(b++l).length
  ·rw[aw wG]
  ·rw[cg (by simp;omega),cg oM]
 have GG:(b++(l++[Row.live V sz []]))[b.length+l.length]? = some (.live V sz []):=by
  rw[←bc,aq oM];simp
 have own:∀k,DC L' (b++(l++[Row.live V sz []])) k→DC L (b++l) k:=by
  rintro k ⟨i,v,z,e1,q1,h1,h2,h3⟩
  by_cases hi:i=b.length+l.length
  ·subst hi
   rw[GG]at h1;cases h1
   rw[FT]at h2;cases h2
   exact h3.elim
  ·rw[JH i hi]at h1
   rw[eU i v (.inl hi)]at h2
   exact⟨i,v,z,e1,q1,h1,h2,h3⟩
 have mono:∀{x:AV} {v:Value},RepA w F L x v→RepA w F L' x v:=fun hx=>hx.mono (fun _ h=>h) (fun _ _=>rfl) yY
 refine⟨L',⟨?_,?_,?_,fun k hk=>⟨(s.imm k hk).1,fun ho=>(s.imm k hk).2 (own k ho)⟩,s.glob⟩,FT,yY,⟨fun _ h=>h,fun i v q _ hl=>yY i v q hl,rfl,rfl,rfl,ai _,fun _ _ _=>rfl,fun k _ ho=>own k ho,fun i hi v hv=>by rw[JH i oM];exact hv,fun _ _ h=>.inl h⟩⟩
 ·intro j v z e1 hj
  by_cases YG:j=b.length+l.length
  ·subst YG
   rw[GG]at hj
   cases hj
   exact⟨.nil,FT,rfl⟩
  ·rw[JH j YG]at hj
   obtain⟨q,bO,cU⟩:=s.row j v z e1 hj
   exact⟨q,yY _ _ _ bO,cU.mono (fun _ _=>rfl) (fun _ _=>mono)⟩
 ·intro i v q bO
  by_cases hi:i=b.length+l.length
  ·subst hi
   refine⟨_,GG,?_⟩
   by_cases hv:v=V
   ·subst hv;exact ai _
   ·rw[eU _ v (.inr hv)]at bO
    exact absurd (s.lt bO) oM
  ·rw[eU i v (.inl hi)]at bO
   obtain⟨r,h1,h2⟩:=s.born _ _ _ bO
   exact⟨r,by rw[JH i hi];exact h1,h2⟩
 ·intro i i' v v' z z' e1 e2 bb q1 q2 h1 h2 h3 h4 h5 h6
  by_cases hi:i=b.length+l.length
  ·subst hi
   rw[GG]at h1;cases h1
   rw[FT]at h3;cases h3
   exact h5.elim
  ·by_cases hi':i'=b.length+l.length
   ·subst hi'
    rw[GG]at h2;cases h2
    rw[FT]at h4;cases h4
    exact h6.elim
   ·rw[JH i hi]at h1
    rw[JH i' hi']at h2
    rw[eU i v (.inl hi)]at h3
    rw[eU i' v' (.inl hi')]at h4
    exact s.apart i i' v v' z z' e1 e2 bb q1 q2 h1 h2 h3 h4 h5 h6
theorem VA.nilV {sz:Nat} (V:Nat):VA [.v .zsl] b l [.sl (b.length+l.length) V 0 0] b (l++[.live V sz []]):=by
 intro F L w a s GU
 obtain⟨L',s',FT,yY,st⟩:=ZBf (sz:=sz) V F L w s
 refine⟨F,L',s',⟨GU.1,by simpa using GU.2.1,fun i x v hx hv=>?_⟩,st,rfl⟩
 cases i with
 |zero =>
   simp at hx;subst hx
   have:=GU.2.2 0 _ v rfl hv
   cases this.vI
   exact .sln _ _ _ FT
 |succ i=>simp at hx
inductive Rn (n m:Nat) (σ:Nat→Nat):AV→AV→Prop where
 |any:Rn n m σ .any .any
 |v (x:IV):Rn n m σ (.v x) (.v x)
 |sl (j ver off len:Nat) (h:j<m):Rn n m σ (.sl (n+σ j) ver off len) (.sl (n+j) ver off len)
 |ptr (j ver k i:Nat) (h:j<m):Rn n m σ (.ptr (n+σ j) ver k i) (.ptr (n+j) ver k i)
 |mp (j ver:Nat) (h:j<m):Rn n m σ (.mp (n+σ j) ver) (.mp (n+j) ver)
 |slB (id ver off len:Nat) (h:id<n):Rn n m σ (.sl id ver off len) (.sl id ver off len)
 |ptrB (id ver k i:Nat) (h:id<n):Rn n m σ (.ptr id ver k i) (.ptr id ver k i)
 |mpB (id ver:Nat) (h:id<n):Rn n m σ (.mp id ver) (.mp id ver)
 |agg (cs ds:List AV) (hl:cs.length=ds.length) (h:∀(i:Nat) (c d:AV),cs[i]? = some c→ds[i]? = some d→Rn n m σ c d):Rn n m σ (.agg cs) (.agg ds)
 |tup (cs ds:List AV) (hl:cs.length=ds.length) (h:∀(i:Nat) (c d:AV),cs[i]? = some c→ds[i]? = some d→Rn n m σ c d):Rn n m σ (.tup cs) (.tup ds)
 |fn (f:Nat) (cs ds:List AV) (hl:cs.length=ds.length) (h:∀(i:Nat) (c d:AV),cs[i]? = some c→ds[i]? = some d→Rn n m σ c d):Rn n m σ (.fn f cs) (.fn f ds)
def RnL (n m:Nat) (σ:Nat→Nat) (cs ds:List AV):Prop:=cs.length=ds.length∧∀(i:Nat) (c d:AV),cs[i]? = some c→ds[i]? = some d→Rn n m σ c d
theorem RnL.nil {n m:Nat} {σ:Nat→Nat}:RnL n m σ [] []:=⟨rfl,fun j a c h=>by simp at h⟩
theorem RnL.cons {n m:Nat} {σ:Nat→Nat} {a d:AV} {cs ds:List AV} (h:Rn n m σ a d) (t:RnL n m σ cs ds):RnL n m σ (a::cs) (d::ds):=by
 refine⟨by simp[t.1],fun j x y hx hy=>?_⟩
 cases j with
 |zero=>simp at hx hy;subst hx;subst hy;exact h
 |succ j=>exact t.2 j x y (by simpa using hx) (by simpa using hy)
theorem RnL.plain {n m:Nat} {σ:Nat→Nat} {row:List IV}:RnL n m σ (row.map .v) (row.map .v):=by
 refine⟨rfl,fun j a c ha hc=>?_⟩
 rw[ha]at hc;cases hc
 rw[an]at ha
 cases hq:row[j]? with
 |none=>rw[hq]at ha;cases ha
 |some y=>rw[hq]at ha;cases ha;exact .v y
theorem Rn.aggL {n m:Nat} {σ:Nat→Nat} {cs ds:List AV} (h:RnL n m σ cs ds):Rn n m σ (.agg cs) (.agg ds):=.agg cs ds h.1 h.2
theorem Rn.tupL {n m:Nat} {σ:Nat→Nat} {cs ds:List AV} (h:RnL n m σ cs ds):Rn n m σ (.tup cs) (.tup ds):=.tup cs ds h.1 h.2
theorem Rn.slE {n m:Nat} {σ:Nat→Nat} {i j ver off len:Nat} (h:σ j=i) (hj:j<m):Rn n m σ (.sl (n+i) ver off len) (.sl (n+j) ver off len):=by subst h;exact .sl j ver off len hj
def RnR (n m:Nat) (σ:Nat→Nat):Row→Row→Prop
 |.live v s els,.live v' s' els'=>v=v'∧s=s'∧els.length=els'.length∧∀(k:Nat) (r r':List AV),els[k]? = some r→els'[k]? = some r'→RnL n m σ r r'
 |.dead v,.dead v'=>v=v'
 |_,_=>False
theorem RnR.plain {n m:Nat} {σ:Nat→Nat} {v s:Nat} {rows:List (List IV)}:RnR n m σ (.live v s (vs rows)) (.live v s (vs rows)):=by
 refine⟨rfl,rfl,rfl,fun k r r' h1 h2=>?_⟩
 rw[h1]at h2;cases h2
 rw[iB]at h1
 cases hq:rows[k]? with
 |none=>rw[hq]at h1;cases h1
 |some y=>rw[hq]at h1;cases h1;exact RnL.plain
theorem AVlt.rn {n m:Nat} {σ:Nat→Nat} {x:AV} (h:AVlt n x):Rn n m σ x x:=by
 induction h with
 |any=>exact .any
 |v x=>exact .v x
 |sl id ver off len h=>exact .slB id ver off len h
 |ptr id ver k j h=>exact .ptrB id ver k j h
 |mp id ver h=>exact .mpB id ver h
 |agg cs _ ih=>exact .agg cs cs rfl (fun i c d h1 h2=>by rw[h1]at h2;cases h2;exact ih c (ci h1))
 |tup cs _ ih=>exact .tup cs cs rfl (fun i c d h1 h2=>by rw[h1]at h2;cases h2;exact ih c (ci h1))
 |fn f cs _ ih=>exact .fn f cs cs rfl (fun i c d h1 h2=>by rw[h1]at h2;cases h2;exact ih c (ci h1))
theorem Rn.rep {n m:Nat} {σ:Nat→Nat} {w:World} {F:Nat→Prop} {L L':LMap} (hB:∀id ver,id<n→L' id ver=L id ver) (hS:∀j ver,j<m→L' (n+j) ver=L (n+σ j) ver) {x y:AV} (h:Rn n m σ x y):∀{v:Value},RepA w F L x v→RepA w F L' y v:=by
 induction h with
 |any=>exact fun _=>.any _
 |v x=>exact fun h=>.v _ _ h.vI
 |sl j ver off len hj =>
   intro v h
   cases h with
   |sl _ _ _ _ b o sz cap hL h1 h2=>exact .sl _ _ _ _ b o sz cap (by rw[hS j ver hj];exact hL) h1 h2
   |slz _ _ _ b o sz cap x hL h1=>exact .slz _ _ _ b o sz cap x (by rw[hS j ver hj];exact hL) h1
   |sln _ _ ad hL=>exact .sln _ _ ad (by rw[hS j ver hj];exact hL)
 |ptr j ver k i hj=>intro v h;cases h with|ptr _ _ _ _ b o sz cap hL=>exact .ptr _ _ _ _ b o sz cap (by rw[hS j ver hj];exact hL)
 |mp j ver hj=>intro v h;cases h with|mp _ _ b hL=>exact .mp _ _ b (by rw[hS j ver hj];exact hL)
 |slB id ver off len hj =>
   intro v h
   cases h with
   |sl _ _ _ _ b o sz cap hL h1 h2=>exact .sl _ _ _ _ b o sz cap (by rw[hB id ver hj];exact hL) h1 h2
   |slz _ _ _ b o sz cap x hL h1=>exact .slz _ _ _ b o sz cap x (by rw[hB id ver hj];exact hL) h1
   |sln _ _ ad hL=>exact .sln _ _ ad (by rw[hB id ver hj];exact hL)
 |ptrB id ver k i hj=>intro v h;cases h with|ptr _ _ _ _ b o sz cap hL=>exact .ptr _ _ _ _ b o sz cap (by rw[hB id ver hj];exact hL)
 |mpB id ver hj=>intro v h;cases h with|mp _ _ b hL=>exact .mp _ _ b (by rw[hB id ver hj];exact hL)
 |agg cs ds hl _ ih =>
   intro v h
   obtain⟨vs,rfl,hr⟩:=h.aggL
   exact GA.agg ⟨by rw[←hl];exact hr.1,fun i d u hd hu=>by
    have hi:i<cs.length:=by rw[hl];exact (am.1 hd).1
    exact ih i _ d (ah hi) hd (hr.2 i _ u (ah hi) hu)⟩
 |tup cs ds hl _ ih =>
   intro v h
   obtain⟨vs,rfl,hr⟩:=h.tupL
   exact GA.tup ⟨by rw[←hl];exact hr.1,fun i d u hd hu=>by
    have hi:i<cs.length:=by rw[hl];exact (am.1 hd).1
    exact ih i _ d (ah hi) hd (hr.2 i _ u (ah hi) hu)⟩
 |fn f cs ds hl _ ih =>
   intro v h
   cases h with
   |fn _ _ us hul hr =>
     exact .fn f ds us (by rw[←hl];exact hul) (fun i d u hd hu=>by
      have hi:i<cs.length:=by rw[hl];exact (am.1 hd).1
      exact ih i _ d (ah hi) hd (hr i _ u (ah hi) hu))
theorem VA.ren {e':List AV} {l':List Row} (σ:Nat→Nat) (ZCx:∀i j,i<l'.length→j<l'.length→σ i=σ j→i=j)
  (JD:∀j r',l'[j]? = some r'→∃r,l[σ j]? = some r∧RnR b.length l'.length σ r r') (hR:gA b.length b) (hl:e.length=e'.length) (he:∀(i:Nat) (x y:AV),e[i]? = some x→e'[i]? = some y→Rn b.length l'.length σ x y):VA e b l e' b l':=by
 intro F L w a s GU
 obtain⟨L',hB,hS,hN⟩:∃L':LMap,(∀id ver,id<b.length→L' id ver=L id ver)∧(∀j ver,j<l'.length→L' (b.length+j) ver=L (b.length+σ j) ver)∧∀j ver,l'.length≤j→L' (b.length+j) ver=none:=
  ⟨fun id ver=>if id<b.length then L id ver else if id-b.length<l'.length then L (b.length+σ (id-b.length)) ver else none,fun id ver h=>by simp[h],fun j ver h=>by simp only;rw[if_neg oM,cj,if_pos h],fun j ver h=>by simp only;rw[if_neg oM,cj,if_neg oM]⟩
 have eR:∀{id ver q},L' id ver=some q→(id<b.length∧L id ver=some q)∨∃j,id=b.length+j∧j<l'.length∧L (b.length+σ j) ver=some q:=by
  intro id ver q hq
  by_cases h:id<b.length
  ·exact .inl ⟨h,by rw[←hB id ver h];exact hq⟩
  ·obtain⟨j,rfl⟩:∃j,id=b.length+j:=⟨id-b.length,by omega⟩
   by_cases hj:j<l'.length
   ·exact .inr ⟨j,rfl,hj,by rw[←hS j ver hj];exact hq⟩
   ·rw[hN j ver oM]at hq;cases hq
 have gB:∀{id:Nat} (m:List Row),id<b.length→(b++m)[id]? = b[id]?:=fun m h=>aw h
 have gL:∀{j:Nat} (m:List Row),(b++m)[b.length+j]? = m[j]?:=fun m=>by rw[aq oM,cj]
 have live:∀{id ver sz els},(b++l')[id]? = some (.live ver sz els)→(id<b.length∧(b++l)[id]? = some (.live ver sz els))∨∃j els0,id=b.length+j∧j<l'.length∧(b++l)[b.length+σ j]? = some (.live ver sz els0)∧RnR b.length l'.length σ (.live ver sz els0) (.live ver sz els):=by
  intro id ver sz els h
  by_cases hid:id<b.length
  ·exact .inl ⟨hid,by rw[gB _ hid]at h⊢;exact h⟩
  ·obtain⟨j,rfl⟩:∃j,id=b.length+j:=⟨id-b.length,by omega⟩
   rw[gL]at h
   obtain⟨r,h1,h2⟩:=JD j _ h
   have hj:=(am.1 h).1
   cases r with
   |dead v=>exact h2.elim
   |live v z els0 =>
     obtain⟨rfl,rfl,h3⟩:=h2
     exact .inr ⟨j,els0,rfl,hj,by rw[gL];exact h1,rfl,rfl,h3⟩
 have own:∀k,DC L' (b++l') k→DC L (b++l) k:=by
  rintro k ⟨id,ver,sz,els,q,h1,h2,h3⟩
  rcases live h1 with ⟨hid,g1⟩|⟨j,els0,rfl,hj,g1,_⟩
  ·rw[hB id ver hid]at h2;exact⟨id,ver,sz,els,q,g1,h2,h3⟩
  ·rw[hS j ver hj]at h2;exact⟨_,ver,sz,els0,q,g1,h2,h3⟩
 have rep:∀{x y:AV} {v:Value},Rn b.length l'.length σ x y→RepA w F L x v→RepA w F L' y v:=fun h=>h.rep hB hS
 refine⟨F,L',⟨fun id ver sz els h=>?_,fun id ver q hq=>?_,fun id id' ver ver' s1 s2 els els' bb q q' h1 h2 h3 h4 h5 h6=>?_,fun k hk=>⟨(s.imm k hk).1,fun ho=>(s.imm k hk).2 (own k ho)⟩,s.glob⟩,⟨GU.1,by rw[←hl];exact GU.2.1,fun i y v hy hv=>?_⟩,
  ⟨fun _ h=>h,fun id ver q hid hq=>by rw[hB id ver hid];exact hq,rfl,rfl,rfl,ai _,fun _ _ _=>rfl,fun k _ ho=>own k ho,fun id hid v hv=>by rw[gB _ hid]at hv⊢;exact hv,fun _ _ h=>.inl h⟩,rfl⟩
 ·rcases live h with ⟨hid,g1⟩|⟨j,els0,rfl,hj,g1,_,_,g2,g3⟩
  ·obtain⟨q,k1,k2⟩:=s.row _ _ _ _ g1
   refine⟨q,by rw[hB id ver hid];exact k1,?_⟩
   have yA:∀row∈els,∀c∈row,AVlt b.length c:=hR id ver sz els (by rw[gB _ hid]at h;exact h)
   cases q with
   |nil=>exact k2
   |pl blk o z cap =>
     obtain⟨q1,q2,q3,cur,T,q4,q5,q6,q7⟩:=k2
     exact⟨q1,q2,q3,cur,T,q4,q5,q6,fun k row i c hk hi=>by
      obtain⟨e1,u,e2,e3⟩:=q7 k row i c hk hi
      exact⟨e1,u,e2,rep (yA row (ci hk) c (ci hi)).rn e3⟩⟩
   |mp blk =>
     obtain⟨es,clk,q4,q5,q6⟩:=k2
     refine⟨es,clk,q4,q5,fun k row e1 hk he=>?_⟩
     obtain⟨x,y,rfl,e2,e3⟩:=q6 k row e1 hk he
     exact⟨x,y,rfl,rep (yA _ (ci hk) x kS).rn e2,rep (yA _ (ci hk) y kS).rn e3⟩
  ·obtain⟨q,k1,k2⟩:=s.row _ _ _ _ g1
   refine⟨q,by rw[hS j ver hj];exact k1,?_⟩
   have cell:∀{x y:AV},Rn b.length l'.length σ x y→x.cell=y.cell:=by
    intro x y h;cases h<;>rfl
   have prev:∀{k:Nat} {row:List AV},els[k]? = some row→∃r0,els0[k]? = some r0∧RnL b.length l'.length σ r0 row:=by
    intro k row hk
    have OK:=(am.1 hk).1
    exact⟨els0[k],ah oM,g3 k _ row (ah oM) hk⟩
   have prev2:∀{r0 row:List AV} {i:Nat} {c:AV},RnL b.length l'.length σ r0 row→row[i]? = some c→∃c0,r0[i]? = some c0∧Rn b.length l'.length σ c0 c:=by
    intro r0 row i c h hi
    have M9:=(am.1 hi).1
    exact⟨r0[i]'(by rw[h.1];exact M9),ah _,h.2 i _ c (ah _) hi⟩
   cases q with
   |nil =>
     have:els0=[]:=k2
     subst this
     exact cq (by simpa using g2.symm)
   |pl blk o z cap =>
     obtain⟨q1,q2,q3,cur,T,q4,q5,q6,q7⟩:=k2
     refine⟨q1,by omega,q3,cur,T,q4,q5,fun k row hk=>?_,fun k row i c hk hi=>?_⟩
     ·obtain⟨r0,e1,e2⟩:=prev hk
      rw[←e2.1];exact q6 k r0 e1
     ·obtain⟨r0,e1,e2⟩:=prev hk
      obtain⟨c0,e3,e4⟩:=prev2 e2 hi
      obtain⟨e5,u,e6,e7⟩:=q7 k r0 i c0 e1 e3
      exact⟨by rw[←cell e4];exact e5,u,e6,rep e4 e7⟩
   |mp blk =>
     obtain⟨es,clk,q4,q5,q6⟩:=k2
     refine⟨es,clk,q4,by omega,fun k row e1 hk he=>?_⟩
     obtain⟨r0,e2,e3⟩:=prev hk
     obtain⟨x,y,rfl,e5,e6⟩:=q6 k r0 e1 e2 he
     obtain⟨e7,e8⟩:=e3
     obtain⟨x',y',rfl⟩:∃x' y',row=[x',y']:=by
      match row,e7 with
      |[x',y'],_=>exact⟨x',y',rfl⟩
     exact⟨x',y',rfl,rep (e8 0 x x' rfl rfl) e5,rep (e8 1 y y' rfl rfl) e6⟩
 ·rcases eR hq with ⟨hid,g1⟩|⟨j,rfl,hj,g1⟩
  ·obtain⟨r,h1,h2⟩:=s.born _ _ _ g1
   exact⟨r,by rw[gB _ hid]at h1⊢;exact h1,h2⟩
  ·obtain⟨r,h1,h2⟩:=s.born _ _ _ g1
   rw[gL]at h1
   obtain⟨r0,h3,h4⟩:=JD j l'[j] (ah hj)
   rw[h1]at h3;cases h3
   refine⟨l'[j],by rw[gL];exact ah hj,?_⟩
   revert h4
   cases r with
   |live v z els0 =>
     cases l'[j] with
     |live v' z' els'=>rintro⟨rfl,_⟩;exact h2
     |dead v'=>exact fun h=>h.elim
   |dead v =>
     cases l'[j] with
     |live v' z' els'=>exact fun h=>h.elim
     |dead v'=>intro h;cases h;exact h2
 ·rcases live h1 with ⟨i1,g1⟩|⟨j1,els1,rfl,i1,g1,_⟩<;>rcases live h2 with ⟨i2,g2⟩|⟨j2,els2,rfl,i2,g2,_⟩
  ·rw[hB _ _ i1]at h3;rw[hB _ _ i2]at h4
   exact s.apart _ _ _ _ _ _ _ _ bb _ _ g1 g2 h3 h4 h5 h6
  ·rw[hB _ _ i1]at h3;rw[hS _ _ i2]at h4
   have:=s.apart _ _ _ _ _ _ _ _ bb _ _ g1 g2 h3 h4 h5 h6
   omega
  ·rw[hS _ _ i1]at h3;rw[hB _ _ i2]at h4
   have:=s.apart _ _ _ _ _ _ _ _ bb _ _ g1 g2 h3 h4 h5 h6
   omega
  ·rw[hS _ _ i1]at h3;rw[hS _ _ i2]at h4
   have:=s.apart _ _ _ _ _ _ _ _ bb _ _ g1 g2 h3 h4 h5 h6
   rw[ZCx j1 j2 i1 i2 oM]
 ·have M9:=(am.1 hy).1
  have hx:e[i]? = some e[i]:=ah oM
  exact rep (he i _ y hx hy) (GU.2.2 i _ v hx hv)
theorem VA.renM {e':List AV} {l':List Row} {m:Nat} (hm:l'.length=m) (σ:Nat→Nat) (ZCx:∀i j,i<m→j<m→σ i=σ j→i=j)
  (JD:∀j r',l'[j]? = some r'→∃r,l[σ j]? = some r∧RnR b.length m σ r r') (hR:gA b.length b) (hl:e.length=e'.length) (he:∀(i:Nat) (x y:AV),e[i]? = some x→e'[i]? = some y→Rn b.length m σ x y):VA e b l e' b l':=by
 subst hm
 exact VA.ren σ ZCx JD hR hl he
end
theorem QA.post {P:Program} {f:Nat} {args:List AV} {b l N N':List Row} {x x':AV} (hw:gA (b++l).length (b++l)→VA [x] (b++l) N [x'] (b++l) N')
  (h:QA P f args b l (fun r b' l'=>r=x∧b'=b∧l'=l++N)):QA P f args b l (fun r b' l'=>r=x'∧b'=b∧l'=l++N'):=by
 refine⟨h.1,fun F L w vs s hr=>Calls.mono (h.2 F L w vs s hr) ?_⟩
 rintro en w' ⟨v,y,b',l',F',L',h1,h2,h3,h4,h5,rfl,rfl,rfl⟩
 have ZKL:Sim F' L' ((b'++l)++N) w':=by rw[bc];exact h3
 obtain⟨F3,L3,k1,k2,k3,k5⟩:=hw s.rowsLt F' L' w' {tmps:=#[v],defers:=[]} ZKL ⟨rfl,rfl,fun j z u hz hu=>by
  cases j with
  |zero=>simp at hz hu;subst hz;subst hu;exact h2
  |succ j=>simp at hz⟩
 refine⟨v,x',b',l++N',F3,L3,h1,k2.2.2 0 _ v rfl rfl,?_,?_,h5,rfl,rfl,rfl⟩
 ·rw[←bc];exact k1
 ·refine h4.trans ?_
  rw[←bc,←bc]
  exact k3.weaken kS
def a_nparty:AFunc:=({c:=_}:CF Tryz.prog 154).c
theorem OZ:qA Tryz.prog 154=some a_nparty:=by kernel_rfl
def a_nmsg:AFunc:=({c:=_}:CF Tryz.prog 125).c
theorem ZCX:qA Tryz.prog 125=some a_nmsg:=by kernel_rfl
def a_nmsgc:AFunc:=({c:=_}:CF Tryz.prog 163).c
theorem X8:qA Tryz.prog 163=some a_nmsgc:=by kernel_rfl
def a_nfate:AFunc:=({c:=_}:CF Tryz.prog 140).c
theorem J8:qA Tryz.prog 140=some a_nfate:=by kernel_rfl
def a_nfatc:AFunc:=({c:=_}:CF Tryz.prog 139).c
theorem V8:qA Tryz.prog 139=some a_nfatc:=by kernel_rfl
def a_nfats:AFunc:=({c:=_}:CF Tryz.prog 91).c
theorem Y8:qA Tryz.prog 91=some a_nfats:=by kernel_rfl
def a_nValid:AFunc:=({c:=_}:CF Tryz.prog 65).c
theorem X0:qA Tryz.prog 65=some a_nValid:=by kernel_rfl
def xP:List (Nat×Nat):=[(2,4),(43,85)]

theorem tJ (p:Int) (b l:List Row):QA Tryz.prog 154 [.v (.int .i64 p)] b l (fun r b' l'=>r=.v (.bool (ptB p))∧b'=b∧l'=l):=by
 refine XA OZ rfl kE ?_
 intro B g hB hR hE hA;simp only[zA]at hA
 by_cases h1:0≤p
 ·have d1:decide (p≥0)=true:=ae h1
  have d1':decide (0≤p)=true:=d1
  by_cases h2:p≤7
  ·have d2:decide (p<8)=true:=ae oM
   simp (disch:=first|decide|omega) only[a_nparty,hA,d1,d1',d2,go_sem]
   exact ZA (xs:=[.v (.bool true)]) ⟨by unfold ptB;rw[ae ⟨h1,h2⟩];rfl,rfl,rfl⟩
  ·have d2:decide (p<8)=false:=ag oM
   simp (disch:=first|decide|omega) only[a_nparty,hA,d1,d1',d2,go_sem]
   exact ZA (xs:=[.v (.bool false)]) ⟨by unfold ptB;rw[ag oM];rfl,rfl,rfl⟩
 ·have d1:decide (p≥0)=false:=ag h1
  have d1':decide (0≤p)=false:=d1
  simp (disch:=first|decide|omega) only[a_nparty,hA,d1,d1',go_sem]
  exact ZA (xs:=[.v (.bool false)]) ⟨by unfold ptB;rw[ag oM];rfl,rfl,rfl⟩
theorem x6 (n:Int) (b l:List Row):QA Tryz.prog 163 [.v (.int .i64 n)] b l (fun r b' l'=>r=.v (.bool (!vlB n))∧b'=b∧l'=l):=by
 refine XA X8 rfl kE ?_
 intro B g hB hR hE hA;simp only[zA]at hA
 by_cases h1:n < -1073741824
 ·have d1:=ae h1
  simp (disch:=first|decide|omega) only[a_nmsgc,hA,d1,go_sem]
  exact DA (xs:=[.v (.bool true)]) (.inr rfl) (by simp (disch:=first|decide|omega) only[resVs,resV,go_sem,hA,d1]) kO hR hB ⟨by unfold vlB;rw[ag oM];rfl,rfl,rfl⟩
 ·have d1:=ag h1
  by_cases h2:n>1073741824
  ·have d2:=ae h2
   have d2':decide (1073741824<n)=true:=d2
   simp (disch:=first|decide|omega) only[a_nmsgc,hA,d1,d2,d2',go_sem]
   exact ZA (xs:=[.v (.bool true)]) ⟨by unfold vlB;rw[ag oM];rfl,rfl,rfl⟩
  ·have d2:=ag h2
   have d2':decide (1073741824<n)=false:=d2
   simp (disch:=first|decide|omega) only[a_nmsgc,hA,d1,d2,d2',go_sem]
   exact ZA (xs:=[.v (.bool false)]) ⟨by unfold vlB;rw[ae oM];rfl,rfl,rfl⟩
theorem mF {α:Type} {p:α→Bool}:∀{v:List α},(v.any fun x=>!p x)=!v.all p
 |[]=>rfl
 |x::v=>by simp[mF (v:=v)]
theorem bG {α:Type} {d:α} {p:α→Bool} {v:List α}:(List.range v.length).any (fun i=>p (v.getD i d))=v.any p:=by
 rw[eh]
 simp only[fj,ba]
 constructor
 ·rintro⟨i,hi,h⟩
  exact⟨v[i],ak hi,by rwa [YA hi]at h⟩
 ·rintro⟨x,hx,h⟩
  obtain⟨i,hi,rfl⟩:=cu hx
  exact⟨i,hi,by rwa [YA hi]⟩
abbrev zMA (x:Ms):List AV:=[.v (.int .i64 x.fr),.v (.int .i64 x.to),.v (.int .i64 x.nu),.v (.isl 1 (x.body.map eI))]
theorem FV (m:Ms) (b l:List Row):QA Tryz.prog 125 [.agg (zMA m)] b l (fun r b' l'=>r=.v (.bool (msB m))∧b'=b∧l'=l):=by
 refine XA ZCX rfl kE ?_
 intro B g hB hR hE hA;simp only[zA]at hA
 simp (disch:=first|decide|omega) only[a_nmsg,hA,go_sem]
 refine QA.nxt (tJ m.fr _ _) ?_
 cases h1:ptB m.fr
 ·simp (disch:=first|decide|omega) only[hA,go_sem]
  exact ZA (xs:=[.v (.bool false)]) ⟨by unfold msB;rw[h1];rfl,rfl,rfl⟩
 simp (disch:=first|decide|omega) only[hA,go_sem]
 refine QA.nxt (tJ m.to _ _) ?_
 cases h2:ptB m.to
 ·simp (disch:=first|decide|omega) only[hA,go_sem]
  exact ZA (xs:=[.v (.bool false)]) ⟨by unfold msB;rw[h1,h2];rfl,rfl,rfl⟩
 by_cases h3:m.fr=m.to
 ·have d3:(m.fr==m.to)=true:=by rw[h3];simp
  simp (disch:=first|decide|omega) only[hA,d3,go_sem]
  exact ZA (xs:=[.v (.bool false)]) ⟨by unfold msB;rw[h1,h2,ag oM];rfl,rfl,rfl⟩
 have d3:(m.fr==m.to)=false:=dr.2 h3
 by_cases h4:m.nu<0
 ·have d4:=ae h4
  simp (disch:=first|decide|omega) only[hA,d3,d4,go_sem]
  exact ZA (xs:=[.v (.bool false)]) ⟨by unfold msB;rw[h1,h2,ae h3,ag oM];rfl,rfl,rfl⟩
 have d4:=ag h4
 by_cases h5:199<m.nu
 ·have d5:=ae h5
  simp (disch:=first|decide|omega) only[hA,d3,d4,d5,go_sem]
  exact ZA (xs:=[.v (.bool false)]) ⟨by unfold msB;rw[h1,h2,ae h3,ag oM];rfl,rfl,rfl⟩
 have d5:=ag h5
 by_cases h6:20<m.body.length
 ·have d6:decide ((20:Int)<(m.body.length:Int))=true:=ae oM
  simp (disch:=first|decide|omega) only[hA,d3,d4,d5,d6,aa,go_sem]
  exact ZA (xs:=[.v (.bool false)]) ⟨by unfold msB;rw[h1,h2,ae h3,ae (show 0≤m.nu∧m.nu≤199 by omega),ag (show ¬m.body.length≤20 by omega)];rfl,rfl,rfl⟩
 have d6:decide ((20:Int)<(m.body.length:Int))=false:=ag oM
 simp (disch:=first|decide|omega) only[hA,d3,d4,d5,d6,aa,go_sem]
 refine QA.nxt (AL m.body _ [] (fun i=>!vlB (m.body.getD i 0)) oM _ _ (fun i hi=>by
  have:=x6 m.body[i] (B++[Row.live 0 4 [[AV.v (IV.int .i64 m.fr),AV.v (IV.int .i64 m.to),AV.v (IV.int .i64 m.nu),AV.v (IV.isl 1 (m.body.map eI))]]]) []
  simp only[YA hi]
  exact this)) ?_
 rw[bG (p:=fun x=>!vlB x),mF]
 simp (disch:=first|decide|omega) only[hA,ki,go_sem]
 exact ZA (xs:=[.v (.bool (m.body.all vlB))]) ⟨by unfold msB;rw[h1,h2,ae h3,ae (show 0≤m.nu∧m.nu≤199 by omega),ae (show m.body.length≤20 by omega)];rfl,rfl,rfl⟩
theorem r6 (f:Int×Int) (b l:List Row):QA Tryz.prog 140 [.agg [.v (.int .i64 f.1),.v (.int .i64 f.2)]] b l (fun r b' l'=>r=.v (.bool (ftB f))∧b'=b∧l'=l):=by
 refine XA J8 rfl kE ?_
 intro B g hB hR hE hA;simp only[zA]at hA
 by_cases h1:0≤f.1
 case neg =>
  have d1:=ag h1
  simp (disch:=first|decide|omega) only[a_nfate,hA,d1,go_sem]
  exact ZA (xs:=[.v (.bool false)]) ⟨by unfold ftB;rw[ag oM];rfl,rfl,rfl⟩
 have d1:=ae h1
 by_cases h2:f.1≤3
 case neg =>
  have d2:=ag h2
  simp (disch:=first|decide|omega) only[a_nfate,hA,d1,d2,go_sem]
  exact ZA (xs:=[.v (.bool false)]) ⟨by unfold ftB;rw[ag oM];rfl,rfl,rfl⟩
 have d2:=ae h2
 by_cases h3:0≤f.2
 case neg =>
  have d3:=ag h3
  simp (disch:=first|decide|omega) only[a_nfate,hA,d1,d2,d3,go_sem]
  exact ZA (xs:=[.v (.bool false)]) ⟨by unfold ftB;rw[ag oM];rfl,rfl,rfl⟩
 have d3:=ae h3
 by_cases h4:f.2≤1000000
 ·have d4:=ae h4
  simp (disch:=first|decide|omega) only[a_nfate,hA,d1,d2,d3,d4,go_sem]
  exact ZA (xs:=[.v (.bool true)]) ⟨by unfold ftB;rw[ae oM];rfl,rfl,rfl⟩
 ·have d4:=ag h4
  simp (disch:=first|decide|omega) only[a_nfate,hA,d1,d2,d3,d4,go_sem]
  exact ZA (xs:=[.v (.bool false)]) ⟨by unfold ftB;rw[ag oM];rfl,rfl,rfl⟩
theorem n6 (f:Int×Int) (b l:List Row):QA Tryz.prog 139 [.agg [.v (.int .i64 f.1),.v (.int .i64 f.2)]] b l (fun r b' l'=>r=.v (.bool (!ftB f))∧b'=b∧l'=l):=by
 refine XA V8 rfl kE ?_
 intro B g hB hR hE hA;simp only[zA]at hA
 simp (disch:=first|decide|omega) only[a_nfatc,hA,go_sem]
 refine QA.nxt (r6 f _ _) ?_
 simp (disch:=first|decide|omega) only[hA,go_sem]
 exact ZA (xs:=[.v (.bool (!ftB f))])
theorem i6 (v:List (Int×Int)) (hn:v.length≤1000000) (b l:List Row):QA Tryz.prog 91 [.v (.isl 2 (v.map eFt))] b l (fun r b' l'=>r=.v (.bool (D4 v))∧b'=b∧l'=l):=by
 refine XA Y8 rfl kE ?_
 intro B g hB hR hE hA;simp only[zA]at hA
 simp (disch:=first|decide|omega) only[a_nfats,hA,go_sem]
 refine QA.nxt (qD (P:=Tryz.prog) (sz:=2) (f:=42) (g:=93) (by kernel_rfl) (by kernel_rfl) (v.map eFt) _ [] (fun i=>!ftB (v.getD i (0,0))) (by intro row hr;obtain⟨f,_,rfl⟩:=cr.1 hr;rfl) (by simpa using hn) _ _ (fun i row hi=>by
  rw[an]at hi
  cases hq:v[i]? with
  |none=>rw[hq]at hi;cases hi
  |some f =>
    rw[hq]at hi;cases hi
    have:=n6 f (B++[]) []
    simp only[au,hq,fu]
    exact this)) ?_
 rw[aa,bG (p:=fun x=>!ftB x),mF]
 simp (disch:=first|decide|omega) only[hA,ki,go_sem]
 exact ZA (xs:=[.v (.bool (v.all ftB))])
theorem eG {l:List Ms} {i:Nat} (h:i<l.length):(l.map eMs)[i]? = some [.int .i64 l[i].fr,.int .i64 l[i].to,.int .i64 l[i].nu,.isl 1 (l[i].body.map eI)]:=by
 rw[an,ah h];rfl
theorem IC {l:List Int} {i:Nat} (h:i<l.length):(l.map eI)[i]? = some [.int .i64 (l.getD i 0)]:=by
 rw[an,ah h,YA h];rfl
theorem ZFM {n:Nw} (hb:(decide (0≤n.now∧n.now≤1099511627776)&&(decide (n.l.length=n.tm.length)&&(decide (n.l.length≤1000)&&(decide (n.fates.length≤1000)&&D4 n.fates))))=true):nwB n=(List.range n.l.length).all (mtB n):=by
 simp only[ar]at hb
 unfold nwB
 rw[hb.1,hb.2.1,hb.2.2.1,hb.2.2.2.1,hb.2.2.2.2]
 rfl
abbrev zNA (x:Nw):List AV:=[.v (.int .i64 x.now),.v (.bool x.fifo),.v (.isl 4 (x.l.map eMs)),.v (.isl 1 (x.tm.map eI)),.v (.isl 2 (x.fates.map eFt))]
theorem xG (n:Nw) (b l:List Row):QA Tryz.prog 65 [.agg ((eNw n).map .v)] b l (fun r b' l'=>r=.v (.bool (nwB n))∧b'=b∧l'=l):=by
 refine XA X0 rfl kE ?_
 intro B g hB hR hE hA;simp only[zA]at hA
 have F:∀{p:Prop} [Decidable p],¬p→decide p=false:=fun h=>ag h
 by_cases h1:n.now<0
 ·have d1:=ae h1
  simp (disch:=first|decide|omega) only[a_nValid,hA,eNw,d1,go_sem]
  exact ZA (xs:=[.v (.bool false)]) ⟨by unfold nwB;rw[F (show ¬(0≤n.now∧n.now≤1099511627776) by omega)];rfl,rfl,rfl⟩
 have d1:=ag h1
 by_cases h2:1099511627776<n.now
 ·have d2:=ae h2
  simp (disch:=first|decide|omega) only[a_nValid,hA,eNw,d1,d2,go_sem]
  exact ZA (xs:=[.v (.bool false)]) ⟨by unfold nwB;rw[F (show ¬(0≤n.now∧n.now≤1099511627776) by omega)];rfl,rfl,rfl⟩
 have d2:=ag h2
 have e1:decide (0≤n.now∧n.now≤1099511627776)=true:=ae oM
 by_cases h3:n.l.length=n.tm.length
 case neg =>
  have d3:((n.l.length:Int) != (n.tm.length:Int))=true:=by simp;omega
  simp (disch:=first|decide|omega) only[a_nValid,hA,eNw,d1,d2,d3,aa,go_sem]
  exact ZA (xs:=[.v (.bool false)]) ⟨by unfold nwB;rw[e1,F h3];rfl,rfl,rfl⟩
 have d3:((n.l.length:Int) != (n.tm.length:Int))=false:=by simp;omega
 have e3:decide (n.l.length=n.tm.length)=true:=ae h3
 by_cases h4:1000<n.l.length
 ·have d4:decide ((1000:Int)<(n.l.length:Int))=true:=ae oM
  simp (disch:=first|decide|omega) only[a_nValid,hA,eNw,d1,d2,d3,d4,aa,go_sem]
  exact ZA (xs:=[.v (.bool false)]) ⟨by unfold nwB;rw[e1,e3,F (show ¬n.l.length≤1000 by omega)];rfl,rfl,rfl⟩
 have d4:decide ((1000:Int)<(n.l.length:Int))=false:=ag oM
 have e4:decide (n.l.length≤1000)=true:=ae oM
 by_cases h5:1000<n.fates.length
 ·have d5:decide ((1000:Int)<(n.fates.length:Int))=true:=ae oM
  simp (disch:=first|decide|omega) only[a_nValid,hA,eNw,d1,d2,d3,d4,d5,aa,go_sem]
  exact ZA (xs:=[.v (.bool false)]) ⟨by unfold nwB;rw[e1,e3,e4,F (show ¬n.fates.length≤1000 by omega)];rfl,rfl,rfl⟩
 have d5:decide ((1000:Int)<(n.fates.length:Int))=false:=ag oM
 have e5:decide (n.fates.length≤1000)=true:=ae oM
 simp (disch:=first|decide|omega) only[a_nValid,hA,eNw,d1,d2,d3,d4,d5,aa,go_sem]
 refine QA.nxt (i6 n.fates oM _ _) ?_
 cases h6:D4 n.fates
 ·simp (disch:=first|decide|omega) only[hA,go_sem]
  exact ZA (xs:=[.v (.bool false)]) ⟨by unfold nwB;rw[e1,e3,e4,e5,h6];rfl,rfl,rfl⟩
 have xF:=ZFM (n:=n) (by rw[e1,e3,e4,e5,h6];rfl)
 simp (disch:=first|decide|omega) only[hA,aa,go_sem]
 refine JA (ι:=Nat) xP (fun i=>[(43,.v (.int .i64 i))]) 1 (fun _=>[.live 0 5 [(zNA n)]])
  (fun i=>i≤n.l.length∧∀j,j<i→mtB n j=true) (fun i=>n.l.length-i) 0 ⟨aj _,fun j hj=>by omega⟩ kM kA kF ?_
 rintro g1 qF TE sA i ⟨hi,h0⟩
 by_cases yA:i<n.l.length
 ·have hm:=eG yA
  have ht:=IC (show i<n.tm.length by omega)
  have ZCy:mtB n i=false→nwB n=false:=fun h=>by
   rw[xF,ew]
   exact⟨i,ba.2 yA,by rw[h];simp⟩
  have fJ:n.l.getD i dfMs=n.l[i]:=YA yA
  simp (disch:=first|decide|omega) only[hA,sA,hm,aa,go_sem]
  refine QA.nxt (FV n.l[i] _ _) ?_
  cases q1:msB n.l[i]
  ·simp (disch:=first|decide|omega) only[hA,sA,go_sem]
   exact ZA (xs:=[.v (.bool false)]) ⟨by rw[ZCy (by unfold mtB;rw[fJ,q1];rfl)];rfl,rfl,rfl⟩
  by_cases q2:n.tm.getD i 0<0
  ·have c2:=ae q2
   simp (disch:=first|decide|omega) only[hA,sA,ht,c2,go_sem]
   exact ZA (xs:=[.v (.bool false)]) ⟨by rw[ZCy (by unfold mtB;rw[fJ,q1,F oM];rfl)];rfl,rfl,rfl⟩
  have c2:=ag q2
  by_cases q3:1099512627776<n.tm.getD i 0
  ·have c3:=ae q3
   simp (disch:=first|decide|omega) only[hA,sA,ht,c2,c3,go_sem]
   exact ZA (xs:=[.v (.bool false)]) ⟨by rw[ZCy (by unfold mtB;rw[fJ,q1,F oM];rfl)];rfl,rfl,rfl⟩
  have c3:=ag q3
  by_cases q4:0<i
  ·have c4:decide ((0:Int)<(i:Int))=true:=ae oM
   have c8:(i:Int)-1=((i-1:Nat):Int):=by omega
   have ht1:=IC (l:=n.tm) (show i-1<n.tm.length by omega)
   by_cases q5:n.tm.getD i 0<n.tm.getD (i-1) 0
   ·have c5:=ae q5
    simp (disch:=first|decide|omega) only[hA,sA,ht,c2,c3,c4,c8,ht1,c5,go_sem]
    exact ZA (xs:=[.v (.bool false)]) ⟨by rw[ZCy (by unfold mtB;rw[fJ,q1,F (fun h=>by have:=h.2.2 q4;omega)];rfl)];rfl,rfl,rfl⟩
   have c5:=ag q5
   simp (disch:=first|decide|omega) only[hA,sA,ht,c2,c3,c4,c8,ht1,c5,go_sem]
   refine⟨i+1,⟨yA,fun j hj=>?_⟩,by simp only;omega,?_⟩
   ·rcases bp j i with YG|YG
    ·exact h0 j YG
    ·obtain rfl:j=i:=by omega
     unfold mtB;rw[fJ,q1,ae ⟨by omega,by omega,fun _=>by omega⟩];rfl
   exact VA.kround (p:=xP) (k:=1) kQ kA rfl qF kS kV hR kL
  ·have c4:decide ((0:Int)<(i:Int))=false:=ag oM
   simp (disch:=first|decide|omega) only[hA,sA,ht,c2,c3,c4,go_sem]
   refine⟨i+1,⟨yA,fun j hj=>?_⟩,by simp only;omega,?_⟩
   ·rcases bp j i with YG|YG
    ·exact h0 j YG
    ·obtain rfl:j=i:=by omega
     unfold mtB;rw[fJ,q1,ae ⟨by omega,by omega,fun _=>by omega⟩];rfl
   exact VA.kround (p:=xP) (k:=1) kQ kA rfl qF kS kV hR kL
 ·obtain rfl:i=n.l.length:=by omega
  simp (disch:=first|decide|omega) only[hA,sA,aa,go_sem]
  exact ZA (xs:=[.v (.bool true)]) ⟨by rw[xF,bn.2 (fun j hj=>h0 j (ba.1 hj))];rfl,rfl,rfl⟩
section
variable {α:Type} {n:Nat} {C:Nat→α} {T:List α}
theorem Q5 {p:Nat} (h:p<n):(fl n C++T)[p]? = some (C p):=by rw[aw (by rw[xA];exact h),CB h]
theorem MC {j:Nat}:(fl n C++T)[n+j]? = T[j]?:=by rw[aq (by rw[xA];omega),xA,cj]
theorem EC:(fl n C++T)[n]? = T[0]?:=MC (j:=0)
theorem tB {j:Nat} {x:α}:(fl n C++T).set (n+j) x=fl n C++T.set j x:=by rw[jg _ _ (by rw[xA];omega),xA,cj]
theorem uB {x:α}:(fl n C++T).set n x=fl n C++T.set 0 x:=tB (j:=0)
end
theorem nH {e:List AV} {l l':List Row} {rs:List ARes} {Q:AV→List Row→List Row→Prop} {B:List Row} {ex:AExit} {m:Nat} (hex:ex=.normal∨ex=.ret) {xs:List AV} (hx:resVs e B l rs=some xs) {y:AV} (hm:l'.length=m) (σ:Nat→Nat) (ZCx:∀i j,i<m→j<m→σ i=σ j→i=j)
  (JD:∀j r',l'[j]? = some r'→∃r,l[σ j]? = some r∧RnR B.length m σ r r') (he:Rn B.length m σ (one xs) y) (hR:gA B.length B) {b0 l0:List Row} (hB:B=b0++l0) (hq:Q y b0 (l0++l')):uH rs Q b0.length ex e B l:=
 SU hex hx (y:=y) (l':=l') (VA.renM hm σ ZCx JD hR rfl (fun i x z hx hz=>by
  cases i with
  |zero=>simp at hx hz;subst hx;subst hz;exact he
  |succ i=>simp at hx)) hB hq
theorem AVlt.rnK {n k m:Nat} {σ:Nat→Nat} (hσ:∀j,j<k→σ j=j) (hk:k≤m) {x:AV} (h:AVlt (n+k) x):Rn n m σ x x:=by
 have sp:∀id,id<n+k→id<n∨∃j,id=n+j∧j<k:=fun id h=>by
  by_cases h1:id<n
  ·exact .inl h1
  ·exact .inr ⟨id-n,by omega,by omega⟩
 induction h with
 |any=>exact .any
 |v x=>exact .v x
 |sl id ver off len h =>
   rcases sp id (by first|exact h|assumption) with h1|⟨j,rfl,h1⟩
   ·exact .slB id ver off len h1
   ·have:=Rn.sl (n:=n) (m:=m) (σ:=σ) j ver off len oM
    rwa [hσ j h1]at this
 |ptr id ver k' i h =>
   rcases sp id (by first|exact h|assumption) with h1|⟨j,rfl,h1⟩
   ·exact .ptrB id ver k' i h1
   ·have:=Rn.ptr (n:=n) (m:=m) (σ:=σ) j ver k' i oM
    rwa [hσ j h1]at this
 |mp id ver h =>
   rcases sp id (by first|exact h|assumption) with h1|⟨j,rfl,h1⟩
   ·exact .mpB id ver h1
   ·have:=Rn.mp (n:=n) (m:=m) (σ:=σ) j ver oM
    rwa [hσ j h1]at this
 |agg cs _ ih=>exact .agg cs cs rfl (fun i c d h1 h2=>by rw[h1]at h2;cases h2;exact ih c (ci h1))
 |tup cs _ ih=>exact .tup cs cs rfl (fun i c d h1 h2=>by rw[h1]at h2;cases h2;exact ih c (ci h1))
 |fn f cs _ ih=>exact .fn f cs cs rfl (fun i c d h1 h2=>by rw[h1]at h2;cases h2;exact ih c (ci h1))
theorem RnL.rnK {n k m:Nat} {σ:Nat→Nat} (hσ:∀j,j<k→σ j=j) (hk:k≤m) {xs:List AV} (h:∀x∈xs,AVlt (n+k) x):RnL n m σ xs xs:=
 ⟨rfl,fun i c d h1 h2=>by rw[h1]at h2;cases h2;exact (h c (ci h1)).rnK hσ hk⟩
theorem RnR.rnK {n k m:Nat} {σ:Nat→Nat} (hσ:∀j,j<k→σ j=j) (hk:k≤m) {v s:Nat} {els:List (List AV)} (h:∀r∈els,∀x∈r,AVlt (n+k) x):RnR n m σ (.live v s els) (.live v s els):=
 ⟨rfl,rfl,rfl,fun i c d h1 h2=>by rw[h1]at h2;cases h2;exact RnL.rnK hσ hk (h c (ci h1))⟩
theorem VA.kren {N:Nat} {p:List (Nat×Nat)} {ov:List (Nat×AV)} {f g:Nat→AV} {b l l1:List Row} {k m:Nat} (hm:l1.length=m) (σ:Nat→Nat) (he:gF p f=g) (h:lF f ov) (hE:KLt (b.length+k) g) (hk:k≤m) (hσ:∀j,j<k→σ j=j) (ho:bH (b.length+k) ov) (hb:gA b.length b)
  (ZCx:∀i j,i<m→j<m→σ i=σ j→i=j) (JD:∀j r',l1[j]? = some r'→∃r,l[σ j]? = some r∧RnR b.length m σ r r'):VA (kOf N f) b l (kOf N (kOv ov g)) b l1:=by
 subst he
 exact (VA.named p ov h).trans (VA.renM hm σ ZCx JD hb rfl (fun i x y hx hy=>by
  rw[hx]at hy;cases hy
  exact AVlt.rnK hσ hk ((hE.ov ho).env x (ci hx))))
theorem ER {cs:List AV}:one [.agg cs]=.agg cs:=rfl
theorem vJ {l r:List Row} {j:Nat}:(l++r)[l.length+j]? = r[j]?:=by rw[aq oM,cj]
theorem rL {l r:List Row}:(l++r)[l.length]? = r[0]?:=vJ (j:=0)
theorem RH {l r:List Row} {j:Nat} {x:Row}:(l++r).set (l.length+j) x=l++r.set j x:=by rw[jg _ _ oM,cj]
theorem kK {l r:List Row} {x:Row}:(l++r).set l.length x=l++r.set 0 x:=RH (j:=0)
def a_ncop:AFunc:=({c:=_}:CF Tryz.prog 143).c
theorem ZCY:qA Tryz.prog 143=some a_ncop:=by kernel_rfl
def a_nclone:AFunc:=({c:=_}:CF Tryz.prog 101).c
theorem Q0:qA Tryz.prog 101=some a_nclone:=by kernel_rfl
def aV:List (Nat×Nat):=[(3,4),(20,31)]

theorem TS {e:List AV} {l:List Row} {rs:List ARes} {Q:AV→List Row→List Row→Prop} {B:List Row} {ex:AExit} (hex:ex=.normal∨ex=.ret) (V sz:Nat) (hx:resVs e B l rs=some [.v .zsl]) (hR:gA B.length B) {b0 l0:List Row} (hB:B=b0++l0) (hq:Q (.sl B.length V 0 0) b0 (l0++[.live V sz []])) :
  uH rs Q b0.length ex e B l:=by
 refine SU hex hx (y:=.sl B.length V 0 0) (l':=[.live V sz []]) ((VA.trim (l1:=[]) rfl (by intro x hx;simp[one]at hx;subst hx;exact .v _) (by simpa using hR) nE).trans ?_) hB hq
 have:=VA.nilV (b:=B) (l:=[]) (sz:=sz) V
 simpa [one] using this
def s4 (sz bytes:Nat) (zs:List AV):AFunc:=⟨1,8,[.tmp 2],
 (.seq (.region [⟨(some 2),.mv (.c (.v .zsl)),none⟩])
 (.seq (.seq (.region [⟨(some 3),.mv (.t 0),none⟩,⟨(some 4),.isnil false (.t 3),none⟩])
 (.cond (.t 4) (.seq (.region [⟨(some 2),.mv (.c (.v .zsl)),none⟩])
 .ret)
 .skip))
 (.seq (.region [⟨(some 5),.bslice sz zs 0 [],none⟩,⟨(some 6),.mv (.t 0),none⟩,⟨(some 7),.append sz bytes (.t 5) (.t 6),none⟩,⟨(some 2),.mv (.t 7),none⟩])
 .ret)))⟩
theorem ZBy {e:List AV} {sz:Nat} {els:List (List AV)}:RB e sz els []=some els:=rfl
theorem nI {P:Program} {f sz bytes:Nat} {zs:List AV} (hf:qA P f=some (s4 sz bytes zs)) (yO:bytes≤1000) (rows:List (List IV)) (hn:rows.length≤1000000) (b l:List Row) :
  QA P f [.v (.isl sz rows)] b l (fun r b' l'=>r=.sl (b.length+l.length) 1 0 rows.length∧b'=b∧l'=l++[.live 1 sz (vs rows)]):=by
 refine XA hf rfl (by show 1≤8;decide) ?_
 intro B g hB hR hE hA;simp only[zA]at hA
 have hq:rows.length*bytes≤1000000*1000:=Nat.mul_le_mul hn yO
 have hr:rows.length*bytes≤140737488355328:=by omega
 have PY:rows.length≤140737488355328:=by omega
 simp (disch:=first|decide|omega) only[s4,hA,go_sem]
 refine⟨fun h=>?_,?_⟩
 ·have h0:rows=[]:=List.isEmpty_iff.1 h
  subst h0
  exact TS (.inr rfl) 1 sz kR hR hB ⟨by rw[hB,ap];rfl,rfl,rfl⟩
 ·refine SU (.inr rfl) (xs:=[.sl B.length 1 0 rows.length]) (y:=.sl B.length 1 0 rows.length) (l':=[.live 1 sz (vs rows)]) kR (VA.trim (l1:=[.live 1 sz (vs rows)]) (junk:=[]) rfl ?_ (hR.mono oM) ?_) hB ⟨by rw[hB,ap],rfl,rfl⟩
  ·intro x hx
   simp[one]at hx
   subst hx
   simp (disch:=omega) only[lts.down,Nat.reduceLT,Nat.reduceAdd]
  ·simp (disch:=omega) only[lts.down,Nat.reduceLT,Nat.reduceAdd]
theorem pI (v:List Int) (hn:v.length≤1000000) (b l:List Row):QA Tryz.prog 98 [.v (.isl 1 (v.map eI))] b l (fun r b' l'=>r=.sl (b.length+l.length) 1 0 v.length∧b'=b∧l'=l++[.live 1 1 (vs (v.map eI))]):=by
 have:=nI (P:=Tryz.prog) (f:=98) (sz:=1) (bytes:=8) (zs:=[.v (.int .i64 0)]) (by kernel_rfl) kE (v.map eI) (by simpa using hn) b l
 rwa [aa]at this
theorem kW (v:List (Int×Int)) (hn:v.length≤1000000) (b l:List Row):QA Tryz.prog 92 [.v (.isl 2 (v.map eFt))] b l (fun r b' l'=>r=.sl (b.length+l.length) 1 0 v.length∧b'=b∧l'=l++[.live 1 2 (vs (v.map eFt))]):=by
 have:=nI (P:=Tryz.prog) (f:=92) (sz:=2) (bytes:=16) (zs:=[.v (.int .i64 0),.v (.int .i64 0)]) (by kernel_rfl) kE (v.map eFt) (by simpa using hn) b l
 rwa [aa]at this
theorem ZCD (v:List Ms) (hn:v.length≤1000000) (b l:List Row):QA Tryz.prog 142 [.v (.isl 4 (v.map eMs))] b l (fun r b' l'=>r=.sl (b.length+l.length) 1 0 v.length∧b'=b∧l'=l++[.live 1 4 (vs (v.map eMs))]):=by
 have:=nI (P:=Tryz.prog) (f:=142) (sz:=4) (bytes:=48) (zs:=[.v (.int .i64 0),.v (.int .i64 0),.v (.int .i64 0),.v .zsl]) (by kernel_rfl) kE (v.map eMs) (by simpa using hn) b l
 rwa [aa]at this
theorem rP (m:Ms) (hn:m.body.length≤1000000) (b l:List Row):QA Tryz.prog 143 [.agg (zMA m)] b l
  (fun r b' l'=>r=.agg [.v (.int .i64 m.fr),.v (.int .i64 m.to),.v (.int .i64 m.nu),.sl (b.length+l.length) 1 0 m.body.length]∧b'=b∧l'=l++[.live 1 1 (vs (m.body.map eI))]):=by
 refine XA ZCY rfl kE ?_
 intro B g hB hR hE hA;simp only[zA]at hA
 simp (disch:=first|decide|omega) only[a_ncop,hA,go_sem]
 refine QA.nxt (pI m.body hn _ _) ?_
 simp (disch:=first|decide|omega) only[hA,go_sem]
 refine nH (.inr rfl) (xs:=[.agg [.v (.int .i64 m.fr),.v (.int .i64 m.to),.v (.int .i64 m.nu),.sl (B.length+2) 1 0 m.body.length]]) (y:=.agg [.v (.int .i64 m.fr),.v (.int .i64 m.to),.v (.int .i64 m.nu),.sl B.length 1 0 m.body.length]) (l':=[.live 1 1 (vs (m.body.map eI))]) kR (m:=1) rfl (fun j=>j+2) (fun i j _ _ h=>by omega) (fun j r' h=>?_) ?_ hR hB ⟨by rw[hB,ap],rfl,rfl⟩
 ·match j,h with
  |0,h=>cases h;exact⟨_,rfl,RnR.plain⟩
 ·rw[ER]
  exact Rn.aggL (.cons (.v _) (.cons (.v _) (.cons (.v _) (.cons (Rn.slE (j:=0) rfl kS) .nil))))
structure Lv where
 now:Int
 fifo:Bool
 vL:Nat
 vA:Nat
 o:Nat
 xs:List (Ms×Nat)
 tm:List Int
 fs:List (Int×Int)
 bd:List (List Int)
def lvE (base:Nat) (x:Ms×Nat):List AV:=[.v (.int .i64 x.1.fr),.v (.int .i64 x.1.to),.v (.int .i64 x.1.nu),.sl (base+(3+x.2)) 1 0 x.1.body.length]
def bdR (v:List Int):Row:=.live 1 1 (vs (v.map eI))
def Lv.av (z:Lv) (base:Nat):AV:=.agg [.v (.int .i64 z.now),.v (.bool z.fifo),.sl base z.vL 0 z.xs.length,.sl (base+1) z.vA 0 z.tm.length,.sl (base+2) 1 z.o (z.fs.length-z.o)]
def Lv.rows (z:Lv) (base:Nat):List Row:=.live z.vL 4 (z.xs.map (lvE base))::.live z.vA 1 (vs (z.tm.map eI))::.live 1 2 (vs (z.fs.map eFt))::z.bd.map bdR
structure Lv.ok (z:Lv):Prop where
 o:z.o≤z.fs.length
 bd:∀x∈z.xs,z.bd[x.2]? = some x.1.body
def Lv.nw (z:Lv):Nw:=⟨z.now,z.fifo,z.xs.map (·.1),z.tm,z.fs.drop z.o⟩
theorem Lv.dv {z:Lv} (h:z.ok) (base:Nat):Dv base (z.rows base) (z.av base) (.agg ((eNw z.nw).map .v)):=by
 unfold Lv.av Lv.rows eNw Lv.nw
 refine Dv.aggL (.cons (.v _) (.cons (.v _) (.cons ?_ (.cons ?_ (.cons ?_ .nil)))))
 ·refine Dv.slR (i:=0) rfl kS kS (fun k r row h1 h2=>?_)
  rw[cn,an]at h1
  rw[an,an]at h2
  cases hq:z.xs[k]? with
  |none=>rw[hq]at h1;cases h1
  |some x =>
    rw[hq]at h1 h2
    cases h1;cases h2
    have hb:=h.bd x (ci hq)
    unfold lvE eMs
    refine .cons (.v _) (.cons (.v _) (.cons (.v _) (.cons ?_ .nil)))
    refine Dv.slV (i:=3+x.2) (rows:=x.1.body.map eI) ?_ kS
    rw[gz 3]
    simp only[fh,an,hb]
    rfl
 ·exact Dv.slV (i:=1) (rows:=z.tm.map eI) rfl kS
 ·have:=Dv.slVoff (n:=base) (l:=.live z.vL 4 (z.xs.map (lvE base))::.live z.vA 1 (vs (z.tm.map eI))::.live 1 2 (vs (z.fs.map eFt))::z.bd.map bdR) (i:=2) (ver:=1) (sz:=2) (off:=z.o) (len:=z.fs.length-z.o) (rows:=z.fs.map eFt) rfl (by have:=h.o;simp;omega)
  rwa [←fz]at this
def clE (n:Nw) (base i:Nat):List (List AV):=fl n.l.length fun j=>if j<i then [.v (.int .i64 (n.l.getD j dfMs).fr),.v (.int .i64 (n.l.getD j dfMs).to),.v (.int .i64 (n.l.getD j dfMs).nu),.sl (base+(5+j)) 1 0 (n.l.getD j dfMs).body.length] else (eMs (n.l.getD j dfMs)).map .v
def clB (n:Nw) (j:Nat):Row:=bdR (n.l.getD j dfMs).body
theorem ZE6 {n:Nw} {base:Nat}:clE n base 0=vs (n.l.map eMs):=by
 unfold clE vs
 apply ea
 intro j
 by_cases hj:j<n.l.length
 ·rw[CB hj,an,an,ah hj,if_neg oM,YA hj];rfl
 ·rw[UH oM,cg (by simp;omega)]
def AB (n:Nw):Lv:=⟨n.now,n.fifo,1,1,0,fl n.l.length (fun i=>(n.l.getD i dfMs,i)),n.tm,n.fates,n.l.map (·.body)⟩
theorem GP (n:Nw):(AB n).ok:=by
 refine⟨aj _,fun x hx=>?_⟩
 obtain⟨i,hi,rfl⟩:=cr.1 hx
 have hi:=ba.1 hi
 show (n.l.map (·.body))[i]? = _
 rw[an,ah hi,YA hi];rfl
theorem IP (n:Nw):(AB n).nw=n:=by
 have h:(AB n).xs.map (·.1)=n.l:=by
  show (fl n.l.length fun i=>(n.l.getD i dfMs,i)).map (·.1)=n.l
  rw[ZFT];exact ZH2
 unfold Lv.nw
 rw[h];rfl
theorem UM (n:Nw) (hS:NwS n) (b l:List Row):QA Tryz.prog 101 [.agg ((eNw n).map .v)] b l
  (fun r b' l'=>r=(AB n).av (b.length+l.length)∧b'=b∧l'=l++(AB n).rows (b.length+l.length)):=by
 refine XA Q0 rfl kE ?_
 intro B g hB hR hE hA;simp only[zA]at hA
 have NY:=hS.l
 simp (disch:=first|decide|omega) only[a_nclone,hA,eNw,go_sem]
 refine QA.nxt (pI n.tm hS.tm _ _) ?_
 simp (disch:=first|decide|omega) only[hA,go_sem]
 refine QA.nxt (kW n.fates hS.fates _ _) ?_
 simp (disch:=first|decide|omega) only[hA,go_sem]
 refine QA.nxt (ZCD n.l hS.l _ _) ?_
 simp (disch:=first|decide|omega) only[hA,go_sem]
 have hz:=ZE6 (n:=n) (base:=B.length)
 refine JA (ι:=Nat) aV (fun i=>[(20,.v (.int .i64 i))]) 5 (fun i=>.live 0 5 [[.v (.int .i64 n.now),.v (.bool n.fifo),.sl (B.length+4) 1 0 n.l.length,.sl (B.length+2) 1 0 n.tm.length,.sl (B.length+3) 1 0 n.fates.length]]::.live 0 5 [[.v (.int .i64 0),.v (.bool false),.v .zsl,.v .zsl,.v .zsl]]::.live 1 1 (vs (n.tm.map eI))::.live 1 2 (vs (n.fates.map eFt))::.live 1 4 (clE n B.length i)::fl i (clB n))
  (fun i=>i≤n.l.length) (fun i=>n.l.length-i) 0 (aj _) kM kA (fun e=>by rw[hz];exact VA.refl _ _ _) ?_
 intro g1 qF TE sA i hi
 by_cases yA:i<n.l.length
 ·have yH:(clE n B.length i)[i]? = some [.v (.int .i64 n.l[i].fr),.v (.int .i64 n.l[i].to),.v (.int .i64 n.l[i].nu),.v (.isl 1 (n.l[i].body.map eI))]:=by
   unfold clE
   rw[CB yA,if_neg oM,YA yA];rfl
  simp (disch:=first|decide|omega) only[hA,sA,yH,xA,EC,MC,uB,tB,go_sem]
  refine QA.nxt (rP n.l[i] (hS.body _ (ak yA)) _ _) ?_
  simp (disch:=first|decide|omega) only[hA,sA,yH,xA,EC,MC,uB,tB,cellsOf,go_sem]
  refine⟨i+1,yA,by simp only;omega,?_⟩
  obtain⟨σ,s1,s2⟩:∃σ:Nat→Nat,(∀j,j<5+i→σ j=j)∧(∀j,5+i≤j→σ j=j+1):=⟨fun j=>if j<5+i then j else j+1,fun j h=>if_pos h,fun j h=>if_neg oM⟩
  refine VA.kren (p:=aV) (k:=5) (m:=i+6) (by simp[xA]) σ kQ kA qF oM (fun j hj=>s1 j oM) kV hR (fun a c _ _ h=>?_) (fun j r' h=>?_)
  ·by_cases ha:a<5+i<;>by_cases hc:c<5+i
   ·rw[s1 a ha,s1 c hc]at h;exact h
   ·rw[s1 a ha,s2 c oM]at h;omega
   ·rw[s2 a oM,s1 c hc]at h;omega
   ·rw[s2 a oM,s2 c oM]at h;omega
  ·match j,h with
   |0,h=>rw[s1 0 oM];cases h;exact⟨_,rfl,RnR.rnK (k:=5) (fun j hj=>s1 j oM) oM kL⟩
   |1,h=>rw[s1 1 oM];cases h;exact⟨_,rfl,RnR.rnK (k:=5) (fun j hj=>s1 j oM) oM kL⟩
   |2,h=>rw[s1 2 oM];cases h;exact⟨_,rfl,RnR.plain⟩
   |3,h=>rw[s1 3 oM];cases h;exact⟨_,rfl,RnR.plain⟩
   |4,h =>
     rw[s1 4 oM];cases h
     refine⟨_,rfl,rfl,rfl,by unfold clE;rw[dh,xA,xA],fun k r r' h1 h2=>?_⟩
     by_cases hk:k<n.l.length
     ·unfold clE at h2
      rw[CB hk]at h2
      by_cases hki:i=k
      ·subst hki
       rw[ay (by unfold clE;rw[xA];exact hk)]at h1
       rw[if_pos oM,YA hk]at h2
       cases h1;cases h2
       exact .cons (.v _) (.cons (.v _) (.cons (.v _) (.cons (Rn.slE (j:=5+i) (by rw[s2 _ (ai _)];omega) oM) .nil)))
      ·rw[bl hki]at h1
       unfold clE at h1
       rw[CB hk]at h1
       by_cases hlk:k<i
       ·rw[if_pos hlk]at h1
        rw[if_pos oM]at h2
        cases h1;cases h2
        exact .cons (.v _) (.cons (.v _) (.cons (.v _) (.cons (Rn.slE (s1 _ oM) oM) .nil)))
       ·rw[if_neg hlk]at h1
        rw[if_neg oM]at h2
        cases h1;cases h2
        exact RnL.plain
     ·unfold clE at h2
      rw[UH oM]at h2;cases h2
   |j+5,h =>
     have h:(fl (i+1) (clB n))[j]? = some r':=h
     by_cases hj:j<i
     ·rw[s1 _ oM]
      rw[CB oM]at h;cases h
      exact⟨clB n j,by simp only[fh];exact Q5 hj,RnR.plain⟩
     ·have YG:j=i:=by
       have:=(am.1 h).1
       rw[xA]at this;omega
      subst YG
      rw[CB oM]at h;cases h
      rw[s2 _ oM]
      refine⟨clB n j,?_,RnR.plain⟩
      simp only[fh]
      rw[MC]
      unfold clB bdR
      rw[YA yA];rfl
 ·obtain rfl:i=n.l.length:=by omega
  simp (disch:=first|decide|omega) only[hA,sA,go_sem]
  obtain⟨σ,s0,s1,s2,s3⟩:∃σ:Nat→Nat,σ 0=4∧σ 1=2∧σ 2=3∧(∀j,σ (j+3)=j+5):=⟨fun j=>if j=0 then 4 else if j=1 then 2 else if j=2 then 3 else j+2,rfl,rfl,rfl,fun j=>by simp only;rw[if_neg oM,if_neg oM,if_neg oM]⟩
  refine nH (.inr rfl) (xs:=[.agg [.v (.int .i64 n.now),.v (.bool n.fifo),.sl (B.length+4) 1 0 n.l.length,.sl (B.length+2) 1 0 n.tm.length,.sl (B.length+3) 1 0 n.fates.length]]) (y:=(AB n).av B.length) (l':=(AB n).rows B.length) kR (m:=n.l.length+3) (by simp[Lv.rows,AB]) σ (fun a c _ _ h=>?_) (fun j r' h=>?_) ?_ hR hB ⟨by rw[hB,ap],rfl,by rw[hB,ap]⟩
  ·match a,c,h with
   |0,0,_=>rfl
   |0,1,h=>rw[s0,s1]at h;omega
   |0,2,h=>rw[s0,s2]at h;omega
   |0,c+3,h=>rw[s0,s3]at h;omega
   |1,0,h=>rw[s0,s1]at h;omega
   |1,1,_=>rfl
   |1,2,h=>rw[s1,s2]at h;omega
   |1,c+3,h=>rw[s1,s3]at h;omega
   |2,0,h=>rw[s0,s2]at h;omega
   |2,1,h=>rw[s1,s2]at h;omega
   |2,2,_=>rfl
   |2,c+3,h=>rw[s2,s3]at h;omega
   |a+3,0,h=>rw[s0,s3]at h;omega
   |a+3,1,h=>rw[s1,s3]at h;omega
   |a+3,2,h=>rw[s2,s3]at h;omega
   |a+3,c+3,h=>rw[s3,s3]at h;omega
  ·match j,h with
   |0,h =>
     rw[s0];cases h
     refine⟨_,rfl,rfl,rfl,by unfold clE AB;rw[aa,xA,xA],fun k r r' h1 h2=>?_⟩
     rw[an]at h2
     have hx:(AB n).xs=fl n.l.length (fun i=>(n.l.getD i dfMs,i)):=rfl
     rw[hx]at h2
     by_cases hk:k<n.l.length
     ·unfold clE at h1
      rw[CB hk,if_pos hk]at h1
      rw[CB hk]at h2
      cases h1;cases h2
      exact .cons (.v _) (.cons (.v _) (.cons (.v _) (.cons (Rn.slE (by rw[gz 3,s3];omega) (by simp only;omega)) .nil)))
     ·rw[UH oM]at h2;cases h2
   |1,h=>rw[s1];cases h;exact⟨_,rfl,RnR.plain⟩
   |2,h=>rw[s2];cases h;exact⟨_,rfl,RnR.plain⟩
   |j+3,h =>
     rw[s3]
     have h:((n.l.map (·.body)).map bdR)[j]? = some r':=h
     rw[List.map_map,an]at h
     have hj:j<n.l.length:=by
      cases hq:n.l[j]? with
      |none=>rw[hq]at h;cases h
      |some x=>exact (am.1 hq).1
     rw[ah hj]at h
     cases h
     refine⟨clB n j,?_,?_⟩
     ·simp only[fh];exact CB hj
     ·unfold clB;rw[YA hj];exact RnR.plain
  ·rw[ER]
   unfold Lv.av
   have hxl:(AB n).xs.length=n.l.length:=xA
   rw[hxl]
   exact Rn.aggL (.cons (.v _) (.cons (.v _) (.cons (Rn.slE (j:=0) s0 oM) (.cons (Rn.slE (j:=1) s1 oM) (.cons (Rn.slE (j:=2) s2 oM) .nil)))))
def a_narr:AFunc:=({c:=_}:CF Tryz.prog 155).c
theorem ZCZ:qA Tryz.prog 155=some a_narr:=by kernel_rfl
def a_nWait:AFunc:=({c:=_}:CF Tryz.prog 111).c
theorem K8:qA Tryz.prog 111=some a_nWait:=by kernel_rfl
def iT:List (Nat×Nat):=[(5,6),(18,27)]
def a_nGo:AFunc:=({c:=_}:CF Tryz.prog 50).c
theorem ZEi:qA Tryz.prog 50=some a_nGo:=by kernel_rfl
def a_cmpI:AFunc:=({c:=_}:CF Tryz.prog 180).c
theorem ZC4:qA Tryz.prog 180=some a_cmpI:=by kernel_rfl
def a_isNaN:AFunc:=({c:=_}:CF Tryz.prog 190).c
theorem x8:qA Tryz.prog 190=some a_isNaN:=by kernel_rfl
def a_bsf:AFunc:=({c:=_}:CF Tryz.prog 179).c
theorem ZEk:qA Tryz.prog 179=some a_bsf:=by kernel_rfl
def Q9:List (Nat×Nat):=[(9,11),(15,34)]

theorem CV (n:Nw) (i:Nat) (hi:i<n.l.length) (ht:i<n.tm.length) (to:Int) (b l:List Row):QA Tryz.prog 155 [.agg (zNA n),.v (.int .i64 i),.v (.int .i64 to)] b l (fun r b' l'=>r=.v (.bool (arB n to i))∧b'=b∧l'=l):=by
 refine XA ZCZ rfl kE ?_
 intro B g hB hR hE hA;simp only[zA]at hA
 have hm:=eG hi
 have htm:=IC ht
 have fJ:n.l.getD i dfMs=n.l[i]:=YA hi
 by_cases h1:n.l[i].to=to
 ·have d1:(n.l[i].to==to)=true:=by rw[h1];simp
  simp (disch:=first|decide|omega) only[a_narr,hA,hm,htm,d1,go_sem]
  exact ZA (xs:=[.v (.bool (decide (n.tm.getD i 0≤n.now)))]) ⟨by unfold arB;rw[fJ,ae h1];rfl,rfl,rfl⟩
 ·have d1:(n.l[i].to==to)=false:=dr.2 h1
  simp (disch:=first|decide|omega) only[a_narr,hA,hm,htm,d1,go_sem]
  exact ZA (xs:=[.v (.bool false)]) ⟨by unfold arB;rw[fJ,ag h1];rfl,rfl,rfl⟩
def fH (n:Nw) (to:Int):Nat:=if nwB n=true∧ptB to=true then wtN n to n.l.length else 0
theorem IS (n:Nw) (to:Int) (b l:List Row):QA Tryz.prog 111 [.agg ((eNw n).map .v),.v (.int .i64 to)] b l (fun r b' l'=>r=.v (.int .i64 (fH n to))∧b'=b∧l'=l):=by
 refine XA K8 rfl kE ?_
 intro B g hB hR hE hA;simp only[zA]at hA
 have hV:=xG n
 unfold eNw at hV
 simp only[bj,cd]at hV
 simp (disch:=first|decide|omega) only[a_nWait,hA,eNw,go_sem]
 refine QA.nxt (hV _ _) ?_
 cases h1:nwB n
 ·simp (disch:=first|decide|omega) only[hA,go_sem]
  exact ZA (xs:=[.v (.int .i64 0)]) ⟨by unfold fH;rw[h1];rfl,rfl,rfl⟩
 have hv:=VG.1 h1
 have hl:=hv.len
 have hlm:=hv.l
 simp (disch:=first|decide|omega) only[hA,go_sem]
 refine QA.nxt (tJ to _ _) ?_
 cases h2:ptB to
 ·simp (disch:=first|decide|omega) only[hA,go_sem]
  exact ZA (xs:=[.v (.int .i64 0)]) ⟨by unfold fH;rw[if_neg (fun h=>by rw[h2]at h;cases h.2)];rfl,rfl,rfl⟩
 have z0:wtN n to 0=0:=rfl
 simp (disch:=first|decide|omega) only[hA,aa,go_sem]
 refine JA (ι:=Nat) iT (fun i=>[(5,.v (.int .i64 (wtN n to i))),(18,.v (.int .i64 i))]) 1 (fun _=>[.live 0 5 [(zNA n)]])
  (fun i=>i≤n.l.length) (fun i=>n.l.length-i) 0 (aj _) kM (by ((try simp (disch:=decide) only[hA,z0,go_sem])<;>exact kH)) kF ?_
 intro g1 qF TE sA i hi
 by_cases yA:i<n.l.length
 ·have hwl:=F8 (n:=n) (to:=to) i
  simp (disch:=first|decide|omega) only[hA,sA,aa,go_sem]
  refine QA.nxt (CV n i yA oM to _ _) ?_
  cases q:arB n to i
  ·have hs:wtN n to (i+1)=wtN n to i:=by simp only[wtN];rw[q];rfl
   simp (disch:=first|decide|omega) only[hA,sA,go_sem]
   refine⟨i+1,yA,by simp only;omega,?_⟩
   exact VA.kround (p:=iT) (k:=1) kQ (by ((try simp (disch:=decide) only[hA,hs,go_sem])<;>exact kH)) rfl qF kS kV hR kL
  ·have hs:wtN n to (i+1)=wtN n to i+1:=by simp only[wtN];rw[q];rfl
   simp (disch:=first|decide|omega) only[hA,sA,go_sem]
   refine⟨i+1,yA,by simp only;omega,?_⟩
   exact VA.kround (p:=iT) (k:=1) kQ (by ((try simp (disch:=decide) only[hA,hs,go_sem])<;>exact kH)) rfl qF kS kV hR kL
 ·obtain rfl:i=n.l.length:=by omega
  simp (disch:=first|decide|omega) only[hA,sA,aa,go_sem]
  exact ZA (xs:=[.v (.int .i64 (wtN n to n.l.length))]) ⟨by unfold fH;rw[if_pos ⟨h1,h2⟩];rfl,rfl,rfl⟩
theorem PS (x:Int) (b l:List Row):QA Tryz.prog 190 [.v (.int .i64 x)] b l (fun r b' l'=>r=.v (.bool false)∧b'=b∧l'=l):=by
 refine XA x8 rfl kE ?_
 intro B g hB hR hE hA;simp only[zA]at hA
 have d1:(x != x)=false:=by simp
 simp (disch:=first|decide|omega) only[a_isNaN,hA,d1,go_sem]
 exact ZA (xs:=[.v (.bool false)])
def R4 (x y:Int):Int:=if x<y then -1 else if y<x then 1 else 0
theorem yW (x y:Int) (b l:List Row):QA Tryz.prog 180 [.v (.int .i64 x),.v (.int .i64 y)] b l (fun r b' l'=>r=.v (.int .i64 (R4 x y))∧b'=b∧l'=l):=by
 refine XA ZC4 rfl kE ?_
 intro B g hB hR hE hA;simp only[zA]at hA
 simp (disch:=first|decide|omega) only[a_cmpI,hA,go_sem]
 refine QA.nxt (PS x _ _) ?_
 simp (disch:=first|decide|omega) only[hA,go_sem]
 refine QA.nxt (PS y _ _) ?_
 by_cases h1:x<y
 ·have d1:=ae h1
  simp (disch:=first|decide|omega) only[hA,d1,go_sem]
  exact ZA (xs:=[.v (.int .i64 (-1))]) ⟨by unfold R4;rw[if_pos h1];rfl,rfl,rfl⟩
 ·have d1:=ag h1
  by_cases h2:y<x
  ·have d2:=ae h2
   simp (disch:=first|decide|omega) only[hA,d1,d2,go_sem]
   exact ZA (xs:=[.v (.int .i64 1)]) ⟨by unfold R4;rw[if_neg h1,if_pos h2];rfl,rfl,rfl⟩
  ·have d2:=ag h2
   simp (disch:=first|decide|omega) only[hA,d1,d2,go_sem]
   exact ZA (xs:=[.v (.int .i64 0)]) ⟨by unfold R4;rw[if_neg h1,if_neg h2];rfl,rfl,rfl⟩
def ZDS (tm:List Int) (a:Int):Bool:=decide (leN tm a<tm.length)&&(tm.getD (leN tm a) 0==a+1)
theorem ZBr {B:List Row} {s:Nat} {r:Row} (h:B[s]? = some r) {l:List Row}:hget B l s=some r:=by
 unfold hget
 rw[if_pos (am.1 h).1];exact h
theorem ZCE (tm:List Int) (hn:tm.length≤1000000) (hs:∀i j,i≤j→j<tm.length→tm.getD i 0≤tm.getD j 0) (a:Int) (id ver:Nat) (b l:List Row) (hid:(b++l)[id]? = some (.live ver 1 (vs (tm.map eI)))) :
  QA Tryz.prog 179 [.sl id ver 0 tm.length,.v (.int .i64 (a+1)),.fn 180 []] b l (fun r b' l'=>r=.tup [.v (.int .i64 (leN tm a)),.v (.bool (ZDS tm a))]∧b'=b∧l'=l):=by
 refine XA ZEk rfl kE ?_
 intro B g hB hR hE hA;simp only[zA]at hA
 have h10:decide ((1:Int)<0)=false:=rfl
 have ZGQ:=fun l=>ZBr (l:=l) (hB.symm▸hid:B[id]? = some (.live ver 1 (vs (tm.map eI))))
 have ZCv:id<B.length:=(am.1 (hB.symm▸hid:B[id]? = some (.live ver 1 (vs (tm.map eI))))).1
 have ZKR:=XR (l:=tm) (a:=a)
 simp (disch:=first|decide|omega) only[a_bsf,hA,aa,go_sem]
 refine JA (ι:=Nat×Nat) Q9 (fun i=>[(9,.v (.int .i64 i.1)),(10,.v (.int .i64 i.2))]) 0 (fun _=>[])
  (fun i=>i.1≤i.2∧i.2≤tm.length∧(∀q,q<i.1→tm.getD q 0≤a)∧∀q,i.2≤q→q<tm.length→a<tm.getD q 0) (fun i=>i.2-i.1) (0,tm.length) ⟨aj _,ai _,fun q hq=>by simp only at hq;omega,fun q h1 h2=>by simp only at h1;omega⟩ kM kA kF ?_
 rintro g1 qF TE sA ⟨i,j⟩ ⟨J5,hj,hlo,hhi⟩
 simp only at J5 hj hlo hhi
 by_cases yA:i<j
 ·have hw:IntKind.u64.wrap ((i:Int)+(j:Int))=((i+j:Nat):Int):=by rw[IntKind.wrap_u64];omega
  have hw2:IntKind.i64.wrap ((i:Int)+(j:Int))=(i:Int)+(j:Int):=pA oM oM
  have hf:Int.fdiv ((i+j:Nat):Int) 2=(((i+j) / 2:Nat):Int):=by rw[Int.fdiv_eq_ediv_of_nonneg _ kE];omega
  have hf3:Int.fdiv ((i+j:Nat):Int) (2 ^ Int.toNat 1)=(((i+j) / 2:Nat):Int):=hf
  have hm:(i+j) / 2<tm.length:=by omega
  have MY:=IC hm
  have hw3:IntKind.i64.wrap (((i+j) / 2:Nat):Int)=(((i+j) / 2:Nat):Int):=pA oM oM
  simp (disch:=first|decide|omega) only[hA,sA,hw,hw2,hw3,hf,hf3,MY,yJ,h10,ZGQ,iB,go_sem]
  refine QA.nxt (yW _ _ _ _) ?_
  by_cases hc:tm.getD ((i+j) / 2) 0<a+1
  ·have EM:R4 (tm.getD ((i+j) / 2) 0) (a+1)=-1:=if_pos hc
   have d1:decide ((-1:Int)<0)=true:=rfl
   rw[EM]
   have hw4:IntKind.i64.wrap ((((i+j) / 2:Nat):Int)+1)=(((i+j) / 2+1:Nat):Int):=by rw[pA oM oM];omega
   simp (disch:=first|decide|omega) only[hA,sA,d1,hw4,h10,ZGQ,iB,go_sem]
   refine⟨((i+j) / 2+1,j),⟨by simp only;omega,hj,fun q hq=>?_,hhi⟩,by simp only;omega,?_⟩
   ·simp only at hq
    have:=hs q ((i+j) / 2) oM hm
    omega
   ·exact VA.kround (p:=Q9) (k:=0) kQ kA rfl qF kS kV hR kL
  ·have EM:decide (R4 (tm.getD ((i+j) / 2) 0) (a+1)<0)=false:=by
    unfold R4
    rw[if_neg hc]
    split<;>rfl
   simp (disch:=first|decide|omega) only[hA,sA,EM,h10,ZGQ,iB,go_sem]
   refine⟨(i,(i+j) / 2),⟨by simp only;omega,by simp only;omega,hlo,fun q h1 h2=>?_⟩,by simp only;omega,?_⟩
   ·simp only at h1
    have:=hs ((i+j) / 2) q h1 h2
    omega
   ·exact VA.kround (p:=Q9) (k:=0) kQ kA rfl qF kS kV hR kL
 ·obtain rfl:j=i:=by omega
  have LJ:leN tm a=j:=ZFO hj hlo (fun h=>hhi j (ai _) h)
  have NY:decide ((j:Int)<(j:Int))=false:=by simp
  by_cases zE:j<tm.length
  ·have d1:decide ((j:Int)<(tm.length:Int))=true:=ae oM
   have MY:=IC zE
   simp (disch:=first|decide|omega) only[hA,sA,NY,d1,MY,h10,ZGQ,iB,go_sem]
   refine QA.nxt (yW _ _ _ _) ?_
   have hc:(R4 (tm.getD j 0) (a+1)==0)=ZDS tm a:=by
    unfold ZDS R4
    rw[LJ,ae zE]
    have:=hhi j (ai _) zE
    rw[if_neg oM]
    by_cases he:tm.getD j 0=a+1
    ·rw[if_neg oM,he];simp
    ·rw[if_pos oM]
     have:(tm.getD j 0==a+1)=false:=by simpa using he
     rw[this];rfl
   simp (disch:=first|decide|omega) only[hA,sA,hc,go_sem]
   exact ZA (xs:=[.v (.int .i64 j),.v (.bool (ZDS tm a))]) ⟨by rw[LJ];rfl,rfl,rfl⟩
  ·have d1:decide ((j:Int)<(tm.length:Int))=false:=ag oM
   have hc:ZDS tm a=false:=by
    unfold ZDS
    rw[LJ,ag zE];rfl
   simp (disch:=first|decide|omega) only[hA,sA,NY,d1,h10,ZGQ,iB,go_sem]
   exact ZA (xs:=[.v (.int .i64 j),.v (.bool false)]) ⟨by rw[LJ,hc];rfl,rfl,rfl⟩
def nwA (n:Nw):AV:=.agg ((eNw n).map .v)
def zNw:AV:=.agg [.v (.int .i64 0),.v (.bool false),.v .zsl,.v .zsl,.v .zsl]
theorem L8 {n:Nat} {l:List Row}:Dv n l zNw (nwA nw0):=
 Dv.aggL (.cons (.v _) (.cons (.v _) (.cons (.z 4) (.cons (.z 1) (.cons (.z 2) .nil)))))
def ZDR (base:Nat):Option Lv→AV
 |some z=>z.av base
 |none=>zNw
def pW (base:Nat):Option Lv→List Row
 |some z=>z.rows base
 |none=>[]
def ZCn:Option Lv→Nw
 |some z=>z.nw
 |none=>nw0
theorem ZJZ {z:Option Lv} (h:∀y,z=some y→y.ok) (base:Nat):Dv base (pW base z) (ZDR base z) (nwA (ZCn z)):=by
 cases z with
 |none=>exact L8
 |some y=>exact Lv.dv (h y rfl) base
theorem QA.ownV {P:Program} {f:Nat} {args:List AV} {b l:List Row} {z:Option Lv} {e:IV} (hz:∀y,z=some y→y.ok)
  (h:QA P f args b l (fun r b' l'=>r=.tup [ZDR (b.length+l.length) z,.v e]∧b'=b∧l'=l++pW (b.length+l.length) z)) :
  QA P f args b l (fun r b' l'=>r=.tup [nwA (ZCn z),.v e]∧b'=b∧l'=l):=
 QA.deep (Dv.tupL (.cons (ZJZ hz _) (.cons (.v _) .nil))) h
def goE (n:Nw) (t:Int):Int:=if nwB n=true then (if t<0∨1099511627776<t then 2 else if t<n.now then 11 else 0) else 1
def goZ (n:Nw) (t:Int):Option Lv:=if goE n t=0 then some {AB n with now:=t} else none
def goN (n:Nw) (t:Int):Nw:=if goE n t=0 then {n with now:=t} else nw0
theorem ZFQ {n:Nw} {t:Int}:∀y,goZ n t=some y→y.ok:=by
 intro y h
 unfold goZ at h
 split at h
 ·cases h;exact⟨(GP n).o,(GP n).bd⟩
 ·cases h
theorem ZJe {n:Nw} {t:Int}:ZCn (goZ n t)=goN n t:=by
 unfold goZ goN
 split
 ·have:=IP n
  unfold ZCn
  unfold Lv.nw at this⊢
  simp only at this⊢
  rw[Nw.eq_iff]at this
  simp only at this
  rw[Nw.eq_iff]
  exact⟨rfl,this.2⟩
 ·rfl
theorem ZJb {z:Lv} (hz:z.ok) {n s m:Nat} (hm:z.bd.length+3≤m) {σ:Nat→Nat} (hσ:∀j,j<z.bd.length+3→σ j=j+s) {x:Ms×Nat} (hx:x∈z.xs):RnL n m σ (lvE (n+s) x) (lvE n x):=by
 have hb:=(am.1 (hz.bd x hx)).1
 unfold lvE
 refine .cons (.v _) (.cons (.v _) (.cons (.v _) (.cons ?_ .nil)))
 rw[show n+s+(3+x.2)=n+(3+x.2+s) by omega]
 exact Rn.slE (hσ _ oM) oM
theorem Lv.rnA {z:Lv} {n s m:Nat} (hm:z.bd.length+3≤m) {σ:Nat→Nat} (hσ:∀j,j<z.bd.length+3→σ j=j+s):Rn n m σ (z.av (n+s)) (z.av n):=by
 unfold Lv.av
 refine Rn.aggL (.cons (.v _) (.cons (.v _) (.cons ?_ (.cons ?_ (.cons ?_ .nil)))))
 ·exact Rn.slE (i:=s) (j:=0) (by rw[hσ 0 oM];omega) oM
 ·rw[show n+s+1=n+(1+s) by omega]
  exact Rn.slE (hσ 1 oM) oM
 ·rw[show n+s+2=n+(2+s) by omega]
  exact Rn.slE (hσ 2 oM) oM
theorem Lv.rnR {z:Lv} (hz:z.ok) {n s m:Nat} (hm:z.bd.length+3≤m) {σ:Nat→Nat} (hσ:∀j,j<z.bd.length+3→σ j=j+s) {pre junk:List Row} (hp:pre.length=s) (j:Nat) (r':Row) (h:(z.rows n)[j]? = some r'):∃r,(pre++(z.rows (n+s)++junk))[σ j]? = some r∧RnR n m σ r r':=by
 have IB:(z.rows n).length=z.bd.length+3:=by simp[Lv.rows]
 have hj:=(am.1 h).1
 rw[IB]at hj
 rw[hσ j hj,aq oM,hp,fd,aw (by simp[Lv.rows];omega)]
 match j,h with
 |0,h =>
   cases h
   refine⟨_,rfl,rfl,rfl,by simp,fun k r r' h1 h2=>?_⟩
   rw[an]at h1 h2
   cases hq:z.xs[k]? with
   |none=>rw[hq]at h1;cases h1
   |some x =>
     rw[hq]at h1 h2
     cases h1;cases h2
     exact ZJb hz hm hσ (ci hq)
 |1,h=>cases h;exact⟨_,rfl,RnR.plain⟩
 |2,h=>cases h;exact⟨_,rfl,RnR.plain⟩
 |j+3,h =>
   have h:(z.bd.map bdR)[j]? = some r':=h
   refine⟨r',h,?_⟩
   rw[an]at h
   cases hq:z.bd[j]? with
   |none=>rw[hq]at h;cases h
   |some x=>rw[hq]at h;cases h;exact RnR.plain
theorem j3 {e:List AV} {l junk:List Row} {rs:List ARes} {Q:AV→List Row→List Row→Prop} {B:List Row} {ex:AExit} (hex:ex=.normal∨ex=.ret) {z:Lv} (hz:z.ok) {s:Nat} {c:IV} (hx:resVs e B l rs=some [z.av (B.length+s),.v c]) (hl:l.drop s=z.rows (B.length+s)++junk)
  (hR:gA B.length B) {b0 l0:List Row} (hB:B=b0++l0) (hq:Q (.tup [z.av B.length,.v c]) b0 (l0++z.rows B.length)):uH rs Q b0.length ex e B l:=by
 have hσ:∀j,j<z.bd.length+3→(fun j=>j+s) j=j+s:=fun _ _=>rfl
 have hp:(l.take s).length=s:=by
  have h:=congrArg List.length hl
  rw[co,ap]at h
  simp only[Lv.rows,ej]at h
  rw[bg];omega
 have cU:l=l.take s++(z.rows (B.length+s)++junk):=by rw[←hl,iz]
 rw[cU]at hx⊢
 exact nH hex hx (y:=.tup [z.av B.length,.v c]) (l':=z.rows B.length) (m:=z.bd.length+3) (by simp[Lv.rows]) (fun j=>j+s) (fun i j _ _ h=>by have h:i+s=j+s:=h;omega) (fun j r' h=>Lv.rnR hz (ai _) hσ hp j r' h)
  (Rn.tupL (.cons (Lv.rnA (ai _) hσ) (.cons (.v _) .nil))) hR hB hq
theorem ZHM (n:Nw) (t:Int) (b l:List Row):QA Tryz.prog 50 [.agg ((eNw n).map .v),.v (.int .i64 t)] b l
  (fun r b' l'=>r=.tup [ZDR (b.length+l.length) (goZ n t),.v (.int .i64 (goE n t))]∧b'=b∧l'=l++pW (b.length+l.length) (goZ n t)):=by
 refine XA ZEi rfl kE ?_
 intro B g hB hR hE hA;simp only[zA]at hA
 have hV:=xG n
 have hC:=UM n
 unfold eNw at hV hC
 simp only[bj,cd]at hV hC
 have bad:goE n t≠0→goZ n t=none:=fun h=>if_neg h
 simp (disch:=first|decide|omega) only[a_nGo,hA,eNw,go_sem]
 refine QA.nxt (hV _ _) ?_
 cases h1:nwB n
 ·have he:goE n t=1:=by unfold goE;rw[h1];rfl
  rw[bad (by rw[he];decide),he]
  simp (disch:=first|decide|omega) only[hA,cellsOf,go_sem]
  exact DA (.inr rfl) (xs:=[zNw,.v (.int .i64 1)]) (by simp (disch:=first|decide|omega) only[resVs,resV,hA,zNw,go_sem]) (by simp only[one,zNw,lts.down,Nat.reduceLT,Nat.reduceAdd]) hR hB ⟨rfl,rfl,by simp[pW]⟩
 by_cases h2:t<0
 ·have he:goE n t=2:=by unfold goE;rw[if_pos h1,if_pos (.inl h2)]
  rw[bad (by rw[he];decide),he]
  have d2:=ae h2
  simp (disch:=first|decide|omega) only[hA,d2,cellsOf,go_sem]
  exact DA (.inr rfl) (xs:=[zNw,.v (.int .i64 2)]) (by simp (disch:=first|decide|omega) only[resVs,resV,hA,zNw,go_sem]) (by simp only[one,zNw,lts.down,Nat.reduceLT,Nat.reduceAdd]) hR hB ⟨rfl,rfl,by simp[pW]⟩
 have d2:=ag h2
 by_cases h3:1099511627776<t
 ·have he:goE n t=2:=by unfold goE;rw[if_pos h1,if_pos (.inr h3)]
  rw[bad (by rw[he];decide),he]
  have d3:=ae h3
  simp (disch:=first|decide|omega) only[hA,d2,d3,cellsOf,go_sem]
  exact DA (.inr rfl) (xs:=[zNw,.v (.int .i64 2)]) (by simp (disch:=first|decide|omega) only[resVs,resV,hA,zNw,go_sem]) (by simp only[one,zNw,lts.down,Nat.reduceLT,Nat.reduceAdd]) hR hB ⟨rfl,rfl,by simp[pW]⟩
 have d3:=ag h3
 by_cases h4:t<n.now
 ·have he:goE n t=11:=by unfold goE;rw[if_pos h1,if_neg oM,if_pos h4]
  rw[bad (by rw[he];decide),he]
  have d4:=ae h4
  simp (disch:=first|decide|omega) only[hA,d2,d3,d4,cellsOf,go_sem]
  exact DA (.inr rfl) (xs:=[zNw,.v (.int .i64 11)]) (by simp (disch:=first|decide|omega) only[resVs,resV,hA,zNw,go_sem]) (by simp only[one,zNw,lts.down,Nat.reduceLT,Nat.reduceAdd]) hR hB ⟨rfl,rfl,by simp[pW]⟩
 have d4:=ag h4
 have he:goE n t=0:=by unfold goE;rw[if_pos h1,if_neg oM,if_neg h4]
 have hZ:goZ n t=some {AB n with now:=t}:=if_pos he
 have mR:=ZFQ _ hZ
 rw[hZ,he]
 simp (disch:=first|decide|omega) only[hA,d2,d3,d4,go_sem]
 refine QA.nxt (hC (VG.1 h1).s _ _) ?_
 simp (disch:=first|decide|omega) only[hA,Lv.av,cellsOf,go_sem]
 refine j3 (.inr rfl) mR (s:=2) (c:=.int .i64 0) (junk:=[]) (by simp (disch:=first|decide|omega) only[resVs,resV,hA,Lv.av,go_sem]) ?_ hR hB ⟨by rw[hB,ap];rfl,rfl,by rw[hB,ap];rfl⟩
 simp only[ct,da,ee]
 rfl
theorem ZEC (n:Nw) (t:Int) (b l:List Row):QA Tryz.prog 50 [.agg ((eNw n).map .v),.v (.int .i64 t)] b l (fun r b' l'=>r=.tup [nwA (goN n t),.v (.int .i64 (goE n t))]∧b'=b∧l'=l):=by
 rw[←ZJe]
 exact QA.ownV ZFQ (ZHM n t b l)
open Go.Lib Go.RowKit
section
variable {P:Program} {w:World}
def spl (cur:Array Value) (p:Nat) (xs:List Value):Array Value:=(cur.toList.take p++xs++cur.toList.drop (p+xs.length)).toArray
theorem rE {cur:Array Value} {p:Nat} {xs:List Value} (h:p+xs.length≤cur.size):(spl cur p xs).size=cur.size:=by
 unfold spl
 simp only[dx,ap,bg,co,ft]
 omega
theorem wE {cur:Array Value} {p:Nat} {xs:List Value} (h:p+xs.length≤cur.size) (i:Nat):(spl cur p xs)[i]? = if p≤i∧i<p+xs.length then xs[i-p]? else cur[i]?:=by
 unfold spl
 have:=bI cur.toList xs p i (by simpa using h)
 simp only[hU]
 rw[this]
 simp
theorem CE {t u el ty:TypeId} {sz:Nat} (ht:P.underlying t=some (.slice el)) (hs:lD P el=some sz) {blk p n c m:Nat} {vx:Value} {news cur:Array Value} {T:TypeId}
  (hl:(Builtin.lenOf vx).run P w=.ok m w) (hf:(Builtin.firstCells sz (min m n) vx).run P w=.ok news w) (M4:w.heap[blk]? = some (.cells cur T (0,0))) (sI:p+news.size≤cur.size) (h1:∀u∈news.toList,u.oneCell'=true) :
  (Builtin.copy_ #[t,u] ty #[.slice (some ⟨blk,p,none⟩) n c,vx]).run P w=.ok (goInt (min m n:Nat)) (w.setRow blk (spl cur p news.toList)):=by
 have ZF:=run_storeCells_at P blk p T news.toList 0 cur w M4 (by simpa using sI) h1
 simp only[eo]at ZF
 have ZKG:Nat.min m n=min m n:=rfl
 simp only[Builtin.copy_,run_underlying ht,IA hs,hl,Sem.run_bind,Result.andThen_ok,ZKG,hf,ZF,Sem.run_pure,hU,kz,fh]
 rfl
structure InsPost (w:World) (b sz n:Nat) (N:Array Value) (e:Ending) (w':World):Prop where
 out:∃blk o cap cur T,e=.returned (.slice (some ⟨blk,o,none⟩) (n+1) cap)∧w'.heap[blk]? = some (.cells cur T (0,0))∧n+1≤cap∧cap≤maxLen∧o+cap*sz≤cur.size ∧
  (∀j v,N[j]? = some v→cur[o+j]? = some v)∧(blk=b∨w.heap.size≤blk)∧∀k,k<w.heap.size→k≠blk→w'.heap[k]? = w.heap[k]?
 os:w'.os=w.os
 tape:w'.tape=w.tape
 output:w'.output=w.output
 size:w.heap.size≤w'.heap.size
end
theorem xZ (b o n c vb vo vc:Nat) (cur X:Array Value) (T:TypeId) (w:World) (hb:w.heap[b]? = some (.cells cur T (0,0))) (zC:n+1≤c) (hc:c≤maxLen) (sI:o+c*1≤cur.size)
  (hX:X.size=1) (hXc:∀j u,X[j]? = some u→w.cell? ⟨vb,vo+j,none⟩=some u) (hX1:∀u∈X.toList,u.oneCell'=true) (O:Array Value) (hO:O.size=n*1) (hOc:∀j u,O[j]? = some u→cur[o+j]? = some u) :
  Calls Tryz.prog 182 #[.slice (some ⟨b,o,none⟩) n c,.int .i64 n,.slice (some ⟨vb,vo,none⟩) 1 vc] w fun e w'=>InsPost w b 1 n (O++X) e w':=by
 have ht:=Tryz.underlying24
 have hs:lD Tryz.prog 3=some 1:=by kernel_rfl
 have hfc:(Builtin.firstCells 1 1 (.slice (some ⟨vb,vo,none⟩) 1 vc)).run Tryz.prog w=.ok X w:=by
  have:=eA (P:=Tryz.prog) (w:=w) (sz:=1) (n:=1) (len:=1) (cap:=vc) hXc oM (w2:=w) rfl
  rwa [show 1*1=X.size by omega,ep]at this
 obtain⟨W1,EH⟩:∃W1,w.setRow b (spl cur (o+n*1) X.toList)=W1:=⟨_,rfl⟩
 have VD:∀ty,(Builtin.append_ #[24,24] ty #[.slice (some ⟨b,o,none⟩) n c,.slice (some ⟨vb,vo,none⟩) 1 vc]).run Tryz.prog w=.ok (.slice (some ⟨b,o,none⟩) (n+1) c) W1:=fun ty=>by
  rw[←EH]
  exact zG (sz:=1) (m:=1) (vx:=.slice (some ⟨vb,vo,none⟩) 1 vc) (news:=X) ht ht rfl hs (by simp[Builtin.lenOf]) hfc oM zC hb oM hX1
 go_enter Tryz.func182,Tryz.ntmps182
 go_wp2_with (at_builtin;refine Lib.wpList_append_run _ rfl _ _ _ _ rfl _ _ rfl rfl _ _ (VD _) ?_)
 go_ret
 subst EH
 have NN:=rE (cur:=cur) (p:=o+n*1) (xs:=X.toList) (by simp;omega)
 refine⟨⟨b,o,c,_,T,rfl,setRow_heap w b cur _ T _ hb,zC,hc,by rw[NN];exact sI,fun j v hj=>?_,.inl rfl,fun k _ hk=>setRow_other w b k _ hk⟩,rfl,rfl,rfl,by simp[World.setRow]⟩
 rw[wE (by simp;omega)]
 by_cases hjn:j<n*1
 ·rw[if_neg oM]
  rw[ck oM]at hj
  exact hOc j v hj
 ·rw[ei oM,hO]at hj
  have wG:=(bw.1 hj).1
  rw[if_pos (by simp;omega),show o+j-(o+n*1)=j-n*1 by omega]
  simpa using hj
theorem tQ (b n c vb vo vc:Nat) (base:Option Addr) (X:Array Value) (w:World) (zC:c<n+1) (hn:n≤1000000) (hX:X.size=1) (hXc:∀j u,X[j]? = some u→w.cell? ⟨vb,vo+j,none⟩=some u) (hX1:∀u∈X.toList,u.oneCell'=true)
  (O:Array Value) (hO:O.size=n*1) (hOf:(Builtin.firstCells 1 n (.slice base n c)).run Tryz.prog w.drew=.ok O w.drew) :
  Calls Tryz.prog 182 #[.slice base n c,.int .i64 n,.slice (some ⟨vb,vo,none⟩) 1 vc] w fun e w'=>InsPost w b 1 n (O++X) e w':=by
 have ht:=Tryz.underlying24
 have hs:lD Tryz.prog 3=some 1:=by kernel_rfl
 have yO:CO Tryz.prog 3=some 8:=by kernel_rfl
 have hz:aF Tryz.prog 3=some [.v (.int .i64 0)]:=by kernel_rfl
 obtain⟨i,zv,hi,tX,wV⟩:=qE hz
 have hbz:i.bytes=8:=by simp[CO,hi]at yO;exact yO
 have hfc:(Builtin.firstCells 1 1 (.slice (some ⟨vb,vo,none⟩) 1 vc)).run Tryz.prog w.drew=.ok X w.drew:=by
  have:=eA (P:=Tryz.prog) (w:=w) (sz:=1) (n:=1) (len:=1) (cap:=vc) hXc oM (w2:=w.drew) rfl
  rwa [show 1*1=X.size by omega,ep]at this
 obtain⟨W1,EH⟩:∃W1,w.drew.alloc (.cells (O++X++Builtin.zeroCells zv.cells (grownCap w (n+1) c 3-(n+1))) 3)=W1:=⟨_,rfl⟩
 obtain⟨G,hG⟩:∃G,grownCap w (n+1) c 3=G:=⟨_,rfl⟩
 have VD:∀ty,(Builtin.append_ #[24,24] ty #[.slice base n c,.slice (some ⟨vb,vo,none⟩) 1 vc]).run Tryz.prog w=.ok (.slice (some ⟨w.heap.size,0,none⟩) (n+1) G) W1:=fun ty=>by
  rw[←EH,←hG]
  exact DG (sz:=1) (m:=1) (vx:=.slice (some ⟨vb,vo,none⟩) 1 vc) (news:=X) (olds:=O) ht ht rfl hs hi tX hbz (by simp[Builtin.lenOf]) hfc hOf zC oM oM kE
 have yH:=grownCap_ge w (n+1) c 3
 have EM:grownCap w (n+1) c 3≤maxLen:=grownCap_le_maxLen w _ c _ (by unfold maxLen;omega)
 have N9:zv.cells.size=1:=by
  obtain⟨c1,c2⟩:=JF (w:=w) (F:=fun _=>False) (L:=fun _ _=>none) wV
  have:=c1.1;simp at this;omega
 have fin:InsPost w b 1 n (O++X) (.returned (.slice (some ⟨w.heap.size,0,none⟩) (n+1) G)) W1:=by
  rw[←EH,←hG]
  refine⟨⟨w.heap.size,0,_,_,_,rfl,heap_alloc_new w.drew _,yH,EM,?_,fun j v hj=>?_,.inr (ai _),fun k hk _=>heap_alloc_old w.drew _ hk⟩,rfl,rfl,rfl,by simp⟩
  ·rw[cf,cf,size_zeroCells,hO,hX,N9,cn,←Nat.add_one_mul,←bx]
   exact cm _ oM
  ·rw[cn,ck (bw.1 hj).1]
   exact hj
 go_enter Tryz.func182,Tryz.ntmps182
 cases base with
 |none =>
   go_wp2_with (at_builtin;refine Lib.wpList_append_run _ rfl _ _ _ _ rfl _ _ rfl rfl _ _ (VD _) ?_)
   all_goals (go_ret;exact fin)
 |some a =>
   obtain⟨ab,ao,asp⟩:=a
   go_wp2_with (at_builtin;refine Lib.wpList_append_run _ rfl _ _ _ _ rfl _ _ rfl rfl _ _ (VD _) ?_)
   all_goals (go_ret;exact fin)
theorem P6 (b o n c i vb vo vc:Nat) (cur X:Array Value) (T:TypeId) (w:World) (hb:w.heap[b]? = some (.cells cur T (0,0))) (hi:i<n) (hnc:n≤c) (zC:c<n+1) (hn:n≤1000000) (hX:X.size=1) (hXc:∀j u,X[j]? = some u→w.cell? ⟨vb,vo+j,none⟩=some u) (hX1:∀u∈X.toList,u.oneCell'=true)
  (O:Array Value) (hO:O.size=n*1) (hOc:∀j u,O[j]? = some u→w.cell? ⟨b,o+j,none⟩=some u) (hO1:∀u∈O.toList,u.oneCell'=true) :
  Calls Tryz.prog 182 #[.slice (some ⟨b,o,none⟩) n c,.int .i64 i,.slice (some ⟨vb,vo,none⟩) 1 vc] w fun e w'=>InsPost w b 1 n (O.extract 0 (i*1)++X++O.extract (i*1) (n*1)) e w':=by
 have ht:=Tryz.underlying24
 have hti:=Tryz.underlying3
 have hs:lD Tryz.prog 3=some 1:=by kernel_rfl
 have yO:CO Tryz.prog 3=some 8:=by kernel_rfl
 have hz:aF Tryz.prog 3=some [.v (.int .i64 0)]:=by kernel_rfl
 obtain⟨inf,zv,WW,tX,wV⟩:=qE hz
 have hbz:inf.bytes=8:=by simp[CO,WW]at yO;exact yO
 have NN:inf.size=1:=by simp[lD,WW]at hs;exact hs
 have N9:zv.cells.size=1:=by
  obtain⟨c1,c2⟩:=JF (w:=w) (F:=fun _=>False) (L:=fun _ _=>none) wV
  have:=c1.1;simp at this;omega
 have hbw:b<w.heap.size:=(bw.1 hb).1
 have hx0:X[0]? = some X[0]:=fy oM
 have hvw:vb<w.heap.size:=block_lt_of_cell (hXc 0 _ hx0)
 have JH:(Builtin.firstCells inf.size i (.slice (some ⟨b,o,none⟩) i c)).run Tryz.prog w.drew=.ok (O.extract 0 (i*1)).toList.toArray w.drew:=by
  rw[NN,ir]
  exact eA (P:=Tryz.prog) (w:=w) (sz:=1) (n:=i) (len:=i) (cap:=c) hOc oM (w2:=w.drew) rfl
 have yH:=grownCap_ge w (n+1) c 3
 have EM:grownCap w (n+1) c 3≤maxLen:=grownCap_le_maxLen w _ c _ (by unfold maxLen;omega)
 have ZGR:=EM
 unfold maxLen at ZGR
 obtain⟨G,hG⟩:∃G,grownCap w (n+1) c 3=G:=⟨_,rfl⟩
 obtain⟨ROW,E4⟩:∃ROW:Array Value,(O.extract 0 (i*1)).toList.toArray++Builtin.zeroCells zv.cells (n+1-i)++Builtin.zeroCells zv.cells (G-(n+1))=ROW:=⟨_,rfl⟩
 obtain⟨W1,EH⟩:∃W1,w.drew.alloc (.cells ROW 3)=W1:=⟨_,rfl⟩
 have b8:i+(n+1-i)=n+1:=by omega
 have UP:(n:Int)+1-(i:Int)=((n+1-i:Nat):Int):=by omega
 have hrz:∀ty,(Builtin.append_ #[24,3] ty #[.slice (some ⟨b,o,none⟩) i c,.int .i64 ((n:Int)+1-(i:Int))]).run Tryz.prog w=.ok (.slice (some ⟨w.heap.size,0,none⟩) (n+1) G) W1:=fun ty=>by
  have h:=Lib.run_append_grow_zeros w 24 3 ty 3 inf zv .i64 .i64 ht hti WW tX (some ⟨b,o,none⟩) i c _ JH (n+1-i) oM oM oM oM (by rw[hbz];omega) (by rw[hbz,b8];exact growslice_fits zC oM)
  rw[b8]at h
  rw[UP,h,←EH,←E4,←hG]
 rw[hG]at yH EM ZGR
 have hRs:ROW.size=G*1:=by
  rw[←E4,cf,cf,size_zeroCells,size_zeroCells,N9,dx,ft,eq,hO]
  have:min (i*1) (n*1)-0=i*1:=by omega
  rw[this,←bx,←bx]
  congr 1;omega
 have vV:W1.heap[w.heap.size]? = some (.cells ROW 3 (0,0)):=by rw[←EH];exact heap_alloc_new w.drew _
 have IJ:∀k,k<w.heap.size→W1.heap[k]? = w.heap[k]?:=fun k hk=>by rw[←EH];exact heap_alloc_old w.drew _ hk
 have ZLo:W1.heap.size=w.heap.size+1:=by rw[←EH];simp
 have ZCz:∀j u,X[j]? = some u→W1.cell? ⟨vb,vo+j,none⟩=some u:=fun j u hj=>by
  have:=hXc j u hj
  rwa [←World.cell?_of_block (IJ vb hvw)]at this
 have hfx:(Builtin.firstCells 1 (min 1 (n+1-i)) (.slice (some ⟨vb,vo,none⟩) 1 vc)).run Tryz.prog W1=.ok X W1:=by
  have h1:min 1 (n+1-i)=1:=by omega
  rw[h1]
  have:=eA (P:=Tryz.prog) (w:=W1) (sz:=1) (n:=1) (len:=1) (cap:=vc) ZCz oM (w2:=W1) rfl
  rwa [show 1*1=X.size by omega,ep]at this
 obtain⟨W2,ZL⟩:∃W2,W1.setRow w.heap.size (spl ROW (i) X.toList)=W2:=⟨_,rfl⟩
 have C4:min 1 (n+1-i)=1:=by omega
 have hGm:(i+1)*1+(n-i)*1≤G*1:=by rw[←bx];exact cm _ oM
 have L9:X.toList.length=1:=by simpa using hX
 have ZKS:∀ty dc,(Builtin.copy_ #[24,24] ty #[.slice (some ⟨w.heap.size,i,none⟩) (n+1-i) dc,.slice (some ⟨vb,vo,none⟩) 1 vc]).run Tryz.prog W1=.ok (goInt (1:Nat)) W2:=fun ty dc=>by
  have:=CE (P:=Tryz.prog) (w:=W1) (t:=24) (u:=24) (ty:=ty) ht hs (blk:=w.heap.size) (p:=i) (n:=n+1-i) (c:=dc) (m:=1) (vx:=.slice (some ⟨vb,vo,none⟩) 1 vc) (by simp[Builtin.lenOf]) hfx vV (by rw[hX,hRs];omega) hX1
  rw[C4,ZL]at this
  exact this
 obtain⟨R,hR⟩:∃R,O.extract (i*1) (n*1)=R:=⟨_,rfl⟩
 have P8:R.size=(n-i)*1:=by rw[←hR,eq,hO,il];omega
 have V5:∀u∈R.toList,u.oneCell'=true:=fun u hu=>hO1 u (by
  rw[←hR,gi]at hu
  exact ey (ec hu))
 have hRg:∀j u,R[j]? = some u→O[i*1+j]? = some u:=fun j u hj=>by
  rw[←hR,eu]at hj
  split at hj
  ·exact hj
  ·cases hj
 have yV:W2.heap[w.heap.size]? = some (.cells (spl ROW (i) X.toList) 3 (0,0)):=by rw[←ZL];exact setRow_heap W1 _ ROW _ _ _ vV
 have z5:∀k,k<w.heap.size→W2.heap[k]? = w.heap[k]?:=fun k hk=>by rw[←ZL,setRow_other W1 _ k _ oM];exact IJ k hk
 have SW:∀j u,R[j]? = some u→W2.cell? ⟨b,(o+i)+j,none⟩=some u:=fun j u hj=>by
  have:=hOc _ u (hRg j u hj)
  rw[←World.cell?_of_block (z5 b hbw)]at this
  rwa [show o+(i*1+j)=o+i+j by omega]at this
 have zV:min (n-i) (n+1-(i+1))=n-i:=by omega
 have Y5:(Builtin.firstCells 1 (min (n-i) (n+1-(i+1))) (.slice (some ⟨b,o+i,none⟩) (n-i) (c-i))).run Tryz.prog W2.drew=.ok R W2.drew:=by
  rw[zV]
  have:=eA (P:=Tryz.prog) (w:=W2) (sz:=1) (n:=n-i) (len:=n-i) (cap:=c-i) SW oM (w2:=W2.drew) rfl
  rwa [show (n-i)*1=R.size by omega,ep]at this
 have hss:=rE (cur:=ROW) (p:=i) (xs:=X.toList) (by rw[L9,hRs];omega)
 obtain⟨W3,hW3⟩:∃W3,W2.drew.setRow w.heap.size (spl (spl ROW (i) X.toList) ((i+1)) R.toList)=W3:=⟨_,rfl⟩
 have ZKT:∀ty dc,(Builtin.copy_ #[24,24] ty #[.slice (some ⟨w.heap.size,(i+1),none⟩) (n+1-(i+1)) dc,.slice (some ⟨b,o+i,none⟩) (n-i) (c-i)]).run Tryz.prog W2.drew=.ok (goInt (n-i:Nat)) W3:=fun ty dc=>by
  have:=CE (P:=Tryz.prog) (w:=W2.drew) (t:=24) (u:=24) (ty:=ty) ht hs (blk:=w.heap.size) (p:=(i+1)) (n:=n+1-(i+1)) (c:=dc) (m:=n-i) (vx:=.slice (some ⟨b,o+i,none⟩) (n-i) (c-i)) (by simp[Builtin.lenOf]) Y5 yV (by rw[P8,hss,hRs];omega) V5
  rw[zV,hW3]at this
  exact this
 have hz2:¬((i:Int)=(n:Int)):=by omega
 have hz3:(c:Int)<(n:Int)+1:=by omega
 have LE:IntKind.i64.wrap ((i:Int)+1)=(i:Int)+1:=by rw[IntKind.wrap_i64];omega
 have hw2:IntKind.i64.wrap ((n:Int)+1)=(n:Int)+1:=by rw[IntKind.wrap_i64];omega
 have xJ:(0:Int)≤(i:Int)+1:=by omega
 have zE:i≤n:=by omega
 have htn:((i:Int)+1).toNat=i+1:=by omega
 have hb3:(i:Int)≤(n:Int):=by omega
 have hGi:¬(G=i):=by omega
 have ZNI:¬(G=i+1):=by omega
 have gV:¬(c=i):=by omega
 have DF:R.toList.length=(n-i)*1:=by simpa using P8
 have fin:InsPost w b 1 n (O.extract 0 (i*1)++X++R) (.returned (.slice (some ⟨w.heap.size,0,none⟩) (n+1) G)) W3:=by
  refine⟨⟨w.heap.size,0,G,_,_,rfl,by rw[←hW3];exact setRow_heap W2.drew _ _ _ _ _ yV,yH,EM,?_,fun j v hj=>?_,.inr (ai _),fun k hk _=>by rw[←hW3,setRow_other W2.drew _ k _ oM];exact z5 k hk⟩,?_,?_,?_,?_⟩
  ·rw[rE (by rw[DF,hss,hRs];omega),hss,hRs];omega
  ·rw[cn,wE (by rw[DF,hss,hRs];omega),DF]
   have hA:(O.extract 0 (i*1)).size=i*1:=by rw[eq,hO];omega
   by_cases h1:j<i*1
   ·rw[if_neg oM,wE (by rw[L9,hRs];omega),if_neg oM]
    rw[ck (by rw[cf];omega),ck oM]at hj
    rw[←E4,ck (by rw[cf,dx,ft];omega),ck (by rw[dx,ft];omega),ir]
    exact hj
   ·by_cases h2:j<i*1+1
    ·rw[if_neg oM,wE (by rw[L9,hRs];omega),L9,if_pos oM]
     rw[ck (by rw[cf];omega),ei oM,hA]at hj
     simpa using hj
    ·rw[ei (by rw[cf];omega),cf,hA,hX]at hj
     have wG:=(bw.1 hj).1
     rw[if_pos oM,show j-(i+1)=j-(i*1+1) by omega]
     simpa using hj
  ·rw[←hW3,←ZL,←EH];rfl
  ·rw[←hW3,←ZL,←EH];rfl
  ·rw[←hW3,←ZL,←EH];rfl
  ·rw[←hW3,←ZL,←EH];simp[World.setRow]
 have mixed:Tryz.prog.follows Departure.mixedOrders=true:=by kernel_rfl
 rw[hR]
 clear E4 hG hRs JH yV vV hss EH ZL hW3 b8 UP
 go_enter Tryz.func182,Tryz.ntmps182
 go_wp2_with (first
  |(at_builtin;refine Lib.wpList_append_run _ rfl _ _ _ _ rfl _ _ rfl rfl _ _ (hrz _) ?_)
  |(at_builtin;refine wpList_copy_runI _ rfl _ _ 24 24 rfl _ _ rfl rfl (ZKS _ _) ?_))
 go_region_law_o (refine step_copy_runI rfl _ _ 24 24 rfl (.slice (some ⟨w.heap.size,(i+1),none⟩) (n+1-(i+1)) (G-(i+1))) (.slice (some ⟨b,o+i,none⟩) (n-i) (c-i)) (by simp[Act.eval,Act.put]) (by simp[Act.eval,Act.put]) (ZKT 3 (G-(i+1))) ?_)
 go_wp2
 go_ret
 exact fin
theorem S6 (b o n c i vb vo vc:Nat) (cur X curv:Array Value) (T Tv:TypeId) (w:World) (hb:w.heap[b]? = some (.cells cur T (0,0))) (hvb:w.heap[vb]? = some (.cells curv Tv (0,0))) (qG:vb≠b) (hi:i<n) (zC:n+1≤c) (hc:c≤maxLen) (sI:o+c*1≤cur.size) (hn:n≤1000000) (hX:X.size=1) (hXc:∀j u,X[j]? = some u→curv[vo+j]? = some u) (hX1:∀u∈X.toList,u.oneCell'=true)
  (O:Array Value) (hO:O.size=n*1) (hOc:∀j u,O[j]? = some u→cur[o+j]? = some u) (hO1:∀u∈O.toList,u.oneCell'=true) :
  Calls Tryz.prog 182 #[.slice (some ⟨b,o,none⟩) n c,.int .i64 i,.slice (some ⟨vb,vo,none⟩) 1 vc] w fun e w'=>InsPost w b 1 n (O.extract 0 (i*1)++X++O.extract (i*1) (n*1)) e w':=by
 have ht:=Tryz.underlying24
 have hs:lD Tryz.prog 3=some 1:=by kernel_rfl
 have ZDA:=hc
 unfold maxLen at ZDA
 have EM:(n+1)*1≤c*1:=cm _ zC
 have ZFh:0<cur.size:=by omega
 have hov:∀lb cb,(callFunc 193 #[.slice (some ⟨vb,vo,none⟩) 1 vc,.slice (some ⟨b,o+(i+1),none⟩) lb cb]).run Tryz.prog w=.ok (.value (.bool false)) w:=fun lb cb=>by
  rw[run_callFunc_extern Tryz.func193 (by kernel_rfl) (by kernel_rfl) (by kernel_rfl) (e:=Extern.SlicesOverlaps.overlaps #[24,24] #[4]) (by kernel_rfl),
   Lib.run_overlaps_apart w 24 4 3 ht 1 (fun w=>IA hs) ⟨vb,vo,none⟩ ⟨b,o+(i+1),none⟩ 1 vc lb cb qG Tv T curv.size cur.size (by simp[World.shape?,hvb]) (by simp[World.shape?,hb]) oM (by simp[World.frozen?,hvb]) (by simp[World.frozen?,hvb])]
  rfl
 obtain⟨R,hR⟩:∃R,O.extract (i*1) (n*1)=R:=⟨_,rfl⟩
 have P8:R.size=(n-i)*1:=by rw[←hR,eq,hO,il];omega
 have V5:∀u∈R.toList,u.oneCell'=true:=fun u hu=>hO1 u (by
  rw[←hR,gi]at hu
  exact ey (ec hu))
 have hRg:∀j u,R[j]? = some u→O[i*1+j]? = some u:=fun j u hj=>by
  rw[←hR,eu]at hj
  split at hj
  ·exact hj
  ·cases hj
 have DF:R.toList.length=(n-i)*1:=by simpa using P8
 have L9:X.toList.length=1:=by simpa using hX
 have zV:min (n+1-i) (n+1-(i+1))=n-i:=by omega
 have SW:∀j u,R[j]? = some u→w.cell? ⟨b,(o+i)+j,none⟩=some u:=fun j u hj=>by
  have:=hOc _ u (hRg j u hj)
  simp only[World.cell?,hb]
  rw[show o+i+j=o+(i*1+j) by omega]
  exact this
 have Y5:∀sc,(Builtin.firstCells 1 (min (n+1-i) (n+1-(i+1))) (.slice (some ⟨b,o+i,none⟩) (n+1-i) sc)).run Tryz.prog w.drew=.ok R w.drew:=fun sc=>by
  rw[zV]
  have:=eA (P:=Tryz.prog) (w:=w) (sz:=1) (n:=n-i) (len:=n+1-i) (cap:=sc) SW oM (w2:=w.drew) rfl
  rwa [show (n-i)*1=R.size by omega,ep]at this
 have hmm:(i+1)*1+(n-i)*1=(n+1)*1:=by rw[←bx];congr 1;omega
 have OH:=rE (cur:=cur) (p:=o+(i+1)) (xs:=R.toList) (by rw[DF];omega)
 obtain⟨W1,EH⟩:∃W1,w.drew.setRow b (spl cur (o+(i+1)) R.toList)=W1:=⟨_,rfl⟩
 have ZKU:∀ty dc sc,(Builtin.copy_ #[24,24] ty #[.slice (some ⟨b,o+(i+1),none⟩) (n+1-(i+1)) dc,.slice (some ⟨b,o+i,none⟩) (n+1-i) sc]).run Tryz.prog w.drew=.ok (goInt (n-i:Nat)) W1:=fun ty dc sc=>by
  have:=CE (P:=Tryz.prog) (w:=w.drew) (t:=24) (u:=24) (ty:=ty) ht hs (blk:=b) (p:=o+(i+1)) (n:=n+1-(i+1)) (c:=dc) (m:=n+1-i) (vx:=.slice (some ⟨b,o+i,none⟩) (n+1-i) sc) (by simp[Builtin.lenOf]) (Y5 sc) hb (by rw[P8];omega) V5
  rw[zV,EH]at this
  exact this
 have DJ:W1.heap[b]? = some (.cells (spl cur (o+(i+1)) R.toList) T (0,0)):=by rw[←EH];exact setRow_heap w.drew _ cur _ _ _ hb
 have IJ:∀k,k≠b→W1.heap[k]? = w.heap[k]?:=fun k hk=>by rw[←EH,setRow_other w.drew _ k _ hk];rfl
 have ZCz:∀j u,X[j]? = some u→W1.cell? ⟨vb,vo+j,none⟩=some u:=fun j u hj=>by
  have:=hXc j u hj
  simp only[World.cell?,IJ vb qG,hvb]
  exact this
 have C4:min 1 (n+1-i)=1:=by omega
 have hfx:(Builtin.firstCells 1 (min 1 (n+1-i)) (.slice (some ⟨vb,vo,none⟩) 1 vc)).run Tryz.prog W1=.ok X W1:=by
  rw[C4]
  have:=eA (P:=Tryz.prog) (w:=W1) (sz:=1) (n:=1) (len:=1) (cap:=vc) ZCz oM (w2:=W1) rfl
  rwa [show 1*1=X.size by omega,ep]at this
 obtain⟨W2,ZL⟩:∃W2,W1.setRow b (spl (spl cur (o+(i+1)) R.toList) (o+i) X.toList)=W2:=⟨_,rfl⟩
 have ZKV:∀ty dc,(Builtin.copy_ #[24,24] ty #[.slice (some ⟨b,o+i,none⟩) (n+1-i) dc,.slice (some ⟨vb,vo,none⟩) 1 vc]).run Tryz.prog W1=.ok (goInt (1:Nat)) W2:=fun ty dc=>by
  have:=CE (P:=Tryz.prog) (w:=W1) (t:=24) (u:=24) (ty:=ty) ht hs (blk:=b) (p:=o+i) (n:=n+1-i) (c:=dc) (m:=1) (vx:=.slice (some ⟨vb,vo,none⟩) 1 vc) (by simp[Builtin.lenOf]) hfx DJ (by rw[hX,OH];omega) hX1
  rw[C4,ZL]at this
  exact this
 have hz2:¬((i:Int)=(n:Int)):=by omega
 have hz3:¬((c:Int)<(n:Int)+1):=by omega
 have LE:IntKind.i64.wrap ((i:Int)+1)=(i:Int)+1:=by rw[IntKind.wrap_i64];omega
 have hw2:IntKind.i64.wrap ((n:Int)+1)=(n:Int)+1:=by rw[IntKind.wrap_i64];omega
 have xJ:(0:Int)≤(i:Int)+1:=by omega
 have hb0:(0:Int)≤(n:Int)+1:=by omega
 have zE:i≤n:=by omega
 have htn:((i:Int)+1).toNat=i+1:=by omega
 have ZNJ:((n:Int)+1).toNat=n+1:=by omega
 have vR:¬(c=i+1):=by omega
 have hb3:(i:Int)≤(n:Int)+1:=by omega
 have hb4:¬(c=i):=by omega
 have hb5:(i:Int)+1≤(n:Int)+1:=by omega
 have hb6:(n:Int)+1≤(c:Int):=by omega
 have fin:InsPost w b 1 n (O.extract 0 (i*1)++X++R) (.returned (.slice (some ⟨b,o,none⟩) (n+1) c)) W2:=by
  refine⟨⟨b,o,c,_,T,rfl,by rw[←ZL];exact setRow_heap W1 _ _ _ _ _ DJ,zC,hc,?_,fun j v hj=>?_,.inl rfl,fun k _ hk=>by rw[←ZL,setRow_other W1 _ k _ hk];exact IJ k hk⟩,?_,?_,?_,?_⟩
  ·rw[rE (by rw[L9,OH];omega),OH];exact sI
  ·have hA:(O.extract 0 (i*1)).size=i*1:=by rw[eq,hO];omega
   rw[wE (by rw[L9,OH];omega),L9]
   by_cases h1:j<i*1
   ·rw[if_neg oM,wE (by rw[DF];omega),if_neg oM]
    rw[ck (by rw[cf];omega),ck oM,eu]at hj
    split at hj
    ·refine hOc j v ?_
     simpa using hj
    ·cases hj
   ·by_cases h2:j<i*1+1
    ·rw[if_pos oM]
     rw[ck (by rw[cf];omega),ei oM,hA]at hj
     rw[show o+j-(o+i)=j-i*1 by omega]
     simpa using hj
    ·rw[if_neg oM,wE (by rw[DF];omega),DF]
     rw[ei (by rw[cf];omega),cf,hA,hX]at hj
     have wG:=(bw.1 hj).1
     rw[if_pos oM,show o+j-(o+(i+1))=j-(i*1+1) by omega]
     simpa using hj
  ·rw[←ZL,←EH];rfl
  ·rw[←ZL,←EH];rfl
  ·rw[←ZL,←EH];rfl
  ·rw[←ZL,←EH];simp[World.setRow]
 have mixed:Tryz.prog.follows Departure.mixedOrders=true:=by kernel_rfl
 rw[hR]
 clear DJ OH EH ZL ZFh EM hmm
 go_enter Tryz.func182,Tryz.ntmps182
 go_wp2_with (simp only[hov])
 go_region_law_o (refine step_copy_runI rfl _ _ 24 24 rfl (.slice (some ⟨b,o+(i+1),none⟩) (n+1-(i+1)) (c-(i+1))) (.slice (some ⟨b,o+i,none⟩) (n+1-i) (c-i)) (by simp[Act.eval,Act.put]) (by simp[Act.eval,Act.put]) (ZKU 3 (c-(i+1)) (c-i)) ?_)
 go_wp2_with (at_builtin;refine wpList_copy_runI _ rfl _ _ 24 24 rfl _ _ rfl rfl (ZKV _ _) ?_)
 go_ret
 exact fin
theorem gZ (b o n c vb vo vc:Nat) (cur X:Array Value) (T:TypeId) (w:World) (hb:w.heap[b]? = some (.cells cur T (0,0))) (zC:n+1≤c) (hc:c≤maxLen) (sI:o+c*4≤cur.size)
  (hX:X.size=4) (hXc:∀j u,X[j]? = some u→w.cell? ⟨vb,vo+j,none⟩=some u) (hX1:∀u∈X.toList,u.oneCell'=true) (O:Array Value) (hO:O.size=n*4) (hOc:∀j u,O[j]? = some u→cur[o+j]? = some u) :
  Calls Tryz.prog 181 #[.slice (some ⟨b,o,none⟩) n c,.int .i64 n,.slice (some ⟨vb,vo,none⟩) 1 vc] w fun e w'=>InsPost w b 4 n (O++X) e w':=by
 have ht:=Tryz.underlying23
 have hs:lD Tryz.prog 106=some 4:=by kernel_rfl
 have hfc:(Builtin.firstCells 4 1 (.slice (some ⟨vb,vo,none⟩) 1 vc)).run Tryz.prog w=.ok X w:=by
  have:=eA (P:=Tryz.prog) (w:=w) (sz:=4) (n:=1) (len:=1) (cap:=vc) hXc oM (w2:=w) rfl
  rwa [show 1*4=X.size by omega,ep]at this
 obtain⟨W1,EH⟩:∃W1,w.setRow b (spl cur (o+n*4) X.toList)=W1:=⟨_,rfl⟩
 have VD:∀ty,(Builtin.append_ #[23,23] ty #[.slice (some ⟨b,o,none⟩) n c,.slice (some ⟨vb,vo,none⟩) 1 vc]).run Tryz.prog w=.ok (.slice (some ⟨b,o,none⟩) (n+1) c) W1:=fun ty=>by
  rw[←EH]
  exact zG (sz:=4) (m:=1) (vx:=.slice (some ⟨vb,vo,none⟩) 1 vc) (news:=X) ht ht rfl hs (by simp[Builtin.lenOf]) hfc oM zC hb oM hX1
 go_enter Tryz.func181,Tryz.ntmps181
 go_wp2_with (at_builtin;refine Lib.wpList_append_run _ rfl _ _ _ _ rfl _ _ rfl rfl _ _ (VD _) ?_)
 go_ret
 subst EH
 have NN:=rE (cur:=cur) (p:=o+n*4) (xs:=X.toList) (by simp;omega)
 refine⟨⟨b,o,c,_,T,rfl,setRow_heap w b cur _ T _ hb,zC,hc,by rw[NN];exact sI,fun j v hj=>?_,.inl rfl,fun k _ hk=>setRow_other w b k _ hk⟩,rfl,rfl,rfl,by simp[World.setRow]⟩
 rw[wE (by simp;omega)]
 by_cases hjn:j<n*4
 ·rw[if_neg oM]
  rw[ck oM]at hj
  exact hOc j v hj
 ·rw[ei oM,hO]at hj
  have wG:=(bw.1 hj).1
  rw[if_pos (by simp;omega),show o+j-(o+n*4)=j-n*4 by omega]
  simpa using hj
theorem sQ (b n c vb vo vc:Nat) (base:Option Addr) (X:Array Value) (w:World) (zC:c<n+1) (hn:n≤1000000) (hX:X.size=4) (hXc:∀j u,X[j]? = some u→w.cell? ⟨vb,vo+j,none⟩=some u) (hX1:∀u∈X.toList,u.oneCell'=true)
  (O:Array Value) (hO:O.size=n*4) (hOf:(Builtin.firstCells 4 n (.slice base n c)).run Tryz.prog w.drew=.ok O w.drew) :
  Calls Tryz.prog 181 #[.slice base n c,.int .i64 n,.slice (some ⟨vb,vo,none⟩) 1 vc] w fun e w'=>InsPost w b 4 n (O++X) e w':=by
 have ht:=Tryz.underlying23
 have hs:lD Tryz.prog 106=some 4:=by kernel_rfl
 have yO:CO Tryz.prog 106=some 48:=by kernel_rfl
 have hz:aF Tryz.prog 106=some [.v (.int .i64 0),.v (.int .i64 0),.v (.int .i64 0),.v .zsl]:=by kernel_rfl
 obtain⟨i,zv,hi,tX,wV⟩:=qE hz
 have hbz:i.bytes=48:=by simp[CO,hi]at yO;exact yO
 have hfc:(Builtin.firstCells 4 1 (.slice (some ⟨vb,vo,none⟩) 1 vc)).run Tryz.prog w.drew=.ok X w.drew:=by
  have:=eA (P:=Tryz.prog) (w:=w) (sz:=4) (n:=1) (len:=1) (cap:=vc) hXc oM (w2:=w.drew) rfl
  rwa [show 1*4=X.size by omega,ep]at this
 obtain⟨W1,EH⟩:∃W1,w.drew.alloc (.cells (O++X++Builtin.zeroCells zv.cells (grownCap w (n+1) c 106-(n+1))) 106)=W1:=⟨_,rfl⟩
 obtain⟨G,hG⟩:∃G,grownCap w (n+1) c 106=G:=⟨_,rfl⟩
 have VD:∀ty,(Builtin.append_ #[23,23] ty #[.slice base n c,.slice (some ⟨vb,vo,none⟩) 1 vc]).run Tryz.prog w=.ok (.slice (some ⟨w.heap.size,0,none⟩) (n+1) G) W1:=fun ty=>by
  rw[←EH,←hG]
  exact DG (sz:=4) (m:=1) (vx:=.slice (some ⟨vb,vo,none⟩) 1 vc) (news:=X) (olds:=O) ht ht rfl hs hi tX hbz (by simp[Builtin.lenOf]) hfc hOf zC oM oM kE
 have yH:=grownCap_ge w (n+1) c 106
 have EM:grownCap w (n+1) c 106≤maxLen:=grownCap_le_maxLen w _ c _ (by unfold maxLen;omega)
 have N9:zv.cells.size=4:=by
  obtain⟨c1,c2⟩:=JF (w:=w) (F:=fun _=>False) (L:=fun _ _=>none) wV
  have:=c1.1;simp at this;omega
 have fin:InsPost w b 4 n (O++X) (.returned (.slice (some ⟨w.heap.size,0,none⟩) (n+1) G)) W1:=by
  rw[←EH,←hG]
  refine⟨⟨w.heap.size,0,_,_,_,rfl,heap_alloc_new w.drew _,yH,EM,?_,fun j v hj=>?_,.inr (ai _),fun k hk _=>heap_alloc_old w.drew _ hk⟩,rfl,rfl,rfl,by simp⟩
  ·rw[cf,cf,size_zeroCells,hO,hX,N9,cn,←Nat.add_one_mul,←bx]
   exact cm _ oM
  ·rw[cn,ck (bw.1 hj).1]
   exact hj
 go_enter Tryz.func181,Tryz.ntmps181
 cases base with
 |none =>
   go_wp2_with (at_builtin;refine Lib.wpList_append_run _ rfl _ _ _ _ rfl _ _ rfl rfl _ _ (VD _) ?_)
   all_goals (go_ret;exact fin)
 |some a =>
   obtain⟨ab,ao,asp⟩:=a
   go_wp2_with (at_builtin;refine Lib.wpList_append_run _ rfl _ _ _ _ rfl _ _ rfl rfl _ _ (VD _) ?_)
   all_goals (go_ret;exact fin)
theorem N6 (b o n c i vb vo vc:Nat) (cur X:Array Value) (T:TypeId) (w:World) (hb:w.heap[b]? = some (.cells cur T (0,0))) (hi:i<n) (hnc:n≤c) (zC:c<n+1) (hn:n≤1000000) (hX:X.size=4) (hXc:∀j u,X[j]? = some u→w.cell? ⟨vb,vo+j,none⟩=some u) (hX1:∀u∈X.toList,u.oneCell'=true)
  (O:Array Value) (hO:O.size=n*4) (hOc:∀j u,O[j]? = some u→w.cell? ⟨b,o+j,none⟩=some u) (hO1:∀u∈O.toList,u.oneCell'=true) :
  Calls Tryz.prog 181 #[.slice (some ⟨b,o,none⟩) n c,.int .i64 i,.slice (some ⟨vb,vo,none⟩) 1 vc] w fun e w'=>InsPost w b 4 n (O.extract 0 (i*4)++X++O.extract (i*4) (n*4)) e w':=by
 have ht:=Tryz.underlying23
 have hti:=Tryz.underlying3
 have hs:lD Tryz.prog 106=some 4:=by kernel_rfl
 have yO:CO Tryz.prog 106=some 48:=by kernel_rfl
 have hz:aF Tryz.prog 106=some [.v (.int .i64 0),.v (.int .i64 0),.v (.int .i64 0),.v .zsl]:=by kernel_rfl
 obtain⟨inf,zv,WW,tX,wV⟩:=qE hz
 have hbz:inf.bytes=48:=by simp[CO,WW]at yO;exact yO
 have NN:inf.size=4:=by simp[lD,WW]at hs;exact hs
 have N9:zv.cells.size=4:=by
  obtain⟨c1,c2⟩:=JF (w:=w) (F:=fun _=>False) (L:=fun _ _=>none) wV
  have:=c1.1;simp at this;omega
 have hbw:b<w.heap.size:=(bw.1 hb).1
 have hx0:X[0]? = some X[0]:=fy oM
 have hvw:vb<w.heap.size:=block_lt_of_cell (hXc 0 _ hx0)
 have JH:(Builtin.firstCells inf.size i (.slice (some ⟨b,o,none⟩) i c)).run Tryz.prog w.drew=.ok (O.extract 0 (i*4)).toList.toArray w.drew:=by
  rw[NN,ir]
  exact eA (P:=Tryz.prog) (w:=w) (sz:=4) (n:=i) (len:=i) (cap:=c) hOc oM (w2:=w.drew) rfl
 have yH:=grownCap_ge w (n+1) c 106
 have EM:grownCap w (n+1) c 106≤maxLen:=grownCap_le_maxLen w _ c _ (by unfold maxLen;omega)
 have ZGR:=EM
 unfold maxLen at ZGR
 obtain⟨G,hG⟩:∃G,grownCap w (n+1) c 106=G:=⟨_,rfl⟩
 obtain⟨ROW,E4⟩:∃ROW:Array Value,(O.extract 0 (i*4)).toList.toArray++Builtin.zeroCells zv.cells (n+1-i)++Builtin.zeroCells zv.cells (G-(n+1))=ROW:=⟨_,rfl⟩
 obtain⟨W1,EH⟩:∃W1,w.drew.alloc (.cells ROW 106)=W1:=⟨_,rfl⟩
 have b8:i+(n+1-i)=n+1:=by omega
 have UP:(n:Int)+1-(i:Int)=((n+1-i:Nat):Int):=by omega
 have hrz:∀ty,(Builtin.append_ #[23,3] ty #[.slice (some ⟨b,o,none⟩) i c,.int .i64 ((n:Int)+1-(i:Int))]).run Tryz.prog w=.ok (.slice (some ⟨w.heap.size,0,none⟩) (n+1) G) W1:=fun ty=>by
  have h:=Lib.run_append_grow_zeros w 23 3 ty 106 inf zv .i64 .i64 ht hti WW tX (some ⟨b,o,none⟩) i c _ JH (n+1-i) oM oM oM oM (by rw[hbz];omega) (by rw[hbz,b8];exact growslice_fits zC oM)
  rw[b8]at h
  rw[UP,h,←EH,←E4,←hG]
 rw[hG]at yH EM ZGR
 have hRs:ROW.size=G*4:=by
  rw[←E4,cf,cf,size_zeroCells,size_zeroCells,N9,dx,ft,eq,hO]
  have:min (i*4) (n*4)-0=i*4:=by omega
  rw[this,←bx,←bx]
  congr 1;omega
 have vV:W1.heap[w.heap.size]? = some (.cells ROW 106 (0,0)):=by rw[←EH];exact heap_alloc_new w.drew _
 have IJ:∀k,k<w.heap.size→W1.heap[k]? = w.heap[k]?:=fun k hk=>by rw[←EH];exact heap_alloc_old w.drew _ hk
 have ZLo:W1.heap.size=w.heap.size+1:=by rw[←EH];simp
 have ZCz:∀j u,X[j]? = some u→W1.cell? ⟨vb,vo+j,none⟩=some u:=fun j u hj=>by
  have:=hXc j u hj
  rwa [←World.cell?_of_block (IJ vb hvw)]at this
 have hfx:(Builtin.firstCells 4 (min 1 (n+1-i)) (.slice (some ⟨vb,vo,none⟩) 1 vc)).run Tryz.prog W1=.ok X W1:=by
  have h1:min 1 (n+1-i)=1:=by omega
  rw[h1]
  have:=eA (P:=Tryz.prog) (w:=W1) (sz:=4) (n:=1) (len:=1) (cap:=vc) ZCz oM (w2:=W1) rfl
  rwa [show 1*4=X.size by omega,ep]at this
 obtain⟨W2,ZL⟩:∃W2,W1.setRow w.heap.size (spl ROW ((i)*4) X.toList)=W2:=⟨_,rfl⟩
 have C4:min 1 (n+1-i)=1:=by omega
 have hGm:(i+1)*4+(n-i)*4≤G*4:=by rw[←bx];exact cm _ oM
 have L9:X.toList.length=4:=by simpa using hX
 have ZKS:∀ty dc,(Builtin.copy_ #[23,23] ty #[.slice (some ⟨w.heap.size,(i)*4,none⟩) (n+1-i) dc,.slice (some ⟨vb,vo,none⟩) 1 vc]).run Tryz.prog W1=.ok (goInt (1:Nat)) W2:=fun ty dc=>by
  have:=CE (P:=Tryz.prog) (w:=W1) (t:=23) (u:=23) (ty:=ty) ht hs (blk:=w.heap.size) (p:=(i)*4) (n:=n+1-i) (c:=dc) (m:=1) (vx:=.slice (some ⟨vb,vo,none⟩) 1 vc) (by simp[Builtin.lenOf]) hfx vV (by rw[hX,hRs];omega) hX1
  rw[C4,ZL]at this
  exact this
 obtain⟨R,hR⟩:∃R,O.extract (i*4) (n*4)=R:=⟨_,rfl⟩
 have P8:R.size=(n-i)*4:=by rw[←hR,eq,hO,il];omega
 have V5:∀u∈R.toList,u.oneCell'=true:=fun u hu=>hO1 u (by
  rw[←hR,gi]at hu
  exact ey (ec hu))
 have hRg:∀j u,R[j]? = some u→O[i*4+j]? = some u:=fun j u hj=>by
  rw[←hR,eu]at hj
  split at hj
  ·exact hj
  ·cases hj
 have yV:W2.heap[w.heap.size]? = some (.cells (spl ROW ((i)*4) X.toList) 106 (0,0)):=by rw[←ZL];exact setRow_heap W1 _ ROW _ _ _ vV
 have z5:∀k,k<w.heap.size→W2.heap[k]? = w.heap[k]?:=fun k hk=>by rw[←ZL,setRow_other W1 _ k _ oM];exact IJ k hk
 have SW:∀j u,R[j]? = some u→W2.cell? ⟨b,(o+(i)*4)+j,none⟩=some u:=fun j u hj=>by
  have:=hOc _ u (hRg j u hj)
  rw[←World.cell?_of_block (z5 b hbw)]at this
  rwa [show o+(i*4+j)=o+(i)*4+j by omega]at this
 have zV:min (n-i) (n+1-(i+1))=n-i:=by omega
 have Y5:(Builtin.firstCells 4 (min (n-i) (n+1-(i+1))) (.slice (some ⟨b,o+(i)*4,none⟩) (n-i) (c-i))).run Tryz.prog W2.drew=.ok R W2.drew:=by
  rw[zV]
  have:=eA (P:=Tryz.prog) (w:=W2) (sz:=4) (n:=n-i) (len:=n-i) (cap:=c-i) SW oM (w2:=W2.drew) rfl
  rwa [show (n-i)*4=R.size by omega,ep]at this
 have hss:=rE (cur:=ROW) (p:=(i)*4) (xs:=X.toList) (by rw[L9,hRs];omega)
 obtain⟨W3,hW3⟩:∃W3,W2.drew.setRow w.heap.size (spl (spl ROW ((i)*4) X.toList) ((i+1)*4) R.toList)=W3:=⟨_,rfl⟩
 have ZKT:∀ty dc,(Builtin.copy_ #[23,23] ty #[.slice (some ⟨w.heap.size,(i+1)*4,none⟩) (n+1-(i+1)) dc,.slice (some ⟨b,o+(i)*4,none⟩) (n-i) (c-i)]).run Tryz.prog W2.drew=.ok (goInt (n-i:Nat)) W3:=fun ty dc=>by
  have:=CE (P:=Tryz.prog) (w:=W2.drew) (t:=23) (u:=23) (ty:=ty) ht hs (blk:=w.heap.size) (p:=(i+1)*4) (n:=n+1-(i+1)) (c:=dc) (m:=n-i) (vx:=.slice (some ⟨b,o+(i)*4,none⟩) (n-i) (c-i)) (by simp[Builtin.lenOf]) Y5 yV (by rw[P8,hss,hRs];omega) V5
  rw[zV,hW3]at this
  exact this
 have hz2:¬((i:Int)=(n:Int)):=by omega
 have hz3:(c:Int)<(n:Int)+1:=by omega
 have LE:IntKind.i64.wrap ((i:Int)+1)=(i:Int)+1:=by rw[IntKind.wrap_i64];omega
 have hw2:IntKind.i64.wrap ((n:Int)+1)=(n:Int)+1:=by rw[IntKind.wrap_i64];omega
 have xJ:(0:Int)≤(i:Int)+1:=by omega
 have zE:i≤n:=by omega
 have htn:((i:Int)+1).toNat=i+1:=by omega
 have hb3:(i:Int)≤(n:Int):=by omega
 have hGi:¬(G=i):=by omega
 have ZNI:¬(G=i+1):=by omega
 have gV:¬(c=i):=by omega
 have DF:R.toList.length=(n-i)*4:=by simpa using P8
 have fin:InsPost w b 4 n (O.extract 0 (i*4)++X++R) (.returned (.slice (some ⟨w.heap.size,0,none⟩) (n+1) G)) W3:=by
  refine⟨⟨w.heap.size,0,G,_,_,rfl,by rw[←hW3];exact setRow_heap W2.drew _ _ _ _ _ yV,yH,EM,?_,fun j v hj=>?_,.inr (ai _),fun k hk _=>by rw[←hW3,setRow_other W2.drew _ k _ oM];exact z5 k hk⟩,?_,?_,?_,?_⟩
  ·rw[rE (by rw[DF,hss,hRs];omega),hss,hRs];omega
  ·rw[cn,wE (by rw[DF,hss,hRs];omega),DF]
   have hA:(O.extract 0 (i*4)).size=i*4:=by rw[eq,hO];omega
   by_cases h1:j<i*4
   ·rw[if_neg oM,wE (by rw[L9,hRs];omega),if_neg oM]
    rw[ck (by rw[cf];omega),ck oM]at hj
    rw[←E4,ck (by rw[cf,dx,ft];omega),ck (by rw[dx,ft];omega),ir]
    exact hj
   ·by_cases h2:j<i*4+4
    ·rw[if_neg oM,wE (by rw[L9,hRs];omega),L9,if_pos oM]
     rw[ck (by rw[cf];omega),ei oM,hA]at hj
     simpa using hj
    ·rw[ei (by rw[cf];omega),cf,hA,hX]at hj
     have wG:=(bw.1 hj).1
     rw[if_pos oM,show j-(i+1)*4=j-(i*4+4) by omega]
     simpa using hj
  ·rw[←hW3,←ZL,←EH];rfl
  ·rw[←hW3,←ZL,←EH];rfl
  ·rw[←hW3,←ZL,←EH];rfl
  ·rw[←hW3,←ZL,←EH];simp[World.setRow]
 have mixed:Tryz.prog.follows Departure.mixedOrders=true:=by kernel_rfl
 rw[hR]
 clear E4 hG hRs JH yV vV hss EH ZL hW3 b8 UP
 go_enter Tryz.func181,Tryz.ntmps181
 go_wp2_with (first
  |(at_builtin;refine Lib.wpList_append_run _ rfl _ _ _ _ rfl _ _ rfl rfl _ _ (hrz _) ?_)
  |(at_builtin;refine wpList_copy_runI _ rfl _ _ 23 23 rfl _ _ rfl rfl (ZKS _ _) ?_))
 go_region_law_o (refine step_copy_runI rfl _ _ 23 23 rfl (.slice (some ⟨w.heap.size,(i+1)*4,none⟩) (n+1-(i+1)) (G-(i+1))) (.slice (some ⟨b,o+(i)*4,none⟩) (n-i) (c-i)) (by simp[Act.eval,Act.put]) (by simp[Act.eval,Act.put]) (ZKT 3 (G-(i+1))) ?_)
 go_wp2
 go_ret
 exact fin
theorem R6 (b o n c i vb vo vc:Nat) (cur X curv:Array Value) (T Tv:TypeId) (w:World) (hb:w.heap[b]? = some (.cells cur T (0,0))) (hvb:w.heap[vb]? = some (.cells curv Tv (0,0))) (qG:vb≠b) (hi:i<n) (zC:n+1≤c) (hc:c≤maxLen) (sI:o+c*4≤cur.size) (hn:n≤1000000) (hX:X.size=4) (hXc:∀j u,X[j]? = some u→curv[vo+j]? = some u) (hX1:∀u∈X.toList,u.oneCell'=true)
  (O:Array Value) (hO:O.size=n*4) (hOc:∀j u,O[j]? = some u→cur[o+j]? = some u) (hO1:∀u∈O.toList,u.oneCell'=true) :
  Calls Tryz.prog 181 #[.slice (some ⟨b,o,none⟩) n c,.int .i64 i,.slice (some ⟨vb,vo,none⟩) 1 vc] w fun e w'=>InsPost w b 4 n (O.extract 0 (i*4)++X++O.extract (i*4) (n*4)) e w':=by
 have ht:=Tryz.underlying23
 have hs:lD Tryz.prog 106=some 4:=by kernel_rfl
 have ZDA:=hc
 unfold maxLen at ZDA
 have EM:(n+1)*4≤c*4:=cm _ zC
 have ZFh:0<cur.size:=by omega
 have hov:∀lb cb,(callFunc 191 #[.slice (some ⟨vb,vo,none⟩) 1 vc,.slice (some ⟨b,o+(i+1)*4,none⟩) lb cb]).run Tryz.prog w=.ok (.value (.bool false)) w:=fun lb cb=>by
  rw[run_callFunc_extern Tryz.func191 (by kernel_rfl) (by kernel_rfl) (by kernel_rfl) (e:=Extern.SlicesOverlaps.overlaps #[23,23] #[4]) (by kernel_rfl),
   Lib.run_overlaps_apart w 23 4 106 ht 4 (fun w=>IA hs) ⟨vb,vo,none⟩ ⟨b,o+(i+1)*4,none⟩ 1 vc lb cb qG Tv T curv.size cur.size (by simp[World.shape?,hvb]) (by simp[World.shape?,hb]) oM (by simp[World.frozen?,hvb]) (by simp[World.frozen?,hvb])]
  rfl
 obtain⟨R,hR⟩:∃R,O.extract (i*4) (n*4)=R:=⟨_,rfl⟩
 have P8:R.size=(n-i)*4:=by rw[←hR,eq,hO,il];omega
 have V5:∀u∈R.toList,u.oneCell'=true:=fun u hu=>hO1 u (by
  rw[←hR,gi]at hu
  exact ey (ec hu))
 have hRg:∀j u,R[j]? = some u→O[i*4+j]? = some u:=fun j u hj=>by
  rw[←hR,eu]at hj
  split at hj
  ·exact hj
  ·cases hj
 have DF:R.toList.length=(n-i)*4:=by simpa using P8
 have L9:X.toList.length=4:=by simpa using hX
 have zV:min (n+1-i) (n+1-(i+1))=n-i:=by omega
 have SW:∀j u,R[j]? = some u→w.cell? ⟨b,(o+(i)*4)+j,none⟩=some u:=fun j u hj=>by
  have:=hOc _ u (hRg j u hj)
  simp only[World.cell?,hb]
  rw[show o+(i)*4+j=o+(i*4+j) by omega]
  exact this
 have Y5:∀sc,(Builtin.firstCells 4 (min (n+1-i) (n+1-(i+1))) (.slice (some ⟨b,o+(i)*4,none⟩) (n+1-i) sc)).run Tryz.prog w.drew=.ok R w.drew:=fun sc=>by
  rw[zV]
  have:=eA (P:=Tryz.prog) (w:=w) (sz:=4) (n:=n-i) (len:=n+1-i) (cap:=sc) SW oM (w2:=w.drew) rfl
  rwa [show (n-i)*4=R.size by omega,ep]at this
 have hmm:(i+1)*4+(n-i)*4=(n+1)*4:=by rw[←bx];congr 1;omega
 have OH:=rE (cur:=cur) (p:=o+(i+1)*4) (xs:=R.toList) (by rw[DF];omega)
 obtain⟨W1,EH⟩:∃W1,w.drew.setRow b (spl cur (o+(i+1)*4) R.toList)=W1:=⟨_,rfl⟩
 have ZKU:∀ty dc sc,(Builtin.copy_ #[23,23] ty #[.slice (some ⟨b,o+(i+1)*4,none⟩) (n+1-(i+1)) dc,.slice (some ⟨b,o+(i)*4,none⟩) (n+1-i) sc]).run Tryz.prog w.drew=.ok (goInt (n-i:Nat)) W1:=fun ty dc sc=>by
  have:=CE (P:=Tryz.prog) (w:=w.drew) (t:=23) (u:=23) (ty:=ty) ht hs (blk:=b) (p:=o+(i+1)*4) (n:=n+1-(i+1)) (c:=dc) (m:=n+1-i) (vx:=.slice (some ⟨b,o+(i)*4,none⟩) (n+1-i) sc) (by simp[Builtin.lenOf]) (Y5 sc) hb (by rw[P8];omega) V5
  rw[zV,EH]at this
  exact this
 have DJ:W1.heap[b]? = some (.cells (spl cur (o+(i+1)*4) R.toList) T (0,0)):=by rw[←EH];exact setRow_heap w.drew _ cur _ _ _ hb
 have IJ:∀k,k≠b→W1.heap[k]? = w.heap[k]?:=fun k hk=>by rw[←EH,setRow_other w.drew _ k _ hk];rfl
 have ZCz:∀j u,X[j]? = some u→W1.cell? ⟨vb,vo+j,none⟩=some u:=fun j u hj=>by
  have:=hXc j u hj
  simp only[World.cell?,IJ vb qG,hvb]
  exact this
 have C4:min 1 (n+1-i)=1:=by omega
 have hfx:(Builtin.firstCells 4 (min 1 (n+1-i)) (.slice (some ⟨vb,vo,none⟩) 1 vc)).run Tryz.prog W1=.ok X W1:=by
  rw[C4]
  have:=eA (P:=Tryz.prog) (w:=W1) (sz:=4) (n:=1) (len:=1) (cap:=vc) ZCz oM (w2:=W1) rfl
  rwa [show 1*4=X.size by omega,ep]at this
 obtain⟨W2,ZL⟩:∃W2,W1.setRow b (spl (spl cur (o+(i+1)*4) R.toList) (o+(i)*4) X.toList)=W2:=⟨_,rfl⟩
 have ZKV:∀ty dc,(Builtin.copy_ #[23,23] ty #[.slice (some ⟨b,o+(i)*4,none⟩) (n+1-i) dc,.slice (some ⟨vb,vo,none⟩) 1 vc]).run Tryz.prog W1=.ok (goInt (1:Nat)) W2:=fun ty dc=>by
  have:=CE (P:=Tryz.prog) (w:=W1) (t:=23) (u:=23) (ty:=ty) ht hs (blk:=b) (p:=o+(i)*4) (n:=n+1-i) (c:=dc) (m:=1) (vx:=.slice (some ⟨vb,vo,none⟩) 1 vc) (by simp[Builtin.lenOf]) hfx DJ (by rw[hX,OH];omega) hX1
  rw[C4,ZL]at this
  exact this
 have hz2:¬((i:Int)=(n:Int)):=by omega
 have hz3:¬((c:Int)<(n:Int)+1):=by omega
 have LE:IntKind.i64.wrap ((i:Int)+1)=(i:Int)+1:=by rw[IntKind.wrap_i64];omega
 have hw2:IntKind.i64.wrap ((n:Int)+1)=(n:Int)+1:=by rw[IntKind.wrap_i64];omega
 have xJ:(0:Int)≤(i:Int)+1:=by omega
 have hb0:(0:Int)≤(n:Int)+1:=by omega
 have zE:i≤n:=by omega
 have htn:((i:Int)+1).toNat=i+1:=by omega
 have ZNJ:((n:Int)+1).toNat=n+1:=by omega
 have vR:¬(c=i+1):=by omega
 have hb3:(i:Int)≤(n:Int)+1:=by omega
 have hb4:¬(c=i):=by omega
 have hb5:(i:Int)+1≤(n:Int)+1:=by omega
 have hb6:(n:Int)+1≤(c:Int):=by omega
 have fin:InsPost w b 4 n (O.extract 0 (i*4)++X++R) (.returned (.slice (some ⟨b,o,none⟩) (n+1) c)) W2:=by
  refine⟨⟨b,o,c,_,T,rfl,by rw[←ZL];exact setRow_heap W1 _ _ _ _ _ DJ,zC,hc,?_,fun j v hj=>?_,.inl rfl,fun k _ hk=>by rw[←ZL,setRow_other W1 _ k _ hk];exact IJ k hk⟩,?_,?_,?_,?_⟩
  ·rw[rE (by rw[L9,OH];omega),OH];exact sI
  ·have hA:(O.extract 0 (i*4)).size=i*4:=by rw[eq,hO];omega
   rw[wE (by rw[L9,OH];omega),L9]
   by_cases h1:j<i*4
   ·rw[if_neg oM,wE (by rw[DF];omega),if_neg oM]
    rw[ck (by rw[cf];omega),ck oM,eu]at hj
    split at hj
    ·refine hOc j v ?_
     simpa using hj
    ·cases hj
   ·by_cases h2:j<i*4+4
    ·rw[if_pos oM]
     rw[ck (by rw[cf];omega),ei oM,hA]at hj
     rw[show o+j-(o+(i)*4)=j-i*4 by omega]
     simpa using hj
    ·rw[if_neg oM,wE (by rw[DF];omega),DF]
     rw[ei (by rw[cf];omega),cf,hA,hX]at hj
     have wG:=(bw.1 hj).1
     rw[if_pos oM,show o+j-(o+(i+1)*4)=j-(i*4+4) by omega]
     simpa using hj
  ·rw[←ZL,←EH];rfl
  ·rw[←ZL,←EH];rfl
  ·rw[←ZL,←EH];rfl
  ·rw[←ZL,←EH];simp[World.setRow]
 have mixed:Tryz.prog.follows Departure.mixedOrders=true:=by kernel_rfl
 rw[hR]
 clear DJ OH EH ZL ZFh EM hmm
 go_enter Tryz.func181,Tryz.ntmps181
 go_wp2_with (simp only[hov])
 go_region_law_o (refine step_copy_runI rfl _ _ 23 23 rfl (.slice (some ⟨b,o+(i+1)*4,none⟩) (n+1-(i+1)) (c-(i+1))) (.slice (some ⟨b,o+(i)*4,none⟩) (n+1-i) (c-i)) (by simp[Act.eval,Act.put]) (by simp[Act.eval,Act.put]) (ZKU 3 (c-(i+1)) (c-i)) ?_)
 go_wp2_with (at_builtin;refine wpList_copy_runI _ rfl _ _ 23 23 rfl _ _ rfl rfl (ZKV _ _) ?_)
 go_ret
 exact fin
end Go.Proofs.YtmaokjojbjdpoaaGreatDoor
namespace Go.Proofs.YtmaokjojbjdpoaaGreatDoor
open Go.Lib Go.RowKit
set_option linter.unusedVariables false
set_option linter.unusedSimpArgs false
section
variable {P:Program} {w:World}
theorem JO {t el ty:TypeId} {z:Value} (ht:P.underlying t=some (.slice el)) (hv:∀w,(zeroValue el).run P w=.ok z w) {b p c:Nat} {cur:Array Value} {T:TypeId} {zl:List Value} (hz:(Builtin.zeroCells z.cells 1).toList=zl)
  (M4:w.heap[b]? = some (.cells cur T (0,0))) (sI:p+zl.length≤cur.size) (h1:∀u∈zl,u.oneCell'=true) :
  (Builtin.clear_ #[t] ty #[.slice (some ⟨b,p,none⟩) 1 c]).run P w=.ok (.tuple #[]) (w.setRow b (spl cur p zl)):=by
 have ZF:=run_storeCells_at P b p T zl 0 cur w M4 (by simpa using sI) h1
 simp only[eo]at ZF
 change _=Result.ok () (w.setRow b (spl cur p zl)) at ZF
 obtain⟨W,hW⟩:∃W,w.setRow b (spl cur p zl)=W:=⟨_,rfl⟩
 rw[hW]at ZF⊢
 simp[Builtin.clear_,run_underlying ht,hv,hz,ZF]
theorem bF {ops:Array Oper} {o:Oper} {a:Act} {K:Act→World→Prop} {Q:Exit→Act→World→Prop} {E:Prop} (hg:o.guard=none) (d x:Operand) (dT sT:TypeId) (hop:o.op=Op.call {callee:=Callee.builtin Builtin.append,args:=#[d,x],argTypes:=#[dT,sT]})
  (v u:Value) (hd:a.eval d=v) (hx:a.eval x=u) {v':Value} {w':World} (hr:(Builtin.append_ #[dT,sT] o.type #[v,u]).run P w=.ok v' w') (hK:K (a.put o.dst v') w') :
  if Region.wanted o (yielded ops a.tmps)=true then Oper.wp P o a w K Q else E:=by
 rw[if_pos (by simp[Region.wanted,hg])]
 exact Lib.wp_append_run w d x dT sT hop v u hd hx v' w' hr hK
structure DelPost (w:World) (b o c n:Nat) (sz:Nat) (N:Array Value) (e:Ending) (w':World):Prop where
 out:∃cur T,e=.returned (.slice (some ⟨b,o,none⟩) n c)∧w'.heap[b]? = some (.cells cur T (0,0))∧o+c*sz≤cur.size∧(∀j v,N[j]? = some v→cur[o+j]? = some v)
 old:∀k,k≠b→w'.heap[k]? = w.heap[k]?
 os:w'.os=w.os
 tape:w'.tape=w.tape
 output:w'.output=w.output
 size:w'.heap.size=w.heap.size
end
theorem ZCC (b o n c i:Nat) (cur:Array Value) (T:TypeId) (w:World) (hb:w.heap[b]? = some (.cells cur T (0,0))) (hi:i<n) (hnc:n≤c) (hc:c≤maxLen) (sI:o+c*1≤cur.size)
  (O:Array Value) (hO:O.size=n*1) (hOc:∀j u,O[j]? = some u→cur[o+j]? = some u) (hO1:∀u∈O.toList,u.oneCell'=true) :
  Calls Tryz.prog 184 #[.slice (some ⟨b,o,none⟩) n c,.int .i64 i,.int .i64 ((i:Int)+1)] w fun e w'=>DelPost w b o c (n-1) 1 (O.extract 0 (i*1)++O.extract ((i+1)*1) (n*1)) e w':=by
 have ht:=Tryz.underlying24
 have hs:lD Tryz.prog 3=some 1:=by kernel_rfl
 have hzv:(Tryz.prog.info? 3).bind (·.zero)=some (.int .i64 0):=by kernel_rfl
 have hzr:∀w,(zeroValue 3).run Tryz.prog w=.ok (.int .i64 0) w:=fun w=>by
  cases zE:Tryz.prog.info? 3 with
  |none=>rw[zE]at hzv;cases hzv
  |some inf=>rw[zE]at hzv;simp[zeroValue,typeInfo,zE,show inf.zero=some (.int .i64 0) from hzv]
 have ZDA:=hc
 unfold maxLen at ZDA
 have EM:n*1≤c*1:=cm _ hnc
 obtain⟨R,hR⟩:∃R,O.extract ((i+1)*1) (n*1)=R:=⟨_,rfl⟩
 have P8:R.size=(n-(i+1))*1:=by rw[←hR,eq,hO,il];omega
 have V5:∀u∈R.toList,u.oneCell'=true:=fun u hu=>hO1 u (by
  rw[←hR,gi]at hu
  exact ey (ec hu))
 have hRg:∀j u,R[j]? = some u→O[(i+1)*1+j]? = some u:=fun j u hj=>by
  rw[←hR,eu]at hj
  split at hj
  ·exact hj
  ·cases hj
 have DF:R.toList.length=(n-(i+1))*1:=by simpa using P8
 have hmm:(i+1)*1+(n-(i+1))*1=n*1:=by rw[←bx];congr 1;omega
 obtain⟨W1,EH⟩:∃W1,w.drew.setRow b (spl cur (o+i*1) R.toList)=W1:=⟨_,rfl⟩
 have OH:=rE (cur:=cur) (p:=o+i*1) (xs:=R.toList) (by rw[DF];omega)
 have DJ:W1.heap[b]? = some (.cells (spl cur (o+i*1) R.toList) T (0,0)):=by rw[←EH];exact setRow_heap w.drew _ cur _ _ _ hb
 have IJ:∀k,k≠b→W1.heap[k]? = w.heap[k]?:=fun k hk=>by rw[←EH,setRow_other w.drew _ k _ hk];rfl
 have SW:∀j u,R[j]? = some u→w.cell? ⟨b,(o+(i+1))+j,none⟩=some u:=fun j u hj=>by
  have:=hOc _ u (hRg j u hj)
  simp only[World.cell?,hb]
  rw[show o+(i+1)+j=o+((i+1)*1+j) by omega]
  exact this
 obtain⟨A,hA,Y5⟩:∃A:Addr,(if c=i+1 then (⟨b,o,none⟩:Addr) else ⟨b,o+(i+1),none⟩)=A∧(Builtin.firstCells 1 (n-(i+1)) (.slice (some A) (n-(i+1)) (c-(i+1)))).run Tryz.prog w.drew=.ok R w.drew:=by
  refine⟨_,rfl,?_⟩
  by_cases h:c=i+1
  ·have h0:n-(i+1)=0:=by omega
   have hRe:R=#[]:=iq (by rw[P8,h0,gy])
   rw[h0,hRe,if_pos h]
   simp[Builtin.firstCells,loadCells,loadCellsFrom]
  ·rw[if_neg h]
   have:=eA (P:=Tryz.prog) (w:=w) (sz:=1) (n:=n-(i+1)) (len:=n-(i+1)) (cap:=c-(i+1)) SW oM (w2:=w.drew) rfl
   rwa [show (n-(i+1))*1=R.size by omega,ep]at this
 have hap:∀ty,(Builtin.append_ #[24,24] ty #[.slice (some ⟨b,o,none⟩) i c,.slice (some A) (n-(i+1)) (c-(i+1))]).run Tryz.prog w.drew=.ok (.slice (some ⟨b,o,none⟩) (n-1) c) W1:=fun ty=>by
  have:=zG (P:=Tryz.prog) (w:=w.drew) (t:=24) (u:=24) (ty:=ty) (sz:=1) (m:=n-(i+1)) (vx:=.slice (some A) (n-(i+1)) (c-(i+1))) (news:=R) (blk:=b) (p:=o) (len:=i) (cap:=c) ht ht rfl hs (by simp[Builtin.lenOf]) Y5 P8 oM hb oM V5
  rw[show i+(n-(i+1))=n-1 by omega]at this
  rw[←EH]
  exact this
 have N9:(Builtin.zeroCells (Value.cells (.int .i64 0)) 1).toList=[.int .i64 0]:=by kernel_rfl
 have hnm:(n-1)*1+1=n*1:=by rw[←jq];congr 1;omega
 obtain⟨W2,ZL⟩:∃W2,W1.setRow b (spl (spl cur (o+i*1) R.toList) (o+(n-1)) [.int .i64 0])=W2:=⟨_,rfl⟩
 have WM:∀ty dc,(Builtin.clear_ #[24] ty #[.slice (some ⟨b,o+(n-1),none⟩) (n-(n-1)) dc]).run Tryz.prog W1=.ok (.tuple #[]) W2:=fun ty dc=>by
  rw[←ZL,show n-(n-1)=1 by omega]
  exact JO ht hzr N9 DJ (by rw[OH];simp;omega) (by simp[Value.oneCell'])
 have fin:DelPost w b o c (n-1) 1 (O.extract 0 (i*1)++R) (.returned (.slice (some ⟨b,o,none⟩) (n-1) c)) W2:=by
  have ZGS:([.int .i64 0]:List Value).length=1:=rfl
  refine⟨⟨_,T,rfl,by rw[←ZL];exact setRow_heap W1 _ _ _ _ _ DJ,?_,fun j v hj=>?_⟩,fun k hk=>by rw[←ZL,setRow_other W1 _ k _ hk];exact IJ k hk,?_,?_,?_,?_⟩
  ·rw[rE (by rw[OH,ZGS];omega),OH];exact sI
  ·have hA2:(O.extract 0 (i*1)).size=i*1:=by rw[eq,hO];omega
   have wG:=(bw.1 hj).1
   rw[cf,hA2,P8]at wG
   rw[wE (by rw[OH,ZGS];omega),if_neg oM,wE (by rw[DF];omega),DF]
   by_cases h1:j<i*1
   ·rw[if_neg oM]
    rw[ck oM,eu]at hj
    split at hj
    ·refine hOc j v ?_
     simpa using hj
    ·cases hj
   ·rw[ei oM,hA2]at hj
    rw[if_pos oM,show o+j-(o+i*1)=j-i*1 by omega]
    simpa using hj
  ·rw[←ZL,←EH];rfl
  ·rw[←ZL,←EH];rfl
  ·rw[←ZL,←EH];rfl
  ·rw[←ZL,←EH];simp[World.setRow]
 have mixed:Tryz.prog.follows Departure.mixedOrders=true:=by kernel_rfl
 have hic:i≤c:=by omega
 have hjc:i+1≤c:=by omega
 have hjn:i+1≤n:=by omega
 have xJ:(0:Int)≤(i:Int)+1:=by omega
 have htn:((i:Int)+1).toNat=i+1:=by omega
 have hii:(i:Int)≤(i:Int)+1:=by omega
 have zE:(i:Int)+1≤(n:Int):=by omega
 have ZNK:(i:Int)+1≤(c:Int):=by omega
 have qG:¬((i:Int)=(i:Int)+1):=by omega
 have hn1:n-1≤n:=by omega
 have eW:n-1≤c:=by omega
 have hn4:¬(c=n-1):=by omega
 rw[hR]
 clear DJ OH EH ZL EM hmm hnm
 by_cases gV:c=i+1
 ·obtain rfl:n=i+1:=by omega
  subst gV
  rw[if_pos rfl]at hA
  subst hA
  have ZCr:i+1-i=1:=by omega
  simp only[fd,ZCr]at fin hap WM
  go_enter Tryz.func184,Tryz.ntmps184
  go_wp2_with fail
  go_region_law_o (refine bF rfl _ _ 24 24 rfl (.slice (some ⟨b,o,none⟩) i (i+1)) (.slice (some ⟨b,o,none⟩) (i+1-(i+1)) (i+1-(i+1))) (by simp[Act.eval,Act.put]) (by simp[Act.eval,Act.put]) (hap _) ?_)
  go_wp2
  go_ret
  exact fin
 ·rw[if_neg gV]at hA
  subst hA
  go_enter Tryz.func184,Tryz.ntmps184
  go_wp2_with fail
  go_region_law_o (refine bF rfl _ _ 24 24 rfl (.slice (some ⟨b,o,none⟩) i c) (.slice (some ⟨b,o+(i+1),none⟩) (n-(i+1)) (c-(i+1))) (by simp[Act.eval,Act.put]) (by simp[Act.eval,Act.put]) (hap _) ?_)
  go_wp2
  go_ret
  exact fin
theorem ZCB (b o n c i:Nat) (cur:Array Value) (T:TypeId) (w:World) (hb:w.heap[b]? = some (.cells cur T (0,0))) (hi:i<n) (hnc:n≤c) (hc:c≤maxLen) (sI:o+c*4≤cur.size)
  (O:Array Value) (hO:O.size=n*4) (hOc:∀j u,O[j]? = some u→cur[o+j]? = some u) (hO1:∀u∈O.toList,u.oneCell'=true) :
  Calls Tryz.prog 183 #[.slice (some ⟨b,o,none⟩) n c,.int .i64 i,.int .i64 ((i:Int)+1)] w fun e w'=>DelPost w b o c (n-1) 4 (O.extract 0 (i*4)++O.extract ((i+1)*4) (n*4)) e w':=by
 have ht:=Tryz.underlying23
 have hs:lD Tryz.prog 106=some 4:=by kernel_rfl
 have hzv:(Tryz.prog.info? 106).bind (·.zero)=some (.agg #[.int .i64 0,.int .i64 0,.int .i64 0,.slice none 0 0]):=by kernel_rfl
 have hzr:∀w,(zeroValue 106).run Tryz.prog w=.ok (.agg #[.int .i64 0,.int .i64 0,.int .i64 0,.slice none 0 0]) w:=fun w=>by
  cases zE:Tryz.prog.info? 106 with
  |none=>rw[zE]at hzv;cases hzv
  |some inf=>rw[zE]at hzv;simp[zeroValue,typeInfo,zE,show inf.zero=some (.agg #[.int .i64 0,.int .i64 0,.int .i64 0,.slice none 0 0]) from hzv]
 have ZDA:=hc
 unfold maxLen at ZDA
 have EM:n*4≤c*4:=cm _ hnc
 obtain⟨R,hR⟩:∃R,O.extract ((i+1)*4) (n*4)=R:=⟨_,rfl⟩
 have P8:R.size=(n-(i+1))*4:=by rw[←hR,eq,hO,il];omega
 have V5:∀u∈R.toList,u.oneCell'=true:=fun u hu=>hO1 u (by
  rw[←hR,gi]at hu
  exact ey (ec hu))
 have hRg:∀j u,R[j]? = some u→O[(i+1)*4+j]? = some u:=fun j u hj=>by
  rw[←hR,eu]at hj
  split at hj
  ·exact hj
  ·cases hj
 have DF:R.toList.length=(n-(i+1))*4:=by simpa using P8
 have hmm:(i+1)*4+(n-(i+1))*4=n*4:=by rw[←bx];congr 1;omega
 obtain⟨W1,EH⟩:∃W1,w.drew.setRow b (spl cur (o+i*4) R.toList)=W1:=⟨_,rfl⟩
 have OH:=rE (cur:=cur) (p:=o+i*4) (xs:=R.toList) (by rw[DF];omega)
 have DJ:W1.heap[b]? = some (.cells (spl cur (o+i*4) R.toList) T (0,0)):=by rw[←EH];exact setRow_heap w.drew _ cur _ _ _ hb
 have IJ:∀k,k≠b→W1.heap[k]? = w.heap[k]?:=fun k hk=>by rw[←EH,setRow_other w.drew _ k _ hk];rfl
 have SW:∀j u,R[j]? = some u→w.cell? ⟨b,(o+(i+1)*4)+j,none⟩=some u:=fun j u hj=>by
  have:=hOc _ u (hRg j u hj)
  simp only[World.cell?,hb]
  rw[show o+(i+1)*4+j=o+((i+1)*4+j) by omega]
  exact this
 obtain⟨A,hA,Y5⟩:∃A:Addr,(if c=i+1 then (⟨b,o,none⟩:Addr) else ⟨b,o+(i+1)*4,none⟩)=A∧(Builtin.firstCells 4 (n-(i+1)) (.slice (some A) (n-(i+1)) (c-(i+1)))).run Tryz.prog w.drew=.ok R w.drew:=by
  refine⟨_,rfl,?_⟩
  by_cases h:c=i+1
  ·have h0:n-(i+1)=0:=by omega
   have hRe:R=#[]:=iq (by rw[P8,h0,gy])
   rw[h0,hRe,if_pos h]
   simp[Builtin.firstCells,loadCells,loadCellsFrom]
  ·rw[if_neg h]
   have:=eA (P:=Tryz.prog) (w:=w) (sz:=4) (n:=n-(i+1)) (len:=n-(i+1)) (cap:=c-(i+1)) SW oM (w2:=w.drew) rfl
   rwa [show (n-(i+1))*4=R.size by omega,ep]at this
 have hap:∀ty,(Builtin.append_ #[23,23] ty #[.slice (some ⟨b,o,none⟩) i c,.slice (some A) (n-(i+1)) (c-(i+1))]).run Tryz.prog w.drew=.ok (.slice (some ⟨b,o,none⟩) (n-1) c) W1:=fun ty=>by
  have:=zG (P:=Tryz.prog) (w:=w.drew) (t:=23) (u:=23) (ty:=ty) (sz:=4) (m:=n-(i+1)) (vx:=.slice (some A) (n-(i+1)) (c-(i+1))) (news:=R) (blk:=b) (p:=o) (len:=i) (cap:=c) ht ht rfl hs (by simp[Builtin.lenOf]) Y5 P8 oM hb oM V5
  rw[show i+(n-(i+1))=n-1 by omega]at this
  rw[←EH]
  exact this
 have N9:(Builtin.zeroCells (Value.cells (.agg #[.int .i64 0,.int .i64 0,.int .i64 0,.slice none 0 0])) 1).toList=[.int .i64 0,.int .i64 0,.int .i64 0,.slice none 0 0]:=by kernel_rfl
 have hnm:(n-1)*4+4=n*4:=by rw[←jq];congr 1;omega
 obtain⟨W2,ZL⟩:∃W2,W1.setRow b (spl (spl cur (o+i*4) R.toList) (o+(n-1)*4) [.int .i64 0,.int .i64 0,.int .i64 0,.slice none 0 0])=W2:=⟨_,rfl⟩
 have WM:∀ty dc,(Builtin.clear_ #[23] ty #[.slice (some ⟨b,o+(n-1)*4,none⟩) (n-(n-1)) dc]).run Tryz.prog W1=.ok (.tuple #[]) W2:=fun ty dc=>by
  rw[←ZL,show n-(n-1)=1 by omega]
  exact JO ht hzr N9 DJ (by rw[OH];simp;omega) (by simp[Value.oneCell'])
 have fin:DelPost w b o c (n-1) 4 (O.extract 0 (i*4)++R) (.returned (.slice (some ⟨b,o,none⟩) (n-1) c)) W2:=by
  have ZGS:([.int .i64 0,.int .i64 0,.int .i64 0,.slice none 0 0]:List Value).length=4:=rfl
  refine⟨⟨_,T,rfl,by rw[←ZL];exact setRow_heap W1 _ _ _ _ _ DJ,?_,fun j v hj=>?_⟩,fun k hk=>by rw[←ZL,setRow_other W1 _ k _ hk];exact IJ k hk,?_,?_,?_,?_⟩
  ·rw[rE (by rw[OH,ZGS];omega),OH];exact sI
  ·have hA2:(O.extract 0 (i*4)).size=i*4:=by rw[eq,hO];omega
   have wG:=(bw.1 hj).1
   rw[cf,hA2,P8]at wG
   rw[wE (by rw[OH,ZGS];omega),if_neg oM,wE (by rw[DF];omega),DF]
   by_cases h1:j<i*4
   ·rw[if_neg oM]
    rw[ck oM,eu]at hj
    split at hj
    ·refine hOc j v ?_
     simpa using hj
    ·cases hj
   ·rw[ei oM,hA2]at hj
    rw[if_pos oM,show o+j-(o+i*4)=j-i*4 by omega]
    simpa using hj
  ·rw[←ZL,←EH];rfl
  ·rw[←ZL,←EH];rfl
  ·rw[←ZL,←EH];rfl
  ·rw[←ZL,←EH];simp[World.setRow]
 have mixed:Tryz.prog.follows Departure.mixedOrders=true:=by kernel_rfl
 have hic:i≤c:=by omega
 have hjc:i+1≤c:=by omega
 have hjn:i+1≤n:=by omega
 have xJ:(0:Int)≤(i:Int)+1:=by omega
 have htn:((i:Int)+1).toNat=i+1:=by omega
 have hii:(i:Int)≤(i:Int)+1:=by omega
 have zE:(i:Int)+1≤(n:Int):=by omega
 have ZNK:(i:Int)+1≤(c:Int):=by omega
 have qG:¬((i:Int)=(i:Int)+1):=by omega
 have hn1:n-1≤n:=by omega
 have eW:n-1≤c:=by omega
 have hn4:¬(c=n-1):=by omega
 rw[hR]
 clear DJ OH EH ZL EM hmm hnm
 by_cases gV:c=i+1
 ·obtain rfl:n=i+1:=by omega
  subst gV
  rw[if_pos rfl]at hA
  subst hA
  have ZCr:i+1-i=1:=by omega
  simp only[fd,ZCr]at fin hap WM
  go_enter Tryz.func183,Tryz.ntmps183
  go_wp2_with fail
  go_region_law_o (refine bF rfl _ _ 23 23 rfl (.slice (some ⟨b,o,none⟩) i (i+1)) (.slice (some ⟨b,o,none⟩) (i+1-(i+1)) (i+1-(i+1))) (by simp[Act.eval,Act.put]) (by simp[Act.eval,Act.put]) (hap _) ?_)
  go_wp2
  go_ret
  exact fin
 ·rw[if_neg gV]at hA
  subst hA
  go_enter Tryz.func183,Tryz.ntmps183
  go_wp2_with fail
  go_region_law_o (refine bF rfl _ _ 23 23 rfl (.slice (some ⟨b,o,none⟩) i c) (.slice (some ⟨b,o+(i+1)*4,none⟩) (n-(i+1)) (c-(i+1))) (by simp[Act.eval,Act.put]) (by simp[Act.eval,Act.put]) (hap _) ?_)
  go_wp2
  go_ret
  exact fin
end Go.Proofs.YtmaokjojbjdpoaaGreatDoor
namespace Go.Proofs.YtmaokjojbjdpoaaGreatDoor
set_option linter.unusedVariables false
set_option linter.unusedSimpArgs false
section
variable {P:Program} {w:World} {F:Nat→Prop} {L:LMap} {b l:List Row}
theorem ZCa {x y z:AV} {vs:List Value} (h:GA w F L [x,y,z] vs):∃u v t,vs=[u,v,t]∧RepA w F L x u∧RepA w F L y v∧RepA w F L z t:=by
 obtain⟨h1,h2⟩:=h
 match vs,h1 with
 |[u,v,t],_=>exact⟨u,v,t,rfl,h2 0 _ _ rfl rfl,h2 1 _ _ rfl rfl,h2 2 _ _ rfl rfl⟩
theorem getI {α:Type} {els:List α} {x:α} {i k:Nat} {row:α} (hi:i≤els.length) (h:(els.take i++[x]++els.drop i)[k]? = some row) :
  (k<i∧els[k]? = some row)∨(k=i∧row=x)∨(i<k∧els[k-1]? = some row):=by
 have hl:(els.take i).length=i:=by rw[bg];omega
 by_cases h1:k<i
 ·rw[bc,aw oM,de,if_pos h1]at h
  exact .inl ⟨h1,h⟩
 ·by_cases h2:k=i
  ·subst h2
   rw[aw (by rw[ap];simp;omega),aq oM,hl,dy]at h
   simp at h
   exact .inr (.inl ⟨rfl,h.symm⟩)
  ·rw[aq (by rw[ap];simp;omega),ap,hl,dp]at h
   refine .inr (.inr ⟨by omega,?_⟩)
   rw[←h];congr 1;simp;omega
theorem getD1 {α:Type} {els:List α} {i k:Nat} {row:α} (hi:i<els.length) (h:(els.take i++els.drop (i+1))[k]? = some row) :
  (k<i∧els[k]? = some row)∨(i≤k∧els[k+1]? = some row):=by
 have hl:(els.take i).length=i:=by rw[bg];omega
 by_cases h1:k<i
 ·rw[aw oM,de,if_pos h1]at h
  exact .inl ⟨h1,h⟩
 ·rw[aq oM,hl,dp]at h
  refine .inr ⟨by omega,?_⟩
  rw[←h];congr 1;omega
theorem iO (s:Sim F L (b++l) w) {id ver sz i n blk:Nat} {els:List (List AV)} {x:List AV} (DW:0<sz) (hid:(b++l)[id]? = some (.live ver sz els)) (hn:els.length=n) (hi:i≤n) {O X:Array Value} (hO:O.size=n*sz) (hX:X.size=sz) (hOr:wN w F L sz els O) (hXr:wN w F L sz [x] X)
  (ON:(∃o c,L id ver=some (.pl blk o sz c))∨w.heap.size≤blk) {e:Ending} {w':World} (h:InsPost w blk sz n (O.extract 0 (i*sz)++X++O.extract (i*sz) (n*sz)) e w') :
  ∃v y b' l' F' L',e=.returned v∧RepA w' F' L' y v∧Sim F' L' (b'++l') w'∧Step (b++l).length F L (b++l) w F' L' (b'++l') w'∧b'.length=b.length∧(y=.sl id (ver+1) 0 (n+1)∧b'=iE b id (.live (ver+1) sz (els.take i++[x]++els.drop i))∧l'=GE b l id (.live (ver+1) sz (els.take i++[x]++els.drop i))):=by
 obtain⟨⟨blk',o,cap,cur,T,rfl,h2,h3,h4,h5,h6,h7,h8⟩,h9,h10,h11,h12⟩:=h
 have ZCv:id<(b++l).length:=(am.1 hid).1
 have hA:(O.extract 0 (i*sz)).size=i*sz:=by
  have:=cm sz hi
  rw[eq,hO];omega
 have zE:=cm sz hi
 have IB:(els.take i++[x]++els.drop i).length=n+1:=by simp;omega
 have GG:w.heap.size≤blk'∨∃v z els0 o0 z0 cap0,(b++l)[id]? = some (.live v z els0)∧L id v=some (.pl blk' o0 z0 cap0):=by
  rcases h7 with rfl|h
  ·rcases ON with ⟨o1,c1,hL⟩|h0
   ·exact .inr ⟨_,_,_,_,_,_,hid,hL⟩
   ·exact .inl h0
  ·exact .inl h
 obtain⟨L',r1,r2,r3,r4⟩:=s.putRow (h':=(b++l).set id (.live (ver+1) sz (els.take i++[x]++els.drop i))) (w':=w')
  id (ver+1) sz blk' o cap (els.take i++[x]++els.drop i) h9 h10 h11 h12 h8 GG
  (ay ZCv) (fun j hj=>bl (Ne.symm hj)) (fun r hr=>by rw[hid]at hr;cases hr;exact⟨iu _,_,_,_,rfl⟩) (.inl (GN s hid))
  (by rw[IB];exact h3) h4 cur T h2 h5
  (fun k row hk=>by
   rcases getI oM hk with ⟨_,h⟩|⟨_,rfl⟩|⟨_,h⟩
   ·exact hOr.1 _ _ h
   ·exact hXr.1 0 _ rfl
   ·exact hOr.1 _ _ h)
  (fun k row j cc hk hj=>by
   rcases getI oM hk with ⟨hki,h⟩|⟨rfl,rfl⟩|⟨hki,h⟩
   ·obtain⟨q1,u,q2,q3⟩:=hOr.2 _ _ j cc h hj
    have wG:j<sz:=by rw[←hOr.1 _ _ h];exact (am.1 hj).1
    have:=KH (sz:=sz) (j:=j) (n:=1) hki oM
    refine⟨q1,u,?_,q3⟩
    rw[cw]
    refine h6 _ _ ?_
    rw[ck (by rw[cf];omega),ck oM,eu,if_pos oM,cn]
    exact q2
   ·obtain⟨q1,u,q2,q3⟩:=hXr.2 0 _ j cc rfl hj
    have wG:j<sz:=by rw[←hXr.1 0 _ rfl];exact (am.1 hj).1
    refine⟨q1,u,?_,q3⟩
    rw[cw]
    refine h6 _ _ ?_
    rw[ck (by rw[cf];omega),ei oM,hA,show k*sz+j-k*sz=j by omega]
    simpa using q2
   ·obtain⟨q1,u,q2,q3⟩:=hOr.2 _ _ j cc h hj
    have wG:j<sz:=by rw[←hOr.1 _ _ h];exact (am.1 hj).1
    have hkn:k-1<n:=by rw[←hn];exact (am.1 h).1
    have e1:k*sz=(k-1)*sz+sz:=by rw[←jq];congr 1;omega
    have e2:=cm sz (show i≤k-1 by omega)
    have:=KH (sz:=sz) (j:=j) (n:=1) hkn oM
    refine⟨q1,u,?_,q3⟩
    rw[cw]
    refine h6 _ _ ?_
    rw[ei (by rw[cf];omega),cf,hA,hX,eu,if_pos oM,show i*sz+(k*sz+j-(i*sz+sz))=(k-1)*sz+j by omega]
    exact q2)
 refine⟨_,_,_,_,F,L',rfl,?_,by rw[KE];exact r1,by rw[KE];exact r2,yF _ _ _,rfl,rfl,rfl⟩
 have:=RepA.sl (w:=w') (F:=F) id (ver+1) 0 (n+1) _ _ _ _ r3 oM h4
 simpa using this
theorem J4 (s:Sim F L (b++l) w) {id ver sz i n blk o c:Nat} {els:List (List AV)} (DW:0<sz) (hid:(b++l)[id]? = some (.live ver sz els)) (hn:els.length=n) (hi:i<n) {O:Array Value} (hO:O.size=n*sz) (hOr:wN w F L sz els O)
  (hL:L id ver=some (.pl blk o sz c)) (hnc:n≤c) (hc:c≤maxLen) {e:Ending} {w':World} (h:DelPost w blk o c (n-1) sz (O.extract 0 (i*sz)++O.extract ((i+1)*sz) (n*sz)) e w') :
  ∃v y b' l' F' L',e=.returned v∧RepA w' F' L' y v∧Sim F' L' (b'++l') w'∧Step (b++l).length F L (b++l) w F' L' (b'++l') w'∧b'.length=b.length∧(y=.sl id (ver+1) 0 (n-1)∧b'=iE b id (.live (ver+1) sz (els.take i++els.drop (i+1)))∧l'=GE b l id (.live (ver+1) sz (els.take i++els.drop (i+1)))):=by
 obtain⟨⟨cur,T,rfl,h2,h5,h6⟩,h8,h9,h10,h11,h12⟩:=h
 have ZCv:id<(b++l).length:=(am.1 hid).1
 have zE:=cm sz (show i≤n by omega)
 have hin1:=cm sz (show i+1≤n by omega)
 have hA:(O.extract 0 (i*sz)).size=i*sz:=by rw[eq,hO];omega
 have IB:(els.take i++els.drop (i+1)).length=n-1:=by simp;omega
 obtain⟨L',r1,r2,r3,r4⟩:=s.putRow (h':=(b++l).set id (.live (ver+1) sz (els.take i++els.drop (i+1)))) (w':=w')
  id (ver+1) sz blk o c (els.take i++els.drop (i+1)) h9 h10 h11 oM (fun k _ hk=>h8 k hk) (.inr ⟨_,_,_,_,_,_,hid,hL⟩)
  (ay ZCv) (fun j hj=>bl (Ne.symm hj)) (fun r hr=>by rw[hid]at hr;cases hr;exact⟨iu _,_,_,_,rfl⟩) (.inl (GN s hid))
  (by rw[IB];omega) hc cur T h2 h5
  (fun k row hk=>by
   rcases getD1 oM hk with ⟨_,h⟩|⟨_,h⟩
   ·exact hOr.1 _ _ h
   ·exact hOr.1 _ _ h)
  (fun k row j cc hk hj=>by
   rcases getD1 oM hk with ⟨hki,h⟩|⟨hki,h⟩
   ·obtain⟨q1,u,q2,q3⟩:=hOr.2 _ _ j cc h hj
    have wG:j<sz:=by rw[←hOr.1 _ _ h];exact (am.1 hj).1
    have:=KH (sz:=sz) (j:=j) (n:=1) hki oM
    refine⟨q1,u,?_,q3⟩
    rw[cw]
    refine h6 _ _ ?_
    rw[ck oM,eu,if_pos oM,cn]
    exact q2
   ·obtain⟨q1,u,q2,q3⟩:=hOr.2 _ _ j cc h hj
    have wG:j<sz:=by rw[←hOr.1 _ _ h];exact (am.1 hj).1
    have hkn:k+1<n:=by rw[←hn];exact (am.1 h).1
    have e1:(k+1)*sz=k*sz+sz:=jq k sz
    have e3:(i+1)*sz=i*sz+sz:=jq i sz
    have e2:=cm sz hki
    have:=KH (sz:=sz) (j:=j) (n:=1) hkn oM
    refine⟨q1,u,?_,q3⟩
    rw[cw]
    refine h6 _ _ ?_
    rw[ei oM,hA,eu,if_pos oM,show (i+1)*sz+(k*sz+j-i*sz)=(k+1)*sz+j by omega]
    exact q2)
 refine⟨_,_,_,_,F,L',rfl,?_,by rw[KE];exact r1,by rw[KE];exact r2,yF _ _ _,rfl,rfl,rfl⟩
 have:=RepA.sl (w:=w') (F:=F) id (ver+1) 0 (n-1) _ _ _ _ r3 oM hc
 simpa using this
end

theorem ZEJ (id ver i idv verv:Nat) (els:List (List AV)) (x:List AV) (b l:List Row) (hid:(b++l)[id]? = some (.live ver 1 els)) (hv:(b++l)[idv]? = some (.live verv 1 [x])) (qG:idv≠id) (hn:els.length≤1000000) (hi:i≤els.length) :
  QA Tryz.prog 182 [.sl id ver 0 els.length,.v (.int .i64 i),.sl idv verv 0 1] b l (fun r b' l'=>r=.sl id (ver+1) 0 (els.length+1)∧b'=iE b id (.live (ver+1) 1 (els.take i++[x]++els.drop i))∧l'=GE b l id (.live (ver+1) 1 (els.take i++[x]++els.drop i))):=by
 refine⟨⟨_,Tryz.func182,by kernel_rfl,by kernel_rfl⟩,fun F L w us s hr=>?_⟩
 obtain⟨u,v,t,hus,h1,h2,h3⟩:=ZCa hr
 obtain rfl:us=#[u,v,t]:=by cases us;simp_all
 cases h2.vI
 obtain⟨lc,k1,k2⟩:=s.row _ _ _ _ hid
 obtain⟨lv,m1,m2⟩:=s.row _ _ _ _ hv
 obtain⟨n,j0⟩:∃n,els.length=n:=⟨_,rfl⟩
 rw[j0]at h1 hn hi
 rw[j0]
 cases h3 with
 |sl _ _ _ _ bv ov zv capv hLv g1 g2 =>
   rw[m1]at hLv;cases hLv
   obtain⟨rfl,m3,m4,curv,Tv,m5,m6,m7,m8⟩:=m2
   obtain⟨X,x1,x2,x3,x4⟩:=TJ (w:=w) (F:=F) (L:=L) (xs:=[x]) (blk:=bv) (p:=ov) kE m7 (fun k row j c hk hj=>by
    obtain⟨c1,u,hu,hr⟩:=m8 k row j c hk hj
    exact⟨c1,u,by simp only[World.cell?,m5];exact hu,hr⟩)
   have x1':X.size=1:=by simpa using x1
   have x4':∀j u,X[j]? = some u→curv[ov+j]? = some u:=fun j u hj=>by
    have:=x4 j u hj
    simp only[World.cell?,m5]at this
    exact this
   simp only[gy,eo,fg]
   have empty:∀(base:Option Addr) (blk:Nat),n=0→((∃o c,L id ver=some (.pl blk o 1 c))∨w.heap.size≤blk)→Calls Tryz.prog 182 #[.slice base 0 0,.int .i64 (i:Nat),.slice (some ⟨bv,ov,none⟩) 1 capv] w fun en w'=>∃v y b' l' F' L',en=.returned v∧RepA w' F' L' y v∧Sim F' L' (b'++l') w'∧Step (b++l).length F L (b++l) w F' L' (b'++l') w'∧b'.length=b.length∧(y=.sl id (ver+1) 0 (n+1)∧b'=iE b id (.live (ver+1) 1 (els.take i++[x]++els.drop i))∧l'=GE b l id (.live (ver+1) 1 (els.take i++[x]++els.drop i))):=by
    intro base blk h0 ON
    subst h0
    obtain rfl:i=0:=by omega
    have xN:els=[]:=cq j0
    have hOr:wN w F L 1 els #[]:=by rw[xN];exact⟨fun k row h=>by simp at h,fun k row j c h=>by simp at h⟩
    refine (tQ blk 0 0 bv ov capv base X w oM oM x1' x4 x3 #[] kS (by cases base<;>simp[Builtin.firstCells,loadCells,loadCellsFrom])).mono (fun e w' h=>?_)
    have hN:(#[]:Array Value).extract 0 (0*1)++X++(#[]:Array Value).extract (0*1) (0*1)=#[]++X:=by simp
    exact iO s kE hid j0 (ai _) (O:=#[]) kS x1' hOr x2 ON (hN▸h)
   cases h1 with
   |sl _ _ _ _ b1 o1 z1 cap1 hL f1 f2 =>
     rw[k1]at hL;cases hL
     obtain⟨rfl,k3,k4,cur,T,k5,k6,k7,k8⟩:=k2
     obtain⟨O,p1,p2,p3,p4⟩:=TJ (w:=w) (F:=F) (L:=L) (xs:=els) (blk:=b1) (p:=o1) kE k7 (fun k row j c hk hj=>by
      obtain⟨c1,u,hu,hr⟩:=k8 k row j c hk hj
      exact⟨c1,u,by simp only[World.cell?,k5];exact hu,hr⟩)
     rw[j0]at p1
     have p4':∀j u,O[j]? = some u→cur[o1+j]? = some u:=fun j u hj=>by
      have:=p4 j u hj
      simp only[World.cell?,k5]at this
      exact this
     simp only[gy,eo,fg]
     have ZGT:bv≠b1:=fun e=>qG (s.apart _ _ _ _ _ _ _ _ b1 _ _ hv hid m1 k1 e rfl)
     have fin:∀e w',InsPost w b1 1 n (O.extract 0 (i*1)++X++O.extract (i*1) (n*1)) e w'→_:=fun e w' h=>iO s kE hid j0 hi p1 x1' p2 x2 (.inl ⟨_,_,k1⟩) h
     have hN:O.extract 0 (n*1)++X++O.extract (n*1) (n*1)=O++X:=by rw[←p1];simp
     by_cases zE:i=n
     ·subst zE
      by_cases zC:i+1≤cap1
      ·exact (xZ b1 o1 i cap1 bv ov capv cur X T w k5 zC k4 k6 x1' x4 x3 O p1 p4').mono (fun e w' h=>fin e w' (hN.symm▸h))
      ·refine (tQ b1 i cap1 bv ov capv (some ⟨b1,o1,none⟩) X w oM hn x1' x4 x3 O p1 ?_).mono (fun e w' h=>fin e w' (hN.symm▸h))
       have:=eA (P:=Tryz.prog) (w:=w) (sz:=1) (n:=i) (len:=i) (cap:=cap1) p4 oM (w2:=w.drew) rfl
       rwa [←p1,ep]at this
     ·by_cases zC:n+1≤cap1
      ·exact (S6 b1 o1 n cap1 i bv ov capv cur X curv T Tv w k5 m5 ZGT oM zC k4 k6 hn x1' x4' x3 O p1 p4' p3).mono fin
      ·exact (P6 b1 o1 n cap1 i bv ov capv cur X T w k5 oM oM oM hn x1' x4 x3 O p1 p4 p3).mono fin
   |slz _ _ _ b1 o1 z1 cap1 x1 hL gR =>
     rw[k1]at hL;cases hL
     obtain⟨rfl,_⟩:=k2
     exact empty (some ⟨b1,x1,none⟩) b1 rfl (.inl ⟨o1,cap1,k1⟩)
   |sln _ _ ad hL =>
     exact empty ad w.heap.size rfl (.inr (ai _))
theorem ZE1 (id ver i:Nat) (els:List (List AV)) (b l:List Row) (hid:(b++l)[id]? = some (.live ver 1 els)) (hi:i<els.length) :
  QA Tryz.prog 184 [.sl id ver 0 els.length,.v (.int .i64 i),.v (.int .i64 ((i:Int)+1))] b l (fun r b' l'=>r=.sl id (ver+1) 0 (els.length-1)∧b'=iE b id (.live (ver+1) 1 (els.take i++els.drop (i+1)))∧l'=GE b l id (.live (ver+1) 1 (els.take i++els.drop (i+1)))):=by
 refine⟨⟨_,Tryz.func184,by kernel_rfl,by kernel_rfl⟩,fun F L w us s hr=>?_⟩
 obtain⟨u,v,t,hus,h1,h2,h3⟩:=ZCa hr
 obtain rfl:us=#[u,v,t]:=by cases us;simp_all
 cases h2.vI
 cases h3.vI
 obtain⟨lc,k1,k2⟩:=s.row _ _ _ _ hid
 obtain⟨n,j0⟩:∃n,els.length=n:=⟨_,rfl⟩
 rw[j0]at h1 hi
 rw[j0]
 cases h1 with
 |sl _ _ _ _ b1 o1 z1 cap1 hL f1 f2 =>
   rw[k1]at hL;cases hL
   obtain⟨rfl,k3,k4,cur,T,k5,k6,k7,k8⟩:=k2
   obtain⟨O,p1,p2,p3,p4⟩:=TJ (w:=w) (F:=F) (L:=L) (xs:=els) (blk:=b1) (p:=o1) kE k7 (fun k row j c hk hj=>by
    obtain⟨c1,u,hu,hr⟩:=k8 k row j c hk hj
    exact⟨c1,u,by simp only[World.cell?,k5];exact hu,hr⟩)
   rw[j0]at p1
   have p4':∀j u,O[j]? = some u→cur[o1+j]? = some u:=fun j u hj=>by
    have:=p4 j u hj
    simp only[World.cell?,k5]at this
    exact this
   simp only[gy,eo,fg]
   exact (ZCC b1 o1 n cap1 i cur T w k5 hi oM k4 k6 O p1 p4' p3).mono (fun e w' h=>J4 s kE hid j0 hi p1 p2 k1 oM k4 h)
 |slz=>omega
 |sln=>omega

theorem ZEI (id ver i idv verv:Nat) (els:List (List AV)) (x:List AV) (b l:List Row) (hid:(b++l)[id]? = some (.live ver 4 els)) (hv:(b++l)[idv]? = some (.live verv 4 [x])) (qG:idv≠id) (hn:els.length≤1000000) (hi:i≤els.length) :
  QA Tryz.prog 181 [.sl id ver 0 els.length,.v (.int .i64 i),.sl idv verv 0 1] b l (fun r b' l'=>r=.sl id (ver+1) 0 (els.length+1)∧b'=iE b id (.live (ver+1) 4 (els.take i++[x]++els.drop i))∧l'=GE b l id (.live (ver+1) 4 (els.take i++[x]++els.drop i))):=by
 refine⟨⟨_,Tryz.func181,by kernel_rfl,by kernel_rfl⟩,fun F L w us s hr=>?_⟩
 obtain⟨u,v,t,hus,h1,h2,h3⟩:=ZCa hr
 obtain rfl:us=#[u,v,t]:=by cases us;simp_all
 cases h2.vI
 obtain⟨lc,k1,k2⟩:=s.row _ _ _ _ hid
 obtain⟨lv,m1,m2⟩:=s.row _ _ _ _ hv
 obtain⟨n,j0⟩:∃n,els.length=n:=⟨_,rfl⟩
 rw[j0]at h1 hn hi
 rw[j0]
 cases h3 with
 |sl _ _ _ _ bv ov zv capv hLv g1 g2 =>
   rw[m1]at hLv;cases hLv
   obtain⟨rfl,m3,m4,curv,Tv,m5,m6,m7,m8⟩:=m2
   obtain⟨X,x1,x2,x3,x4⟩:=TJ (w:=w) (F:=F) (L:=L) (xs:=[x]) (blk:=bv) (p:=ov) kE m7 (fun k row j c hk hj=>by
    obtain⟨c1,u,hu,hr⟩:=m8 k row j c hk hj
    exact⟨c1,u,by simp only[World.cell?,m5];exact hu,hr⟩)
   have x1':X.size=4:=by simpa using x1
   have x4':∀j u,X[j]? = some u→curv[ov+j]? = some u:=fun j u hj=>by
    have:=x4 j u hj
    simp only[World.cell?,m5]at this
    exact this
   simp only[gy,eo,fg]
   have empty:∀(base:Option Addr) (blk:Nat),n=0→((∃o c,L id ver=some (.pl blk o 4 c))∨w.heap.size≤blk)→Calls Tryz.prog 181 #[.slice base 0 0,.int .i64 (i:Nat),.slice (some ⟨bv,ov,none⟩) 1 capv] w fun en w'=>∃v y b' l' F' L',en=.returned v∧RepA w' F' L' y v∧Sim F' L' (b'++l') w'∧Step (b++l).length F L (b++l) w F' L' (b'++l') w'∧b'.length=b.length∧(y=.sl id (ver+1) 0 (n+1)∧b'=iE b id (.live (ver+1) 4 (els.take i++[x]++els.drop i))∧l'=GE b l id (.live (ver+1) 4 (els.take i++[x]++els.drop i))):=by
    intro base blk h0 ON
    subst h0
    obtain rfl:i=0:=by omega
    have xN:els=[]:=cq j0
    have hOr:wN w F L 4 els #[]:=by rw[xN];exact⟨fun k row h=>by simp at h,fun k row j c h=>by simp at h⟩
    refine (sQ blk 0 0 bv ov capv base X w oM oM x1' x4 x3 #[] kS (by cases base<;>simp[Builtin.firstCells,loadCells,loadCellsFrom])).mono (fun e w' h=>?_)
    have hN:(#[]:Array Value).extract 0 (0*4)++X++(#[]:Array Value).extract (0*4) (0*4)=#[]++X:=by simp
    exact iO s kE hid j0 (ai _) (O:=#[]) kS x1' hOr x2 ON (hN▸h)
   cases h1 with
   |sl _ _ _ _ b1 o1 z1 cap1 hL f1 f2 =>
     rw[k1]at hL;cases hL
     obtain⟨rfl,k3,k4,cur,T,k5,k6,k7,k8⟩:=k2
     obtain⟨O,p1,p2,p3,p4⟩:=TJ (w:=w) (F:=F) (L:=L) (xs:=els) (blk:=b1) (p:=o1) kE k7 (fun k row j c hk hj=>by
      obtain⟨c1,u,hu,hr⟩:=k8 k row j c hk hj
      exact⟨c1,u,by simp only[World.cell?,k5];exact hu,hr⟩)
     rw[j0]at p1
     have p4':∀j u,O[j]? = some u→cur[o1+j]? = some u:=fun j u hj=>by
      have:=p4 j u hj
      simp only[World.cell?,k5]at this
      exact this
     simp only[gy,eo,fg]
     have ZGT:bv≠b1:=fun e=>qG (s.apart _ _ _ _ _ _ _ _ b1 _ _ hv hid m1 k1 e rfl)
     have fin:∀e w',InsPost w b1 4 n (O.extract 0 (i*4)++X++O.extract (i*4) (n*4)) e w'→_:=fun e w' h=>iO s kE hid j0 hi p1 x1' p2 x2 (.inl ⟨_,_,k1⟩) h
     have hN:O.extract 0 (n*4)++X++O.extract (n*4) (n*4)=O++X:=by rw[←p1];simp
     by_cases zE:i=n
     ·subst zE
      by_cases zC:i+1≤cap1
      ·exact (gZ b1 o1 i cap1 bv ov capv cur X T w k5 zC k4 k6 x1' x4 x3 O p1 p4').mono (fun e w' h=>fin e w' (hN.symm▸h))
      ·refine (sQ b1 i cap1 bv ov capv (some ⟨b1,o1,none⟩) X w oM hn x1' x4 x3 O p1 ?_).mono (fun e w' h=>fin e w' (hN.symm▸h))
       have:=eA (P:=Tryz.prog) (w:=w) (sz:=4) (n:=i) (len:=i) (cap:=cap1) p4 oM (w2:=w.drew) rfl
       rwa [←p1,ep]at this
     ·by_cases zC:n+1≤cap1
      ·exact (R6 b1 o1 n cap1 i bv ov capv cur X curv T Tv w k5 m5 ZGT oM zC k4 k6 hn x1' x4' x3 O p1 p4' p3).mono fin
      ·exact (N6 b1 o1 n cap1 i bv ov capv cur X T w k5 oM oM oM hn x1' x4 x3 O p1 p4 p3).mono fin
   |slz _ _ _ b1 o1 z1 cap1 x1 hL gR =>
     rw[k1]at hL;cases hL
     obtain⟨rfl,_⟩:=k2
     exact empty (some ⟨b1,x1,none⟩) b1 rfl (.inl ⟨o1,cap1,k1⟩)
   |sln _ _ ad hL =>
     exact empty ad w.heap.size rfl (.inr (ai _))
theorem ZE0 (id ver i:Nat) (els:List (List AV)) (b l:List Row) (hid:(b++l)[id]? = some (.live ver 4 els)) (hi:i<els.length) :
  QA Tryz.prog 183 [.sl id ver 0 els.length,.v (.int .i64 i),.v (.int .i64 ((i:Int)+1))] b l (fun r b' l'=>r=.sl id (ver+1) 0 (els.length-1)∧b'=iE b id (.live (ver+1) 4 (els.take i++els.drop (i+1)))∧l'=GE b l id (.live (ver+1) 4 (els.take i++els.drop (i+1)))):=by
 refine⟨⟨_,Tryz.func183,by kernel_rfl,by kernel_rfl⟩,fun F L w us s hr=>?_⟩
 obtain⟨u,v,t,hus,h1,h2,h3⟩:=ZCa hr
 obtain rfl:us=#[u,v,t]:=by cases us;simp_all
 cases h2.vI
 cases h3.vI
 obtain⟨lc,k1,k2⟩:=s.row _ _ _ _ hid
 obtain⟨n,j0⟩:∃n,els.length=n:=⟨_,rfl⟩
 rw[j0]at h1 hi
 rw[j0]
 cases h1 with
 |sl _ _ _ _ b1 o1 z1 cap1 hL f1 f2 =>
   rw[k1]at hL;cases hL
   obtain⟨rfl,k3,k4,cur,T,k5,k6,k7,k8⟩:=k2
   obtain⟨O,p1,p2,p3,p4⟩:=TJ (w:=w) (F:=F) (L:=L) (xs:=els) (blk:=b1) (p:=o1) kE k7 (fun k row j c hk hj=>by
    obtain⟨c1,u,hu,hr⟩:=k8 k row j c hk hj
    exact⟨c1,u,by simp only[World.cell?,k5];exact hu,hr⟩)
   rw[j0]at p1
   have p4':∀j u,O[j]? = some u→cur[o1+j]? = some u:=fun j u hj=>by
    have:=p4 j u hj
    simp only[World.cell?,k5]at this
    exact this
   simp only[gy,eo,fg]
   exact (ZCB b1 o1 n cap1 i cur T w k5 hi oM k4 k6 O p1 p4' p3).mono (fun e w' h=>J4 s kE hid j0 hi p1 p2 k1 oM k4 h)
 |slz=>omega
 |sln=>omega
end Go.Proofs.YtmaokjojbjdpoaaGreatDoor
