/- Texts of one proof, laid together: WG, B8, WU, NA, VR, DR, NB, DQ, NC, ND, N1, N2, N3, N4, N5. No condition. -/
import Derived.Test.YtadnnjchehjbiaaGreatDoorT32
import Derived.Test.YtadnnjchehjbiaaGreatDoorT33
import Derived.KernelRfl
import Derived.Test.YtadnnjchehjbiaaGreatDoorProg
import Derived.Shelf.Spec.SlicesInsert
import Derived.Lib.AppendZerosOnto
set_option linter.unusedSimpArgs false
set_option maxHeartbeats 4000000
set_option maxRecDepth 100000
namespace Go.Proofs.YtadnnjchehjbiaaGreatDoor
set_option maxHeartbeats 16000000
set_option maxRecDepth 100000
open Go.RowKit
set_option linter.unusedVariables false

section
variable {w:World} {F:Nat→Prop}
def NZ (w:World) (F:Nat→Prop) (b o:Nat) (row:List IV):Prop:=∀(j:Nat) (a:IV),row[j]? = some a→∃v,w.cell? ⟨b,o+j,none⟩=some v∧RepI w F a v

theorem wI {sz:Nat} {rows:List (List IV)} {v:Value} (h:RepI w F (.isl sz rows) v) :
  ∃A c,v=.slice A rows.length c∧rows.length≤c∧c≤maxLen∧(0<rows.length→∃b off,A=some ⟨b,off,none⟩∧F b∧∀(k:Nat) (row:List IV),rows[k]? = some row→row.length=sz∧NZ w F b (off+k*sz) row):=by
 cases h with
 |isl0 _ a c hm=>exact⟨a,c,rfl,an _,hm,fun h=>by simp at h⟩
 |isl _ b off _ c val hF hc hm NN RG rV =>
   exact⟨_,c,rfl,hc,hm,fun _=>⟨b,off,rfl,hF,fun k row hk=>⟨NN k row hk,fun j a hj=>⟨_,RG k row j a hk hj,rV k row j a hk hj⟩⟩⟩⟩

theorem PS {sz:Nat} {rows:List (List IV)} {A:Option Addr} {c:Nat} (h1:rows.length≤c) (h2:c≤maxLen)
  (h:0<rows.length→∃b off,A=some ⟨b,off,none⟩∧F b∧∀(k:Nat) (row:List IV),rows[k]? = some row→row.length=sz∧NZ w F b (off+k*sz) row):RepI w F (.isl sz rows) (.slice A rows.length c):=by
 by_cases h0:0<rows.length
 ·obtain⟨b,off,rfl,hF,hr⟩:=h h0
  have cell:∀(k:Nat) (row:List IV) (j:Nat) (a:IV),rows[k]? = some row→row[j]? = some a→w.cell? ⟨b,off+k*sz+j,none⟩=some ((w.cell? ⟨b,off+k*sz+j,none⟩).getD undef):=by
   intro k row j a hk hj
   obtain⟨v,hv,_⟩:=(hr k row hk).2 j a hj
   rw[hv];rfl
  exact .isl rows b off sz c (fun k j=>(w.cell? ⟨b,off+k*sz+j,none⟩).getD undef) hF h1 h2 (fun k row hk=>(hr k row hk).1) cell (fun k row j a hk hj=>by
   obtain⟨v,hv,hr⟩:=(hr k row hk).2 j a hj
   rw[hv];exact hr)
 ·have:rows=[]:=cu oM
  subst this
  exact .isl0 _ _ _ h2

section
variable {α:Type} {sz:Nat} {R:World→Nat→Nat→α→Prop} {enc:α→List IV} {xs:List α} {v:Value}
theorem CI (hR:∀b o x,x∈xs→NZ w F b o (enc x)→R w b o x) (h:RepI w F (.isl sz (xs.map enc)) v):SlR sz R w v xs:=by
 obtain⟨A,c,h1,h2,h3,h4⟩:=wI h
 rw[aa]at h1 h2 h4
 refine⟨A,c,h1,h2,h3,fun h0=>?_⟩
 obtain⟨b,off,h5,h6,h7⟩:=h4 h0
 refine⟨b,off,h5,fun j x hx=>hR _ _ _ (cd hx) (h7 j (enc x) (by rw[ai,hx];rfl)).2⟩

end

def YN (a:Asg):List IV:=[.int .i64 a.v,.int .i64 a.val]
def eEv (e:Ev):List IV:=[.int .i64 e.kind,.int .i64 e.peer,.int .i64 e.msg,.int .i64 e.time,.isl 2 (e.asg.map YN)]
def eVr (v:Vr):List IV:=[.str v.name,.int .i64 v.init]
def ePr (p:Pr):List IV:=[.str p.name,.isl 2 (p.vars.map eVr),.isl 5 (p.evs.map eEv)]
def eT (t:Tr):IV:=.isl 3 (t.map ePr)
def eI (n:Int):List IV:=[.int .i64 n]
def Nm (t:Tr):Prop:=∀p∈t,p.name.size≤maxLen∧∀v∈p.vars,v.name.size≤maxLen

theorem RM {k:IntKind} {n:Int} {b o j:Nat} {row:List IV} (h:NZ w F b o row) (hj:row[j]? = some (.int k n)):w.cell? ⟨b,o+j,none⟩=some (.int k n):=by
 obtain⟨v,hv,hr⟩:=h j _ hj
 cases hr;exact hv
theorem ZDF {s:ByteArray} {b o j:Nat} {row:List IV} (h:NZ w F b o row) (hj:row[j]? = some (.str s)):w.cell? ⟨b,o+j,none⟩=some (.string s):=by
 obtain⟨v,hv,hr⟩:=h j _ hj
 cases hr;exact hv
theorem ZHy {b o:Nat} {x:Asg} (h:NZ w F b o (YN x)):RAsg w b o x:=⟨RM (j:=0) h rfl,RM (j:=1) h rfl⟩
theorem vr_in {b o:Nat} {x:Vr} (hx:x.name.size≤maxLen) (h:NZ w F b o (eVr x)):RVr w b o x:=⟨ZDF (j:=0) h rfl,RM (j:=1) h rfl,hx⟩
theorem ev_in {b o:Nat} {x:Ev} (h:NZ w F b o (eEv x)):REv w b o x:=by
 obtain⟨v,h1,h2⟩:=h 4 _ rfl
 exact⟨RM (j:=0) h rfl,RM (j:=1) h rfl,RM (j:=2) h rfl,RM (j:=3) h rfl,v,h1,CI (fun _ _ _ _ h=>ZHy h) h2⟩
theorem pr_in {b o:Nat} {x:Pr} (hx:x.name.size≤maxLen∧∀v∈x.vars,v.name.size≤maxLen) (h:NZ w F b o (ePr x)):RPr w b o x:=by
 obtain⟨v,h1,h2⟩:=h 1 _ rfl
 obtain⟨u,h3,h4⟩:=h 2 _ rfl
 exact⟨⟨ZDF (j:=0) h rfl,hx.1⟩,⟨v,h1,CI (fun _ _ y hy h=>vr_in (hx.2 y hy) h) h2⟩,u,h3,CI (fun _ _ _ _ h=>ev_in h) h4⟩
theorem ZGK {t:Tr} {v:Value} (hn:Nm t) (h:RepI w F (eT t) v):SlR 3 RPr w v t:=CI (fun _ _ x hx h=>pr_in (hn x hx) h) h

section
end
end

section
variable {P:Program}
theorem ZA.of_ext {f:Nat} {args:List AV} {b l:List Row} {Q:AV→List Row→List Row→Prop} (hf:∃fn,P.funcs[f]? = some fn∧(fn.name == "runtime.NumGoroutine")=false∧fn.body.isSome=true)
  (h:∀F L w (vs:Array Value),bA w F L args vs.toList→Calls P f vs w fun en w'=>Ext w w'∧∃v x,en=.returned v∧RepA w' F L x v∧Q x b l):ZA P f args b l Q:=by
 refine⟨hf,fun F L w vs s hr=>Calls.mono (h F L w vs hr) ?_⟩
 rintro en w' ⟨he,v,x,h1,h2,h3⟩
 have tJ:∀k,k<w.heap.size→w'.heap[k]? = w.heap[k]?:=he.block
 refine⟨v,x,b,l,F,L,h1,h2,⟨fun i v z els hi=>?_,s.born,s.apart,fun k hk=>⟨fu (s.imm k hk).1 he.size,(s.imm k hk).2⟩,s.glob.mono (fun _ h=>h) (fun k hk=>tJ k (s.imm k hk).1)⟩,
  ⟨fun _ h=>h,fun _ _ _ _ h=>h,he.os,he.tape,he.output,he.size,fun k hk _=>tJ k hk,fun _ _ h=>h,fun _ _ _ h=>h,fun _ _ h=>.inl h⟩,rfl,h3⟩
 obtain⟨q,g1,g2⟩:=s.row i v z els hi
 exact⟨q,g1,g2.mono (fun k hk=>tJ k (g2.lt hk)) (fun _ _ hx=>hx.mono (fun _ h=>h) (fun k hk=>tJ k (s.imm k hk).1) (fun _ _ _ h=>h))⟩

theorem ZA.calls {f:Nat} {args:List AV} {Q:AV→List Row→List Row→Prop} (h:ZA P f args [] [] Q) {w:World} {vs:Array Value} (hr:bA w (fun b=>b<w.heap.size) (fun _ _=>none) args vs.toList) (hG:ZAo w (fun b=>b<w.heap.size):=by intro _ _ h;cases h) :
  Calls P f vs w fun en w'=>∃v x b' l' F' L',en=.returned v∧RepA w' F' L' x v∧Ext w w'∧Q x b' l':=by
 have no:∀k,¬gD (fun _ _=>none) [] k:=by rintro k ⟨i,v,s,e1,q,h1,h2,h3⟩;cases h2
 refine Calls.mono (h.2 _ _ w vs ⟨fun i v z els hi=>by simp at hi,fun i v q hq=>(by cases hq),fun i i' v v' z z' e1 e2 bb q1 q2 h1=>by simp at h1,fun b hb=>⟨hb,no b⟩,hG⟩ hr) ?_
 rintro en w' ⟨v,x,b',l',F',L',h1,h2,h3,h4,h5,h6⟩
 exact⟨v,x,b',l',F',L',h1,h2,⟨h4.os,h4.tape,h4.output,h4.size,fun k hk=>h4.block k hk (no k)⟩,h6⟩
end
set_option linter.unusedSimpArgs false
def ZP (F0:Nat→Prop) (m0:Nat) (J:World→Prop) (e:List AV) (l:List Row) (a:Act) (w:World):Prop:=
 ∃F L,Sim F L ([]++l) w∧PC w F L e a∧(∀k,F0 k→F k)∧(∀k,F k→F0 k∨m0≤k)∧(∀k,gD L ([]++l) k→m0≤k)∧m0≤w.heap.size∧J w
def Low0 (m0:Nat) (A B:World):Prop:=Below m0 A B
structure KeepF (F0:Nat→Prop) (m0:Nat) (A B:World):Prop where
 size:A.heap.size≤B.heap.size
 os:B.os=A.os
 tape:B.tape=A.tape
 output:B.output=A.output
 same:∀k,k<A.heap.size→F0 k∨m0≤k→B.heap[k]? = A.heap[k]?
theorem KeepF.trans {F0:Nat→Prop} {m0:Nat} {A B C:World} (h:KeepF F0 m0 A B) (k:KeepF F0 m0 B C):KeepF F0 m0 A C:=
 ⟨ee h.size k.size,k.os.trans h.os,k.tape.trans h.tape,k.output.trans h.output,fun i hi hf=>(k.same i (fu hi h.size) hf).trans (h.same i hi hf)⟩
theorem KeepF.refl (F0:Nat→Prop) (m0:Nat) (A:World):KeepF F0 m0 A A:=⟨ah _,rfl,rfl,rfl,fun _ _ _=>rfl⟩
theorem QJ {P:Program} {nn:Nat} {F0:Nat→Prop} {m0:Nat} {J:World→Prop} (hJ:∀A B,J A→Low0 m0 A B→J B) {code:Code} {ac:ACode} (hc:DG P code=some ac) {e:List AV} {B l:List Row} (hB:B=[]) {Q:AExit→List AV→List Row→List Row→Prop}
  (hr:run (ZA P) KA ac e B l Q) {a:Act} {w:World} (h:ZP F0 m0 J e l a w) {K:Exit→Act→World→Prop}
  (hk:∀ex a' w' ax e' l',ExR ex ax→Q ax e' B l'→ZP F0 m0 J e' l' a' w'→K ex a' w'):code.wpIn Fence.wide nn P K a w:=by
 subst hB
 obtain⟨F,L,s,he,h1,h2,h3,h4,h5⟩:=h
 refine wpIn_mono (M0 (fun _ _ _ _ _ h=>h) AC code ac hc e [] l Q hr F L w a s he) ?_
 rintro ex a' w' ⟨ax,e',b',l',F',L',hex,s',he',st,hb,hq⟩
 obtain rfl:b'=[]:=cu hb
 have VG:∀k,gD L' ([]++l') k→m0≤k:=fun k hk=>by
  rcases cq k w.heap.size with bB|TK
  ·exact h3 k (st.own k bB hk)
  ·omega
 refine hk ex a' w' ax e' l' hex hq ⟨F',L',s',he',fun k hk=>st.imm k (h1 k hk),fun k hk=>?_,VG,ee h4 st.size,hJ w w' h5 ⟨st.os,st.tape,st.output,st.size,fun k hk=>st.block k oM (fun ho=>by have:=h3 k ho;omega)⟩⟩
 rcases cq k w.heap.size with bB|TK
 ·rcases st.fnew k bB hk with hf|ho
  ·exact h2 k hf
  ·exact .inr (h3 k ho)
 ·exact .inr oM
theorem ZP.keep {F0:Nat→Prop} {m0:Nat} {J J':World→Prop} {e:List AV} {l:List Row} {a:Act} {w w':World} (h:ZP F0 m0 J e l a w) (k:KeepF F0 m0 w w') (hg:gtab=none) (hJ:J' w'):ZP F0 m0 J' e l a w':=by
 obtain⟨F,L,s,he,h1,h2,h3,h4,h5⟩:=h
 have hF:∀b,F b→w'.heap[b]? = w.heap[b]?:=fun b hb=>k.same b (s.imm b hb).1 (h2 b hb)
 refine⟨F,L,⟨fun i ver z els hi=>?_,s.born,s.apart,fun b hb=>⟨fu (s.imm b hb).1 k.size,(s.imm b hb).2⟩,fun g t ht=>by rw[hg]at ht;cases ht⟩,he.mono (fun _ h=>h) hF (fun _ _ _ h=>h),h1,h2,h3,ee h4 k.size,hJ⟩
 obtain⟨q,g1,g2⟩:=s.row i ver z els hi
 exact⟨q,g1,g2.mono (fun b hb=>k.same b (g2.lt hb) (.inr (h3 b ⟨i,ver,z,els,q,hi,g1,hb⟩))) (fun _ _ h=>h.mono (fun _ h=>h) hF (fun _ _ _ h=>h))⟩
theorem A9 {w:World} {F:Nat→Prop} {L:LMap} {args:List AV} {us:Array Value} (h:bA w F L args us.toList) (N:Nat) (hN:args.length≤N) :
  PC w F L (kOf N (fun i=>args.getD i (.tup []))) {tmps:=us++Array.replicate (N-us.size) undef,defers:=[]}:=by
 have hl:us.size=args.length:=by have:=h.1;simpa using this.symm
 refine⟨rfl,by rw[TI];simp only[cf,Array.size_replicate];omega,fun i x v hx hv=>?_⟩
 rw[rF]at hx
 split at hx
 case isFalse=>cases hx
 rename_i hi
 cases hx
 by_cases h2:i<us.size
 ·rw[cn h2]at hv
  rw[aq,ae oM]
  exact h.2 i _ v (ae oM) (by simpa using hv)
 ·rw[ez oM,Array.getElem?_replicate]at hv
  rw[aq,ce oM]
  split at hv
  ·cases hv;exact RepA.undef _ _ _
  ·cases hv
end Go.Proofs.YtadnnjchehjbiaaGreatDoor
namespace Go.Proofs.YtadnnjchehjbiaaGreatDoor
set_option linter.unusedVariables false
set_option linter.unusedSimpArgs false

inductive IVle:IV→IV→Prop where
 |refl (x:IV):IVle x x
 |zsl (sz:Nat):IVle .zsl (.isl sz [])
 |isl (sz:Nat) (rows rows':List (List IV)) (hl:rows.length=rows'.length) (uT:∀(k:Nat) (row row':List IV),rows[k]? = some row→rows'[k]? = some row'→row.length=row'.length)
   (hr:∀(k:Nat) (row row':List IV) (j:Nat) (a a':IV),rows[k]? = some row→rows'[k]? = some row'→row[j]? = some a→row'[j]? = some a'→IVle a a'):IVle (.isl sz rows) (.isl sz rows')

theorem RepI.le {w:World} {F:Nat→Prop} {x y:IV} (h:IVle x y):∀{v:Value},RepI w F x v→RepI w F y v:=by
 induction h with
 |refl x=>exact fun h=>h
 |zsl sz=>intro v h;cases h;exact .isl0 _ _ _ (an _)
 |isl sz rows rows' hl uT hr ih =>
   intro v h
   obtain⟨A,c,rfl,h2,h3,h4⟩:=wI h
   rw[hl]at h2 h4⊢
   refine PS h2 h3 (fun h0=>?_)
   obtain⟨b,off,h5,h6,h7⟩:=h4 h0
   refine⟨b,off,h5,h6,fun k row' hk'=>?_⟩
   have hk:k<rows.length:=by rw[hl];exact (aj.1 hk').1
   obtain⟨g1,g2⟩:=h7 k rows[k] (ae hk)
   have hll:=uT k rows[k] row' (ae hk) hk'
   refine⟨by rw[←hll];exact g1,fun j a' hj'=>?_⟩
   have hj:j<rows[k].length:=by rw[hll];exact (aj.1 hj').1
   obtain⟨v,hv,rV⟩:=g2 j rows[k][j] (ae hj)
   exact⟨v,hv,ih k _ _ j _ _ (ae hk) hk' (ae hj) hj' rV⟩

def NM:List (List IV)→List (List IV)→Prop
 |[],[]=>True
 |r::rs,q::qs=>(r.length=q.length∧∀(j:Nat) (a a':IV),r[j]? = some a→q[j]? = some a'→IVle a a')∧NM rs qs
 |_,_=>False
theorem NM.len:∀{r q:List (List IV)},NM r q→r.length=q.length
 |[],[],_=>rfl
 |_::_,_::_,h=>by simp[NM.len h.2]
 |[],_::_,h=>h.elim
 |_::_,[],h=>h.elim
theorem NM.get:∀{r q:List (List IV)},NM r q→∀(k:Nat) (row row':List IV),r[k]? = some row→q[k]? = some row'→row.length=row'.length∧∀(j:Nat) (a a':IV),row[j]? = some a→row'[j]? = some a'→IVle a a'
 |[],[],_,k,row,row',h,_=>by simp at h
 |r::rs,q::qs,h,k,row,row',h1,h2=>by
   cases k with
   |zero=>simp at h1 h2;subst h1;subst h2;exact h.1
   |succ k=>simp at h1 h2;exact NM.get h.2 k row row' h1 h2
 |[],_::_,h,_,_,_,_,_=>h.elim
 |_::_,[],h,_,_,_,_,_=>h.elim
theorem IVle.rows {sz:Nat} {r q:List (List IV)} (h:NM r q):IVle (.isl sz r) (.isl sz q):=
 .isl sz r q h.len (fun k row row' h1 h2=>(h.get k row row' h1 h2).1) (fun k row row' j a a' h1 h2=>(h.get k row row' h1 h2).2 j a a')

inductive AVle:AV→AV→Prop where
 |refl (x:AV):AVle x x
 |v (x y:IV) (h:IVle x y):AVle (.v x) (.v y)
 |agg (cs ds:List AV) (hl:cs.length=ds.length) (h:∀(i:Nat) (a c:AV),cs[i]? = some a→ds[i]? = some c→AVle a c):AVle (.agg cs) (.agg ds)
theorem RepA.le {w:World} {F:Nat→Prop} {L:LMap} {x y:AV} (h:AVle x y):∀{v:Value},RepA w F L x v→RepA w F L y v:=by
 induction h with
 |refl x=>exact fun h=>h
 |v x y h=>intro v hx;exact .v _ _ (hx.vI.le h)
 |agg cs ds hl h ih =>
   intro v hx
   obtain⟨vs,rfl,hr⟩:=hx.aggL
   refine bA.agg ⟨by rw[←hl];exact hr.1,fun i c u hc hu=>?_⟩
   have hi:i<cs.length:=by rw[hl];exact (aj.1 hc).1
   exact ih i cs[i] c (ae hi) hc (hr.2 i _ u (ae hi) hu)
theorem ZA.le {P:Program} {f:Nat} {args args':List AV} {b l:List Row} {Q:AV→List Row→List Row→Prop} (h:ZA P f args b l Q) (hl:args'.length=args.length) (nL:∀(i:Nat) (a c:AV),args'[i]? = some a→args[i]? = some c→AVle a c):ZA P f args' b l Q:=
 ⟨h.1,fun F L w vs s hr=>h.2 F L w vs s ⟨by rw[←hl];exact hr.1,fun i c v hc hv=>by
  have hi:i<args'.length:=by rw[hl];exact (aj.1 hc).1
  exact RepA.le (nL i args'[i] c (ae hi) hc) (hr.2 i _ v (ae hi) hv)⟩⟩
theorem KA.le {e e':List AV} {b l:List Row} (hl:e.length=e'.length) (h:∀(i:Nat) (x y:AV),e[i]? = some x→e'[i]? = some y→AVle x y):KA e b l e' b l:=by
 intro F L w a s VT
 refine⟨F,L,s,⟨VT.1,by rw[←hl];exact VT.2.1,fun i y v hy hv=>?_⟩,Step.refl _ _ _ _ _,rfl⟩
 have hi:i<e.length:=by rw[hl];exact (aj.1 hy).1
 exact RepA.le (h i e[i] y (ae hi) hy) (VT.2.2 i _ v (ae hi) hv)
theorem PU {rs:List ARes} {Q:AV→List Row→List Row→Prop} {B l e:_} {ex:AExit} (hex:ex=.normal∨ex=.ret) (sz:Nat) (hx:resVs e B l rs=some [.v .zsl]) (hR:YB B.length B) {b0 l0:List Row} (hB:B=b0++l0) (hq:Q (.v (.isl sz [])) b0 l0) :
  KH rs Q b0.length ex e B l:=by
 refine IP hex hx (y:=.v (.isl sz [])) (l':=[]) ((KA.trim (l1:=[]) rfl (by intro x hx;simp[one]at hx;subst hx;exact .v _) (by simpa using hR) wE).trans (KA.le rfl ?_)) hB (by simpa using hq)
 intro i x y h1 h2
 cases i with
 |zero=>simp[one]at h1 h2;subst h1;subst h2;exact .v _ _ (.zsl sz)
 |succ i=>simp at h2

def JJ (sz:Nat):AFunc:=⟨2,19,[.tmp 4],
 (.seq (.region [⟨(some 4),.mv (.c (.v (.int .i64 0))),none⟩])
 (.seq (.seq (.region [⟨(some 6),.mv (.t 0),none⟩,⟨(some 7),.len (.t 6),none⟩,⟨(some 8),.mv (.c (.v (.int .i64 0))),none⟩])
 (.block 0 (.loop (.seq (.region [⟨(some 9),.bin .lss (.t 8) (.t 7),none⟩])
 (.seq (.cond (.t 9) .skip
 (.exit 0))
 (.seq (.block 1 (.seq (.region [⟨(some 10),.mv (.t 8),none⟩,⟨(some 5),.mv (.t 10),none⟩])
 (.seq (.region [⟨(some 11),.mv (.t 1),none⟩,⟨(some 12),.mv (.t 0),none⟩,⟨(some 13),.mv (.t 5),none⟩,⟨(some 14),.iaddr sz (.t 12) (.t 13),none⟩,⟨(some 15),.load (some sz) (.t 14),none⟩,⟨(some 16),.call (.t 11) [(.t 15)],none⟩])
 (.cond (.t 16) (.seq (.region [⟨(some 17),.mv (.t 5),none⟩,⟨(some 4),.mv (.t 17),none⟩])
 .ret)
 .skip))))
 (.region [⟨(some 18),.bin .add (.t 8) (.c (.v (.int .i64 1))),none⟩,⟨(some 8),.mv (.t 18),none⟩])))))))
 (.seq (.region [⟨(some 4),.mv (.c (.v (.int .i64 (-1)))),none⟩])
 .ret)))⟩
def FG (g:Nat):AFunc:=⟨2,9,[.tmp 4],
 (.seq (.region [⟨(some 4),.mv (.c (.v (.bool false))),none⟩])
 (.seq (.region [⟨(some 5),.mv (.t 0),none⟩,⟨(some 6),.mv (.t 1),none⟩,⟨(some 7),.call (.c (.fn g [])) [(.t 5),(.t 6)],none⟩,⟨(some 8),.bin .geq (.t 7) (.c (.v (.int .i64 0))),none⟩,⟨(some 4),.mv (.t 8),none⟩])
 .ret))⟩
def VX (p:Nat→Bool) (n:Nat):Int:=match (List.range n).find? p with
 |some i=>i
 |none=>-1
theorem c6 {p:Nat→Bool} {n i:Nat} (h:i<n) (h0:∀j,j<i→p j=false) (hi:p i=true):VX p n=i:=by
 have hf:(List.range n).find? p=some i:=by
  rw[show n=i+(1+(n-i-1)) by omega,kx,hU]
  have:(List.range i).find? p=none:=by
   rw[dg];intro q hq;simp[h0 q (bc.1 hq)]
  rw[this,ir 1,mc]
  simp[hi]
 unfold VX;rw[hf]
theorem rU {p:Nat→Bool} {n:Nat} (h0:∀j,j<n→p j=false):VX p n=-1:=by
 have:(List.range n).find? p=none:=by
  rw[dg];intro q hq;simp[h0 q (bc.1 hq)]
 unfold VX;rw[this]
section
attribute [local go_sem ↓] xB tA iB rB EB SA uB CB dB UC gA RA wB yA DA yB dA FA lB nA xA sB TA MA lA LA fA vB aA AB tB OB ZC LC VC FC EC
attribute [local go_sem] pA uA QD eA iA MC YC XC QC eD bD jC vC rD fD nG pG JC nB pB mB MB UA KB jA UB qA mA aop sD pC rC SB sC DB tC YG YE LD amm tD IB QB SD dC ED comma nC XE QG QE ZE SF DD GD eC RF eqC eqF DE cellsOf JB yD KD ID dF rd rdI wD mk iC AV.cell List.all_cons List.all_nil Bool.and_true Bool.true_and Bool.and_self List.length_cons List.length_nil List.length_append Nat.reduceAdd Nat.reduceSub Nat.reduceMul Nat.zero_add Nat.add_zero List.replicate_succ List.replicate_zero List.cons_append List.nil_append List.append_assoc List.append_nil List.getElem?_cons_zero List.getElem?_cons_succ List.getElem?_nil List.set_cons_zero List.set_cons_succ List.drop_zero List.drop_succ_cons List.take_zero List.take_succ_cons List.take_nil List.drop_nil List.map_cons List.map_nil Option.map_some if_true if_false Bool.false_eq_true and_self true_and and_true Nat.reduceLeDiff Nat.reduceLT Nat.le_refl Nat.reduceEqDiff ite_true ite_false beq_self_eq_true beq_true beq_false Bool.not_true Bool.not_false Bool.true_beq Bool.false_beq mD gC TB GC RC qC zC FB KC DC IC nD zB IH nH DH HH EE ME CE LE geI gtI AE decide_true decide_false room List.getElem?_map List.length_map List.length_take Int.toNat_natCast Nat.min_def Nat.min_self List.getElem_cons_zero List.getElem_cons_succ
theorem G2 {P:Program} {f sz:Nat} (hf:CA P f=some (JJ sz)) (rows:List (List IV)) (k:Nat) (caps:List AV) (p:Nat→Bool) (jD:∀row∈rows,row.length=sz) (hn:rows.length≤1000000) (b l:List Row)
  (hp:∀(i:Nat) (row:List IV),rows[i]? = some row→ZA P k ([.agg (row.map .v)]++caps) (b++l) [] (fun r b' l'=>r=.v (.bool (p i))∧b'=b++l∧l'=[])) :
  ZA P f [.v (.isl sz rows),.fn k caps] b l (fun r b' l'=>r=.v (.int .i64 (VX p rows.length))∧b'=b∧l'=l):=by
 refine YJ hf rfl ?_
 intro B hB hR hA
 simp only[JJ,go_sem]
 refine II (ι:=Nat) (fun i=>[.v (.isl sz rows),.fn k caps,.any,.any,.any,.any,.any,.v (.int .i64 rows.length),.v (.int .i64 i),.any,.any,.any,.any,.any,.any,.any,.any,.any,.any])
  (fun _=>B) (fun _=>[]) (fun i=>i≤rows.length∧∀j,j<i→p j=false) (fun i=>rows.length-i) 0 ⟨an _,fun j hj=>by omega⟩ (KA.forget (by simp[Fgt])) ?_
 rintro i ⟨hi,h0⟩
 by_cases bB:i<rows.length
 ·have hl:=jD rows[i] (ap bB)
  have ht:List.take sz rows[i]=rows[i]:=cv oM
  simp (disch:=omega) only[ht,go_sem]
  refine AC _ _ _ _ _ _ (hB▸hp i rows[i] (ae bB)) ?_
  rintro r b' l' ⟨rfl,rfl,rfl⟩
  simp (disch:=omega) only[go_sem]
  refine S9 (fun h=>?_) (fun h=>?_)
  ·simp (disch:=omega) only[go_sem]
   exact wC (.inr rfl) rfl (.v _) hR hB ⟨by rw[c6 bB h0 h];rfl,rfl,rfl⟩
  ·simp (disch:=omega) only[go_sem]
   refine⟨i+1,⟨bB,fun j hj=>?_⟩,by simp only;omega,KA.forget (by simp[Fgt])⟩
   rcases cq j i with PI|PI
   ·exact h0 j PI
   ·have:j=i:=by omega
    rw[this];exact h
 ·simp (disch:=omega) only[go_sem]
  obtain rfl:i=rows.length:=by omega
  exact wC (.inr rfl) rfl (.v _) hR hB ⟨by rw[rU h0];rfl,rfl,rfl⟩

theorem ZEZ {p:Nat→Bool} {n:Nat}:decide (VX p n≥0)=(List.range n).any p:=by
 unfold VX
 cases h:(List.range n).find? p with
 |none =>
   have:=dg.1 h
   have hn:(List.range n).any p=false:=by rw[gz];exact this
   rw[hn];rfl
 |some i =>
   have h1:=gg h
   have h2:=ge h
   have hn:(List.range n).any p=true:=ga.2 ⟨i,h2,h1⟩
   rw[hn];simp

theorem zE {P:Program} {f g sz:Nat} (hf:CA P f=some (FG g)) (hg:CA P g=some (JJ sz)) (rows:List (List IV)) (k:Nat) (caps:List AV) (p:Nat→Bool) (jD:∀row∈rows,row.length=sz) (hn:rows.length≤1000000) (b l:List Row)
  (hp:∀(i:Nat) (row:List IV),rows[i]? = some row→ZA P k ([.agg (row.map .v)]++caps) (b++l) [] (fun r b' l'=>r=.v (.bool (p i))∧b'=b++l∧l'=[])) :
  ZA P f [.v (.isl sz rows),.fn k caps] b l (fun r b' l'=>r=.v (.bool ((List.range rows.length).any p))∧b'=b∧l'=l):=by
 refine YJ hf rfl ?_
 intro B hB hR hA
 simp only[FG,go_sem]
 refine AC _ _ _ _ _ _ (G2 hg rows k caps p jD hn B [] (by rw[cj,hB];exact hp)) ?_
 rintro r b' l' ⟨rfl,rfl,rfl⟩
 simp only[go_sem]
 exact wC (.inr rfl) rfl (.v _) hR hB ⟨by rw[←ZEZ];rfl,rfl,rfl⟩
end
structure Ms where
 fr:Int
 to:Int
 nu:Int
 body:List Int
structure Nw where
 now:Int
 fifo:Bool
 l:List Ms
 tm:List Int
 fates:List (Int×Int)
theorem Nw.eq_iff {a c:Nw}:a=c↔a.now=c.now∧a.fifo=c.fifo∧a.l=c.l∧a.tm=c.tm∧a.fates=c.fates:=by cases a;cases c;simp
def eMs (m:Ms):List IV:=[.int .i64 m.fr,.int .i64 m.to,.int .i64 m.nu,.isl 1 (m.body.map eI)]
def eFt (f:Int×Int):List IV:=[.int .i64 f.1,.int .i64 f.2]
def eNw (n:Nw):List IV:=[.int .i64 n.now,.bool n.fifo,.isl 4 (n.l.map eMs),.isl 1 (n.tm.map eI),.isl 2 (n.fates.map eFt)]
def dfMs:Ms:=⟨0,0,0,[]⟩
def nw0:Nw:=⟨0,false,[],[],[]⟩
def ptB (p:Int):Bool:=decide (0≤p∧p≤7)
def vlB (n:Int):Bool:=decide (-1073741824≤n∧n≤1073741824)
def msB (m:Ms):Bool:=ptB m.fr&&(ptB m.to&&(decide (m.fr≠m.to)&&(decide (0≤m.nu∧m.nu≤199)&&(decide (m.body.length≤20)&&m.body.all vlB))))
def ftB (f:Int×Int):Bool:=decide ((0≤f.1∧f.1≤3)∧0≤f.2∧f.2≤1000000)
def K6 (l:List (Int×Int)):Bool:=l.all ftB
def mtB (n:Nw) (i:Nat):Bool:=msB (n.l.getD i dfMs)&&decide (0≤n.tm.getD i 0∧n.tm.getD i 0≤1099512627776∧(0<i→n.tm.getD (i-1) 0≤n.tm.getD i 0))
def nwB (n:Nw):Bool:=decide (0≤n.now∧n.now≤1099511627776)&&(decide (n.l.length=n.tm.length)&&(decide (n.l.length≤1000)&&(decide (n.fates.length≤1000)&&(K6 n.fates&&(List.range n.l.length).all (mtB n)))))
structure NwS (n:Nw):Prop where
 l:n.l.length≤1000000
 tm:n.tm.length≤1000000
 fates:n.fates.length≤1000000
 body:∀m∈n.l,m.body.length≤1000000
structure NwV (n:Nw):Prop where
 now:0≤n.now∧n.now≤1099511627776
 len:n.l.length=n.tm.length
 l:n.l.length≤1000
 fl:n.fates.length≤1000
 fates:∀f∈n.fates,ftB f=true
 ms:∀m∈n.l,msB m=true
 tm:∀t∈n.tm,0≤t∧t≤1099512627776
 mono:∀i,i+1<n.tm.length→n.tm.getD i 0≤n.tm.getD (i+1) 0
theorem QZ {m:Ms} (h:msB m=true):m.body.length≤20:=by
 unfold msB at h
 simp only[ar,bj]at h
 exact h.2.2.2.2.1
theorem TF {n:Nw}:nwB n=true↔NwV n:=by
 unfold nwB K6
 simp only[ar,bj,bo]
 constructor
 ·rintro⟨h1,h2,h3,h4,h5,h6⟩
  have key:∀i,i<n.l.length→_:=fun i hi=>h6 i (bc.2 hi)
  unfold mtB at key
  simp only[ar,bj]at key
  refine⟨h1,h2,h3,h4,h5,fun m hm=>?_,fun t ht=>?_,fun i hi=>?_⟩
  ·obtain⟨i,hi,rfl⟩:=dh hm
   have:=(key i hi).1
   rwa [YA hi]at this
  ·obtain⟨i,hi,rfl⟩:=dh ht
   have:=(key i oM).2
   rw[YA hi]at this
   exact⟨this.1,this.2.1⟩
  ·exact (key (i+1) oM).2.2.2 oM
 ·intro h
  refine⟨h.now,h.len,h.l,h.fl,h.fates,fun i hi=>?_⟩
  have hi:=bc.1 hi
  unfold mtB
  simp only[ar,bj]
  have hl:=h.len
  rw[YA hi]
  refine⟨h.ms _ (ap _),?_⟩
  have h1:=h.tm n.tm[i] (ap oM)
  rw[←YA (d:=0)]at h1
  refine⟨h1.1,h1.2,fun h0=>?_⟩
  have:=h.mono (i-1) oM
  rwa [show i-1+1=i by omega]at this
theorem NwV.s {n:Nw} (h:NwV n):NwS n:=⟨by have:=h.l;omega,by have:=h.l;have:=h.len;omega,by have:=h.fl;omega,fun m hm=>by have:=QZ (h.ms m hm);omega⟩
theorem NwV.sorted {n:Nw} (h:NwV n):∀i j,i≤j→j<n.tm.length→n.tm.getD i 0≤n.tm.getD j 0:=by
 intro i j hij
 induction j with
 |zero=>intro _;rw[show i=0 by omega];exact ii _
 |succ j ih =>
   intro hj
   by_cases he:i=j+1
   ·rw[he];exact ii _
   ·exact Int.le_trans (ih oM oM) (h.mono j hj)
def leN (l:List Int) (a:Int):Nat:=(l.takeWhile fun t=>decide (t≤a)).length
theorem vT {l:List Int} {a:Int}:leN l a≤l.length:=by
 unfold leN
 exact (List.takeWhile_sublist _).length_le
theorem ZHi {l:List Int} {a:Int} {i:Nat} (hi:i≤l.length) (h1:∀j,j<i→l.getD j 0≤a) (h2:i<l.length→a<l.getD i 0):leN l a=i:=by
 induction l generalizing i with
 |nil=>simp at hi;subst hi;rfl
 |cons x l ih =>
   unfold leN
   rw[List.takeWhile_cons]
   cases i with
   |zero =>
     have:=h2 kS
     simp at this
     rw[if_neg kT]
     rfl
   |succ i =>
     have h0:=h1 0 oM
     simp at h0
     rw[if_pos (by simpa using h0),ck]
     congr 1
     exact ih (by simpa using hi) (fun j hj=>by have:=h1 (j+1) oM;simpa using this) (fun h=>by have:=h2 kT;simpa using this)
def MG (n:Nw) (m:Ms):Nat→Int
 |0=>n.now+(n.fates.headD (1,0)).2
 |i+1=>if n.fifo=true∧(n.l.getD i dfMs).fr=m.fr∧(n.l.getD i dfMs).to=m.to then max (MG n m i) (n.tm.getD i 0) else MG n m i
def xF (n:Nw) (m:Ms):Int:=MG n m n.l.length
def iN (n:Nw):Int:=(n.fates.headD (1,0)).1
def uN (n:Nw) (m:Ms) (a:Int) (c:Nat):Nw:=⟨n.now,n.fifo,n.l.take (leN n.tm a)++List.replicate c m++n.l.drop (leN n.tm a),n.tm.take (leN n.tm a)++List.replicate c a++n.tm.drop (leN n.tm a),n.fates.drop 1⟩
def sdE (n:Nw) (m:Ms):Int:=if xF n m>1099512627776 then 9 else if (n.l.length:Int)+iN n>1000 then 5 else 0
def sdR (n:Nw) (m:Ms):Nw:=if sdE n m=0 then uN n m (xF n m) (iN n).toNat else nw0
theorem GP {n:Nw} {m:Ms}:∀i,MG n m 0≤MG n m i
 |0=>ii _
 |i+1=>by
   have:=GP (n:=n) (m:=m) i
   simp only[MG]at this⊢
   split<;>omega
theorem wR {n:Nw} (h:NwV n):(0≤(n.fates.headD (1,0)).1∧(n.fates.headD (1,0)).1≤3)∧0≤(n.fates.headD (1,0)).2∧(n.fates.headD (1,0)).2≤1000000:=by
 cases hf:n.fates with
 |nil=>simp
 |cons f r =>
   have:=h.fates f (by rw[hf];simp)
   unfold ftB at this
   simpa using this
theorem EO {n:Nw} (h:NwV n) {m:Ms}:∀i,i≤n.l.length→n.now≤MG n m i∧MG n m i≤1099512627776
 |0,_=>by have:=wR h;have:=h.now;simp only[MG];omega
 |i+1,hi=>by
   have ih:=EO h (m:=m) i oM
   have hl:=h.len
   have:=h.tm (n.tm.getD i 0) (by rw[YA oM];exact ap _)
   simp only[MG]
   split<;>omega
def arB (n:Nw) (to:Int) (i:Nat):Bool:=decide ((n.l.getD i dfMs).to=to)&&decide (n.tm.getD i 0≤n.now)
def fiR (n:Nw) (to:Int):Int:=VX (arB n to) n.l.length
def woN (n:Nw) (k:Nat):Nw:={n with l:=n.l.take k++n.l.drop (k+1),tm:=n.tm.take k++n.tm.drop (k+1)}
def wtN (n:Nw) (to:Int):Nat→Nat
 |0=>0
 |i+1=>if arB n to i=true then wtN n to i+1 else wtN n to i
theorem ZCx {n:Nw} {to:Int}:∀i,wtN n to i≤i
 |0=>ah _
 |i+1=>by have:=ZCx (n:=n) (to:=to) i;simp only[wtN];split<;>omega
attribute [local go_sem ↓] xB tA iB rB EB SA uB CB dB UC gA RA wB yA DA yB dA FA lB nA xA sB TA MA lA LA fA vB aA AB tB OB ZC LC VC FC EC OC VD
attribute [local go_sem] pA uA QD eA iA MC YC XC QC nG pG JC nB pB mB MB UA KB jA UB qA mA aop sD pC rC SB sC DB tC YG YE LD amm tD IB QB SD dC ED comma nC XE QG QE ZE SF DD GD eC RF eqC eqF DE cellsOf JB yD KD ID dF rd rdI wD mk iC AV.cell List.all_cons List.all_nil Bool.and_true Bool.true_and Bool.and_self List.length_cons List.length_nil List.length_append Nat.reduceAdd Nat.reduceSub Nat.reduceMul Nat.zero_add Nat.add_zero List.cons_append List.nil_append List.append_assoc List.append_nil List.getElem?_cons_zero List.getElem?_cons_succ List.getElem?_nil List.set_cons_zero List.set_cons_succ List.drop_zero List.drop_succ_cons List.take_zero List.take_succ_cons List.take_nil List.drop_nil List.map_cons List.map_nil Option.map_some if_true if_false Bool.false_eq_true and_self true_and and_true Nat.reduceLeDiff Nat.reduceLT Nat.le_refl Nat.reduceEqDiff ite_true ite_false beq_self_eq_true beq_true beq_false Bool.not_true Bool.not_false Bool.true_beq Bool.false_beq mD gC TB GC RC qC zC FB KC DC IC nD zB IH nH DH HH EE ME CE LE geI gtI AE decide_true decide_false room List.getElem?_map List.length_map List.length_take Int.toNat_natCast Nat.min_def Nat.min_self qE JE uE mC vE bG EA List.getElem_cons_zero List.getElem_cons_succ
def a_Ind1:AFunc:=({c:=_}:CF Tryz.prog 98).c
theorem ZAZ:CA Tryz.prog 98=some a_Ind1:=by kernel_rfl
def Q7:List (Nat×Nat):=[(4,5),(8,18)]
def a_Con1:AFunc:=({c:=_}:CF Tryz.prog 67).c
theorem ZA1:CA Tryz.prog 67=some a_Con1:=by kernel_rfl
def a_Eq1:AFunc:=({c:=_}:CF Tryz.prog 30).c
theorem ZCr:CA Tryz.prog 30=some a_Eq1:=by kernel_rfl
def ZDP:List (Nat×Nat):=[(4,5),(13,25)]

def iv (v:List Int):AV:=.v (.isl 1 (v.map eI))

def RJ (p:Nat→Bool) (n:Nat):Int:=match (List.range n).find? p with
 |some i=>i
 |none=>-1
theorem AU {p:Nat→Bool} {n i:Nat} (h:i<n) (h0:∀j,j<i→p j=false) (hi:p i=true):RJ p n=i:=by
 have hf:(List.range n).find? p=some i:=by
  rw[show n=i+(1+(n-i-1)) by omega,kx,hU]
  have:(List.range i).find? p=none:=by
   rw[dg];intro q hq;simp[h0 q (bc.1 hq)]
  rw[this,ir 1,mc]
  simp[hi]
 unfold RJ;rw[hf]
theorem qQ {p:Nat→Bool} {n:Nat} (h0:∀j,j<n→p j=false):RJ p n=-1:=by
 have:(List.range n).find? p=none:=by
  rw[dg];intro q hq;simp[h0 q (bc.1 hq)]
 unfold RJ;rw[this]
theorem CU {p:Nat→Bool} {n:Nat}:decide (0≤RJ p n)=(List.range n).any p:=by
 unfold RJ
 cases h:(List.range n).find? p with
 |none =>
   have:=dg.1 h
   have hn:(List.range n).any p=false:=by rw[gz];exact this
   rw[hn];rfl
 |some i =>
   have h1:=gg h
   have h2:=ge h
   have hn:(List.range n).any p=true:=ga.2 ⟨i,h2,h1⟩
   rw[hn];simp

theorem NX (v:List Int) (k:Nat) (caps:List AV) (p:Nat→Bool) (hn:v.length≤1000000) (b l:List Row)
  (hp:∀(i:Nat) (h:i<v.length),ZA Tryz.prog k (.v (.int .i64 v[i])::caps) (b++l) [] (fun r b' l'=>r=.v (.bool (p i))∧b'=b++l∧l'=[])) :
  ZA Tryz.prog 98 [.v (.isl 1 (v.map eI)),.fn k caps] b l (fun r b' l'=>r=.v (.int .i64 (RJ p v.length))∧b'=b∧l'=l):=by
 refine XA ZAZ rfl kE ?_
 intro B g hB hR hE hA;simp only[EA]at hA
 simp (disch:=decide) only[a_Ind1,hA,aa,go_sem]
 refine ZB (ι:=Nat) Q7 (fun i=>[(8,.v (.int .i64 i))]) 0 (fun _=>[])
  (fun i=>i≤v.length∧∀j,j<i→p j=false) (fun i=>v.length-i) 0 ⟨an _,fun j hj=>by omega⟩ kM kA kF ?_
 rintro g1 aI bI aC i ⟨hi,h0⟩
 by_cases bB:i<v.length
 ·simp (disch:=first|decide|omega) only[hA,aC,eI,go_sem]
  refine AC _ _ _ _ _ _ (hB▸hp i bB) ?_
  rintro r b' l' ⟨rfl,rfl,rfl⟩
  cases hpi:p i
  ·simp (disch:=first|decide|omega) only[hA,aC,hpi,go_sem]
   refine⟨i+1,⟨bB,fun j hj=>?_⟩,by simp only;omega,?_⟩
   ·rcases cq j i with PI|PI
    ·exact h0 j PI
    ·have:j=i:=by omega
     rw[this];exact hpi
   exact KA.kround (p:=Q7) (k:=0) kQ kA rfl aI kS kV hR kL
  ·simp (disch:=first|decide|omega) only[hA,aC,hpi,go_sem]
   exact QA (xs:=[.v (.int .i64 i)]) ⟨by rw[AU bB h0 hpi];rfl,rfl,rfl⟩
 ·simp (disch:=first|decide|omega) only[hA,aC,go_sem]
  obtain rfl:i=v.length:=by omega
  exact QA (xs:=[.v (.int .i64 (-1))]) ⟨by rw[qQ h0];rfl,rfl,rfl⟩
theorem GL (v:List Int) (k:Nat) (caps:List AV) (p:Nat→Bool) (hn:v.length≤1000000) (b l:List Row)
  (hp:∀(i:Nat) (h:i<v.length),ZA Tryz.prog k (.v (.int .i64 v[i])::caps) (b++l) [] (fun r b' l'=>r=.v (.bool (p i))∧b'=b++l∧l'=[])) :
  ZA Tryz.prog 67 [.v (.isl 1 (v.map eI)),.fn k caps] b l (fun r b' l'=>r=.v (.bool ((List.range v.length).any p))∧b'=b∧l'=l):=by
 refine XA ZA1 rfl kE ?_
 intro B g hB hR hE hA;simp only[EA]at hA
 simp (disch:=decide) only[a_Con1,hA,go_sem]
 refine AC _ _ _ _ _ _ (NX v k caps p hn B [] (by rw[cj,hB];exact hp)) ?_
 rintro r b' l' ⟨rfl,rfl,rfl⟩
 simp (disch:=decide) only[hA,go_sem]
 exact QA (xs:=[.v (.bool (decide (0≤RJ p v.length)))]) ⟨by rw[CU];rfl,rfl,rfl⟩
section
variable {b l:List Row} {e:List AV}
theorem p9 {sz:Nat} (V:Nat) (F:Nat→Prop) (L:LMap) (w:World) (s:Sim F L (b++l) w):∃L':LMap,Sim F L' (b++(l++[.live V sz []])) w∧L' (b.length+l.length) V=some .nil∧(∀i v q,L i v=some q→L' i v=some q) ∧
  Step b.length F L (b++l) w F L' (b++(l++[.live V sz []])) w:=by
 have jD:(b++l).length=b.length+l.length:=by simp
 have Q0:∀V,L (b.length+l.length) V=none:=by
  intro V
  cases hq:L (b.length+l.length) V with
  |none=>rfl
  |some q=>exact absurd (s.lt hq) oM
 obtain⟨L',JT,IW,DT⟩:∃L':LMap,L' (b.length+l.length) V=some .nil∧(∀i v q,L i v=some q→L' i v=some q)∧∀i v,(i≠b.length+l.length∨v≠V)→L' i v=L i v:=by
  refine⟨fun i v=>if i=b.length+l.length∧v=V then some .nil else L i v,by simp,?_,?_⟩
  ·intro i v q hl
   by_cases hi:i=b.length+l.length∧v=V
   ·obtain⟨rfl,rfl⟩:=hi
    rw[Q0]at hl;cases hl
   ·simp[hi,hl]
  ·intro i v hi
   have:¬(i=b.length+l.length∧v=V):=fun ⟨a,b⟩=>hi.elim (fun h=>h a) (fun h=>h b)
   simp[this]
 have JG:∀j,j≠b.length+l.length→(b++(l++[Row.live V sz []]))[j]? = (b++l)[j]?:=by
  intro j hj
  rw[←ay]
  by_cases fG:j<(b++l).length
  ·rw[aw fG]
  ·rw[ce kT,ce oM]
 have pH:(b++(l++[Row.live V sz []]))[b.length+l.length]? = some (.live V sz []):=by
  rw[←ay,au oM];simp
 have own:∀k,gD L' (b++(l++[Row.live V sz []])) k→gD L (b++l) k:=by
  rintro k ⟨i,v,z,e1,q1,h1,h2,h3⟩
  by_cases hi:i=b.length+l.length
  ·subst hi
   rw[pH]at h1;cases h1
   rw[JT]at h2;cases h2
   exact h3.elim
  ·rw[JG i hi]at h1
   rw[DT i v (.inl hi)]at h2
   exact⟨i,v,z,e1,q1,h1,h2,h3⟩
 have mono:∀{x:AV} {v:Value},RepA w F L x v→RepA w F L' x v:=fun hx=>hx.mono (fun _ h=>h) (fun _ _=>rfl) IW
 refine⟨L',⟨?_,?_,?_,fun k hk=>⟨(s.imm k hk).1,fun ho=>(s.imm k hk).2 (own k ho)⟩,s.glob⟩,JT,IW,⟨fun _ h=>h,fun i v q _ hl=>IW i v q hl,rfl,rfl,rfl,ah _,fun _ _ _=>rfl,fun k _ ho=>own k ho,fun i hi v hv=>by rw[JG i oM];exact hv,fun _ _ h=>.inl h⟩⟩
 ·intro j v z e1 hj
  by_cases PI:j=b.length+l.length
  ·subst PI
   rw[pH]at hj
   cases hj
   exact⟨.nil,JT,rfl⟩
  ·rw[JG j PI]at hj
   obtain⟨q,sQ,uT⟩:=s.row j v z e1 hj
   exact⟨q,IW _ _ _ sQ,uT.mono (fun _ _=>rfl) (fun _ _=>mono)⟩
 ·intro i v q sQ
  by_cases hi:i=b.length+l.length
  ·subst hi
   refine⟨_,pH,?_⟩
   by_cases hv:v=V
   ·subst hv;exact ah _
   ·rw[DT _ v (.inr hv)]at sQ
    exact absurd (s.lt sQ) oM
  ·rw[DT i v (.inl hi)]at sQ
   obtain⟨r,h1,h2⟩:=s.born _ _ _ sQ
   exact⟨r,by rw[JG i hi];exact h1,h2⟩
 ·intro i i' v v' z z' e1 e2 bb q1 q2 h1 h2 h3 h4 h5 h6
  by_cases hi:i=b.length+l.length
  ·subst hi
   rw[pH]at h1;cases h1
   rw[JT]at h3;cases h3
   exact h5.elim
  ·by_cases hi':i'=b.length+l.length
   ·subst hi'
    rw[pH]at h2;cases h2
    rw[JT]at h4;cases h4
    exact h6.elim
   ·rw[JG i hi]at h1
    rw[JG i' hi']at h2
    rw[DT i v (.inl hi)]at h3
    rw[DT i' v' (.inl hi')]at h4
    exact s.apart i i' v v' z z' e1 e2 bb q1 q2 h1 h2 h3 h4 h5 h6
theorem KA.nilV {sz:Nat} (V:Nat):KA [.v .zsl] b l [.sl (b.length+l.length) V 0 0] b (l++[.live V sz []]):=by
 intro F L w a s VT
 obtain⟨L',s',JT,IW,st⟩:=p9 (sz:=sz) V F L w s
 refine⟨F,L',s',⟨VT.1,by simpa using VT.2.1,fun i x v hx hv=>?_⟩,st,rfl⟩
 cases i with
 |zero =>
   simp at hx;subst hx
   have:=VT.2.2 0 _ v rfl hv
   cases this.vI
   exact .sln _ _ _ JT
 |succ i=>simp at hx
inductive Rn (n m:Nat) (σ:Nat→Nat):AV→AV→Prop where
 |any:Rn n m σ .any .any
 |v (x:IV):Rn n m σ (.v x) (.v x)
 |sl (j ver off len:Nat) (h:j<m):Rn n m σ (.sl (n+σ j) ver off len) (.sl (n+j) ver off len)
 |ptr (j ver k i:Nat) (h:j<m):Rn n m σ (.ptr (n+σ j) ver k i) (.ptr (n+j) ver k i)
 |mp (j ver:Nat) (h:j<m):Rn n m σ (.mp (n+σ j) ver) (.mp (n+j) ver)
 |slB (id ver off len:Nat) (h:id<n):Rn n m σ (.sl id ver off len) (.sl id ver off len)
 |ptrB (id ver k i:Nat) (h:id<n):Rn n m σ (.ptr id ver k i) (.ptr id ver k i)
 |mpB (id ver:Nat) (h:id<n):Rn n m σ (.mp id ver) (.mp id ver)
 |agg (cs ds:List AV) (hl:cs.length=ds.length) (h:∀(i:Nat) (c d:AV),cs[i]? = some c→ds[i]? = some d→Rn n m σ c d):Rn n m σ (.agg cs) (.agg ds)
 |tup (cs ds:List AV) (hl:cs.length=ds.length) (h:∀(i:Nat) (c d:AV),cs[i]? = some c→ds[i]? = some d→Rn n m σ c d):Rn n m σ (.tup cs) (.tup ds)
 |fn (f:Nat) (cs ds:List AV) (hl:cs.length=ds.length) (h:∀(i:Nat) (c d:AV),cs[i]? = some c→ds[i]? = some d→Rn n m σ c d):Rn n m σ (.fn f cs) (.fn f ds)
def RnL (n m:Nat) (σ:Nat→Nat) (cs ds:List AV):Prop:=cs.length=ds.length∧∀(i:Nat) (c d:AV),cs[i]? = some c→ds[i]? = some d→Rn n m σ c d
theorem RnL.nil {n m:Nat} {σ:Nat→Nat}:RnL n m σ [] []:=⟨rfl,fun j a c h=>by simp at h⟩
theorem RnL.cons {n m:Nat} {σ:Nat→Nat} {a d:AV} {cs ds:List AV} (h:Rn n m σ a d) (t:RnL n m σ cs ds):RnL n m σ (a::cs) (d::ds):=by
 refine⟨by simp[t.1],fun j x y hx hy=>?_⟩
 cases j with
 |zero=>simp at hx hy;subst hx;subst hy;exact h
 |succ j=>exact t.2 j x y (by simpa using hx) (by simpa using hy)
theorem RnL.plain {n m:Nat} {σ:Nat→Nat} {row:List IV}:RnL n m σ (row.map .v) (row.map .v):=by
 refine⟨rfl,fun j a c ha hc=>?_⟩
 rw[ha]at hc;cases hc
 rw[ai]at ha
 cases hq:row[j]? with
 |none=>rw[hq]at ha;cases ha
 |some y=>rw[hq]at ha;cases ha;exact .v y
theorem Rn.aggL {n m:Nat} {σ:Nat→Nat} {cs ds:List AV} (h:RnL n m σ cs ds):Rn n m σ (.agg cs) (.agg ds):=.agg cs ds h.1 h.2
theorem Rn.tupL {n m:Nat} {σ:Nat→Nat} {cs ds:List AV} (h:RnL n m σ cs ds):Rn n m σ (.tup cs) (.tup ds):=.tup cs ds h.1 h.2
theorem Rn.slE {n m:Nat} {σ:Nat→Nat} {i j ver off len:Nat} (h:σ j=i) (hj:j<m):Rn n m σ (.sl (n+i) ver off len) (.sl (n+j) ver off len):=by subst h;exact .sl j ver off len hj
def RnR (n m:Nat) (σ:Nat→Nat):Row→Row→Prop
 |.live v s els,.live v' s' els'=>v=v'∧s=s'∧els.length=els'.length∧∀(k:Nat) (r r':List AV),els[k]? = some r→els'[k]? = some r'→RnL n m σ r r'
 |.dead v,.dead v'=>v=v'
 |_,_=>False
theorem RnR.plain {n m:Nat} {σ:Nat→Nat} {v s:Nat} {rows:List (List IV)}:RnR n m σ (.live v s (vs rows)) (.live v s (vs rows)):=by
 refine⟨rfl,rfl,rfl,fun k r r' h1 h2=>?_⟩
 rw[h1]at h2;cases h2
 rw[TB]at h1
 cases hq:rows[k]? with
 |none=>rw[hq]at h1;cases h1
 |some y=>rw[hq]at h1;cases h1;exact RnL.plain
theorem AVlt.rn {n m:Nat} {σ:Nat→Nat} {x:AV} (h:AVlt n x):Rn n m σ x x:=by
 induction h with
 |any=>exact .any
 |v x=>exact .v x
 |sl id ver off len h=>exact .slB id ver off len h
 |ptr id ver k j h=>exact .ptrB id ver k j h
 |mp id ver h=>exact .mpB id ver h
 |agg cs _ ih=>exact .agg cs cs rfl (fun i c d h1 h2=>by rw[h1]at h2;cases h2;exact ih c (cd h1))
 |tup cs _ ih=>exact .tup cs cs rfl (fun i c d h1 h2=>by rw[h1]at h2;cases h2;exact ih c (cd h1))
 |fn f cs _ ih=>exact .fn f cs cs rfl (fun i c d h1 h2=>by rw[h1]at h2;cases h2;exact ih c (cd h1))
theorem Rn.rep {n m:Nat} {σ:Nat→Nat} {w:World} {F:Nat→Prop} {L L':LMap} (hB:∀id ver,id<n→L' id ver=L id ver) (hS:∀j ver,j<m→L' (n+j) ver=L (n+σ j) ver) {x y:AV} (h:Rn n m σ x y):∀{v:Value},RepA w F L x v→RepA w F L' y v:=by
 induction h with
 |any=>exact fun _=>.any _
 |v x=>exact fun h=>.v _ _ h.vI
 |sl j ver off len hj =>
   intro v h
   cases h with
   |sl _ _ _ _ b o sz cap hL h1 h2=>exact .sl _ _ _ _ b o sz cap (by rw[hS j ver hj];exact hL) h1 h2
   |slz _ _ _ b o sz cap x hL h1=>exact .slz _ _ _ b o sz cap x (by rw[hS j ver hj];exact hL) h1
   |sln _ _ ad hL=>exact .sln _ _ ad (by rw[hS j ver hj];exact hL)
 |ptr j ver k i hj=>intro v h;cases h with|ptr _ _ _ _ b o sz cap hL=>exact .ptr _ _ _ _ b o sz cap (by rw[hS j ver hj];exact hL)
 |mp j ver hj=>intro v h;cases h with|mp _ _ b hL=>exact .mp _ _ b (by rw[hS j ver hj];exact hL)
 |slB id ver off len hj =>
   intro v h
   cases h with
   |sl _ _ _ _ b o sz cap hL h1 h2=>exact .sl _ _ _ _ b o sz cap (by rw[hB id ver hj];exact hL) h1 h2
   |slz _ _ _ b o sz cap x hL h1=>exact .slz _ _ _ b o sz cap x (by rw[hB id ver hj];exact hL) h1
   |sln _ _ ad hL=>exact .sln _ _ ad (by rw[hB id ver hj];exact hL)
 |ptrB id ver k i hj=>intro v h;cases h with|ptr _ _ _ _ b o sz cap hL=>exact .ptr _ _ _ _ b o sz cap (by rw[hB id ver hj];exact hL)
 |mpB id ver hj=>intro v h;cases h with|mp _ _ b hL=>exact .mp _ _ b (by rw[hB id ver hj];exact hL)
 |agg cs ds hl _ ih =>
   intro v h
   obtain⟨vs,rfl,hr⟩:=h.aggL
   exact bA.agg ⟨by rw[←hl];exact hr.1,fun i d u hd hu=>by
    have hi:i<cs.length:=by rw[hl];exact (aj.1 hd).1
    exact ih i _ d (ae hi) hd (hr.2 i _ u (ae hi) hu)⟩
 |tup cs ds hl _ ih =>
   intro v h
   obtain⟨vs,rfl,hr⟩:=h.tupL
   exact bA.tup ⟨by rw[←hl];exact hr.1,fun i d u hd hu=>by
    have hi:i<cs.length:=by rw[hl];exact (aj.1 hd).1
    exact ih i _ d (ae hi) hd (hr.2 i _ u (ae hi) hu)⟩
 |fn f cs ds hl _ ih =>
   intro v h
   cases h with
   |fn _ _ us hul hr =>
     exact .fn f ds us (by rw[←hl];exact hul) (fun i d u hd hu=>by
      have hi:i<cs.length:=by rw[hl];exact (aj.1 hd).1
      exact ih i _ d (ae hi) hd (hr i _ u (ae hi) hu))
theorem KA.ren {e':List AV} {l':List Row} (σ:Nat→Nat) (ZAu:∀i j,i<l'.length→j<l'.length→σ i=σ j→i=j)
  (RE:∀j r',l'[j]? = some r'→∃r,l[σ j]? = some r∧RnR b.length l'.length σ r r') (hR:YB b.length b) (hl:e.length=e'.length) (he:∀(i:Nat) (x y:AV),e[i]? = some x→e'[i]? = some y→Rn b.length l'.length σ x y):KA e b l e' b l':=by
 intro F L w a s VT
 obtain⟨L',hB,hS,hN⟩:∃L':LMap,(∀id ver,id<b.length→L' id ver=L id ver)∧(∀j ver,j<l'.length→L' (b.length+j) ver=L (b.length+σ j) ver)∧∀j ver,l'.length≤j→L' (b.length+j) ver=none:=
  ⟨fun id ver=>if id<b.length then L id ver else if id-b.length<l'.length then L (b.length+σ (id-b.length)) ver else none,fun id ver h=>by simp[h],fun j ver h=>by simp only;rw[if_neg oM,co,if_pos h],fun j ver h=>by simp only;rw[if_neg oM,co,if_neg oM]⟩
 have QR:∀{id ver q},L' id ver=some q→(id<b.length∧L id ver=some q)∨∃j,id=b.length+j∧j<l'.length∧L (b.length+σ j) ver=some q:=by
  intro id ver q hq
  by_cases h:id<b.length
  ·exact .inl ⟨h,by rw[←hB id ver h];exact hq⟩
  ·obtain⟨j,rfl⟩:∃j,id=b.length+j:=⟨id-b.length,by omega⟩
   by_cases hj:j<l'.length
   ·exact .inr ⟨j,rfl,hj,by rw[←hS j ver hj];exact hq⟩
   ·rw[hN j ver oM]at hq;cases hq
 have gB:∀{id:Nat} (m:List Row),id<b.length→(b++m)[id]? = b[id]?:=fun m h=>aw h
 have gL:∀{j:Nat} (m:List Row),(b++m)[b.length+j]? = m[j]?:=fun m=>by rw[au oM,co]
 have live:∀{id ver sz els},(b++l')[id]? = some (.live ver sz els)→(id<b.length∧(b++l)[id]? = some (.live ver sz els))∨∃j els0,id=b.length+j∧j<l'.length∧(b++l)[b.length+σ j]? = some (.live ver sz els0)∧RnR b.length l'.length σ (.live ver sz els0) (.live ver sz els):=by
  intro id ver sz els h
  by_cases hid:id<b.length
  ·exact .inl ⟨hid,by rw[gB _ hid]at h⊢;exact h⟩
  ·obtain⟨j,rfl⟩:∃j,id=b.length+j:=⟨id-b.length,by omega⟩
   rw[gL]at h
   obtain⟨r,h1,h2⟩:=RE j _ h
   have hj:=(aj.1 h).1
   cases r with
   |dead v=>exact h2.elim
   |live v z els0 =>
     obtain⟨rfl,rfl,h3⟩:=h2
     exact .inr ⟨j,els0,rfl,hj,by rw[gL];exact h1,rfl,rfl,h3⟩
 have own:∀k,gD L' (b++l') k→gD L (b++l) k:=by
  rintro k ⟨id,ver,sz,els,q,h1,h2,h3⟩
  rcases live h1 with ⟨hid,g1⟩|⟨j,els0,rfl,hj,g1,_⟩
  ·rw[hB id ver hid]at h2;exact⟨id,ver,sz,els,q,g1,h2,h3⟩
  ·rw[hS j ver hj]at h2;exact⟨_,ver,sz,els0,q,g1,h2,h3⟩
 have rep:∀{x y:AV} {v:Value},Rn b.length l'.length σ x y→RepA w F L x v→RepA w F L' y v:=fun h=>h.rep hB hS
 refine⟨F,L',⟨fun id ver sz els h=>?_,fun id ver q hq=>?_,fun id id' ver ver' s1 s2 els els' bb q q' h1 h2 h3 h4 h5 h6=>?_,fun k hk=>⟨(s.imm k hk).1,fun ho=>(s.imm k hk).2 (own k ho)⟩,s.glob⟩,⟨VT.1,by rw[←hl];exact VT.2.1,fun i y v hy hv=>?_⟩,
  ⟨fun _ h=>h,fun id ver q hid hq=>by rw[hB id ver hid];exact hq,rfl,rfl,rfl,ah _,fun _ _ _=>rfl,fun k _ ho=>own k ho,fun id hid v hv=>by rw[gB _ hid]at hv⊢;exact hv,fun _ _ h=>.inl h⟩,rfl⟩
 ·rcases live h with ⟨hid,g1⟩|⟨j,els0,rfl,hj,g1,_,_,g2,g3⟩
  ·obtain⟨q,k1,k2⟩:=s.row _ _ _ _ g1
   refine⟨q,by rw[hB id ver hid];exact k1,?_⟩
   have bB:∀row∈els,∀c∈row,AVlt b.length c:=hR id ver sz els (by rw[gB _ hid]at h;exact h)
   cases q with
   |nil=>exact k2
   |pl blk o z cap =>
     obtain⟨q1,q2,q3,cur,T,q4,q5,q6,q7⟩:=k2
     exact⟨q1,q2,q3,cur,T,q4,q5,q6,fun k row i c hk hi=>by
      obtain⟨e1,u,e2,e3⟩:=q7 k row i c hk hi
      exact⟨e1,u,e2,rep (bB row (cd hk) c (cd hi)).rn e3⟩⟩
   |mp blk =>
     obtain⟨es,clk,q4,q5,q6⟩:=k2
     refine⟨es,clk,q4,q5,fun k row e1 hk he=>?_⟩
     obtain⟨x,y,rfl,e2,e3⟩:=q6 k row e1 hk he
     exact⟨x,y,rfl,rep (bB _ (cd hk) x kS).rn e2,rep (bB _ (cd hk) y kS).rn e3⟩
  ·obtain⟨q,k1,k2⟩:=s.row _ _ _ _ g1
   refine⟨q,by rw[hS j ver hj];exact k1,?_⟩
   have cell:∀{x y:AV},Rn b.length l'.length σ x y→x.cell=y.cell:=by
    intro x y h;cases h<;>rfl
   have prev:∀{k:Nat} {row:List AV},els[k]? = some row→∃r0,els0[k]? = some r0∧RnL b.length l'.length σ r0 row:=by
    intro k row hk
    have YM:=(aj.1 hk).1
    exact⟨els0[k],ae oM,g3 k _ row (ae oM) hk⟩
   have prev2:∀{r0 row:List AV} {i:Nat} {c:AV},RnL b.length l'.length σ r0 row→row[i]? = some c→∃c0,r0[i]? = some c0∧Rn b.length l'.length σ c0 c:=by
    intro r0 row i c h hi
    have mR:=(aj.1 hi).1
    exact⟨r0[i]'(by rw[h.1];exact mR),ae _,h.2 i _ c (ae _) hi⟩
   cases q with
   |nil =>
     have:els0=[]:=k2
     subst this
     exact cu (by simpa using g2.symm)
   |pl blk o z cap =>
     obtain⟨q1,q2,q3,cur,T,q4,q5,q6,q7⟩:=k2
     refine⟨q1,by omega,q3,cur,T,q4,q5,fun k row hk=>?_,fun k row i c hk hi=>?_⟩
     ·obtain⟨r0,e1,e2⟩:=prev hk
      rw[←e2.1];exact q6 k r0 e1
     ·obtain⟨r0,e1,e2⟩:=prev hk
      obtain⟨c0,e3,e4⟩:=prev2 e2 hi
      obtain⟨e5,u,e6,e7⟩:=q7 k r0 i c0 e1 e3
      exact⟨by rw[←cell e4];exact e5,u,e6,rep e4 e7⟩
   |mp blk =>
     obtain⟨es,clk,q4,q5,q6⟩:=k2
     refine⟨es,clk,q4,by omega,fun k row e1 hk he=>?_⟩
     obtain⟨r0,e2,e3⟩:=prev hk
     obtain⟨x,y,rfl,e5,e6⟩:=q6 k r0 e1 e2 he
     obtain⟨e7,e8⟩:=e3
     obtain⟨x',y',rfl⟩:∃x' y',row=[x',y']:=by
      match row,e7 with
      |[x',y'],_=>exact⟨x',y',rfl⟩
     exact⟨x',y',rfl,rep (e8 0 x x' rfl rfl) e5,rep (e8 1 y y' rfl rfl) e6⟩
 ·rcases QR hq with ⟨hid,g1⟩|⟨j,rfl,hj,g1⟩
  ·obtain⟨r,h1,h2⟩:=s.born _ _ _ g1
   exact⟨r,by rw[gB _ hid]at h1⊢;exact h1,h2⟩
  ·obtain⟨r,h1,h2⟩:=s.born _ _ _ g1
   rw[gL]at h1
   obtain⟨r0,h3,h4⟩:=RE j l'[j] (ae hj)
   rw[h1]at h3;cases h3
   refine⟨l'[j],by rw[gL];exact ae hj,?_⟩
   revert h4
   cases r with
   |live v z els0 =>
     cases l'[j] with
     |live v' z' els'=>rintro⟨rfl,_⟩;exact h2
     |dead v'=>exact fun h=>h.elim
   |dead v =>
     cases l'[j] with
     |live v' z' els'=>exact fun h=>h.elim
     |dead v'=>intro h;cases h;exact h2
 ·rcases live h1 with ⟨i1,g1⟩|⟨j1,els1,rfl,i1,g1,_⟩<;>rcases live h2 with ⟨i2,g2⟩|⟨j2,els2,rfl,i2,g2,_⟩
  ·rw[hB _ _ i1]at h3;rw[hB _ _ i2]at h4
   exact s.apart _ _ _ _ _ _ _ _ bb _ _ g1 g2 h3 h4 h5 h6
  ·rw[hB _ _ i1]at h3;rw[hS _ _ i2]at h4
   have:=s.apart _ _ _ _ _ _ _ _ bb _ _ g1 g2 h3 h4 h5 h6
   omega
  ·rw[hS _ _ i1]at h3;rw[hB _ _ i2]at h4
   have:=s.apart _ _ _ _ _ _ _ _ bb _ _ g1 g2 h3 h4 h5 h6
   omega
  ·rw[hS _ _ i1]at h3;rw[hS _ _ i2]at h4
   have:=s.apart _ _ _ _ _ _ _ _ bb _ _ g1 g2 h3 h4 h5 h6
   rw[ZAu j1 j2 i1 i2 oM]
 ·have mR:=(aj.1 hy).1
  have hx:e[i]? = some e[i]:=ae oM
  exact rep (he i _ y hx hy) (VT.2.2 i _ v hx hv)
theorem KA.renM {e':List AV} {l':List Row} {m:Nat} (hm:l'.length=m) (σ:Nat→Nat) (ZAu:∀i j,i<m→j<m→σ i=σ j→i=j)
  (RE:∀j r',l'[j]? = some r'→∃r,l[σ j]? = some r∧RnR b.length m σ r r') (hR:YB b.length b) (hl:e.length=e'.length) (he:∀(i:Nat) (x y:AV),e[i]? = some x→e'[i]? = some y→Rn b.length m σ x y):KA e b l e' b l':=by
 subst hm
 exact KA.ren σ ZAu RE hR hl he
end
theorem ZA.post {P:Program} {f:Nat} {args:List AV} {b l N N':List Row} {x x':AV} (hw:YB (b++l).length (b++l)→KA [x] (b++l) N [x'] (b++l) N')
  (h:ZA P f args b l (fun r b' l'=>r=x∧b'=b∧l'=l++N)):ZA P f args b l (fun r b' l'=>r=x'∧b'=b∧l'=l++N'):=by
 refine⟨h.1,fun F L w vs s hr=>Calls.mono (h.2 F L w vs s hr) ?_⟩
 rintro en w' ⟨v,y,b',l',F',L',h1,h2,h3,h4,h5,rfl,rfl,rfl⟩
 have ZIY:Sim F' L' ((b'++l)++N) w':=by rw[ay];exact h3
 obtain⟨F3,L3,k1,k2,k3,k5⟩:=hw s.rowsLt F' L' w' {tmps:=#[v],defers:=[]} ZIY ⟨rfl,rfl,fun j z u hz hu=>by
  cases j with
  |zero=>simp at hz hu;subst hz;subst hu;exact h2
  |succ j=>simp at hz⟩
 refine⟨v,x',b',l++N',F3,L3,h1,k2.2.2 0 _ v rfl rfl,?_,?_,h5,rfl,rfl,rfl⟩
 ·rw[←ay];exact k1
 ·refine h4.trans ?_
  rw[←ay,←ay]
  exact k3.weaken kS
def a_nparty:AFunc:=({c:=_}:CF Tryz.prog 102).c
theorem vY:CA Tryz.prog 102=some a_nparty:=by kernel_rfl
def a_nmsg:AFunc:=({c:=_}:CF Tryz.prog 74).c
theorem ZAQ:CA Tryz.prog 74=some a_nmsg:=by kernel_rfl
def a_nmsgc:AFunc:=({c:=_}:CF Tryz.prog 103).c
theorem V4:CA Tryz.prog 103=some a_nmsgc:=by kernel_rfl
def a_nfate:AFunc:=({c:=_}:CF Tryz.prog 96).c
theorem z4:CA Tryz.prog 96=some a_nfate:=by kernel_rfl
def a_nfatc:AFunc:=({c:=_}:CF Tryz.prog 95).c
theorem j4:CA Tryz.prog 95=some a_nfatc:=by kernel_rfl
def a_nfats:AFunc:=({c:=_}:CF Tryz.prog 58).c
theorem U4:CA Tryz.prog 58=some a_nfats:=by kernel_rfl
def a_nValid:AFunc:=({c:=_}:CF Tryz.prog 40).c
theorem wY:CA Tryz.prog 40=some a_nValid:=by kernel_rfl
def kP:List (Nat×Nat):=[(2,4),(43,85)]

theorem gJ (p:Int) (b l:List Row):ZA Tryz.prog 102 [.v (.int .i64 p)] b l (fun r b' l'=>r=.v (.bool (ptB p))∧b'=b∧l'=l):=by
 refine XA vY rfl kE ?_
 intro B g hB hR hE hA;simp only[EA]at hA
 by_cases h1:0≤p
 ·have d1:decide (p≥0)=true:=ag h1
  have d1':decide (0≤p)=true:=d1
  by_cases h2:p≤7
  ·have d2:decide (p<8)=true:=ag oM
   simp (disch:=first|decide|omega) only[a_nparty,hA,d1,d1',d2,go_sem]
   exact QA (xs:=[.v (.bool true)]) ⟨by unfold ptB;rw[ag ⟨h1,h2⟩];rfl,rfl,rfl⟩
  ·have d2:decide (p<8)=false:=ak oM
   simp (disch:=first|decide|omega) only[a_nparty,hA,d1,d1',d2,go_sem]
   exact QA (xs:=[.v (.bool false)]) ⟨by unfold ptB;rw[ak oM];rfl,rfl,rfl⟩
 ·have d1:decide (p≥0)=false:=ak h1
  have d1':decide (0≤p)=false:=d1
  simp (disch:=first|decide|omega) only[a_nparty,hA,d1,d1',go_sem]
  exact QA (xs:=[.v (.bool false)]) ⟨by unfold ptB;rw[ak oM];rfl,rfl,rfl⟩
theorem I1 (n:Int) (b l:List Row):ZA Tryz.prog 103 [.v (.int .i64 n)] b l (fun r b' l'=>r=.v (.bool (!vlB n))∧b'=b∧l'=l):=by
 refine XA V4 rfl kE ?_
 intro B g hB hR hE hA;simp only[EA]at hA
 by_cases h1:n < -1073741824
 ·have d1:=ag h1
  simp (disch:=first|decide|omega) only[a_nmsgc,hA,d1,go_sem]
  exact wC (xs:=[.v (.bool true)]) (.inr rfl) (by simp (disch:=first|decide|omega) only[resVs,resV,go_sem,hA,d1]) kO hR hB ⟨by unfold vlB;rw[ak oM];rfl,rfl,rfl⟩
 ·have d1:=ak h1
  by_cases h2:n>1073741824
  ·have d2:=ag h2
   have d2':decide (1073741824<n)=true:=d2
   simp (disch:=first|decide|omega) only[a_nmsgc,hA,d1,d2,d2',go_sem]
   exact QA (xs:=[.v (.bool true)]) ⟨by unfold vlB;rw[ak oM];rfl,rfl,rfl⟩
  ·have d2:=ak h2
   have d2':decide (1073741824<n)=false:=d2
   simp (disch:=first|decide|omega) only[a_nmsgc,hA,d1,d2,d2',go_sem]
   exact QA (xs:=[.v (.bool false)]) ⟨by unfold vlB;rw[ag oM];rfl,rfl,rfl⟩
theorem AF {α:Type} {p:α→Bool}:∀{v:List α},(v.any fun x=>!p x)=!v.all p
 |[]=>rfl
 |x::v=>by simp[AF (v:=v)]
theorem tG {α:Type} {d:α} {p:α→Bool} {v:List α}:(List.range v.length).any (fun i=>p (v.getD i d))=v.any p:=by
 rw[jd]
 simp only[ga,bc]
 constructor
 ·rintro⟨i,hi,h⟩
  exact⟨v[i],ap hi,by rwa [YA hi]at h⟩
 ·rintro⟨x,hx,h⟩
  obtain⟨i,hi,rfl⟩:=dh hx
  exact⟨i,hi,by rwa [YA hi]⟩
abbrev zMA (x:Ms):List AV:=[.v (.int .i64 x.fr),.v (.int .i64 x.to),.v (.int .i64 x.nu),.v (.isl 1 (x.body.map eI))]
theorem aU (m:Ms) (b l:List Row):ZA Tryz.prog 74 [.agg (zMA m)] b l (fun r b' l'=>r=.v (.bool (msB m))∧b'=b∧l'=l):=by
 refine XA ZAQ rfl kE ?_
 intro B g hB hR hE hA;simp only[EA]at hA
 simp (disch:=first|decide|omega) only[a_nmsg,hA,go_sem]
 refine ZA.nxt (gJ m.fr _ _) ?_
 cases h1:ptB m.fr
 ·simp (disch:=first|decide|omega) only[hA,go_sem]
  exact QA (xs:=[.v (.bool false)]) ⟨by unfold msB;rw[h1];rfl,rfl,rfl⟩
 simp (disch:=first|decide|omega) only[hA,go_sem]
 refine ZA.nxt (gJ m.to _ _) ?_
 cases h2:ptB m.to
 ·simp (disch:=first|decide|omega) only[hA,go_sem]
  exact QA (xs:=[.v (.bool false)]) ⟨by unfold msB;rw[h1,h2];rfl,rfl,rfl⟩
 by_cases h3:m.fr=m.to
 ·have d3:(m.fr==m.to)=true:=by rw[h3];simp
  simp (disch:=first|decide|omega) only[hA,d3,go_sem]
  exact QA (xs:=[.v (.bool false)]) ⟨by unfold msB;rw[h1,h2,ak oM];rfl,rfl,rfl⟩
 have d3:(m.fr==m.to)=false:=fc.2 h3
 by_cases h4:m.nu<0
 ·have d4:=ag h4
  simp (disch:=first|decide|omega) only[hA,d3,d4,go_sem]
  exact QA (xs:=[.v (.bool false)]) ⟨by unfold msB;rw[h1,h2,ag h3,ak oM];rfl,rfl,rfl⟩
 have d4:=ak h4
 by_cases h5:199<m.nu
 ·have d5:=ag h5
  simp (disch:=first|decide|omega) only[hA,d3,d4,d5,go_sem]
  exact QA (xs:=[.v (.bool false)]) ⟨by unfold msB;rw[h1,h2,ag h3,ak oM];rfl,rfl,rfl⟩
 have d5:=ak h5
 by_cases h6:20<m.body.length
 ·have d6:decide ((20:Int)<(m.body.length:Int))=true:=ag oM
  simp (disch:=first|decide|omega) only[hA,d3,d4,d5,d6,aa,go_sem]
  exact QA (xs:=[.v (.bool false)]) ⟨by unfold msB;rw[h1,h2,ag h3,ag (show 0≤m.nu∧m.nu≤199 by omega),ak (show ¬m.body.length≤20 by omega)];rfl,rfl,rfl⟩
 have d6:decide ((20:Int)<(m.body.length:Int))=false:=ak oM
 simp (disch:=first|decide|omega) only[hA,d3,d4,d5,d6,aa,go_sem]
 refine ZA.nxt (GL m.body _ [] (fun i=>!vlB (m.body.getD i 0)) oM _ _ (fun i hi=>by
  have:=I1 m.body[i] (B++[Row.live 0 4 [[AV.v (IV.int .i64 m.fr),AV.v (IV.int .i64 m.to),AV.v (IV.int .i64 m.nu),AV.v (IV.isl 1 (m.body.map eI))]]]) []
  simp only[YA hi]
  exact this)) ?_
 rw[tG (p:=fun x=>!vlB x),AF]
 simp (disch:=first|decide|omega) only[hA,ky,go_sem]
 exact QA (xs:=[.v (.bool (m.body.all vlB))]) ⟨by unfold msB;rw[h1,h2,ag h3,ag (show 0≤m.nu∧m.nu≤199 by omega),ag (show m.body.length≤20 by omega)];rfl,rfl,rfl⟩
theorem D1 (f:Int×Int) (b l:List Row):ZA Tryz.prog 96 [.agg [.v (.int .i64 f.1),.v (.int .i64 f.2)]] b l (fun r b' l'=>r=.v (.bool (ftB f))∧b'=b∧l'=l):=by
 refine XA z4 rfl kE ?_
 intro B g hB hR hE hA;simp only[EA]at hA
 by_cases h1:0≤f.1
 case neg =>
  have d1:=ak h1
  simp (disch:=first|decide|omega) only[a_nfate,hA,d1,go_sem]
  exact QA (xs:=[.v (.bool false)]) ⟨by unfold ftB;rw[ak oM];rfl,rfl,rfl⟩
 have d1:=ag h1
 by_cases h2:f.1≤3
 case neg =>
  have d2:=ak h2
  simp (disch:=first|decide|omega) only[a_nfate,hA,d1,d2,go_sem]
  exact QA (xs:=[.v (.bool false)]) ⟨by unfold ftB;rw[ak oM];rfl,rfl,rfl⟩
 have d2:=ag h2
 by_cases h3:0≤f.2
 case neg =>
  have d3:=ak h3
  simp (disch:=first|decide|omega) only[a_nfate,hA,d1,d2,d3,go_sem]
  exact QA (xs:=[.v (.bool false)]) ⟨by unfold ftB;rw[ak oM];rfl,rfl,rfl⟩
 have d3:=ag h3
 by_cases h4:f.2≤1000000
 ·have d4:=ag h4
  simp (disch:=first|decide|omega) only[a_nfate,hA,d1,d2,d3,d4,go_sem]
  exact QA (xs:=[.v (.bool true)]) ⟨by unfold ftB;rw[ag oM];rfl,rfl,rfl⟩
 ·have d4:=ak h4
  simp (disch:=first|decide|omega) only[a_nfate,hA,d1,d2,d3,d4,go_sem]
  exact QA (xs:=[.v (.bool false)]) ⟨by unfold ftB;rw[ak oM];rfl,rfl,rfl⟩
theorem R1 (f:Int×Int) (b l:List Row):ZA Tryz.prog 95 [.agg [.v (.int .i64 f.1),.v (.int .i64 f.2)]] b l (fun r b' l'=>r=.v (.bool (!ftB f))∧b'=b∧l'=l):=by
 refine XA j4 rfl kE ?_
 intro B g hB hR hE hA;simp only[EA]at hA
 simp (disch:=first|decide|omega) only[a_nfatc,hA,go_sem]
 refine ZA.nxt (D1 f _ _) ?_
 simp (disch:=first|decide|omega) only[hA,go_sem]
 exact QA (xs:=[.v (.bool (!ftB f))])
theorem ER (v:List (Int×Int)) (hn:v.length≤1000000) (b l:List Row):ZA Tryz.prog 58 [.v (.isl 2 (v.map eFt))] b l (fun r b' l'=>r=.v (.bool (K6 v))∧b'=b∧l'=l):=by
 refine XA U4 rfl kE ?_
 intro B g hB hR hE hA;simp only[EA]at hA
 simp (disch:=first|decide|omega) only[a_nfats,hA,go_sem]
 refine ZA.nxt (zE (P:=Tryz.prog) (sz:=2) (f:=27) (g:=60) kK kK (v.map eFt) _ [] (fun i=>!ftB (v.getD i (0,0))) (by intro row hr;obtain⟨f,_,rfl⟩:=de.1 hr;rfl) (by simpa using hn) _ _ (fun i row hi=>by
  rw[ai]at hi
  cases hq:v[i]? with
  |none=>rw[hq]at hi;cases hi
  |some f =>
    rw[hq]at hi;cases hi
    have:=R1 f (B++[]) []
    simp only[aq,hq,gp]
    exact this)) ?_
 rw[aa,tG (p:=fun x=>!ftB x),AF]
 simp (disch:=first|decide|omega) only[hA,ky,go_sem]
 exact QA (xs:=[.v (.bool (v.all ftB))])
theorem sR {l:List Ms} {i:Nat} (h:i<l.length):(l.map eMs)[i]? = some [.int .i64 l[i].fr,.int .i64 l[i].to,.int .i64 l[i].nu,.isl 1 (l[i].body.map eI)]:=by
 rw[ai,ae h];rfl
theorem NG {l:List Int} {i:Nat} (h:i<l.length):(l.map eI)[i]? = some [.int .i64 (l.getD i 0)]:=by
 rw[ai,ae h,YA h];rfl
theorem ZH7 {n:Nw} (hb:(decide (0≤n.now∧n.now≤1099511627776)&&(decide (n.l.length=n.tm.length)&&(decide (n.l.length≤1000)&&(decide (n.fates.length≤1000)&&K6 n.fates))))=true):nwB n=(List.range n.l.length).all (mtB n):=by
 simp only[ar]at hb
 unfold nwB
 rw[hb.1,hb.2.1,hb.2.2.1,hb.2.2.2.1,hb.2.2.2.2]
 rfl
abbrev zNA (x:Nw):List AV:=[.v (.int .i64 x.now),.v (.bool x.fifo),.v (.isl 4 (x.l.map eMs)),.v (.isl 1 (x.tm.map eI)),.v (.isl 2 (x.fates.map eFt))]
theorem LG (n:Nw) (b l:List Row):ZA Tryz.prog 40 [.agg ((eNw n).map .v)] b l (fun r b' l'=>r=.v (.bool (nwB n))∧b'=b∧l'=l):=by
 refine XA wY rfl kE ?_
 intro B g hB hR hE hA;simp only[EA]at hA
 have F:∀{p:Prop} [Decidable p],¬p→decide p=false:=fun h=>ak h
 by_cases h1:n.now<0
 ·have d1:=ag h1
  simp (disch:=first|decide|omega) only[a_nValid,hA,eNw,d1,go_sem]
  exact QA (xs:=[.v (.bool false)]) ⟨by unfold nwB;rw[F (show ¬(0≤n.now∧n.now≤1099511627776) by omega)];rfl,rfl,rfl⟩
 have d1:=ak h1
 by_cases h2:1099511627776<n.now
 ·have d2:=ag h2
  simp (disch:=first|decide|omega) only[a_nValid,hA,eNw,d1,d2,go_sem]
  exact QA (xs:=[.v (.bool false)]) ⟨by unfold nwB;rw[F (show ¬(0≤n.now∧n.now≤1099511627776) by omega)];rfl,rfl,rfl⟩
 have d2:=ak h2
 have e1:decide (0≤n.now∧n.now≤1099511627776)=true:=ag oM
 by_cases h3:n.l.length=n.tm.length
 case neg =>
  have d3:((n.l.length:Int) != (n.tm.length:Int))=true:=by simp;omega
  simp (disch:=first|decide|omega) only[a_nValid,hA,eNw,d1,d2,d3,aa,go_sem]
  exact QA (xs:=[.v (.bool false)]) ⟨by unfold nwB;rw[e1,F h3];rfl,rfl,rfl⟩
 have d3:((n.l.length:Int) != (n.tm.length:Int))=false:=by simp;omega
 have e3:decide (n.l.length=n.tm.length)=true:=ag h3
 by_cases h4:1000<n.l.length
 ·have d4:decide ((1000:Int)<(n.l.length:Int))=true:=ag oM
  simp (disch:=first|decide|omega) only[a_nValid,hA,eNw,d1,d2,d3,d4,aa,go_sem]
  exact QA (xs:=[.v (.bool false)]) ⟨by unfold nwB;rw[e1,e3,F (show ¬n.l.length≤1000 by omega)];rfl,rfl,rfl⟩
 have d4:decide ((1000:Int)<(n.l.length:Int))=false:=ak oM
 have e4:decide (n.l.length≤1000)=true:=ag oM
 by_cases h5:1000<n.fates.length
 ·have d5:decide ((1000:Int)<(n.fates.length:Int))=true:=ag oM
  simp (disch:=first|decide|omega) only[a_nValid,hA,eNw,d1,d2,d3,d4,d5,aa,go_sem]
  exact QA (xs:=[.v (.bool false)]) ⟨by unfold nwB;rw[e1,e3,e4,F (show ¬n.fates.length≤1000 by omega)];rfl,rfl,rfl⟩
 have d5:decide ((1000:Int)<(n.fates.length:Int))=false:=ak oM
 have e5:decide (n.fates.length≤1000)=true:=ag oM
 simp (disch:=first|decide|omega) only[a_nValid,hA,eNw,d1,d2,d3,d4,d5,aa,go_sem]
 refine ZA.nxt (ER n.fates oM _ _) ?_
 cases h6:K6 n.fates
 ·simp (disch:=first|decide|omega) only[hA,go_sem]
  exact QA (xs:=[.v (.bool false)]) ⟨by unfold nwB;rw[e1,e3,e4,e5,h6];rfl,rfl,rfl⟩
 have uH:=ZH7 (n:=n) (by rw[e1,e3,e4,e5,h6];rfl)
 simp (disch:=first|decide|omega) only[hA,aa,go_sem]
 refine ZB (ι:=Nat) kP (fun i=>[(43,.v (.int .i64 i))]) 1 (fun _=>[.live 0 5 [(zNA n)]])
  (fun i=>i≤n.l.length∧∀j,j<i→mtB n j=true) (fun i=>n.l.length-i) 0 ⟨an _,fun j hj=>by omega⟩ kM kA kF ?_
 rintro g1 aI bI aC i ⟨hi,h0⟩
 by_cases bB:i<n.l.length
 ·have hm:=sR bB
  have ht:=NG (show i<n.tm.length by omega)
  have ZGF:mtB n i=false→nwB n=false:=fun h=>by
   rw[uH,gy]
   exact⟨i,bc.2 bB,by rw[h];simp⟩
  have lR:n.l.getD i dfMs=n.l[i]:=YA bB
  simp (disch:=first|decide|omega) only[hA,aC,hm,aa,go_sem]
  refine ZA.nxt (aU n.l[i] _ _) ?_
  cases q1:msB n.l[i]
  ·simp (disch:=first|decide|omega) only[hA,aC,go_sem]
   exact QA (xs:=[.v (.bool false)]) ⟨by rw[ZGF (by unfold mtB;rw[lR,q1];rfl)];rfl,rfl,rfl⟩
  by_cases q2:n.tm.getD i 0<0
  ·have c2:=ag q2
   simp (disch:=first|decide|omega) only[hA,aC,ht,c2,go_sem]
   exact QA (xs:=[.v (.bool false)]) ⟨by rw[ZGF (by unfold mtB;rw[lR,q1,F oM];rfl)];rfl,rfl,rfl⟩
  have c2:=ak q2
  by_cases q3:1099512627776<n.tm.getD i 0
  ·have c3:=ag q3
   simp (disch:=first|decide|omega) only[hA,aC,ht,c2,c3,go_sem]
   exact QA (xs:=[.v (.bool false)]) ⟨by rw[ZGF (by unfold mtB;rw[lR,q1,F oM];rfl)];rfl,rfl,rfl⟩
  have c3:=ak q3
  by_cases q4:0<i
  ·have c4:decide ((0:Int)<(i:Int))=true:=ag oM
   have hi1:(i:Int)-1=((i-1:Nat):Int):=by omega
   have ht1:=NG (l:=n.tm) (show i-1<n.tm.length by omega)
   by_cases q5:n.tm.getD i 0<n.tm.getD (i-1) 0
   ·have c5:=ag q5
    simp (disch:=first|decide|omega) only[hA,aC,ht,c2,c3,c4,hi1,ht1,c5,go_sem]
    exact QA (xs:=[.v (.bool false)]) ⟨by rw[ZGF (by unfold mtB;rw[lR,q1,F (fun h=>by have:=h.2.2 q4;omega)];rfl)];rfl,rfl,rfl⟩
   have c5:=ak q5
   simp (disch:=first|decide|omega) only[hA,aC,ht,c2,c3,c4,hi1,ht1,c5,go_sem]
   refine⟨i+1,⟨bB,fun j hj=>?_⟩,by simp only;omega,?_⟩
   ·rcases cq j i with PI|PI
    ·exact h0 j PI
    ·obtain rfl:j=i:=by omega
     unfold mtB;rw[lR,q1,ag ⟨by omega,by omega,fun _=>by omega⟩];rfl
   exact KA.kround (p:=kP) (k:=1) kQ kA rfl aI kS kV hR kL
  ·have c4:decide ((0:Int)<(i:Int))=false:=ak oM
   simp (disch:=first|decide|omega) only[hA,aC,ht,c2,c3,c4,go_sem]
   refine⟨i+1,⟨bB,fun j hj=>?_⟩,by simp only;omega,?_⟩
   ·rcases cq j i with PI|PI
    ·exact h0 j PI
    ·obtain rfl:j=i:=by omega
     unfold mtB;rw[lR,q1,ag ⟨by omega,by omega,fun _=>by omega⟩];rfl
   exact KA.kround (p:=kP) (k:=1) kQ kA rfl aI kS kV hR kL
 ·obtain rfl:i=n.l.length:=by omega
  simp (disch:=first|decide|omega) only[hA,aC,aa,go_sem]
  exact QA (xs:=[.v (.bool true)]) ⟨by rw[uH,bo.2 (fun j hj=>h0 j (bc.1 hj))];rfl,rfl,rfl⟩
section
variable {α:Type} {n:Nat} {C:Nat→α} {T:List α}
theorem fz_at {p:Nat} (h:p<n):(fl n C++T)[p]? = some (C p):=by rw[aw (by rw[fC];exact h),IF h]
theorem iE {j:Nat}:(fl n C++T)[n+j]? = T[j]?:=by rw[au (by rw[fC];omega),fC,co]
theorem rE:(fl n C++T)[n]? = T[0]?:=iE (j:=0)
theorem UD {j:Nat} {x:α}:(fl n C++T).set (n+j) x=fl n C++T.set j x:=by rw[ke _ _ (by rw[fC];omega),fC,co]
theorem CC {x:α}:(fl n C++T).set n x=fl n C++T.set 0 x:=UD (j:=0)
end
theorem NJ {e:List AV} {l l':List Row} {rs:List ARes} {Q:AV→List Row→List Row→Prop} {B:List Row} {ex:AExit} {m:Nat} (hex:ex=.normal∨ex=.ret) {xs:List AV} (hx:resVs e B l rs=some xs) {y:AV} (hm:l'.length=m) (σ:Nat→Nat) (ZAu:∀i j,i<m→j<m→σ i=σ j→i=j)
  (RE:∀j r',l'[j]? = some r'→∃r,l[σ j]? = some r∧RnR B.length m σ r r') (he:Rn B.length m σ (one xs) y) (hR:YB B.length B) {b0 l0:List Row} (hB:B=b0++l0) (hq:Q y b0 (l0++l')):KH rs Q b0.length ex e B l:=
 IP hex hx (y:=y) (l':=l') (KA.renM hm σ ZAu RE hR rfl (fun i x z hx hz=>by
  cases i with
  |zero=>simp at hx hz;subst hx;subst hz;exact he
  |succ i=>simp at hx)) hB hq
theorem AVlt.rnK {n k m:Nat} {σ:Nat→Nat} (hσ:∀j,j<k→σ j=j) (hk:k≤m) {x:AV} (h:AVlt (n+k) x):Rn n m σ x x:=by
 have sp:∀id,id<n+k→id<n∨∃j,id=n+j∧j<k:=fun id h=>by
  by_cases h1:id<n
  ·exact .inl h1
  ·exact .inr ⟨id-n,by omega,by omega⟩
 induction h with
 |any=>exact .any
 |v x=>exact .v x
 |sl id ver off len h =>
   rcases sp id (by first|exact h|assumption) with h1|⟨j,rfl,h1⟩
   ·exact .slB id ver off len h1
   ·have:=Rn.sl (n:=n) (m:=m) (σ:=σ) j ver off len oM
    rwa [hσ j h1]at this
 |ptr id ver k' i h =>
   rcases sp id (by first|exact h|assumption) with h1|⟨j,rfl,h1⟩
   ·exact .ptrB id ver k' i h1
   ·have:=Rn.ptr (n:=n) (m:=m) (σ:=σ) j ver k' i oM
    rwa [hσ j h1]at this
 |mp id ver h =>
   rcases sp id (by first|exact h|assumption) with h1|⟨j,rfl,h1⟩
   ·exact .mpB id ver h1
   ·have:=Rn.mp (n:=n) (m:=m) (σ:=σ) j ver oM
    rwa [hσ j h1]at this
 |agg cs _ ih=>exact .agg cs cs rfl (fun i c d h1 h2=>by rw[h1]at h2;cases h2;exact ih c (cd h1))
 |tup cs _ ih=>exact .tup cs cs rfl (fun i c d h1 h2=>by rw[h1]at h2;cases h2;exact ih c (cd h1))
 |fn f cs _ ih=>exact .fn f cs cs rfl (fun i c d h1 h2=>by rw[h1]at h2;cases h2;exact ih c (cd h1))
theorem RnL.rnK {n k m:Nat} {σ:Nat→Nat} (hσ:∀j,j<k→σ j=j) (hk:k≤m) {xs:List AV} (h:∀x∈xs,AVlt (n+k) x):RnL n m σ xs xs:=
 ⟨rfl,fun i c d h1 h2=>by rw[h1]at h2;cases h2;exact (h c (cd h1)).rnK hσ hk⟩
theorem RnR.rnK {n k m:Nat} {σ:Nat→Nat} (hσ:∀j,j<k→σ j=j) (hk:k≤m) {v s:Nat} {els:List (List AV)} (h:∀r∈els,∀x∈r,AVlt (n+k) x):RnR n m σ (.live v s els) (.live v s els):=
 ⟨rfl,rfl,rfl,fun i c d h1 h2=>by rw[h1]at h2;cases h2;exact RnL.rnK hσ hk (h c (cd h1))⟩
theorem KA.kren {N:Nat} {p:List (Nat×Nat)} {ov:List (Nat×AV)} {f g:Nat→AV} {b l l1:List Row} {k m:Nat} (hm:l1.length=m) (σ:Nat→Nat) (he:xG p f=g) (h:bG f ov) (hE:KLt (b.length+k) g) (hk:k≤m) (hσ:∀j,j<k→σ j=j) (ho:KM (b.length+k) ov) (hb:YB b.length b)
  (ZAu:∀i j,i<m→j<m→σ i=σ j→i=j) (RE:∀j r',l1[j]? = some r'→∃r,l[σ j]? = some r∧RnR b.length m σ r r'):KA (kOf N f) b l (kOf N (kOv ov g)) b l1:=by
 subst he
 exact (KA.named p ov h).trans (KA.renM hm σ ZAu RE hb rfl (fun i x y hx hy=>by
  rw[hx]at hy;cases hy
  exact AVlt.rnK hσ hk ((hE.ov ho).env x (cd hx))))
theorem jW {cs:List AV}:one [.agg cs]=.agg cs:=rfl
def a_ncop:AFunc:=({c:=_}:CF Tryz.prog 109).c
theorem ZAR:CA Tryz.prog 109=some a_ncop:=by kernel_rfl
def a_nclone:AFunc:=({c:=_}:CF Tryz.prog 84).c
theorem kY:CA Tryz.prog 84=some a_nclone:=by kernel_rfl
def fU:List (Nat×Nat):=[(3,4),(20,31)]

theorem C1 {e:List AV} {l:List Row} {rs:List ARes} {Q:AV→List Row→List Row→Prop} {B:List Row} {ex:AExit} (hex:ex=.normal∨ex=.ret) (V sz:Nat) (hx:resVs e B l rs=some [.v .zsl]) (hR:YB B.length B) {b0 l0:List Row} (hB:B=b0++l0) (hq:Q (.sl B.length V 0 0) b0 (l0++[.live V sz []])) :
  KH rs Q b0.length ex e B l:=by
 refine IP hex hx (y:=.sl B.length V 0 0) (l':=[.live V sz []]) ((KA.trim (l1:=[]) rfl (by intro x hx;simp[one]at hx;subst hx;exact .v _) (by simpa using hR) wE).trans ?_) hB hq
 have:=KA.nilV (b:=B) (l:=[]) (sz:=sz) V
 simpa [one] using this
def fZ (sz bytes:Nat) (zs:List AV):AFunc:=⟨1,8,[.tmp 2],
 (.seq (.region [⟨(some 2),.mv (.c (.v .zsl)),none⟩])
 (.seq (.seq (.region [⟨(some 3),.mv (.t 0),none⟩,⟨(some 4),.isnil false (.t 3),none⟩])
 (.cond (.t 4) (.seq (.region [⟨(some 2),.mv (.c (.v .zsl)),none⟩])
 .ret)
 .skip))
 (.seq (.region [⟨(some 5),.bslice sz zs 0 [],none⟩,⟨(some 6),.mv (.t 0),none⟩,⟨(some 7),.append sz bytes (.t 5) (.t 6),none⟩,⟨(some 2),.mv (.t 7),none⟩])
 .ret)))⟩
theorem DI {P:Program} {f sz bytes:Nat} {zs:List AV} (hf:CA P f=some (fZ sz bytes zs)) (gO:bytes≤1000) (rows:List (List IV)) (hn:rows.length≤1000000) (b l:List Row) :
  ZA P f [.v (.isl sz rows)] b l (fun r b' l'=>r=.sl (b.length+l.length) 1 0 rows.length∧b'=b∧l'=l++[.live 1 sz (vs rows)]):=by
 refine XA hf rfl (by show 1≤8;decide) ?_
 intro B g hB hR hE hA;simp only[EA]at hA
 have hq:rows.length*bytes≤1000000*1000:=Nat.mul_le_mul hn gO
 have hr:rows.length*bytes≤140737488355328:=by omega
 have y6:rows.length≤140737488355328:=by omega
 simp (disch:=first|decide|omega) only[fZ,hA,go_sem]
 refine⟨fun h=>?_,?_⟩
 ·have h0:rows=[]:=md.1 h
  subst h0
  exact C1 (.inr rfl) 1 sz kR hR hB ⟨by rw[hB,am];rfl,rfl,rfl⟩
 ·refine IP (.inr rfl) (xs:=[.sl B.length 1 0 rows.length]) (y:=.sl B.length 1 0 rows.length) (l':=[.live 1 sz (vs rows)]) kR (KA.trim (l1:=[.live 1 sz (vs rows)]) (junk:=[]) rfl ?_ (hR.mono oM) ?_) hB ⟨by rw[hB,am],rfl,rfl⟩
  ·intro x hx
   simp[one]at hx
   subst hx
   simp (disch:=omega) only[lts.down,Nat.reduceLT,Nat.reduceAdd]
  ·simp (disch:=omega) only[lts.down,Nat.reduceLT,Nat.reduceAdd]
theorem SI (v:List Int) (hn:v.length≤1000000) (b l:List Row):ZA Tryz.prog 78 [.v (.isl 1 (v.map eI))] b l (fun r b' l'=>r=.sl (b.length+l.length) 1 0 v.length∧b'=b∧l'=l++[.live 1 1 (vs (v.map eI))]):=by
 have:=DI (P:=Tryz.prog) (f:=78) (sz:=1) (bytes:=8) (zs:=[.v (.int .i64 0)]) kK kE (v.map eI) (by simpa using hn) b l
 rwa [aa]at this
theorem aP (v:List (Int×Int)) (hn:v.length≤1000000) (b l:List Row):ZA Tryz.prog 59 [.v (.isl 2 (v.map eFt))] b l (fun r b' l'=>r=.sl (b.length+l.length) 1 0 v.length∧b'=b∧l'=l++[.live 1 2 (vs (v.map eFt))]):=by
 have:=DI (P:=Tryz.prog) (f:=59) (sz:=2) (bytes:=16) (zs:=[.v (.int .i64 0),.v (.int .i64 0)]) kK kE (v.map eFt) (by simpa using hn) b l
 rwa [aa]at this
theorem ZAD (v:List Ms) (hn:v.length≤1000000) (b l:List Row):ZA Tryz.prog 108 [.v (.isl 4 (v.map eMs))] b l (fun r b' l'=>r=.sl (b.length+l.length) 1 0 v.length∧b'=b∧l'=l++[.live 1 4 (vs (v.map eMs))]):=by
 have:=DI (P:=Tryz.prog) (f:=108) (sz:=4) (bytes:=48) (zs:=[.v (.int .i64 0),.v (.int .i64 0),.v (.int .i64 0),.v .zsl]) kK kE (v.map eMs) (by simpa using hn) b l
 rwa [aa]at this
theorem uP (m:Ms) (hn:m.body.length≤1000000) (b l:List Row):ZA Tryz.prog 109 [.agg (zMA m)] b l
  (fun r b' l'=>r=.agg [.v (.int .i64 m.fr),.v (.int .i64 m.to),.v (.int .i64 m.nu),.sl (b.length+l.length) 1 0 m.body.length]∧b'=b∧l'=l++[.live 1 1 (vs (m.body.map eI))]):=by
 refine XA ZAR rfl kE ?_
 intro B g hB hR hE hA;simp only[EA]at hA
 simp (disch:=first|decide|omega) only[a_ncop,hA,go_sem]
 refine ZA.nxt (SI m.body hn _ _) ?_
 simp (disch:=first|decide|omega) only[hA,go_sem]
 refine NJ (.inr rfl) (xs:=[.agg [.v (.int .i64 m.fr),.v (.int .i64 m.to),.v (.int .i64 m.nu),.sl (B.length+2) 1 0 m.body.length]]) (y:=.agg [.v (.int .i64 m.fr),.v (.int .i64 m.to),.v (.int .i64 m.nu),.sl B.length 1 0 m.body.length]) (l':=[.live 1 1 (vs (m.body.map eI))]) kR (m:=1) rfl (fun j=>j+2) (fun i j _ _ h=>by omega) (fun j r' h=>?_) ?_ hR hB ⟨by rw[hB,am],rfl,rfl⟩
 ·match j,h with
  |0,h=>cases h;exact⟨_,rfl,RnR.plain⟩
 ·rw[jW]
  exact Rn.aggL (.cons (.v _) (.cons (.v _) (.cons (.v _) (.cons (Rn.slE (j:=0) rfl kS) .nil))))
structure Lv where
 now:Int
 fifo:Bool
 vL:Nat
 vA:Nat
 o:Nat
 xs:List (Ms×Nat)
 tm:List Int
 fs:List (Int×Int)
 bd:List (List Int)
def lvE (base:Nat) (x:Ms×Nat):List AV:=[.v (.int .i64 x.1.fr),.v (.int .i64 x.1.to),.v (.int .i64 x.1.nu),.sl (base+(3+x.2)) 1 0 x.1.body.length]
def bdR (v:List Int):Row:=.live 1 1 (vs (v.map eI))
def Lv.av (z:Lv) (base:Nat):AV:=.agg [.v (.int .i64 z.now),.v (.bool z.fifo),.sl base z.vL 0 z.xs.length,.sl (base+1) z.vA 0 z.tm.length,.sl (base+2) 1 z.o (z.fs.length-z.o)]
def Lv.rows (z:Lv) (base:Nat):List Row:=.live z.vL 4 (z.xs.map (lvE base))::.live z.vA 1 (vs (z.tm.map eI))::.live 1 2 (vs (z.fs.map eFt))::z.bd.map bdR
structure Lv.ok (z:Lv):Prop where
 o:z.o≤z.fs.length
 bd:∀x∈z.xs,z.bd[x.2]? = some x.1.body
def Lv.nw (z:Lv):Nw:=⟨z.now,z.fifo,z.xs.map (·.1),z.tm,z.fs.drop z.o⟩
theorem Lv.dv {z:Lv} (h:z.ok) (base:Nat):Dv base (z.rows base) (z.av base) (.agg ((eNw z.nw).map .v)):=by
 unfold Lv.av Lv.rows eNw Lv.nw
 refine Dv.aggL (.cons (.v _) (.cons (.v _) (.cons ?_ (.cons ?_ (.cons ?_ .nil)))))
 ·refine Dv.slR (i:=0) rfl kS kS (fun k r row h1 h2=>?_)
  rw[br,ai]at h1
  rw[ai,ai]at h2
  cases hq:z.xs[k]? with
  |none=>rw[hq]at h1;cases h1
  |some x =>
    rw[hq]at h1 h2
    cases h1;cases h2
    have hb:=h.bd x (cd hq)
    unfold lvE eMs
    refine .cons (.v _) (.cons (.v _) (.cons (.v _) (.cons ?_ .nil)))
    refine Dv.slV (i:=3+x.2) (rows:=x.1.body.map eI) ?_ kS
    rw[ir 3]
    simp only[db,ai,hb]
    rfl
 ·exact Dv.slV (i:=1) (rows:=z.tm.map eI) rfl kS
 ·have:=Dv.slVoff (n:=base) (l:=.live z.vL 4 (z.xs.map (lvE base))::.live z.vA 1 (vs (z.tm.map eI))::.live 1 2 (vs (z.fs.map eFt))::z.bd.map bdR) (i:=2) (ver:=1) (sz:=2) (off:=z.o) (len:=z.fs.length-z.o) (rows:=z.fs.map eFt) rfl (by have:=h.o;simp;omega)
  rwa [←jb]at this
def clE (n:Nw) (base i:Nat):List (List AV):=fl n.l.length fun j=>if j<i then [.v (.int .i64 (n.l.getD j dfMs).fr),.v (.int .i64 (n.l.getD j dfMs).to),.v (.int .i64 (n.l.getD j dfMs).nu),.sl (base+(5+j)) 1 0 (n.l.getD j dfMs).body.length] else (eMs (n.l.getD j dfMs)).map .v
def clB (n:Nw) (j:Nat):Row:=bdR (n.l.getD j dfMs).body
theorem ZCc {n:Nw} {base:Nat}:clE n base 0=vs (n.l.map eMs):=by
 unfold clE vs
 apply ek
 intro j
 by_cases hj:j<n.l.length
 ·rw[IF hj,ai,ai,ae hj,if_neg oM,YA hj];rfl
 ·rw[CK oM,ce kT]
def ZD (n:Nw):Lv:=⟨n.now,n.fifo,1,1,0,fl n.l.length (fun i=>(n.l.getD i dfMs,i)),n.tm,n.fates,n.l.map (·.body)⟩
theorem eP (n:Nw):(ZD n).ok:=by
 refine⟨an _,fun x hx=>?_⟩
 obtain⟨i,hi,rfl⟩:=de.1 hx
 have hi:=bc.1 hi
 show (n.l.map (·.body))[i]? = _
 rw[ai,ae hi,YA hi];rfl
theorem bP (n:Nw):(ZD n).nw=n:=by
 have h:(ZD n).xs.map (·.1)=n.l:=by
  show (fl n.l.length fun i=>(n.l.getD i dfMs,i)).map (·.1)=n.l
  rw[ZDW];exact ZF4
 unfold Lv.nw
 rw[h];rfl
theorem FL (n:Nw) (hS:NwS n) (b l:List Row):ZA Tryz.prog 84 [.agg ((eNw n).map .v)] b l
  (fun r b' l'=>r=(ZD n).av (b.length+l.length)∧b'=b∧l'=l++(ZD n).rows (b.length+l.length)):=by
 refine XA kY rfl kE ?_
 intro B g hB hR hE hA;simp only[EA]at hA
 have hnl:=hS.l
 simp (disch:=first|decide|omega) only[a_nclone,hA,eNw,go_sem]
 refine ZA.nxt (SI n.tm hS.tm _ _) ?_
 simp (disch:=first|decide|omega) only[hA,go_sem]
 refine ZA.nxt (aP n.fates hS.fates _ _) ?_
 simp (disch:=first|decide|omega) only[hA,go_sem]
 refine ZA.nxt (ZAD n.l hS.l _ _) ?_
 simp (disch:=first|decide|omega) only[hA,go_sem]
 have hz:=ZCc (n:=n) (base:=B.length)
 refine ZB (ι:=Nat) fU (fun i=>[(20,.v (.int .i64 i))]) 5 (fun i=>.live 0 5 [[.v (.int .i64 n.now),.v (.bool n.fifo),.sl (B.length+4) 1 0 n.l.length,.sl (B.length+2) 1 0 n.tm.length,.sl (B.length+3) 1 0 n.fates.length]]::.live 0 5 [[.v (.int .i64 0),.v (.bool false),.v .zsl,.v .zsl,.v .zsl]]::.live 1 1 (vs (n.tm.map eI))::.live 1 2 (vs (n.fates.map eFt))::.live 1 4 (clE n B.length i)::fl i (clB n))
  (fun i=>i≤n.l.length) (fun i=>n.l.length-i) 0 (an _) kM kA (fun e=>by rw[hz];exact KA.refl _ _ _) ?_
 intro g1 aI bI aC i hi
 by_cases bB:i<n.l.length
 ·have TK:(clE n B.length i)[i]? = some [.v (.int .i64 n.l[i].fr),.v (.int .i64 n.l[i].to),.v (.int .i64 n.l[i].nu),.v (.isl 1 (n.l[i].body.map eI))]:=by
   unfold clE
   rw[IF bB,if_neg oM,YA bB];rfl
  simp (disch:=first|decide|omega) only[hA,aC,TK,fC,rE,iE,CC,UD,go_sem]
  refine ZA.nxt (uP n.l[i] (hS.body _ (ap bB)) _ _) ?_
  simp (disch:=first|decide|omega) only[hA,aC,TK,fC,rE,iE,CC,UD,cellsOf,go_sem]
  refine⟨i+1,bB,by simp only;omega,?_⟩
  obtain⟨σ,s1,s2⟩:∃σ:Nat→Nat,(∀j,j<5+i→σ j=j)∧(∀j,5+i≤j→σ j=j+1):=⟨fun j=>if j<5+i then j else j+1,fun j h=>if_pos h,fun j h=>if_neg oM⟩
  refine KA.kren (p:=fU) (k:=5) (m:=i+6) (by simp[fC]) σ kQ kA aI oM (fun j hj=>s1 j oM) kV hR (fun a c _ _ h=>?_) (fun j r' h=>?_)
  ·by_cases ha:a<5+i<;>by_cases hc:c<5+i
   ·rw[s1 a ha,s1 c hc]at h;exact h
   ·rw[s1 a ha,s2 c oM]at h;omega
   ·rw[s2 a oM,s1 c hc]at h;omega
   ·rw[s2 a oM,s2 c oM]at h;omega
  ·match j,h with
   |0,h=>rw[s1 0 oM];cases h;exact⟨_,rfl,RnR.rnK (k:=5) (fun j hj=>s1 j oM) oM kL⟩
   |1,h=>rw[s1 1 oM];cases h;exact⟨_,rfl,RnR.rnK (k:=5) (fun j hj=>s1 j oM) oM kL⟩
   |2,h=>rw[s1 2 oM];cases h;exact⟨_,rfl,RnR.plain⟩
   |3,h=>rw[s1 3 oM];cases h;exact⟨_,rfl,RnR.plain⟩
   |4,h =>
     rw[s1 4 oM];cases h
     refine⟨_,rfl,rfl,rfl,by unfold clE;rw[ec,fC,fC],fun k r r' h1 h2=>?_⟩
     by_cases hk:k<n.l.length
     ·unfold clE at h2
      rw[IF hk]at h2
      by_cases hki:i=k
      ·subst hki
       rw[bf (by unfold clE;rw[fC];exact hk)]at h1
       rw[if_pos oM,YA hk]at h2
       cases h1;cases h2
       exact .cons (.v _) (.cons (.v _) (.cons (.v _) (.cons (Rn.slE (j:=5+i) (by rw[s2 _ (ah _)];omega) oM) .nil)))
      ·rw[bq hki]at h1
       unfold clE at h1
       rw[IF hk]at h1
       by_cases hlk:k<i
       ·rw[if_pos hlk]at h1
        rw[if_pos oM]at h2
        cases h1;cases h2
        exact .cons (.v _) (.cons (.v _) (.cons (.v _) (.cons (Rn.slE (s1 _ oM) oM) .nil)))
       ·rw[if_neg hlk]at h1
        rw[if_neg oM]at h2
        cases h1;cases h2
        exact RnL.plain
     ·unfold clE at h2
      rw[CK oM]at h2;cases h2
   |j+5,h =>
     have h:(fl (i+1) (clB n))[j]? = some r':=h
     by_cases hj:j<i
     ·rw[s1 _ oM]
      rw[IF oM]at h;cases h
      exact⟨clB n j,by simp only[db];exact fz_at hj,RnR.plain⟩
     ·have PI:j=i:=by
       have:=(aj.1 h).1
       rw[fC]at this;omega
      subst PI
      rw[IF oM]at h;cases h
      rw[s2 _ oM]
      refine⟨clB n j,?_,RnR.plain⟩
      simp only[db]
      rw[iE]
      unfold clB bdR
      rw[YA bB];rfl
 ·obtain rfl:i=n.l.length:=by omega
  simp (disch:=first|decide|omega) only[hA,aC,go_sem]
  obtain⟨σ,s0,s1,s2,s3⟩:∃σ:Nat→Nat,σ 0=4∧σ 1=2∧σ 2=3∧(∀j,σ (j+3)=j+5):=⟨fun j=>if j=0 then 4 else if j=1 then 2 else if j=2 then 3 else j+2,rfl,rfl,rfl,fun j=>by simp only;rw[if_neg oM,if_neg oM,if_neg oM]⟩
  refine NJ (.inr rfl) (xs:=[.agg [.v (.int .i64 n.now),.v (.bool n.fifo),.sl (B.length+4) 1 0 n.l.length,.sl (B.length+2) 1 0 n.tm.length,.sl (B.length+3) 1 0 n.fates.length]]) (y:=(ZD n).av B.length) (l':=(ZD n).rows B.length) kR (m:=n.l.length+3) (by simp[Lv.rows,ZD]) σ (fun a c _ _ h=>?_) (fun j r' h=>?_) ?_ hR hB ⟨by rw[hB,am],rfl,by rw[hB,am]⟩
  ·match a,c,h with
   |0,0,_=>rfl
   |0,1,h=>rw[s0,s1]at h;omega
   |0,2,h=>rw[s0,s2]at h;omega
   |0,c+3,h=>rw[s0,s3]at h;omega
   |1,0,h=>rw[s0,s1]at h;omega
   |1,1,_=>rfl
   |1,2,h=>rw[s1,s2]at h;omega
   |1,c+3,h=>rw[s1,s3]at h;omega
   |2,0,h=>rw[s0,s2]at h;omega
   |2,1,h=>rw[s1,s2]at h;omega
   |2,2,_=>rfl
   |2,c+3,h=>rw[s2,s3]at h;omega
   |a+3,0,h=>rw[s0,s3]at h;omega
   |a+3,1,h=>rw[s1,s3]at h;omega
   |a+3,2,h=>rw[s2,s3]at h;omega
   |a+3,c+3,h=>rw[s3,s3]at h;omega
  ·match j,h with
   |0,h =>
     rw[s0];cases h
     refine⟨_,rfl,rfl,rfl,by unfold clE ZD;rw[aa,fC,fC],fun k r r' h1 h2=>?_⟩
     rw[ai]at h2
     have hx:(ZD n).xs=fl n.l.length (fun i=>(n.l.getD i dfMs,i)):=rfl
     rw[hx]at h2
     by_cases hk:k<n.l.length
     ·unfold clE at h1
      rw[IF hk,if_pos hk]at h1
      rw[IF hk]at h2
      cases h1;cases h2
      exact .cons (.v _) (.cons (.v _) (.cons (.v _) (.cons (Rn.slE (by rw[ir 3,s3];omega) (by simp only;omega)) .nil)))
     ·rw[CK oM]at h2;cases h2
   |1,h=>rw[s1];cases h;exact⟨_,rfl,RnR.plain⟩
   |2,h=>rw[s2];cases h;exact⟨_,rfl,RnR.plain⟩
   |j+3,h =>
     rw[s3]
     have h:((n.l.map (·.body)).map bdR)[j]? = some r':=h
     rw[List.map_map,ai]at h
     have hj:j<n.l.length:=by
      cases hq:n.l[j]? with
      |none=>rw[hq]at h;cases h
      |some x=>exact (aj.1 hq).1
     rw[ae hj]at h
     cases h
     refine⟨clB n j,?_,?_⟩
     ·simp only[db];exact IF hj
     ·unfold clB;rw[YA hj];exact RnR.plain
  ·rw[jW]
   unfold Lv.av
   have hxl:(ZD n).xs.length=n.l.length:=fC
   rw[hxl]
   exact Rn.aggL (.cons (.v _) (.cons (.v _) (.cons (Rn.slE (j:=0) s0 oM) (.cons (Rn.slE (j:=1) s1 oM) (.cons (Rn.slE (j:=2) s2 oM) .nil)))))
def a_narr:AFunc:=({c:=_}:CF Tryz.prog 107).c
theorem ZAS:CA Tryz.prog 107=some a_narr:=by kernel_rfl
def a_nWait:AFunc:=({c:=_}:CF Tryz.prog 83).c
theorem G4:CA Tryz.prog 83=some a_nWait:=by kernel_rfl
def IS:List (Nat×Nat):=[(5,6),(18,27)]
def a_nGo:AFunc:=({c:=_}:CF Tryz.prog 47).c
theorem ZCn:CA Tryz.prog 47=some a_nGo:=by kernel_rfl
def a_nNew:AFunc:=({c:=_}:CF Tryz.prog 26).c
theorem ZAT:CA Tryz.prog 26=some a_nNew:=by kernel_rfl
def a_cmpI:AFunc:=({c:=_}:CF Tryz.prog 126).c
theorem ZAY:CA Tryz.prog 126=some a_cmpI:=by kernel_rfl
def a_isNaN:AFunc:=({c:=_}:CF Tryz.prog 141).c
theorem P4:CA Tryz.prog 141=some a_isNaN:=by kernel_rfl
def a_bsf:AFunc:=({c:=_}:CF Tryz.prog 125).c
theorem ZCq:CA Tryz.prog 125=some a_bsf:=by kernel_rfl
def i5:List (Nat×Nat):=[(9,11),(15,34)]

theorem IU (n:Nw) (i:Nat) (hi:i<n.l.length) (ht:i<n.tm.length) (to:Int) (b l:List Row):ZA Tryz.prog 107 [.agg (zNA n),.v (.int .i64 i),.v (.int .i64 to)] b l (fun r b' l'=>r=.v (.bool (arB n to i))∧b'=b∧l'=l):=by
 refine XA ZAS rfl kE ?_
 intro B g hB hR hE hA;simp only[EA]at hA
 have hm:=sR hi
 have htm:=NG ht
 have lR:n.l.getD i dfMs=n.l[i]:=YA hi
 by_cases h1:n.l[i].to=to
 ·have d1:(n.l[i].to==to)=true:=by rw[h1];simp
  simp (disch:=first|decide|omega) only[a_narr,hA,hm,htm,d1,go_sem]
  exact QA (xs:=[.v (.bool (decide (n.tm.getD i 0≤n.now)))]) ⟨by unfold arB;rw[lR,ag h1];rfl,rfl,rfl⟩
 ·have d1:(n.l[i].to==to)=false:=fc.2 h1
  simp (disch:=first|decide|omega) only[a_narr,hA,hm,htm,d1,go_sem]
  exact QA (xs:=[.v (.bool false)]) ⟨by unfold arB;rw[lR,ak h1];rfl,rfl,rfl⟩
def dJ (n:Nw) (to:Int):Nat:=if nwB n=true∧ptB to=true then wtN n to n.l.length else 0
theorem OR (n:Nw) (to:Int) (b l:List Row):ZA Tryz.prog 83 [.agg ((eNw n).map .v),.v (.int .i64 to)] b l (fun r b' l'=>r=.v (.int .i64 (dJ n to))∧b'=b∧l'=l):=by
 refine XA G4 rfl kE ?_
 intro B g hB hR hE hA;simp only[EA]at hA
 have hV:=LG n
 unfold eNw at hV
 simp only[ba,bl]at hV
 simp (disch:=first|decide|omega) only[a_nWait,hA,eNw,go_sem]
 refine ZA.nxt (hV _ _) ?_
 cases h1:nwB n
 ·simp (disch:=first|decide|omega) only[hA,go_sem]
  exact QA (xs:=[.v (.int .i64 0)]) ⟨by unfold dJ;rw[h1];rfl,rfl,rfl⟩
 have hv:=TF.1 h1
 have hl:=hv.len
 have hlm:=hv.l
 simp (disch:=first|decide|omega) only[hA,go_sem]
 refine ZA.nxt (gJ to _ _) ?_
 cases h2:ptB to
 ·simp (disch:=first|decide|omega) only[hA,go_sem]
  exact QA (xs:=[.v (.int .i64 0)]) ⟨by unfold dJ;rw[if_neg (fun h=>by rw[h2]at h;cases h.2)];rfl,rfl,rfl⟩
 have z0:wtN n to 0=0:=rfl
 simp (disch:=first|decide|omega) only[hA,aa,go_sem]
 refine ZB (ι:=Nat) IS (fun i=>[(5,.v (.int .i64 (wtN n to i))),(18,.v (.int .i64 i))]) 1 (fun _=>[.live 0 5 [(zNA n)]])
  (fun i=>i≤n.l.length) (fun i=>n.l.length-i) 0 (an _) kM (by ((try simp (disch:=decide) only[hA,z0,go_sem])<;>exact kH)) kF ?_
 intro g1 aI bI aC i hi
 by_cases bB:i<n.l.length
 ·have hwl:=ZCx (n:=n) (to:=to) i
  simp (disch:=first|decide|omega) only[hA,aC,aa,go_sem]
  refine ZA.nxt (IU n i bB oM to _ _) ?_
  cases q:arB n to i
  ·have hs:wtN n to (i+1)=wtN n to i:=by simp only[wtN];rw[q];rfl
   simp (disch:=first|decide|omega) only[hA,aC,go_sem]
   refine⟨i+1,bB,by simp only;omega,?_⟩
   exact KA.kround (p:=IS) (k:=1) kQ (by ((try simp (disch:=decide) only[hA,hs,go_sem])<;>exact kH)) rfl aI kS kV hR kL
  ·have hs:wtN n to (i+1)=wtN n to i+1:=by simp only[wtN];rw[q];rfl
   simp (disch:=first|decide|omega) only[hA,aC,go_sem]
   refine⟨i+1,bB,by simp only;omega,?_⟩
   exact KA.kround (p:=IS) (k:=1) kQ (by ((try simp (disch:=decide) only[hA,hs,go_sem])<;>exact kH)) rfl aI kS kV hR kL
 ·obtain rfl:i=n.l.length:=by omega
  simp (disch:=first|decide|omega) only[hA,aC,aa,go_sem]
  exact QA (xs:=[.v (.int .i64 (wtN n to n.l.length))]) ⟨by unfold dJ;rw[if_pos ⟨h1,h2⟩];rfl,rfl,rfl⟩
theorem JS (x:Int) (b l:List Row):ZA Tryz.prog 141 [.v (.int .i64 x)] b l (fun r b' l'=>r=.v (.bool false)∧b'=b∧l'=l):=by
 refine XA P4 rfl kE ?_
 intro B g hB hR hE hA;simp only[EA]at hA
 have d1:(x != x)=false:=by simp
 simp (disch:=first|decide|omega) only[a_isNaN,hA,d1,go_sem]
 exact QA (xs:=[.v (.bool false)])
def TZ (x y:Int):Int:=if x<y then -1 else if y<x then 1 else 0
theorem JV (x y:Int) (b l:List Row):ZA Tryz.prog 126 [.v (.int .i64 x),.v (.int .i64 y)] b l (fun r b' l'=>r=.v (.int .i64 (TZ x y))∧b'=b∧l'=l):=by
 refine XA ZAY rfl kE ?_
 intro B g hB hR hE hA;simp only[EA]at hA
 simp (disch:=first|decide|omega) only[a_cmpI,hA,go_sem]
 refine ZA.nxt (JS x _ _) ?_
 simp (disch:=first|decide|omega) only[hA,go_sem]
 refine ZA.nxt (JS y _ _) ?_
 by_cases h1:x<y
 ·have d1:=ag h1
  simp (disch:=first|decide|omega) only[hA,d1,go_sem]
  exact QA (xs:=[.v (.int .i64 (-1))]) ⟨by unfold TZ;rw[if_pos h1];rfl,rfl,rfl⟩
 ·have d1:=ak h1
  by_cases h2:y<x
  ·have d2:=ag h2
   simp (disch:=first|decide|omega) only[hA,d1,d2,go_sem]
   exact QA (xs:=[.v (.int .i64 1)]) ⟨by unfold TZ;rw[if_neg h1,if_pos h2];rfl,rfl,rfl⟩
  ·have d2:=ak h2
   simp (disch:=first|decide|omega) only[hA,d1,d2,go_sem]
   exact QA (xs:=[.v (.int .i64 0)]) ⟨by unfold TZ;rw[if_neg h1,if_neg h2];rfl,rfl,rfl⟩
def ZB5 (tm:List Int) (a:Int):Bool:=decide (leN tm a<tm.length)&&(tm.getD (leN tm a) 0==a+1)
theorem N9 {B:List Row} {s:Nat} {r:Row} (h:B[s]? = some r) {l:List Row}:hget B l s=some r:=by
 unfold hget
 rw[if_pos (aj.1 h).1];exact h
theorem ZAE (tm:List Int) (hn:tm.length≤1000000) (hs:∀i j,i≤j→j<tm.length→tm.getD i 0≤tm.getD j 0) (a:Int) (id ver:Nat) (b l:List Row) (hid:(b++l)[id]? = some (.live ver 1 (vs (tm.map eI)))) :
  ZA Tryz.prog 125 [.sl id ver 0 tm.length,.v (.int .i64 (a+1)),.fn 126 []] b l (fun r b' l'=>r=.tup [.v (.int .i64 (leN tm a)),.v (.bool (ZB5 tm a))]∧b'=b∧l'=l):=by
 refine XA ZCq rfl kE ?_
 intro B g hB hR hE hA;simp only[EA]at hA
 have h10:decide ((1:Int)<0)=false:=rfl
 have ZES:=fun l=>N9 (l:=l) (hB.symm▸hid:B[id]? = some (.live ver 1 (vs (tm.map eI))))
 have ZAs:id<B.length:=(aj.1 (hB.symm▸hid:B[id]? = some (.live ver 1 (vs (tm.map eI))))).1
 have ZJz:=vT (l:=tm) (a:=a)
 simp (disch:=first|decide|omega) only[a_bsf,hA,aa,go_sem]
 refine ZB (ι:=Nat×Nat) i5 (fun i=>[(9,.v (.int .i64 i.1)),(10,.v (.int .i64 i.2))]) 0 (fun _=>[])
  (fun i=>i.1≤i.2∧i.2≤tm.length∧(∀q,q<i.1→tm.getD q 0≤a)∧∀q,i.2≤q→q<tm.length→a<tm.getD q 0) (fun i=>i.2-i.1) (0,tm.length) ⟨an _,ah _,fun q hq=>by simp only at hq;omega,fun q h1 h2=>by simp only at h1;omega⟩ kM kA kF ?_
 rintro g1 aI bI aC ⟨i,j⟩ ⟨hij,hj,hlo,hhi⟩
 simp only at hij hj hlo hhi
 by_cases bB:i<j
 ·have hw:IntKind.u64.wrap ((i:Int)+(j:Int))=((i+j:Nat):Int):=by rw[IntKind.wrap_u64];omega
  have hw2:IntKind.i64.wrap ((i:Int)+(j:Int))=(i:Int)+(j:Int):=zB oM oM
  have hf:Int.fdiv ((i+j:Nat):Int) 2=(((i+j) / 2:Nat):Int):=by rw[me _ kE];omega
  have hf3:Int.fdiv ((i+j:Nat):Int) (2 ^ Int.toNat 1)=(((i+j) / 2:Nat):Int):=hf
  have hm:(i+j) / 2<tm.length:=by omega
  have hmg:=NG hm
  have hw3:IntKind.i64.wrap (((i+j) / 2:Nat):Int)=(((i+j) / 2:Nat):Int):=zB oM oM
  simp (disch:=first|decide|omega) only[hA,aC,hw,hw2,hw3,hf,hf3,hmg,RF,h10,ZES,TB,go_sem]
  refine ZA.nxt (JV _ _ _ _) ?_
  by_cases hc:tm.getD ((i+j) / 2) 0<a+1
  ·have sM:TZ (tm.getD ((i+j) / 2) 0) (a+1)=-1:=if_pos hc
   have d1:decide ((-1:Int)<0)=true:=rfl
   rw[sM]
   have hw4:IntKind.i64.wrap ((((i+j) / 2:Nat):Int)+1)=(((i+j) / 2+1:Nat):Int):=by rw[zB oM oM];omega
   simp (disch:=first|decide|omega) only[hA,aC,d1,hw4,h10,ZES,TB,go_sem]
   refine⟨((i+j) / 2+1,j),⟨by simp only;omega,hj,fun q hq=>?_,hhi⟩,by simp only;omega,?_⟩
   ·simp only at hq
    have:=hs q ((i+j) / 2) oM hm
    omega
   ·exact KA.kround (p:=i5) (k:=0) kQ kA rfl aI kS kV hR kL
  ·have sM:decide (TZ (tm.getD ((i+j) / 2) 0) (a+1)<0)=false:=by
    unfold TZ
    rw[if_neg hc]
    split<;>rfl
   simp (disch:=first|decide|omega) only[hA,aC,sM,h10,ZES,TB,go_sem]
   refine⟨(i,(i+j) / 2),⟨by simp only;omega,by simp only;omega,hlo,fun q h1 h2=>?_⟩,by simp only;omega,?_⟩
   ·simp only at h1
    have:=hs ((i+j) / 2) q h1 h2
    omega
   ·exact KA.kround (p:=i5) (k:=0) kQ kA rfl aI kS kV hR kL
 ·obtain rfl:j=i:=by omega
  have nL:leN tm a=j:=ZHi hj hlo (fun h=>hhi j (ah _) h)
  have hnl:decide ((j:Int)<(j:Int))=false:=by simp
  by_cases yF:j<tm.length
  ·have d1:decide ((j:Int)<(tm.length:Int))=true:=ag oM
   have hmg:=NG yF
   simp (disch:=first|decide|omega) only[hA,aC,hnl,d1,hmg,h10,ZES,TB,go_sem]
   refine ZA.nxt (JV _ _ _ _) ?_
   have hc:(TZ (tm.getD j 0) (a+1)==0)=ZB5 tm a:=by
    unfold ZB5 TZ
    rw[nL,ag yF]
    have:=hhi j (ah _) yF
    rw[if_neg oM]
    by_cases he:tm.getD j 0=a+1
    ·rw[if_neg oM,he];simp
    ·rw[if_pos oM]
     have:(tm.getD j 0==a+1)=false:=by simpa using he
     rw[this];rfl
   simp (disch:=first|decide|omega) only[hA,aC,hc,go_sem]
   exact QA (xs:=[.v (.int .i64 j),.v (.bool (ZB5 tm a))]) ⟨by rw[nL];rfl,rfl,rfl⟩
  ·have d1:decide ((j:Int)<(tm.length:Int))=false:=ak oM
   have hc:ZB5 tm a=false:=by
    unfold ZB5
    rw[nL,ak yF];rfl
   simp (disch:=first|decide|omega) only[hA,aC,hnl,d1,h10,ZES,TB,go_sem]
   exact QA (xs:=[.v (.int .i64 j),.v (.bool false)]) ⟨by rw[nL,hc];rfl,rfl,rfl⟩
def nwA (n:Nw):AV:=.agg ((eNw n).map .v)
def zNw:AV:=.agg [.v (.int .i64 0),.v (.bool false),.v .zsl,.v .zsl,.v .zsl]
theorem TW {n:Nat} {l:List Row}:Dv n l zNw (nwA nw0):=
 Dv.aggL (.cons (.v _) (.cons (.v _) (.cons (.z 4) (.cons (.z 1) (.cons (.z 2) .nil)))))
def ZB4 (base:Nat):Option Lv→AV
 |some z=>z.av base
 |none=>zNw
def vV (base:Nat):Option Lv→List Row
 |some z=>z.rows base
 |none=>[]
def ZAi:Option Lv→Nw
 |some z=>z.nw
 |none=>nw0
theorem ZH0 {z:Option Lv} (h:∀y,z=some y→y.ok) (base:Nat):Dv base (vV base z) (ZB4 base z) (nwA (ZAi z)):=by
 cases z with
 |none=>exact TW
 |some y=>exact Lv.dv (h y rfl) base
theorem ZA.ownV {P:Program} {f:Nat} {args:List AV} {b l:List Row} {z:Option Lv} {e:IV} (hz:∀y,z=some y→y.ok)
  (h:ZA P f args b l (fun r b' l'=>r=.tup [ZB4 (b.length+l.length) z,.v e]∧b'=b∧l'=l++vV (b.length+l.length) z)) :
  ZA P f args b l (fun r b' l'=>r=.tup [nwA (ZAi z),.v e]∧b'=b∧l'=l):=
 ZA.deep (Dv.tupL (.cons (ZH0 hz _) (.cons (.v _) .nil))) h
def QU (l:List (Int×Int)):Int:=if 1000<l.length then 5 else if K6 l=true then 0 else 1
def ZU (fifo:Bool) (l:List (Int×Int)):Nw:=if QU l=0 then ⟨0,fifo,[],[],l⟩ else nw0
theorem c9 (fifo:Bool) (v:List (Int×Int)) (b l:List Row):ZA Tryz.prog 26 [.v (.bool fifo),.v (.isl 2 (v.map eFt))] b l (fun r b' l'=>r=.tup [nwA (ZU fifo v),.v (.int .i64 (QU v))]∧b'=b∧l'=l):=by
 refine XA ZAT rfl kE ?_
 intro B g hB hR hE hA;simp only[EA]at hA
 by_cases h1:1000<v.length
 ·have d1:decide ((1000:Int)<(v.length:Int))=true:=ag oM
  have he:QU v=5:=if_pos h1
  simp (disch:=first|decide|omega) only[a_nNew,hA,d1,cellsOf,go_sem]
  refine yC (.inr rfl) (xs:=[zNw,.v (.int .i64 5)]) (y:=.tup [nwA (ZU fifo v),.v (.int .i64 (QU v))]) (by simp (disch:=first|decide|omega) only[resVs,resV,hA,zNw,go_sem]) ?_ hR hB ⟨rfl,rfl,rfl⟩
  rw[he,show ZU fifo v=nw0 from by unfold ZU;rw[he];rfl]
  exact Dv.tupL (.cons TW (.cons (.v _) .nil))
 have d1:decide ((1000:Int)<(v.length:Int))=false:=ak oM
 simp (disch:=first|decide|omega) only[a_nNew,hA,d1,aa,go_sem]
 refine ZA.nxt (ER v oM _ _) ?_
 cases h2:K6 v
 ·have he:QU v=1:=by unfold QU;rw[if_neg h1,h2];rfl
  simp (disch:=first|decide|omega) only[hA,cellsOf,go_sem]
  refine yC (.inr rfl) (xs:=[zNw,.v (.int .i64 1)]) (y:=.tup [nwA (ZU fifo v),.v (.int .i64 (QU v))]) (by simp (disch:=first|decide|omega) only[resVs,resV,hA,zNw,go_sem]) ?_ hR hB ⟨rfl,rfl,rfl⟩
  rw[he,show ZU fifo v=nw0 from by unfold ZU;rw[he];rfl]
  exact Dv.tupL (.cons TW (.cons (.v _) .nil))
 have he:QU v=0:=by unfold QU;rw[if_neg h1,h2];rfl
 simp (disch:=first|decide|omega) only[hA,go_sem]
 refine ZA.nxt (aP v oM _ _) ?_
 simp (disch:=first|decide|omega) only[hA,cellsOf,go_sem]
 refine yC (.inr rfl) (xs:=[.agg [.v (.int .i64 0),.v (.bool fifo),.v .zsl,.v .zsl,.sl (B.length+1) 1 0 v.length],.v (.int .i64 0)]) (y:=.tup [nwA (ZU fifo v),.v (.int .i64 (QU v))]) kR ?_ hR hB ⟨rfl,rfl,rfl⟩
 rw[he,show ZU fifo v=⟨0,fifo,[],[],v⟩ from by unfold ZU;rw[if_pos he]]
 exact Dv.tupL (.cons (Dv.aggL (.cons (.v _) (.cons (.v _) (.cons (.z 4) (.cons (.z 1) (.cons (Dv.slV (i:=1) rfl kS) .nil)))))) (.cons (.v _) .nil))
def goE (n:Nw) (t:Int):Int:=if nwB n=true then (if t<0∨1099511627776<t then 2 else if t<n.now then 11 else 0) else 1
def goZ (n:Nw) (t:Int):Option Lv:=if goE n t=0 then some {ZD n with now:=t} else none
def goN (n:Nw) (t:Int):Nw:=if goE n t=0 then {n with now:=t} else nw0
theorem ZDV {n:Nw} {t:Int}:∀y,goZ n t=some y→y.ok:=by
 intro y h
 unfold goZ at h
 split at h
 ·cases h;exact⟨(eP n).o,(eP n).bd⟩
 ·cases h
theorem ZHl {n:Nw} {t:Int}:ZAi (goZ n t)=goN n t:=by
 unfold goZ goN
 split
 ·have:=bP n
  unfold ZAi
  unfold Lv.nw at this⊢
  simp only at this⊢
  rw[Nw.eq_iff]at this
  simp only at this
  rw[Nw.eq_iff]
  exact⟨rfl,this.2⟩
 ·rfl
theorem ZHg {z:Lv} (hz:z.ok) {n s m:Nat} (hm:z.bd.length+3≤m) {σ:Nat→Nat} (hσ:∀j,j<z.bd.length+3→σ j=j+s) {x:Ms×Nat} (hx:x∈z.xs):RnL n m σ (lvE (n+s) x) (lvE n x):=by
 have hb:=(aj.1 (hz.bd x hx)).1
 unfold lvE
 refine .cons (.v _) (.cons (.v _) (.cons (.v _) (.cons ?_ .nil)))
 rw[show n+s+(3+x.2)=n+(3+x.2+s) by omega]
 exact Rn.slE (hσ _ oM) oM
theorem Lv.rnA {z:Lv} {n s m:Nat} (hm:z.bd.length+3≤m) {σ:Nat→Nat} (hσ:∀j,j<z.bd.length+3→σ j=j+s):Rn n m σ (z.av (n+s)) (z.av n):=by
 unfold Lv.av
 refine Rn.aggL (.cons (.v _) (.cons (.v _) (.cons ?_ (.cons ?_ (.cons ?_ .nil)))))
 ·exact Rn.slE (i:=s) (j:=0) (by rw[hσ 0 oM];omega) oM
 ·rw[show n+s+1=n+(1+s) by omega]
  exact Rn.slE (hσ 1 oM) oM
 ·rw[show n+s+2=n+(2+s) by omega]
  exact Rn.slE (hσ 2 oM) oM
theorem Lv.rnR {z:Lv} (hz:z.ok) {n s m:Nat} (hm:z.bd.length+3≤m) {σ:Nat→Nat} (hσ:∀j,j<z.bd.length+3→σ j=j+s) {pre junk:List Row} (hp:pre.length=s) (j:Nat) (r':Row) (h:(z.rows n)[j]? = some r'):∃r,(pre++(z.rows (n+s)++junk))[σ j]? = some r∧RnR n m σ r r':=by
 have jD:(z.rows n).length=z.bd.length+3:=by simp[Lv.rows]
 have hj:=(aj.1 h).1
 rw[jD]at hj
 rw[hσ j hj,au oM,hp,gb,aw (by simp[Lv.rows];omega)]
 match j,h with
 |0,h =>
   cases h
   refine⟨_,rfl,rfl,rfl,by simp,fun k r r' h1 h2=>?_⟩
   rw[ai]at h1 h2
   cases hq:z.xs[k]? with
   |none=>rw[hq]at h1;cases h1
   |some x =>
     rw[hq]at h1 h2
     cases h1;cases h2
     exact ZHg hz hm hσ (cd hq)
 |1,h=>cases h;exact⟨_,rfl,RnR.plain⟩
 |2,h=>cases h;exact⟨_,rfl,RnR.plain⟩
 |j+3,h =>
   have h:(z.bd.map bdR)[j]? = some r':=h
   refine⟨r',h,?_⟩
   rw[ai]at h
   cases hq:z.bd[j]? with
   |none=>rw[hq]at h;cases h
   |some x=>rw[hq]at h;cases h;exact RnR.plain
theorem UZ {e:List AV} {l junk:List Row} {rs:List ARes} {Q:AV→List Row→List Row→Prop} {B:List Row} {ex:AExit} (hex:ex=.normal∨ex=.ret) {z:Lv} (hz:z.ok) {s:Nat} {c:IV} (hx:resVs e B l rs=some [z.av (B.length+s),.v c]) (hl:l.drop s=z.rows (B.length+s)++junk)
  (hR:YB B.length B) {b0 l0:List Row} (hB:B=b0++l0) (hq:Q (.tup [z.av B.length,.v c]) b0 (l0++z.rows B.length)):KH rs Q b0.length ex e B l:=by
 have hσ:∀j,j<z.bd.length+3→(fun j=>j+s) j=j+s:=fun _ _=>rfl
 have hp:(l.take s).length=s:=by
  have h:=congrArg List.length hl
  rw[fp,am]at h
  simp only[Lv.rows,ck]at h
  rw[bu];omega
 have uT:l=l.take s++(z.rows (B.length+s)++junk):=by rw[←hl,gq]
 rw[uT]at hx⊢
 exact NJ hex hx (y:=.tup [z.av B.length,.v c]) (l':=z.rows B.length) (m:=z.bd.length+3) (by simp[Lv.rows]) (fun j=>j+s) (fun i j _ _ h=>by have h:i+s=j+s:=h;omega) (fun j r' h=>Lv.rnR hz (ah _) hσ hp j r' h)
  (Rn.tupL (.cons (Lv.rnA (ah _) hσ) (.cons (.v _) .nil))) hR hB hq
theorem ZFO (n:Nw) (t:Int) (b l:List Row):ZA Tryz.prog 47 [.agg ((eNw n).map .v),.v (.int .i64 t)] b l
  (fun r b' l'=>r=.tup [ZB4 (b.length+l.length) (goZ n t),.v (.int .i64 (goE n t))]∧b'=b∧l'=l++vV (b.length+l.length) (goZ n t)):=by
 refine XA ZCn rfl kE ?_
 intro B g hB hR hE hA;simp only[EA]at hA
 have hV:=LG n
 have hC:=FL n
 unfold eNw at hV hC
 simp only[ba,bl]at hV hC
 have bad:goE n t≠0→goZ n t=none:=fun h=>if_neg h
 simp (disch:=first|decide|omega) only[a_nGo,hA,eNw,go_sem]
 refine ZA.nxt (hV _ _) ?_
 cases h1:nwB n
 ·have he:goE n t=1:=by unfold goE;rw[h1];rfl
  rw[bad (by rw[he];decide),he]
  simp (disch:=first|decide|omega) only[hA,cellsOf,go_sem]
  exact wC (.inr rfl) (xs:=[zNw,.v (.int .i64 1)]) (by simp (disch:=first|decide|omega) only[resVs,resV,hA,zNw,go_sem]) (by simp only[one,zNw,lts.down,Nat.reduceLT,Nat.reduceAdd]) hR hB ⟨rfl,rfl,by simp[vV]⟩
 by_cases h2:t<0
 ·have he:goE n t=2:=by unfold goE;rw[if_pos h1,if_pos (.inl h2)]
  rw[bad (by rw[he];decide),he]
  have d2:=ag h2
  simp (disch:=first|decide|omega) only[hA,d2,cellsOf,go_sem]
  exact wC (.inr rfl) (xs:=[zNw,.v (.int .i64 2)]) (by simp (disch:=first|decide|omega) only[resVs,resV,hA,zNw,go_sem]) (by simp only[one,zNw,lts.down,Nat.reduceLT,Nat.reduceAdd]) hR hB ⟨rfl,rfl,by simp[vV]⟩
 have d2:=ak h2
 by_cases h3:1099511627776<t
 ·have he:goE n t=2:=by unfold goE;rw[if_pos h1,if_pos (.inr h3)]
  rw[bad (by rw[he];decide),he]
  have d3:=ag h3
  simp (disch:=first|decide|omega) only[hA,d2,d3,cellsOf,go_sem]
  exact wC (.inr rfl) (xs:=[zNw,.v (.int .i64 2)]) (by simp (disch:=first|decide|omega) only[resVs,resV,hA,zNw,go_sem]) (by simp only[one,zNw,lts.down,Nat.reduceLT,Nat.reduceAdd]) hR hB ⟨rfl,rfl,by simp[vV]⟩
 have d3:=ak h3
 by_cases h4:t<n.now
 ·have he:goE n t=11:=by unfold goE;rw[if_pos h1,if_neg oM,if_pos h4]
  rw[bad (by rw[he];decide),he]
  have d4:=ag h4
  simp (disch:=first|decide|omega) only[hA,d2,d3,d4,cellsOf,go_sem]
  exact wC (.inr rfl) (xs:=[zNw,.v (.int .i64 11)]) (by simp (disch:=first|decide|omega) only[resVs,resV,hA,zNw,go_sem]) (by simp only[one,zNw,lts.down,Nat.reduceLT,Nat.reduceAdd]) hR hB ⟨rfl,rfl,by simp[vV]⟩
 have d4:=ak h4
 have he:goE n t=0:=by unfold goE;rw[if_pos h1,if_neg oM,if_neg h4]
 have hZ:goZ n t=some {ZD n with now:=t}:=if_pos he
 have DN:=ZDV _ hZ
 rw[hZ,he]
 simp (disch:=first|decide|omega) only[hA,d2,d3,d4,go_sem]
 refine ZA.nxt (hC (TF.1 h1).s _ _) ?_
 simp (disch:=first|decide|omega) only[hA,Lv.av,cellsOf,go_sem]
 refine UZ (.inr rfl) DN (s:=2) (c:=.int .i64 0) (junk:=[]) (by simp (disch:=first|decide|omega) only[resVs,resV,hA,Lv.av,go_sem]) ?_ hR hB ⟨by rw[hB,am];rfl,rfl,by rw[hB,am];rfl⟩
 simp only[cj,bw,cg]
 rfl
theorem ZCL (n:Nw) (t:Int) (b l:List Row):ZA Tryz.prog 47 [.agg ((eNw n).map .v),.v (.int .i64 t)] b l (fun r b' l'=>r=.tup [nwA (goN n t),.v (.int .i64 (goE n t))]∧b'=b∧l'=l):=by
 rw[←ZHl]
 exact ZA.ownV ZDV (ZFO n t b l)
open Go.Lib Go.RowKit
section
variable {P:Program} {w:World}
def spl (cur:Array Value) (p:Nat) (xs:List Value):Array Value:=(cur.toList.take p++xs++cur.toList.drop (p+xs.length)).toArray
theorem YF {cur:Array Value} {p:Nat} {xs:List Value} (h:p+xs.length≤cur.size):(spl cur p xs).size=cur.size:=by
 unfold spl
 simp only[eh,am,bu,fp,gh]
 omega
theorem SE {cur:Array Value} {p:Nat} {xs:List Value} (h:p+xs.length≤cur.size) (i:Nat):(spl cur p xs)[i]? = if p≤i∧i<p+xs.length then xs[i-p]? else cur[i]?:=by
 unfold spl
 have:=EI cur.toList xs p i (by simpa using h)
 simp only[iu]
 rw[this]
 simp
theorem gF {t u el ty:TypeId} {sz:Nat} (ht:P.underlying t=some (.slice el)) (hs:jE P el=some sz) {blk p n c m:Nat} {vx:Value} {news cur:Array Value} {T:TypeId}
  (hl:(Builtin.lenOf vx).run P w=.ok m w) (hf:(Builtin.firstCells sz (min m n) vx).run P w=.ok news w) (PZ:w.heap[blk]? = some (.cells cur T (0,0))) (cI:p+news.size≤cur.size) (h1:∀u∈news.toList,u.oneCell'=true) :
  (Builtin.copy_ #[t,u] ty #[.slice (some ⟨blk,p,none⟩) n c,vx]).run P w=.ok (goInt (min m n:Nat)) (w.setRow blk (spl cur p news.toList)):=by
 have tH:=run_storeCells_at P blk p T news.toList 0 cur w PZ (by simpa using cI) h1
 simp only[cm]at tH
 have ZIU:Nat.min m n=min m n:=rfl
 simp only[Builtin.copy_,run_underlying ht,aB hs,hl,Sem.run_bind,Result.andThen_ok,ZIU,hf,tH,Sem.run_pure,iu,dy,db]
 rfl
structure InsPost (w:World) (b sz n:Nat) (N:Array Value) (e:Ending) (w':World):Prop where
 out:∃blk o cap cur T,e=.returned (.slice (some ⟨blk,o,none⟩) (n+1) cap)∧w'.heap[blk]? = some (.cells cur T (0,0))∧n+1≤cap∧cap≤maxLen∧o+cap*sz≤cur.size ∧
  (∀j v,N[j]? = some v→cur[o+j]? = some v)∧(blk=b∨w.heap.size≤blk)∧∀k,k<w.heap.size→k≠blk→w'.heap[k]? = w.heap[k]?
 os:w'.os=w.os
 tape:w'.tape=w.tape
 output:w'.output=w.output
 size:w.heap.size≤w'.heap.size
end
theorem SX (b o n c vb vo vc:Nat) (cur X:Array Value) (T:TypeId) (w:World) (hb:w.heap[b]? = some (.cells cur T (0,0))) (qD:n+1≤c) (hc:c≤maxLen) (cI:o+c*1≤cur.size)
  (hX:X.size=1) (hXc:∀j u,X[j]? = some u→w.cell? ⟨vb,vo+j,none⟩=some u) (hX1:∀u∈X.toList,u.oneCell'=true) (O:Array Value) (hO:O.size=n*1) (j8:∀j u,O[j]? = some u→cur[o+j]? = some u) :
  Calls Tryz.prog 128 #[.slice (some ⟨b,o,none⟩) n c,.int .i64 n,.slice (some ⟨vb,vo,none⟩) 1 vc] w fun e w'=>InsPost w b 1 n (O++X) e w':=by
 have ht:=Tryz.underlying24
 have hs:jE Tryz.prog 3=some 1:=by kernel_rfl
 have hfc:(Builtin.firstCells 1 1 (.slice (some ⟨vb,vo,none⟩) 1 vc)).run Tryz.prog w=.ok X w:=by
  have:=fB (P:=Tryz.prog) (w:=w) (sz:=1) (n:=1) (len:=1) (cap:=vc) hXc oM (w2:=w) rfl
  rwa [show 1*1=X.size by omega,fq]at this
 obtain⟨W1,iI⟩:∃W1,w.setRow b (spl cur (o+n*1) X.toList)=W1:=⟨_,rfl⟩
 have TD:∀ty,(Builtin.append_ #[24,24] ty #[.slice (some ⟨b,o,none⟩) n c,.slice (some ⟨vb,vo,none⟩) 1 vc]).run Tryz.prog w=.ok (.slice (some ⟨b,o,none⟩) (n+1) c) W1:=fun ty=>by
  rw[←iI]
  exact aG (sz:=1) (m:=1) (vx:=.slice (some ⟨vb,vo,none⟩) 1 vc) (news:=X) ht ht rfl hs (by simp[Builtin.lenOf]) hfc oM qD hb oM hX1
 go_enter Tryz.func128,Tryz.ntmps128
 go_wp2_with (at_builtin;refine Lib.wpList_append_run _ rfl _ _ _ _ rfl _ _ rfl rfl _ _ (TD _) ?_)
 go_ret
 subst iI
 have NN:=YF (cur:=cur) (p:=o+n*1) (xs:=X.toList) kT
 refine⟨⟨b,o,c,_,T,rfl,setRow_heap w b cur _ T _ hb,qD,hc,by rw[NN];exact cI,fun j v hj=>?_,.inl rfl,fun k _ hk=>setRow_other w b k _ hk⟩,rfl,rfl,rfl,by simp[World.setRow]⟩
 rw[SE kT]
 by_cases hjn:j<n*1
 ·rw[if_neg oM]
  rw[cn oM]at hj
  exact j8 j v hj
 ·rw[ez oM,hO]at hj
  have fG:=(bp.1 hj).1
  rw[if_pos kT,show o+j-(o+n*1)=j-n*1 by omega]
  simpa using hj
theorem zQ (b n c vb vo vc:Nat) (base:Option Addr) (X:Array Value) (w:World) (qD:c<n+1) (hn:n≤1000000) (hX:X.size=1) (hXc:∀j u,X[j]? = some u→w.cell? ⟨vb,vo+j,none⟩=some u) (hX1:∀u∈X.toList,u.oneCell'=true)
  (O:Array Value) (hO:O.size=n*1) (hOf:(Builtin.firstCells 1 n (.slice base n c)).run Tryz.prog w.drew=.ok O w.drew) :
  Calls Tryz.prog 128 #[.slice base n c,.int .i64 n,.slice (some ⟨vb,vo,none⟩) 1 vc] w fun e w'=>InsPost w b 1 n (O++X) e w':=by
 have ht:=Tryz.underlying24
 have hs:jE Tryz.prog 3=some 1:=by kernel_rfl
 have gO:OO Tryz.prog 3=some 8:=by kernel_rfl
 have hz:vG Tryz.prog 3=some [.v (.int .i64 0)]:=by kernel_rfl
 obtain⟨i,zv,hi,YW,eZ⟩:=aE hz
 have hbz:i.bytes=8:=by simp[OO,hi]at gO;exact gO
 have hfc:(Builtin.firstCells 1 1 (.slice (some ⟨vb,vo,none⟩) 1 vc)).run Tryz.prog w.drew=.ok X w.drew:=by
  have:=fB (P:=Tryz.prog) (w:=w) (sz:=1) (n:=1) (len:=1) (cap:=vc) hXc oM (w2:=w.drew) rfl
  rwa [show 1*1=X.size by omega,fq]at this
 obtain⟨W1,iI⟩:∃W1,w.drew.alloc (.cells (O++X++Builtin.zeroCells zv.cells (grownCap w (n+1) c 3-(n+1))) 3)=W1:=⟨_,rfl⟩
 obtain⟨G,hG⟩:∃G,grownCap w (n+1) c 3=G:=⟨_,rfl⟩
 have TD:∀ty,(Builtin.append_ #[24,24] ty #[.slice base n c,.slice (some ⟨vb,vo,none⟩) 1 vc]).run Tryz.prog w=.ok (.slice (some ⟨w.heap.size,0,none⟩) (n+1) G) W1:=fun ty=>by
  rw[←iI,←hG]
  exact QH (sz:=1) (m:=1) (vx:=.slice (some ⟨vb,vo,none⟩) 1 vc) (news:=X) (olds:=O) ht ht rfl hs hi YW hbz (by simp[Builtin.lenOf]) hfc hOf qD oM oM kE
 have TK:=grownCap_ge w (n+1) c 3
 have sM:grownCap w (n+1) c 3≤maxLen:=grownCap_le_maxLen w _ c _ (by unfold maxLen;omega)
 have z6:zv.cells.size=1:=by
  obtain⟨c1,c2⟩:=tF (w:=w) (F:=fun _=>False) (L:=fun _ _=>none) eZ
  have:=c1.1;simp at this;omega
 have fin:InsPost w b 1 n (O++X) (.returned (.slice (some ⟨w.heap.size,0,none⟩) (n+1) G)) W1:=by
  rw[←iI,←hG]
  refine⟨⟨w.heap.size,0,_,_,_,rfl,heap_alloc_new w.drew _,TK,sM,?_,fun j v hj=>?_,.inr (ah _),fun k hk _=>heap_alloc_old w.drew _ hk⟩,rfl,rfl,rfl,by simp⟩
  ·rw[cf,cf,size_zeroCells,hO,hX,z6,br,←Nat.add_one_mul,←ca]
   exact ct _ oM
  ·rw[br,cn (bp.1 hj).1]
   exact hj
 go_enter Tryz.func128,Tryz.ntmps128
 cases base with
 |none =>
   go_wp2_with (at_builtin;refine Lib.wpList_append_run _ rfl _ _ _ _ rfl _ _ rfl rfl _ _ (TD _) ?_)
   all_goals (go_ret;exact fin)
 |some a =>
   obtain⟨ab,ao,asp⟩:=a
   go_wp2_with (at_builtin;refine Lib.wpList_append_run _ rfl _ _ _ _ rfl _ _ rfl rfl _ _ (TD _) ?_)
   all_goals (go_ret;exact fin)
theorem U2 (b o n c i vb vo vc:Nat) (cur X:Array Value) (T:TypeId) (w:World) (hb:w.heap[b]? = some (.cells cur T (0,0))) (hi:i<n) (hnc:n≤c) (qD:c<n+1) (hn:n≤1000000) (hX:X.size=1) (hXc:∀j u,X[j]? = some u→w.cell? ⟨vb,vo+j,none⟩=some u) (hX1:∀u∈X.toList,u.oneCell'=true)
  (O:Array Value) (hO:O.size=n*1) (j8:∀j u,O[j]? = some u→w.cell? ⟨b,o+j,none⟩=some u) (hO1:∀u∈O.toList,u.oneCell'=true) :
  Calls Tryz.prog 128 #[.slice (some ⟨b,o,none⟩) n c,.int .i64 i,.slice (some ⟨vb,vo,none⟩) 1 vc] w fun e w'=>InsPost w b 1 n (O.extract 0 (i*1)++X++O.extract (i*1) (n*1)) e w':=by
 have ht:=Tryz.underlying24
 have hti:=Tryz.underlying3
 have hs:jE Tryz.prog 3=some 1:=by kernel_rfl
 have gO:OO Tryz.prog 3=some 8:=by kernel_rfl
 have hz:vG Tryz.prog 3=some [.v (.int .i64 0)]:=by kernel_rfl
 obtain⟨inf,zv,nV,YW,eZ⟩:=aE hz
 have hbz:inf.bytes=8:=by simp[OO,nV]at gO;exact gO
 have NN:inf.size=1:=by simp[jE,nV]at hs;exact hs
 have z6:zv.cells.size=1:=by
  obtain⟨c1,c2⟩:=tF (w:=w) (F:=fun _=>False) (L:=fun _ _=>none) eZ
  have:=c1.1;simp at this;omega
 have hbw:b<w.heap.size:=(bp.1 hb).1
 have hx0:X[0]? = some X[0]:=gv oM
 have hvw:vb<w.heap.size:=block_lt_of_cell (hXc 0 _ hx0)
 have JG:(Builtin.firstCells inf.size i (.slice (some ⟨b,o,none⟩) i c)).run Tryz.prog w.drew=.ok (O.extract 0 (i*1)).toList.toArray w.drew:=by
  rw[NN,jk]
  exact fB (P:=Tryz.prog) (w:=w) (sz:=1) (n:=i) (len:=i) (cap:=c) j8 oM (w2:=w.drew) rfl
 have TK:=grownCap_ge w (n+1) c 3
 have sM:grownCap w (n+1) c 3≤maxLen:=grownCap_le_maxLen w _ c _ (by unfold maxLen;omega)
 have ZET:=sM
 unfold maxLen at ZET
 obtain⟨G,hG⟩:∃G,grownCap w (n+1) c 3=G:=⟨_,rfl⟩
 obtain⟨ROW,LZ⟩:∃ROW:Array Value,(O.extract 0 (i*1)).toList.toArray++Builtin.zeroCells zv.cells (n+1-i)++Builtin.zeroCells zv.cells (G-(n+1))=ROW:=⟨_,rfl⟩
 obtain⟨W1,iI⟩:∃W1,w.drew.alloc (.cells ROW 3)=W1:=⟨_,rfl⟩
 have hik:i+(n+1-i)=n+1:=by omega
 have VP:(n:Int)+1-(i:Int)=((n+1-i:Nat):Int):=by omega
 have hrz:∀ty,(Builtin.append_ #[24,3] ty #[.slice (some ⟨b,o,none⟩) i c,.int .i64 ((n:Int)+1-(i:Int))]).run Tryz.prog w=.ok (.slice (some ⟨w.heap.size,0,none⟩) (n+1) G) W1:=fun ty=>by
  have h:=Lib.run_append_grow_zeros w 24 3 ty 3 inf zv .i64 .i64 ht hti nV YW (some ⟨b,o,none⟩) i c _ JG (n+1-i) oM oM oM oM (by rw[hbz];omega) (by rw[hbz,hik];exact growslice_fits qD oM)
  rw[hik]at h
  rw[VP,h,←iI,←LZ,←hG]
 rw[hG]at TK sM ZET
 have hRs:ROW.size=G*1:=by
  rw[←LZ,cf,cf,size_zeroCells,size_zeroCells,z6,eh,gh,ft,hO]
  have:min (i*1) (n*1)-0=i*1:=by omega
  rw[this,←ca,←ca]
  congr 1;omega
 have gU:W1.heap[w.heap.size]? = some (.cells ROW 3 (0,0)):=by rw[←iI];exact heap_alloc_new w.drew _
 have mJ:∀k,k<w.heap.size→W1.heap[k]? = w.heap[k]?:=fun k hk=>by rw[←iI];exact heap_alloc_old w.drew _ hk
 have ZJw:W1.heap.size=w.heap.size+1:=by rw[←iI];simp
 have ZAv:∀j u,X[j]? = some u→W1.cell? ⟨vb,vo+j,none⟩=some u:=fun j u hj=>by
  have:=hXc j u hj
  rwa [←World.cell?_of_block (mJ vb hvw)]at this
 have hfx:(Builtin.firstCells 1 (min 1 (n+1-i)) (.slice (some ⟨vb,vo,none⟩) 1 vc)).run Tryz.prog W1=.ok X W1:=by
  have h1:min 1 (n+1-i)=1:=by omega
  rw[h1]
  have:=fB (P:=Tryz.prog) (w:=W1) (sz:=1) (n:=1) (len:=1) (cap:=vc) ZAv oM (w2:=W1) rfl
  rwa [show 1*1=X.size by omega,fq]at this
 obtain⟨W2,WM⟩:∃W2,W1.setRow w.heap.size (spl ROW (i) X.toList)=W2:=⟨_,rfl⟩
 have FZ:min 1 (n+1-i)=1:=by omega
 have hGm:(i+1)*1+(n-i)*1≤G*1:=by rw[←ca];exact ct _ oM
 have hXl:X.toList.length=1:=by simpa using hX
 have ZI3:∀ty dc,(Builtin.copy_ #[24,24] ty #[.slice (some ⟨w.heap.size,i,none⟩) (n+1-i) dc,.slice (some ⟨vb,vo,none⟩) 1 vc]).run Tryz.prog W1=.ok (goInt (1:Nat)) W2:=fun ty dc=>by
  have:=gF (P:=Tryz.prog) (w:=W1) (t:=24) (u:=24) (ty:=ty) ht hs (blk:=w.heap.size) (p:=i) (n:=n+1-i) (c:=dc) (m:=1) (vx:=.slice (some ⟨vb,vo,none⟩) 1 vc) (by simp[Builtin.lenOf]) hfx gU (by rw[hX,hRs];omega) hX1
  rw[FZ,WM]at this
  exact this
 obtain⟨R,hR⟩:∃R,O.extract (i*1) (n*1)=R:=⟨_,rfl⟩
 have U5:R.size=(n-i)*1:=by rw[←hR,ft,hO,je];omega
 have hR1:∀u∈R.toList,u.oneCell'=true:=fun u hu=>hO1 u (by
  rw[←hR,ic]at hu
  exact fd (dr hu))
 have hRg:∀j u,R[j]? = some u→O[i*1+j]? = some u:=fun j u hj=>by
  rw[←hR,fw]at hj
  split at hj
  ·exact hj
  ·cases hj
 have xU:W2.heap[w.heap.size]? = some (.cells (spl ROW (i) X.toList) 3 (0,0)):=by rw[←WM];exact setRow_heap W1 _ ROW _ _ _ gU
 have Y0:∀k,k<w.heap.size→W2.heap[k]? = w.heap[k]?:=fun k hk=>by rw[←WM,setRow_other W1 _ k _ oM];exact mJ k hk
 have mV:∀j u,R[j]? = some u→W2.cell? ⟨b,(o+i)+j,none⟩=some u:=fun j u hj=>by
  have:=j8 _ u (hRg j u hj)
  rw[←World.cell?_of_block (Y0 b hbw)]at this
  rwa [show o+(i*1+j)=o+i+j by omega]at this
 have yU:min (n-i) (n+1-(i+1))=n-i:=by omega
 have bZ:(Builtin.firstCells 1 (min (n-i) (n+1-(i+1))) (.slice (some ⟨b,o+i,none⟩) (n-i) (c-i))).run Tryz.prog W2.drew=.ok R W2.drew:=by
  rw[yU]
  have:=fB (P:=Tryz.prog) (w:=W2) (sz:=1) (n:=n-i) (len:=n-i) (cap:=c-i) mV oM (w2:=W2.drew) rfl
  rwa [show (n-i)*1=R.size by omega,fq]at this
 have hss:=YF (cur:=ROW) (p:=i) (xs:=X.toList) (by rw[hXl,hRs];omega)
 obtain⟨W3,hW3⟩:∃W3,W2.drew.setRow w.heap.size (spl (spl ROW (i) X.toList) ((i+1)) R.toList)=W3:=⟨_,rfl⟩
 have ZI4:∀ty dc,(Builtin.copy_ #[24,24] ty #[.slice (some ⟨w.heap.size,(i+1),none⟩) (n+1-(i+1)) dc,.slice (some ⟨b,o+i,none⟩) (n-i) (c-i)]).run Tryz.prog W2.drew=.ok (goInt (n-i:Nat)) W3:=fun ty dc=>by
  have:=gF (P:=Tryz.prog) (w:=W2.drew) (t:=24) (u:=24) (ty:=ty) ht hs (blk:=w.heap.size) (p:=(i+1)) (n:=n+1-(i+1)) (c:=dc) (m:=n-i) (vx:=.slice (some ⟨b,o+i,none⟩) (n-i) (c-i)) (by simp[Builtin.lenOf]) bZ xU (by rw[U5,hss,hRs];omega) hR1
  rw[yU,hW3]at this
  exact this
 have hz2:¬((i:Int)=(n:Int)):=by omega
 have hz3:(c:Int)<(n:Int)+1:=by omega
 have uF:IntKind.i64.wrap ((i:Int)+1)=(i:Int)+1:=by rw[IntKind.wrap_i64];omega
 have hw2:IntKind.i64.wrap ((n:Int)+1)=(n:Int)+1:=by rw[IntKind.wrap_i64];omega
 have uI:(0:Int)≤(i:Int)+1:=by omega
 have yF:i≤n:=by omega
 have htn:((i:Int)+1).toNat=i+1:=by omega
 have hb3:(i:Int)≤(n:Int):=by omega
 have hGi:¬(G=i):=by omega
 have ZLN:¬(G=i+1):=by omega
 have iT:¬(c=i):=by omega
 have kG:R.toList.length=(n-i)*1:=by simpa using U5
 have fin:InsPost w b 1 n (O.extract 0 (i*1)++X++R) (.returned (.slice (some ⟨w.heap.size,0,none⟩) (n+1) G)) W3:=by
  refine⟨⟨w.heap.size,0,G,_,_,rfl,by rw[←hW3];exact setRow_heap W2.drew _ _ _ _ _ xU,TK,sM,?_,fun j v hj=>?_,.inr (ah _),fun k hk _=>by rw[←hW3,setRow_other W2.drew _ k _ oM];exact Y0 k hk⟩,?_,?_,?_,?_⟩
  ·rw[YF (by rw[kG,hss,hRs];omega),hss,hRs];omega
  ·rw[br,SE (by rw[kG,hss,hRs];omega),kG]
   have hA:(O.extract 0 (i*1)).size=i*1:=by rw[ft,hO];omega
   by_cases h1:j<i*1
   ·rw[if_neg oM,SE (by rw[hXl,hRs];omega),if_neg oM]
    rw[cn (by rw[cf];omega),cn oM]at hj
    rw[←LZ,cn (by rw[cf,eh,gh];omega),cn (by rw[eh,gh];omega),jk]
    exact hj
   ·by_cases h2:j<i*1+1
    ·rw[if_neg oM,SE (by rw[hXl,hRs];omega),hXl,if_pos oM]
     rw[cn (by rw[cf];omega),ez oM,hA]at hj
     simpa using hj
    ·rw[ez (by rw[cf];omega),cf,hA,hX]at hj
     have fG:=(bp.1 hj).1
     rw[if_pos oM,show j-(i+1)=j-(i*1+1) by omega]
     simpa using hj
  ·rw[←hW3,←WM,←iI];rfl
  ·rw[←hW3,←WM,←iI];rfl
  ·rw[←hW3,←WM,←iI];rfl
  ·rw[←hW3,←WM,←iI];simp[World.setRow]
 have mixed:Tryz.prog.follows Departure.mixedOrders=true:=by kernel_rfl
 rw[hR]
 clear LZ hG hRs JG xU gU hss iI WM hW3 hik VP
 go_enter Tryz.func128,Tryz.ntmps128
 go_wp2_with (first
  |(at_builtin;refine Lib.wpList_append_run _ rfl _ _ _ _ rfl _ _ rfl rfl _ _ (hrz _) ?_)
  |(at_builtin;refine wpList_copy_runI _ rfl _ _ 24 24 rfl _ _ rfl rfl (ZI3 _ _) ?_))
 go_region_law_o (refine step_copy_runI rfl _ _ 24 24 rfl (.slice (some ⟨w.heap.size,(i+1),none⟩) (n+1-(i+1)) (G-(i+1))) (.slice (some ⟨b,o+i,none⟩) (n-i) (c-i)) (by simp[Act.eval,Act.put]) (by simp[Act.eval,Act.put]) (ZI4 3 (G-(i+1))) ?_)
 go_wp2
 go_ret
 exact fin
theorem J2 (b o n c i vb vo vc:Nat) (cur X curv:Array Value) (T Tv:TypeId) (w:World) (hb:w.heap[b]? = some (.cells cur T (0,0))) (hvb:w.heap[vb]? = some (.cells curv Tv (0,0))) (YH:vb≠b) (hi:i<n) (qD:n+1≤c) (hc:c≤maxLen) (cI:o+c*1≤cur.size) (hn:n≤1000000) (hX:X.size=1) (hXc:∀j u,X[j]? = some u→curv[vo+j]? = some u) (hX1:∀u∈X.toList,u.oneCell'=true)
  (O:Array Value) (hO:O.size=n*1) (j8:∀j u,O[j]? = some u→cur[o+j]? = some u) (hO1:∀u∈O.toList,u.oneCell'=true) :
  Calls Tryz.prog 128 #[.slice (some ⟨b,o,none⟩) n c,.int .i64 i,.slice (some ⟨vb,vo,none⟩) 1 vc] w fun e w'=>InsPost w b 1 n (O.extract 0 (i*1)++X++O.extract (i*1) (n*1)) e w':=by
 have ht:=Tryz.underlying24
 have hs:jE Tryz.prog 3=some 1:=by kernel_rfl
 have ZAw:=hc
 unfold maxLen at ZAw
 have sM:(n+1)*1≤c*1:=ct _ qD
 have ZDq:0<cur.size:=by omega
 have hov:∀lb cb,(callFunc 144 #[.slice (some ⟨vb,vo,none⟩) 1 vc,.slice (some ⟨b,o+(i+1),none⟩) lb cb]).run Tryz.prog w=.ok (.value (.bool false)) w:=fun lb cb=>by
  rw[run_callFunc_extern Tryz.func144 kK kK kK (e:=Extern.SlicesOverlaps.overlaps #[24,24] #[4]) kK,
   Lib.run_overlaps_apart w 24 4 3 ht 1 (fun w=>aB hs) ⟨vb,vo,none⟩ ⟨b,o+(i+1),none⟩ 1 vc lb cb YH Tv T curv.size cur.size (by simp[World.shape?,hvb]) (by simp[World.shape?,hb]) oM (by simp[World.frozen?,hvb]) (by simp[World.frozen?,hvb])]
  rfl
 obtain⟨R,hR⟩:∃R,O.extract (i*1) (n*1)=R:=⟨_,rfl⟩
 have U5:R.size=(n-i)*1:=by rw[←hR,ft,hO,je];omega
 have hR1:∀u∈R.toList,u.oneCell'=true:=fun u hu=>hO1 u (by
  rw[←hR,ic]at hu
  exact fd (dr hu))
 have hRg:∀j u,R[j]? = some u→O[i*1+j]? = some u:=fun j u hj=>by
  rw[←hR,fw]at hj
  split at hj
  ·exact hj
  ·cases hj
 have kG:R.toList.length=(n-i)*1:=by simpa using U5
 have hXl:X.toList.length=1:=by simpa using hX
 have yU:min (n+1-i) (n+1-(i+1))=n-i:=by omega
 have mV:∀j u,R[j]? = some u→w.cell? ⟨b,(o+i)+j,none⟩=some u:=fun j u hj=>by
  have:=j8 _ u (hRg j u hj)
  simp only[World.cell?,hb]
  rw[show o+i+j=o+(i*1+j) by omega]
  exact this
 have bZ:∀sc,(Builtin.firstCells 1 (min (n+1-i) (n+1-(i+1))) (.slice (some ⟨b,o+i,none⟩) (n+1-i) sc)).run Tryz.prog w.drew=.ok R w.drew:=fun sc=>by
  rw[yU]
  have:=fB (P:=Tryz.prog) (w:=w) (sz:=1) (n:=n-i) (len:=n+1-i) (cap:=sc) mV oM (w2:=w.drew) rfl
  rwa [show (n-i)*1=R.size by omega,fq]at this
 have hmm:(i+1)*1+(n-i)*1=(n+1)*1:=by rw[←ca];congr 1;omega
 have LI:=YF (cur:=cur) (p:=o+(i+1)) (xs:=R.toList) (by rw[kG];omega)
 obtain⟨W1,iI⟩:∃W1,w.drew.setRow b (spl cur (o+(i+1)) R.toList)=W1:=⟨_,rfl⟩
 have ZI5:∀ty dc sc,(Builtin.copy_ #[24,24] ty #[.slice (some ⟨b,o+(i+1),none⟩) (n+1-(i+1)) dc,.slice (some ⟨b,o+i,none⟩) (n+1-i) sc]).run Tryz.prog w.drew=.ok (goInt (n-i:Nat)) W1:=fun ty dc sc=>by
  have:=gF (P:=Tryz.prog) (w:=w.drew) (t:=24) (u:=24) (ty:=ty) ht hs (blk:=b) (p:=o+(i+1)) (n:=n+1-(i+1)) (c:=dc) (m:=n+1-i) (vx:=.slice (some ⟨b,o+i,none⟩) (n+1-i) sc) (by simp[Builtin.lenOf]) (bZ sc) hb (by rw[U5];omega) hR1
  rw[yU,iI]at this
  exact this
 have lJ:W1.heap[b]? = some (.cells (spl cur (o+(i+1)) R.toList) T (0,0)):=by rw[←iI];exact setRow_heap w.drew _ cur _ _ _ hb
 have mJ:∀k,k≠b→W1.heap[k]? = w.heap[k]?:=fun k hk=>by rw[←iI,setRow_other w.drew _ k _ hk];rfl
 have ZAv:∀j u,X[j]? = some u→W1.cell? ⟨vb,vo+j,none⟩=some u:=fun j u hj=>by
  have:=hXc j u hj
  simp only[World.cell?,mJ vb YH,hvb]
  exact this
 have FZ:min 1 (n+1-i)=1:=by omega
 have hfx:(Builtin.firstCells 1 (min 1 (n+1-i)) (.slice (some ⟨vb,vo,none⟩) 1 vc)).run Tryz.prog W1=.ok X W1:=by
  rw[FZ]
  have:=fB (P:=Tryz.prog) (w:=W1) (sz:=1) (n:=1) (len:=1) (cap:=vc) ZAv oM (w2:=W1) rfl
  rwa [show 1*1=X.size by omega,fq]at this
 obtain⟨W2,WM⟩:∃W2,W1.setRow b (spl (spl cur (o+(i+1)) R.toList) (o+i) X.toList)=W2:=⟨_,rfl⟩
 have ZI6:∀ty dc,(Builtin.copy_ #[24,24] ty #[.slice (some ⟨b,o+i,none⟩) (n+1-i) dc,.slice (some ⟨vb,vo,none⟩) 1 vc]).run Tryz.prog W1=.ok (goInt (1:Nat)) W2:=fun ty dc=>by
  have:=gF (P:=Tryz.prog) (w:=W1) (t:=24) (u:=24) (ty:=ty) ht hs (blk:=b) (p:=o+i) (n:=n+1-i) (c:=dc) (m:=1) (vx:=.slice (some ⟨vb,vo,none⟩) 1 vc) (by simp[Builtin.lenOf]) hfx lJ (by rw[hX,LI];omega) hX1
  rw[FZ,WM]at this
  exact this
 have hz2:¬((i:Int)=(n:Int)):=by omega
 have hz3:¬((c:Int)<(n:Int)+1):=by omega
 have uF:IntKind.i64.wrap ((i:Int)+1)=(i:Int)+1:=by rw[IntKind.wrap_i64];omega
 have hw2:IntKind.i64.wrap ((n:Int)+1)=(n:Int)+1:=by rw[IntKind.wrap_i64];omega
 have uI:(0:Int)≤(i:Int)+1:=by omega
 have hb0:(0:Int)≤(n:Int)+1:=by omega
 have yF:i≤n:=by omega
 have htn:((i:Int)+1).toNat=i+1:=by omega
 have ZLO:((n:Int)+1).toNat=n+1:=by omega
 have RO:¬(c=i+1):=by omega
 have hb3:(i:Int)≤(n:Int)+1:=by omega
 have hb4:¬(c=i):=by omega
 have hb5:(i:Int)+1≤(n:Int)+1:=by omega
 have hb6:(n:Int)+1≤(c:Int):=by omega
 have fin:InsPost w b 1 n (O.extract 0 (i*1)++X++R) (.returned (.slice (some ⟨b,o,none⟩) (n+1) c)) W2:=by
  refine⟨⟨b,o,c,_,T,rfl,by rw[←WM];exact setRow_heap W1 _ _ _ _ _ lJ,qD,hc,?_,fun j v hj=>?_,.inl rfl,fun k _ hk=>by rw[←WM,setRow_other W1 _ k _ hk];exact mJ k hk⟩,?_,?_,?_,?_⟩
  ·rw[YF (by rw[hXl,LI];omega),LI];exact cI
  ·have hA:(O.extract 0 (i*1)).size=i*1:=by rw[ft,hO];omega
   rw[SE (by rw[hXl,LI];omega),hXl]
   by_cases h1:j<i*1
   ·rw[if_neg oM,SE (by rw[kG];omega),if_neg oM]
    rw[cn (by rw[cf];omega),cn oM,fw]at hj
    split at hj
    ·refine j8 j v ?_
     simpa using hj
    ·cases hj
   ·by_cases h2:j<i*1+1
    ·rw[if_pos oM]
     rw[cn (by rw[cf];omega),ez oM,hA]at hj
     rw[show o+j-(o+i)=j-i*1 by omega]
     simpa using hj
    ·rw[if_neg oM,SE (by rw[kG];omega),kG]
     rw[ez (by rw[cf];omega),cf,hA,hX]at hj
     have fG:=(bp.1 hj).1
     rw[if_pos oM,show o+j-(o+(i+1))=j-(i*1+1) by omega]
     simpa using hj
  ·rw[←WM,←iI];rfl
  ·rw[←WM,←iI];rfl
  ·rw[←WM,←iI];rfl
  ·rw[←WM,←iI];simp[World.setRow]
 have mixed:Tryz.prog.follows Departure.mixedOrders=true:=by kernel_rfl
 rw[hR]
 clear lJ LI iI WM ZDq sM hmm
 go_enter Tryz.func128,Tryz.ntmps128
 go_wp2_with (simp only[hov])
 go_region_law_o (refine step_copy_runI rfl _ _ 24 24 rfl (.slice (some ⟨b,o+(i+1),none⟩) (n+1-(i+1)) (c-(i+1))) (.slice (some ⟨b,o+i,none⟩) (n+1-i) (c-i)) (by simp[Act.eval,Act.put]) (by simp[Act.eval,Act.put]) (ZI5 3 (c-(i+1)) (c-i)) ?_)
 go_wp2_with (at_builtin;refine wpList_copy_runI _ rfl _ _ 24 24 rfl _ _ rfl rfl (ZI6 _ _) ?_)
 go_ret
 exact fin
theorem RX (b o n c vb vo vc:Nat) (cur X:Array Value) (T:TypeId) (w:World) (hb:w.heap[b]? = some (.cells cur T (0,0))) (qD:n+1≤c) (hc:c≤maxLen) (cI:o+c*4≤cur.size)
  (hX:X.size=4) (hXc:∀j u,X[j]? = some u→w.cell? ⟨vb,vo+j,none⟩=some u) (hX1:∀u∈X.toList,u.oneCell'=true) (O:Array Value) (hO:O.size=n*4) (j8:∀j u,O[j]? = some u→cur[o+j]? = some u) :
  Calls Tryz.prog 127 #[.slice (some ⟨b,o,none⟩) n c,.int .i64 n,.slice (some ⟨vb,vo,none⟩) 1 vc] w fun e w'=>InsPost w b 4 n (O++X) e w':=by
 have ht:=Tryz.underlying23
 have hs:jE Tryz.prog 90=some 4:=by kernel_rfl
 have hfc:(Builtin.firstCells 4 1 (.slice (some ⟨vb,vo,none⟩) 1 vc)).run Tryz.prog w=.ok X w:=by
  have:=fB (P:=Tryz.prog) (w:=w) (sz:=4) (n:=1) (len:=1) (cap:=vc) hXc oM (w2:=w) rfl
  rwa [show 1*4=X.size by omega,fq]at this
 obtain⟨W1,iI⟩:∃W1,w.setRow b (spl cur (o+n*4) X.toList)=W1:=⟨_,rfl⟩
 have TD:∀ty,(Builtin.append_ #[23,23] ty #[.slice (some ⟨b,o,none⟩) n c,.slice (some ⟨vb,vo,none⟩) 1 vc]).run Tryz.prog w=.ok (.slice (some ⟨b,o,none⟩) (n+1) c) W1:=fun ty=>by
  rw[←iI]
  exact aG (sz:=4) (m:=1) (vx:=.slice (some ⟨vb,vo,none⟩) 1 vc) (news:=X) ht ht rfl hs (by simp[Builtin.lenOf]) hfc oM qD hb oM hX1
 go_enter Tryz.func127,Tryz.ntmps127
 go_wp2_with (at_builtin;refine Lib.wpList_append_run _ rfl _ _ _ _ rfl _ _ rfl rfl _ _ (TD _) ?_)
 go_ret
 subst iI
 have NN:=YF (cur:=cur) (p:=o+n*4) (xs:=X.toList) kT
 refine⟨⟨b,o,c,_,T,rfl,setRow_heap w b cur _ T _ hb,qD,hc,by rw[NN];exact cI,fun j v hj=>?_,.inl rfl,fun k _ hk=>setRow_other w b k _ hk⟩,rfl,rfl,rfl,by simp[World.setRow]⟩
 rw[SE kT]
 by_cases hjn:j<n*4
 ·rw[if_neg oM]
  rw[cn oM]at hj
  exact j8 j v hj
 ·rw[ez oM,hO]at hj
  have fG:=(bp.1 hj).1
  rw[if_pos kT,show o+j-(o+n*4)=j-n*4 by omega]
  simpa using hj
theorem KQ (b n c vb vo vc:Nat) (base:Option Addr) (X:Array Value) (w:World) (qD:c<n+1) (hn:n≤1000000) (hX:X.size=4) (hXc:∀j u,X[j]? = some u→w.cell? ⟨vb,vo+j,none⟩=some u) (hX1:∀u∈X.toList,u.oneCell'=true)
  (O:Array Value) (hO:O.size=n*4) (hOf:(Builtin.firstCells 4 n (.slice base n c)).run Tryz.prog w.drew=.ok O w.drew) :
  Calls Tryz.prog 127 #[.slice base n c,.int .i64 n,.slice (some ⟨vb,vo,none⟩) 1 vc] w fun e w'=>InsPost w b 4 n (O++X) e w':=by
 have ht:=Tryz.underlying23
 have hs:jE Tryz.prog 90=some 4:=by kernel_rfl
 have gO:OO Tryz.prog 90=some 48:=by kernel_rfl
 have hz:vG Tryz.prog 90=some [.v (.int .i64 0),.v (.int .i64 0),.v (.int .i64 0),.v .zsl]:=by kernel_rfl
 obtain⟨i,zv,hi,YW,eZ⟩:=aE hz
 have hbz:i.bytes=48:=by simp[OO,hi]at gO;exact gO
 have hfc:(Builtin.firstCells 4 1 (.slice (some ⟨vb,vo,none⟩) 1 vc)).run Tryz.prog w.drew=.ok X w.drew:=by
  have:=fB (P:=Tryz.prog) (w:=w) (sz:=4) (n:=1) (len:=1) (cap:=vc) hXc oM (w2:=w.drew) rfl
  rwa [show 1*4=X.size by omega,fq]at this
 obtain⟨W1,iI⟩:∃W1,w.drew.alloc (.cells (O++X++Builtin.zeroCells zv.cells (grownCap w (n+1) c 90-(n+1))) 90)=W1:=⟨_,rfl⟩
 obtain⟨G,hG⟩:∃G,grownCap w (n+1) c 90=G:=⟨_,rfl⟩
 have TD:∀ty,(Builtin.append_ #[23,23] ty #[.slice base n c,.slice (some ⟨vb,vo,none⟩) 1 vc]).run Tryz.prog w=.ok (.slice (some ⟨w.heap.size,0,none⟩) (n+1) G) W1:=fun ty=>by
  rw[←iI,←hG]
  exact QH (sz:=4) (m:=1) (vx:=.slice (some ⟨vb,vo,none⟩) 1 vc) (news:=X) (olds:=O) ht ht rfl hs hi YW hbz (by simp[Builtin.lenOf]) hfc hOf qD oM oM kE
 have TK:=grownCap_ge w (n+1) c 90
 have sM:grownCap w (n+1) c 90≤maxLen:=grownCap_le_maxLen w _ c _ (by unfold maxLen;omega)
 have z6:zv.cells.size=4:=by
  obtain⟨c1,c2⟩:=tF (w:=w) (F:=fun _=>False) (L:=fun _ _=>none) eZ
  have:=c1.1;simp at this;omega
 have fin:InsPost w b 4 n (O++X) (.returned (.slice (some ⟨w.heap.size,0,none⟩) (n+1) G)) W1:=by
  rw[←iI,←hG]
  refine⟨⟨w.heap.size,0,_,_,_,rfl,heap_alloc_new w.drew _,TK,sM,?_,fun j v hj=>?_,.inr (ah _),fun k hk _=>heap_alloc_old w.drew _ hk⟩,rfl,rfl,rfl,by simp⟩
  ·rw[cf,cf,size_zeroCells,hO,hX,z6,br,←Nat.add_one_mul,←ca]
   exact ct _ oM
  ·rw[br,cn (bp.1 hj).1]
   exact hj
 go_enter Tryz.func127,Tryz.ntmps127
 cases base with
 |none =>
   go_wp2_with (at_builtin;refine Lib.wpList_append_run _ rfl _ _ _ _ rfl _ _ rfl rfl _ _ (TD _) ?_)
   all_goals (go_ret;exact fin)
 |some a =>
   obtain⟨ab,ao,asp⟩:=a
   go_wp2_with (at_builtin;refine Lib.wpList_append_run _ rfl _ _ _ _ rfl _ _ rfl rfl _ _ (TD _) ?_)
   all_goals (go_ret;exact fin)
theorem V2 (b o n c i vb vo vc:Nat) (cur X:Array Value) (T:TypeId) (w:World) (hb:w.heap[b]? = some (.cells cur T (0,0))) (hi:i<n) (hnc:n≤c) (qD:c<n+1) (hn:n≤1000000) (hX:X.size=4) (hXc:∀j u,X[j]? = some u→w.cell? ⟨vb,vo+j,none⟩=some u) (hX1:∀u∈X.toList,u.oneCell'=true)
  (O:Array Value) (hO:O.size=n*4) (j8:∀j u,O[j]? = some u→w.cell? ⟨b,o+j,none⟩=some u) (hO1:∀u∈O.toList,u.oneCell'=true) :
  Calls Tryz.prog 127 #[.slice (some ⟨b,o,none⟩) n c,.int .i64 i,.slice (some ⟨vb,vo,none⟩) 1 vc] w fun e w'=>InsPost w b 4 n (O.extract 0 (i*4)++X++O.extract (i*4) (n*4)) e w':=by
 have ht:=Tryz.underlying23
 have hti:=Tryz.underlying3
 have hs:jE Tryz.prog 90=some 4:=by kernel_rfl
 have gO:OO Tryz.prog 90=some 48:=by kernel_rfl
 have hz:vG Tryz.prog 90=some [.v (.int .i64 0),.v (.int .i64 0),.v (.int .i64 0),.v .zsl]:=by kernel_rfl
 obtain⟨inf,zv,nV,YW,eZ⟩:=aE hz
 have hbz:inf.bytes=48:=by simp[OO,nV]at gO;exact gO
 have NN:inf.size=4:=by simp[jE,nV]at hs;exact hs
 have z6:zv.cells.size=4:=by
  obtain⟨c1,c2⟩:=tF (w:=w) (F:=fun _=>False) (L:=fun _ _=>none) eZ
  have:=c1.1;simp at this;omega
 have hbw:b<w.heap.size:=(bp.1 hb).1
 have hx0:X[0]? = some X[0]:=gv oM
 have hvw:vb<w.heap.size:=block_lt_of_cell (hXc 0 _ hx0)
 have JG:(Builtin.firstCells inf.size i (.slice (some ⟨b,o,none⟩) i c)).run Tryz.prog w.drew=.ok (O.extract 0 (i*4)).toList.toArray w.drew:=by
  rw[NN,jk]
  exact fB (P:=Tryz.prog) (w:=w) (sz:=4) (n:=i) (len:=i) (cap:=c) j8 oM (w2:=w.drew) rfl
 have TK:=grownCap_ge w (n+1) c 90
 have sM:grownCap w (n+1) c 90≤maxLen:=grownCap_le_maxLen w _ c _ (by unfold maxLen;omega)
 have ZET:=sM
 unfold maxLen at ZET
 obtain⟨G,hG⟩:∃G,grownCap w (n+1) c 90=G:=⟨_,rfl⟩
 obtain⟨ROW,LZ⟩:∃ROW:Array Value,(O.extract 0 (i*4)).toList.toArray++Builtin.zeroCells zv.cells (n+1-i)++Builtin.zeroCells zv.cells (G-(n+1))=ROW:=⟨_,rfl⟩
 obtain⟨W1,iI⟩:∃W1,w.drew.alloc (.cells ROW 90)=W1:=⟨_,rfl⟩
 have hik:i+(n+1-i)=n+1:=by omega
 have VP:(n:Int)+1-(i:Int)=((n+1-i:Nat):Int):=by omega
 have hrz:∀ty,(Builtin.append_ #[23,3] ty #[.slice (some ⟨b,o,none⟩) i c,.int .i64 ((n:Int)+1-(i:Int))]).run Tryz.prog w=.ok (.slice (some ⟨w.heap.size,0,none⟩) (n+1) G) W1:=fun ty=>by
  have h:=Lib.run_append_grow_zeros w 23 3 ty 90 inf zv .i64 .i64 ht hti nV YW (some ⟨b,o,none⟩) i c _ JG (n+1-i) oM oM oM oM (by rw[hbz];omega) (by rw[hbz,hik];exact growslice_fits qD oM)
  rw[hik]at h
  rw[VP,h,←iI,←LZ,←hG]
 rw[hG]at TK sM ZET
 have hRs:ROW.size=G*4:=by
  rw[←LZ,cf,cf,size_zeroCells,size_zeroCells,z6,eh,gh,ft,hO]
  have:min (i*4) (n*4)-0=i*4:=by omega
  rw[this,←ca,←ca]
  congr 1;omega
 have gU:W1.heap[w.heap.size]? = some (.cells ROW 90 (0,0)):=by rw[←iI];exact heap_alloc_new w.drew _
 have mJ:∀k,k<w.heap.size→W1.heap[k]? = w.heap[k]?:=fun k hk=>by rw[←iI];exact heap_alloc_old w.drew _ hk
 have ZJw:W1.heap.size=w.heap.size+1:=by rw[←iI];simp
 have ZAv:∀j u,X[j]? = some u→W1.cell? ⟨vb,vo+j,none⟩=some u:=fun j u hj=>by
  have:=hXc j u hj
  rwa [←World.cell?_of_block (mJ vb hvw)]at this
 have hfx:(Builtin.firstCells 4 (min 1 (n+1-i)) (.slice (some ⟨vb,vo,none⟩) 1 vc)).run Tryz.prog W1=.ok X W1:=by
  have h1:min 1 (n+1-i)=1:=by omega
  rw[h1]
  have:=fB (P:=Tryz.prog) (w:=W1) (sz:=4) (n:=1) (len:=1) (cap:=vc) ZAv oM (w2:=W1) rfl
  rwa [show 1*4=X.size by omega,fq]at this
 obtain⟨W2,WM⟩:∃W2,W1.setRow w.heap.size (spl ROW ((i)*4) X.toList)=W2:=⟨_,rfl⟩
 have FZ:min 1 (n+1-i)=1:=by omega
 have hGm:(i+1)*4+(n-i)*4≤G*4:=by rw[←ca];exact ct _ oM
 have hXl:X.toList.length=4:=by simpa using hX
 have ZI3:∀ty dc,(Builtin.copy_ #[23,23] ty #[.slice (some ⟨w.heap.size,(i)*4,none⟩) (n+1-i) dc,.slice (some ⟨vb,vo,none⟩) 1 vc]).run Tryz.prog W1=.ok (goInt (1:Nat)) W2:=fun ty dc=>by
  have:=gF (P:=Tryz.prog) (w:=W1) (t:=23) (u:=23) (ty:=ty) ht hs (blk:=w.heap.size) (p:=(i)*4) (n:=n+1-i) (c:=dc) (m:=1) (vx:=.slice (some ⟨vb,vo,none⟩) 1 vc) (by simp[Builtin.lenOf]) hfx gU (by rw[hX,hRs];omega) hX1
  rw[FZ,WM]at this
  exact this
 obtain⟨R,hR⟩:∃R,O.extract (i*4) (n*4)=R:=⟨_,rfl⟩
 have U5:R.size=(n-i)*4:=by rw[←hR,ft,hO,je];omega
 have hR1:∀u∈R.toList,u.oneCell'=true:=fun u hu=>hO1 u (by
  rw[←hR,ic]at hu
  exact fd (dr hu))
 have hRg:∀j u,R[j]? = some u→O[i*4+j]? = some u:=fun j u hj=>by
  rw[←hR,fw]at hj
  split at hj
  ·exact hj
  ·cases hj
 have xU:W2.heap[w.heap.size]? = some (.cells (spl ROW ((i)*4) X.toList) 90 (0,0)):=by rw[←WM];exact setRow_heap W1 _ ROW _ _ _ gU
 have Y0:∀k,k<w.heap.size→W2.heap[k]? = w.heap[k]?:=fun k hk=>by rw[←WM,setRow_other W1 _ k _ oM];exact mJ k hk
 have mV:∀j u,R[j]? = some u→W2.cell? ⟨b,(o+(i)*4)+j,none⟩=some u:=fun j u hj=>by
  have:=j8 _ u (hRg j u hj)
  rw[←World.cell?_of_block (Y0 b hbw)]at this
  rwa [show o+(i*4+j)=o+(i)*4+j by omega]at this
 have yU:min (n-i) (n+1-(i+1))=n-i:=by omega
 have bZ:(Builtin.firstCells 4 (min (n-i) (n+1-(i+1))) (.slice (some ⟨b,o+(i)*4,none⟩) (n-i) (c-i))).run Tryz.prog W2.drew=.ok R W2.drew:=by
  rw[yU]
  have:=fB (P:=Tryz.prog) (w:=W2) (sz:=4) (n:=n-i) (len:=n-i) (cap:=c-i) mV oM (w2:=W2.drew) rfl
  rwa [show (n-i)*4=R.size by omega,fq]at this
 have hss:=YF (cur:=ROW) (p:=(i)*4) (xs:=X.toList) (by rw[hXl,hRs];omega)
 obtain⟨W3,hW3⟩:∃W3,W2.drew.setRow w.heap.size (spl (spl ROW ((i)*4) X.toList) ((i+1)*4) R.toList)=W3:=⟨_,rfl⟩
 have ZI4:∀ty dc,(Builtin.copy_ #[23,23] ty #[.slice (some ⟨w.heap.size,(i+1)*4,none⟩) (n+1-(i+1)) dc,.slice (some ⟨b,o+(i)*4,none⟩) (n-i) (c-i)]).run Tryz.prog W2.drew=.ok (goInt (n-i:Nat)) W3:=fun ty dc=>by
  have:=gF (P:=Tryz.prog) (w:=W2.drew) (t:=23) (u:=23) (ty:=ty) ht hs (blk:=w.heap.size) (p:=(i+1)*4) (n:=n+1-(i+1)) (c:=dc) (m:=n-i) (vx:=.slice (some ⟨b,o+(i)*4,none⟩) (n-i) (c-i)) (by simp[Builtin.lenOf]) bZ xU (by rw[U5,hss,hRs];omega) hR1
  rw[yU,hW3]at this
  exact this
 have hz2:¬((i:Int)=(n:Int)):=by omega
 have hz3:(c:Int)<(n:Int)+1:=by omega
 have uF:IntKind.i64.wrap ((i:Int)+1)=(i:Int)+1:=by rw[IntKind.wrap_i64];omega
 have hw2:IntKind.i64.wrap ((n:Int)+1)=(n:Int)+1:=by rw[IntKind.wrap_i64];omega
 have uI:(0:Int)≤(i:Int)+1:=by omega
 have yF:i≤n:=by omega
 have htn:((i:Int)+1).toNat=i+1:=by omega
 have hb3:(i:Int)≤(n:Int):=by omega
 have hGi:¬(G=i):=by omega
 have ZLN:¬(G=i+1):=by omega
 have iT:¬(c=i):=by omega
 have kG:R.toList.length=(n-i)*4:=by simpa using U5
 have fin:InsPost w b 4 n (O.extract 0 (i*4)++X++R) (.returned (.slice (some ⟨w.heap.size,0,none⟩) (n+1) G)) W3:=by
  refine⟨⟨w.heap.size,0,G,_,_,rfl,by rw[←hW3];exact setRow_heap W2.drew _ _ _ _ _ xU,TK,sM,?_,fun j v hj=>?_,.inr (ah _),fun k hk _=>by rw[←hW3,setRow_other W2.drew _ k _ oM];exact Y0 k hk⟩,?_,?_,?_,?_⟩
  ·rw[YF (by rw[kG,hss,hRs];omega),hss,hRs];omega
  ·rw[br,SE (by rw[kG,hss,hRs];omega),kG]
   have hA:(O.extract 0 (i*4)).size=i*4:=by rw[ft,hO];omega
   by_cases h1:j<i*4
   ·rw[if_neg oM,SE (by rw[hXl,hRs];omega),if_neg oM]
    rw[cn (by rw[cf];omega),cn oM]at hj
    rw[←LZ,cn (by rw[cf,eh,gh];omega),cn (by rw[eh,gh];omega),jk]
    exact hj
   ·by_cases h2:j<i*4+4
    ·rw[if_neg oM,SE (by rw[hXl,hRs];omega),hXl,if_pos oM]
     rw[cn (by rw[cf];omega),ez oM,hA]at hj
     simpa using hj
    ·rw[ez (by rw[cf];omega),cf,hA,hX]at hj
     have fG:=(bp.1 hj).1
     rw[if_pos oM,show j-(i+1)*4=j-(i*4+4) by omega]
     simpa using hj
  ·rw[←hW3,←WM,←iI];rfl
  ·rw[←hW3,←WM,←iI];rfl
  ·rw[←hW3,←WM,←iI];rfl
  ·rw[←hW3,←WM,←iI];simp[World.setRow]
 have mixed:Tryz.prog.follows Departure.mixedOrders=true:=by kernel_rfl
 rw[hR]
 clear LZ hG hRs JG xU gU hss iI WM hW3 hik VP
 go_enter Tryz.func127,Tryz.ntmps127
 go_wp2_with (first
  |(at_builtin;refine Lib.wpList_append_run _ rfl _ _ _ _ rfl _ _ rfl rfl _ _ (hrz _) ?_)
  |(at_builtin;refine wpList_copy_runI _ rfl _ _ 23 23 rfl _ _ rfl rfl (ZI3 _ _) ?_))
 go_region_law_o (refine step_copy_runI rfl _ _ 23 23 rfl (.slice (some ⟨w.heap.size,(i+1)*4,none⟩) (n+1-(i+1)) (G-(i+1))) (.slice (some ⟨b,o+(i)*4,none⟩) (n-i) (c-i)) (by simp[Act.eval,Act.put]) (by simp[Act.eval,Act.put]) (ZI4 3 (G-(i+1))) ?_)
 go_wp2
 go_ret
 exact fin
theorem Y2 (b o n c i vb vo vc:Nat) (cur X curv:Array Value) (T Tv:TypeId) (w:World) (hb:w.heap[b]? = some (.cells cur T (0,0))) (hvb:w.heap[vb]? = some (.cells curv Tv (0,0))) (YH:vb≠b) (hi:i<n) (qD:n+1≤c) (hc:c≤maxLen) (cI:o+c*4≤cur.size) (hn:n≤1000000) (hX:X.size=4) (hXc:∀j u,X[j]? = some u→curv[vo+j]? = some u) (hX1:∀u∈X.toList,u.oneCell'=true)
  (O:Array Value) (hO:O.size=n*4) (j8:∀j u,O[j]? = some u→cur[o+j]? = some u) (hO1:∀u∈O.toList,u.oneCell'=true) :
  Calls Tryz.prog 127 #[.slice (some ⟨b,o,none⟩) n c,.int .i64 i,.slice (some ⟨vb,vo,none⟩) 1 vc] w fun e w'=>InsPost w b 4 n (O.extract 0 (i*4)++X++O.extract (i*4) (n*4)) e w':=by
 have ht:=Tryz.underlying23
 have hs:jE Tryz.prog 90=some 4:=by kernel_rfl
 have ZAw:=hc
 unfold maxLen at ZAw
 have sM:(n+1)*4≤c*4:=ct _ qD
 have ZDq:0<cur.size:=by omega
 have hov:∀lb cb,(callFunc 142 #[.slice (some ⟨vb,vo,none⟩) 1 vc,.slice (some ⟨b,o+(i+1)*4,none⟩) lb cb]).run Tryz.prog w=.ok (.value (.bool false)) w:=fun lb cb=>by
  rw[run_callFunc_extern Tryz.func142 kK kK kK (e:=Extern.SlicesOverlaps.overlaps #[23,23] #[4]) kK,
   Lib.run_overlaps_apart w 23 4 90 ht 4 (fun w=>aB hs) ⟨vb,vo,none⟩ ⟨b,o+(i+1)*4,none⟩ 1 vc lb cb YH Tv T curv.size cur.size (by simp[World.shape?,hvb]) (by simp[World.shape?,hb]) oM (by simp[World.frozen?,hvb]) (by simp[World.frozen?,hvb])]
  rfl
 obtain⟨R,hR⟩:∃R,O.extract (i*4) (n*4)=R:=⟨_,rfl⟩
 have U5:R.size=(n-i)*4:=by rw[←hR,ft,hO,je];omega
 have hR1:∀u∈R.toList,u.oneCell'=true:=fun u hu=>hO1 u (by
  rw[←hR,ic]at hu
  exact fd (dr hu))
 have hRg:∀j u,R[j]? = some u→O[i*4+j]? = some u:=fun j u hj=>by
  rw[←hR,fw]at hj
  split at hj
  ·exact hj
  ·cases hj
 have kG:R.toList.length=(n-i)*4:=by simpa using U5
 have hXl:X.toList.length=4:=by simpa using hX
 have yU:min (n+1-i) (n+1-(i+1))=n-i:=by omega
 have mV:∀j u,R[j]? = some u→w.cell? ⟨b,(o+(i)*4)+j,none⟩=some u:=fun j u hj=>by
  have:=j8 _ u (hRg j u hj)
  simp only[World.cell?,hb]
  rw[show o+(i)*4+j=o+(i*4+j) by omega]
  exact this
 have bZ:∀sc,(Builtin.firstCells 4 (min (n+1-i) (n+1-(i+1))) (.slice (some ⟨b,o+(i)*4,none⟩) (n+1-i) sc)).run Tryz.prog w.drew=.ok R w.drew:=fun sc=>by
  rw[yU]
  have:=fB (P:=Tryz.prog) (w:=w) (sz:=4) (n:=n-i) (len:=n+1-i) (cap:=sc) mV oM (w2:=w.drew) rfl
  rwa [show (n-i)*4=R.size by omega,fq]at this
 have hmm:(i+1)*4+(n-i)*4=(n+1)*4:=by rw[←ca];congr 1;omega
 have LI:=YF (cur:=cur) (p:=o+(i+1)*4) (xs:=R.toList) (by rw[kG];omega)
 obtain⟨W1,iI⟩:∃W1,w.drew.setRow b (spl cur (o+(i+1)*4) R.toList)=W1:=⟨_,rfl⟩
 have ZI5:∀ty dc sc,(Builtin.copy_ #[23,23] ty #[.slice (some ⟨b,o+(i+1)*4,none⟩) (n+1-(i+1)) dc,.slice (some ⟨b,o+(i)*4,none⟩) (n+1-i) sc]).run Tryz.prog w.drew=.ok (goInt (n-i:Nat)) W1:=fun ty dc sc=>by
  have:=gF (P:=Tryz.prog) (w:=w.drew) (t:=23) (u:=23) (ty:=ty) ht hs (blk:=b) (p:=o+(i+1)*4) (n:=n+1-(i+1)) (c:=dc) (m:=n+1-i) (vx:=.slice (some ⟨b,o+(i)*4,none⟩) (n+1-i) sc) (by simp[Builtin.lenOf]) (bZ sc) hb (by rw[U5];omega) hR1
  rw[yU,iI]at this
  exact this
 have lJ:W1.heap[b]? = some (.cells (spl cur (o+(i+1)*4) R.toList) T (0,0)):=by rw[←iI];exact setRow_heap w.drew _ cur _ _ _ hb
 have mJ:∀k,k≠b→W1.heap[k]? = w.heap[k]?:=fun k hk=>by rw[←iI,setRow_other w.drew _ k _ hk];rfl
 have ZAv:∀j u,X[j]? = some u→W1.cell? ⟨vb,vo+j,none⟩=some u:=fun j u hj=>by
  have:=hXc j u hj
  simp only[World.cell?,mJ vb YH,hvb]
  exact this
 have FZ:min 1 (n+1-i)=1:=by omega
 have hfx:(Builtin.firstCells 4 (min 1 (n+1-i)) (.slice (some ⟨vb,vo,none⟩) 1 vc)).run Tryz.prog W1=.ok X W1:=by
  rw[FZ]
  have:=fB (P:=Tryz.prog) (w:=W1) (sz:=4) (n:=1) (len:=1) (cap:=vc) ZAv oM (w2:=W1) rfl
  rwa [show 1*4=X.size by omega,fq]at this
 obtain⟨W2,WM⟩:∃W2,W1.setRow b (spl (spl cur (o+(i+1)*4) R.toList) (o+(i)*4) X.toList)=W2:=⟨_,rfl⟩
 have ZI6:∀ty dc,(Builtin.copy_ #[23,23] ty #[.slice (some ⟨b,o+(i)*4,none⟩) (n+1-i) dc,.slice (some ⟨vb,vo,none⟩) 1 vc]).run Tryz.prog W1=.ok (goInt (1:Nat)) W2:=fun ty dc=>by
  have:=gF (P:=Tryz.prog) (w:=W1) (t:=23) (u:=23) (ty:=ty) ht hs (blk:=b) (p:=o+(i)*4) (n:=n+1-i) (c:=dc) (m:=1) (vx:=.slice (some ⟨vb,vo,none⟩) 1 vc) (by simp[Builtin.lenOf]) hfx lJ (by rw[hX,LI];omega) hX1
  rw[FZ,WM]at this
  exact this
 have hz2:¬((i:Int)=(n:Int)):=by omega
 have hz3:¬((c:Int)<(n:Int)+1):=by omega
 have uF:IntKind.i64.wrap ((i:Int)+1)=(i:Int)+1:=by rw[IntKind.wrap_i64];omega
 have hw2:IntKind.i64.wrap ((n:Int)+1)=(n:Int)+1:=by rw[IntKind.wrap_i64];omega
 have uI:(0:Int)≤(i:Int)+1:=by omega
 have hb0:(0:Int)≤(n:Int)+1:=by omega
 have yF:i≤n:=by omega
 have htn:((i:Int)+1).toNat=i+1:=by omega
 have ZLO:((n:Int)+1).toNat=n+1:=by omega
 have RO:¬(c=i+1):=by omega
 have hb3:(i:Int)≤(n:Int)+1:=by omega
 have hb4:¬(c=i):=by omega
 have hb5:(i:Int)+1≤(n:Int)+1:=by omega
 have hb6:(n:Int)+1≤(c:Int):=by omega
 have fin:InsPost w b 4 n (O.extract 0 (i*4)++X++R) (.returned (.slice (some ⟨b,o,none⟩) (n+1) c)) W2:=by
  refine⟨⟨b,o,c,_,T,rfl,by rw[←WM];exact setRow_heap W1 _ _ _ _ _ lJ,qD,hc,?_,fun j v hj=>?_,.inl rfl,fun k _ hk=>by rw[←WM,setRow_other W1 _ k _ hk];exact mJ k hk⟩,?_,?_,?_,?_⟩
  ·rw[YF (by rw[hXl,LI];omega),LI];exact cI
  ·have hA:(O.extract 0 (i*4)).size=i*4:=by rw[ft,hO];omega
   rw[SE (by rw[hXl,LI];omega),hXl]
   by_cases h1:j<i*4
   ·rw[if_neg oM,SE (by rw[kG];omega),if_neg oM]
    rw[cn (by rw[cf];omega),cn oM,fw]at hj
    split at hj
    ·refine j8 j v ?_
     simpa using hj
    ·cases hj
   ·by_cases h2:j<i*4+4
    ·rw[if_pos oM]
     rw[cn (by rw[cf];omega),ez oM,hA]at hj
     rw[show o+j-(o+(i)*4)=j-i*4 by omega]
     simpa using hj
    ·rw[if_neg oM,SE (by rw[kG];omega),kG]
     rw[ez (by rw[cf];omega),cf,hA,hX]at hj
     have fG:=(bp.1 hj).1
     rw[if_pos oM,show o+j-(o+(i+1)*4)=j-(i*4+4) by omega]
     simpa using hj
  ·rw[←WM,←iI];rfl
  ·rw[←WM,←iI];rfl
  ·rw[←WM,←iI];rfl
  ·rw[←WM,←iI];simp[World.setRow]
 have mixed:Tryz.prog.follows Departure.mixedOrders=true:=by kernel_rfl
 rw[hR]
 clear lJ LI iI WM ZDq sM hmm
 go_enter Tryz.func127,Tryz.ntmps127
 go_wp2_with (simp only[hov])
 go_region_law_o (refine step_copy_runI rfl _ _ 23 23 rfl (.slice (some ⟨b,o+(i+1)*4,none⟩) (n+1-(i+1)) (c-(i+1))) (.slice (some ⟨b,o+(i)*4,none⟩) (n+1-i) (c-i)) (by simp[Act.eval,Act.put]) (by simp[Act.eval,Act.put]) (ZI5 3 (c-(i+1)) (c-i)) ?_)
 go_wp2_with (at_builtin;refine wpList_copy_runI _ rfl _ _ 23 23 rfl _ _ rfl rfl (ZI6 _ _) ?_)
 go_ret
 exact fin
end Go.Proofs.YtadnnjchehjbiaaGreatDoor
namespace Go.Proofs.YtadnnjchehjbiaaGreatDoor
open Go.Lib Go.RowKit
set_option linter.unusedVariables false
set_option linter.unusedSimpArgs false
section
variable {P:Program} {w:World}
theorem YO {t el ty:TypeId} {z:Value} (ht:P.underlying t=some (.slice el)) (hv:∀w,(zeroValue el).run P w=.ok z w) {b p c:Nat} {cur:Array Value} {T:TypeId} {zl:List Value} (hz:(Builtin.zeroCells z.cells 1).toList=zl)
  (PZ:w.heap[b]? = some (.cells cur T (0,0))) (cI:p+zl.length≤cur.size) (h1:∀u∈zl,u.oneCell'=true) :
  (Builtin.clear_ #[t] ty #[.slice (some ⟨b,p,none⟩) 1 c]).run P w=.ok (.tuple #[]) (w.setRow b (spl cur p zl)):=by
 have tH:=run_storeCells_at P b p T zl 0 cur w PZ (by simpa using cI) h1
 simp only[cm]at tH
 change _=Result.ok () (w.setRow b (spl cur p zl)) at tH
 obtain⟨W,hW⟩:∃W,w.setRow b (spl cur p zl)=W:=⟨_,rfl⟩
 rw[hW]at tH⊢
 simp[Builtin.clear_,run_underlying ht,hv,hz,tH]
theorem jG {ops:Array Oper} {o:Oper} {a:Act} {K:Act→World→Prop} {Q:Exit→Act→World→Prop} {E:Prop} (hg:o.guard=none) (d x:Operand) (dT sT:TypeId) (hop:o.op=Op.call {callee:=Callee.builtin Builtin.append,args:=#[d,x],argTypes:=#[dT,sT]})
  (v u:Value) (hd:a.eval d=v) (hx:a.eval x=u) {v':Value} {w':World} (hr:(Builtin.append_ #[dT,sT] o.type #[v,u]).run P w=.ok v' w') (hK:K (a.put o.dst v') w') :
  if Region.wanted o (yielded ops a.tmps)=true then Oper.wp P o a w K Q else E:=by
 rw[if_pos (by simp[Region.wanted,hg])]
 exact Lib.wp_append_run w d x dT sT hop v u hd hx v' w' hr hK
structure DelPost (w:World) (b o c n:Nat) (sz:Nat) (N:Array Value) (e:Ending) (w':World):Prop where
 out:∃cur T,e=.returned (.slice (some ⟨b,o,none⟩) n c)∧w'.heap[b]? = some (.cells cur T (0,0))∧o+c*sz≤cur.size∧(∀j v,N[j]? = some v→cur[o+j]? = some v)
 old:∀k,k≠b→w'.heap[k]? = w.heap[k]?
 os:w'.os=w.os
 tape:w'.tape=w.tape
 output:w'.output=w.output
 size:w'.heap.size=w.heap.size
end
theorem ZAC (b o n c i:Nat) (cur:Array Value) (T:TypeId) (w:World) (hb:w.heap[b]? = some (.cells cur T (0,0))) (hi:i<n) (hnc:n≤c) (hc:c≤maxLen) (cI:o+c*1≤cur.size)
  (O:Array Value) (hO:O.size=n*1) (j8:∀j u,O[j]? = some u→cur[o+j]? = some u) (hO1:∀u∈O.toList,u.oneCell'=true) :
  Calls Tryz.prog 130 #[.slice (some ⟨b,o,none⟩) n c,.int .i64 i,.int .i64 ((i:Int)+1)] w fun e w'=>DelPost w b o c (n-1) 1 (O.extract 0 (i*1)++O.extract ((i+1)*1) (n*1)) e w':=by
 have ht:=Tryz.underlying24
 have hs:jE Tryz.prog 3=some 1:=by kernel_rfl
 have hzv:(Tryz.prog.info? 3).bind (·.zero)=some (.int .i64 0):=by kernel_rfl
 have hzr:∀w,(zeroValue 3).run Tryz.prog w=.ok (.int .i64 0) w:=fun w=>by
  cases yF:Tryz.prog.info? 3 with
  |none=>rw[yF]at hzv;cases hzv
  |some inf=>rw[yF]at hzv;simp[zeroValue,typeInfo,yF,show inf.zero=some (.int .i64 0) from hzv]
 have ZAw:=hc
 unfold maxLen at ZAw
 have sM:n*1≤c*1:=ct _ hnc
 obtain⟨R,hR⟩:∃R,O.extract ((i+1)*1) (n*1)=R:=⟨_,rfl⟩
 have U5:R.size=(n-(i+1))*1:=by rw[←hR,ft,hO,je];omega
 have hR1:∀u∈R.toList,u.oneCell'=true:=fun u hu=>hO1 u (by
  rw[←hR,ic]at hu
  exact fd (dr hu))
 have hRg:∀j u,R[j]? = some u→O[(i+1)*1+j]? = some u:=fun j u hj=>by
  rw[←hR,fw]at hj
  split at hj
  ·exact hj
  ·cases hj
 have kG:R.toList.length=(n-(i+1))*1:=by simpa using U5
 have hmm:(i+1)*1+(n-(i+1))*1=n*1:=by rw[←ca];congr 1;omega
 obtain⟨W1,iI⟩:∃W1,w.drew.setRow b (spl cur (o+i*1) R.toList)=W1:=⟨_,rfl⟩
 have LI:=YF (cur:=cur) (p:=o+i*1) (xs:=R.toList) (by rw[kG];omega)
 have lJ:W1.heap[b]? = some (.cells (spl cur (o+i*1) R.toList) T (0,0)):=by rw[←iI];exact setRow_heap w.drew _ cur _ _ _ hb
 have mJ:∀k,k≠b→W1.heap[k]? = w.heap[k]?:=fun k hk=>by rw[←iI,setRow_other w.drew _ k _ hk];rfl
 have mV:∀j u,R[j]? = some u→w.cell? ⟨b,(o+(i+1))+j,none⟩=some u:=fun j u hj=>by
  have:=j8 _ u (hRg j u hj)
  simp only[World.cell?,hb]
  rw[show o+(i+1)+j=o+((i+1)*1+j) by omega]
  exact this
 obtain⟨A,hA,bZ⟩:∃A:Addr,(if c=i+1 then (⟨b,o,none⟩:Addr) else ⟨b,o+(i+1),none⟩)=A∧(Builtin.firstCells 1 (n-(i+1)) (.slice (some A) (n-(i+1)) (c-(i+1)))).run Tryz.prog w.drew=.ok R w.drew:=by
  refine⟨_,rfl,?_⟩
  by_cases h:c=i+1
  ·have h0:n-(i+1)=0:=by omega
   have hRe:R=#[]:=ji (by rw[U5,h0,ip])
   rw[h0,hRe,if_pos h]
   simp[Builtin.firstCells,loadCells,loadCellsFrom]
  ·rw[if_neg h]
   have:=fB (P:=Tryz.prog) (w:=w) (sz:=1) (n:=n-(i+1)) (len:=n-(i+1)) (cap:=c-(i+1)) mV oM (w2:=w.drew) rfl
   rwa [show (n-(i+1))*1=R.size by omega,fq]at this
 have hap:∀ty,(Builtin.append_ #[24,24] ty #[.slice (some ⟨b,o,none⟩) i c,.slice (some A) (n-(i+1)) (c-(i+1))]).run Tryz.prog w.drew=.ok (.slice (some ⟨b,o,none⟩) (n-1) c) W1:=fun ty=>by
  have:=aG (P:=Tryz.prog) (w:=w.drew) (t:=24) (u:=24) (ty:=ty) (sz:=1) (m:=n-(i+1)) (vx:=.slice (some A) (n-(i+1)) (c-(i+1))) (news:=R) (blk:=b) (p:=o) (len:=i) (cap:=c) ht ht rfl hs (by simp[Builtin.lenOf]) bZ U5 oM hb oM hR1
  rw[show i+(n-(i+1))=n-1 by omega]at this
  rw[←iI]
  exact this
 have z6:(Builtin.zeroCells (Value.cells (.int .i64 0)) 1).toList=[.int .i64 0]:=by kernel_rfl
 have hnm:(n-1)*1+1=n*1:=by rw[←ka];congr 1;omega
 obtain⟨W2,WM⟩:∃W2,W1.setRow b (spl (spl cur (o+i*1) R.toList) (o+(n-1)) [.int .i64 0])=W2:=⟨_,rfl⟩
 have EP:∀ty dc,(Builtin.clear_ #[24] ty #[.slice (some ⟨b,o+(n-1),none⟩) (n-(n-1)) dc]).run Tryz.prog W1=.ok (.tuple #[]) W2:=fun ty dc=>by
  rw[←WM,show n-(n-1)=1 by omega]
  exact YO ht hzr z6 lJ (by rw[LI];simp;omega) (by simp[Value.oneCell'])
 have fin:DelPost w b o c (n-1) 1 (O.extract 0 (i*1)++R) (.returned (.slice (some ⟨b,o,none⟩) (n-1) c)) W2:=by
  have ZEU:([.int .i64 0]:List Value).length=1:=rfl
  refine⟨⟨_,T,rfl,by rw[←WM];exact setRow_heap W1 _ _ _ _ _ lJ,?_,fun j v hj=>?_⟩,fun k hk=>by rw[←WM,setRow_other W1 _ k _ hk];exact mJ k hk,?_,?_,?_,?_⟩
  ·rw[YF (by rw[LI,ZEU];omega),LI];exact cI
  ·have hA2:(O.extract 0 (i*1)).size=i*1:=by rw[ft,hO];omega
   have fG:=(bp.1 hj).1
   rw[cf,hA2,U5]at fG
   rw[SE (by rw[LI,ZEU];omega),if_neg oM,SE (by rw[kG];omega),kG]
   by_cases h1:j<i*1
   ·rw[if_neg oM]
    rw[cn oM,fw]at hj
    split at hj
    ·refine j8 j v ?_
     simpa using hj
    ·cases hj
   ·rw[ez oM,hA2]at hj
    rw[if_pos oM,show o+j-(o+i*1)=j-i*1 by omega]
    simpa using hj
  ·rw[←WM,←iI];rfl
  ·rw[←WM,←iI];rfl
  ·rw[←WM,←iI];rfl
  ·rw[←WM,←iI];simp[World.setRow]
 have mixed:Tryz.prog.follows Departure.mixedOrders=true:=by kernel_rfl
 have hic:i≤c:=by omega
 have hjc:i+1≤c:=by omega
 have hjn:i+1≤n:=by omega
 have uI:(0:Int)≤(i:Int)+1:=by omega
 have htn:((i:Int)+1).toNat=i+1:=by omega
 have hii:(i:Int)≤(i:Int)+1:=by omega
 have yF:(i:Int)+1≤(n:Int):=by omega
 have ZLP:(i:Int)+1≤(c:Int):=by omega
 have YH:¬((i:Int)=(i:Int)+1):=by omega
 have hn1:n-1≤n:=by omega
 have hn2:n-1≤c:=by omega
 have hn4:¬(c=n-1):=by omega
 rw[hR]
 clear lJ LI iI WM sM hmm hnm
 by_cases iT:c=i+1
 ·obtain rfl:n=i+1:=by omega
  subst iT
  rw[if_pos rfl]at hA
  subst hA
  have ZAp:i+1-i=1:=by omega
  simp only[gb,ZAp]at fin hap EP
  go_enter Tryz.func130,Tryz.ntmps130
  go_wp2_with fail
  go_region_law_o (refine jG rfl _ _ 24 24 rfl (.slice (some ⟨b,o,none⟩) i (i+1)) (.slice (some ⟨b,o,none⟩) (i+1-(i+1)) (i+1-(i+1))) (by simp[Act.eval,Act.put]) (by simp[Act.eval,Act.put]) (hap _) ?_)
  go_wp2
  go_ret
  exact fin
 ·rw[if_neg iT]at hA
  subst hA
  go_enter Tryz.func130,Tryz.ntmps130
  go_wp2_with fail
  go_region_law_o (refine jG rfl _ _ 24 24 rfl (.slice (some ⟨b,o,none⟩) i c) (.slice (some ⟨b,o+(i+1),none⟩) (n-(i+1)) (c-(i+1))) (by simp[Act.eval,Act.put]) (by simp[Act.eval,Act.put]) (hap _) ?_)
  go_wp2
  go_ret
  exact fin
theorem ZAB (b o n c i:Nat) (cur:Array Value) (T:TypeId) (w:World) (hb:w.heap[b]? = some (.cells cur T (0,0))) (hi:i<n) (hnc:n≤c) (hc:c≤maxLen) (cI:o+c*4≤cur.size)
  (O:Array Value) (hO:O.size=n*4) (j8:∀j u,O[j]? = some u→cur[o+j]? = some u) (hO1:∀u∈O.toList,u.oneCell'=true) :
  Calls Tryz.prog 129 #[.slice (some ⟨b,o,none⟩) n c,.int .i64 i,.int .i64 ((i:Int)+1)] w fun e w'=>DelPost w b o c (n-1) 4 (O.extract 0 (i*4)++O.extract ((i+1)*4) (n*4)) e w':=by
 have ht:=Tryz.underlying23
 have hs:jE Tryz.prog 90=some 4:=by kernel_rfl
 have hzv:(Tryz.prog.info? 90).bind (·.zero)=some (.agg #[.int .i64 0,.int .i64 0,.int .i64 0,.slice none 0 0]):=by kernel_rfl
 have hzr:∀w,(zeroValue 90).run Tryz.prog w=.ok (.agg #[.int .i64 0,.int .i64 0,.int .i64 0,.slice none 0 0]) w:=fun w=>by
  cases yF:Tryz.prog.info? 90 with
  |none=>rw[yF]at hzv;cases hzv
  |some inf=>rw[yF]at hzv;simp[zeroValue,typeInfo,yF,show inf.zero=some (.agg #[.int .i64 0,.int .i64 0,.int .i64 0,.slice none 0 0]) from hzv]
 have ZAw:=hc
 unfold maxLen at ZAw
 have sM:n*4≤c*4:=ct _ hnc
 obtain⟨R,hR⟩:∃R,O.extract ((i+1)*4) (n*4)=R:=⟨_,rfl⟩
 have U5:R.size=(n-(i+1))*4:=by rw[←hR,ft,hO,je];omega
 have hR1:∀u∈R.toList,u.oneCell'=true:=fun u hu=>hO1 u (by
  rw[←hR,ic]at hu
  exact fd (dr hu))
 have hRg:∀j u,R[j]? = some u→O[(i+1)*4+j]? = some u:=fun j u hj=>by
  rw[←hR,fw]at hj
  split at hj
  ·exact hj
  ·cases hj
 have kG:R.toList.length=(n-(i+1))*4:=by simpa using U5
 have hmm:(i+1)*4+(n-(i+1))*4=n*4:=by rw[←ca];congr 1;omega
 obtain⟨W1,iI⟩:∃W1,w.drew.setRow b (spl cur (o+i*4) R.toList)=W1:=⟨_,rfl⟩
 have LI:=YF (cur:=cur) (p:=o+i*4) (xs:=R.toList) (by rw[kG];omega)
 have lJ:W1.heap[b]? = some (.cells (spl cur (o+i*4) R.toList) T (0,0)):=by rw[←iI];exact setRow_heap w.drew _ cur _ _ _ hb
 have mJ:∀k,k≠b→W1.heap[k]? = w.heap[k]?:=fun k hk=>by rw[←iI,setRow_other w.drew _ k _ hk];rfl
 have mV:∀j u,R[j]? = some u→w.cell? ⟨b,(o+(i+1)*4)+j,none⟩=some u:=fun j u hj=>by
  have:=j8 _ u (hRg j u hj)
  simp only[World.cell?,hb]
  rw[show o+(i+1)*4+j=o+((i+1)*4+j) by omega]
  exact this
 obtain⟨A,hA,bZ⟩:∃A:Addr,(if c=i+1 then (⟨b,o,none⟩:Addr) else ⟨b,o+(i+1)*4,none⟩)=A∧(Builtin.firstCells 4 (n-(i+1)) (.slice (some A) (n-(i+1)) (c-(i+1)))).run Tryz.prog w.drew=.ok R w.drew:=by
  refine⟨_,rfl,?_⟩
  by_cases h:c=i+1
  ·have h0:n-(i+1)=0:=by omega
   have hRe:R=#[]:=ji (by rw[U5,h0,ip])
   rw[h0,hRe,if_pos h]
   simp[Builtin.firstCells,loadCells,loadCellsFrom]
  ·rw[if_neg h]
   have:=fB (P:=Tryz.prog) (w:=w) (sz:=4) (n:=n-(i+1)) (len:=n-(i+1)) (cap:=c-(i+1)) mV oM (w2:=w.drew) rfl
   rwa [show (n-(i+1))*4=R.size by omega,fq]at this
 have hap:∀ty,(Builtin.append_ #[23,23] ty #[.slice (some ⟨b,o,none⟩) i c,.slice (some A) (n-(i+1)) (c-(i+1))]).run Tryz.prog w.drew=.ok (.slice (some ⟨b,o,none⟩) (n-1) c) W1:=fun ty=>by
  have:=aG (P:=Tryz.prog) (w:=w.drew) (t:=23) (u:=23) (ty:=ty) (sz:=4) (m:=n-(i+1)) (vx:=.slice (some A) (n-(i+1)) (c-(i+1))) (news:=R) (blk:=b) (p:=o) (len:=i) (cap:=c) ht ht rfl hs (by simp[Builtin.lenOf]) bZ U5 oM hb oM hR1
  rw[show i+(n-(i+1))=n-1 by omega]at this
  rw[←iI]
  exact this
 have z6:(Builtin.zeroCells (Value.cells (.agg #[.int .i64 0,.int .i64 0,.int .i64 0,.slice none 0 0])) 1).toList=[.int .i64 0,.int .i64 0,.int .i64 0,.slice none 0 0]:=by kernel_rfl
 have hnm:(n-1)*4+4=n*4:=by rw[←ka];congr 1;omega
 obtain⟨W2,WM⟩:∃W2,W1.setRow b (spl (spl cur (o+i*4) R.toList) (o+(n-1)*4) [.int .i64 0,.int .i64 0,.int .i64 0,.slice none 0 0])=W2:=⟨_,rfl⟩
 have EP:∀ty dc,(Builtin.clear_ #[23] ty #[.slice (some ⟨b,o+(n-1)*4,none⟩) (n-(n-1)) dc]).run Tryz.prog W1=.ok (.tuple #[]) W2:=fun ty dc=>by
  rw[←WM,show n-(n-1)=1 by omega]
  exact YO ht hzr z6 lJ (by rw[LI];simp;omega) (by simp[Value.oneCell'])
 have fin:DelPost w b o c (n-1) 4 (O.extract 0 (i*4)++R) (.returned (.slice (some ⟨b,o,none⟩) (n-1) c)) W2:=by
  have ZEU:([.int .i64 0,.int .i64 0,.int .i64 0,.slice none 0 0]:List Value).length=4:=rfl
  refine⟨⟨_,T,rfl,by rw[←WM];exact setRow_heap W1 _ _ _ _ _ lJ,?_,fun j v hj=>?_⟩,fun k hk=>by rw[←WM,setRow_other W1 _ k _ hk];exact mJ k hk,?_,?_,?_,?_⟩
  ·rw[YF (by rw[LI,ZEU];omega),LI];exact cI
  ·have hA2:(O.extract 0 (i*4)).size=i*4:=by rw[ft,hO];omega
   have fG:=(bp.1 hj).1
   rw[cf,hA2,U5]at fG
   rw[SE (by rw[LI,ZEU];omega),if_neg oM,SE (by rw[kG];omega),kG]
   by_cases h1:j<i*4
   ·rw[if_neg oM]
    rw[cn oM,fw]at hj
    split at hj
    ·refine j8 j v ?_
     simpa using hj
    ·cases hj
   ·rw[ez oM,hA2]at hj
    rw[if_pos oM,show o+j-(o+i*4)=j-i*4 by omega]
    simpa using hj
  ·rw[←WM,←iI];rfl
  ·rw[←WM,←iI];rfl
  ·rw[←WM,←iI];rfl
  ·rw[←WM,←iI];simp[World.setRow]
 have mixed:Tryz.prog.follows Departure.mixedOrders=true:=by kernel_rfl
 have hic:i≤c:=by omega
 have hjc:i+1≤c:=by omega
 have hjn:i+1≤n:=by omega
 have uI:(0:Int)≤(i:Int)+1:=by omega
 have htn:((i:Int)+1).toNat=i+1:=by omega
 have hii:(i:Int)≤(i:Int)+1:=by omega
 have yF:(i:Int)+1≤(n:Int):=by omega
 have ZLP:(i:Int)+1≤(c:Int):=by omega
 have YH:¬((i:Int)=(i:Int)+1):=by omega
 have hn1:n-1≤n:=by omega
 have hn2:n-1≤c:=by omega
 have hn4:¬(c=n-1):=by omega
 rw[hR]
 clear lJ LI iI WM sM hmm hnm
 by_cases iT:c=i+1
 ·obtain rfl:n=i+1:=by omega
  subst iT
  rw[if_pos rfl]at hA
  subst hA
  have ZAp:i+1-i=1:=by omega
  simp only[gb,ZAp]at fin hap EP
  go_enter Tryz.func129,Tryz.ntmps129
  go_wp2_with fail
  go_region_law_o (refine jG rfl _ _ 23 23 rfl (.slice (some ⟨b,o,none⟩) i (i+1)) (.slice (some ⟨b,o,none⟩) (i+1-(i+1)) (i+1-(i+1))) (by simp[Act.eval,Act.put]) (by simp[Act.eval,Act.put]) (hap _) ?_)
  go_wp2
  go_ret
  exact fin
 ·rw[if_neg iT]at hA
  subst hA
  go_enter Tryz.func129,Tryz.ntmps129
  go_wp2_with fail
  go_region_law_o (refine jG rfl _ _ 23 23 rfl (.slice (some ⟨b,o,none⟩) i c) (.slice (some ⟨b,o+(i+1)*4,none⟩) (n-(i+1)) (c-(i+1))) (by simp[Act.eval,Act.put]) (by simp[Act.eval,Act.put]) (hap _) ?_)
  go_wp2
  go_ret
  exact fin
end Go.Proofs.YtadnnjchehjbiaaGreatDoor
namespace Go.Proofs.YtadnnjchehjbiaaGreatDoor
set_option linter.unusedVariables false
set_option linter.unusedSimpArgs false
section
variable {P:Program} {w:World} {F:Nat→Prop} {L:LMap} {b l:List Row}
theorem ZA6 {x y z:AV} {vs:List Value} (h:bA w F L [x,y,z] vs):∃u v t,vs=[u,v,t]∧RepA w F L x u∧RepA w F L y v∧RepA w F L z t:=by
 obtain⟨h1,h2⟩:=h
 match vs,h1 with
 |[u,v,t],_=>exact⟨u,v,t,rfl,h2 0 _ _ rfl rfl,h2 1 _ _ rfl rfl,h2 2 _ _ rfl rfl⟩
theorem getI {α:Type} {els:List α} {x:α} {i k:Nat} {row:α} (hi:i≤els.length) (h:(els.take i++[x]++els.drop i)[k]? = some row) :
  (k<i∧els[k]? = some row)∨(k=i∧row=x)∨(i<k∧els[k-1]? = some row):=by
 have hl:(els.take i).length=i:=by rw[bu];omega
 by_cases h1:k<i
 ·rw[ay,aw oM,cw,if_pos h1]at h
  exact .inl ⟨h1,h⟩
 ·by_cases h2:k=i
  ·subst h2
   rw[aw (by rw[am];simp;omega),au oM,hl,fz]at h
   simp at h
   exact .inr (.inl ⟨rfl,h.symm⟩)
  ·rw[au (by rw[am];simp;omega),am,hl,dl]at h
   refine .inr (.inr ⟨by omega,?_⟩)
   rw[←h];congr 1;simp;omega
theorem getD1 {α:Type} {els:List α} {i k:Nat} {row:α} (hi:i<els.length) (h:(els.take i++els.drop (i+1))[k]? = some row) :
  (k<i∧els[k]? = some row)∨(i≤k∧els[k+1]? = some row):=by
 have hl:(els.take i).length=i:=by rw[bu];omega
 by_cases h1:k<i
 ·rw[aw oM,cw,if_pos h1]at h
  exact .inl ⟨h1,h⟩
 ·rw[au oM,hl,dl]at h
  refine .inr ⟨by omega,?_⟩
  rw[←h];congr 1;omega
theorem rO (s:Sim F L (b++l) w) {id ver sz i n blk:Nat} {els:List (List AV)} {x:List AV} (kU:0<sz) (hid:(b++l)[id]? = some (.live ver sz els)) (hn:els.length=n) (hi:i≤n) {O X:Array Value} (hO:O.size=n*sz) (hX:X.size=sz) (hOr:JN w F L sz els O) (hXr:JN w F L sz [x] X)
  (tJ:(∃o c,L id ver=some (.pl blk o sz c))∨w.heap.size≤blk) {e:Ending} {w':World} (h:InsPost w blk sz n (O.extract 0 (i*sz)++X++O.extract (i*sz) (n*sz)) e w') :
  ∃v y b' l' F' L',e=.returned v∧RepA w' F' L' y v∧Sim F' L' (b'++l') w'∧Step (b++l).length F L (b++l) w F' L' (b'++l') w'∧b'.length=b.length∧(y=.sl id (ver+1) 0 (n+1)∧b'=pE b id (.live (ver+1) sz (els.take i++[x]++els.drop i))∧l'=IE b l id (.live (ver+1) sz (els.take i++[x]++els.drop i))):=by
 obtain⟨⟨blk',o,cap,cur,T,rfl,h2,h3,h4,h5,h6,h7,h8⟩,h9,h10,h11,h12⟩:=h
 have ZAs:id<(b++l).length:=(aj.1 hid).1
 have hA:(O.extract 0 (i*sz)).size=i*sz:=by
  have:=ct sz hi
  rw[ft,hO];omega
 have yF:=ct sz hi
 have jD:(els.take i++[x]++els.drop i).length=n+1:=by simp;omega
 have pH:w.heap.size≤blk'∨∃v z els0 o0 z0 cap0,(b++l)[id]? = some (.live v z els0)∧L id v=some (.pl blk' o0 z0 cap0):=by
  rcases h7 with rfl|h
  ·rcases tJ with ⟨o1,c1,hL⟩|h0
   ·exact .inr ⟨_,_,_,_,_,_,hid,hL⟩
   ·exact .inl h0
  ·exact .inl h
 obtain⟨L',r1,r2,r3,r4⟩:=s.putRow (h':=(b++l).set id (.live (ver+1) sz (els.take i++[x]++els.drop i))) (w':=w')
  id (ver+1) sz blk' o cap (els.take i++[x]++els.drop i) h9 h10 h11 h12 h8 pH
  (bf ZAs) (fun j hj=>bq (Ne.symm hj)) (fun r hr=>by rw[hid]at hr;cases hr;exact⟨jm _,_,_,_,rfl⟩) (.inl (bN s hid))
  (by rw[jD];exact h3) h4 cur T h2 h5
  (fun k row hk=>by
   rcases getI oM hk with ⟨_,h⟩|⟨_,rfl⟩|⟨_,h⟩
   ·exact hOr.1 _ _ h
   ·exact hXr.1 0 _ rfl
   ·exact hOr.1 _ _ h)
  (fun k row j cc hk hj=>by
   rcases getI oM hk with ⟨hki,h⟩|⟨rfl,rfl⟩|⟨hki,h⟩
   ·obtain⟨q1,u,q2,q3⟩:=hOr.2 _ _ j cc h hj
    have fG:j<sz:=by rw[←hOr.1 _ _ h];exact (aj.1 hj).1
    have:=sH (sz:=sz) (j:=j) (n:=1) hki oM
    refine⟨q1,u,?_,q3⟩
    rw[da]
    refine h6 _ _ ?_
    rw[cn (by rw[cf];omega),cn oM,fw,if_pos oM,br]
    exact q2
   ·obtain⟨q1,u,q2,q3⟩:=hXr.2 0 _ j cc rfl hj
    have fG:j<sz:=by rw[←hXr.1 0 _ rfl];exact (aj.1 hj).1
    refine⟨q1,u,?_,q3⟩
    rw[da]
    refine h6 _ _ ?_
    rw[cn (by rw[cf];omega),ez oM,hA,show k*sz+j-k*sz=j by omega]
    simpa using q2
   ·obtain⟨q1,u,q2,q3⟩:=hOr.2 _ _ j cc h hj
    have fG:j<sz:=by rw[←hOr.1 _ _ h];exact (aj.1 hj).1
    have hkn:k-1<n:=by rw[←hn];exact (aj.1 h).1
    have e1:k*sz=(k-1)*sz+sz:=by rw[←ka];congr 1;omega
    have e2:=ct sz (show i≤k-1 by omega)
    have:=sH (sz:=sz) (j:=j) (n:=1) hkn oM
    refine⟨q1,u,?_,q3⟩
    rw[da]
    refine h6 _ _ ?_
    rw[ez (by rw[cf];omega),cf,hA,hX,fw,if_pos oM,show i*sz+(k*sz+j-(i*sz+sz))=(k-1)*sz+j by omega]
    exact q2)
 refine⟨_,_,_,_,F,L',rfl,?_,by rw[bE];exact r1,by rw[bE];exact r2,aF _ _ _,rfl,rfl,rfl⟩
 have:=RepA.sl (w:=w') (F:=F) id (ver+1) 0 (n+1) _ _ _ _ r3 oM h4
 simpa using this
theorem rZ (s:Sim F L (b++l) w) {id ver sz i n blk o c:Nat} {els:List (List AV)} (kU:0<sz) (hid:(b++l)[id]? = some (.live ver sz els)) (hn:els.length=n) (hi:i<n) {O:Array Value} (hO:O.size=n*sz) (hOr:JN w F L sz els O)
  (hL:L id ver=some (.pl blk o sz c)) (hnc:n≤c) (hc:c≤maxLen) {e:Ending} {w':World} (h:DelPost w blk o c (n-1) sz (O.extract 0 (i*sz)++O.extract ((i+1)*sz) (n*sz)) e w') :
  ∃v y b' l' F' L',e=.returned v∧RepA w' F' L' y v∧Sim F' L' (b'++l') w'∧Step (b++l).length F L (b++l) w F' L' (b'++l') w'∧b'.length=b.length∧(y=.sl id (ver+1) 0 (n-1)∧b'=pE b id (.live (ver+1) sz (els.take i++els.drop (i+1)))∧l'=IE b l id (.live (ver+1) sz (els.take i++els.drop (i+1)))):=by
 obtain⟨⟨cur,T,rfl,h2,h5,h6⟩,h8,h9,h10,h11,h12⟩:=h
 have ZAs:id<(b++l).length:=(aj.1 hid).1
 have yF:=ct sz (show i≤n by omega)
 have hin1:=ct sz (show i+1≤n by omega)
 have hA:(O.extract 0 (i*sz)).size=i*sz:=by rw[ft,hO];omega
 have jD:(els.take i++els.drop (i+1)).length=n-1:=by simp;omega
 obtain⟨L',r1,r2,r3,r4⟩:=s.putRow (h':=(b++l).set id (.live (ver+1) sz (els.take i++els.drop (i+1)))) (w':=w')
  id (ver+1) sz blk o c (els.take i++els.drop (i+1)) h9 h10 h11 oM (fun k _ hk=>h8 k hk) (.inr ⟨_,_,_,_,_,_,hid,hL⟩)
  (bf ZAs) (fun j hj=>bq (Ne.symm hj)) (fun r hr=>by rw[hid]at hr;cases hr;exact⟨jm _,_,_,_,rfl⟩) (.inl (bN s hid))
  (by rw[jD];omega) hc cur T h2 h5
  (fun k row hk=>by
   rcases getD1 oM hk with ⟨_,h⟩|⟨_,h⟩
   ·exact hOr.1 _ _ h
   ·exact hOr.1 _ _ h)
  (fun k row j cc hk hj=>by
   rcases getD1 oM hk with ⟨hki,h⟩|⟨hki,h⟩
   ·obtain⟨q1,u,q2,q3⟩:=hOr.2 _ _ j cc h hj
    have fG:j<sz:=by rw[←hOr.1 _ _ h];exact (aj.1 hj).1
    have:=sH (sz:=sz) (j:=j) (n:=1) hki oM
    refine⟨q1,u,?_,q3⟩
    rw[da]
    refine h6 _ _ ?_
    rw[cn oM,fw,if_pos oM,br]
    exact q2
   ·obtain⟨q1,u,q2,q3⟩:=hOr.2 _ _ j cc h hj
    have fG:j<sz:=by rw[←hOr.1 _ _ h];exact (aj.1 hj).1
    have hkn:k+1<n:=by rw[←hn];exact (aj.1 h).1
    have e1:(k+1)*sz=k*sz+sz:=ka k sz
    have e3:(i+1)*sz=i*sz+sz:=ka i sz
    have e2:=ct sz hki
    have:=sH (sz:=sz) (j:=j) (n:=1) hkn oM
    refine⟨q1,u,?_,q3⟩
    rw[da]
    refine h6 _ _ ?_
    rw[ez oM,hA,fw,if_pos oM,show (i+1)*sz+(k*sz+j-i*sz)=(k+1)*sz+j by omega]
    exact q2)
 refine⟨_,_,_,_,F,L',rfl,?_,by rw[bE];exact r1,by rw[bE];exact r2,aF _ _ _,rfl,rfl,rfl⟩
 have:=RepA.sl (w:=w') (F:=F) id (ver+1) 0 (n-1) _ _ _ _ r3 oM hc
 simpa using this
end

theorem ZCQ (id ver i idv verv:Nat) (els:List (List AV)) (x:List AV) (b l:List Row) (hid:(b++l)[id]? = some (.live ver 1 els)) (hv:(b++l)[idv]? = some (.live verv 1 [x])) (YH:idv≠id) (hn:els.length≤1000000) (hi:i≤els.length) :
  ZA Tryz.prog 128 [.sl id ver 0 els.length,.v (.int .i64 i),.sl idv verv 0 1] b l (fun r b' l'=>r=.sl id (ver+1) 0 (els.length+1)∧b'=pE b id (.live (ver+1) 1 (els.take i++[x]++els.drop i))∧l'=IE b l id (.live (ver+1) 1 (els.take i++[x]++els.drop i))):=by
 refine⟨⟨_,Tryz.func128,by kernel_rfl,by kernel_rfl⟩,fun F L w us s hr=>?_⟩
 obtain⟨u,v,t,hus,h1,h2,h3⟩:=ZA6 hr
 obtain rfl:us=#[u,v,t]:=by cases us;simp_all
 cases h2.vI
 obtain⟨lc,k1,k2⟩:=s.row _ _ _ _ hid
 obtain⟨lv,m1,m2⟩:=s.row _ _ _ _ hv
 obtain⟨n,DW⟩:∃n,els.length=n:=⟨_,rfl⟩
 rw[DW]at h1 hn hi
 rw[DW]
 cases h3 with
 |sl _ _ _ _ bv ov zv capv hLv g1 g2 =>
   rw[m1]at hLv;cases hLv
   obtain⟨rfl,m3,m4,curv,Tv,m5,m6,m7,m8⟩:=m2
   obtain⟨X,x1,x2,x3,x4⟩:=eJ (w:=w) (F:=F) (L:=L) (xs:=[x]) (blk:=bv) (p:=ov) kE m7 (fun k row j c hk hj=>by
    obtain⟨c1,u,hu,hr⟩:=m8 k row j c hk hj
    exact⟨c1,u,by simp only[World.cell?,m5];exact hu,hr⟩)
   have x1':X.size=1:=by simpa using x1
   have x4':∀j u,X[j]? = some u→curv[ov+j]? = some u:=fun j u hj=>by
    have:=x4 j u hj
    simp only[World.cell?,m5]at this
    exact this
   simp only[ip,cm,gi]
   have empty:∀(base:Option Addr) (blk:Nat),n=0→((∃o c,L id ver=some (.pl blk o 1 c))∨w.heap.size≤blk)→Calls Tryz.prog 128 #[.slice base 0 0,.int .i64 (i:Nat),.slice (some ⟨bv,ov,none⟩) 1 capv] w fun en w'=>∃v y b' l' F' L',en=.returned v∧RepA w' F' L' y v∧Sim F' L' (b'++l') w'∧Step (b++l).length F L (b++l) w F' L' (b'++l') w'∧b'.length=b.length∧(y=.sl id (ver+1) 0 (n+1)∧b'=pE b id (.live (ver+1) 1 (els.take i++[x]++els.drop i))∧l'=IE b l id (.live (ver+1) 1 (els.take i++[x]++els.drop i))):=by
    intro base blk h0 tJ
    subst h0
    obtain rfl:i=0:=by omega
    have sV:els=[]:=cu DW
    have hOr:JN w F L 1 els #[]:=by rw[sV];exact⟨fun k row h=>by simp at h,fun k row j c h=>by simp at h⟩
    refine (zQ blk 0 0 bv ov capv base X w oM oM x1' x4 x3 #[] kS (by cases base<;>simp[Builtin.firstCells,loadCells,loadCellsFrom])).mono (fun e w' h=>?_)
    have hN:(#[]:Array Value).extract 0 (0*1)++X++(#[]:Array Value).extract (0*1) (0*1)=#[]++X:=by simp
    exact rO s kE hid DW (ah _) (O:=#[]) kS x1' hOr x2 tJ (hN▸h)
   cases h1 with
   |sl _ _ _ _ b1 o1 z1 cap1 hL f1 f2 =>
     rw[k1]at hL;cases hL
     obtain⟨rfl,k3,k4,cur,T,k5,k6,k7,k8⟩:=k2
     obtain⟨O,p1,p2,p3,p4⟩:=eJ (w:=w) (F:=F) (L:=L) (xs:=els) (blk:=b1) (p:=o1) kE k7 (fun k row j c hk hj=>by
      obtain⟨c1,u,hu,hr⟩:=k8 k row j c hk hj
      exact⟨c1,u,by simp only[World.cell?,k5];exact hu,hr⟩)
     rw[DW]at p1
     have p4':∀j u,O[j]? = some u→cur[o1+j]? = some u:=fun j u hj=>by
      have:=p4 j u hj
      simp only[World.cell?,k5]at this
      exact this
     simp only[ip,cm,gi]
     have ZEV:bv≠b1:=fun e=>YH (s.apart _ _ _ _ _ _ _ _ b1 _ _ hv hid m1 k1 e rfl)
     have fin:∀e w',InsPost w b1 1 n (O.extract 0 (i*1)++X++O.extract (i*1) (n*1)) e w'→_:=fun e w' h=>rO s kE hid DW hi p1 x1' p2 x2 (.inl ⟨_,_,k1⟩) h
     have hN:O.extract 0 (n*1)++X++O.extract (n*1) (n*1)=O++X:=by rw[←p1];simp
     by_cases yF:i=n
     ·subst yF
      by_cases qD:i+1≤cap1
      ·exact (SX b1 o1 i cap1 bv ov capv cur X T w k5 qD k4 k6 x1' x4 x3 O p1 p4').mono (fun e w' h=>fin e w' (hN.symm▸h))
      ·refine (zQ b1 i cap1 bv ov capv (some ⟨b1,o1,none⟩) X w oM hn x1' x4 x3 O p1 ?_).mono (fun e w' h=>fin e w' (hN.symm▸h))
       have:=fB (P:=Tryz.prog) (w:=w) (sz:=1) (n:=i) (len:=i) (cap:=cap1) p4 oM (w2:=w.drew) rfl
       rwa [←p1,fq]at this
     ·by_cases qD:n+1≤cap1
      ·exact (J2 b1 o1 n cap1 i bv ov capv cur X curv T Tv w k5 m5 ZEV oM qD k4 k6 hn x1' x4' x3 O p1 p4' p3).mono fin
      ·exact (U2 b1 o1 n cap1 i bv ov capv cur X T w k5 oM oM oM hn x1' x4 x3 O p1 p4 p3).mono fin
   |slz _ _ _ b1 o1 z1 cap1 x1 hL jU =>
     rw[k1]at hL;cases hL
     obtain⟨rfl,_⟩:=k2
     exact empty (some ⟨b1,x1,none⟩) b1 rfl (.inl ⟨o1,cap1,k1⟩)
   |sln _ _ ad hL =>
     exact empty ad w.heap.size rfl (.inr (ah _))
theorem ZC7 (id ver i:Nat) (els:List (List AV)) (b l:List Row) (hid:(b++l)[id]? = some (.live ver 1 els)) (hi:i<els.length) :
  ZA Tryz.prog 130 [.sl id ver 0 els.length,.v (.int .i64 i),.v (.int .i64 ((i:Int)+1))] b l (fun r b' l'=>r=.sl id (ver+1) 0 (els.length-1)∧b'=pE b id (.live (ver+1) 1 (els.take i++els.drop (i+1)))∧l'=IE b l id (.live (ver+1) 1 (els.take i++els.drop (i+1)))):=by
 refine⟨⟨_,Tryz.func130,by kernel_rfl,by kernel_rfl⟩,fun F L w us s hr=>?_⟩
 obtain⟨u,v,t,hus,h1,h2,h3⟩:=ZA6 hr
 obtain rfl:us=#[u,v,t]:=by cases us;simp_all
 cases h2.vI
 cases h3.vI
 obtain⟨lc,k1,k2⟩:=s.row _ _ _ _ hid
 obtain⟨n,DW⟩:∃n,els.length=n:=⟨_,rfl⟩
 rw[DW]at h1 hi
 rw[DW]
 cases h1 with
 |sl _ _ _ _ b1 o1 z1 cap1 hL f1 f2 =>
   rw[k1]at hL;cases hL
   obtain⟨rfl,k3,k4,cur,T,k5,k6,k7,k8⟩:=k2
   obtain⟨O,p1,p2,p3,p4⟩:=eJ (w:=w) (F:=F) (L:=L) (xs:=els) (blk:=b1) (p:=o1) kE k7 (fun k row j c hk hj=>by
    obtain⟨c1,u,hu,hr⟩:=k8 k row j c hk hj
    exact⟨c1,u,by simp only[World.cell?,k5];exact hu,hr⟩)
   rw[DW]at p1
   have p4':∀j u,O[j]? = some u→cur[o1+j]? = some u:=fun j u hj=>by
    have:=p4 j u hj
    simp only[World.cell?,k5]at this
    exact this
   simp only[ip,cm,gi]
   exact (ZAC b1 o1 n cap1 i cur T w k5 hi oM k4 k6 O p1 p4' p3).mono (fun e w' h=>rZ s kE hid DW hi p1 p2 k1 oM k4 h)
 |slz=>omega
 |sln=>omega

theorem ZCP (id ver i idv verv:Nat) (els:List (List AV)) (x:List AV) (b l:List Row) (hid:(b++l)[id]? = some (.live ver 4 els)) (hv:(b++l)[idv]? = some (.live verv 4 [x])) (YH:idv≠id) (hn:els.length≤1000000) (hi:i≤els.length) :
  ZA Tryz.prog 127 [.sl id ver 0 els.length,.v (.int .i64 i),.sl idv verv 0 1] b l (fun r b' l'=>r=.sl id (ver+1) 0 (els.length+1)∧b'=pE b id (.live (ver+1) 4 (els.take i++[x]++els.drop i))∧l'=IE b l id (.live (ver+1) 4 (els.take i++[x]++els.drop i))):=by
 refine⟨⟨_,Tryz.func127,by kernel_rfl,by kernel_rfl⟩,fun F L w us s hr=>?_⟩
 obtain⟨u,v,t,hus,h1,h2,h3⟩:=ZA6 hr
 obtain rfl:us=#[u,v,t]:=by cases us;simp_all
 cases h2.vI
 obtain⟨lc,k1,k2⟩:=s.row _ _ _ _ hid
 obtain⟨lv,m1,m2⟩:=s.row _ _ _ _ hv
 obtain⟨n,DW⟩:∃n,els.length=n:=⟨_,rfl⟩
 rw[DW]at h1 hn hi
 rw[DW]
 cases h3 with
 |sl _ _ _ _ bv ov zv capv hLv g1 g2 =>
   rw[m1]at hLv;cases hLv
   obtain⟨rfl,m3,m4,curv,Tv,m5,m6,m7,m8⟩:=m2
   obtain⟨X,x1,x2,x3,x4⟩:=eJ (w:=w) (F:=F) (L:=L) (xs:=[x]) (blk:=bv) (p:=ov) kE m7 (fun k row j c hk hj=>by
    obtain⟨c1,u,hu,hr⟩:=m8 k row j c hk hj
    exact⟨c1,u,by simp only[World.cell?,m5];exact hu,hr⟩)
   have x1':X.size=4:=by simpa using x1
   have x4':∀j u,X[j]? = some u→curv[ov+j]? = some u:=fun j u hj=>by
    have:=x4 j u hj
    simp only[World.cell?,m5]at this
    exact this
   simp only[ip,cm,gi]
   have empty:∀(base:Option Addr) (blk:Nat),n=0→((∃o c,L id ver=some (.pl blk o 4 c))∨w.heap.size≤blk)→Calls Tryz.prog 127 #[.slice base 0 0,.int .i64 (i:Nat),.slice (some ⟨bv,ov,none⟩) 1 capv] w fun en w'=>∃v y b' l' F' L',en=.returned v∧RepA w' F' L' y v∧Sim F' L' (b'++l') w'∧Step (b++l).length F L (b++l) w F' L' (b'++l') w'∧b'.length=b.length∧(y=.sl id (ver+1) 0 (n+1)∧b'=pE b id (.live (ver+1) 4 (els.take i++[x]++els.drop i))∧l'=IE b l id (.live (ver+1) 4 (els.take i++[x]++els.drop i))):=by
    intro base blk h0 tJ
    subst h0
    obtain rfl:i=0:=by omega
    have sV:els=[]:=cu DW
    have hOr:JN w F L 4 els #[]:=by rw[sV];exact⟨fun k row h=>by simp at h,fun k row j c h=>by simp at h⟩
    refine (KQ blk 0 0 bv ov capv base X w oM oM x1' x4 x3 #[] kS (by cases base<;>simp[Builtin.firstCells,loadCells,loadCellsFrom])).mono (fun e w' h=>?_)
    have hN:(#[]:Array Value).extract 0 (0*4)++X++(#[]:Array Value).extract (0*4) (0*4)=#[]++X:=by simp
    exact rO s kE hid DW (ah _) (O:=#[]) kS x1' hOr x2 tJ (hN▸h)
   cases h1 with
   |sl _ _ _ _ b1 o1 z1 cap1 hL f1 f2 =>
     rw[k1]at hL;cases hL
     obtain⟨rfl,k3,k4,cur,T,k5,k6,k7,k8⟩:=k2
     obtain⟨O,p1,p2,p3,p4⟩:=eJ (w:=w) (F:=F) (L:=L) (xs:=els) (blk:=b1) (p:=o1) kE k7 (fun k row j c hk hj=>by
      obtain⟨c1,u,hu,hr⟩:=k8 k row j c hk hj
      exact⟨c1,u,by simp only[World.cell?,k5];exact hu,hr⟩)
     rw[DW]at p1
     have p4':∀j u,O[j]? = some u→cur[o1+j]? = some u:=fun j u hj=>by
      have:=p4 j u hj
      simp only[World.cell?,k5]at this
      exact this
     simp only[ip,cm,gi]
     have ZEV:bv≠b1:=fun e=>YH (s.apart _ _ _ _ _ _ _ _ b1 _ _ hv hid m1 k1 e rfl)
     have fin:∀e w',InsPost w b1 4 n (O.extract 0 (i*4)++X++O.extract (i*4) (n*4)) e w'→_:=fun e w' h=>rO s kE hid DW hi p1 x1' p2 x2 (.inl ⟨_,_,k1⟩) h
     have hN:O.extract 0 (n*4)++X++O.extract (n*4) (n*4)=O++X:=by rw[←p1];simp
     by_cases yF:i=n
     ·subst yF
      by_cases qD:i+1≤cap1
      ·exact (RX b1 o1 i cap1 bv ov capv cur X T w k5 qD k4 k6 x1' x4 x3 O p1 p4').mono (fun e w' h=>fin e w' (hN.symm▸h))
      ·refine (KQ b1 i cap1 bv ov capv (some ⟨b1,o1,none⟩) X w oM hn x1' x4 x3 O p1 ?_).mono (fun e w' h=>fin e w' (hN.symm▸h))
       have:=fB (P:=Tryz.prog) (w:=w) (sz:=4) (n:=i) (len:=i) (cap:=cap1) p4 oM (w2:=w.drew) rfl
       rwa [←p1,fq]at this
     ·by_cases qD:n+1≤cap1
      ·exact (Y2 b1 o1 n cap1 i bv ov capv cur X curv T Tv w k5 m5 ZEV oM qD k4 k6 hn x1' x4' x3 O p1 p4' p3).mono fin
      ·exact (V2 b1 o1 n cap1 i bv ov capv cur X T w k5 oM oM oM hn x1' x4 x3 O p1 p4 p3).mono fin
   |slz _ _ _ b1 o1 z1 cap1 x1 hL jU =>
     rw[k1]at hL;cases hL
     obtain⟨rfl,_⟩:=k2
     exact empty (some ⟨b1,x1,none⟩) b1 rfl (.inl ⟨o1,cap1,k1⟩)
   |sln _ _ ad hL =>
     exact empty ad w.heap.size rfl (.inr (ah _))
theorem ZC6 (id ver i:Nat) (els:List (List AV)) (b l:List Row) (hid:(b++l)[id]? = some (.live ver 4 els)) (hi:i<els.length) :
  ZA Tryz.prog 129 [.sl id ver 0 els.length,.v (.int .i64 i),.v (.int .i64 ((i:Int)+1))] b l (fun r b' l'=>r=.sl id (ver+1) 0 (els.length-1)∧b'=pE b id (.live (ver+1) 4 (els.take i++els.drop (i+1)))∧l'=IE b l id (.live (ver+1) 4 (els.take i++els.drop (i+1)))):=by
 refine⟨⟨_,Tryz.func129,by kernel_rfl,by kernel_rfl⟩,fun F L w us s hr=>?_⟩
 obtain⟨u,v,t,hus,h1,h2,h3⟩:=ZA6 hr
 obtain rfl:us=#[u,v,t]:=by cases us;simp_all
 cases h2.vI
 cases h3.vI
 obtain⟨lc,k1,k2⟩:=s.row _ _ _ _ hid
 obtain⟨n,DW⟩:∃n,els.length=n:=⟨_,rfl⟩
 rw[DW]at h1 hi
 rw[DW]
 cases h1 with
 |sl _ _ _ _ b1 o1 z1 cap1 hL f1 f2 =>
   rw[k1]at hL;cases hL
   obtain⟨rfl,k3,k4,cur,T,k5,k6,k7,k8⟩:=k2
   obtain⟨O,p1,p2,p3,p4⟩:=eJ (w:=w) (F:=F) (L:=L) (xs:=els) (blk:=b1) (p:=o1) kE k7 (fun k row j c hk hj=>by
    obtain⟨c1,u,hu,hr⟩:=k8 k row j c hk hj
    exact⟨c1,u,by simp only[World.cell?,k5];exact hu,hr⟩)
   rw[DW]at p1
   have p4':∀j u,O[j]? = some u→cur[o1+j]? = some u:=fun j u hj=>by
    have:=p4 j u hj
    simp only[World.cell?,k5]at this
    exact this
   simp only[ip,cm,gi]
   exact (ZAB b1 o1 n cap1 i cur T w k5 hi oM k4 k6 O p1 p4' p3).mono (fun e w' h=>rZ s kE hid DW hi p1 p2 k1 oM k4 h)
 |slz=>omega
 |sln=>omega
end Go.Proofs.YtadnnjchehjbiaaGreatDoor
