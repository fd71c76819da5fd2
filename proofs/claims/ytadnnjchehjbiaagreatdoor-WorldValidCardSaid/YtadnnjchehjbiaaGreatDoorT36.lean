/- Texts of one proof, laid together: B5, DP, B6, B9, BA, CQ, BB, B7, HA, HN, OD, VS, BC, B0, BD, RR, R0, PA, PE, PD, PK. No condition. -/
import Derived.Test.YtadnnjchehjbiaaGreatDoorT35
import Derived.WalkKit
import Derived.KernelRfl
set_option linter.unusedSimpArgs false
set_option maxHeartbeats 8000000
set_option maxRecDepth 100000
namespace Go.Proofs.YtadnnjchehjbiaaGreatDoor
set_option maxHeartbeats 16000000
set_option maxRecDepth 100000
set_option linter.unusedVariables false
set_option linter.unusedSimpArgs false
open Go.RowKit Go.Extern.Stop Go.Stop Go.Extern
def dgt (n:Nat):ByteArray:=⟨#[UInt8.ofNat (48+n)]⟩
theorem ZHS (n:Nat) (hn:n≤7) (w:World):Calls Tryz.prog 137 #[.int .i64 n] w fun e w'=>e=.returned (.string (dgt n))∧w'=w:=by
 obtain rfl|rfl|rfl|rfl|rfl|rfl|rfl|rfl:n=0∨n=1∨n=2∨n=3∨n=4∨n=5∨n=6∨n=7:=by omega
 all_goals
  go_enter Tryz.func137,Tryz.ntmps137
  go_wp2
  go_ret
  exact⟨rfl,rfl⟩
theorem ZF3 (n:Nat) (hn:n≤7) (w:World):Calls Tryz.prog 124 #[.int .i64 n,.int .i64 10] w fun e w'=>e=.returned (.string (dgt n))∧w'=w:=by
 have S:=ZHS n hn w
 obtain rfl|rfl|rfl|rfl|rfl|rfl|rfl|rfl:n=0∨n=1∨n=2∨n=3∨n=4∨n=5∨n=6∨n=7:=by omega
 all_goals
  go_enter Tryz.func124,Tryz.ntmps124
  go_wp2_with (go_at_call 137;refine S.mono ?_;rintro e w' ⟨rfl,rfl⟩)
  go_ret
  exact⟨rfl,rfl⟩
theorem ZHk (n:Nat) (hn:n≤7) (w:World):Calls Tryz.prog 104 #[.int .i64 n] w fun e w'=>e=.returned (.string (dgt n))∧w'=w:=by
 have S:=ZF3 n hn w
 go_enter Tryz.func104,Tryz.ntmps104
 go_wp2_with (go_at_call 124;refine S.mono ?_;rintro e w' ⟨rfl,rfl⟩)
 go_ret
 exact⟨rfl,rfl⟩
theorem itoa8 (n:Nat) (hn:n≤7) (w:World):Calls Tryz.prog 75 #[.int .i64 n] w fun e w'=>e=.returned (.string (dgt n))∧w'=w:=by
 have S:=ZHk n hn w
 go_enter Tryz.func75,Tryz.ntmps75
 go_wp2_with (go_at_call 104;refine S.mono ?_;rintro e w' ⟨rfl,rfl⟩)
 go_ret
 exact⟨rfl,rfl⟩
theorem R9 (n:Nat) (hn:n≤7) (b l:List Row):ZA Tryz.prog 75 [.v (.int .i64 n)] b l (fun r b' l'=>r=.v (.str (dgt n))∧b'=b∧l'=l):=by
 refine ZA.of_ext ⟨_,Tryz.func75,by kernel_rfl,by kernel_rfl⟩ (fun F L w vs hr=>?_)
 obtain⟨u,us,h1,h2,h3⟩:=fE hr
 have:=uG h3
 subst this
 obtain rfl:vs=#[u]:=gj.1 (by rw[h1])
 cases h2.vI
 refine (itoa8 n hn w).mono ?_
 rintro e w' ⟨rfl,rfl⟩
 exact⟨Ext.refl _,_,_,rfl,.v _ _ (.str _),rfl,rfl,rfl⟩
end Go.Proofs.YtadnnjchehjbiaaGreatDoor
namespace Go.Proofs.YtadnnjchehjbiaaGreatDoor
set_option linter.unusedVariables false
def Pln (x:AV):Prop:=∀(w:World) (F:Nat→Prop) (L:LMap) (w':World) (F':Nat→Prop) (L':LMap) (v:Value),RepA w F L x v→RepA w' F' L' x v
theorem Pln.int {k:IntKind} {n:Int}:Pln (.v (.int k n)):=fun w F L w' F' L' v h=>by
 cases h.vI;exact .v _ _ (.int _ _)
theorem Pln.bool {t:Bool}:Pln (.v (.bool t)):=fun w F L w' F' L' v h=>by
 cases h.vI;exact .v _ _ (.bool _)
theorem Pln.str {t:ByteArray}:Pln (.v (.str t)):=fun w F L w' F' L' v h=>by
 cases h.vI;exact .v _ _ (.str _)
theorem Pln.agg {cs:List AV} (hc:∀c∈cs,Pln c):Pln (.agg cs):=fun w F L w' F' L' v h=>by
 obtain⟨us,rfl,hu⟩:=h.aggL
 exact bA.agg ⟨hu.1,fun j d u hd hju=>hc d (cd hd) w F L w' F' L' u (hu.2 j d u hd hju)⟩
theorem Pln.tup {cs:List AV} (hc:∀c∈cs,Pln c):Pln (.tup cs):=fun w F L w' F' L' v h=>by
 obtain⟨us,rfl,hu⟩:=h.tupL
 exact bA.tup ⟨hu.1,fun j d u hd hju=>hc d (cd hd) w F L w' F' L' u (hu.2 j d u hd hju)⟩
theorem ZA.peek {P:Program} {f:Nat} {args args':List AV} {b l:List Row} {x:AV} (hl:args.length=args'.length)
  (hd:∀(i:Nat) (z y:AV),args[i]? = some z→args'[i]? = some y→Dv 0 (b++l) z y) (hx:Pln x)
  (h:ZA P f args' ((b++l).map yG) [] (fun r b' l'=>r=x∧b'=(b++l).map yG∧l'=[])):ZA P f args b l (fun r b' l'=>r=x∧b'=b∧l'=l):=by
 refine⟨h.1,fun F L w us s hr=>?_⟩
 obtain⟨H,hH⟩:∃H,H=b++l:=⟨_,rfl⟩
 rw[←hH]at s hd h
 have s0:Sim F L ([]++H) w:=s
 have hget:∀{j v z:Nat} {els:List (List AV)},(H.map yG++[])[j]? = some (.live v z els)→False:=fun {j v z els} hj=>by
  rw[cj,ai]at hj
  cases hq:H[j]? with
  |none=>rw[hq]at hj;cases hj
  |some r=>rw[hq]at hj;cases hj
 have DO:∀k,¬gD L (H.map yG++[]) k:=by
  rintro k ⟨j,v,z,els,q,h1,h2,h3⟩
  exact hget h1
 have s1:Sim (FD F L 0 H) L (H.map yG++[]) w:=by
  refine⟨fun j v z els hj=>(hget hj).elim,fun j v q hq=>?_,fun j j' v v' z z' e1 e2 bb q1 q2 h1 h2=>(hget h1).elim,fun k hk=>⟨?_,DO k⟩,s.glob.mono (fun _ h=>.inl h) (fun _ _=>rfl)⟩
  ·obtain⟨r,h1,h2⟩:=s.born j v q hq
   exact⟨yG r,by rw[cj,ai,h1];rfl,h2⟩
  ·rcases hk with hk|⟨i,ver,sz,els,q,h1,h2,h3⟩
   ·exact (s.imm k hk).1
   ·rw[br]at h2
    obtain⟨q',g1,g2⟩:=s.row _ _ _ _ h1
    rw[h2]at g1;cases g1
    exact g2.lt h3
 have rV:bA w (FD F L 0 H) L args' us.toList:=⟨by rw[←hl];exact hr.1,fun j y v hy hv=>by
  have mR:=(aj.1 hy).1
  have hx:args[j]? = some args[j]:=ae oM
  exact (hd j _ y hx hy).rep s0 v (hr.2 j _ v hx hv)⟩
 refine Calls.mono (h.2 _ L w us s1 rV) ?_
 rintro en w' ⟨v,x',b',l',F2,L2,h1,h2,h3,h4,h5,rfl,rfl,rfl⟩
 have wO:∀k,k<w.heap.size→w'.heap[k]? = w.heap[k]?:=fun k hk=>h4.block k hk (DO k)
 have ZKB:∀k,F k→w'.heap[k]? = w.heap[k]?:=fun k hk=>wO k (s.imm k hk).1
 subst hH
 refine⟨v,x',b,l,F,L,h1,hx _ _ _ _ _ _ _ h2,⟨fun j ver z els hj=>?_,s.born,s.apart,fun k hk=>⟨fu (s.imm k hk).1 h4.size,(s.imm k hk).2⟩,s.glob.mono (fun _ h=>h) ZKB⟩,
  ⟨fun _ h=>h,fun _ _ _ _ h=>h,h4.os,h4.tape,h4.output,h4.size,fun k hk _=>wO k hk,fun _ _ h=>h,fun _ _ _ h=>h,fun _ _ h=>.inl h⟩,rfl,rfl,rfl,rfl⟩
 obtain⟨q,g1,g2⟩:=s.row j ver z els hj
 exact⟨q,g1,g2.mono (fun k hk=>wO k (g2.lt hk)) (fun _ _ h=>h.mono (fun _ h=>h) ZKB (fun _ _ _ h=>h))⟩
set_option linter.unusedSimpArgs false
attribute [local go_sem ↓] xB tA iB rB EB SA uB CB dB UC gA RA wB yA DA yB dA FA lB nA xA sB TA MA lA LA fA vB aA AB tB OB ZC LC VC FC EC OC VD
attribute [local go_sem] pA uA QD eA iA MC YC XC QC nG pG JC nB pB mB MB UA KB jA UB qA mA aop sD pC rC SB sC DB tC YG YE LD amm tD IB QB SD dC ED comma nC XE QG QE ZE SF DD GD eC RF eqC eqF DE cellsOf JB yD KD ID dF rd rdI wD mk iC AV.cell List.all_cons List.all_nil Bool.and_true Bool.true_and Bool.and_self List.length_cons List.length_nil List.length_append Nat.reduceAdd Nat.reduceSub Nat.reduceMul Nat.zero_add Nat.add_zero List.cons_append List.nil_append List.append_assoc List.append_nil List.getElem?_cons_zero List.getElem?_cons_succ List.getElem?_nil List.set_cons_zero List.set_cons_succ List.drop_zero List.drop_succ_cons List.take_zero List.take_succ_cons List.take_nil List.drop_nil List.map_cons List.map_nil Option.map_some if_true if_false Bool.false_eq_true and_self true_and and_true Nat.reduceLeDiff Nat.reduceLT Nat.le_refl Nat.reduceEqDiff ite_true ite_false beq_self_eq_true beq_true beq_false Bool.not_true Bool.not_false Bool.true_beq Bool.false_beq mD gC TB GC RC qC zC FB KC DC IC nD zB IH nH DH HH EE ME CE LE geI gtI AE decide_true decide_false room List.getElem?_map List.length_map List.length_take Int.toNat_natCast Nat.min_def Nat.min_self qE JE uE mC vE bG EA List.getElem_cons_zero List.getElem_cons_succ
def a_wvars:AFunc:=⟨1,23,[.tmp 2],(.seq (.region [⟨some 2,.mv (.c (.v .zsl)),none⟩]) (.seq (.region [⟨some 3,.mv (.c (.v .zsl)),none⟩]) (.seq (.seq (.region [oA 6 0,oF 7 6,⟨some 8,.mv (.c (.v (.int .i64 0))),none⟩]) (.block 0 (.loop (.seq (.region [⟨some 9,.bin .lss (.t 8) (.t 7),none⟩]) (.seq (.cond (.t 9) .skip (.exit 0)) (.seq (.block 1 (.seq (.region [oA 10 8,oE 11 1 6 8,oC 12 11,oA 4 10,oA 5 12]) (.region [oA 13 3,oA 14 4,⟨some 15,.call (.c (.fn 75 [])) [(.t 14)],none⟩,⟨some 16,.binS .add (.c (.v (.str ⟨#[118]⟩))) (.t 15),none⟩,oA 17 5,⟨some 18,.build [(.v (.str ⟨#[]⟩)),(.v (.int .i64 0))] [(0,1,(.t 16)),(1,1,(.t 17))],none⟩,⟨some 19,.bslice 2 [(.v (.str ⟨#[]⟩)),(.v (.int .i64 0))] 1 [(0,(.t 18))],none⟩,⟨some 20,.append 2 24 (.t 13) (.t 19),none⟩,oA 3 20]))) (.region [⟨some 21,.bin .add (.t 8) (.c (.v (.int .i64 1))),none⟩,oA 8 21]))))))) (.seq (.region [oA 22 3,oA 2 22]) .ret))))⟩
theorem H3:CA Tryz.prog 42=some a_wvars:=by kernel_rfl
def DY:List (Nat×Nat):=[(3,5),(8,21)]

def QK (i:Nat):ByteArray:=⟨#[118,UInt8.ofNat (48+i)]⟩
def wVr (l:List Int) (i:Nat):Vr:=⟨QK i,l.getD i 0⟩
def qN (l:List Int):List Vr:=fl l.length (wVr l)
theorem ZBg (i:Nat):(⟨#[118]⟩:ByteArray)++dgt i=QK i:=rfl
theorem WI {l:List Int}:(qN l).length=l.length:=fC
theorem ZCW (l:List Int) (i:Nat):(fl i (wVr l)).map eVr++[[.str (QK i),.int .i64 (l.getD i 0)]]=(fl (i+1) (wVr l)).map eVr:=by
 have h:fl (i+1) (wVr l)=fl i (wVr l)++[wVr l i]:=by unfold fl;rw[ig,ci];rfl
 rw[h,ci];rfl
theorem fR (l0:List Int) (h8:l0.length≤8) (b l:List Row):ZA Tryz.prog 42 [.v (.isl 1 (l0.map eI))] b l (fun r b' l'=>r=.v (.isl 2 ((qN l0).map eVr))∧b'=b∧l'=l):=by
 refine XA H3 rfl kE ?_
 intro B g hB hR hE hA;simp only[EA]at hA
 simp (disch:=first|decide|omega) only[a_wvars,hA,aa,go_sem]
 refine GH (ι:=Nat) 3 2 DY (fun i=>[(8,.v (.int .i64 i)),(3,.sl B.length i 0 i)]) 1 (fun i=>[.live i 2 (vs ((fl i (wVr l0)).map eVr))])
  (fun i=>i≤l0.length) (fun i=>l0.length-i) 0 (an _) (by simp (disch:=first|decide|omega) only[hA,go_sem]) kE rfl kM kA kF ?_
 intro g1 aI bI aC i hi
 by_cases bB:i<l0.length
 ·have GM:=NG bB
  have hfl:((fl i (wVr l0)).map eVr).length=i:=by rw[aa,fC]
  have htk:((fl i (wVr l0)).map eVr).take i=(fl i (wVr l0)).map eVr:=cv (by rw[hfl];omega)
  have hn:=ZBg i
  simp (disch:=first|decide|omega) only[hA,aC,GM,hfl,go_sem]
  refine ZA.nxt (R9 i oM _ _) ?_
  have NN:((#[118]:Array UInt8).size+(dgt i).size≤9223372036854775807)=True:=eq_true (by show 1+1≤_;omega)
  simp (disch:=first|decide|omega) only[hA,aC,GM,hn,NN,xD,hfl,htk,ZCW,aa,go_sem]

  refine⟨i+1,bB,by simp only;omega,?_⟩
  exact KA.kround (p:=DY) (k:=1) kQ kA rfl aI kS kV hR kL
 ·obtain rfl:i=l0.length:=by omega
  have hfl:((fl l0.length (wVr l0)).map eVr).length=l0.length:=by rw[aa,fC]
  simp (disch:=first|decide|omega) only[hA,aC,aa,go_sem]
  exact nM (i:=0) (ver:=l0.length) (sz:=2) (n:=l0.length) (rows:=(fl l0.length (wVr l0)).map eVr) (.inr rfl) kR rfl hfl.symm hR hB ⟨rfl,rfl,rfl⟩
def apA (v:List Int) (a:Asg):List Int:=v.set a.v.toNat a.val
def sS (v:List Int) (l:List Asg) (j:Nat):List Int:=(l.take j).foldl apA v
def apE (v:List Int) (e:Ev):List Int:=sS v e.asg e.asg.length
def stV (p:Pr):Nat→List Int
 |0=>p.vars.map (·.init)
 |k+1=>apE (stV p k) (p.evs.getD k qK)
def iS (p:Pr):List Int:=stV p p.evs.length
def OkA (p:Pr):Prop:=∀e∈p.evs,∀a∈e.asg,0≤a.v∧a.v<p.vars.length
theorem yS:∀(l:List Asg) (v:List Int),(l.foldl apA v).length=v.length
 |[],v=>rfl
 |a::l,v=>by rw[lk,yS l];unfold apA;simp
theorem XT {v:List Int} {l:List Asg} {j:Nat}:(sS v l j).length=v.length:=yS _ _
theorem ZAG {v:List Int} {l:List Asg} {j:Nat} (h:j<l.length):sS v l (j+1)=(sS v l j).set l[j].v.toNat l[j].val:=by
 unfold sS
 rw[zP h,List.foldl_append];rfl
theorem JI {p:Pr}:∀k,(stV p k).length=p.vars.length
 |0=>by simp[stV]
 |k+1=>by simp only[stV,apE,XT];exact JI k
theorem F7 {l:List Vr} {i:Nat} (h:i<l.length):(l.map eVr)[i]? = some [.str l[i].name,.int .i64 l[i].init]:=by
 rw[ai,ae h];rfl
theorem bJ {l:List Ev} {i:Nat} (h:i<l.length):(l.map eEv)[i]? = some [.int .i64 l[i].kind,.int .i64 l[i].peer,.int .i64 l[i].msg,.int .i64 l[i].time,.isl 2 (l[i].asg.map YN)]:=by
 rw[ai,ae h];rfl
theorem ZC4 {l:List Asg} {i:Nat} (h:i<l.length):(l.map YN)[i]? = some [.int .i64 l[i].v,.int .i64 l[i].val]:=by
 rw[ai,ae h];rfl
structure PrS (p:Pr):Prop where
 nv:p.vars.length≤1000000
 ne:p.evs.length≤1000000
 na:∀e∈p.evs,e.asg.length≤1000000
def ZA7 (p:Pr):Row:=.live 0 3 [[.v (.str p.name),.v (.isl 2 (p.vars.map eVr)),.v (.isl 5 (p.evs.map eEv))]]
open Go.RowKit
def a_wst1:AFunc:=({c:=_}:CF Tryz.prog 97).c
theorem ZIR:CA Tryz.prog 97=some a_wst1:=by kernel_rfl
def E6:List (Nat×Nat):=[(3,3),(5,5),(13,22)]
def CG:List (Nat×Nat):=[(6,7),(9,9),(31,57)]
def M6:List (Nat×Nat):=[(9,9),(39,49)]

theorem IA {α:Type} {T:List α} {n:Nat} (h:T.length=n+1):∃a U,T=a::U∧U.length=n:=by
 cases T with
 |nil=>cases h
 |cons a U=>exact⟨a,U,rfl,by simpa using h⟩
theorem ZGP {α:Type} (T:List α) (h:T.length=58):∃v0 v1 v2 v3 v4 v5 v6 v7 v8 v9 v10 v11 v12 v13 v14 v15 v16 v17 v18 v19 v20 v21 v22 v23 v24 v25 v26 v27 v28 v29 v30 v31 v32 v33 v34 v35 v36 v37 v38 v39 v40 v41 v42 v43 v44 v45 v46 v47 v48 v49 v50 v51 v52 v53 v54 v55 v56 v57:α,T=[v0,v1,v2,v3,v4,v5,v6,v7,v8,v9,v10,v11,v12,v13,v14,v15,v16,v17,v18,v19,v20,v21,v22,v23,v24,v25,v26,v27,v28,v29,v30,v31,v32,v33,v34,v35,v36,v37,v38,v39,v40,v41,v42,v43,v44,v45,v46,v47,v48,v49,v50,v51,v52,v53,v54,v55,v56,v57]:=by
 obtain⟨v0,T0,rfl,h0⟩:=IA h
 obtain⟨v1,T1,rfl,h1⟩:=IA h0
 obtain⟨v2,T2,rfl,h2⟩:=IA h1
 obtain⟨v3,T3,rfl,h3⟩:=IA h2
 obtain⟨v4,T4,rfl,h4⟩:=IA h3
 obtain⟨v5,T5,rfl,h5⟩:=IA h4
 obtain⟨v6,T6,rfl,h6⟩:=IA h5
 obtain⟨v7,T7,rfl,h7⟩:=IA h6
 obtain⟨v8,T8,rfl,h8⟩:=IA h7
 obtain⟨v9,T9,rfl,h9⟩:=IA h8
 obtain⟨v10,T10,rfl,h10⟩:=IA h9
 obtain⟨v11,T11,rfl,h11⟩:=IA h10
 obtain⟨v12,T12,rfl,h12⟩:=IA h11
 obtain⟨v13,T13,rfl,h13⟩:=IA h12
 obtain⟨v14,T14,rfl,h14⟩:=IA h13
 obtain⟨v15,T15,rfl,h15⟩:=IA h14
 obtain⟨v16,T16,rfl,h16⟩:=IA h15
 obtain⟨v17,T17,rfl,h17⟩:=IA h16
 obtain⟨v18,T18,rfl,h18⟩:=IA h17
 obtain⟨v19,T19,rfl,h19⟩:=IA h18
 obtain⟨v20,T20,rfl,h20⟩:=IA h19
 obtain⟨v21,T21,rfl,h21⟩:=IA h20
 obtain⟨v22,T22,rfl,h22⟩:=IA h21
 obtain⟨v23,T23,rfl,h23⟩:=IA h22
 obtain⟨v24,T24,rfl,h24⟩:=IA h23
 obtain⟨v25,T25,rfl,h25⟩:=IA h24
 obtain⟨v26,T26,rfl,h26⟩:=IA h25
 obtain⟨v27,T27,rfl,h27⟩:=IA h26
 obtain⟨v28,T28,rfl,h28⟩:=IA h27
 obtain⟨v29,T29,rfl,h29⟩:=IA h28
 obtain⟨v30,T30,rfl,h30⟩:=IA h29
 obtain⟨v31,T31,rfl,h31⟩:=IA h30
 obtain⟨v32,T32,rfl,h32⟩:=IA h31
 obtain⟨v33,T33,rfl,h33⟩:=IA h32
 obtain⟨v34,T34,rfl,h34⟩:=IA h33
 obtain⟨v35,T35,rfl,h35⟩:=IA h34
 obtain⟨v36,T36,rfl,h36⟩:=IA h35
 obtain⟨v37,T37,rfl,h37⟩:=IA h36
 obtain⟨v38,T38,rfl,h38⟩:=IA h37
 obtain⟨v39,T39,rfl,h39⟩:=IA h38
 obtain⟨v40,T40,rfl,h40⟩:=IA h39
 obtain⟨v41,T41,rfl,h41⟩:=IA h40
 obtain⟨v42,T42,rfl,h42⟩:=IA h41
 obtain⟨v43,T43,rfl,h43⟩:=IA h42
 obtain⟨v44,T44,rfl,h44⟩:=IA h43
 obtain⟨v45,T45,rfl,h45⟩:=IA h44
 obtain⟨v46,T46,rfl,h46⟩:=IA h45
 obtain⟨v47,T47,rfl,h47⟩:=IA h46
 obtain⟨v48,T48,rfl,h48⟩:=IA h47
 obtain⟨v49,T49,rfl,h49⟩:=IA h48
 obtain⟨v50,T50,rfl,h50⟩:=IA h49
 obtain⟨v51,T51,rfl,h51⟩:=IA h50
 obtain⟨v52,T52,rfl,h52⟩:=IA h51
 obtain⟨v53,T53,rfl,h53⟩:=IA h52
 obtain⟨v54,T54,rfl,h54⟩:=IA h53
 obtain⟨v55,T55,rfl,h55⟩:=IA h54
 obtain⟨v56,T56,rfl,h56⟩:=IA h55
 obtain⟨v57,T57,rfl,h57⟩:=IA h56
 obtain rfl:=cu h57
 exact⟨v0,v1,v2,v3,v4,v5,v6,v7,v8,v9,v10,v11,v12,v13,v14,v15,v16,v17,v18,v19,v20,v21,v22,v23,v24,v25,v26,v27,v28,v29,v30,v31,v32,v33,v34,v35,v36,v37,v38,v39,v40,v41,v42,v43,v44,v45,v46,v47,v48,v49,v50,v51,v52,v53,v54,v55,v56,v57,rfl⟩
def s1A:ACode:=.region [⟨(some 3),.mv (.c (.v .zsl)),none⟩]
def s1V:ACode:=.seq (.region [⟨(some 10),.faddr 1 (.t 1),none⟩,⟨(some 11),.load none (.t 10),none⟩,⟨(some 12),.len (.t 11),none⟩,⟨(some 13),.mv (.c (.v (.int .i64 0))),none⟩])
 (.block 0 (.loop (.seq (.region [⟨(some 14),.bin .lss (.t 13) (.t 12),none⟩])
 (.seq (.cond (.t 14) .skip
 (.exit 0))
 (.seq (.block 1 (.seq (.region [⟨(some 15),.iaddr 2 (.t 11) (.t 13),none⟩,⟨(some 16),.load (some 2) (.t 15),none⟩,⟨(some 5),.alloc [(.v (.str ⟨#[]⟩)),(.v (.int .i64 0))],none⟩,⟨none,.store 2 (.t 5) (.t 16),none⟩])
 (.region [⟨(some 17),.mv (.t 3),none⟩,⟨(some 18),.faddr 1 (.t 5),none⟩,⟨(some 19),.load none (.t 18),none⟩,⟨(some 20),.bslice 1 [(.v (.int .i64 0))] 1 [(0,(.t 19))],none⟩,⟨(some 21),.append 1 8 (.t 17) (.t 20),none⟩,⟨(some 3),.mv (.t 21),none⟩])))
 (.region [⟨(some 22),.bin .add (.t 13) (.c (.v (.int .i64 1))),none⟩,⟨(some 13),.mv (.t 22),none⟩]))))))
def s1R:ACode:=.region [⟨(some 28),.faddr 2 (.t 1),none⟩,⟨(some 29),.load none (.t 28),none⟩,⟨(some 30),.len (.t 29),none⟩,⟨(some 31),.mv (.c (.v (.int .i64 0))),none⟩]
def s1C:ACode:=.region [⟨(some 32),.bin .lss (.t 31) (.t 30),none⟩]
def s1E:ACode:=.region [⟨(some 33),.mv (.t 31),none⟩,⟨(some 34),.iaddr 5 (.t 29) (.t 31),none⟩,⟨(some 35),.load (some 5) (.t 34),none⟩,⟨(some 7),.alloc [(.v (.int .i64 0)),(.v (.int .i64 0)),(.v (.int .i64 0)),(.v (.int .i64 0)),(.v .zsl)],none⟩,⟨(some 6),.mv (.t 33),none⟩,⟨none,.store 5 (.t 7) (.t 35),none⟩]
def s1I:ACode:=.seq (.region [⟨(some 36),.faddr 4 (.t 7),none⟩,⟨(some 37),.load none (.t 36),none⟩,⟨(some 38),.len (.t 37),none⟩,⟨(some 39),.mv (.c (.v (.int .i64 0))),none⟩])
 (.block 4 (.loop (.seq (.region [⟨(some 40),.bin .lss (.t 39) (.t 38),none⟩])
 (.seq (.cond (.t 40) .skip
 (.exit 4))
 (.seq (.block 5 (.seq (.region [⟨(some 41),.iaddr 2 (.t 37) (.t 39),none⟩,⟨(some 42),.load (some 2) (.t 41),none⟩,⟨(some 9),.alloc [(.v (.int .i64 0)),(.v (.int .i64 0))],none⟩,⟨none,.store 2 (.t 9) (.t 42),none⟩])
 (.region [⟨(some 43),.mv (.t 3),none⟩,⟨(some 44),.faddr 0 (.t 9),none⟩,⟨(some 45),.load none (.t 44),none⟩,⟨(some 46),.faddr 1 (.t 9),none⟩,⟨(some 47),.load none (.t 46),none⟩,⟨(some 48),.iaddr 1 (.t 43) (.t 45),none⟩,⟨none,.store 1 (.t 48) (.t 47),none⟩])))
 (.region [⟨(some 49),.bin .add (.t 39) (.c (.v (.int .i64 1))),none⟩,⟨(some 39),.mv (.t 49),none⟩]))))))
def s1N:ACode:=.region [⟨(some 57),.bin .add (.t 31) (.c (.v (.int .i64 1))),none⟩,⟨(some 31),.mv (.t 57),none⟩]
structure StF (yl:Nat) (p:Pr) (B:List Row) (n:Nat) (f:Nat→AV):Prop where
 lt:KLt (B.length+1) f
 s0:f 0=.v (.yl yl)
 s1:f 1=.v (.iptr [.str p.name,.isl 2 (p.vars.map eVr),.isl 5 (p.evs.map eEv)] 0)
 s3:f 3=.sl B.length n 0 n
theorem ZEg (yl:Nat) (p:Pr) (hS:PrS p) (B:List Row) (hR:YB B.length B) (g:Nat→AV) (hE:KLt B.length g) (h0:g 0=.v (.yl yl)) (h1:g 1=.v (.iptr [.str p.name,.isl 2 (p.vars.map eVr),.isl 5 (p.evs.map eEv)] 0)) (h3:g 3=.v .zsl) :
  run (ZA Tryz.prog) KA s1V (kOf 58 g) B [] (fun ax e b l=>ax=.normal∧b=B∧l=[.live p.vars.length 1 (vs ((stV p 0).map eI))]∧∃f,e=kOf 58 f∧StF yl p B p.vars.length f):=by
 have hnv:=hS.nv
 simp (disch:=first|decide|omega) only[s1V,h0,h1,h3,aa,go_sem]
 refine GH (ι:=Nat) 3 1 E6 (fun i=>[(13,.v (.int .i64 i)),(3,.sl B.length i 0 i)]) 1 (fun i=>[.live i 1 (vs (((p.vars.take i).map (·.init)).map eI))])
  (fun i=>i≤p.vars.length) (fun i=>p.vars.length-i) 0 (an _) (by simp (disch:=first|decide|omega) only[h3,go_sem]) kE rfl kM (by ((try simp (disch:=decide) only[h0,h1,go_sem])<;>exact kH)) kF ?_
 intro g1 aI bI aC i hi
 by_cases bB:i<p.vars.length
 ·have GM:=F7 bB
  have hfl:(((p.vars.take i).map (·.init)).map eI).length=i:=by rw[aa,aa,bu];omega
  have htk:(((p.vars.take i).map (·.init)).map eI).take i=((p.vars.take i).map (·.init)).map eI:=cv (by rw[hfl];omega)
  have x6:((p.vars.take i).map (·.init)).map eI++[[.int .i64 p.vars[i].init]]=((p.vars.take (i+1)).map (·.init)).map eI:=by rw[zP bB,ci,ci];rfl
  simp (disch:=first|decide|omega) only[h0,h1,h3,aC,GM,xD,hfl,htk,x6,aa,go_sem]
  refine⟨i+1,bB,by simp only;omega,?_⟩
  exact KA.kround (p:=E6) (k:=1) kQ (by ((try simp (disch:=decide) only[h0,h1,aC,go_sem])<;>exact kH)) rfl aI kS kV hR kL
 ·obtain rfl:i=p.vars.length:=by omega
  have tH:(p.vars.take p.vars.length).map (·.init)=stV p 0:=by rw[jf];rfl
  simp (disch:=first|decide|omega) only[h0,h1,h3,aC,aa,go_sem]
  refine⟨by rw[tH],_,rfl,⟨?_,?_,?_,?_⟩⟩
  ·(repeat (first|exact aI.mono oM|refine KLt.up ?_ kL))
  ·simp (disch:=first|decide|omega) only[h0,h1,aC,go_sem]
  ·simp (disch:=first|decide|omega) only[h0,h1,aC,go_sem]
  ·simp (disch:=first|decide|omega) only[h0,h1,aC,go_sem]
structure StG (yl:Nat) (p:Pr) (B:List Row) (n k i:Nat) (f:Nat→AV):Prop where
 lt:KLt (B.length+k) f
 s0:f 0=.v (.yl yl)
 s1:f 1=.v (.iptr [.str p.name,.isl 2 (p.vars.map eVr),.isl 5 (p.evs.map eEv)] 0)
 s3:f 3=.sl B.length n 0 n
 s29:f 29=.v (.isl 5 (p.evs.map eEv))
 s30:f 30=.v (.int .i64 p.evs.length)
 s31:f 31=.v (.int .i64 i)
theorem ZEh (yl:Nat) (p:Pr) (hS:PrS p) (B:List Row) (n:Nat) (l:List Row) (f:Nat→AV) (h:StF yl p B n f) :
  run (ZA Tryz.prog) KA s1R (kOf 58 f) B l (fun ax e b l'=>ax=.normal∧b=B∧l'=l∧∃f',e=kOf 58 f'∧StG yl p B n 1 0 f'):=by
 have YH:=hS.ne
 have h1:=h.s1
 simp (disch:=first|decide|omega) only[s1R,h1,aa,go_sem]
 refine⟨_,rfl,⟨?_,?_,?_,?_,?_,?_,?_⟩⟩
 ·have hE:=h.lt
  (repeat (first|exact hE.mono oM|refine KLt.up ?_ kL))
 ·have:=h.s0
  simp (disch:=first|decide|omega) only[this,go_sem]
 ·simp (disch:=first|decide|omega) only[h1,go_sem]
 ·have:=h.s3
  simp (disch:=first|decide|omega) only[this,go_sem]
 ·simp (disch:=first|decide|omega) only[h1,go_sem]
 ·simp (disch:=first|decide|omega) only[h1,go_sem]
 ·simp (disch:=first|decide|omega) only[h1,go_sem];rfl
theorem ZEl (yl:Nat) (p:Pr) (B:List Row) (n i k:Nat) (l:List Row) (f:Nat→AV) (h:StG yl p B n k i f) :
  run (ZA Tryz.prog) KA s1C (kOf 58 f) B l (fun ax e b l'=>ax=.normal∧b=B∧l'=l∧∃f',e=kOf 58 f'∧StG yl p B n k i f'∧f' 32=.v (.bool (decide ((i:Int)<(p.evs.length:Int))))):=by
 have h1:=h.s30
 have h2:=h.s31
 simp (disch:=first|decide|omega) only[s1C,h1,h2,go_sem]
 refine⟨_,rfl,⟨?_,?_,?_,?_,?_,?_,?_⟩,?_⟩
 ·have hE:=h.lt
  (repeat (first|exact hE.mono oM|refine KLt.up ?_ kL))
 ·have:=h.s0
  simp (disch:=first|decide|omega) only[this,go_sem]
 ·have:=h.s1
  simp (disch:=first|decide|omega) only[this,go_sem]
 ·have:=h.s3
  simp (disch:=first|decide|omega) only[this,go_sem]
 ·have:=h.s29
  simp (disch:=first|decide|omega) only[this,go_sem]
 ·simp (disch:=first|decide|omega) only[h1,go_sem]
 ·simp (disch:=first|decide|omega) only[h2,go_sem]
 ·simp (disch:=first|decide|omega) only[h2,go_sem]
def FT (e:Ev):Row:=.live 0 5 [[.v (.int .i64 e.kind),.v (.int .i64 e.peer),.v (.int .i64 e.msg),.v (.int .i64 e.time),.v (.isl 2 (e.asg.map YN))]]
theorem ZEk (yl:Nat) (p:Pr) (B:List Row) (n i:Nat) (hi:i<p.evs.length) (r:Row) (f:Nat→AV) (h:StG yl p B n 1 i f) :
  run (ZA Tryz.prog) KA s1E (kOf 58 f) B [r] (fun ax e b l'=>ax=.normal∧b=B∧l'=[r,FT p.evs[i]]∧∃f',e=kOf 58 f'∧StG yl p B n 2 i f'∧(f' 6=.v (.int .i64 i)∧f' 7=.ptr (B.length+1) 0 0 0)∧KLt (B.length+1) (xG CG f')):=by
 have h1:=h.s29
 have h2:=h.s31
 have TK:=bJ hi
 simp (disch:=first|decide|omega) only[s1E,h1,h2,TK,cellsOf,go_sem]
 refine⟨rfl,_,rfl,⟨?_,?_,?_,?_,?_,?_,?_⟩,⟨?_,?_⟩,?_⟩
 ·have hE:=h.lt
  (repeat (first|exact hE.mono oM|refine KLt.up ?_ kL))
 ·have:=h.s0
  simp (disch:=first|decide|omega) only[this,go_sem]
 ·have:=h.s1
  simp (disch:=first|decide|omega) only[this,go_sem]
 ·have:=h.s3
  simp (disch:=first|decide|omega) only[this,go_sem]
 ·simp (disch:=first|decide|omega) only[h1,go_sem]
 ·have:=h.s30
  simp (disch:=first|decide|omega) only[this,go_sem]
 ·simp (disch:=first|decide|omega) only[h2,go_sem]
 ·simp (disch:=first|decide|omega) only[h2,go_sem]
 ·simp (disch:=first|decide|omega) only[h2,go_sem]
 ·have e1:∀f',xG CG f'=xG CG f→KLt (B.length+1) (xG CG f'):=fun f' he=>by rw[he];exact h.lt.any
  exact e1 _ (by (repeat refine (kAny_up rfl).trans ?_);rfl)
theorem ZEj (yl:Nat) (p:Pr) (hS:PrS p) (hO:OkA p) (B:List Row) (hR:YB B.length B) (i:Nat) (hi:i<p.evs.length) (f:Nat→AV) (h:StG yl p B p.vars.length 2 i f) (h6:f 6=.v (.int .i64 i)) (h7:f 7=.ptr (B.length+1) 0 0 0) (hlo:KLt (B.length+1) (xG CG f)) :
  run (ZA Tryz.prog) KA s1I (kOf 58 f) B [.live p.vars.length 1 (vs ((stV p i).map eI)),FT p.evs[i]] (fun ax e b l'=>ax=.normal∧b=B∧l'=[.live p.vars.length 1 (vs ((stV p (i+1)).map eI)),FT p.evs[i]]∧∃f',e=kOf 58 f'∧StG yl p B p.vars.length 2 i f'∧f' 6=.v (.int .i64 i)∧KLt (B.length+1) (xG CG f')):=by
 obtain⟨e,he⟩:∃e,p.evs[i]=e:=⟨_,rfl⟩
 rw[he]
 have hme:e∈p.evs:=by rw[←he];exact ap hi
 have hna:=hS.na e hme
 have hnv:=hS.nv
 have tH:stV p (i+1)=sS (stV p i) e.asg e.asg.length:=by simp only[stV,apE,YA hi,he]
 have hE:=h.lt
 have h3:=h.s3
 unfold FT
 simp (disch:=first|decide|omega) only[s1I,h7,aa,go_sem]
 refine ZB (ι:=Nat) M6 (fun j=>[(39,.v (.int .i64 j))]) 2 (fun j=>[.live p.vars.length 1 (vs ((sS (stV p i) e.asg j).map eI)),FT e])
  (fun j=>j≤e.asg.length) (fun j=>e.asg.length-j) 0 (an _) kM (by ((try simp (disch:=decide) only[h7,go_sem])<;>exact kH)) kF ?_
 intro g3 hE3 hEE3 IQ j hj
 unfold FT
 by_cases OZ:j<e.asg.length
 ·have hga:=ZC4 OZ
  have hv:=hO e hme e.asg[j] (ap OZ)
  have hfl:((sS (stV p i) e.asg j).map eI).length=p.vars.length:=by rw[aa,XT,JI]
  obtain⟨q,hq⟩:∃q:Nat,e.asg[j].v=q:=⟨e.asg[j].v.toNat,by omega⟩
  have hqn:q<p.vars.length:=by omega
  have hqg:((sS (stV p i) e.asg j).map eI)[q]? = some [.int .i64 ((sS (stV p i) e.asg j).getD q 0)]:=NG (by rw[XT,JI];exact hqn)
  have tV:((sS (stV p i) e.asg j).map eI).set q [.int .i64 e.asg[j].val]=(sS (stV p i) e.asg (j+1)).map eI:=by rw[ZAG OZ,hq,bs,ie];rfl
  simp (disch:=first|decide|omega) only[h3,h7,IQ,hga,hq,hqg,tV,hfl,aa,go_sem]
  refine⟨j+1,OZ,by simp only;omega,?_⟩
  exact KA.kround (p:=M6) (k:=2) kQ (by ((try simp (disch:=decide) only[h3,h7,IQ,go_sem])<;>exact kH)) rfl hE3 kS kV hR kL
 ·obtain rfl:j=e.asg.length:=by omega
  simp (disch:=first|decide|omega) only[h3,h7,IQ,aa,go_sem]
  rw[tH]
  refine⟨rfl,_,rfl,⟨?_,?_,?_,?_,?_,?_,?_⟩,?_,?_⟩
  ·(repeat (first|exact hE3.mono oM|refine KLt.up ?_ kL))
  ·have:=h.s0
   simp (disch:=first|decide|omega) only[this,IQ,go_sem]
  ·have:=h.s1
   simp (disch:=first|decide|omega) only[this,IQ,go_sem]
  ·simp (disch:=first|decide|omega) only[h3,IQ,go_sem]
  ·have:=h.s29
   simp (disch:=first|decide|omega) only[this,IQ,go_sem]
  ·have:=h.s30
   simp (disch:=first|decide|omega) only[this,IQ,go_sem]
  ·have:=h.s31
   simp (disch:=first|decide|omega) only[this,IQ,go_sem]
  ·simp (disch:=first|decide|omega) only[h6,IQ,go_sem]
  ·have e1:∀f',xG CG f'=xG CG f→KLt (B.length+1) (xG CG f'):=fun f' he=>by rw[he];exact hlo
   exact e1 _ (by (repeat refine (kAny_up rfl).trans ?_);refine (kAny_sub IQ (kIn_sub rfl)).trans ?_;(repeat refine (kAny_up rfl).trans ?_);rfl)
theorem ZEi (yl:Nat) (p:Pr) (hS:PrS p) (B:List Row) (n i k:Nat) (hi:i<p.evs.length) (l:List Row) (f:Nat→AV) (h:StG yl p B n k i f) :
  run (ZA Tryz.prog) KA s1N (kOf 58 f) B l (fun ax e b l'=>ax=.normal∧b=B∧l'=l∧∃f',e=kOf 58 f'∧StG yl p B n k (i+1) f'):=by
 have YH:=hS.ne
 have h2:=h.s31
 simp (disch:=first|decide|omega) only[s1N,h2,go_sem]
 refine⟨_,rfl,⟨?_,?_,?_,?_,?_,?_,?_⟩⟩
 ·have hE:=h.lt
  (repeat (first|exact hE.mono oM|refine KLt.up ?_ kL))
 ·have:=h.s0
  simp (disch:=first|decide|omega) only[this,go_sem]
 ·have:=h.s1
  simp (disch:=first|decide|omega) only[this,go_sem]
 ·have:=h.s3
  simp (disch:=first|decide|omega) only[this,go_sem]
 ·have:=h.s29
  simp (disch:=first|decide|omega) only[this,go_sem]
 ·have:=h.s30
  simp (disch:=first|decide|omega) only[this,go_sem]
 ·simp (disch:=first|decide|omega) only[h2,go_sem];rfl
end Go.Proofs.YtadnnjchehjbiaaGreatDoor
namespace Go.Proofs.YtadnnjchehjbiaaGreatDoor
open Go.RowKit
set_option linter.unusedVariables false
set_option linter.unusedSimpArgs false
attribute [local go_sem] Oper.semAt_some
theorem ZFW {P:Program} {nn N:Nat} {F0:Nat→Prop} {m0:Nat} {J:World→Prop} {f:Nat→AV} {l:List Row} {a:Act} {w:World} {s:Nat} {t:Bool} {x y:Code} {K:Exit→Act→World→Prop} (h:ZP F0 m0 J (kOf N f) l a w) (hs:s<N) (hf:f s=.v (.bool t))
  (hx:(if t=true then x else y).wpIn Fence.wide nn P K a w):(Code.cond (.tmp s) x y).wpIn Fence.wide nn P K a w:=by
 obtain⟨F,L,s',he,_⟩:=h
 have hr:=he.nth s
 rw[qE hs,hf]at hr
 refine wpIn_cond (dL hr) ?_
 cases t
 ·exact hx
 ·exact hx
theorem ZFV {F0:Nat→Prop} {m0:Nat} {J:World→Prop} {B:List Row} (hB:B=[]) {e e':List AV} {l l':List Row} (hw:KA e B l e' B l') {a:Act} {w:World} (h:ZP F0 m0 J e l a w):ZP F0 m0 J e' l' a w:=by
 subst hB
 obtain⟨F,L,s,he,h1,h2,h3,h4,h5⟩:=h
 obtain⟨F',L',s',he',st,_⟩:=hw F L w a s he
 refine⟨F',L',s',he',fun k hk=>st.imm k (h1 k hk),fun k hk=>?_,fun k hk=>?_,h4,h5⟩
 ·rcases cq k w.heap.size with bB|TK
  ·rcases st.fnew k bB hk with hf|ho
   ·exact h2 k hf
   ·exact .inr (h3 k ho)
  ·exact .inr oM
 ·rcases cq k w.heap.size with bB|TK
  ·exact h3 k (st.own k bB hk)
  ·omega
theorem qZ {w:World} {F:Nat→Prop} {v:List Int} {u:Value} (h:RepI w F (.isl 1 (v.map eI)) u):RepI w (fun k=>k<w.heap.size) (.isl 1 (v.map eI)) u:=by
 obtain⟨A,c,rfl,h2,h3,h4⟩:=wI h
 refine PS h2 h3 (fun h0=>?_)
 obtain⟨b,off,h5,h6,h7⟩:=h4 h0
 have bB:b<w.heap.size:=by
  have hk:0<(v.map eI).length:=h0
  obtain⟨g1,g2⟩:=h7 0 (v.map eI)[0] (ae hk)
  have hj:0<((v.map eI)[0]).length:=by rw[g1];decide
  obtain⟨x,hx,_⟩:=g2 0 _ (ae hj)
  obtain⟨o,ho,_⟩:=not_walk_of_cell hx
  exact (bp.1 ho).1
 refine⟨b,off,h5,bB,fun k row hk=>?_⟩
 obtain⟨g1,g2⟩:=h7 k row hk
 refine⟨g1,fun j a hj=>?_⟩
 obtain⟨x,hx,hr⟩:=g2 j a hj
 refine⟨x,hx,?_⟩
 rw[ai]at hk
 cases hq:v[k]? with
 |none=>rw[hq]at hk;cases hk
 |some z =>
   rw[hq]at hk;cases hk
   cases j with
   |zero=>simp[eI]at hj;subst hj;cases hr;exact .int _ _
   |succ j=>simp[eI]at hj
theorem xQ (v:List Int) (hn:v.length≤1000000) (w:World) (u:Value) (hu:RepI w (fun k=>k<w.heap.size) (.isl 1 (v.map eI)) u):Calls Tryz.prog 78 #[u] w fun e w'=>∃vv,e=.returned vv∧Ext w w'∧RepI w' (fun k=>w.heap.size≤k∧k<w'.heap.size) (.isl 1 (v.map eI)) vv:=by
 have no:∀k,¬gD (fun _ _=>none) ([]++[]) k:=by rintro k ⟨i,v,s,e1,q,h1,h2,h3⟩;cases h2
 have h:=(SI v hn [] []).2 (fun k=>k<w.heap.size) (fun _ _=>none) w #[u] (KR (fun _ h=>h)) (bA.cons (.v _ _ hu) bA.nil)
 refine Calls.mono h ?_
 rintro en w' ⟨vv,x,b',l',F',L',h1,h2,h3,h4,h5,rfl,rfl,rfl⟩
 refine⟨vv,h1,⟨h4.os,h4.tape,h4.output,h4.size,fun k hk=>h4.block k hk (no k)⟩,?_⟩
 have RE:=h3.row 0 1 1 (vs (v.map eI)) rfl
 have hd:RepA w' (FD F' L' 0 [.live 1 1 (vs (v.map eI))]) L' (.v (.isl 1 (v.map eI))) vv:=(Dv.slV (n:=0) (i:=0) rfl (by rw[aa])).rep (b:=[]) h3 vv h2
 obtain⟨A,c,rfl,g2,g3,g4⟩:=wI hd.vI
 refine PS g2 g3 (fun h0=>?_)
 obtain⟨b,off,rfl,h6,h7⟩:=g4 h0
 have QO:w.heap.size≤b:=by
  rcases cq b w.heap.size with bB|TK
  ·exfalso
   have hb:F' b:=h4.imm b bB
   refine (h3.imm b hb).2 ?_
   obtain⟨q,g5,g6⟩:=RE
   refine⟨0,1,1,_,q,rfl,g5,?_⟩
   generalize iU:Value.slice (some ⟨b,off,none⟩) (v.map eI).length c=vv at h2
   generalize hll:v.length=ll at h2
   cases h2 with
   |sl id ver off' len b0 o sz cap hL nL hm =>
     rw[show ([]:List Row).length+([]:List Row).length=0 from rfl]at hL
     rw[hL]at g5;cases g5
     injection iU with e1 e2 e3
     injection e1 with e4
     injection e4 with e5 e6
     exact e5.symm
   |slz id ver off' b0 o sz cap x hL he =>
     injection iU with e1 e2 e3
     omega
   |sln id ver ad hL =>
     injection iU with e1 e2 e3
     omega
  ·exact TK
 have yF:b<w'.heap.size:=by
  have hk:0<(v.map eI).length:=h0
  obtain⟨g1,g2⟩:=h7 0 (v.map eI)[0] (ae hk)
  have hj:0<((v.map eI)[0]).length:=by rw[g1];decide
  obtain⟨x,hx,_⟩:=g2 0 _ (ae hj)
  obtain⟨o,ho,_⟩:=not_walk_of_cell hx
  exact (bp.1 ho).1
 refine⟨b,off,rfl,⟨QO,yF⟩,fun k row hk=>?_⟩
 obtain⟨g1,g2⟩:=h7 k row hk
 refine⟨g1,fun j a hj=>?_⟩
 obtain⟨x,hx,hr⟩:=g2 j a hj
 refine⟨x,hx,?_⟩
 rw[ai]at hk
 cases hq:v[k]? with
 |none=>rw[hq]at hk;cases hk
 |some z =>
   rw[hq]at hk;cases hk
   cases j with
   |zero=>simp[eI]at hj;subst hj;cases hr;exact .int _ _
   |succ j=>simp[eI]at hj
theorem sI {N s:Nat} {F0:Nat→Prop} {m0:Nat} {J:World→Prop} {f:Nat→AV} {l:List Row} {a:Act} {w:World} {v:Value} (h:ZP F0 m0 J (kOf N f) l a w):ZP F0 m0 J (kOf N (kUp f s .any)) l (a.put (some s) v) w:=by
 obtain⟨F,L,s',he,h⟩:=h
 refine⟨F,L,s',?_,h⟩
 have:=he.put (some s) (RepA.any (w:=w) (F:=F) (L:=L) v)
 rwa [JE]at this
theorem ZEm (B:List Row) (g:Nat→AV):run (ZA Tryz.prog) KA s1A (kOf 58 g) B [] (fun ax e b l=>ax=.normal∧b=B∧l=[]∧e=kOf 58 (kUp g 3 (.v .zsl))):=⟨rfl,rfl,rfl,JE (n:=3)⟩
theorem N0 (n:Nat) (hn:1≤n) (p:Pr) (hS:PrS p) (hO:OkA p) (l Bt:Nat) (W:World) (F0:Nat→Prop) (hF0:∀k,F0 k→k<W.heap.size)
  (hp:RepI W F0 (.iptr [.str p.name,.isl 2 (p.vars.map eVr),.isl 5 (p.evs.map eEv)] 0) (.pointer (some ⟨Bt,0,none⟩))) (J:Nat→World→Prop) (Jx:World→Prop)
  (hJ:∀i A B,J i A→Below W.heap.size A B→J i B)
  (hY:∀i v W1,i≤p.evs.length→J i W1→W.heap.size≤W1.heap.size→RepI W1 (fun k=>W.heap.size≤k∧k<W1.heap.size) (.isl 1 ((stV p i).map eI)) v →
   YieldAt Fence.wide (n-1) Tryz.prog l #[.int .i64 i,v] W1 fun e W'=>(e=.returned (.bool true)∧J (i+1) W'∧KeepF F0 W.heap.size W1 W')∨(e=.returned (.bool false)∧Jx W'))
  (h0:J 0 W) :
  CallsIn Fence.wide n Tryz.prog 97 #[.func (.yield l) #[] #[],.pointer (some ⟨Bt,0,none⟩)] W fun e W'=>(∃v,e=.returned v)∧(J (p.evs.length+1) W'∨Jx W'):=by
 obtain⟨B,hB⟩:∃B:List Row,B=[]:=⟨[],rfl⟩
 have hR:YB B.length B:=by rw[hB];exact wE
 obtain⟨m0,hm0⟩:∃m0,m0=W.heap.size:=⟨_,rfl⟩
 rw[←hm0]at hJ hY
 have hJ0:∀i,∀A B,J i A→Low0 m0 A B→J i B:=fun i A B h k=>hJ i A B h k
 refine callsIn_of_wp Tryz.func97 rfl trivial ?_ rfl
 rw[Tryz.ntmps97]
 have rV:bA W F0 (fun _ _=>none) [.v (.yl l),.v (.iptr [.str p.name,.isl 2 (p.vars.map eVr),.isl 5 (p.evs.map eEv)] 0)] (#[.func (.yield l) #[] #[],.pointer (some ⟨Bt,0,none⟩)]:Array Value).toList:=bA.cons (.v _ _ (.yl l)) (bA.cons (.v _ _ hp) bA.nil)
 have hes:=A9 rV 58 kS
 obtain⟨a0,ha0⟩:∃a0:Act,a0={tmps:=#[.func (.yield l) #[] #[],.pointer (some ⟨Bt,0,none⟩)]++Array.replicate (58-(#[.func (.yield l) #[] #[],.pointer (some ⟨Bt,0,none⟩)]:Array Value).size) undef,defers:=[]}:=⟨_,rfl⟩
 rw[←ha0]at hes⊢
 obtain⟨g0,hg0⟩:∃g0:Nat→AV,g0=fun i=>([.v (.yl l),.v (.iptr [.str p.name,.isl 2 (p.vars.map eVr),.isl 5 (p.evs.map eEv)] 0)]:List AV).getD i (.tup []):=⟨_,rfl⟩
 rw[←hg0]at hes
 have z0:g0 0=.v (.yl l):=by rw[hg0];rfl
 have z1:g0 1=.v (.iptr [.str p.name,.isl 2 (p.vars.map eVr),.isl 5 (p.evs.map eEv)] 0):=by rw[hg0];rfl
 have hE0:KLt B.length g0:=fun i=>by
  rw[hg0]
  match i with
  |0=>exact .v _
  |1=>exact .v _
  |i+2=>exact .tup _ kS
 clear hg0 ha0
 have at0:ZP F0 m0 (J 0) (kOf 58 g0) [] a0 W:=by
  refine⟨F0,fun _ _=>none,KR hF0,hes,fun _ h=>h,fun _ h=>.inl h,fun k hk=>?_,by rw[hm0];exact ah _,h0⟩
  obtain⟨i,ver,sz,els,q,h1,h2,h3⟩:=hk
  cases h2
 refine wpIn_seq (QJ (ac:=s1A) (hJ0 0) kK hB (Q:=fun ax e b l=>ax=.normal∧b=B∧l=[]∧e=kOf 58 (kUp g0 3 (.v .zsl))) (ZEm B g0) at0 ?_)
 rintro ex a1 w1 ax e1 l1 hex ⟨rfl,_,rfl,rfl⟩ at1
 cases ex<;>first|exact hex.elim|skip
 simp only[Exit.then]
 refine wpIn_seq (QJ (ac:=s1V) (hJ0 0) kK hB (ZEg l p hS B hR _ (hE0.up (.v _)) ?_ ?_ OC) at1 ?_)
 ·rw[VD kE];exact z0
 ·rw[VD kE];exact z1
 clear at0 at1 hes hE0
 rintro ex a2 w2 ax e2 l2 hex ⟨rfl,_,rfl,f,rfl,hf⟩ at2
 cases ex<;>first|exact hex.elim|skip
 simp only[Exit.then]
 refine wpIn_seq ?_
 generalize hK:Exit.then _ _=K
 obtain⟨F,L,s,he,q1,q2,q3,q4,q5⟩:=at2
 obtain⟨tm,df⟩:=a2
 obtain rfl:df=[]:=he.1
 have NN:tm.toList.length=58:=by have:=he.2.1;rw[TI]at this;simpa using this
 obtain⟨v0,v1,v2,v3,v4,v5,v6,v7,v8,v9,v10,v11,v12,v13,v14,v15,v16,v17,v18,v19,v20,v21,v22,v23,v24,v25,v26,v27,v28,v29,v30,v31,v32,v33,v34,v35,v36,v37,v38,v39,v40,v41,v42,v43,v44,v45,v46,v47,v48,v49,v50,v51,v52,v53,v54,v55,v56,v57,hT⟩:=ZGP tm.toList NN
 obtain rfl:tm=#[v0,v1,v2,v3,v4,v5,v6,v7,v8,v9,v10,v11,v12,v13,v14,v15,v16,v17,v18,v19,v20,v21,v22,v23,v24,v25,v26,v27,v28,v29,v30,v31,v32,v33,v34,v35,v36,v37,v38,v39,v40,v41,v42,v43,v44,v45,v46,v47,v48,v49,v50,v51,v52,v53,v54,v55,v56,v57]:=gj.1 (by rw[hT])
 have e0:RepA w2 F L (f 0) v0:=he.2.2 0 _ v0 (by rw[rF];rfl) rfl
 have e3:RepA w2 F L (f 3) v3:=he.2.2 3 _ v3 (by rw[rF];rfl) rfl
 rw[hf.s0]at e0
 cases e0.vI
 rw[hf.s3,hB]at e3
 have hp3:RepI w2 (fun k=>k<w2.heap.size) (.isl 1 ((stV p 0).map eI)) v3:=by
  have hd:Dv ([]:List Row).length [.live p.vars.length 1 (vs ((stV p 0).map eI))] (.sl 0 p.vars.length 0 p.vars.length) (.v (.isl 1 ((stV p 0).map eI))):=Dv.slV (n:=0) (i:=0) rfl (by rw[aa,JI])
  exact qZ (hd.rep (b:=[]) s v3 e3).vI
 obtain⟨A3,c3,hv3,_⟩:=wI hp3
 rw[aa]at hv3
 subst hv3
 have hC:=xQ (stV p 0) (by rw[JI];exact hS.nv) w2 _ hp3
 have hCe:=zA hC
 clear hC hp3 e3 hT NN
 gi_wp2
 refine⟨trivial,CallsIn.mono (callsIn_wide.2 hCe.out) ?_⟩
 rintro en w3 ⟨vv,rfl,UE,hx⟩
 have hi3:=hx.mono (F':=fun k=>m0≤k∧k<w3.heap.size) (fun b hb=>⟨ee q4 hb.1,hb.2⟩) (fun _ _=>rfl)
 have hJ3:=hJ 0 w2 w3 q5 (Below.mono UE q4)
 obtain⟨fn,tmps,assign,body,hy,hRd⟩:=hY 0 vv w3 (an _) hJ3 (ee q4 UE.size) hi3
 have hy0:(Instr.yield l #[.int .i64 0,vv]).run Tryz.prog w3=.ok (.round l fn tmps assign body) w3:=hy
 clear hy
 have hRe:=zA hRd
 clear hRd hi3 hx
 gi_wp2
 have hkp:KeepF F0 m0 w2 w3:=⟨UE.size,UE.os,UE.tape,UE.output,fun k hk _=>UE.block k hk⟩
 refine hRe.out.mono ?_
 rintro e W3 (⟨rfl,hJ4,hk4⟩|⟨rfl,ZI9⟩)
 case inr =>
  gi_wp2
  rw[←hK]
  simp only[Exit.then]
  refine bodyPost_ret (results_none rfl _ _ _) rfl ?_
  exact⟨⟨_,rfl⟩,.inr ZI9⟩
 gi_wp2
 rw[←hK]
 simp only[Exit.then]
 have at3:=sI (s:=27) (v:=.bool false) (sI (s:=26) (v:=.bool true) (sI (s:=25) (v:=vv) (sI (s:=24) (v:=.slice A3 (stV p 0).length c3) (sI (s:=23) (v:=.func (.yield l) #[] #[])
  (ZP.keep (J':=J 1) (⟨F,L,s,he,q1,q2,q3,q4,q5⟩:ZP F0 m0 (J 0) _ _ _ w2) (hkp.trans hk4) rfl hJ4)))))
 clear hK he s q1 q2 q3
 have hf2:StF l p B p.vars.length (kUp (kUp (kUp (kUp (kUp f 23 .any) 24 .any) 25 .any) 26 .any) 27 .any):=by
  refine⟨?_,?_,?_,?_⟩
  ·have hE:=hf.lt
   exact ((((hE.up .any).up .any).up .any).up .any).up .any
  ·simp only[VD,ne_eq,Nat.reduceEqDiff,not_false_eq_true];exact hf.s0
  ·simp only[VD,ne_eq,Nat.reduceEqDiff,not_false_eq_true];exact hf.s1
  ·simp only[VD,ne_eq,Nat.reduceEqDiff,not_false_eq_true];exact hf.s3
 generalize hK:bodyPost _ _ _=K2
 refine wpIn_seq (QJ (ac:=s1R) (hJ0 1) kK hB (ZEh l p hS B _ _ _ hf2) at3 ?_)
 clear at3
 rintro ex a4 w4 ax e4 l4 hex ⟨rfl,_,rfl,f4,rfl,hg4⟩ at4
 cases ex<;>first|exact hex.elim|skip
 simp only[Exit.then]
 refine wpIn_block ?_
 refine wpIn_loop_ghost (fun m a w=>∃i f,m=p.evs.length-i∧i≤p.evs.length∧StG l p B p.vars.length 1 i f∧ZP F0 m0 (J (i+1)) (kOf 58 f) [.live p.vars.length 1 (vs ((stV p i).map eI))] a w) _ ⟨0,f4,rfl,an _,hg4,at4⟩ ?_
 clear at4 hg4 hf2 hf
 rintro m a5 w5 ⟨i,f5,rfl,hi,hg5,at5⟩
 generalize hK3:Exit.then _ _=K3
 refine wpIn_seq (QJ (ac:=s1C) (hJ0 (i+1)) kK hB (ZEl l p B _ i 1 _ f5 hg5) at5 ?_)
 clear at5 hg5
 rintro ex a6 w6 ax e6 l6 hex ⟨rfl,_,rfl,f6,rfl,hg6,hb6⟩ at6
 cases ex<;>first|exact hex.elim|skip
 simp only[Exit.then]
 refine wpIn_seq (ZFW (s:=32) at6 kE hb6 ?_)
 by_cases bB:i<p.evs.length
 case neg =>
  obtain rfl:i=p.evs.length:=by omega
  rw[if_neg kS]
  refine wpIn_exit ?_
  simp only[Exit.then]
  rw[←hK3]
  simp only[Exit.then,Exit.inBlock,if_true]
  rw[←hK]
  obtain⟨F6,L6,s6,he6,_,_,_,_,hJ6⟩:=at6
  exact bodyPost_end (results_none rfl _ _ _) he6.1 ⟨⟨_,rfl⟩,.inl hJ6⟩
 rw[if_pos kT]
 refine wpIn_skip ?_
 simp only[Exit.then]
 refine wpIn_seq (wpIn_block ?_)
 generalize hK4:Exit.inBlock _ _=K4
 refine wpIn_seq (QJ (ac:=s1E) (hJ0 (i+1)) kK hB (ZEk l p B _ i bB _ f6 hg6) at6 ?_)
 clear at6 hg6
 rintro ex a7 w7 ax e7 l7 hex ⟨rfl,_,rfl,f7,rfl,hg7,⟨h76,h77⟩,ZKC⟩ at7
 cases ex<;>first|exact hex.elim|skip
 simp only[Exit.then]
 refine wpIn_seq (QJ (ac:=s1I) (hJ0 (i+1)) kK hB (ZEj l p hS hO B hR i bB f7 hg7 h76 h77 ZKC) at7 ?_)
 clear at7 hg7 h76 h77 ZKC
 rintro ex a8 w8 ax e8 l8 hex ⟨rfl,_,rfl,f8,rfl,hg8,h86,ZIa⟩ at8
 cases ex<;>first|exact hex.elim|skip
 simp only[Exit.then]
 have at9:=ZFV hB (KA.kround (p:=CG) (ov:=[(6,.v (.int .i64 i)),(31,.v (.int .i64 i))]) (l1:=[.live p.vars.length 1 (vs ((stV p (i+1)).map eI))]) (junk:=[FT p.evs[i]]) (k:=1) rfl ⟨h86,hg8.s31,trivial⟩ rfl ZIa kS ⟨.v _,.v _,trivial⟩ hR (by simp only[TE,YL,wE,and_self])) at8
 obtain⟨f9,hf9⟩:∃f9,f9=kOv [(6,.v (.int .i64 i)),(31,.v (.int .i64 i))] (xG CG f8):=⟨_,rfl⟩
 rw[←hf9]at at9
 have hg9:StG l p B p.vars.length 1 i f9:=by
  have hn:∀s,kIn CG s=false→f9 s=f8 s:=fun s hs=>by
   rw[hf9,mC,mC,vE]
   have h6:6≠s:=fun e=>by subst e;cases hs
   have h31:31≠s:=fun e=>by subst e;cases hs
   rw[VD h6,VD h31,NS hs]
  refine⟨?_,?_,?_,?_,?_,?_,?_⟩
  ·rw[hf9];exact (ZIa).ov (ov:=[(6,.v (.int .i64 i)),(31,.v (.int .i64 i))]) ⟨.v _,.v _,trivial⟩
  ·rw[hn 0 rfl];exact hg8.s0
  ·rw[hn 1 rfl];exact hg8.s1
  ·rw[hn 3 rfl];exact hg8.s3
  ·rw[hn 29 rfl];exact hg8.s29
  ·rw[hn 30 rfl];exact hg8.s30
  ·rw[hf9,mC,mC,VD kE,OC]
 have h96:f9 6=.v (.int .i64 i):=by rw[hf9,mC,OC]
 clear hf9 hg8 ZIa h86 at8
 refine wpIn_seq ?_
 obtain⟨F,L,s,he,q1,q2,q3,q4,q5⟩:=at9
 obtain⟨tm,df⟩:=a8
 obtain rfl:df=[]:=he.1
 have NN:tm.toList.length=58:=by have:=he.2.1;rw[TI]at this;simpa using this
 obtain⟨u0,u1,u2,u3,u4,u5,u6,u7,u8,u9,u10,u11,u12,u13,u14,u15,u16,u17,u18,u19,u20,u21,u22,u23,u24,u25,u26,u27,u28,u29,u30,u31,u32,u33,u34,u35,u36,u37,u38,u39,u40,u41,u42,u43,u44,u45,u46,u47,u48,u49,u50,u51,u52,u53,u54,u55,u56,u57,hT⟩:=ZGP tm.toList NN
 obtain rfl:tm=#[u0,u1,u2,u3,u4,u5,u6,u7,u8,u9,u10,u11,u12,u13,u14,u15,u16,u17,u18,u19,u20,u21,u22,u23,u24,u25,u26,u27,u28,u29,u30,u31,u32,u33,u34,u35,u36,u37,u38,u39,u40,u41,u42,u43,u44,u45,u46,u47,u48,u49,u50,u51,u52,u53,u54,u55,u56,u57]:=gj.1 (by rw[hT])
 have e0:RepA w8 F L (f9 0) u0:=he.2.2 0 _ u0 (by rw[rF];rfl) rfl
 have e3:RepA w8 F L (f9 3) u3:=he.2.2 3 _ u3 (by rw[rF];rfl) rfl
 have e6:RepA w8 F L (f9 6) u6:=he.2.2 6 _ u6 (by rw[rF];rfl) rfl
 rw[hg9.s0]at e0
 cases e0.vI
 rw[h96]at e6
 cases e6.vI
 rw[hg9.s3,hB]at e3
 have hp3:RepI w8 (fun k=>k<w8.heap.size) (.isl 1 ((stV p (i+1)).map eI)) u3:=by
  have hd:Dv ([]:List Row).length [.live p.vars.length 1 (vs ((stV p (i+1)).map eI))] (.sl 0 p.vars.length 0 p.vars.length) (.v (.isl 1 ((stV p (i+1)).map eI))):=Dv.slV (n:=0) (i:=0) rfl (by rw[aa,JI])
  exact qZ (hd.rep (b:=[]) s u3 e3).vI
 obtain⟨A3,c3,hv3,_⟩:=wI hp3
 rw[aa]at hv3
 subst hv3
 have hC:=xQ (stV p (i+1)) (by rw[JI];exact hS.nv) w8 _ hp3
 have hCe:=zA hC
 have YH:=hS.ne
 have hwi:IntKind.i64.wrap ((i:Int)+1)=((i+1:Nat):Int):=by rw[zB oM oM];omega
 clear hC hp3 e3 hT NN
 gi_wp2
 refine⟨trivial,CallsIn.mono (callsIn_wide.2 hCe.out) ?_⟩
 rintro en w9 ⟨vv,rfl,UE,hx⟩
 have hi3:=hx.mono (F':=fun k=>m0≤k∧k<w9.heap.size) (fun b hb=>⟨ee q4 hb.1,hb.2⟩) (fun _ _=>rfl)
 have hJ3:=hJ (i+1) w8 w9 q5 (Below.mono UE q4)
 obtain⟨fn,tmps,assign,body,hy,hRd⟩:=hY (i+1) vv w9 oM hJ3 (ee q4 UE.size) hi3
 have hy1:(Instr.yield l #[.int .i64 ((i:Int)+1),vv]).run Tryz.prog w9=.ok (.round l fn tmps assign body) w9:=hy
 clear hy
 have hRe:=zA hRd
 clear hRd hi3 hx
 gi_wp2
 have hkp:KeepF F0 m0 w8 w9:=⟨UE.size,UE.os,UE.tape,UE.output,fun k hk _=>UE.block k hk⟩
 refine hRe.out.mono ?_
 rintro e W3 (⟨rfl,hJ4,hk4⟩|⟨rfl,ZI9⟩)
 case inr =>
  gi_wp2
  rw[←hK4]
  simp only[Exit.then,Exit.inBlock]
  rw[←hK3]
  simp only[Exit.then,Exit.inBlock]
  rw[←hK]
  refine bodyPost_ret (results_none rfl _ _ _) rfl ?_
  exact⟨⟨_,rfl⟩,.inr ZI9⟩
 gi_wp2
 rw[←hK4]
 simp only[Exit.then,Exit.inBlock]
 have ata:=sI (s:=56) (v:=.bool false) (sI (s:=55) (v:=.bool true) (sI (s:=54) (v:=vv) (sI (s:=53) (v:=.slice A3 (stV p (i+1)).length c3) (sI (s:=52) (v:=.int .i64 ((i+1:Nat):Int)) (sI (s:=51) (v:=.int .i64 i) (sI (s:=50) (v:=.func (.yield l) #[] #[])
  (ZP.keep (J':=J (i+1+1)) (⟨F,L,s,he,q1,q2,q3,q4,q5⟩:ZP F0 m0 (J (i+1)) _ _ _ w8) (hkp.trans hk4) rfl hJ4)))))))
 have hga:StG l p B p.vars.length 1 i (kUp (kUp (kUp (kUp (kUp (kUp (kUp f9 50 .any) 51 .any) 52 .any) 53 .any) 54 .any) 55 .any) 56 .any):=by
  refine⟨?_,?_,?_,?_,?_,?_,?_⟩
  ·have hE:=hg9.lt
   exact ((((((hE.up .any).up .any).up .any).up .any).up .any).up .any).up .any
  ·simp only[VD,ne_eq,Nat.reduceEqDiff,not_false_eq_true];exact hg9.s0
  ·simp only[VD,ne_eq,Nat.reduceEqDiff,not_false_eq_true];exact hg9.s1
  ·simp only[VD,ne_eq,Nat.reduceEqDiff,not_false_eq_true];exact hg9.s3
  ·simp only[VD,ne_eq,Nat.reduceEqDiff,not_false_eq_true];exact hg9.s29
  ·simp only[VD,ne_eq,Nat.reduceEqDiff,not_false_eq_true];exact hg9.s30
  ·simp only[VD,ne_eq,Nat.reduceEqDiff,not_false_eq_true];exact hg9.s31
 refine QJ (ac:=s1N) (hJ0 (i+1+1)) kK hB (ZEi l p hS B _ i 1 bB _ _ hga) ata ?_
 rintro ex ab wb ax eb lb hex ⟨rfl,_,rfl,fb,rfl,hgb⟩ atb
 cases ex<;>first|exact hex.elim|skip
 rw[←hK3]
 exact⟨p.evs.length-(i+1),by omega,i+1,fb,rfl,bB,hgb,atb⟩
end Go.Proofs.YtadnnjchehjbiaaGreatDoor
namespace Go.Proofs.YtadnnjchehjbiaaGreatDoor
set_option linter.unusedVariables false

theorem ZA.of_newA {P:Program} {f:Nat} {args:List AV} {b l:List Row} {Q:AV→List Row→List Row→Prop} (hf:∃fn,P.funcs[f]? = some fn∧(fn.name == "runtime.NumGoroutine")=false∧fn.body.isSome=true)
  (h:∀F L w (vs:Array Value),(∀b,F b→b<w.heap.size)→bA w F L args vs.toList→Calls P f vs w fun en w'=>Ext w w'∧∃v x F',en=.returned v∧(∀b,F b→F' b)∧(∀b,b<w.heap.size→F' b→F b)∧(∀b,F' b→b<w'.heap.size)∧RepA w' F' (fun _ _=>none) x v∧Q x b l):ZA P f args b l Q:=by
 refine⟨hf,fun F L w vs s hr=>Calls.mono (h F L w vs (fun b hb=>(s.imm b hb).1) hr) ?_⟩
 rintro en w' ⟨he,v,x,F',h1,h2,h3,h4,h5,h6⟩
 have tJ:∀k,k<w.heap.size→w'.heap[k]? = w.heap[k]?:=he.block
 have VG:∀k,gD L (b++l) k→k<w.heap.size:=by
  rintro k ⟨id,ver,sz,els,q0,k1,k2,k3⟩
  obtain⟨q,q1,q2⟩:=s.row id ver sz els k1
  rw[k2]at q1;cases q1
  exact q2.lt k3
 refine⟨v,x,b,l,F',L,h1,h5.mono (fun _ h=>h) (fun _ _=>rfl) (fun _ _ _ h=>by cases h),⟨fun i v z els hi=>?_,s.born,s.apart,fun k hk=>⟨h4 k hk,fun ho=>(s.imm k (h3 k (VG k ho) hk)).2 ho⟩,s.glob.mono h2 (fun k hk=>tJ k (s.imm k hk).1)⟩,
  ⟨h2,fun _ _ _ _ h=>h,he.os,he.tape,he.output,he.size,fun k hk _=>tJ k hk,fun _ _ h=>h,fun _ _ _ h=>h,fun k hk hf=>.inl (h3 k hk hf)⟩,rfl,h6⟩
 obtain⟨q,g1,g2⟩:=s.row i v z els hi
 exact⟨q,g1,g2.mono (fun k hk=>tJ k (g2.lt hk)) (fun _ _ hx=>hx.mono h2 (fun k hk=>tJ k (s.imm k hk).1) (fun _ _ _ h=>h))⟩

open Go.RowKit
set_option linter.unusedSimpArgs false
attribute [local go_sem] Oper.semAt_some
theorem S0 (u0 u1 u2:Value) (w:World):Calls Tryz.prog 65 #[.agg #[u0,u1,u2]] w fun e w'=>e=.returned (.func (.func 97) #[] #[.pointer (some ⟨w.heap.size,0,none⟩)])∧w'=w.alloc (.cells #[u0,u1,u2] 42):=by
 go_enter Tryz.func65,Tryz.ntmps65
 go_wp2_with fail
 go_ret
 exact⟨rfl,rfl⟩
theorem Z1 {F:Fence} (hro:F.round=none) (hFa:∀f,F.fn f) {P:Program} {n:Nat} {g:Operand} {ps:Array Tmp} {assign body:Code} {Q:Exit→Act→World→Prop} {a:Act} {w:World} (h1:1≤n) {gf:Nat} {lb:Array Value} (hg:a.eval g=.func (.func gf) #[] lb) (eg:∀args w,(callFunc gf args).run P w=.ok (.enter gf args) w)
  (ZGe:∀(fn:FuncId) (rec:LoopState→Option Code→Loop) (W1:World),(rec=fun st pe=>{state:=st,pending:=pe,fn:=fn,tmps:=a.tmps,params:=ps,assign:=assign,body:=body,defers:=w.heap.size}) →
   (w.alloc (.deferred (some []))).alloc (.loop (rec .ready none))=W1 →
   CallsIn F (n-1) P gf (#[.func (.yield (w.heap.size+1)) #[] #[]]++lb) W1 (rangePost F n P (w.heap.size+1) Q {a with defers:={target:=.collected w.heap.size,args:=#[]}::a.defers})) :
  (Code.rangeFunc g ps assign body).wpIn F n P Q a w:=by
 refine wpIn_rangeFunc ?_
 intro fn hfn
 rw[hro]
 obtain⟨rec,lV⟩:∃rec:LoopState→Option Code→Loop,rec=fun st pe=>{state:=st,pending:=pe,fn:=fn,tmps:=a.tmps,params:=ps,assign:=assign,body:=body,defers:=w.heap.size}:=⟨_,rfl⟩
 obtain⟨W1,iI⟩:∃W1,(w.alloc (.deferred (some []))).alloc (.loop (rec .ready none))=W1:=⟨_,rfl⟩
 have hh:=ZGe fn rec W1 lV iI
 clear ZGe
 refine⟨w.heap.size+1,[{target:=.collected w.heap.size,args:=#[]}],W1,{target:=.fn (.func gf) lb,args:=#[.func (.yield (w.heap.size+1)) #[] #[]]},W1,gf,
  #[.func (.yield (w.heap.size+1)) #[] #[]]++lb,W1,?_,?_,?_,?_,?_,?_⟩
 ·rw[←iI,lV];exact run_enterLoop_outer _ _ _ _ _
 ·simp only[resolve,hg]
  simp[go_sem]
 ·intro f1 hf1
  exact hFa f1
 ·simp[invoke,go_sem,eg]
 ·exact fun _=>h1
 ·exact hh
theorem I8 (p:Pr) (hS:PrS p) (hO:OkA p) (k:Nat) (hk:k≤p.evs.length) (u0 u1 u2:Value) (W:World) (h0:RepI W (fun b=>b<W.heap.size) (.str p.name) u0) (h1:RepI W (fun b=>b<W.heap.size) (.isl 2 (p.vars.map eVr)) u1) (h2:RepI W (fun b=>b<W.heap.size) (.isl 5 (p.evs.map eEv)) u2) :
  Calls Tryz.prog 37 #[.agg #[u0,u1,u2],.int .i64 k] W fun e w'=>∃vv,e=.returned vv∧Ext W w'∧RepI w' (fun b=>W.heap.size≤b∧b<w'.heap.size) (.isl 1 ((stV p k).map eI)) vv:=by
 refine (callsIn_wide (n:=5)).1 ?_
 refine callsIn_of_wp_marks Tryz.func37 rfl trivial ?_ rfl
 simp only[Tryz.ntmps37,eh,ck,cr,Nat.reduceAdd,Nat.reduceSub,ik,il,im,io,cg,bw]
 have hSt:=fun w=>S0 u0 u1 u2 w
 have H0:=zA h0
 have H1:=zA h1
 have H2:=zA h2
 have HK:=zA hk
 clear h0 h1 h2 hk
 gi_wp2_with (refine⟨trivial,?_⟩;gi_at_call 65;refine (callsIn_wide.2 (hSt _)).mono ?_;rintro e w ⟨rfl,rfl⟩)
 generalize hK:Exit.inBlock _ _=K
 obtain⟨W0,pY⟩:∃W0,(((W.alloc (.cells #[u0,u1,u2] 42)).alloc (.cells #[.int .i64 k] 3)).alloc (.cells #[.slice none 0 0] 24)).alloc (.cells #[u0,u1,u2] 42)=W0:=⟨_,rfl⟩
 have kU:W0.heap.size=W.heap.size+4:=by rw[←pY];simp
 have hb0:Below W.heap.size W W0:=by rw[←pY];exact ((((Below.refl _ W).alloc kS _).alloc kS _).alloc kT _).alloc kT _
 have c1:W0.heap[W.heap.size+1]? = some (.cells #[.int .i64 k] 3):=by
  rw[←pY,Below.heap_alloc _ _ _ kS,Below.heap_alloc _ _ _ kS]
  have:=World.alloc_heap_new (W.alloc (.cells #[u0,u1,u2] 42)) (.cells #[.int .i64 k] 3)
  rwa [World.size_alloc]at this
 have c2:W0.heap[W.heap.size+2]? = some (.cells #[.slice none 0 0] 24):=by
  rw[←pY,Below.heap_alloc _ _ _ kS]
  have:=World.alloc_heap_new ((W.alloc (.cells #[u0,u1,u2] 42)).alloc (.cells #[.int .i64 k] 3)) (.cells #[.slice none 0 0] 24)
  rwa [World.size_alloc,World.size_alloc]at this
 have c3:W0.heap[W.heap.size+3]? = some (.cells #[u0,u1,u2] 42):=by
  rw[←pY]
  have:=World.alloc_heap_new (((W.alloc (.cells #[u0,u1,u2] 42)).alloc (.cells #[.int .i64 k] 3)).alloc (.cells #[.slice none 0 0] 24)) (.cells #[u0,u1,u2] 42)
  rwa [World.size_alloc,World.size_alloc,World.size_alloc]at this
 clear hSt
 rw[pY]
 clear pY
 refine Z1 (F:=Fence.wide) rfl (fun _=>trivial) oM (gf:=97) (lb:=#[.pointer (some ⟨W.heap.size+1+1+1,0,none⟩)]) rfl (XD Tryz.func97 kE rfl) ?_
 intro fn rec W1 lV iI
 have LI:W1.heap.size=W.heap.size+6:=by rw[←iI];simp;omega
 have uI:Below W0.heap.size W0 W1:=by rw[←iI];exact ((Below.refl _ W0).alloc kS _).alloc kS _
 have sQ:W1.heap[W0.heap.size+1]? = some (.loop (rec .ready none)):=by
  rw[←iI];have:=World.alloc_heap_new (W0.alloc (.deferred (some []))) (.loop (rec .ready none));rwa [World.size_alloc]at this
 have hd1:W1.heap[W0.heap.size]? = some (.deferred (some [])):=by
  rw[←iI];exact (Below.heap_alloc _ _ _ kS).trans (World.alloc_heap_new W0 _)
 have hp:RepI W1 (fun b=>b<W.heap.size∨b=W.heap.size+3) (.iptr [.str p.name,.isl 2 (p.vars.map eVr),.isl 5 (p.evs.map eEv)] 0) (.pointer (some ⟨W.heap.size+3,0,none⟩)):=by
  have hm:∀{x:IV} {u:Value},RepI W (fun b=>b<W.heap.size) x u→RepI W1 (fun b=>b<W.heap.size∨b=W.heap.size+3) x u:=fun h=>h.mono (fun _ h=>.inl h) (fun b hb=>((uI.block b oM).trans (hb0.block b hb)))
  have J5:W1.heap[W.heap.size+3]? = some (.cells #[u0,u1,u2] 42):=(uI.block _ oM).trans c3
  refine .iptr _ 0 (W.heap.size+3) 0 (fun j=>match j with|0=>u0|1=>u1|_=>u2) (.inr rfl) (fun j a hj=>?_) (fun j a hj=>?_)
  ·match j,hj with
   |0,_=>simp[World.cell?,J5]
   |1,_=>simp[World.cell?,J5]
   |2,_=>simp[World.cell?,J5]
  ·match j,hj with
   |0,hj=>cases hj;exact hm H0.out
   |1,hj=>cases hj;exact hm H1.out
   |2,hj=>cases hj;exact hm H2.out
 refine (N0 4 oM p hS hO (W0.heap.size+1) (W.heap.size+3) W1 (fun b=>b<W.heap.size∨b=W.heap.size+3) (fun b hb=>by omega) hp
  (fun i A=>Below W1.heap.size W1 A∧i≤k)
  (fun A=>Below W.heap.size W A∧A.heap[W0.heap.size]? = some (.deferred (some []))∧A.heap[W0.heap.size+1]? = some (.loop (rec .done (some .ret)))∧W1.heap.size≤A.heap.size∧∃vv,A.heap[W.heap.size+2]? = some (.cells #[vv] 24)∧RepI A (fun b=>W1.heap.size≤b∧b<A.heap.size) (.isl 1 ((stV p k).map eI)) vv)
  (fun i A B h hb=>⟨h.1.trans hb,h.2⟩) ?yield ⟨Below.refl _ _,an _⟩).mono ?after
 case after =>
  rintro e w' ⟨⟨v,rfl⟩,⟨_,ZLS⟩|⟨hbw,hdw,hlw,hsw,vv,hcw,hvw⟩⟩
  ·exact absurd ZLS (by have:=HK.out;omega)
  ·have hE:=run_endLoop (P:=Tryz.prog) hlw (by rw[lV];simp)
   rw[lV]at hE
   refine⟨some .ret,_,hE,?_⟩
   refine wpIn_ret ?_
   rw[←hK]
   simp only[Exit.inBlock,Exit.then]
   clear hE
   generalize hlp:Obj.loop _=lo
   have hd2:(w'.putObj (W0.heap.size+1) lo).heap[W0.heap.size]? = some (.deferred (some [])):=by rw[World.putObj_heap_other oM];exact hdw
   refine⟨by simp,.inl ⟨_,_,rfl,run_takeDeferred hd2,?_⟩⟩
   have hc4:(((w'.putObj (W0.heap.size+1) lo).putObj W0.heap.size (.deferred none)).heap[W.heap.size+2]?)=some (.cells #[vv] 24):=by
    rw[World.putObj_heap_other oM,World.putObj_heap_other oM];exact hcw
   have SQ:((w'.putObj (W0.heap.size+1) lo).putObj W0.heap.size (.deferred none)).cell? ⟨W.heap.size+1+1,0,none⟩=some vv:=by simp[World.cell?,hc4]
   refine⟨vv,?_,vv,rfl,⟨hbw.os,hbw.tape,hbw.output,by simp;exact hbw.size,fun b hb=>by rw[World.putObj_heap_other oM,World.putObj_heap_other oM];exact hbw.block b hb⟩,?_⟩
   ·simp[results,Tryz.f37,go_sem,SQ]
   ·refine hvw.mono (fun b hb=>⟨by omega,by simp;exact hb.2⟩) (fun b hb=>?_)
    rw[World.putObj_heap_other oM,World.putObj_heap_other oM]
 case yield =>
  rintro i v Wy hi ⟨gO,hik⟩ hsy hvy
  have hly:Wy.heap[W0.heap.size+1]? = some (.loop (rec .ready none)):=(gO.block _ oM).trans sQ
  have hdy:Wy.heap[W0.heap.size]? = some (.deferred (some [])):=(gO.block _ oM).trans hd1
  have hy:=run_yield (P:=Tryz.prog) (args:=#[.int .i64 i,v]) hly (by rw[lV];rfl)
  refine⟨_,_,_,_,hy,roundIn_of_wpIn trivial ?_⟩
  have hbr:=run_beginRound (P:=Tryz.prog) hly (by rw[lV])
  have hrc:rec=rec:=rfl
  obtain⟨Wb,hWb⟩:∃Wb,Wy.putObj (W0.heap.size+1) (.loop {rec .ready none with state:=.busy})=Wb:=⟨_,rfl⟩
  have hlb:Wb.heap[W0.heap.size+1]? = some (.loop {rec .ready none with state:=.busy}):=by rw[←hWb];exact World.putObj_heap_same oM
  have hob:∀b,b≠W0.heap.size+1→Wb.heap[b]? = Wy.heap[b]?:=fun b hb=>by rw[←hWb];exact World.putObj_heap_other hb
  have hsb:Wb.heap.size=Wy.heap.size:=by rw[←hWb];simp
  have ZKD:Wb.os=Wy.os∧Wb.tape=Wy.tape∧Wb.output=Wy.output:=by rw[←hWb];exact⟨rfl,rfl,rfl⟩
  rw[hWb]at hbr
  clear hWb hy
  have aI:=fun jump=>run_endRound (P:=Tryz.prog) jump hlb
  rw[lV]at aI⊢
  simp only at aI⊢
  have k1:Wb.cell? ⟨W.heap.size+1,0,none⟩=some (.int .i64 k):=by
   have hcb:Wb.heap[W.heap.size+1]? = some (.cells #[.int .i64 k] 3):=(hob _ oM).trans ((gO.block _ oM).trans ((uI.block _ oM).trans c1))
   simp[World.cell?,hcb]
  have ZGH:Wb.heap[W.heap.size+2]? = some (.cells #[.slice none 0 0] 24):=(hob _ oM).trans ((gO.block _ oM).trans ((uI.block _ oM).trans c2))
  have k2:Wb.cell? ⟨W.heap.size+1+1,0,none⟩=some (.slice none 0 0):=by simp[World.cell?,ZGH]
  have k3:Wb.frozen? ⟨W.heap.size+1+1,0,none⟩=false:=by simp[World.frozen?,ZGH]
  have HS:=zA (show W0.heap.size=W.heap.size+4∧W1.heap.size=W.heap.size+6∧Wb.heap.size=Wy.heap.size∧W1.heap.size≤Wy.heap.size from⟨kU,LI,hsb,hsy⟩)
  obtain⟨A,c,hv,_⟩:=wI hvy
  rw[aa]at hv
  subst hv
  have HV:=zA hvy
  have HL:=zA (And.intro hly (And.intro hdy hlb))
  have HB:=zA (And.intro hob ZKD)
  have HC:=zA ZGH
  have HE:=zA aI
  clear kU LI hsb hsy c1 c2 c3 sQ hd1 hvy hly hdy hlb hob ZKD ZGH aI
  generalize W0.heap.size=d0 at *
  generalize hl0:d0+1=l0 at *
  have HIK:=zA hik
  clear hik
  by_cases hek:i=k
  ·have heq:((i:Int)==(k:Int))=true:=by rw[hek];simp
   have HEK:=zA hek
   clear hek
   gi_wp2
   obtain⟨hob,ZAe,ZAf,ZAg⟩:=HB.out
   obtain⟨hly,hdy,hlb⟩:=HL.out
   obtain⟨z0,z1,z2,z3⟩:=HS.out
   obtain⟨Wc,hWc⟩:∃Wc,Wb.setCell ⟨W.heap.size+1+1,0,none⟩ (.slice A (stV p i).length c)=Wc:=⟨_,rfl⟩
   have hoc:∀b,b≠W.heap.size+2→Wc.heap[b]? = Wb.heap[b]?:=fun b hb=>by rw[←hWc];exact Below.heap_setCell _ _ _ _ kT
   have hsc:Wc.heap.size=Wb.heap.size:=by rw[←hWc];simp[World.setCell]
   have ZIb:Wc.os=Wb.os∧Wc.tape=Wb.tape∧Wc.output=Wb.output:=by rw[←hWc];exact⟨rfl,rfl,rfl⟩
   have SQ:Wc.heap[W.heap.size+2]? = some (.cells #[.slice A (stV p i).length c] 24):=by
    have Q5:Wb.heap[W.heap.size+1+1]? = some (.cells #[.slice none 0 0] 24):=HC.out
    rw[←hWc]
    show _[W.heap.size+1+1]? = _
    simp[World.setCell,Array.getElem?_modify,Q5]
   rw[hWc]
   have hlc:Wc.heap[l0]? = some (.loop {rec .ready none with state:=.busy}):=(hoc _ oM).trans hlb
   have hE:=run_endRound (P:=Tryz.prog) (some .ret) hlc
   rw[lV]at hE
   refine⟨_,_,hE,.inr ⟨rfl,⟨?_,?_,?_,?_,?_⟩,?_,?_,?_,.slice A (stV p i).length c,?_,?_⟩⟩
   ·exact ZIb.1.trans (ZAe.trans (gO.os.trans (uI.os.trans hb0.os)))
   ·exact ZIb.2.1.trans (ZAf.trans (gO.tape.trans (uI.tape.trans hb0.tape)))
   ·exact ZIb.2.2.trans (ZAg.trans (gO.output.trans (uI.output.trans hb0.output)))
   ·simp;omega
   ·intro b hb
    rw[World.putObj_heap_other oM,hoc _ oM,hob _ oM,gO.block b oM,uI.block b oM,hb0.block b hb]
   ·rw[World.putObj_heap_other oM,hoc _ oM,hob _ oM];exact hdy
   ·exact World.putObj_heap_same oM
   ·simp;omega
   ·rw[World.putObj_heap_other oM];exact SQ
   ·rw[←HEK.out]
    refine HV.out.mono (fun b hb=>⟨hb.1,by simp;omega⟩) (fun b hb=>?_)
    rw[World.putObj_heap_other oM,hoc _ oM,hob _ oM]
  ·have heq:((i:Int)==(k:Int))=false:=by simp;omega
   have HEK:=zA hek
   clear hek
   gi_wp2
   obtain⟨hob,ZAe,ZAf,ZAg⟩:=HB.out
   obtain⟨hly,hdy,hlb⟩:=HL.out
   obtain⟨z0,z1,z2,z3⟩:=HS.out
   have hE:=run_endRound (P:=Tryz.prog) none hlb
   rw[lV]at hE
   refine⟨_,_,hE,.inl ⟨rfl,⟨⟨?_,?_,?_,?_,?_⟩,?_⟩,⟨?_,?_,?_,?_,?_⟩⟩⟩
   ·exact ZAe.trans gO.os
   ·exact ZAf.trans gO.tape
   ·exact ZAg.trans gO.output
   ·simp;omega
   ·intro b hb
    by_cases hbl:b=l0
    ·subst hbl
     refine (World.putObj_heap_same oM).trans ?_
     rw[←gO.block _ hb,hly,lV]
     rfl
    ·rw[World.putObj_heap_other hbl,hob _ hbl,gO.block b hb]
   ·have:=HIK.out;have:=HEK.out;omega
   ·simp;omega
   ·exact ZAe
   ·exact ZAf
   ·exact ZAg
   ·intro b hb hf
    rw[World.putObj_heap_other oM,hob _ oM]
attribute [local go_sem ↓] xB tA iB rB EB SA uB CB dB UC gA RA wB yA DA yB dA FA lB nA xA sB TA MA lA LA fA vB aA AB tB OB ZC LC VC FC EC OC VD
attribute [local go_sem] pA uA QD eA iA MC YC XC QC nG pG JC nB pB mB MB UA KB jA UB qA mA aop sD pC rC SB sC DB tC YG YE LD amm tD IB QB SD dC ED comma nC XE QG QE ZE SF DD GD eC RF eqC eqF DE cellsOf JB yD KD ID dF rd rdI wD mk iC AV.cell List.all_cons List.all_nil Bool.and_true Bool.true_and Bool.and_self List.length_cons List.length_nil List.length_append Nat.reduceAdd Nat.reduceSub Nat.reduceMul Nat.zero_add Nat.add_zero List.cons_append List.nil_append List.append_assoc List.append_nil List.getElem?_cons_zero List.getElem?_cons_succ List.getElem?_nil List.set_cons_zero List.set_cons_succ List.drop_zero List.drop_succ_cons List.take_zero List.take_succ_cons List.take_nil List.drop_nil List.map_cons List.map_nil Option.map_some if_true if_false Bool.false_eq_true and_self true_and and_true Nat.reduceLeDiff Nat.reduceLT Nat.le_refl Nat.reduceEqDiff ite_true ite_false beq_self_eq_true beq_true beq_false Bool.not_true Bool.not_false Bool.true_beq Bool.false_beq mD gC TB GC RC qC zC FB KC DC IC nD zB IH nH DH HH EE ME CE LE geI gtI AE decide_true decide_false room List.getElem?_map List.length_map List.length_take Int.toNat_natCast Nat.min_def Nat.min_self qE JE uE mC vE bG EA List.getElem_cons_zero List.getElem_cons_succ
def a_vState:AFunc:=({c:=_}:CF Tryz.prog 11).c
theorem zY:CA Tryz.prog 11=some a_vState:=by kernel_rfl

theorem rX (p:Pr) (hS:PrS p) (hO:OkA p) (k:Nat) (hk:k≤p.evs.length) (b l:List Row):ZA Tryz.prog 37 [.agg [.v (.str p.name),.v (.isl 2 (p.vars.map eVr)),.v (.isl 5 (p.evs.map eEv))],.v (.int .i64 k)] b l (fun r b' l'=>r=.v (.isl 1 ((stV p k).map eI))∧b'=b∧l'=l):=by
 refine ZA.of_newA ⟨_,Tryz.func37,by kernel_rfl,by kernel_rfl⟩ (fun F L w us hF hr=>?_)
 obtain⟨v,u1,e1,r1,hr1⟩:=fE hr
 obtain⟨kv,u2,e2,r2,y6⟩:=fE hr1
 have:=uG y6
 subst this
 obtain rfl:us=#[v,kv]:=gj.1 (by rw[e1,e2])
 cases r2.vI
 obtain⟨cs,rfl,hc⟩:=r1.aggL
 obtain⟨c0,t0,f0,q0,hc0⟩:=fE hc
 obtain⟨c1,t1,f1,q1,qL⟩:=fE hc0
 obtain⟨c2,t2,f2,q2,Q5⟩:=fE qL
 have:=uG Q5
 subst this
 obtain rfl:cs=#[c0,c1,c2]:=gj.1 (by rw[f0,f1,f2])
 have up:∀{x:IV} {u:Value},RepA w F L (.v x) u→RepI w (fun b=>b<w.heap.size) x u:=fun h=>h.vI.mono hF (fun _ _=>rfl)
 refine (I8 p hS hO k hk c0 c1 c2 w (up q0) (up q1) (up q2)).mono ?_
 rintro e w' ⟨vv,rfl,he,hv⟩
 refine⟨he,vv,_,fun b=>F b∨(w.heap.size≤b∧b<w'.heap.size),rfl,fun _ h=>.inl h,fun b hb h=>h.elim id (fun h=>by omega),fun b h=>h.elim (fun h=>fu (hF b h) he.size) (fun h=>h.2),.v _ _ (hv.mono (fun _ h=>.inr h) (fun _ _=>rfl)),rfl,rfl,rfl⟩
end Go.Proofs.YtadnnjchehjbiaaGreatDoor
namespace Go.Proofs.YtadnnjchehjbiaaGreatDoor
set_option linter.unusedVariables false
set_option linter.unusedSimpArgs false
attribute [local go_sem ↓] xB tA iB rB EB SA uB CB dB UC gA RA wB yA DA yB dA FA lB nA xA sB TA MA lA LA fA vB aA AB tB OB ZC LC VC FC EC OC VD
attribute [local go_sem] pA uA QD eA iA MC YC XC QC nG pG JC nB pB mB MB UA KB jA UB qA mA aop sD pC rC SB sC DB tC YG YE LD amm tD IB QB SD dC ED comma nC XE QG QE ZE SF DD GD eC RF eqC eqF DE cellsOf JB yD KD ID dF rd rdI wD mk iC AV.cell List.all_cons List.all_nil Bool.and_true Bool.true_and Bool.and_self List.length_cons List.length_nil List.length_append Nat.reduceAdd Nat.reduceSub Nat.reduceMul Nat.zero_add Nat.add_zero List.cons_append List.nil_append List.append_assoc List.append_nil List.getElem?_cons_zero List.getElem?_cons_succ List.getElem?_nil List.set_cons_zero List.set_cons_succ List.drop_zero List.drop_succ_cons List.take_zero List.take_succ_cons List.take_nil List.drop_nil List.map_cons List.map_nil Option.map_some if_true if_false Bool.false_eq_true and_self true_and and_true Nat.reduceLeDiff Nat.reduceLT Nat.le_refl Nat.reduceEqDiff ite_true ite_false beq_self_eq_true beq_true beq_false Bool.not_true Bool.not_false Bool.true_beq Bool.false_beq mD gC TB GC RC qC zC FB KC DC IC nD zB IH nH DH HH EE ME CE LE geI gtI AE decide_true decide_false room List.getElem?_map List.length_map List.length_take Int.toNat_natCast Nat.min_def Nat.min_self qE JE uE mC vE bG EA List.getElem_cons_zero List.getElem_cons_succ
def ZAj (p:Pr) (k:Nat):Bool:=(List.range k).all fun i=>(p.vars.getD i xV).name==QK i
def IZ (p:Pr) (c:Int):Bool:=decide (p.evs.length=0∨(p.evs.getD (p.evs.length-1) qK).time≤c)
def jM (p:Pr) (s:Sv) (now:Int):Bool:=(p.name==s.name)&&(decide (p.vars.length=s.vars.length)&&(ZAj p s.vars.length&&(decide (iS p=s.vars)&&IZ p (jJ s now))))
structure Pst (t:Tr) (x:Nat×Nat) (c:Nat→Nat) (Q:List (Nat×Nat)):Prop where
 q:∀y∈Q,y∈ids t∧Le t y x
 le:∀p i,i<c p→p<t.length∧i<(sA t p).length∧Le t (p,i+1) x
 src:x∈Q∨x.2≤c x.1
 cl:∀z∈ids t,z.2≤c z.1→∀y∈vN t z,y∈Q∨y.2≤c y.1
theorem Pst.start {t:Tr} {x:Nat×Nat} (hx:x∈ids t):Pst t x (fun _=>0) [x]:=by
 refine⟨fun y hy=>?_,fun p i h=>by simp at h,.inl kS,fun z hz h=>?_⟩
 ·simp only[List.mem_singleton]at hy;subst hy;exact⟨hx,.refl _⟩
 ·have:=(VE.1 hz).2.1
  omega
theorem Pst.cle {t:Tr} {x:Nat×Nat} {c:Nat→Nat} {Q:List (Nat×Nat)} (h:Pst t x c Q) (p:Nat):c p≤(sA t p).length:=by
 cases hc:c p with
 |zero=>omega
 |succ n=>have:=(h.le p n oM).2.1;omega
theorem Pst.skip {t:Tr} {x y:Nat×Nat} {c:Nat→Nat} {Q:List (Nat×Nat)} (h:Pst t x c (y::Q)) (hc:y.2≤c y.1):Pst t x c Q:=by
 refine⟨fun z hz=>h.q z (by simp[hz]),h.le,?_,fun z hz eZ w hw=>?_⟩
 ·rcases h.src with h1|h1
  ·rcases dx.1 h1 with rfl|h2
   ·exact .inr hc
   ·exact .inl h2
  ·exact .inr h1
 ·rcases h.cl z hz eZ w hw with h1|h1
  ·rcases dx.1 h1 with rfl|h2
   ·exact .inr hc
   ·exact .inl h2
  ·exact .inr h1
theorem Pst.all {t:Tr} (hv:Vok t) {x:Nat×Nat} {c:Nat→Nat} (h:Pst t x c []):∀n z,rk t z=n→z∈ids t→z.2≤c z.1→∀w∈ids t,Le t w z→w.2≤c w.1:=by
 intro n
 induction n using Nat.strongRecOn with
 |_ n ih =>
   intro z hn hz eZ w hw hl
   rcases (ZFT hv hz hw).1 hl with rfl|⟨y,hy,uT⟩
   ·exact eZ
   ·obtain⟨h1,h2⟩:=tZ hv hz hy
    rcases h.cl z hz eZ y hy with h3|h3
    ·simp at h3
    ·exact ih (rk t y) (by rw[←hn];exact rk_lt hv hz h2) y rfl h1 h3 w hw uT
theorem Pst.done {t:Tr} (hv:Vok t) {x:Nat×Nat} (hx:x∈ids t) {c:Nat→Nat} (h:Pst t x c []) {p:Nat} (hp:p<t.length):c p=vc t x p:=by
 refine ZHP (n:=(sA t p).length) (h.cle p) vc_le (fun j hj=>?_)
 rw[←ZHA hj]
 constructor
 ·exact fun hl=>(h.le p j hl).2.2
 ·intro hl
  have hs:x.2≤c x.1:=h.src.resolve_left kS
  have:=h.all hv (rk t x) x rfl hx hs (p,j+1) (kD.2 ⟨hp,hj⟩) hl
  exact this
theorem D6 {t:Tr} (hv:Vok t) {x:Nat×Nat} (hx:x∈ids t) (hk:(rA t x).kind=3):UK t x∈ids t∧Hb t (UK t x) x:=tZ hv hx (S8 hk)
theorem R8 {t:Tr} (hv:Vok t) {x:Nat×Nat} (hx:x∈ids t) (hk:(rA t x).kind=3):(rA t x).peer=((UK t x).1:Int)∧(UK t x).1≠x.1∧(rA t (UK t x)).kind=2∧(rA t (UK t x)).msg=(rA t x).msg:=by
 obtain⟨m,q,hm,_,hq,MN,hqp⟩:=sE (vH (hv.form x hx)) (by rw[hk];rfl)
 have hp:=hv.pair x hx
 unfold UF at hp
 rw[hk]at hp
 simp only[show ((3:Int)==2)=false from rfl,show ((3:Int)==3)=true from rfl,if_true,bx,if_false]at hp
 rw[if_pos (by have:=(hv.paired.recv hx hk).1;simpa using this)]at hp
 have hs:zF t q (rA t x).msg x.1=true:=by
  cases h:zF t q (rA t x).msg x.1 with
  |true=>rfl
  |false=>rw[hq,bs,h]at hp;simp at hp
 unfold zF at hs
 obtain⟨e,he,hb⟩:=ga.1 hs
 simp only[ar,beq_iff_eq]at hb
 rw[yE MN]at he
 obtain⟨j,hj,rfl⟩:=dh he
 have hyi:(q,j+1)∈ids t:=kD.2 ⟨MN,by rw[yE MN];exact hj⟩
 have hye:=EM MN hj
 have hf:=hv.paired.send hyi (by rw[hye];exact hb.1.1)
 rw[hye,hb.1.2]at hf
 have e1:UK t x=(q,j+1):=(xC hf).1
 rw[e1,hye]
 exact⟨hq,hqp,hb.1.1,hb.1.2⟩
theorem EU {t:Tr} {x:Nat×Nat}:mE t x=0↔lC t.length x.1 (rA t x)=true∧inB (rA t x).time 0 1099511627776=true∧¬(rA t x).time<vO t x∧(rA t x).asg.length≤8∧YD (vM (t.getD x.1 dfPr).vars.length (rA t x).asg) (rA t x).asg.length=0:=by
 unfold mE
 cases h1:lC t.length x.1 (rA t x)
 ·simp
 cases h2:inB (rA t x).time 0 1099511627776
 ·simp
 by_cases h3:(rA t x).time<vO t x
 ·simp[h3]
 by_cases h4:8<(rA t x).asg.length
 ·have h5:¬(rA t x).asg.length≤8:=by omega
  simp[h3,h4,h5]
 ·have h5:(rA t x).asg.length≤8:=by omega
  simp[h3,h4,h5]
theorem jF {t:Tr} (h:Vok t) {x:Nat×Nat} (hx:x∈ids t) {k:Int} (hk:k=2∨k=3) (hkx:(rA t x).kind=k):TC t k (rA t x).msg=some x:=by
 rcases hk with rfl|rfl
 ·exact h.paired.send hx hkx
 ·exact (h.paired.recv hx hkx).1
theorem ZC2 {t:Tr} {x:Nat×Nat} (hx:x∈ids t):rA t x∈sA t x.1:=by
 obtain⟨p,i⟩:=x
 obtain⟨hp,h1,h2⟩:=VE.1 hx
 unfold rA
 simp only at *
 rw[yE hp,SC qK _ (show i-1<t[p].evs.length by omega)]
 exact ap _
theorem YZ {t:Tr} {p:Nat} {e:Ev} (hp:p<t.length) (he:e∈sA t p):∃i,(p,i+1)∈ids t∧rA t (p,i+1)=e:=by
 obtain⟨i,hi,rfl⟩:=dh he
 refine⟨i,kD.2 ⟨hp,hi⟩,?_⟩
 unfold rA
 simp only[gb]
 exact SC qK _ hi
def Qb (t:Tr) (k j:Nat) (x y:Nat×Nat):Prop:=Hb t x y∧(y=(k,j+2)→Le t x (k,j)∨((rA t (k,j+2)).kind=3∧Le t x (UK t (k,j+2))))
theorem Qb.trans {t:Tr} {k j:Nat} {x y z:Nat×Nat} (h:Qb t k j x y) (g:Qb t k j y z):Qb t k j x z:=by
 refine⟨h.1.trans g.1,fun e=>?_⟩
 rcases g.2 e with a|⟨a,c⟩
 ·exact .inl ((Le.trans (.inr h.1) a))
 ·exact .inr ⟨a,(Le.trans (.inr h.1) c)⟩
theorem Hb.pos {t:Tr} {x y:Nat×Nat} (h:Hb t x y):1≤y.2:=by
 have d:∀{a c:Nat×Nat},Dir t a c→1≤c.2:=fun {a c} d=>by
  rcases d with ⟨rfl,_⟩|⟨_,hf⟩
  ·exact Nat.le_add_left _ _
  ·exact (xC hf).2.1
 cases h with
 |one h=>exact d h
 |more _ h=>exact d h
theorem AS (v w:List Int) (hv:v.length≤1000000) (b l:List Row):ZA Tryz.prog 30 [.v (.isl 1 (v.map eI)),.v (.isl 1 (w.map eI))] b l (fun r b' l'=>r=.v (.bool (decide (v=w)))∧b'=b∧l'=l):=by
 refine XA ZCr rfl kE ?_
 intro B g hB hR hE hA;simp only[EA]at hA
 by_cases hl:v.length=w.length
 ·have hd:((v.length:Int) != (w.length:Int))=false:=by simp[hl]
  simp (disch:=first|decide|omega) only[a_Eq1,hA,hd,go_sem]
  refine ZB (ι:=Nat) ZDP (fun i=>[(13,.v (.int .i64 i))]) 0 (fun _=>[])
   (fun i=>i≤v.length∧∀j,j<i→v.getD j 0=w.getD j 0) (fun i=>v.length-i) 0 ⟨an _,fun j hj=>by omega⟩ kM kA kF ?_
  rintro g1 aI bI aC i ⟨hi,h0⟩
  by_cases bB:i<v.length
  ·have hlw:i<w.length:=by omega
   by_cases he:v[i]=w[i]
   ·have hd2:(v[i] != w[i])=false:=by simp[he]
    simp (disch:=first|decide|omega) only[hA,aC,eI,hd2,go_sem]
    refine⟨i+1,⟨bB,fun j hj=>?_⟩,by simp only;omega,?_⟩
    ·rcases cq j i with PI|PI
     ·exact h0 j PI
     ·have:j=i:=by omega
      subst this
      rw[YA bB,YA hlw,he]
    exact KA.kround (p:=ZDP) (k:=0) kQ kA rfl aI kS kV hR kL
   ·have hd2:(v[i] != w[i])=true:=by simp[he]
    have YH:decide (v=w)=false:=by
     rw[mf];intro h;subst h;exact he rfl
    simp (disch:=first|decide|omega) only[hA,aC,eI,hd2,go_sem]
    exact QA (xs:=[.v (.bool false)]) ⟨by rw[YH];rfl,rfl,rfl⟩
  ·simp (disch:=first|decide|omega) only[hA,aC,go_sem]
   obtain rfl:i=v.length:=by omega
   have he:decide (v=w)=true:=ag (ZC1 hl h0)
   exact QA (xs:=[.v (.bool true)]) ⟨by rw[he];rfl,rfl,rfl⟩
 ·have hd:((v.length:Int) != (w.length:Int))=true:=by simp;omega
  have YH:decide (v=w)=false:=by
   rw[mf];intro h;subst h;exact hl rfl
  simp (disch:=first|decide|omega) only[a_Eq1,hA,hd,go_sem]
  exact QA (xs:=[.v (.bool false)]) ⟨by rw[YH];rfl,rfl,rfl⟩
def a_wproc:AFunc:=({c:=_}:CF Tryz.prog 48).c
theorem M3:CA Tryz.prog 48=some a_wproc:=by kernel_rfl
def SY:List (Nat×Nat):=[(4,4),(7,8),(43,57)]

theorem ZDS {t:Tr} (h:Vok t) {p:Nat} (hp:p<t.length):OkA t[p]:=by
 intro e he a ha
 obtain⟨i,hi,rfl⟩:=dh he
 obtain⟨j,hj,rfl⟩:=dh ha
 have hx:(p,i+1)∈ids t:=kD.2 ⟨hp,by rw[yE hp];exact hi⟩
 have hf:=h.form _ hx
 have yK:=EM hp hi
 unfold mE at hf
 rw[yK]at hf
 split at hf
 ·cases hf
 split at hf
 ·cases hf
 split at hf
 ·cases hf
 have h1:=yH.1 hf j hj
 unfold vM at h1
 rw[SC ET _ hj,SC dfPr t hp]at h1
 split at h1
 ·cases h1
 rename_i h2
 simp only[kz,kb,Bool.not_eq_false']at h2
 have h3:=h2.1
 unfold inB at h3
 simp at h3
 omega
theorem ZDQ {t:Tr} (h:Small t) {p:Nat} (hp:p<t.length):PrS t[p]:=⟨h.nv _ (ap hp),h.ne _ (ap hp),h.na _ (ap hp)⟩
theorem QL {t:Tr} {p:Nat} (hp:p<t.length):(t.map ePr)[p]? = some [.str t[p].name,.isl 2 (t[p].vars.map eVr),.isl 5 (t[p].evs.map eEv)]:=by
 rw[ai,ae hp];rfl
theorem TL (t:Tr) (nJ:pD t=true) (hS:Small t) (hN:Nm t) (p k:Nat) (hp:p<t.length) (hk:k≤t[p].evs.length) (b l:List Row):ZA Tryz.prog 11 [.agg [.v (.isl 3 (t.map ePr))],.v (.int .i64 p),.v (.int .i64 k)] b l (fun r b' l'=>r=.tup [.v (.isl 1 ((stV t[p] k).map eI)),.v (.int .i64 0)]∧b'=b∧l'=l):=by
 refine XA zY rfl kE ?_
 intro B g hB hR hE hA;simp only[EA]at hA
 have cV:=fun b l=>tN t hS hN b l
 rw[nJ]at cV
 simp only[eT]at cV
 have YH:=hS.ne _ (ap hp)
 have xX:=hS.np
 have y8:=QL hp
 have d1:decide ((p:Int)<0)=false:=ak oM
 have d2:decide ((p:Int)≥(t.length:Int))=false:=ak oM
 have d2':decide ((t.length:Int)≤(p:Int))=false:=d2
 have d3:decide ((k:Int)<0)=false:=ak oM
 have d4:decide ((k:Int)>(t[p].evs.length:Int))=false:=ak oM
 have d4':decide ((t[p].evs.length:Int)<(k:Int))=false:=d4
 simp (disch:=first|decide|omega) only[a_vState,hA,go_sem]
 refine ZA.nxt (cV _ _) ?_
 simp (disch:=first|decide|omega) only[hA,y8,d1,d2,d2',d3,d4,d4',aa,go_sem]
 refine ZA.nxt (rX t[p] (ZDQ hS hp) (ZDS (vok nJ) hp) k hk _ _) ?_
 simp (disch:=first|decide|omega) only[hA,go_sem]
 exact QA (xs:=[.v (.isl 1 ((stV t[p] k).map eI)),.v (.int .i64 0)])
abbrev zWA (x:Wd):List AV:=[.v (.isl 6 (x.sv.map eSv)),.v (.int .i64 x.net.now),.v (.bool x.net.fifo),.v (.isl 4 (x.net.l.map eMs)),.v (.isl 1 (x.net.tm.map eI)),.v (.isl 2 (x.net.fates.map eFt)),.v (.int .i64 x.now),.v (.int .i64 x.sent),.v (.isl 3 (x.tr.map ePr))]
theorem j0 (w:Wd) (nJ:pD w.tr=true) (hS:Small w.tr) (hN:Nm w.tr) (rT:SvsS w.sv) (p:Nat) (hp:p<w.tr.length) (hps:p<w.sv.length) (h8:w.sv[p].vars.length≤8) (b l:List Row):ZA Tryz.prog 48 [.agg ((eWd w).map .v),.v (.int .i64 p)] b l (fun r b' l'=>r=.v (.bool (jM w.tr[p] w.sv[p] w.now))∧b'=b∧l'=l):=by
 refine XA M3 rfl kE ?_
 intro B g hB hR hE hA;simp only[EA]at hA
 obtain⟨x,hx⟩:∃x,w.tr[p]=x:=⟨_,rfl⟩
 obtain⟨s,hs⟩:∃s,w.sv[p]=s:=⟨_,rfl⟩
 have y8:=QL hp
 have GZ:=ZL hps
 rw[hx]at y8
 rw[hs]at GZ h8
 rw[hx,hs]
 have sY:PrS x:=hx▸ZDQ hS hp
 have hxo:OkA x:=hx▸ZDS (vok nJ) hp
 have hnv:=sY.nv
 have YH:=sY.ne
 have tY:=rT.len
 have xX:=hS.np
 have cS:=fun b l=>TL w.tr nJ hS hN p x.evs.length hp (by rw[hx];exact ah _) b l
 rw[hx,show stV x x.evs.length=iS x from rfl]at cS
 have hfv:(iS x).length=x.vars.length:=JI _
 have hbn:(x.name != s.name)=!(x.name==s.name):=rfl
 cases t1:(x.name==s.name)
 ·simp (disch:=first|decide|omega) only[a_wproc,hA,eWd,y8,GZ,hbn,t1,aa,go_sem]
  exact QA (xs:=[.v (.bool false)]) ⟨by unfold jM;rw[t1];rfl,rfl,rfl⟩
 by_cases t2:x.vars.length=s.vars.length
 case neg =>
  have d2:((x.vars.length:Int) != (s.vars.length:Int))=true:=by simp;omega
  simp (disch:=first|decide|omega) only[a_wproc,hA,eWd,y8,GZ,hbn,t1,d2,aa,go_sem]
  exact QA (xs:=[.v (.bool false)]) ⟨by unfold jM;rw[t1,ak t2];rfl,rfl,rfl⟩
 have d2:((x.vars.length:Int) != (s.vars.length:Int))=false:=by simp;omega
 have hwl:(qN s.vars).length=s.vars.length:=WI
 simp (disch:=first|decide|omega) only[a_wproc,hA,eWd,y8,GZ,hbn,t1,d2,aa,go_sem]
 refine ZA.nxt (fR s.vars h8 _ _) ?_
 simp (disch:=first|decide|omega) only[hA,hwl,aa,go_sem]
 refine ZB (ι:=Nat) SY (fun i=>[(43,.v (.int .i64 i))]) 3 (fun _=>[.live 0 9 [(zWA w)],VJ s,ZA7 x])
  (fun i=>i≤s.vars.length∧∀j,j<i→((x.vars.getD j xV).name==QK j)=true) (fun i=>s.vars.length-i) 0 ⟨an _,fun j hj=>by omega⟩ kM kA kF ?_
 rintro g1 aI bI aC i ⟨hi,h0⟩
 unfold VJ ZA7
 by_cases bB:i<s.vars.length
 ·have hgw:((qN s.vars).map eVr)[i]? = some [.str (QK i),.int .i64 (s.vars.getD i 0)]:=by
   rw[ai]
   unfold qN
   rw[IF bB];rfl
  have hlx:i<x.vars.length:=by omega
  have hgv:=F7 hlx
  have hgn:(x.vars.getD i xV).name=x.vars[i].name:=by rw[YA hlx]
  have hb:(x.vars[i].name != QK i)=!(x.vars[i].name==QK i):=rfl
  cases t3:(x.vars[i].name==QK i)
  ·simp (disch:=first|decide|omega) only[hA,aC,hgw,hgv,hb,t3,hwl,aa,go_sem]
   exact QA (xs:=[.v (.bool false)]) ⟨by unfold jM;rw[t1,ag t2,show ZAj x s.vars.length=false from gy.2 ⟨i,bc.2 bB,by rw[hgn,t3];simp⟩];rfl,rfl,rfl⟩
  ·simp (disch:=first|decide|omega) only[hA,aC,hgw,hgv,hb,t3,hwl,aa,go_sem]
   refine⟨i+1,⟨bB,fun j hj=>?_⟩,by simp only;omega,?_⟩
   ·rcases cq j i with PI|PI
    ·exact h0 j PI
    ·obtain rfl:j=i:=by omega
     rw[hgn];exact t3
   ·exact KA.kround (p:=SY) (k:=3) kQ kA rfl aI kS kV hR kL
 obtain rfl:i=s.vars.length:=by omega
 have t3:ZAj x s.vars.length=true:=by
  unfold ZAj
  rw[bo]
  exact fun j hj=>h0 j (bc.1 hj)
 simp (disch:=first|decide|omega) only[hA,aC,hwl,aa,go_sem]
 refine ZA.nxt (cS _ _) ?_
 simp (disch:=first|decide|omega) only[hA,aC,hwl,aa,go_sem]
 refine ZA.nxt (RL _ _ _ _ s w.now _ _ (.inl ⟨_,rfl⟩)) ?_
 simp (disch:=first|decide|omega) only[hA,aC,hwl,aa,go_sem]
 refine ZA.nxt (AS (iS x) s.vars oM _ _) ?_
 by_cases t4:iS x=s.vars
 ·have d4:=ag t4
  have hr:jM x s w.now=IZ x (jJ s w.now):=by unfold jM;rw[t1,ag t2,t3,d4];rfl
  rw[hr]
  by_cases hz:x.evs.length=0
  ·have dz:((x.evs.length:Int)==0)=true:=by rw[hz];rfl
   simp (disch:=first|decide|omega) only[hA,aC,d4,dz,aa,go_sem]
   exact QA (xs:=[.v (.bool true)]) ⟨by unfold IZ;rw[ag (.inl hz)];rfl,rfl,rfl⟩
  ·have dz:((x.evs.length:Int)==0)=false:=fc.2 oM
   have bB:x.evs.length-1<x.evs.length:=by omega
   have TK:=bJ bB
   have qL:(x.evs.length:Int)-1=((x.evs.length-1:Nat):Int):=by omega
   simp (disch:=first|decide|omega) only[hA,aC,d4,dz,qL,TK,aa,go_sem]
   exact QA (xs:=[.v (.bool (decide (x.evs[x.evs.length-1].time≤jJ s w.now)))]) ⟨by unfold IZ;rw[YA bB];simp[hz,one],rfl,rfl⟩
 ·have d4:=ak t4
  simp (disch:=first|decide|omega) only[hA,aC,d4,aa,go_sem]
  exact QA (xs:=[.v (.bool false)]) ⟨by unfold jM;rw[d4];simp[one],rfl,rfl⟩
theorem AR {s:ByteArray} (h:GE s=true):s.size≤16:=by
 unfold GE eW at h
 simp only[ar,bj]at h
 have:=h.1.1.2
 rwa [gh]at this
theorem eN {t:Tr} {p:Nat} (hp:p<t.length) (h:gE t p=0):GE t[p].name=true∧t[p].vars.length≤8∧(∀v∈t[p].vars,GE v.name=true)∧t[p].evs.length≤64:=by
 have h64:=OJ hp h
 unfold gE at h
 rw[YA hp]at h
 split at h
 ·exact absurd h kE
 rename_i c1
 split at h
 ·exact absurd h kE
 rename_i c2
 split at h
 ·rename_i c3;exact absurd h c3
 rename_i c3
 have c3:YD (dQ t[p].vars) t[p].vars.length=0:=Classical.not_not.1 c3
 refine⟨?_,by omega,fun v hv=>?_,h64⟩
 ·cases hn:GE t[p].name with
  |true=>rfl
  |false=>rw[hn]at c1;simp at c1
 ·obtain⟨i,hi,rfl⟩:=dh hv
  have:=yH.1 c3 i hi
  unfold dQ at this
  rw[YA hi]at this
  cases hn:GE t[p].vars[i].name with
  |true=>rfl
  |false=>rw[hn]at this;simp at this
theorem Vok.small {t:Tr} (h:Vok t):Small t:=by
 have hi:=h.hi
 refine⟨by omega,fun x hx=>?_,fun x hx=>?_,fun x hx e he=>?_⟩
 ·obtain⟨p,hp,rfl⟩:=dh hx
  have:=(eN hp (h.head p hp)).2.1;omega
 ·obtain⟨p,hp,rfl⟩:=dh hx
  have:=(eN hp (h.head p hp)).2.2.2;omega
 ·obtain⟨p,hp,rfl⟩:=dh hx
  obtain⟨i,hi,rfl⟩:=YZ hp (by rw[yE hp];exact he)
  have:=(EU.1 (h.form _ hi)).2.2.2.1
  omega
theorem Vok.nm {t:Tr} (h:Vok t):Nm t:=fun x hx=>by
 obtain⟨p,hp,rfl⟩:=dh hx
 obtain⟨h1,_,h3,_⟩:=eN hp (h.head p hp)
 have g:∀s:ByteArray,GE s=true→s.size≤maxLen:=fun s hs=>ee (AR hs) (by unfold maxLen;decide)
 exact⟨g _ h1,fun v hv=>g _ (h3 v hv)⟩
def a_wValid:AFunc:=({c:=_}:CF Tryz.prog 17).c
theorem XY:CA Tryz.prog 17=some a_wValid:=by kernel_rfl
def mU:List (Nat×Nat):=[(2,5),(7,7),(52,79)]
def vP:List (Nat×Nat):=[(2,3),(7,7),(64,78)]
def a_wValid1:AFunc:=({c:=_}:CF Tryz.prog 49).c
theorem EV:CA Tryz.prog 49=some a_wValid1:=by kernel_rfl

theorem xS:CA Tryz.prog 34=some (FG 64):=by kernel_rfl
theorem wS:CA Tryz.prog 64=some (JJ 4):=by kernel_rfl
def nSd (l:List Ev):Nat→Nat
 |0=>0
 |i+1=>if (l.getD i qK).kind=2 then nSd l i+1 else nSd l i
theorem G5 (l:List Ev):∀i,nSd l i≤i
 |0=>ah _
 |i+1=>by have:=G5 l i;simp only[nSd];split<;>omega
def cSd (t:Tr):Nat→Nat
 |0=>0
 |p+1=>cSd t p+nSd (sA t p) (sA t p).length
theorem O5 {t:Tr} (h:∀x∈t,x.evs.length≤64):∀p,p≤t.length→cSd t p≤64*p
 |0,_=>ah _
 |p+1,hp=>by
   have:=O5 h p oM
   have h1:=G5 (sA t p) (sA t p).length
   have h2:=h t[p] (ap oM)
   rw[yE (show p<t.length by omega)]at h1
   simp only[cSd]
   rw[yE (show p<t.length by omega)]
   omega
def sOk (l:List Ev) (sent:Int) (i:Nat):Bool:=!((l.getD i qK).kind==2)||decide ((l.getD i qK).msg<sent)
noncomputable def mgB (t:Tr) (m:Ms):Bool:=decide (m.body.length=1)&&(decide (0<(vD t 2 m.nu).2)&&(decide (((vD t 2 m.nu).1:Int)=m.fr)&&decide ((rA t (vD t 2 m.nu)).peer=m.to)))
def prB (w:Wd) (p:Nat):Bool:=jM (w.tr.getD p dfPr) (w.sv.getD p dfSv) w.now&&(List.range (sA w.tr p).length).all (sOk (sA w.tr p) w.sent)
noncomputable def wdB (w:Wd):Bool:=ZH w.sv&&(inZ w.now 0 1000000000&&(nwB w.net&&(decide (w.net.now=w.now)&&(pD w.tr&&(decide (w.tr.length=w.sv.length)&&((List.range w.tr.length).all (prB w)&&(decide ((cSd w.tr w.tr.length:Int)=w.sent)&&w.net.l.all (mgB w.tr))))))))
theorem LS {t:Tr} {kd m:Int} (h:0<(vD t kd m).2):∃p i,vD t kd m=(p,i+1)∧∃hp:p<t.length,i<t[p].evs.length:=by
 unfold vD at h⊢
 split at h
 case isFalse=>simp at h
 rename_i hv
 rw[if_pos hv]
 unfold lE VA at h⊢
 cases hf:(ids t).find? (ZG t kd m) with
 |none=>rw[hf]at h;simp at h
 |some x =>
   obtain⟨p,j⟩:=x
   have hm:=ge hf
   obtain⟨hp,h1,h2⟩:=VE.1 hm
   simp only at hp h1 h2
   obtain⟨i,rfl⟩:∃i,j=i+1:=⟨j-1,by omega⟩
   exact⟨p,i,rfl,hp,by omega⟩
theorem eV (w:Wd) (hS:Small w.tr) (hN:Nm w.tr) (m:Ms) (hm:m.body.length≤1000000) (id:Nat) (b l:List Row) (hg:hget b l id=some (.live 0 9 [(eWd w).map .v])):ZA Tryz.prog 49 [.agg ((eMs m).map .v),.ptr id 0 0 0] b l (fun r b' l'=>r=.v (.bool (!mgB w.tr m))∧b'=b∧l'=l):=by
 refine XA EV rfl kE ?_
 intro B g hB hR hE hA;simp only[EA]at hA
 have g0:∀l',hget B l' id=some (.live 0 9 [(eWd w).map .v]):=fun l'=>by
  rw[MD]at hg
  rw[MD,aw (by rw[hB];exact (aj.1 hg).1),hB];exact hg
 unfold eWd at g0
 simp only[ba,bl]at g0
 have cS:=fun b l=>YQ w.tr hS hN b l m.nu
 simp only[eT,idA]at cS
 have uI:((m.body.length:Int) != 1)=!decide (m.body.length=1):=by
  by_cases h:m.body.length=1<;>simp[h]
  omega
 simp (disch:=first|decide|omega) only[a_wValid1,hA,g0,eMs,aa,go_sem]
 refine ZA.nxt (cS _ _) ?_
 by_cases t1:m.body.length=1
 case neg =>
  have d1:((m.body.length:Int) != 1)=true:=by simp;omega
  simp (disch:=first|decide|omega) only[hA,g0,d1,aa,go_sem]
  exact QA (xs:=[.v (.bool true)]) ⟨by simp[mgB,t1,one],rfl,rfl⟩
 have d1:((m.body.length:Int) != 1)=false:=by simp;omega
 by_cases t2:0<(vD w.tr 2 m.nu).2
 case neg =>
  have d2:decide (0<(vD w.tr 2 m.nu).2)=false:=ak t2
  simp (disch:=first|decide|omega) only[hA,g0,d1,d2,aa,go_sem]
  exact QA (xs:=[.v (.bool true)]) ⟨by simp[mgB,t2,one],rfl,rfl⟩
 have d2:decide (0<(vD w.tr 2 m.nu).2)=true:=ag t2
 obtain⟨p,i,hpi,hp,hi⟩:=LS t2
 have y8:=QL hp
 have TK:=bJ hi
 have yK:=EM hp hi
 have YH:=hS.ne _ (ap hp)
 have xX:=hS.np
 have hmg:mgB w.tr m=(decide ((p:Int)=m.fr)&&decide (w.tr[p].evs[i].peer=m.to)):=by unfold mgB;rw[ag t1,d2,hpi,yK];rfl
 rw[hmg]
 rw[hpi]at d2
 have iT:((i+1:Nat):Int)-1=(i:Int):=by omega
 by_cases t3:(p:Int)=m.fr
 case neg =>
  have d3:((p:Int) != m.fr)=true:=by simpa using t3
  simp (disch:=first|decide|omega) only[hA,g0,d1,d2,hpi,d3,aa,go_sem]
  exact QA (xs:=[.v (.bool true)]) ⟨by simp[t3,one],rfl,rfl⟩
 have d3:((p:Int) != m.fr)=false:=by simpa using t3
 have d4:(w.tr[p].evs[i].peer != m.to)=!decide (w.tr[p].evs[i].peer=m.to):=by
  by_cases h:w.tr[p].evs[i].peer=m.to<;>simp[h]
 simp (disch:=first|decide|omega) only[hA,g0,d1,d2,hpi,d3,y8,TK,iT,d4,aa,go_sem]
 exact QA (xs:=[.v (.bool (!decide (w.tr[p].evs[i].peer=m.to)))]) ⟨by simp[t3,one],rfl,rfl⟩
theorem ZGx {w:Wd} {p:Nat} (hp:p<w.tr.length) (h:prB w p=false):wdB w=false:=by
 have:(List.range w.tr.length).all (prB w)=false:=gy.2 ⟨p,bc.2 hp,by rw[h];simp⟩
 unfold wdB
 rw[this];simp
theorem FF (w:Wd) (hS0:Sm w.tr) (hN:Nm w.tr) (rT:SvsS w.sv) (hSn:NwS w.net) (b l:List Row):ZA Tryz.prog 17 [.agg ((eWd w).map .v)] b l (fun r b' l'=>r=.v (.bool (wdB w))∧b'=b∧l'=l):=by
 refine XA XY rfl kE ?_
 intro B g hB hR hE hA;simp only[EA]at hA
 have cV:=fun b l=>LG w.net b l
 have cT:=fun b l=>SL w.tr hS0 hN b l
 simp only[eNw,eT,ba,bl]at cV cT
 have xX:=hS0.np
 have tY:=rT.len
 simp (disch:=first|decide|omega) only[a_wValid,hA,eWd,cellsOf,go_sem]
 refine ZA.nxt (lL w.sv rT _ _) ?_
 cases t1:ZH w.sv
 ·simp (disch:=first|decide|omega) only[hA,go_sem]
  exact QA (xs:=[.v (.bool false)]) ⟨by unfold wdB;rw[t1];rfl,rfl,rfl⟩
 simp (disch:=first|decide|omega) only[hA,go_sem]
 refine ZA.nxt (AD _ _ _ _ _) ?_
 cases t2:inZ w.now 0 1000000000
 ·simp (disch:=first|decide|omega) only[hA,go_sem]
  exact QA (xs:=[.v (.bool false)]) ⟨by unfold wdB;rw[t1,t2];rfl,rfl,rfl⟩
 simp (disch:=first|decide|omega) only[hA,go_sem]
 refine ZA.nxt (cV _ _) ?_
 cases t3:nwB w.net
 ·simp (disch:=first|decide|omega) only[hA,go_sem]
  exact QA (xs:=[.v (.bool false)]) ⟨by unfold wdB;rw[t1,t2,t3];rfl,rfl,rfl⟩
 by_cases t4:w.net.now=w.now
 case neg =>
  have d4:(w.net.now != w.now)=true:=by simpa using t4
  simp (disch:=first|decide|omega) only[hA,d4,go_sem]
  exact QA (xs:=[.v (.bool false)]) ⟨by unfold wdB;rw[t1,t2,t3,ak t4];rfl,rfl,rfl⟩
 have d4:(w.net.now != w.now)=false:=by simpa using t4
 simp (disch:=first|decide|omega) only[hA,d4,go_sem]
 refine ZA.nxt (cT _ _) ?_
 cases t5:pD w.tr
 ·simp (disch:=first|decide|omega) only[hA,go_sem]
  exact QA (xs:=[.v (.bool false)]) ⟨by unfold wdB;rw[t1,t2,t3,ag t4,t5];rfl,rfl,rfl⟩
 by_cases t6:w.tr.length=w.sv.length
 case neg =>
  have d6:((w.tr.length:Int) != (w.sv.length:Int))=true:=by simp;omega
  simp (disch:=first|decide|omega) only[hA,d6,aa,go_sem]
  exact QA (xs:=[.v (.bool false)]) ⟨by unfold wdB;rw[t1,t2,t3,ag t4,t5,ak t6];rfl,rfl,rfl⟩
 have d6:((w.tr.length:Int) != (w.sv.length:Int))=false:=by simp;omega
 have hvk:=vok t5
 have hS:=hvk.small
 have h64:∀x∈w.tr,x.evs.length≤64:=fun x hx=>by
  obtain⟨p,hp,rfl⟩:=dh hx
  have hh:=hvk.head p hp
  unfold gE at hh
  rw[SC dfPr w.tr hp]at hh
  split at hh
  ·cases hh
  split at hh
  ·cases hh
  split at hh
  ·rename_i hc;exact absurd hh hc
  split at hh
  ·cases hh
  ·omega
 have h8:∀p (h:p<w.sv.length),w.sv[p].vars.length≤8:=fun p hp=>by
  unfold ZH at t1
  rw[ar,bo]at t1
  have:=t1.2 p (bc.2 hp)
  unfold svB sv1 at this
  rw[YA hp]at this
  simp only[ar,bj]at this
  exact this.1.2.2.1
 have EP:=O5 h64
 have ZLT:=hvk.hi
 simp (disch:=first|decide|omega) only[hA,d6,aa,go_sem]
 refine ZB (ι:=Nat) mU (fun p=>[(3,.v (.int .i64 (cSd w.tr p))),(52,.v (.int .i64 p))]) 1 (fun _=>[.live 0 9 [(eWd w).map .v]])
  (fun p=>p≤w.tr.length∧∀j,j<p→prB w j=true) (fun p=>w.tr.length-p) 0 ⟨an _,fun j hj=>by omega⟩ kM kA kF ?_
 rintro g1 aI bI aC p ⟨hp,h0⟩
 have mY:(eWd w).map AV.v=(zWA w):=rfl
 rw[mY]
 by_cases bB:p<w.tr.length
 case neg =>
  obtain rfl:p=w.tr.length:=by omega
  have uH:(List.range w.tr.length).all (prB w)=true:=bo.2 fun j hj=>h0 j (bc.1 hj)
  have hr:wdB w=(decide ((cSd w.tr w.tr.length:Int)=w.sent)&&w.net.l.all (mgB w.tr)):=by
   unfold wdB;rw[t1,t2,t3,ag t4,t5,ag t6,uH];rfl
  rw[hr]
  by_cases t7:(cSd w.tr w.tr.length:Int)=w.sent
  case neg =>
   have d7:((cSd w.tr w.tr.length:Int)==w.sent)=false:=by simpa using t7
   simp (disch:=first|decide|omega) only[hA,aC,d7,aa,go_sem]
   exact QA (xs:=[.v (.bool false)]) ⟨by rw[ak t7];rfl,rfl,rfl⟩
  have d7:((cSd w.tr w.tr.length:Int)==w.sent)=true:=by simpa using t7
  have cC:=zE xS wS (w.net.l.map eMs) 49 [.ptr B.length 0 0 0] (fun j=>!mgB w.tr (w.net.l.getD j dfMs)) (fun row h=>by obtain⟨m,_,rfl⟩:=de.1 h;rfl) (by rw[aa];exact hSn.l) B [.live 0 9 [(eWd w).map .v]] (fun j row hj=>by
   have fG:j<w.net.l.length:=by have:=(aj.1 hj).1;rwa [aa]at this
   rw[ai,ae fG]at hj
   cases hj
   simp only[YA fG]
   exact eV w hS hN _ (hSn.body _ (ap fG)) B.length _ _ (by rw[MD,cj,au (ah _),fz];rfl))
  rw[aa,tG (p:=fun m=>!mgB w.tr m),AF,mY]at cC
  simp (disch:=first|decide|omega) only[hA,aC,d7,aa,go_sem]
  refine ZA.nxt cC ?_
  simp (disch:=first|decide|omega) only[hA,aC,ky,go_sem]
  exact QA (xs:=[.v (.bool (w.net.l.all (mgB w.tr)))]) ⟨by rw[ag t7];rfl,rfl,rfl⟩
 have hps:p<w.sv.length:=by omega
 obtain⟨x,hx⟩:∃x,w.tr[p]=x:=⟨_,rfl⟩
 have y8:=QL bB
 rw[hx]at y8
 have hxe:sA w.tr p=x.evs:=by rw[yE bB,hx]
 have hx64:=h64 x (by rw[←hx];exact ap bB)
 have cP:=fun b l=>j0 w t5 hS hN rT p bB hps (h8 p hps) b l
 rw[mY]at cP
 have K8:prB w p=(jM w.tr[p] w.sv[p] w.now&&(List.range x.evs.length).all (sOk x.evs w.sent)):=by unfold prB;rw[YA bB,YA hps,hxe]
 have bad:prB w p=false→AV.v (.bool (wdB w))=.v (.bool false):=fun h=>by rw[ZGx bB h]
 have hcp:=EP p hp
 simp (disch:=first|decide|omega) only[hA,aC,y8,aa,go_sem]
 refine ZA.nxt (cP _ _) ?_
 cases t7:jM w.tr[p] w.sv[p] w.now
 ·simp (disch:=first|decide|omega) only[hA,aC,go_sem]
  exact QA (xs:=[.v (.bool false)]) ⟨by rw[bad (by rw[K8,t7];rfl)];rfl,rfl,rfl⟩
 simp (disch:=first|decide|omega) only[hA,aC,aa,go_sem]
 refine ZB (ι:=Nat) vP (fun i=>[(3,.v (.int .i64 ((cSd w.tr p+nSd x.evs i:Nat):Int))),(64,.v (.int .i64 i))]) 2 (fun _=>[.live 0 9 [(eWd w).map .v],ZA7 x])
  (fun i=>i≤x.evs.length∧∀j,j<i→sOk x.evs w.sent j=true) (fun i=>x.evs.length-i) 0 ⟨an _,fun j hj=>by omega⟩ kM kA kF ?_
 rintro g2 UP ZB9 NI i ⟨hi,h02⟩
 rw[mY]
 unfold ZA7
 by_cases hli:i<x.evs.length
 ·have TK:=bJ hli
  have lR:x.evs.getD i qK=x.evs[i]:=YA hli
  have hns:=G5 x.evs i
  have hcn:((cSd w.tr p+nSd x.evs i:Nat):Int)+1=((cSd w.tr p+(nSd x.evs i+1):Nat):Int):=by omega
  by_cases hk:x.evs[i].kind=2
  ·have dk:(x.evs[i].kind != 2)=false:=by rw[hk];rfl
   have hn1:nSd x.evs (i+1)=nSd x.evs i+1:=by simp only[nSd];rw[lR,if_pos hk]
   by_cases hm:x.evs[i].msg<w.sent
   ·have dm:decide (x.evs[i].msg≥w.sent)=false:=ak oM
    have dm':decide (w.sent≤x.evs[i].msg)=false:=dm
    simp (disch:=first|decide|omega) only[hA,aC,NI,TK,dk,dm,dm',hcn,aa,go_sem]
    refine⟨i+1,⟨hli,fun j hj=>?_⟩,by simp only;omega,?_⟩
    ·rcases cq j i with PI|PI
     ·exact h02 j PI
     ·obtain rfl:j=i:=by omega
      unfold sOk;rw[lR,ag hm];simp
    ·simp only[hn1,mY]
     exact KA.kround (p:=vP) (k:=2) kQ kA rfl UP kS kV hR kL
   ·have dm:decide (x.evs[i].msg≥w.sent)=true:=ag oM
    have dm':decide (w.sent≤x.evs[i].msg)=true:=dm
    simp (disch:=first|decide|omega) only[hA,aC,NI,TK,dk,dm,dm',aa,go_sem]
    exact QA (xs:=[.v (.bool false)]) ⟨by rw[bad (by rw[K8,show (List.range x.evs.length).all (sOk x.evs w.sent)=false from gy.2 ⟨i,bc.2 hli,by unfold sOk;rw[lR,hk,ak hm];simp⟩,Bool.and_false])];rfl,rfl,rfl⟩
  ·have dk:(x.evs[i].kind != 2)=true:=by simpa using hk
   have dk2:(x.evs[i].kind==2)=false:=by simpa using hk
   have hn1:nSd x.evs (i+1)=nSd x.evs i:=by simp only[nSd];rw[lR,if_neg hk]
   simp (disch:=first|decide|omega) only[hA,aC,NI,TK,dk,aa,go_sem]
   refine⟨i+1,⟨hli,fun j hj=>?_⟩,by simp only;omega,?_⟩
   ·rcases cq j i with PI|PI
    ·exact h02 j PI
    ·obtain rfl:j=i:=by omega
     unfold sOk;rw[lR,dk2];rfl
   ·simp only[hn1,mY]
    exact KA.kround (p:=vP) (k:=2) kQ kA rfl UP kS kV hR kL
 ·obtain rfl:i=x.evs.length:=by omega
  have qM:prB w p=true:=by rw[K8,t7,bo.2 fun j hj=>h02 j (bc.1 hj)];rfl
  have PN:cSd w.tr (p+1)=cSd w.tr p+nSd x.evs x.evs.length:=by simp only[cSd];rw[hxe]
  simp (disch:=first|decide|omega) only[hA,aC,NI,aa,go_sem]
  refine⟨p+1,⟨bB,fun j hj=>?_⟩,by simp only;omega,?_⟩
  ·rcases cq j p with PI|PI
   ·exact h0 j PI
   ·obtain rfl:j=p:=by omega
    exact qM
  ·simp only[mY,PN]
   exact KA.kround (p:=mU) (k:=1) kQ kA rfl aI kS kV hR kL
theorem ZEq {t:Tr} {p:Nat} (hp:p<t.length):(t.map ePr)[p]? = some [.str t[p].name,.isl 2 (t[p].vars.map eVr),.isl 5 (t[p].evs.map eEv)]:=by
 rw[ai,ae hp];rfl
theorem c7 {t:Tr} {N:Nat} (h:∀x∈t,x.evs.length≤N):∀p,p≤t.length→(eF t p 0).length≤p*N
 |0,_=>by simp[eF]
 |p+1,hp=>by
   have ih:=c7 h p oM
   have hl:=h _ (ap (show p<t.length by omega))
   rw[←fK t p oM,ca]
   have:(eF t p t[p].evs.length).length=(eF t p 0).length+t[p].evs.length:=by simp[eF]
   omega
def gN (t:Tr) (p:Nat):Nat:=(sA t p).length+1
def gB (t:Tr) (S:List (Nat×Nat)) (p:Nat):List (List IV):=fl (gN t p) fun k=>[.bool (decide ((p,k)∈S))]
section
variable {t:Tr} {base n m:Nat} {x:Nat×Nat} {S:List (Nat×Nat)} {T:List Row}
end
attribute [local go_sem] eD bD jC vC rD fD List.replicate_succ List.replicate_zero
theorem dR {t:Tr} {i j:Nat} (hi:i<t.length) (hj:j<t[i].evs.length):rA t (i,j+1)=t[i].evs[j]:=by
 unfold rA sA;simp[List.getD,hi,hj]
structure CutIn (t:Tr) (cs:List Int):Prop where
 len:cs.length=t.length
 le:∀(k:Nat) (h:k<t.length) (h2:k<cs.length),0≤cs[k]∧cs[k]≤t[k].evs.length
def a_Fifo:AFunc:=({c:=_}:CF Tryz.prog 25).c
theorem ZA0:CA Tryz.prog 25=some a_Fifo:=by kernel_rfl
def yR:List Bool:=[false,false,true,false,false,false,true,true,true,true,false,true,true,false,false,false,false,false,false,false,false,false,false,false,false,true,true,true,true,true,true,true,true,true,true,true,true,true,true,true,true,true,true,true,true,true,true,true,true,true,true,true,true,true,true,true,true,true,true,true,true,true,true,true,true,true,true,true,true,true,true,true,true,true]
def vR:List Bool:=[false,false,true,false,false,false,false,true,true,true,false,true,true,false,false,false,false,false,false,false,false,false,false,false,false,false,false,false,false,false,false,true,true,true,true,true,true,true,true,true,true,true,true,true,true,true,true,true,true,true,true,true,true,true,true,true,true,true,true,true,true,true,true,true,true,true,true,true,true,true,true,true,true,false]
def EK:List Bool:=[false,false,true,false,false,false,false,false,true,true,false,true,true,false,false,false,false,false,false,false,false,false,false,false,false,false,false,false,false,false,false,false,false,false,false,false,false,false,false,false,false,true,true,true,true,true,true,true,true,true,true,true,true,true,true,true,true,true,true,true,true,true,true,true,true,true,true,true,true,true,true,true,false,false]

theorem ZFS (t:Tr) (hS:Small t) (hN:Nm t) (hv:pD t=true) (b l:List Row) :
  ZA Tryz.prog 54 [.agg [.v (eT t)]] b l (fun r b' l'=>r=.tup [.v (.iptr (zG t) 0),idA (0,0),.v (.int .i64 0)]∧b'=b∧l'=l):=by
 refine ZA.of_new ⟨_,Tryz.func54,by kernel_rfl,by kernel_rfl⟩ (fun F L w vs hF hr=>?_)
 obtain⟨u,us,rfl,hs,y6⟩:=PO hN hr
 obtain rfl:=uG y6
 refine (lH u t w hS.np hS.ne hs (rK hv)).mono ?_
 rintro e w' ⟨he,uU⟩
 rcases uU with ⟨x,hx,_⟩|⟨_,bL,ls,hbL,hL,hA,rfl⟩
 ·rw[ZQ hv]at hx;cases hx
 refine⟨he,_,_,fun b=>F b∨b=bL,rfl,fun _ h=>.inl h,fun b hb h=>h.elim id (fun h=>absurd h oM),fun b h=>?_,bA.tup (bA.cons (.v _ _ (XS hL hA (.inr rfl))) (bA.cons (gW _ _ _ _) (bA.cons (.v _ _ (.int _ _)) bA.nil))),rfl,rfl,rfl⟩
 rcases h with h|rfl
 ·exact fu (hF b h) he.size
 ·exact hL.lt

def evp (t:Tr) (p j:Nat):Ev:=rA t (p,j+1)
def toI (t:Tr) (p j:Nat):Nat:=(lE t 3 (evp t p j).msg).2
def dD (t:Tr) (p j i:Nat):Bool:=
 (evp t p j).kind==2&&((evp t p i).kind==2&&((evp t p j).peer==(evp t p i).peer&&(toI t p i != 0&&(toI t p j==0||decide (toI t p i<toI t p j)))))
def FQ (t:Tr):Bool:=(List.range t.length).all fun p=>(List.range (sA t p).length).all fun i=>(List.range i).all fun j=>!dD t p j i
theorem xZ {t:Tr} {p:Nat} (h:p<t.length):sA t p=t[p].evs:=by unfold sA;simp[List.getD,h]
theorem zS {t:Tr} {p i j:Nat} (hp:p<t.length) (hi:i<t[p].evs.length) (hj:j<i) (h:dD t p j i=true):FQ t=false:=by
 unfold FQ
 rw[gy]
 refine⟨p,bc.2 hp,?_⟩
 rw[kz,gy]
 refine⟨i,bc.2 (by rw[xZ hp];exact hi),?_⟩
 rw[kz,gy]
 exact⟨j,bc.2 hj,by rw[h];simp⟩
theorem OU {t:Tr} (h:∀p (hp:p<t.length),∀i,i<t[p].evs.length→∀j,j<i→dD t p j i=false):FQ t=true:=by
 unfold FQ
 rw[bo]
 intro p hp
 have hp:=bc.1 hp
 rw[bo]
 intro i hi
 rw[xZ hp]at hi
 rw[bo]
 intro j hj
 rw[h p hp i (bc.1 hi) j (bc.1 hj)];rfl
theorem ZHr {t:Tr} {p j:Nat} (hp:p<t.length) (hj:j<t[p].evs.length):evp t p j=t[p].evs[j]:=dR hp hj

structure FfI (t:Tr) (p q k last:Nat) (mis:Bool):Prop where
 m1:∀j,j<k→(evp t p j).kind=2→(evp t p j).peer=q→toI t p j=0→mis=true
 m2:mis=true→∃j,j<k∧(evp t p j).kind=2∧(evp t p j).peer=q∧toI t p j=0
 l1:∀j,j<k→(evp t p j).kind=2→(evp t p j).peer=q→toI t p j≤last
 l2:0<last→∃j,j<k∧(evp t p j).kind=2∧(evp t p j).peer=q∧toI t p j=last
 g:∀i,i<k→∀j,j<i→(evp t p i).peer=q→dD t p j i=false
theorem FfI.start (t:Tr) (p q:Nat):FfI t p q 0 0 false:=⟨fun j h=>by omega,fun h=>(by cases h),fun j h=>by omega,fun h=>by omega,fun j h=>by omega⟩
theorem FfI.skip {t:Tr} {p q k last:Nat} {mis:Bool} (h:FfI t p q k last mis) (hk:¬((evp t p k).kind=2∧(evp t p k).peer=q)):FfI t p q (k+1) last mis:=by
 have up:∀j,j<k+1→j<k∨j=k:=fun j hj=>by omega
 refine⟨fun j hj a b c=>?_,fun hm=>?_,fun j hj a b=>?_,fun hl=>?_,fun i hi j hj hp=>?_⟩
 ·rcases up j hj with h1|rfl
  ·exact h.m1 j h1 a b c
  ·exact absurd ⟨a,b⟩ hk
 ·obtain⟨j,h1,h2⟩:=h.m2 hm;exact⟨j,by omega,h2⟩
 ·rcases up j hj with h1|rfl
  ·exact h.l1 j h1 a b
  ·exact absurd ⟨a,b⟩ hk
 ·obtain⟨j,h1,h2⟩:=h.l2 hl;exact⟨j,by omega,h2⟩
 ·rcases up i hi with h1|rfl
  ·exact h.g i h1 j hj hp
  ·have:((evp t p i).kind==2)=false:=by
    cases hh:(evp t p i).kind==2 with
    |false=>rfl
    |true=>exact absurd ⟨by simpa using hh,hp⟩ hk
   unfold dD;rw[this];simp
theorem FfI.miss {t:Tr} {p q k last:Nat} {mis:Bool} (h:FfI t p q k last mis) (h1:(evp t p k).kind=2) (h2:(evp t p k).peer=q) (h3:toI t p k=0):FfI t p q (k+1) last true:=by
 have up:∀j,j<k+1→j<k∨j=k:=fun j hj=>by omega
 refine⟨fun _ _ _ _ _=>rfl,fun _=>⟨k,by omega,h1,h2,h3⟩,fun j hj a b=>?_,fun hl=>?_,fun i hi j hj hp=>?_⟩
 ·rcases up j hj with g|rfl
  ·exact h.l1 j g a b
  ·omega
 ·obtain⟨j,g1,g2⟩:=h.l2 hl;exact⟨j,by omega,g2⟩
 ·rcases up i hi with g|rfl
  ·exact h.g i g j hj hp
  ·unfold dD;rw[h3];simp
theorem FfI.next {t:Tr} {p q k last:Nat} (h:FfI t p q k last false) (h1:(evp t p k).kind=2) (h2:(evp t p k).peer=q) (h3:toI t p k≠0) (h4:last≤toI t p k):FfI t p q (k+1) (toI t p k) false:=by
 have up:∀j,j<k+1→j<k∨j=k:=fun j hj=>by omega
 refine⟨fun j hj a b c=>?_,fun hm=>(by cases hm),fun j hj a b=>?_,fun hl=>⟨k,by omega,h1,h2,rfl⟩,fun i hi j hj hp=>?_⟩
 ·rcases up j hj with g|rfl
  ·exact h.m1 j g a b c
  ·exact absurd c h3
 ·rcases up j hj with g|rfl
  ·have:=h.l1 j g a b;omega
  ·exact ah _
 ·rcases up i hi with g|rfl
  ·exact h.g i g j hj hp
  ·unfold dD
   cases hk:(evp t p j).kind==2
   ·simp
   cases he:(evp t p j).peer==(evp t p i).peer
   ·simp
   have hk:(evp t p j).kind=2:=by simpa using hk
   have he:(evp t p j).peer=q:=by rw[←h2];simpa using he
   have hz:(toI t p j==0)=false:=by
    cases hq:toI t p j==0 with
    |false=>rfl
    |true=>exact absurd (h.m1 j hj hk he (by simpa using hq)) kS
   have:=h.l1 j hj hk he
   rw[hz,ak oM];simp
theorem FfI.bad {t:Tr} {p q k last:Nat} {mis:Bool} (h:FfI t p q k last mis) (h1:(evp t p k).kind=2) (h2:(evp t p k).peer=q) (h3:toI t p k≠0) (h4:mis=true∨toI t p k<last):∃j,j<k∧dD t p j k=true:=by
 rcases h4 with h4|h4
 ·obtain⟨j,g1,g2,g3,g4⟩:=h.m2 h4
  refine⟨j,g1,?_⟩
  unfold dD;rw[g2,g3,h1,h2,g4];simp[h3]
 ·obtain⟨j,g1,g2,g3,g4⟩:=h.l2 oM
  refine⟨j,g1,?_⟩
  unfold dD;rw[g2,g3,h1,h2,g4];simp[h3,h4]
theorem I9 {t:Tr} {m:Nat} (h:m<200):(zG t)[m*4+2+1]? = some (.int .i64 ((lE t 3 m).2:Int)):=by
 rw[mK oM]
 have:SZ t (m*4+2+1)=(lE t 3 m).2:=by
  unfold SZ;rw[show (m*4+2+1) % 4=3 by omega,show (m*4+2+1) / 4=m by omega];rfl
 rw[this]

theorem ZV (t:Tr) (hS:Small t) (hN:Nm t) (b l:List Row):ZA Tryz.prog 25 [.agg [.v (eT t)]] b l (fun r b' l'=>r=.v (.bool (pD t&&FQ t))∧b'=b∧l'=l):=by
 refine YJ ZA0 rfl ?_
 intro B hB hR _
 have hnp:=hS.np
 simp only[a_Fifo,eT,go_sem]
 refine AC _ _ _ _ _ _ (tN t hS hN _ _) ?_
 rintro r b' l' ⟨rfl,rfl,rfl⟩
 cases hv:pD t
 ·simp only[go_sem]
  exact wC (.inr rfl) rfl (.v _) hR hB ⟨rfl,rfl,rfl⟩
 simp only[go_sem]
 refine AC _ _ _ _ _ _ (ZFS t hS hN hv _ _) ?_
 rintro r b' l' ⟨rfl,rfl,rfl⟩
 obtain⟨lr,hlr⟩:∃lr,zG t=lr:=⟨_,rfl⟩
 have hll:lr.length=800:=by rw[←hlr];exact pK t
 simp only[idA,hlr]
 simp only[go_sem]
 refine sP (ι:=Nat) yR (fun i=>[(25,.v (.int .i64 i))]) (fun _=>[(zTA t),.live 0 2 [[.v (.int .i64 0),.v (.int .i64 0)]]])
  (fun p=>p≤t.length∧∀p',p'<p→∀(h:p'<t.length),∀i,i<t[p'].evs.length→∀j,j<i→dD t p' j i=false) (fun i=>t.length-i) 0 ⟨an _,fun p h=>by omega⟩ ?_ ?_
 ·simp only[yR,pF,AG,tI,nI,lF,jC,vC,aa,go_sem]
  exact KA.forget (by simp[Fgt])
 rintro p ⟨hp,h0⟩
 simp only[yR,pF,AG,tI,nI,lF,jC,vC,aa]
 by_cases Z0:p<t.length
 ·have YH:=hS.ne _ (ap Z0)
  simp (disch:=omega) only[go_sem]
  refine sP (ι:=Nat) vR (fun i=>[(31,.v (.int .i64 i))]) (fun _=>[(zTA t),.live 0 2 [[.v (.int .i64 0),.v (.int .i64 0)]]])
   (fun q=>q≤t.length∧∀i,i<t[p].evs.length→∀j,j<i→∀q':Nat,q'<q→(evp t p i).peer=q'→dD t p j i=false) (fun i=>t.length-i) 0 ⟨an _,fun i _ j _ q' h=>by omega⟩ ?_ ?_
  ·simp only[vR,pF,AG,tI,nI,lF,jC,vC]
   exact KA.forget (by simp[Fgt])
  rintro q ⟨hq,h1⟩
  simp only[vR,pF,AG,tI,nI,lF,jC,vC]
  by_cases j6:q<t.length
  ·simp (disch:=omega) only[ePr,go_sem]
   refine sP (ι:=Nat×Nat×Bool) EK (fun i=>[(8,.v (.int .i64 i.2.1)),(9,.v (.bool i.2.2)),(41,.v (.int .i64 i.1))]) (fun _=>[(zTA t),.live 0 2 [[.v (.int .i64 0),.v (.int .i64 0)]]])
    (fun i=>i.1≤t[p].evs.length∧FfI t p q i.1 i.2.1 i.2.2) (fun i=>t[p].evs.length-i.1) (0,0,false) ⟨an _,FfI.start t p q⟩ ?_ ?_
   ·simp only[EK,pF,AG,tI,nI,lF,jC,vC]
    exact KA.forget (by simp[Fgt])
   rintro⟨k,last,mis⟩ ⟨hk,hI⟩
   dsimp only at hk hI⊢
   simp only[EK,pF,AG,tI,nI,lF,jC,vC]
   by_cases YM:k<t[p].evs.length
   ·have yK:=ZHr Z0 YM
    have mI:∀last' mis',FfI t p q (k+1) last' mis'→(k+1)≤t[p].evs.length∧FfI t p q (k+1) last' mis':=fun _ _ h=>⟨YM,h⟩
    cases dV:t[p].evs[k].kind != 2
    case true =>
     simp (disch:=omega) only[eEv,dV,go_sem]
     refine⟨(k+1,last,mis),mI _ _ (hI.skip (by rw[yK];rintro⟨h,_⟩;rw[h]at dV;simp at dV)),by simp only;omega,?_⟩
     simp only[EK,pF,AG,tI,nI,lF,jC,vC]
     exact KA.round (by simp[Fgt]) rfl kL hR kL
    cases hp2:t[p].evs[k].peer != (q:Int)
    case true =>
     simp (disch:=omega) only[eEv,dV,hp2,go_sem]
     refine⟨(k+1,last,mis),mI _ _ (hI.skip (by rw[yK];rintro⟨_,h⟩;rw[h]at hp2;simp at hp2)),by simp only;omega,?_⟩
     simp only[EK,pF,AG,tI,nI,lF,jC,vC]
     exact KA.round (by simp[Fgt]) rfl kL hR kL
    have hkd:t[p].evs[k].kind=2:=by simpa using dV
    have hpd:t[p].evs[k].peer=q:=by simpa using hp2
    obtain⟨m,q2,hm,SW,_,_,_⟩:=sE (rK hv (p,k+1) (VE.2 ⟨Z0,by simp,by simp;omega⟩)) (by rw[dR Z0 YM,hkd];rfl)
    rw[dR Z0 YM]at hm
    have hto:toI t p k=(lE t 3 (m:Int)).2:=by unfold toI;rw[yK,hm]
    have bB:=I9 (t:=t) SW
    rw[hlr]at bB
    by_cases hz:toI t p k=0
    ·have hz2:((lE t 3 (m:Int)).2:Int)=0:=by omega
     simp (disch:=omega) only[eEv,dV,hp2,hm,bB,hz2,go_sem]
     refine⟨(k+1,last,true),mI _ _ (hI.miss (by rw[yK];exact hkd) (by rw[yK];exact hpd) hz),by simp only;omega,?_⟩
     simp only[EK,pF,AG,tI,nI,lF,jC,vC]
     exact KA.round (by simp[Fgt]) rfl kL hR kL
    ·have hz2:(((lE t 3 (m:Int)).2:Int)==0)=false:=by simp;omega
     cases hmi:mis
     case true =>
      simp (disch:=omega) only[eEv,dV,hp2,hm,bB,hz2,go_sem]
      obtain⟨j,g1,g2⟩:=hI.bad (by rw[yK];exact hkd) (by rw[yK];exact hpd) hz (.inl hmi)
      exact wC (.inr rfl) rfl (.v _) hR hB ⟨by rw[zS Z0 YM g1 g2];rfl,rfl,rfl⟩
     subst hmi
     by_cases hl:toI t p k<last
     ·have uT:decide (((lE t 3 (m:Int)).2:Int)<(last:Int))=true:=by simp;omega
      simp (disch:=omega) only[eEv,dV,hp2,hm,bB,hz2,uT,go_sem]
      obtain⟨j,g1,g2⟩:=hI.bad (by rw[yK];exact hkd) (by rw[yK];exact hpd) hz (.inr hl)
      exact wC (.inr rfl) rfl (.v _) hR hB ⟨by rw[zS Z0 YM g1 g2];rfl,rfl,rfl⟩
     ·have uT:decide (((lE t 3 (m:Int)).2:Int)<(last:Int))=false:=by simp;omega
      simp (disch:=omega) only[eEv,dV,hp2,hm,bB,hz2,uT,go_sem]
      refine⟨(k+1,toI t p k,false),mI _ _ (hI.next (by rw[yK];exact hkd) (by rw[yK];exact hpd) hz oM),by simp only;omega,?_⟩
      simp only[EK,hto,pF,AG,tI,nI,lF,jC,vC]
      exact KA.round (by simp[Fgt]) rfl kL hR kL
   ·simp (disch:=omega) only[go_sem]
    obtain rfl:k=t[p].evs.length:=by omega
    refine⟨q+1,⟨j6,fun i hi j hj q' hq' he=>?_⟩,by simp only;omega,?_⟩
    ·rcases cq q' q with h|h
     ·exact h1 i hi j hj q' h he
     ·obtain rfl:q'=q:=by omega
      exact hI.g i hi j hj he
    ·simp only[vR,pF,AG,tI,nI,lF,jC,vC]
     exact KA.forget (by simp[Fgt])
  ·simp (disch:=omega) only[go_sem]
   refine⟨p+1,⟨Z0,fun p' hp' h i hi j hj=>?_⟩,by simp only;omega,?_⟩
   ·rcases cq p' p with hh|hh
    ·exact h0 p' hh h i hi j hj
    ·obtain rfl:p'=p:=by omega
     cases hb:dD t p' j i with
     |false=>rfl
     |true =>
       have RO:=hb
       unfold dD at RO
       simp only[ar,beq_iff_eq]at RO
       obtain⟨_,q2,_,_,MN,hq3,_⟩:=sE (rK hv (p',i+1) (VE.2 ⟨Z0,by simp,by simp;omega⟩)) (by have:=RO.2.1;unfold evp at this;rw[this];rfl)
       rw[h1 i hi j hj q2 oM (by unfold evp;exact MN)]at hb;cases hb
   ·simp only[yR,pF,AG,tI,nI,lF,jC,vC,aa]
    exact KA.forget (by simp[Fgt])
 ·simp (disch:=omega) only[go_sem]
  exact wC (.inr rfl) rfl (.v _) hR hB ⟨by rw[OU (fun p' hp' i hi j hj=>h0 p' oM hp' i hi j hj)];rfl,rfl,rfl⟩
theorem CutIn.ok {t:Tr} {cs:List Int} (h:CutIn t cs) (hS:Small t):CutOk t cs:=⟨h.len,hS.np,hS.nv,hS.ne,hS.na,h.le⟩

structure Cutt (t:Tr) (cs:List Int):Prop where
 v:Vok t
 len:cs.length=t.length
 rng:∀p,p<t.length→0≤cAt cs p∧cAt cs p≤(sA t p).length
 ok:∀x∈ids t,(rA t x).kind=3→(x.2:Int)≤cAt cs x.1→((UK t x).2:Int)≤cAt cs (UK t x).1
def cN (cs:List Int) (p:Nat):Nat:=(cAt cs p).toNat
section
variable {t:Tr} {cs:List Int} (h:Cutt t cs)
include h
end
theorem vF {t:Tr} (h:Vok t):pD t=true:=by
 unfold pD DF
 have h1:¬(t.length<1∨8<t.length):=by have:=h.lo;have:=h.hi;omega
 rw[if_neg h1]
 have h2:(List.range t.length).find? (fun p=>gE t p != 0)=none:=by
  rw[dg];intro p hp;rw[h.head p (bc.1 hp)];simp
 have h3:(ids t).find? (fun x=>mE t x != 0)=none:=by
  rw[dg];intro x hx;rw[h.form x hx];simp
 have h4:(ids t).find? (fun x=>UF t x != 0)=none:=by
  rw[dg];intro x hx;rw[h.pair x hx];simp
 simp only[h2,h3,h4]
 split
 ·rename_i x hx
  have:=gg hx
  have hm:=ge hx
  exact absurd (by simpa using this) (h.acyc x hm)
 ·rfl
end Go.Proofs.YtadnnjchehjbiaaGreatDoor
