/- Texts of one proof, laid together: B5, DP, B6, B9, BA, CQ, BB, B7, HA, OD, VS, BC, B0, BD, RR, RS, RT, RX, RY, RZ, R0, R1, PA, PE, PD, PK. No condition. -/
import Derived.Test.YtmaokjojbjdpoaaGreatDoorWR5
import Derived.WalkKit
import Derived.KernelRfl
set_option linter.unusedSimpArgs false
set_option maxHeartbeats 16000000
set_option maxRecDepth 100000
namespace Go.Proofs.YtmaokjojbjdpoaaGreatDoor
set_option maxHeartbeats 16000000
set_option maxRecDepth 100000
set_option linter.unusedVariables false
set_option linter.unusedSimpArgs false
open Go.RowKit Go.Extern.Stop Go.Stop Go.Extern
def dgt (n:Nat):ByteArray:=⟨#[UInt8.ofNat (48+n)]⟩
theorem ZJS (n:Nat) (hn:n≤7) (w:World):Calls Tryz.prog 195 #[.int .i64 n] w fun e w'=>e=.returned (.string (dgt n))∧w'=w:=by
 obtain rfl|rfl|rfl|rfl|rfl|rfl|rfl|rfl:n=0∨n=1∨n=2∨n=3∨n=4∨n=5∨n=6∨n=7:=by omega
 all_goals
  go_enter Tryz.func195,Tryz.ntmps195
  go_wp2
  go_ret
  exact⟨rfl,rfl⟩
theorem ZH1 (n:Nat) (hn:n≤7) (w:World):Calls Tryz.prog 185 #[.int .i64 n,.int .i64 10] w fun e w'=>e=.returned (.string (dgt n))∧w'=w:=by
 have S:=ZJS n hn w
 obtain rfl|rfl|rfl|rfl|rfl|rfl|rfl|rfl:n=0∨n=1∨n=2∨n=3∨n=4∨n=5∨n=6∨n=7:=by omega
 all_goals
  go_enter Tryz.func185,Tryz.ntmps185
  go_wp2_with (go_at_call 195;refine S.mono ?_;rintro e w' ⟨rfl,rfl⟩)
  go_ret
  exact⟨rfl,rfl⟩
theorem ZJd (n:Nat) (hn:n≤7) (w:World):Calls Tryz.prog 165 #[.int .i64 n] w fun e w'=>e=.returned (.string (dgt n))∧w'=w:=by
 have S:=ZH1 n hn w
 go_enter Tryz.func165,Tryz.ntmps165
 go_wp2_with (go_at_call 185;refine S.mono ?_;rintro e w' ⟨rfl,rfl⟩)
 go_ret
 exact⟨rfl,rfl⟩
theorem itoa8 (n:Nat) (hn:n≤7) (w:World):Calls Tryz.prog 133 #[.int .i64 n] w fun e w'=>e=.returned (.string (dgt n))∧w'=w:=by
 have S:=ZJd n hn w
 go_enter Tryz.func133,Tryz.ntmps133
 go_wp2_with (go_at_call 165;refine S.mono ?_;rintro e w' ⟨rfl,rfl⟩)
 go_ret
 exact⟨rfl,rfl⟩
theorem ZBo (n:Nat) (hn:n≤7) (b l:List Row):QA Tryz.prog 133 [.v (.int .i64 n)] b l (fun r b' l'=>r=.v (.str (dgt n))∧b'=b∧l'=l):=by
 refine QA.of_ext ⟨_,Tryz.func133,by kernel_rfl,by kernel_rfl⟩ (fun F L w vs hr=>?_)
 obtain⟨u,us,h1,h2,h3⟩:=VE hr
 have:=yG h3
 subst this
 obtain rfl:vs=#[u]:=gj.1 (by rw[h1])
 cases h2.vI
 refine (itoa8 n hn w).mono ?_
 rintro e w' ⟨rfl,rfl⟩
 exact⟨Ext.refl _,_,_,rfl,.v _ _ (.str _),rfl,rfl,rfl⟩
end Go.Proofs.YtmaokjojbjdpoaaGreatDoor
namespace Go.Proofs.YtmaokjojbjdpoaaGreatDoor
set_option linter.unusedVariables false
def Pln (x:AV):Prop:=∀(w:World) (F:Nat→Prop) (L:LMap) (w':World) (F':Nat→Prop) (L':LMap) (v:Value),RepA w F L x v→RepA w' F' L' x v
theorem Pln.int {k:IntKind} {n:Int}:Pln (.v (.int k n)):=fun w F L w' F' L' v h=>by
 cases h.vI;exact .v _ _ (.int _ _)
theorem Pln.bool {t:Bool}:Pln (.v (.bool t)):=fun w F L w' F' L' v h=>by
 cases h.vI;exact .v _ _ (.bool _)
theorem Pln.str {t:ByteArray}:Pln (.v (.str t)):=fun w F L w' F' L' v h=>by
 cases h.vI;exact .v _ _ (.str _)
theorem Pln.agg {cs:List AV} (hc:∀c∈cs,Pln c):Pln (.agg cs):=fun w F L w' F' L' v h=>by
 obtain⟨us,rfl,hu⟩:=h.aggL
 exact GA.agg ⟨hu.1,fun j d u hd hju=>hc d (ci hd) w F L w' F' L' u (hu.2 j d u hd hju)⟩
theorem Pln.tup {cs:List AV} (hc:∀c∈cs,Pln c):Pln (.tup cs):=fun w F L w' F' L' v h=>by
 obtain⟨us,rfl,hu⟩:=h.tupL
 exact GA.tup ⟨hu.1,fun j d u hd hju=>hc d (ci hd) w F L w' F' L' u (hu.2 j d u hd hju)⟩
theorem QA.peek {P:Program} {f:Nat} {args args':List AV} {b l:List Row} {x:AV} (hl:args.length=args'.length)
  (hd:∀(i:Nat) (z y:AV),args[i]? = some z→args'[i]? = some y→Dv 0 (b++l) z y) (hx:Pln x)
  (h:QA P f args' ((b++l).map WF) [] (fun r b' l'=>r=x∧b'=(b++l).map WF∧l'=[])):QA P f args b l (fun r b' l'=>r=x∧b'=b∧l'=l):=by
 refine⟨h.1,fun F L w us s hr=>?_⟩
 obtain⟨H,hH⟩:∃H,H=b++l:=⟨_,rfl⟩
 rw[←hH]at s hd h
 have s0:Sim F L ([]++H) w:=s
 have hget:∀{j v z:Nat} {els:List (List AV)},(H.map WF++[])[j]? = some (.live v z els)→False:=fun {j v z els} hj=>by
  rw[ct,an]at hj
  cases hq:H[j]? with
  |none=>rw[hq]at hj;cases hj
  |some r=>rw[hq]at hj;cases hj
 have VP:∀k,¬DC L (H.map WF++[]) k:=by
  rintro k ⟨j,v,z,els,q,h1,h2,h3⟩
  exact hget h1
 have s1:Sim (FD F L 0 H) L (H.map WF++[]) w:=by
  refine⟨fun j v z els hj=>(hget hj).elim,fun j v q hq=>?_,fun j j' v v' z z' e1 e2 bb q1 q2 h1 h2=>(hget h1).elim,fun k hk=>⟨?_,VP k⟩,s.glob.mono (fun _ h=>.inl h) (fun _ _=>rfl)⟩
  ·obtain⟨r,h1,h2⟩:=s.born j v q hq
   exact⟨WF r,by rw[ct,an,h1];rfl,h2⟩
  ·rcases hk with hk|⟨i,ver,sz,els,q,h1,h2,h3⟩
   ·exact (s.imm k hk).1
   ·rw[cn]at h2
    obtain⟨q',g1,g2⟩:=s.row _ _ _ _ h1
    rw[h2]at g1;cases g1
    exact g2.lt h3
 have aW:GA w (FD F L 0 H) L args' us.toList:=⟨by rw[←hl];exact hr.1,fun j y v hy hv=>by
  have M9:=(am.1 hy).1
  have hx:args[j]? = some args[j]:=ah oM
  exact (hd j _ y hx hy).rep s0 v (hr.2 j _ v hx hv)⟩
 refine Calls.mono (h.2 _ L w us s1 aW) ?_
 rintro en w' ⟨v,x',b',l',F2,L2,h1,h2,h3,h4,h5,rfl,rfl,rfl⟩
 have bR:∀k,k<w.heap.size→w'.heap[k]? = w.heap[k]?:=fun k hk=>h4.block k hk (VP k)
 have ZLt:∀k,F k→w'.heap[k]? = w.heap[k]?:=fun k hk=>bR k (s.imm k hk).1
 subst hH
 refine⟨v,x',b,l,F,L,h1,hx _ _ _ _ _ _ _ h2,⟨fun j ver z els hj=>?_,s.born,s.apart,fun k hk=>⟨fe (s.imm k hk).1 h4.size,(s.imm k hk).2⟩,s.glob.mono (fun _ h=>h) ZLt⟩,
  ⟨fun _ h=>h,fun _ _ _ _ h=>h,h4.os,h4.tape,h4.output,h4.size,fun k hk _=>bR k hk,fun _ _ h=>h,fun _ _ _ h=>h,fun _ _ h=>.inl h⟩,rfl,rfl,rfl,rfl⟩
 obtain⟨q,g1,g2⟩:=s.row j ver z els hj
 exact⟨q,g1,g2.mono (fun k hk=>bR k (g2.lt hk)) (fun _ _ h=>h.mono (fun _ h=>h) ZLt (fun _ _ _ h=>h))⟩
set_option linter.unusedSimpArgs false
attribute [local go_sem ↓] xC UB iC rC wD fB uC gD dC mD LA lB wC MA mB kC QB GB lC KB FA sC eB bB vB aB yB JC nB xD tC uD iD eE pD bE aE TB ZC
attribute [local go_sem] zB EA YE wB ZB fE tD sD rD KL zL nD nC pC mC YD lA UC AA VC CA qB aop AE QE TD LC MD GC LD AJ XG GF amm zF aC MB sF SD IF comma ZD QG EJ ZG AF wJ dF uF vE yJ eqC eqF aG cellsOf rB bC RB iF NI rd rdI IE mk fD AV.cell List.all_cons List.all_nil Bool.and_true Bool.true_and Bool.and_self List.length_cons List.length_nil List.length_append Nat.reduceAdd Nat.reduceSub Nat.reduceMul Nat.zero_add Nat.add_zero List.cons_append List.nil_append List.append_assoc List.append_nil List.getElem?_cons_zero List.getElem?_cons_succ List.getElem?_nil List.set_cons_zero List.set_cons_succ List.drop_zero List.drop_succ_cons List.take_zero List.take_succ_cons List.take_nil List.drop_nil List.map_cons List.map_nil Option.map_some if_true if_false Bool.false_eq_true and_self true_and and_true Nat.reduceLeDiff Nat.reduceLT Nat.le_refl Nat.reduceEqDiff ite_true ite_false beq_self_eq_true beq_true beq_false Bool.not_true Bool.not_false Bool.true_beq Bool.false_beq lE SB iB jD kD yC vC jC qC yD vD mE pA YL sK JL XL rG iG sG dG geI gtI tG decide_true decide_false room List.getElem?_map List.length_map List.length_take Int.toNat_natCast Nat.min_def Nat.min_self dD XD ED pB GD lF zA List.getElem_cons_zero List.getElem_cons_succ
def a_wvars:AFunc:=⟨1,23,[.tmp 2],(.seq (.region [⟨some 2,.mv (.c (.v .zsl)),none⟩]) (.seq (.region [⟨some 3,.mv (.c (.v .zsl)),none⟩]) (.seq (.seq (.region [oA 6 0,oF 7 6,⟨some 8,.mv (.c (.v (.int .i64 0))),none⟩]) (.block 0 (.loop (.seq (.region [⟨some 9,.bin .lss (.t 8) (.t 7),none⟩]) (.seq (.cond (.t 9) .skip (.exit 0)) (.seq (.block 1 (.seq (.region [oA 10 8,oE 11 1 6 8,oC 12 11,oA 4 10,oA 5 12]) (.region [oA 13 3,oA 14 4,⟨some 15,.call (.c (.fn 133 [])) [(.t 14)],none⟩,⟨some 16,.binS .add (.c (.v (.str ⟨#[118]⟩))) (.t 15),none⟩,oA 17 5,⟨some 18,.build [(.v (.str ⟨#[]⟩)),(.v (.int .i64 0))] [(0,1,(.t 16)),(1,1,(.t 17))],none⟩,⟨some 19,.bslice 2 [(.v (.str ⟨#[]⟩)),(.v (.int .i64 0))] 1 [(0,(.t 18))],none⟩,⟨some 20,.append 2 24 (.t 13) (.t 19),none⟩,oA 3 20]))) (.region [⟨some 21,.bin .add (.t 8) (.c (.v (.int .i64 1))),none⟩,oA 8 21]))))))) (.seq (.region [oA 22 3,oA 2 22]) .ret))))⟩
theorem x7:qA Tryz.prog 83=some a_wvars:=by kernel_rfl
def G1:List (Nat×Nat):=[(3,5),(8,21)]
def a_r54VN:AFunc:=⟨1,9,[.tmp 2],(.seq (.region [⟨some 2,.mv (.c (.v (.str ⟨#[]⟩))),none⟩]) (.seq (.region [oA 3 0,⟨some 4,.bin .add (.c (.v (.int .i64 48))) (.t 3),none⟩,⟨some 5,.conv .u8 (.t 4),none⟩,⟨some 6,.bslice 1 [(.v (.int .u8 0))] 1 [(0,(.t 5))],none⟩,⟨some 7,.tostr (.t 6),none⟩,⟨some 8,.binS .add (.c (.v (.str ⟨#[118]⟩))) (.t 7),none⟩,oA 2 8]) .ret))⟩
theorem Z8:qA Tryz.prog 108=some a_r54VN:=by kernel_rfl
def a_r54final:AFunc:=({c:=_}:CF Tryz.prog 107).c
theorem tU:qA Tryz.prog 107=some a_r54final:=by kernel_rfl
def gQ:List (Nat×Nat):=[(3,4),(7,22)]
def wQ:List (Nat×Nat):=[(5,6),(23,62)]
def yQ:List (Nat×Nat):=[(6,6),(30,62)]

def qH (i:Nat):ByteArray:=⟨#[118,UInt8.ofNat (48+i)]⟩
def wVr (l:List Int) (i:Nat):Vr:=⟨qH i,l.getD i 0⟩
def nN (l:List Int):List Vr:=fl l.length (wVr l)
theorem P0 (i:Nat):(⟨#[118]⟩:ByteArray)++dgt i=qH i:=rfl
theorem tI {l:List Int}:(nN l).length=l.length:=xA
theorem ZER (l:List Int) (i:Nat):(fl i (wVr l)).map eVr++[[.str (qH i),.int .i64 (l.getD i 0)]]=(fl (i+1) (wVr l)).map eVr:=by
 have h:fl (i+1) (wVr l)=fl i (wVr l)++[wVr l i]:=by unfold fl;rw[fw,bh];rfl
 rw[h,bh];rfl
theorem zS (l0:List Int) (h8:l0.length≤8) (b l:List Row):QA Tryz.prog 83 [.v (.isl 1 (l0.map eI))] b l (fun r b' l'=>r=.v (.isl 2 ((nN l0).map eVr))∧b'=b∧l'=l):=by
 refine XA x7 rfl kE ?_
 intro B g hB hR hE hA;simp only[zA]at hA
 simp (disch:=first|decide|omega) only[a_wvars,hA,aa,go_sem]
 refine QF (ι:=Nat) 3 2 G1 (fun i=>[(8,.v (.int .i64 i)),(3,.sl B.length i 0 i)]) 1 (fun i=>[.live i 2 (vs ((fl i (wVr l0)).map eVr))])
  (fun i=>i≤l0.length) (fun i=>l0.length-i) 0 (aj _) (by simp (disch:=first|decide|omega) only[hA,go_sem]) kE rfl kM kA kF ?_
 intro g1 qF TE sA i hi
 by_cases yA:i<l0.length
 ·have QI:=IC yA
  have F9:((fl i (wVr l0)).map eVr).length=i:=by rw[aa,xA]
  have htk:((fl i (wVr l0)).map eVr).take i=(fl i (wVr l0)).map eVr:=bo (by rw[F9];omega)
  have hn:=P0 i
  simp (disch:=first|decide|omega) only[hA,sA,QI,F9,go_sem]
  refine QA.nxt (ZBo i oM _ _) ?_
  have NN:((#[118]:Array UInt8).size+(dgt i).size≤9223372036854775807)=True:=eq_true (by show 1+1≤_;omega)
  simp (disch:=first|decide|omega) only[hA,sA,QI,hn,NN,dB,F9,htk,ZER,aa,go_sem]

  refine⟨i+1,yA,by simp only;omega,?_⟩
  exact VA.kround (p:=G1) (k:=1) kQ kA rfl qF kS kV hR kL
 ·obtain rfl:i=l0.length:=by omega
  have F9:((fl l0.length (wVr l0)).map eVr).length=l0.length:=by rw[aa,xA]
  simp (disch:=first|decide|omega) only[hA,sA,aa,go_sem]
  exact mP (i:=0) (ver:=l0.length) (sz:=2) (n:=l0.length) (rows:=(fl l0.length (wVr l0)).map eVr) (.inr rfl) kR rfl F9.symm hR hB ⟨rfl,rfl,rfl⟩
theorem U6 (i:Nat) (hi:i≤7) (b l:List Row):QA Tryz.prog 108 [.v (.int .i64 i)] b l (fun r b' l'=>r=.v (.str (qH i))∧b'=b∧l'=l):=by
 refine XA Z8 rfl kE ?_
 intro B g hB hR hE hA;simp only[zA]at hA
 have hw:IntKind.i64.wrap (48+(i:Int))=((48+i:Nat):Int):=by rw[pA oM oM];omega
 have hw8:IntKind.u8.wrap ((48+i:Nat):Int)=((48+i:Nat):Int):=by
  obtain rfl|rfl|rfl|rfl|rfl|rfl|rfl|rfl:i=0∨i=1∨i=2∨i=3∨i=4∨i=5∨i=6∨i=7:=by omega
  all_goals rfl
 have hnu:QR [[AV.v (.int .u8 ((48+i:Nat):Int))]]=some [((48+i:Nat):Int)]:=rfl
 have ZF:VY [((48+i:Nat):Int)]=dgt i:=by
  obtain rfl|rfl|rfl|rfl|rfl|rfl|rfl|rfl:i=0∨i=1∨i=2∨i=3∨i=4∨i=5∨i=6∨i=7:=by omega
  all_goals rfl
 have hn:=P0 i
 have NN:((#[118]:Array UInt8).size+(dgt i).size≤9223372036854775807)=True:=eq_true (by show 1+1≤_;omega)
 simp (disch:=first|decide|omega) only[a_r54VN,hA,hw,hw8,dB,hnu,ZF,hn,NN,go_sem]
 exact ZA (xs:=[.v (.str (qH i))])
def apA (v:List Int) (a:Asg):List Int:=v.set a.v.toNat a.val
def yN (v:List Int) (l:List Asg) (j:Nat):List Int:=(l.take j).foldl apA v
def apE (v:List Int) (e:Ev):List Int:=yN v e.asg e.asg.length
def stV (p:Pr):Nat→List Int
 |0=>p.vars.map (·.init)
 |k+1=>apE (stV p k) (p.evs.getD k PI)
def rM (p:Pr):List Int:=stV p p.evs.length
def OkA (p:Pr):Prop:=∀e∈p.evs,∀a∈e.asg,0≤a.v∧a.v<p.vars.length
theorem YT:∀(l:List Asg) (v:List Int),(l.foldl apA v).length=v.length
 |[],v=>rfl
 |a::l,v=>by rw[ku,YT l];unfold apA;simp
theorem bM {v:List Int} {l:List Asg} {j:Nat}:(yN v l j).length=v.length:=YT _ _
theorem sW {v:List Int} {l:List Asg} {j:Nat} (h:j<l.length):yN v l (j+1)=(yN v l j).set l[j].v.toNat l[j].val:=by
 unfold yN
 rw[jF h,List.foldl_append];rfl
theorem nG {p:Pr}:∀k,(stV p k).length=p.vars.length
 |0=>by simp[stV]
 |k+1=>by simp only[stV,apE,bM];exact nG k
theorem ZS {l:List Vr} {i:Nat} (h:i<l.length):(l.map eVr)[i]? = some [.str l[i].name,.int .i64 l[i].init]:=by
 rw[an,ah h];rfl
theorem zH {l:List Ev} {i:Nat} (h:i<l.length):(l.map eEv)[i]? = some [.int .i64 l[i].kind,.int .i64 l[i].peer,.int .i64 l[i].msg,.int .i64 l[i].time,.isl 2 (l[i].asg.map eAsg)]:=by
 rw[an,ah h];rfl
theorem Y4 {l:List Asg} {i:Nat} (h:i<l.length):(l.map eAsg)[i]? = some [.int .i64 l[i].v,.int .i64 l[i].val]:=by
 rw[an,ah h];rfl
structure PrS (p:Pr):Prop where
 nv:p.vars.length≤1000000
 ne:p.evs.length≤1000000
 na:∀e∈p.evs,e.asg.length≤1000000
def rK (p:Pr):Row:=.live 0 3 [[.v (.str p.name),.v (.isl 2 (p.vars.map eVr)),.v (.isl 5 (p.evs.map eEv))]]
theorem kU (p:Pr) (hS:PrS p) (hO:OkA p) (b l:List Row):QA Tryz.prog 107 [.agg [.v (.str p.name),.v (.isl 2 (p.vars.map eVr)),.v (.isl 5 (p.evs.map eEv))]] b l (fun r b' l'=>r=.v (.isl 1 ((rM p).map eI))∧b'=b∧l'=l):=by
 refine XA tU rfl kE ?_
 intro B g hB hR hE hA;simp only[zA]at hA
 have hnv:=hS.nv
 have qG:=hS.ne
 simp (disch:=first|decide|omega) only[a_r54final,hA,aa,go_sem]
 refine QF (ι:=Nat) 3 1 gQ (fun i=>[(4,.v (.int .i64 i)),(3,.sl (B.length+1) i 0 i)]) 2 (fun i=>[rK p,.live i 1 (vs (((p.vars.take i).map (·.init)).map eI))])
  (fun i=>i≤p.vars.length) (fun i=>p.vars.length-i) 0 (aj _) (by simp (disch:=first|decide|omega) only[hA,go_sem]) kE rfl kM kA kF ?_
 intro g1 qF TE sA i hi
 unfold rK
 by_cases yA:i<p.vars.length
 ·have QI:=ZS yA
  have F9:(((p.vars.take i).map (·.init)).map eI).length=i:=by rw[aa,aa,bg];omega
  have htk:(((p.vars.take i).map (·.init)).map eI).take i=((p.vars.take i).map (·.init)).map eI:=bo (by rw[F9];omega)
  have S0:((p.vars.take i).map (·.init)).map eI++[[.int .i64 p.vars[i].init]]=((p.vars.take (i+1)).map (·.init)).map eI:=by rw[jF yA,bh,bh];rfl
  simp (disch:=first|decide|omega) only[hA,sA,QI,dB,F9,htk,S0,aa,go_sem]
  refine⟨i+1,yA,by simp only;omega,?_⟩
  exact VA.kround (p:=gQ) (k:=2) kQ kA rfl qF kS kV hR kL
 obtain rfl:i=p.vars.length:=by omega
 obtain⟨n,hn⟩:∃n,n=p.vars.length:=⟨_,rfl⟩
 have h0:(p.vars.take p.vars.length).map (·.init)=stV p 0:=by rw[io];rfl
 rw[h0]
 simp (disch:=first|decide|omega) only[hA,sA,aa,go_sem]
 refine JA (ι:=Nat) wQ (fun k=>[(5,.v (.int .i64 k))]) 2 (fun k=>[rK p,.live p.vars.length 1 (vs ((stV p k).map eI))])
  (fun k=>k≤p.evs.length) (fun k=>p.evs.length-k) 0 (aj _) kM kA kF ?_
 intro g2 RJ QO DD k hk
 unfold rK
 by_cases yA:k<p.evs.length
 case neg =>
  obtain rfl:k=p.evs.length:=by omega
  have F9:((stV p p.evs.length).map eI).length=p.vars.length:=by rw[aa,nG]
  simp (disch:=first|decide|omega) only[hA,sA,DD,aa,go_sem]
  exact mP (i:=1) (ver:=p.vars.length) (sz:=1) (n:=p.vars.length) (rows:=(stV p p.evs.length).map eI) (.inr rfl) kR rfl F9.symm hR hB ⟨rfl,rfl,rfl⟩
 have yH:=zH yA
 obtain⟨e,he⟩:∃e,p.evs[k]=e:=⟨_,rfl⟩
 rw[he]at yH
 have hme:e∈p.evs:=by rw[←he];exact ak yA
 have hna:=hS.na e hme
 have ZF:stV p (k+1)=yN (stV p k) e.asg e.asg.length:=by simp only[stV,apE,YA yA,he]
 simp (disch:=first|decide|omega) only[hA,sA,DD,yH,aa,go_sem]
 refine JA (ι:=Nat) yQ (fun j=>[(6,.v (.int .i64 j))]) 2 (fun j=>[rK p,.live p.vars.length 1 (vs ((yN (stV p k) e.asg j).map eI))])
  (fun j=>j≤e.asg.length) (fun j=>e.asg.length-j) 0 (aj _) kM kA kF ?_
 intro g3 bW xR QH j hj
 unfold rK
 by_cases lJ:j<e.asg.length
 ·have hga:=Y4 lJ
  have hv:=hO e hme e.asg[j] (ak lJ)
  have F9:((yN (stV p k) e.asg j).map eI).length=p.vars.length:=by rw[aa,bM,nG]
  obtain⟨q,hq⟩:∃q:Nat,e.asg[j].v=q:=⟨e.asg[j].v.toNat,by omega⟩
  have hqn:q<p.vars.length:=by omega
  have hqg:((yN (stV p k) e.asg j).map eI)[q]? = some [.int .i64 ((yN (stV p k) e.asg j).getD q 0)]:=IC (by rw[bM,nG];exact hqn)
  have pK:((yN (stV p k) e.asg j).map eI).set q [.int .i64 e.asg[j].val]=(yN (stV p k) e.asg (j+1)).map eI:=by rw[sW lJ,hq,ca,fa];rfl
  simp (disch:=first|decide|omega) only[hA,sA,DD,QH,yH,hga,hq,hqg,pK,F9,aa,go_sem]
  refine⟨j+1,lJ,by simp only;omega,?_⟩
  exact VA.kround (p:=yQ) (k:=2) kQ kA rfl bW kS kV hR kL
 ·obtain rfl:j=e.asg.length:=by omega
  simp (disch:=first|decide|omega) only[hA,sA,DD,QH,yH,aa,go_sem]
  refine⟨k+1,yA,by simp only;omega,?_⟩
  rw[←ZF]
  exact VA.kround (p:=wQ) (k:=2) kQ kA rfl RJ kS kV hR kL
open Go.RowKit
def a_wst1:AFunc:=({c:=_}:CF Tryz.prog 164).c
theorem ZKD:qA Tryz.prog 164=some a_wst1:=by kernel_rfl
def ZAL:List (Nat×Nat):=[(3,3),(5,5),(13,22)]
def pG:List (Nat×Nat):=[(6,7),(9,9),(31,57)]
def ZAK:List (Nat×Nat):=[(9,9),(39,49)]

theorem rA {α:Type} {T:List α} {n:Nat} (h:T.length=n+1):∃a U,T=a::U∧U.length=n:=by
 cases T with
 |nil=>cases h
 |cons a U=>exact⟨a,U,rfl,by simpa using h⟩
theorem ZIP {α:Type} (T:List α) (h:T.length=58):∃v0 v1 v2 v3 v4 v5 v6 v7 v8 v9 v10 v11 v12 v13 v14 v15 v16 v17 v18 v19 v20 v21 v22 v23 v24 v25 v26 v27 v28 v29 v30 v31 v32 v33 v34 v35 v36 v37 v38 v39 v40 v41 v42 v43 v44 v45 v46 v47 v48 v49 v50 v51 v52 v53 v54 v55 v56 v57:α,T=[v0,v1,v2,v3,v4,v5,v6,v7,v8,v9,v10,v11,v12,v13,v14,v15,v16,v17,v18,v19,v20,v21,v22,v23,v24,v25,v26,v27,v28,v29,v30,v31,v32,v33,v34,v35,v36,v37,v38,v39,v40,v41,v42,v43,v44,v45,v46,v47,v48,v49,v50,v51,v52,v53,v54,v55,v56,v57]:=by
 obtain⟨v0,T0,rfl,h0⟩:=rA h
 obtain⟨v1,T1,rfl,h1⟩:=rA h0
 obtain⟨v2,T2,rfl,h2⟩:=rA h1
 obtain⟨v3,T3,rfl,h3⟩:=rA h2
 obtain⟨v4,T4,rfl,h4⟩:=rA h3
 obtain⟨v5,T5,rfl,h5⟩:=rA h4
 obtain⟨v6,T6,rfl,h6⟩:=rA h5
 obtain⟨v7,T7,rfl,h7⟩:=rA h6
 obtain⟨v8,T8,rfl,h8⟩:=rA h7
 obtain⟨v9,T9,rfl,h9⟩:=rA h8
 obtain⟨v10,T10,rfl,h10⟩:=rA h9
 obtain⟨v11,T11,rfl,h11⟩:=rA h10
 obtain⟨v12,T12,rfl,h12⟩:=rA h11
 obtain⟨v13,T13,rfl,h13⟩:=rA h12
 obtain⟨v14,T14,rfl,h14⟩:=rA h13
 obtain⟨v15,T15,rfl,h15⟩:=rA h14
 obtain⟨v16,T16,rfl,h16⟩:=rA h15
 obtain⟨v17,T17,rfl,h17⟩:=rA h16
 obtain⟨v18,T18,rfl,h18⟩:=rA h17
 obtain⟨v19,T19,rfl,h19⟩:=rA h18
 obtain⟨v20,T20,rfl,h20⟩:=rA h19
 obtain⟨v21,T21,rfl,h21⟩:=rA h20
 obtain⟨v22,T22,rfl,h22⟩:=rA h21
 obtain⟨v23,T23,rfl,h23⟩:=rA h22
 obtain⟨v24,T24,rfl,h24⟩:=rA h23
 obtain⟨v25,T25,rfl,h25⟩:=rA h24
 obtain⟨v26,T26,rfl,h26⟩:=rA h25
 obtain⟨v27,T27,rfl,h27⟩:=rA h26
 obtain⟨v28,T28,rfl,h28⟩:=rA h27
 obtain⟨v29,T29,rfl,h29⟩:=rA h28
 obtain⟨v30,T30,rfl,h30⟩:=rA h29
 obtain⟨v31,T31,rfl,h31⟩:=rA h30
 obtain⟨v32,T32,rfl,h32⟩:=rA h31
 obtain⟨v33,T33,rfl,h33⟩:=rA h32
 obtain⟨v34,T34,rfl,h34⟩:=rA h33
 obtain⟨v35,T35,rfl,h35⟩:=rA h34
 obtain⟨v36,T36,rfl,h36⟩:=rA h35
 obtain⟨v37,T37,rfl,h37⟩:=rA h36
 obtain⟨v38,T38,rfl,h38⟩:=rA h37
 obtain⟨v39,T39,rfl,h39⟩:=rA h38
 obtain⟨v40,T40,rfl,h40⟩:=rA h39
 obtain⟨v41,T41,rfl,h41⟩:=rA h40
 obtain⟨v42,T42,rfl,h42⟩:=rA h41
 obtain⟨v43,T43,rfl,h43⟩:=rA h42
 obtain⟨v44,T44,rfl,h44⟩:=rA h43
 obtain⟨v45,T45,rfl,h45⟩:=rA h44
 obtain⟨v46,T46,rfl,h46⟩:=rA h45
 obtain⟨v47,T47,rfl,h47⟩:=rA h46
 obtain⟨v48,T48,rfl,h48⟩:=rA h47
 obtain⟨v49,T49,rfl,h49⟩:=rA h48
 obtain⟨v50,T50,rfl,h50⟩:=rA h49
 obtain⟨v51,T51,rfl,h51⟩:=rA h50
 obtain⟨v52,T52,rfl,h52⟩:=rA h51
 obtain⟨v53,T53,rfl,h53⟩:=rA h52
 obtain⟨v54,T54,rfl,h54⟩:=rA h53
 obtain⟨v55,T55,rfl,h55⟩:=rA h54
 obtain⟨v56,T56,rfl,h56⟩:=rA h55
 obtain⟨v57,T57,rfl,h57⟩:=rA h56
 obtain rfl:=cq h57
 exact⟨v0,v1,v2,v3,v4,v5,v6,v7,v8,v9,v10,v11,v12,v13,v14,v15,v16,v17,v18,v19,v20,v21,v22,v23,v24,v25,v26,v27,v28,v29,v30,v31,v32,v33,v34,v35,v36,v37,v38,v39,v40,v41,v42,v43,v44,v45,v46,v47,v48,v49,v50,v51,v52,v53,v54,v55,v56,v57,rfl⟩
def s1A:ACode:=.region [⟨(some 3),.mv (.c (.v .zsl)),none⟩]
def s1V:ACode:=.seq (.region [⟨(some 10),.faddr 1 (.t 1),none⟩,⟨(some 11),.load none (.t 10),none⟩,⟨(some 12),.len (.t 11),none⟩,⟨(some 13),.mv (.c (.v (.int .i64 0))),none⟩])
 (.block 0 (.loop (.seq (.region [⟨(some 14),.bin .lss (.t 13) (.t 12),none⟩])
 (.seq (.cond (.t 14) .skip
 (.exit 0))
 (.seq (.block 1 (.seq (.region [⟨(some 15),.iaddr 2 (.t 11) (.t 13),none⟩,⟨(some 16),.load (some 2) (.t 15),none⟩,⟨(some 5),.alloc [(.v (.str ⟨#[]⟩)),(.v (.int .i64 0))],none⟩,⟨none,.store 2 (.t 5) (.t 16),none⟩])
 (.region [⟨(some 17),.mv (.t 3),none⟩,⟨(some 18),.faddr 1 (.t 5),none⟩,⟨(some 19),.load none (.t 18),none⟩,⟨(some 20),.bslice 1 [(.v (.int .i64 0))] 1 [(0,(.t 19))],none⟩,⟨(some 21),.append 1 8 (.t 17) (.t 20),none⟩,⟨(some 3),.mv (.t 21),none⟩])))
 (.region [⟨(some 22),.bin .add (.t 13) (.c (.v (.int .i64 1))),none⟩,⟨(some 13),.mv (.t 22),none⟩]))))))
def s1R:ACode:=.region [⟨(some 28),.faddr 2 (.t 1),none⟩,⟨(some 29),.load none (.t 28),none⟩,⟨(some 30),.len (.t 29),none⟩,⟨(some 31),.mv (.c (.v (.int .i64 0))),none⟩]
def s1C:ACode:=.region [⟨(some 32),.bin .lss (.t 31) (.t 30),none⟩]
def s1E:ACode:=.region [⟨(some 33),.mv (.t 31),none⟩,⟨(some 34),.iaddr 5 (.t 29) (.t 31),none⟩,⟨(some 35),.load (some 5) (.t 34),none⟩,⟨(some 7),.alloc [(.v (.int .i64 0)),(.v (.int .i64 0)),(.v (.int .i64 0)),(.v (.int .i64 0)),(.v .zsl)],none⟩,⟨(some 6),.mv (.t 33),none⟩,⟨none,.store 5 (.t 7) (.t 35),none⟩]
def s1I:ACode:=.seq (.region [⟨(some 36),.faddr 4 (.t 7),none⟩,⟨(some 37),.load none (.t 36),none⟩,⟨(some 38),.len (.t 37),none⟩,⟨(some 39),.mv (.c (.v (.int .i64 0))),none⟩])
 (.block 4 (.loop (.seq (.region [⟨(some 40),.bin .lss (.t 39) (.t 38),none⟩])
 (.seq (.cond (.t 40) .skip
 (.exit 4))
 (.seq (.block 5 (.seq (.region [⟨(some 41),.iaddr 2 (.t 37) (.t 39),none⟩,⟨(some 42),.load (some 2) (.t 41),none⟩,⟨(some 9),.alloc [(.v (.int .i64 0)),(.v (.int .i64 0))],none⟩,⟨none,.store 2 (.t 9) (.t 42),none⟩])
 (.region [⟨(some 43),.mv (.t 3),none⟩,⟨(some 44),.faddr 0 (.t 9),none⟩,⟨(some 45),.load none (.t 44),none⟩,⟨(some 46),.faddr 1 (.t 9),none⟩,⟨(some 47),.load none (.t 46),none⟩,⟨(some 48),.iaddr 1 (.t 43) (.t 45),none⟩,⟨none,.store 1 (.t 48) (.t 47),none⟩])))
 (.region [⟨(some 49),.bin .add (.t 39) (.c (.v (.int .i64 1))),none⟩,⟨(some 39),.mv (.t 49),none⟩]))))))
def s1N:ACode:=.region [⟨(some 57),.bin .add (.t 31) (.c (.v (.int .i64 1))),none⟩,⟨(some 31),.mv (.t 57),none⟩]
structure StF (yl:Nat) (p:Pr) (B:List Row) (n:Nat) (f:Nat→AV):Prop where
 lt:KLt (B.length+1) f
 s0:f 0=.v (.yl yl)
 s1:f 1=.v (.iptr [.str p.name,.isl 2 (p.vars.map eVr),.isl 5 (p.evs.map eEv)] 0)
 s3:f 3=.sl B.length n 0 n
theorem ZGf (yl:Nat) (p:Pr) (hS:PrS p) (B:List Row) (hR:gA B.length B) (g:Nat→AV) (hE:KLt B.length g) (h0:g 0=.v (.yl yl)) (h1:g 1=.v (.iptr [.str p.name,.isl 2 (p.vars.map eVr),.isl 5 (p.evs.map eEv)] 0)) (h3:g 3=.v .zsl) :
  run (QA Tryz.prog) VA s1V (kOf 58 g) B [] (fun ax e b l=>ax=.normal∧b=B∧l=[.live p.vars.length 1 (vs ((stV p 0).map eI))]∧∃f,e=kOf 58 f∧StF yl p B p.vars.length f):=by
 have hnv:=hS.nv
 simp (disch:=first|decide|omega) only[s1V,h0,h1,h3,aa,go_sem]
 refine QF (ι:=Nat) 3 1 ZAL (fun i=>[(13,.v (.int .i64 i)),(3,.sl B.length i 0 i)]) 1 (fun i=>[.live i 1 (vs (((p.vars.take i).map (·.init)).map eI))])
  (fun i=>i≤p.vars.length) (fun i=>p.vars.length-i) 0 (aj _) (by simp (disch:=first|decide|omega) only[h3,go_sem]) kE rfl kM (by ((try simp (disch:=decide) only[h0,h1,go_sem])<;>exact kH)) kF ?_
 intro g1 qF TE sA i hi
 by_cases yA:i<p.vars.length
 ·have QI:=ZS yA
  have F9:(((p.vars.take i).map (·.init)).map eI).length=i:=by rw[aa,aa,bg];omega
  have htk:(((p.vars.take i).map (·.init)).map eI).take i=((p.vars.take i).map (·.init)).map eI:=bo (by rw[F9];omega)
  have S0:((p.vars.take i).map (·.init)).map eI++[[.int .i64 p.vars[i].init]]=((p.vars.take (i+1)).map (·.init)).map eI:=by rw[jF yA,bh,bh];rfl
  simp (disch:=first|decide|omega) only[h0,h1,h3,sA,QI,dB,F9,htk,S0,aa,go_sem]
  refine⟨i+1,yA,by simp only;omega,?_⟩
  exact VA.kround (p:=ZAL) (k:=1) kQ (by ((try simp (disch:=decide) only[h0,h1,sA,go_sem])<;>exact kH)) rfl qF kS kV hR kL
 ·obtain rfl:i=p.vars.length:=by omega
  have ZF:(p.vars.take p.vars.length).map (·.init)=stV p 0:=by rw[io];rfl
  simp (disch:=first|decide|omega) only[h0,h1,h3,sA,aa,go_sem]
  refine⟨by rw[ZF],_,rfl,⟨?_,?_,?_,?_⟩⟩
  ·(repeat (first|exact qF.mono oM|refine KLt.up ?_ kL))
  ·simp (disch:=first|decide|omega) only[h0,h1,sA,go_sem]
  ·simp (disch:=first|decide|omega) only[h0,h1,sA,go_sem]
  ·simp (disch:=first|decide|omega) only[h0,h1,sA,go_sem]
structure StG (yl:Nat) (p:Pr) (B:List Row) (n k i:Nat) (f:Nat→AV):Prop where
 lt:KLt (B.length+k) f
 s0:f 0=.v (.yl yl)
 s1:f 1=.v (.iptr [.str p.name,.isl 2 (p.vars.map eVr),.isl 5 (p.evs.map eEv)] 0)
 s3:f 3=.sl B.length n 0 n
 s29:f 29=.v (.isl 5 (p.evs.map eEv))
 s30:f 30=.v (.int .i64 p.evs.length)
 s31:f 31=.v (.int .i64 i)
theorem ZGg (yl:Nat) (p:Pr) (hS:PrS p) (B:List Row) (n:Nat) (l:List Row) (f:Nat→AV) (h:StF yl p B n f) :
  run (QA Tryz.prog) VA s1R (kOf 58 f) B l (fun ax e b l'=>ax=.normal∧b=B∧l'=l∧∃f',e=kOf 58 f'∧StG yl p B n 1 0 f'):=by
 have qG:=hS.ne
 have h1:=h.s1
 simp (disch:=first|decide|omega) only[s1R,h1,aa,go_sem]
 refine⟨_,rfl,⟨?_,?_,?_,?_,?_,?_,?_⟩⟩
 ·have hE:=h.lt
  (repeat (first|exact hE.mono oM|refine KLt.up ?_ kL))
 ·have:=h.s0
  simp (disch:=first|decide|omega) only[this,go_sem]
 ·simp (disch:=first|decide|omega) only[h1,go_sem]
 ·have:=h.s3
  simp (disch:=first|decide|omega) only[this,go_sem]
 ·simp (disch:=first|decide|omega) only[h1,go_sem]
 ·simp (disch:=first|decide|omega) only[h1,go_sem]
 ·simp (disch:=first|decide|omega) only[h1,go_sem];rfl
theorem ZGk (yl:Nat) (p:Pr) (B:List Row) (n i k:Nat) (l:List Row) (f:Nat→AV) (h:StG yl p B n k i f) :
  run (QA Tryz.prog) VA s1C (kOf 58 f) B l (fun ax e b l'=>ax=.normal∧b=B∧l'=l∧∃f',e=kOf 58 f'∧StG yl p B n k i f'∧f' 32=.v (.bool (decide ((i:Int)<(p.evs.length:Int))))):=by
 have h1:=h.s30
 have h2:=h.s31
 simp (disch:=first|decide|omega) only[s1C,h1,h2,go_sem]
 refine⟨_,rfl,⟨?_,?_,?_,?_,?_,?_,?_⟩,?_⟩
 ·have hE:=h.lt
  (repeat (first|exact hE.mono oM|refine KLt.up ?_ kL))
 ·have:=h.s0
  simp (disch:=first|decide|omega) only[this,go_sem]
 ·have:=h.s1
  simp (disch:=first|decide|omega) only[this,go_sem]
 ·have:=h.s3
  simp (disch:=first|decide|omega) only[this,go_sem]
 ·have:=h.s29
  simp (disch:=first|decide|omega) only[this,go_sem]
 ·simp (disch:=first|decide|omega) only[h1,go_sem]
 ·simp (disch:=first|decide|omega) only[h2,go_sem]
 ·simp (disch:=first|decide|omega) only[h2,go_sem]
def LU (e:Ev):Row:=.live 0 5 [[.v (.int .i64 e.kind),.v (.int .i64 e.peer),.v (.int .i64 e.msg),.v (.int .i64 e.time),.v (.isl 2 (e.asg.map eAsg))]]
theorem ZGj (yl:Nat) (p:Pr) (B:List Row) (n i:Nat) (hi:i<p.evs.length) (r:Row) (f:Nat→AV) (h:StG yl p B n 1 i f) :
  run (QA Tryz.prog) VA s1E (kOf 58 f) B [r] (fun ax e b l'=>ax=.normal∧b=B∧l'=[r,LU p.evs[i]]∧∃f',e=kOf 58 f'∧StG yl p B n 2 i f'∧(f' 6=.v (.int .i64 i)∧f' 7=.ptr (B.length+1) 0 0 0)∧KLt (B.length+1) (gF pG f')):=by
 have h1:=h.s29
 have h2:=h.s31
 have yH:=zH hi
 simp (disch:=first|decide|omega) only[s1E,h1,h2,yH,cellsOf,go_sem]
 refine⟨rfl,_,rfl,⟨?_,?_,?_,?_,?_,?_,?_⟩,⟨?_,?_⟩,?_⟩
 ·have hE:=h.lt
  (repeat (first|exact hE.mono oM|refine KLt.up ?_ kL))
 ·have:=h.s0
  simp (disch:=first|decide|omega) only[this,go_sem]
 ·have:=h.s1
  simp (disch:=first|decide|omega) only[this,go_sem]
 ·have:=h.s3
  simp (disch:=first|decide|omega) only[this,go_sem]
 ·simp (disch:=first|decide|omega) only[h1,go_sem]
 ·have:=h.s30
  simp (disch:=first|decide|omega) only[this,go_sem]
 ·simp (disch:=first|decide|omega) only[h2,go_sem]
 ·simp (disch:=first|decide|omega) only[h2,go_sem]
 ·simp (disch:=first|decide|omega) only[h2,go_sem]
 ·have e1:∀f',gF pG f'=gF pG f→KLt (B.length+1) (gF pG f'):=fun f' he=>by rw[he];exact h.lt.any
  exact e1 _ (by (repeat refine (kAny_up rfl).trans ?_);rfl)
theorem ZGi (yl:Nat) (p:Pr) (hS:PrS p) (hO:OkA p) (B:List Row) (hR:gA B.length B) (i:Nat) (hi:i<p.evs.length) (f:Nat→AV) (h:StG yl p B p.vars.length 2 i f) (h6:f 6=.v (.int .i64 i)) (h7:f 7=.ptr (B.length+1) 0 0 0) (hlo:KLt (B.length+1) (gF pG f)) :
  run (QA Tryz.prog) VA s1I (kOf 58 f) B [.live p.vars.length 1 (vs ((stV p i).map eI)),LU p.evs[i]] (fun ax e b l'=>ax=.normal∧b=B∧l'=[.live p.vars.length 1 (vs ((stV p (i+1)).map eI)),LU p.evs[i]]∧∃f',e=kOf 58 f'∧StG yl p B p.vars.length 2 i f'∧f' 6=.v (.int .i64 i)∧KLt (B.length+1) (gF pG f')):=by
 obtain⟨e,he⟩:∃e,p.evs[i]=e:=⟨_,rfl⟩
 rw[he]
 have hme:e∈p.evs:=by rw[←he];exact ak hi
 have hna:=hS.na e hme
 have hnv:=hS.nv
 have ZF:stV p (i+1)=yN (stV p i) e.asg e.asg.length:=by simp only[stV,apE,YA hi,he]
 have hE:=h.lt
 have h3:=h.s3
 unfold LU
 simp (disch:=first|decide|omega) only[s1I,h7,aa,go_sem]
 refine JA (ι:=Nat) ZAK (fun j=>[(39,.v (.int .i64 j))]) 2 (fun j=>[.live p.vars.length 1 (vs ((yN (stV p i) e.asg j).map eI)),LU e])
  (fun j=>j≤e.asg.length) (fun j=>e.asg.length-j) 0 (aj _) kM (by ((try simp (disch:=decide) only[h7,go_sem])<;>exact kH)) kF ?_
 intro g3 bW xR QH j hj
 unfold LU
 by_cases lJ:j<e.asg.length
 ·have hga:=Y4 lJ
  have hv:=hO e hme e.asg[j] (ak lJ)
  have F9:((yN (stV p i) e.asg j).map eI).length=p.vars.length:=by rw[aa,bM,nG]
  obtain⟨q,hq⟩:∃q:Nat,e.asg[j].v=q:=⟨e.asg[j].v.toNat,by omega⟩
  have hqn:q<p.vars.length:=by omega
  have hqg:((yN (stV p i) e.asg j).map eI)[q]? = some [.int .i64 ((yN (stV p i) e.asg j).getD q 0)]:=IC (by rw[bM,nG];exact hqn)
  have pK:((yN (stV p i) e.asg j).map eI).set q [.int .i64 e.asg[j].val]=(yN (stV p i) e.asg (j+1)).map eI:=by rw[sW lJ,hq,ca,fa];rfl
  simp (disch:=first|decide|omega) only[h3,h7,QH,hga,hq,hqg,pK,F9,aa,go_sem]
  refine⟨j+1,lJ,by simp only;omega,?_⟩
  exact VA.kround (p:=ZAK) (k:=2) kQ (by ((try simp (disch:=decide) only[h3,h7,QH,go_sem])<;>exact kH)) rfl bW kS kV hR kL
 ·obtain rfl:j=e.asg.length:=by omega
  simp (disch:=first|decide|omega) only[h3,h7,QH,aa,go_sem]
  rw[ZF]
  refine⟨rfl,_,rfl,⟨?_,?_,?_,?_,?_,?_,?_⟩,?_,?_⟩
  ·(repeat (first|exact bW.mono oM|refine KLt.up ?_ kL))
  ·have:=h.s0
   simp (disch:=first|decide|omega) only[this,QH,go_sem]
  ·have:=h.s1
   simp (disch:=first|decide|omega) only[this,QH,go_sem]
  ·simp (disch:=first|decide|omega) only[h3,QH,go_sem]
  ·have:=h.s29
   simp (disch:=first|decide|omega) only[this,QH,go_sem]
  ·have:=h.s30
   simp (disch:=first|decide|omega) only[this,QH,go_sem]
  ·have:=h.s31
   simp (disch:=first|decide|omega) only[this,QH,go_sem]
  ·simp (disch:=first|decide|omega) only[h6,QH,go_sem]
  ·have e1:∀f',gF pG f'=gF pG f→KLt (B.length+1) (gF pG f'):=fun f' he=>by rw[he];exact hlo
   exact e1 _ (by (repeat refine (kAny_up rfl).trans ?_);refine (kAny_sub QH (kIn_sub rfl)).trans ?_;(repeat refine (kAny_up rfl).trans ?_);rfl)
theorem ZGh (yl:Nat) (p:Pr) (hS:PrS p) (B:List Row) (n i k:Nat) (hi:i<p.evs.length) (l:List Row) (f:Nat→AV) (h:StG yl p B n k i f) :
  run (QA Tryz.prog) VA s1N (kOf 58 f) B l (fun ax e b l'=>ax=.normal∧b=B∧l'=l∧∃f',e=kOf 58 f'∧StG yl p B n k (i+1) f'):=by
 have qG:=hS.ne
 have h2:=h.s31
 simp (disch:=first|decide|omega) only[s1N,h2,go_sem]
 refine⟨_,rfl,⟨?_,?_,?_,?_,?_,?_,?_⟩⟩
 ·have hE:=h.lt
  (repeat (first|exact hE.mono oM|refine KLt.up ?_ kL))
 ·have:=h.s0
  simp (disch:=first|decide|omega) only[this,go_sem]
 ·have:=h.s1
  simp (disch:=first|decide|omega) only[this,go_sem]
 ·have:=h.s3
  simp (disch:=first|decide|omega) only[this,go_sem]
 ·have:=h.s29
  simp (disch:=first|decide|omega) only[this,go_sem]
 ·have:=h.s30
  simp (disch:=first|decide|omega) only[this,go_sem]
 ·simp (disch:=first|decide|omega) only[h2,go_sem];rfl
end Go.Proofs.YtmaokjojbjdpoaaGreatDoor
namespace Go.Proofs.YtmaokjojbjdpoaaGreatDoor
open Go.RowKit
set_option linter.unusedVariables false
set_option linter.unusedSimpArgs false
attribute [local go_sem] Oper.semAt_some
theorem ZHS {P:Program} {nn N:Nat} {F0:Nat→Prop} {m0:Nat} {J:World→Prop} {f:Nat→AV} {l:List Row} {a:Act} {w:World} {s:Nat} {t:Bool} {x y:Code} {K:Exit→Act→World→Prop} (h:ZP F0 m0 J (kOf N f) l a w) (hs:s<N) (hf:f s=.v (.bool t))
  (hx:(if t=true then x else y).wpIn Fence.wide nn P K a w):(Code.cond (.tmp s) x y).wpIn Fence.wide nn P K a w:=by
 obtain⟨F,L,s',he,_⟩:=h
 have hr:=he.nth s
 rw[dD hs,hf]at hr
 refine wpIn_cond (dM hr) ?_
 cases t
 ·exact hx
 ·exact hx
theorem ZHR {F0:Nat→Prop} {m0:Nat} {J:World→Prop} {B:List Row} (hB:B=[]) {e e':List AV} {l l':List Row} (hw:VA e B l e' B l') {a:Act} {w:World} (h:ZP F0 m0 J e l a w):ZP F0 m0 J e' l' a w:=by
 subst hB
 obtain⟨F,L,s,he,h1,h2,h3,h4,h5⟩:=h
 obtain⟨F',L',s',he',st,_⟩:=hw F L w a s he
 refine⟨F',L',s',he',fun k hk=>st.imm k (h1 k hk),fun k hk=>?_,fun k hk=>?_,h4,h5⟩
 ·rcases bp k w.heap.size with yA|yH
  ·rcases st.fnew k yA hk with hf|ho
   ·exact h2 k hf
   ·exact .inr (h3 k ho)
  ·exact .inr oM
 ·rcases bp k w.heap.size with yA|yH
  ·exact h3 k (st.own k yA hk)
  ·omega
theorem I3 {w:World} {F:Nat→Prop} {v:List Int} {u:Value} (h:RepI w F (.isl 1 (v.map eI)) u):RepI w (fun k=>k<w.heap.size) (.isl 1 (v.map eI)) u:=by
 obtain⟨A,c,rfl,h2,h3,h4⟩:=BI h
 refine pT h2 h3 (fun h0=>?_)
 obtain⟨b,off,h5,h6,h7⟩:=h4 h0
 have yA:b<w.heap.size:=by
  have hk:0<(v.map eI).length:=h0
  obtain⟨g1,g2⟩:=h7 0 (v.map eI)[0] (ah hk)
  have hj:0<((v.map eI)[0]).length:=by rw[g1];decide
  obtain⟨x,hx,_⟩:=g2 0 _ (ah hj)
  obtain⟨o,ho,_⟩:=not_walk_of_cell hx
  exact (bw.1 ho).1
 refine⟨b,off,h5,yA,fun k row hk=>?_⟩
 obtain⟨g1,g2⟩:=h7 k row hk
 refine⟨g1,fun j a hj=>?_⟩
 obtain⟨x,hx,hr⟩:=g2 j a hj
 refine⟨x,hx,?_⟩
 rw[an]at hk
 cases hq:v[k]? with
 |none=>rw[hq]at hk;cases hk
 |some z =>
   rw[hq]at hk;cases hk
   cases j with
   |zero=>simp[eI]at hj;subst hj;cases hr;exact .int _ _
   |succ j=>simp[eI]at hj
theorem aQ (v:List Int) (hn:v.length≤1000000) (w:World) (u:Value) (hu:RepI w (fun k=>k<w.heap.size) (.isl 1 (v.map eI)) u):Calls Tryz.prog 98 #[u] w fun e w'=>∃vv,e=.returned vv∧Ext w w'∧RepI w' (fun k=>w.heap.size≤k∧k<w'.heap.size) (.isl 1 (v.map eI)) vv:=by
 have no:∀k,¬DC (fun _ _=>none) ([]++[]) k:=by rintro k ⟨i,v,s,e1,q,h1,h2,h3⟩;cases h2
 have h:=(pI v hn [] []).2 (fun k=>k<w.heap.size) (fun _ _=>none) w #[u] (ZAF (fun _ h=>h)) (GA.cons (.v _ _ hu) GA.nil)
 refine Calls.mono h ?_
 rintro en w' ⟨vv,x,b',l',F',L',h1,h2,h3,h4,h5,rfl,rfl,rfl⟩
 refine⟨vv,h1,⟨h4.os,h4.tape,h4.output,h4.size,fun k hk=>h4.block k hk (no k)⟩,?_⟩
 have JD:=h3.row 0 1 1 (vs (v.map eI)) rfl
 have hd:RepA w' (FD F' L' 0 [.live 1 1 (vs (v.map eI))]) L' (.v (.isl 1 (v.map eI))) vv:=(Dv.slV (n:=0) (i:=0) rfl (by rw[aa])).rep (b:=[]) h3 vv h2
 obtain⟨A,c,rfl,g2,g3,g4⟩:=BI hd.vI
 refine pT g2 g3 (fun h0=>?_)
 obtain⟨b,off,rfl,h6,h7⟩:=g4 h0
 have XO:w.heap.size≤b:=by
  rcases bp b w.heap.size with yA|yH
  ·exfalso
   have hb:F' b:=h4.imm b yA
   refine (h3.imm b hb).2 ?_
   obtain⟨q,g5,g6⟩:=JD
   refine⟨0,1,1,_,q,rfl,g5,?_⟩
   generalize wO:Value.slice (some ⟨b,off,none⟩) (v.map eI).length c=vv at h2
   generalize hll:v.length=ll at h2
   cases h2 with
   |sl id ver off' len b0 o sz cap hL LJ hm =>
     rw[show ([]:List Row).length+([]:List Row).length=0 from rfl]at hL
     rw[hL]at g5;cases g5
     injection wO with e1 e2 e3
     injection e1 with e4
     injection e4 with e5 e6
     exact e5.symm
   |slz id ver off' b0 o sz cap x hL he =>
     injection wO with e1 e2 e3
     omega
   |sln id ver ad hL =>
     injection wO with e1 e2 e3
     omega
  ·exact yH
 have zE:b<w'.heap.size:=by
  have hk:0<(v.map eI).length:=h0
  obtain⟨g1,g2⟩:=h7 0 (v.map eI)[0] (ah hk)
  have hj:0<((v.map eI)[0]).length:=by rw[g1];decide
  obtain⟨x,hx,_⟩:=g2 0 _ (ah hj)
  obtain⟨o,ho,_⟩:=not_walk_of_cell hx
  exact (bw.1 ho).1
 refine⟨b,off,rfl,⟨XO,zE⟩,fun k row hk=>?_⟩
 obtain⟨g1,g2⟩:=h7 k row hk
 refine⟨g1,fun j a hj=>?_⟩
 obtain⟨x,hx,hr⟩:=g2 j a hj
 refine⟨x,hx,?_⟩
 rw[an]at hk
 cases hq:v[k]? with
 |none=>rw[hq]at hk;cases hk
 |some z =>
   rw[hq]at hk;cases hk
   cases j with
   |zero=>simp[eI]at hj;subst hj;cases hr;exact .int _ _
   |succ j=>simp[eI]at hj
theorem yI {N s:Nat} {F0:Nat→Prop} {m0:Nat} {J:World→Prop} {f:Nat→AV} {l:List Row} {a:Act} {w:World} {v:Value} (h:ZP F0 m0 J (kOf N f) l a w):ZP F0 m0 J (kOf N (kUp f s .any)) l (a.put (some s) v) w:=by
 obtain⟨F,L,s',he,h⟩:=h
 refine⟨F,L,s',?_,h⟩
 have:=he.put (some s) (RepA.any (w:=w) (F:=F) (L:=L) v)
 rwa [XD]at this
theorem ZGl (B:List Row) (g:Nat→AV):run (QA Tryz.prog) VA s1A (kOf 58 g) B [] (fun ax e b l=>ax=.normal∧b=B∧l=[]∧e=kOf 58 (kUp g 3 (.v .zsl))):=⟨rfl,rfl,rfl,XD (n:=3)⟩
theorem R5 (n:Nat) (hn:1≤n) (p:Pr) (hS:PrS p) (hO:OkA p) (l Bt:Nat) (W:World) (F0:Nat→Prop) (hF0:∀k,F0 k→k<W.heap.size)
  (hp:RepI W F0 (.iptr [.str p.name,.isl 2 (p.vars.map eVr),.isl 5 (p.evs.map eEv)] 0) (.pointer (some ⟨Bt,0,none⟩))) (J:Nat→World→Prop) (Jx:World→Prop)
  (hJ:∀i A B,J i A→Below W.heap.size A B→J i B)
  (hY:∀i v W1,i≤p.evs.length→J i W1→W.heap.size≤W1.heap.size→RepI W1 (fun k=>W.heap.size≤k∧k<W1.heap.size) (.isl 1 ((stV p i).map eI)) v →
   YieldAt Fence.wide (n-1) Tryz.prog l #[.int .i64 i,v] W1 fun e W'=>(e=.returned (.bool true)∧J (i+1) W'∧KeepF F0 W.heap.size W1 W')∨(e=.returned (.bool false)∧Jx W'))
  (h0:J 0 W) :
  CallsIn Fence.wide n Tryz.prog 164 #[.func (.yield l) #[] #[],.pointer (some ⟨Bt,0,none⟩)] W fun e W'=>(∃v,e=.returned v)∧(J (p.evs.length+1) W'∨Jx W'):=by
 obtain⟨B,hB⟩:∃B:List Row,B=[]:=⟨[],rfl⟩
 have hR:gA B.length B:=by rw[hB];exact nE
 obtain⟨m0,hm0⟩:∃m0,m0=W.heap.size:=⟨_,rfl⟩
 rw[←hm0]at hJ hY
 have hJ0:∀i,∀A B,J i A→Low0 m0 A B→J i B:=fun i A B h k=>hJ i A B h k
 refine callsIn_of_wp Tryz.func164 rfl trivial ?_ rfl
 rw[Tryz.ntmps164]
 have aW:GA W F0 (fun _ _=>none) [.v (.yl l),.v (.iptr [.str p.name,.isl 2 (p.vars.map eVr),.isl 5 (p.evs.map eEv)] 0)] (#[.func (.yield l) #[] #[],.pointer (some ⟨Bt,0,none⟩)]:Array Value).toList:=GA.cons (.v _ _ (.yl l)) (GA.cons (.v _ _ hp) GA.nil)
 have hes:=ZBz aW 58 kS
 obtain⟨a0,ha0⟩:∃a0:Act,a0={tmps:=#[.func (.yield l) #[] #[],.pointer (some ⟨Bt,0,none⟩)]++Array.replicate (58-(#[.func (.yield l) #[] #[],.pointer (some ⟨Bt,0,none⟩)]:Array Value).size) undef,defers:=[]}:=⟨_,rfl⟩
 rw[←ha0]at hes⊢
 obtain⟨g0,hg0⟩:∃g0:Nat→AV,g0=fun i=>([.v (.yl l),.v (.iptr [.str p.name,.isl 2 (p.vars.map eVr),.isl 5 (p.evs.map eEv)] 0)]:List AV).getD i (.tup []):=⟨_,rfl⟩
 rw[←hg0]at hes
 have z0:g0 0=.v (.yl l):=by rw[hg0];rfl
 have z1:g0 1=.v (.iptr [.str p.name,.isl 2 (p.vars.map eVr),.isl 5 (p.evs.map eEv)] 0):=by rw[hg0];rfl
 have hE0:KLt B.length g0:=fun i=>by
  rw[hg0]
  match i with
  |0=>exact .v _
  |1=>exact .v _
  |i+2=>exact .tup _ kS
 clear hg0 ha0
 have at0:ZP F0 m0 (J 0) (kOf 58 g0) [] a0 W:=by
  refine⟨F0,fun _ _=>none,ZAF hF0,hes,fun _ h=>h,fun _ h=>.inl h,fun k hk=>?_,by rw[hm0];exact ai _,h0⟩
  obtain⟨i,ver,sz,els,q,h1,h2,h3⟩:=hk
  cases h2
 refine wpIn_seq (OI (ac:=s1A) (hJ0 0) (by kernel_rfl) hB (Q:=fun ax e b l=>ax=.normal∧b=B∧l=[]∧e=kOf 58 (kUp g0 3 (.v .zsl))) (ZGl B g0) at0 ?_)
 rintro ex a1 w1 ax e1 l1 hex ⟨rfl,_,rfl,rfl⟩ at1
 cases ex<;>first|exact hex.elim|skip
 simp only[Exit.then]
 refine wpIn_seq (OI (ac:=s1V) (hJ0 0) (by kernel_rfl) hB (ZGf l p hS B hR _ (hE0.up (.v _)) ?_ ?_ TB) at1 ?_)
 ·rw[ZC kE];exact z0
 ·rw[ZC kE];exact z1
 clear at0 at1 hes hE0
 rintro ex a2 w2 ax e2 l2 hex ⟨rfl,_,rfl,f,rfl,hf⟩ at2
 cases ex<;>first|exact hex.elim|skip
 simp only[Exit.then]
 refine wpIn_seq ?_
 generalize hK:Exit.then _ _=K
 obtain⟨F,L,s,he,q1,q2,q3,q4,q5⟩:=at2
 obtain⟨tm,df⟩:=a2
 obtain rfl:df=[]:=he.1
 have NN:tm.toList.length=58:=by have:=he.2.1;rw[mI]at this;simpa using this
 obtain⟨v0,v1,v2,v3,v4,v5,v6,v7,v8,v9,v10,v11,v12,v13,v14,v15,v16,v17,v18,v19,v20,v21,v22,v23,v24,v25,v26,v27,v28,v29,v30,v31,v32,v33,v34,v35,v36,v37,v38,v39,v40,v41,v42,v43,v44,v45,v46,v47,v48,v49,v50,v51,v52,v53,v54,v55,v56,v57,hT⟩:=ZIP tm.toList NN
 obtain rfl:tm=#[v0,v1,v2,v3,v4,v5,v6,v7,v8,v9,v10,v11,v12,v13,v14,v15,v16,v17,v18,v19,v20,v21,v22,v23,v24,v25,v26,v27,v28,v29,v30,v31,v32,v33,v34,v35,v36,v37,v38,v39,v40,v41,v42,v43,v44,v45,v46,v47,v48,v49,v50,v51,v52,v53,v54,v55,v56,v57]:=gj.1 (by rw[hT])
 have e0:RepA w2 F L (f 0) v0:=he.2.2 0 _ v0 (by rw[YF];rfl) rfl
 have e3:RepA w2 F L (f 3) v3:=he.2.2 3 _ v3 (by rw[YF];rfl) rfl
 rw[hf.s0]at e0
 cases e0.vI
 rw[hf.s3,hB]at e3
 have hp3:RepI w2 (fun k=>k<w2.heap.size) (.isl 1 ((stV p 0).map eI)) v3:=by
  have hd:Dv ([]:List Row).length [.live p.vars.length 1 (vs ((stV p 0).map eI))] (.sl 0 p.vars.length 0 p.vars.length) (.v (.isl 1 ((stV p 0).map eI))):=Dv.slV (n:=0) (i:=0) rfl (by rw[aa,nG])
  exact I3 (hd.rep (b:=[]) s v3 e3).vI
 obtain⟨A3,c3,hv3,_⟩:=BI hp3
 rw[aa]at hv3
 subst hv3
 have hC:=aQ (stV p 0) (by rw[nG];exact hS.nv) w2 _ hp3
 have hCe:=KA hC
 clear hC hp3 e3 hT NN
 gi_wp2
 refine⟨trivial,CallsIn.mono (callsIn_wide.2 hCe.out) ?_⟩
 rintro en w3 ⟨vv,rfl,UD,hx⟩
 have hi3:=hx.mono (F':=fun k=>m0≤k∧k<w3.heap.size) (fun b hb=>⟨dq q4 hb.1,hb.2⟩) (fun _ _=>rfl)
 have hJ3:=hJ 0 w2 w3 q5 (Below.mono UD q4)
 obtain⟨fn,tmps,assign,body,hy,hRd⟩:=hY 0 vv w3 (aj _) hJ3 (dq q4 UD.size) hi3
 have hy0:(Instr.yield l #[.int .i64 0,vv]).run Tryz.prog w3=.ok (.round l fn tmps assign body) w3:=hy
 clear hy
 have hRe:=KA hRd
 clear hRd hi3 hx
 gi_wp2
 have hkp:KeepF F0 m0 w2 w3:=⟨UD.size,UD.os,UD.tape,UD.output,fun k hk _=>UD.block k hk⟩
 refine hRe.out.mono ?_
 rintro e W3 (⟨rfl,hJ4,hk4⟩|⟨rfl,ZKX⟩)
 case inr =>
  gi_wp2
  rw[←hK]
  simp only[Exit.then]
  refine bodyPost_ret (results_none rfl _ _ _) rfl ?_
  exact⟨⟨_,rfl⟩,.inr ZKX⟩
 gi_wp2
 rw[←hK]
 simp only[Exit.then]
 have at3:=yI (s:=27) (v:=.bool false) (yI (s:=26) (v:=.bool true) (yI (s:=25) (v:=vv) (yI (s:=24) (v:=.slice A3 (stV p 0).length c3) (yI (s:=23) (v:=.func (.yield l) #[] #[])
  (ZP.keep (J':=J 1) (⟨F,L,s,he,q1,q2,q3,q4,q5⟩:ZP F0 m0 (J 0) _ _ _ w2) (hkp.trans hk4) rfl hJ4)))))
 clear hK he s q1 q2 q3
 have hf2:StF l p B p.vars.length (kUp (kUp (kUp (kUp (kUp f 23 .any) 24 .any) 25 .any) 26 .any) 27 .any):=by
  refine⟨?_,?_,?_,?_⟩
  ·have hE:=hf.lt
   exact ((((hE.up .any).up .any).up .any).up .any).up .any
  ·simp only[ZC,ne_eq,Nat.reduceEqDiff,not_false_eq_true];exact hf.s0
  ·simp only[ZC,ne_eq,Nat.reduceEqDiff,not_false_eq_true];exact hf.s1
  ·simp only[ZC,ne_eq,Nat.reduceEqDiff,not_false_eq_true];exact hf.s3
 generalize hK:bodyPost _ _ _=K2
 refine wpIn_seq (OI (ac:=s1R) (hJ0 1) (by kernel_rfl) hB (ZGg l p hS B _ _ _ hf2) at3 ?_)
 clear at3
 rintro ex a4 w4 ax e4 l4 hex ⟨rfl,_,rfl,f4,rfl,jR⟩ at4
 cases ex<;>first|exact hex.elim|skip
 simp only[Exit.then]
 refine wpIn_block ?_
 refine wpIn_loop_ghost (fun m a w=>∃i f,m=p.evs.length-i∧i≤p.evs.length∧StG l p B p.vars.length 1 i f∧ZP F0 m0 (J (i+1)) (kOf 58 f) [.live p.vars.length 1 (vs ((stV p i).map eI))] a w) _ ⟨0,f4,rfl,aj _,jR,at4⟩ ?_
 clear at4 jR hf2 hf
 rintro m a5 w5 ⟨i,f5,rfl,hi,hg5,at5⟩
 generalize hK3:Exit.then _ _=K3
 refine wpIn_seq (OI (ac:=s1C) (hJ0 (i+1)) (by kernel_rfl) hB (ZGk l p B _ i 1 _ f5 hg5) at5 ?_)
 clear at5 hg5
 rintro ex a6 w6 ax e6 l6 hex ⟨rfl,_,rfl,f6,rfl,hg6,hb6⟩ at6
 cases ex<;>first|exact hex.elim|skip
 simp only[Exit.then]
 refine wpIn_seq (ZHS (s:=32) at6 kE hb6 ?_)
 by_cases yA:i<p.evs.length
 case neg =>
  obtain rfl:i=p.evs.length:=by omega
  rw[if_neg kS]
  refine wpIn_exit ?_
  simp only[Exit.then]
  rw[←hK3]
  simp only[Exit.then,Exit.inBlock,if_true]
  rw[←hK]
  obtain⟨F6,L6,s6,he6,_,_,_,_,hJ6⟩:=at6
  exact bodyPost_end (results_none rfl _ _ _) he6.1 ⟨⟨_,rfl⟩,.inl hJ6⟩
 rw[if_pos (by simp;omega)]
 refine wpIn_skip ?_
 simp only[Exit.then]
 refine wpIn_seq (wpIn_block ?_)
 generalize hK4:Exit.inBlock _ _=K4
 refine wpIn_seq (OI (ac:=s1E) (hJ0 (i+1)) (by kernel_rfl) hB (ZGj l p B _ i yA _ f6 hg6) at6 ?_)
 clear at6 hg6
 rintro ex a7 w7 ax e7 l7 hex ⟨rfl,_,rfl,f7,rfl,hg7,⟨h76,h77⟩,ZLu⟩ at7
 cases ex<;>first|exact hex.elim|skip
 simp only[Exit.then]
 refine wpIn_seq (OI (ac:=s1I) (hJ0 (i+1)) (by kernel_rfl) hB (ZGi l p hS hO B hR i yA f7 hg7 h76 h77 ZLu) at7 ?_)
 clear at7 hg7 h76 h77 ZLu
 rintro ex a8 w8 ax e8 l8 hex ⟨rfl,_,rfl,f8,rfl,hg8,h86,ZKY⟩ at8
 cases ex<;>first|exact hex.elim|skip
 simp only[Exit.then]
 have at9:=ZHR hB (VA.kround (p:=pG) (ov:=[(6,.v (.int .i64 i)),(31,.v (.int .i64 i))]) (l1:=[.live p.vars.length 1 (vs ((stV p (i+1)).map eI))]) (junk:=[LU p.evs[i]]) (k:=1) rfl ⟨h86,hg8.s31,trivial⟩ rfl ZKY kS ⟨.v _,.v _,trivial⟩ hR (by simp only[SC,cJ,nE,and_self])) at8
 obtain⟨f9,hf9⟩:∃f9,f9=kOv [(6,.v (.int .i64 i)),(31,.v (.int .i64 i))] (gF pG f8):=⟨_,rfl⟩
 rw[←hf9]at at9
 have hg9:StG l p B p.vars.length 1 i f9:=by
  have hn:∀s,kIn pG s=false→f9 s=f8 s:=fun s hs=>by
   rw[hf9,pB,pB,GD]
   have h6:6≠s:=fun e=>by subst e;cases hs
   have h31:31≠s:=fun e=>by subst e;cases hs
   rw[ZC h6,ZC h31,nT hs]
  refine⟨?_,?_,?_,?_,?_,?_,?_⟩
  ·rw[hf9];exact (ZKY).ov (ov:=[(6,.v (.int .i64 i)),(31,.v (.int .i64 i))]) ⟨.v _,.v _,trivial⟩
  ·rw[hn 0 rfl];exact hg8.s0
  ·rw[hn 1 rfl];exact hg8.s1
  ·rw[hn 3 rfl];exact hg8.s3
  ·rw[hn 29 rfl];exact hg8.s29
  ·rw[hn 30 rfl];exact hg8.s30
  ·rw[hf9,pB,pB,ZC kE,TB]
 have h96:f9 6=.v (.int .i64 i):=by rw[hf9,pB,TB]
 clear hf9 hg8 ZKY h86 at8
 refine wpIn_seq ?_
 obtain⟨F,L,s,he,q1,q2,q3,q4,q5⟩:=at9
 obtain⟨tm,df⟩:=a8
 obtain rfl:df=[]:=he.1
 have NN:tm.toList.length=58:=by have:=he.2.1;rw[mI]at this;simpa using this
 obtain⟨u0,u1,u2,u3,u4,u5,u6,u7,u8,u9,u10,u11,u12,u13,u14,u15,u16,u17,u18,u19,u20,u21,u22,u23,u24,u25,u26,u27,u28,u29,u30,u31,u32,u33,u34,u35,u36,u37,u38,u39,u40,u41,u42,u43,u44,u45,u46,u47,u48,u49,u50,u51,u52,u53,u54,u55,u56,u57,hT⟩:=ZIP tm.toList NN
 obtain rfl:tm=#[u0,u1,u2,u3,u4,u5,u6,u7,u8,u9,u10,u11,u12,u13,u14,u15,u16,u17,u18,u19,u20,u21,u22,u23,u24,u25,u26,u27,u28,u29,u30,u31,u32,u33,u34,u35,u36,u37,u38,u39,u40,u41,u42,u43,u44,u45,u46,u47,u48,u49,u50,u51,u52,u53,u54,u55,u56,u57]:=gj.1 (by rw[hT])
 have e0:RepA w8 F L (f9 0) u0:=he.2.2 0 _ u0 (by rw[YF];rfl) rfl
 have e3:RepA w8 F L (f9 3) u3:=he.2.2 3 _ u3 (by rw[YF];rfl) rfl
 have e6:RepA w8 F L (f9 6) u6:=he.2.2 6 _ u6 (by rw[YF];rfl) rfl
 rw[hg9.s0]at e0
 cases e0.vI
 rw[h96]at e6
 cases e6.vI
 rw[hg9.s3,hB]at e3
 have hp3:RepI w8 (fun k=>k<w8.heap.size) (.isl 1 ((stV p (i+1)).map eI)) u3:=by
  have hd:Dv ([]:List Row).length [.live p.vars.length 1 (vs ((stV p (i+1)).map eI))] (.sl 0 p.vars.length 0 p.vars.length) (.v (.isl 1 ((stV p (i+1)).map eI))):=Dv.slV (n:=0) (i:=0) rfl (by rw[aa,nG])
  exact I3 (hd.rep (b:=[]) s u3 e3).vI
 obtain⟨A3,c3,hv3,_⟩:=BI hp3
 rw[aa]at hv3
 subst hv3
 have hC:=aQ (stV p (i+1)) (by rw[nG];exact hS.nv) w8 _ hp3
 have hCe:=KA hC
 have qG:=hS.ne
 have hwi:IntKind.i64.wrap ((i:Int)+1)=((i+1:Nat):Int):=by rw[pA oM oM];omega
 clear hC hp3 e3 hT NN
 gi_wp2
 refine⟨trivial,CallsIn.mono (callsIn_wide.2 hCe.out) ?_⟩
 rintro en w9 ⟨vv,rfl,UD,hx⟩
 have hi3:=hx.mono (F':=fun k=>m0≤k∧k<w9.heap.size) (fun b hb=>⟨dq q4 hb.1,hb.2⟩) (fun _ _=>rfl)
 have hJ3:=hJ (i+1) w8 w9 q5 (Below.mono UD q4)
 obtain⟨fn,tmps,assign,body,hy,hRd⟩:=hY (i+1) vv w9 oM hJ3 (dq q4 UD.size) hi3
 have hy1:(Instr.yield l #[.int .i64 ((i:Int)+1),vv]).run Tryz.prog w9=.ok (.round l fn tmps assign body) w9:=hy
 clear hy
 have hRe:=KA hRd
 clear hRd hi3 hx
 gi_wp2
 have hkp:KeepF F0 m0 w8 w9:=⟨UD.size,UD.os,UD.tape,UD.output,fun k hk _=>UD.block k hk⟩
 refine hRe.out.mono ?_
 rintro e W3 (⟨rfl,hJ4,hk4⟩|⟨rfl,ZKX⟩)
 case inr =>
  gi_wp2
  rw[←hK4]
  simp only[Exit.then,Exit.inBlock]
  rw[←hK3]
  simp only[Exit.then,Exit.inBlock]
  rw[←hK]
  refine bodyPost_ret (results_none rfl _ _ _) rfl ?_
  exact⟨⟨_,rfl⟩,.inr ZKX⟩
 gi_wp2
 rw[←hK4]
 simp only[Exit.then,Exit.inBlock]
 have ata:=yI (s:=56) (v:=.bool false) (yI (s:=55) (v:=.bool true) (yI (s:=54) (v:=vv) (yI (s:=53) (v:=.slice A3 (stV p (i+1)).length c3) (yI (s:=52) (v:=.int .i64 ((i+1:Nat):Int)) (yI (s:=51) (v:=.int .i64 i) (yI (s:=50) (v:=.func (.yield l) #[] #[])
  (ZP.keep (J':=J (i+1+1)) (⟨F,L,s,he,q1,q2,q3,q4,q5⟩:ZP F0 m0 (J (i+1)) _ _ _ w8) (hkp.trans hk4) rfl hJ4)))))))
 have hga:StG l p B p.vars.length 1 i (kUp (kUp (kUp (kUp (kUp (kUp (kUp f9 50 .any) 51 .any) 52 .any) 53 .any) 54 .any) 55 .any) 56 .any):=by
  refine⟨?_,?_,?_,?_,?_,?_,?_⟩
  ·have hE:=hg9.lt
   exact ((((((hE.up .any).up .any).up .any).up .any).up .any).up .any).up .any
  ·simp only[ZC,ne_eq,Nat.reduceEqDiff,not_false_eq_true];exact hg9.s0
  ·simp only[ZC,ne_eq,Nat.reduceEqDiff,not_false_eq_true];exact hg9.s1
  ·simp only[ZC,ne_eq,Nat.reduceEqDiff,not_false_eq_true];exact hg9.s3
  ·simp only[ZC,ne_eq,Nat.reduceEqDiff,not_false_eq_true];exact hg9.s29
  ·simp only[ZC,ne_eq,Nat.reduceEqDiff,not_false_eq_true];exact hg9.s30
  ·simp only[ZC,ne_eq,Nat.reduceEqDiff,not_false_eq_true];exact hg9.s31
 refine OI (ac:=s1N) (hJ0 (i+1+1)) (by kernel_rfl) hB (ZGh l p hS B _ i 1 yA _ _ hga) ata ?_
 rintro ex ab wb ax eb lb hex ⟨rfl,_,rfl,fb,rfl,hgb⟩ atb
 cases ex<;>first|exact hex.elim|skip
 rw[←hK3]
 exact⟨p.evs.length-(i+1),by omega,i+1,fb,rfl,yA,hgb,atb⟩
end Go.Proofs.YtmaokjojbjdpoaaGreatDoor
namespace Go.Proofs.YtmaokjojbjdpoaaGreatDoor
set_option linter.unusedVariables false

theorem QA.of_newA {P:Program} {f:Nat} {args:List AV} {b l:List Row} {Q:AV→List Row→List Row→Prop} (hf:∃fn,P.funcs[f]? = some fn∧(fn.name == "runtime.NumGoroutine")=false∧fn.body.isSome=true)
  (h:∀F L w (vs:Array Value),(∀b,F b→b<w.heap.size)→GA w F L args vs.toList→Calls P f vs w fun en w'=>Ext w w'∧∃v x F',en=.returned v∧(∀b,F b→F' b)∧(∀b,b<w.heap.size→F' b→F b)∧(∀b,F' b→b<w'.heap.size)∧RepA w' F' (fun _ _=>none) x v∧Q x b l):QA P f args b l Q:=by
 refine⟨hf,fun F L w vs s hr=>Calls.mono (h F L w vs (fun b hb=>(s.imm b hb).1) hr) ?_⟩
 rintro en w' ⟨he,v,x,F',h1,h2,h3,h4,h5,h6⟩
 have ON:∀k,k<w.heap.size→w'.heap[k]? = w.heap[k]?:=he.block
 have EF:∀k,DC L (b++l) k→k<w.heap.size:=by
  rintro k ⟨id,ver,sz,els,q0,k1,k2,k3⟩
  obtain⟨q,q1,q2⟩:=s.row id ver sz els k1
  rw[k2]at q1;cases q1
  exact q2.lt k3
 refine⟨v,x,b,l,F',L,h1,h5.mono (fun _ h=>h) (fun _ _=>rfl) (fun _ _ _ h=>by cases h),⟨fun i v z els hi=>?_,s.born,s.apart,fun k hk=>⟨h4 k hk,fun ho=>(s.imm k (h3 k (EF k ho) hk)).2 ho⟩,s.glob.mono h2 (fun k hk=>ON k (s.imm k hk).1)⟩,
  ⟨h2,fun _ _ _ _ h=>h,he.os,he.tape,he.output,he.size,fun k hk _=>ON k hk,fun _ _ h=>h,fun _ _ _ h=>h,fun k hk hf=>.inl (h3 k hk hf)⟩,rfl,h6⟩
 obtain⟨q,g1,g2⟩:=s.row i v z els hi
 exact⟨q,g1,g2.mono (fun k hk=>ON k (g2.lt hk)) (fun _ _ hx=>hx.mono h2 (fun k hk=>ON k (s.imm k hk).1) (fun _ _ _ h=>h))⟩

open Go.RowKit
set_option linter.unusedSimpArgs false
attribute [local go_sem] Oper.semAt_some
theorem D5 (u0 u1 u2:Value) (w:World):Calls Tryz.prog 132 #[.agg #[u0,u1,u2]] w fun e w'=>e=.returned (.func (.func 164) #[] #[.pointer (some ⟨w.heap.size,0,none⟩)])∧w'=w.alloc (.cells #[u0,u1,u2] 65):=by
 go_enter Tryz.func132,Tryz.ntmps132
 go_wp2_with fail
 go_ret
 exact⟨rfl,rfl⟩
theorem C5 {F:Fence} (hro:F.round=none) (hFa:∀f,F.fn f) {P:Program} {n:Nat} {g:Operand} {ps:Array Tmp} {assign body:Code} {Q:Exit→Act→World→Prop} {a:Act} {w:World} (h1:1≤n) {gf:Nat} {lb:Array Value} (hg:a.eval g=.func (.func gf) #[] lb) (eg:∀args w,(callFunc gf args).run P w=.ok (.enter gf args) w)
  (ZIh:∀(fn:FuncId) (rec:LoopState→Option Code→Loop) (W1:World),(rec=fun st pe=>{state:=st,pending:=pe,fn:=fn,tmps:=a.tmps,params:=ps,assign:=assign,body:=body,defers:=w.heap.size}) →
   (w.alloc (.deferred (some []))).alloc (.loop (rec .ready none))=W1 →
   CallsIn F (n-1) P gf (#[.func (.yield (w.heap.size+1)) #[] #[]]++lb) W1 (rangePost F n P (w.heap.size+1) Q {a with defers:={target:=.collected w.heap.size,args:=#[]}::a.defers})) :
  (Code.rangeFunc g ps assign body).wpIn F n P Q a w:=by
 refine wpIn_rangeFunc ?_
 intro fn hfn
 rw[hro]
 obtain⟨rec,TW⟩:∃rec:LoopState→Option Code→Loop,rec=fun st pe=>{state:=st,pending:=pe,fn:=fn,tmps:=a.tmps,params:=ps,assign:=assign,body:=body,defers:=w.heap.size}:=⟨_,rfl⟩
 obtain⟨W1,EH⟩:∃W1,(w.alloc (.deferred (some []))).alloc (.loop (rec .ready none))=W1:=⟨_,rfl⟩
 have hh:=ZIh fn rec W1 TW EH
 clear ZIh
 refine⟨w.heap.size+1,[{target:=.collected w.heap.size,args:=#[]}],W1,{target:=.fn (.func gf) lb,args:=#[.func (.yield (w.heap.size+1)) #[] #[]]},W1,gf,
  #[.func (.yield (w.heap.size+1)) #[] #[]]++lb,W1,?_,?_,?_,?_,?_,?_⟩
 ·rw[←EH,TW];exact run_enterLoop_outer _ _ _ _ _
 ·simp only[resolve,hg]
  simp[go_sem]
 ·intro f1 hf1
  exact hFa f1
 ·simp[invoke,go_sem,eg]
 ·exact fun _=>h1
 ·exact hh
theorem ZBL (p:Pr) (hS:PrS p) (hO:OkA p) (k:Nat) (hk:k≤p.evs.length) (u0 u1 u2:Value) (W:World) (h0:RepI W (fun b=>b<W.heap.size) (.str p.name) u0) (h1:RepI W (fun b=>b<W.heap.size) (.isl 2 (p.vars.map eVr)) u1) (h2:RepI W (fun b=>b<W.heap.size) (.isl 5 (p.evs.map eEv)) u2) :
  Calls Tryz.prog 81 #[.agg #[u0,u1,u2],.int .i64 k] W fun e w'=>∃vv,e=.returned vv∧Ext W w'∧RepI w' (fun b=>W.heap.size≤b∧b<w'.heap.size) (.isl 1 ((stV p k).map eI)) vv:=by
 refine (callsIn_wide (n:=5)).1 ?_
 refine callsIn_of_wp_marks Tryz.func81 rfl trivial ?_ rfl
 simp only[Tryz.ntmps81,dx,ej,fq,Nat.reduceAdd,Nat.reduceSub,ig,ii,ij,ik,ee,da]
 have hSt:=fun w=>D5 u0 u1 u2 w
 have H0:=KA h0
 have H1:=KA h1
 have H2:=KA h2
 have HK:=KA hk
 clear h0 h1 h2 hk
 gi_wp2_with (refine⟨trivial,?_⟩;gi_at_call 132;refine (callsIn_wide.2 (hSt _)).mono ?_;rintro e w ⟨rfl,rfl⟩)
 generalize hK:Exit.inBlock _ _=K
 obtain⟨W0,G8⟩:∃W0,(((W.alloc (.cells #[u0,u1,u2] 65)).alloc (.cells #[.int .i64 k] 3)).alloc (.cells #[.slice none 0 0] 24)).alloc (.cells #[u0,u1,u2] 65)=W0:=⟨_,rfl⟩
 have DW:W0.heap.size=W.heap.size+4:=by rw[←G8];simp
 have hb0:Below W.heap.size W W0:=by rw[←G8];exact ((((Below.refl _ W).alloc kS _).alloc kS _).alloc (by simp;omega) _).alloc (by simp;omega) _
 have c1:W0.heap[W.heap.size+1]? = some (.cells #[.int .i64 k] 3):=by
  rw[←G8,Below.heap_alloc _ _ _ kS,Below.heap_alloc _ _ _ kS]
  have:=World.alloc_heap_new (W.alloc (.cells #[u0,u1,u2] 65)) (.cells #[.int .i64 k] 3)
  rwa [World.size_alloc]at this
 have c2:W0.heap[W.heap.size+2]? = some (.cells #[.slice none 0 0] 24):=by
  rw[←G8,Below.heap_alloc _ _ _ kS]
  have:=World.alloc_heap_new ((W.alloc (.cells #[u0,u1,u2] 65)).alloc (.cells #[.int .i64 k] 3)) (.cells #[.slice none 0 0] 24)
  rwa [World.size_alloc,World.size_alloc]at this
 have c3:W0.heap[W.heap.size+3]? = some (.cells #[u0,u1,u2] 65):=by
  rw[←G8]
  have:=World.alloc_heap_new (((W.alloc (.cells #[u0,u1,u2] 65)).alloc (.cells #[.int .i64 k] 3)).alloc (.cells #[.slice none 0 0] 24)) (.cells #[u0,u1,u2] 65)
  rwa [World.size_alloc,World.size_alloc,World.size_alloc]at this
 clear hSt
 rw[G8]
 clear G8
 refine C5 (F:=Fence.wide) rfl (fun _=>trivial) oM (gf:=164) (lb:=#[.pointer (some ⟨W.heap.size+1+1+1,0,none⟩)]) rfl (fC Tryz.func164 kE rfl) ?_
 intro fn rec W1 TW EH
 have OH:W1.heap.size=W.heap.size+6:=by rw[←EH];simp;omega
 have xJ:Below W0.heap.size W0 W1:=by rw[←EH];exact ((Below.refl _ W0).alloc kS _).alloc kS _
 have bO:W1.heap[W0.heap.size+1]? = some (.loop (rec .ready none)):=by
  rw[←EH];have:=World.alloc_heap_new (W0.alloc (.deferred (some []))) (.loop (rec .ready none));rwa [World.size_alloc]at this
 have hd1:W1.heap[W0.heap.size]? = some (.deferred (some [])):=by
  rw[←EH];exact (Below.heap_alloc _ _ _ kS).trans (World.alloc_heap_new W0 _)
 have hp:RepI W1 (fun b=>b<W.heap.size∨b=W.heap.size+3) (.iptr [.str p.name,.isl 2 (p.vars.map eVr),.isl 5 (p.evs.map eEv)] 0) (.pointer (some ⟨W.heap.size+3,0,none⟩)):=by
  have hm:∀{x:IV} {u:Value},RepI W (fun b=>b<W.heap.size) x u→RepI W1 (fun b=>b<W.heap.size∨b=W.heap.size+3) x u:=fun h=>h.mono (fun _ h=>.inl h) (fun b hb=>((xJ.block b oM).trans (hb0.block b hb)))
  have kY:W1.heap[W.heap.size+3]? = some (.cells #[u0,u1,u2] 65):=(xJ.block _ oM).trans c3
  refine .iptr _ 0 (W.heap.size+3) 0 (fun j=>match j with|0=>u0|1=>u1|_=>u2) (.inr rfl) (fun j a hj=>?_) (fun j a hj=>?_)
  ·match j,hj with
   |0,_=>simp[World.cell?,kY]
   |1,_=>simp[World.cell?,kY]
   |2,_=>simp[World.cell?,kY]
  ·match j,hj with
   |0,hj=>cases hj;exact hm H0.out
   |1,hj=>cases hj;exact hm H1.out
   |2,hj=>cases hj;exact hm H2.out
 refine (R5 4 oM p hS hO (W0.heap.size+1) (W.heap.size+3) W1 (fun b=>b<W.heap.size∨b=W.heap.size+3) (fun b hb=>by omega) hp
  (fun i A=>Below W1.heap.size W1 A∧i≤k)
  (fun A=>Below W.heap.size W A∧A.heap[W0.heap.size]? = some (.deferred (some []))∧A.heap[W0.heap.size+1]? = some (.loop (rec .done (some .ret)))∧W1.heap.size≤A.heap.size∧∃vv,A.heap[W.heap.size+2]? = some (.cells #[vv] 24)∧RepI A (fun b=>W1.heap.size≤b∧b<A.heap.size) (.isl 1 ((stV p k).map eI)) vv)
  (fun i A B h hb=>⟨h.1.trans hb,h.2⟩) ?yield ⟨Below.refl _ _,aj _⟩).mono ?after
 case after =>
  rintro e w' ⟨⟨v,rfl⟩,⟨_,ZNO⟩|⟨hbw,hdw,hlw,hsw,vv,hcw,hvw⟩⟩
  ·exact absurd ZNO (by have:=HK.out;omega)
  ·have hE:=run_endLoop (P:=Tryz.prog) hlw (by rw[TW];simp)
   rw[TW]at hE
   refine⟨some .ret,_,hE,?_⟩
   refine wpIn_ret ?_
   rw[←hK]
   simp only[Exit.inBlock,Exit.then]
   clear hE
   generalize hlp:Obj.loop _=lo
   have hd2:(w'.putObj (W0.heap.size+1) lo).heap[W0.heap.size]? = some (.deferred (some [])):=by rw[World.putObj_heap_other oM];exact hdw
   refine⟨by simp,.inl ⟨_,_,rfl,run_takeDeferred hd2,?_⟩⟩
   have hc4:(((w'.putObj (W0.heap.size+1) lo).putObj W0.heap.size (.deferred none)).heap[W.heap.size+2]?)=some (.cells #[vv] 24):=by
    rw[World.putObj_heap_other oM,World.putObj_heap_other oM];exact hcw
   have nX:((w'.putObj (W0.heap.size+1) lo).putObj W0.heap.size (.deferred none)).cell? ⟨W.heap.size+1+1,0,none⟩=some vv:=by simp[World.cell?,hc4]
   refine⟨vv,?_,vv,rfl,⟨hbw.os,hbw.tape,hbw.output,by simp;exact hbw.size,fun b hb=>by rw[World.putObj_heap_other oM,World.putObj_heap_other oM];exact hbw.block b hb⟩,?_⟩
   ·simp[results,Tryz.f81,go_sem,nX]
   ·refine hvw.mono (fun b hb=>⟨by omega,by simp;exact hb.2⟩) (fun b hb=>?_)
    rw[World.putObj_heap_other oM,World.putObj_heap_other oM]
 case yield =>
  rintro i v Wy hi ⟨yO,b8⟩ hsy hvy
  have hly:Wy.heap[W0.heap.size+1]? = some (.loop (rec .ready none)):=(yO.block _ oM).trans bO
  have hdy:Wy.heap[W0.heap.size]? = some (.deferred (some [])):=(yO.block _ oM).trans hd1
  have hy:=run_yield (P:=Tryz.prog) (args:=#[.int .i64 i,v]) hly (by rw[TW];rfl)
  refine⟨_,_,_,_,hy,roundIn_of_wpIn trivial ?_⟩
  have hbr:=run_beginRound (P:=Tryz.prog) hly (by rw[TW])
  have hrc:rec=rec:=rfl
  obtain⟨Wb,hWb⟩:∃Wb,Wy.putObj (W0.heap.size+1) (.loop {rec .ready none with state:=.busy})=Wb:=⟨_,rfl⟩
  have hlb:Wb.heap[W0.heap.size+1]? = some (.loop {rec .ready none with state:=.busy}):=by rw[←hWb];exact World.putObj_heap_same oM
  have hob:∀b,b≠W0.heap.size+1→Wb.heap[b]? = Wy.heap[b]?:=fun b hb=>by rw[←hWb];exact World.putObj_heap_other hb
  have hsb:Wb.heap.size=Wy.heap.size:=by rw[←hWb];simp
  have ZLv:Wb.os=Wy.os∧Wb.tape=Wy.tape∧Wb.output=Wy.output:=by rw[←hWb];exact⟨rfl,rfl,rfl⟩
  rw[hWb]at hbr
  clear hWb hy
  have qF:=fun jump=>run_endRound (P:=Tryz.prog) jump hlb
  rw[TW]at qF⊢
  simp only at qF⊢
  have k1:Wb.cell? ⟨W.heap.size+1,0,none⟩=some (.int .i64 k):=by
   have hcb:Wb.heap[W.heap.size+1]? = some (.cells #[.int .i64 k] 3):=(hob _ oM).trans ((yO.block _ oM).trans ((xJ.block _ oM).trans c1))
   simp[World.cell?,hcb]
  have ZII:Wb.heap[W.heap.size+2]? = some (.cells #[.slice none 0 0] 24):=(hob _ oM).trans ((yO.block _ oM).trans ((xJ.block _ oM).trans c2))
  have k2:Wb.cell? ⟨W.heap.size+1+1,0,none⟩=some (.slice none 0 0):=by simp[World.cell?,ZII]
  have k3:Wb.frozen? ⟨W.heap.size+1+1,0,none⟩=false:=by simp[World.frozen?,ZII]
  have HS:=KA (show W0.heap.size=W.heap.size+4∧W1.heap.size=W.heap.size+6∧Wb.heap.size=Wy.heap.size∧W1.heap.size≤Wy.heap.size from⟨DW,OH,hsb,hsy⟩)
  obtain⟨A,c,hv,_⟩:=BI hvy
  rw[aa]at hv
  subst hv
  have HV:=KA hvy
  have HL:=KA (And.intro hly (And.intro hdy hlb))
  have HB:=KA (And.intro hob ZLv)
  have HC:=KA ZII
  have HE:=KA qF
  clear DW OH hsb hsy c1 c2 c3 bO hd1 hvy hly hdy hlb hob ZLv ZII qF
  generalize W0.heap.size=d0 at *
  generalize hl0:d0+1=l0 at *
  have HIK:=KA b8
  clear b8
  by_cases hek:i=k
  ·have heq:((i:Int)==(k:Int))=true:=by rw[hek];simp
   have HEK:=KA hek
   clear hek
   gi_wp2
   obtain⟨hob,ZCg,ZCh,ZCi⟩:=HB.out
   obtain⟨hly,hdy,hlb⟩:=HL.out
   obtain⟨z0,z1,z2,z3⟩:=HS.out
   obtain⟨Wc,hWc⟩:∃Wc,Wb.setCell ⟨W.heap.size+1+1,0,none⟩ (.slice A (stV p i).length c)=Wc:=⟨_,rfl⟩
   have hoc:∀b,b≠W.heap.size+2→Wc.heap[b]? = Wb.heap[b]?:=fun b hb=>by rw[←hWc];exact Below.heap_setCell _ _ _ _ (by simp;omega)
   have hsc:Wc.heap.size=Wb.heap.size:=by rw[←hWc];simp[World.setCell]
   have ZKZ:Wc.os=Wb.os∧Wc.tape=Wb.tape∧Wc.output=Wb.output:=by rw[←hWc];exact⟨rfl,rfl,rfl⟩
   have nX:Wc.heap[W.heap.size+2]? = some (.cells #[.slice A (stV p i).length c] 24):=by
    have YS:Wb.heap[W.heap.size+1+1]? = some (.cells #[.slice none 0 0] 24):=HC.out
    rw[←hWc]
    show _[W.heap.size+1+1]? = _
    simp[World.setCell,Array.getElem?_modify,YS]
   rw[hWc]
   have hlc:Wc.heap[l0]? = some (.loop {rec .ready none with state:=.busy}):=(hoc _ oM).trans hlb
   have hE:=run_endRound (P:=Tryz.prog) (some .ret) hlc
   rw[TW]at hE
   refine⟨_,_,hE,.inr ⟨rfl,⟨?_,?_,?_,?_,?_⟩,?_,?_,?_,.slice A (stV p i).length c,?_,?_⟩⟩
   ·exact ZKZ.1.trans (ZCg.trans (yO.os.trans (xJ.os.trans hb0.os)))
   ·exact ZKZ.2.1.trans (ZCh.trans (yO.tape.trans (xJ.tape.trans hb0.tape)))
   ·exact ZKZ.2.2.trans (ZCi.trans (yO.output.trans (xJ.output.trans hb0.output)))
   ·simp;omega
   ·intro b hb
    rw[World.putObj_heap_other oM,hoc _ oM,hob _ oM,yO.block b oM,xJ.block b oM,hb0.block b hb]
   ·rw[World.putObj_heap_other oM,hoc _ oM,hob _ oM];exact hdy
   ·exact World.putObj_heap_same oM
   ·simp;omega
   ·rw[World.putObj_heap_other oM];exact nX
   ·rw[←HEK.out]
    refine HV.out.mono (fun b hb=>⟨hb.1,by simp;omega⟩) (fun b hb=>?_)
    rw[World.putObj_heap_other oM,hoc _ oM,hob _ oM]
  ·have heq:((i:Int)==(k:Int))=false:=by simp;omega
   have HEK:=KA hek
   clear hek
   gi_wp2
   obtain⟨hob,ZCg,ZCh,ZCi⟩:=HB.out
   obtain⟨hly,hdy,hlb⟩:=HL.out
   obtain⟨z0,z1,z2,z3⟩:=HS.out
   have hE:=run_endRound (P:=Tryz.prog) none hlb
   rw[TW]at hE
   refine⟨_,_,hE,.inl ⟨rfl,⟨⟨?_,?_,?_,?_,?_⟩,?_⟩,⟨?_,?_,?_,?_,?_⟩⟩⟩
   ·exact ZCg.trans yO.os
   ·exact ZCh.trans yO.tape
   ·exact ZCi.trans yO.output
   ·simp;omega
   ·intro b hb
    by_cases hbl:b=l0
    ·subst hbl
     refine (World.putObj_heap_same oM).trans ?_
     rw[←yO.block _ hb,hly,TW]
     rfl
    ·rw[World.putObj_heap_other hbl,hob _ hbl,yO.block b hb]
   ·have:=HIK.out;have:=HEK.out;omega
   ·simp;omega
   ·exact ZCg
   ·exact ZCh
   ·exact ZCi
   ·intro b hb hf
    rw[World.putObj_heap_other oM,hob _ oM]
attribute [local go_sem ↓] xC UB iC rC wD fB uC gD dC mD LA lB wC MA mB kC QB GB lC KB FA sC eB bB vB aB yB JC nB xD tC uD iD eE pD bE aE TB ZC
attribute [local go_sem] zB EA YE wB ZB fE tD sD rD KL zL nD nC pC mC YD lA UC AA VC CA qB aop AE QE TD LC MD GC LD AJ XG GF amm zF aC MB sF SD IF comma ZD QG EJ ZG AF wJ dF uF vE yJ eqC eqF aG cellsOf rB bC RB iF NI rd rdI IE mk fD AV.cell List.all_cons List.all_nil Bool.and_true Bool.true_and Bool.and_self List.length_cons List.length_nil List.length_append Nat.reduceAdd Nat.reduceSub Nat.reduceMul Nat.zero_add Nat.add_zero List.cons_append List.nil_append List.append_assoc List.append_nil List.getElem?_cons_zero List.getElem?_cons_succ List.getElem?_nil List.set_cons_zero List.set_cons_succ List.drop_zero List.drop_succ_cons List.take_zero List.take_succ_cons List.take_nil List.drop_nil List.map_cons List.map_nil Option.map_some if_true if_false Bool.false_eq_true and_self true_and and_true Nat.reduceLeDiff Nat.reduceLT Nat.le_refl Nat.reduceEqDiff ite_true ite_false beq_self_eq_true beq_true beq_false Bool.not_true Bool.not_false Bool.true_beq Bool.false_beq lE SB iB jD kD yC vC jC qC yD vD mE pA YL sK JL XL rG iG sG dG geI gtI tG decide_true decide_false room List.getElem?_map List.length_map List.length_take Int.toNat_natCast Nat.min_def Nat.min_self dD XD ED pB GD lF zA List.getElem_cons_zero List.getElem_cons_succ
def a_vState:AFunc:=({c:=_}:CF Tryz.prog 32).c
theorem NZ:qA Tryz.prog 32=some a_vState:=by kernel_rfl

theorem AY (p:Pr) (hS:PrS p) (hO:OkA p) (k:Nat) (hk:k≤p.evs.length) (b l:List Row):QA Tryz.prog 81 [.agg [.v (.str p.name),.v (.isl 2 (p.vars.map eVr)),.v (.isl 5 (p.evs.map eEv))],.v (.int .i64 k)] b l (fun r b' l'=>r=.v (.isl 1 ((stV p k).map eI))∧b'=b∧l'=l):=by
 refine QA.of_newA ⟨_,Tryz.func81,by kernel_rfl,by kernel_rfl⟩ (fun F L w us hF hr=>?_)
 obtain⟨v,u1,e1,r1,hr1⟩:=VE hr
 obtain⟨kv,u2,e2,r2,PY⟩:=VE hr1
 have:=yG PY
 subst this
 obtain rfl:us=#[v,kv]:=gj.1 (by rw[e1,e2])
 cases r2.vI
 obtain⟨cs,rfl,hc⟩:=r1.aggL
 obtain⟨c0,t0,f0,q0,hc0⟩:=VE hc
 obtain⟨c1,t1,f1,q1,TI⟩:=VE hc0
 obtain⟨c2,t2,f2,q2,YS⟩:=VE TI
 have:=yG YS
 subst this
 obtain rfl:cs=#[c0,c1,c2]:=gj.1 (by rw[f0,f1,f2])
 have up:∀{x:IV} {u:Value},RepA w F L (.v x) u→RepI w (fun b=>b<w.heap.size) x u:=fun h=>h.vI.mono hF (fun _ _=>rfl)
 refine (ZBL p hS hO k hk c0 c1 c2 w (up q0) (up q1) (up q2)).mono ?_
 rintro e w' ⟨vv,rfl,he,hv⟩
 refine⟨he,vv,_,fun b=>F b∨(w.heap.size≤b∧b<w'.heap.size),rfl,fun _ h=>.inl h,fun b hb h=>h.elim id (fun h=>by omega),fun b h=>h.elim (fun h=>fe (hF b h) he.size) (fun h=>h.2),.v _ _ (hv.mono (fun _ h=>.inr h) (fun _ _=>rfl)),rfl,rfl,rfl⟩
end Go.Proofs.YtmaokjojbjdpoaaGreatDoor
namespace Go.Proofs.YtmaokjojbjdpoaaGreatDoor
set_option linter.unusedVariables false
set_option linter.unusedSimpArgs false
attribute [local go_sem ↓] xC UB iC rC wD fB uC gD dC mD LA lB wC MA mB kC QB GB lC KB FA sC eB bB vB aB yB JC nB xD tC uD iD eE pD bE aE TB ZC
attribute [local go_sem] zB EA YE wB ZB fE tD sD rD KL zL nD nC pC mC YD lA UC AA VC CA qB aop AE QE TD LC MD GC LD AJ XG GF amm zF aC MB sF SD IF comma ZD QG EJ ZG AF wJ dF uF vE yJ eqC eqF aG cellsOf rB bC RB iF NI rd rdI IE mk fD AV.cell List.all_cons List.all_nil Bool.and_true Bool.true_and Bool.and_self List.length_cons List.length_nil List.length_append Nat.reduceAdd Nat.reduceSub Nat.reduceMul Nat.zero_add Nat.add_zero List.cons_append List.nil_append List.append_assoc List.append_nil List.getElem?_cons_zero List.getElem?_cons_succ List.getElem?_nil List.set_cons_zero List.set_cons_succ List.drop_zero List.drop_succ_cons List.take_zero List.take_succ_cons List.take_nil List.drop_nil List.map_cons List.map_nil Option.map_some if_true if_false Bool.false_eq_true and_self true_and and_true Nat.reduceLeDiff Nat.reduceLT Nat.le_refl Nat.reduceEqDiff ite_true ite_false beq_self_eq_true beq_true beq_false Bool.not_true Bool.not_false Bool.true_beq Bool.false_beq lE SB iB jD kD yC vC jC qC yD vD mE pA YL sK JL XL rG iG sG dG geI gtI tG decide_true decide_false room List.getElem?_map List.length_map List.length_take Int.toNat_natCast Nat.min_def Nat.min_self dD XD ED pB GD lF zA List.getElem_cons_zero List.getElem_cons_succ
def a_r54fits:AFunc:=({c:=_}:CF Tryz.prog 55).c
theorem xX:qA Tryz.prog 55=some a_r54fits:=by kernel_rfl
def sS:List (Nat×Nat):=[(6,6),(8,8),(28,54)]

def fY (p:Pr) (k:Nat):Bool:=(List.range k).all fun i=>(p.vars.getD i EO).name==qH i
def CU (p:Pr) (c:Int):Bool:=decide (p.evs.length=0∨(p.evs.getD (p.evs.length-1) PI).time≤c)
def dI (p:Pr) (s:Sv) (now:Int):Bool:=(p.name==s.name)&&(decide (p.vars.length=s.vars.length)&&(fY p s.vars.length&&(decide (rM p=s.vars)&&CU p (CH s now))))
theorem OW (p:Pr) (hS:PrS p) (hO:OkA p) (s:Sv) (h8:s.vars.length≤8) (now:Int) (b l:List Row):QA Tryz.prog 55 [.agg [.v (.str p.name),.v (.isl 2 (p.vars.map eVr)),.v (.isl 5 (p.evs.map eEv))],.agg (zSA s),.v (.int .i64 now)] b l (fun r b' l'=>r=.v (.bool (dI p s now))∧b'=b∧l'=l):=by
 refine XA xX rfl kE ?_
 intro B g hB hR hE hA;simp only[zA]at hA
 have hnv:=hS.nv
 have qG:=hS.ne
 have hbn:(p.name != s.name)=!(p.name==s.name):=rfl
 cases t1:(p.name==s.name)
 ·simp (disch:=first|decide|omega) only[a_r54fits,hA,hbn,t1,aa,go_sem]
  exact ZA (xs:=[.v (.bool false)]) ⟨by unfold dI;rw[t1];rfl,rfl,rfl⟩
 by_cases t2:p.vars.length=s.vars.length
 case neg =>
  have d2:((p.vars.length:Int) != (s.vars.length:Int))=true:=by simp;omega
  simp (disch:=first|decide|omega) only[a_r54fits,hA,hbn,t1,d2,aa,go_sem]
  exact ZA (xs:=[.v (.bool false)]) ⟨by unfold dI;rw[t1,ag t2];rfl,rfl,rfl⟩
 have d2:((p.vars.length:Int) != (s.vars.length:Int))=false:=by simp;omega
 simp (disch:=first|decide|omega) only[a_r54fits,hA,hbn,t1,d2,aa,go_sem]
 refine QA.nxt (kU p hS hO _ _) ?_
 have hfv:(rM p).length=p.vars.length:=nG _
 simp (disch:=first|decide|omega) only[hA,hbn,t1,d2,aa,go_sem]
 refine JA (ι:=Nat) sS (fun i=>[(8,.v (.int .i64 i))]) 2 (fun i=>[rK p,uG s])
  (fun i=>i≤p.vars.length∧∀j,j<i→((p.vars.getD j EO).name==qH j)=true∧(rM p).getD j 0=s.vars.getD j 0) (fun i=>p.vars.length-i) 0 ⟨aj _,fun j hj=>by omega⟩ kM kA kF ?_
 rintro g1 qF TE sA i ⟨hi,h0⟩
 unfold rK uG
 by_cases yA:i<p.vars.length
 ·have IU:=ZS yA
  have hgf:((rM p).map eI)[i]? = some [.int .i64 ((rM p).getD i 0)]:=IC oM
  have sL:(s.vars.map eI)[i]? = some [.int .i64 (s.vars.getD i 0)]:=IC oM
  have hgn:(p.vars.getD i EO).name=p.vars[i].name:=by rw[YA yA]
  simp (disch:=first|decide|omega) only[hA,sA,IU,hfv,aa,go_sem]
  refine QA.nxt (U6 i oM _ _) ?_
  have hb:(p.vars[i].name != qH i)=!(p.vars[i].name==qH i):=rfl
  cases t3:(p.vars[i].name==qH i)
  ·simp (disch:=first|decide|omega) only[hA,sA,IU,hgf,sL,hb,t3,aa,go_sem]
   exact ZA (xs:=[.v (.bool false)]) ⟨by unfold dI;rw[t1,ae t2,show fY p s.vars.length=false from ew.2 ⟨i,ba.2 oM,by rw[hgn,t3];simp⟩];rfl,rfl,rfl⟩
  ·by_cases t4:(rM p).getD i 0=s.vars.getD i 0
   ·have d4:((rM p).getD i 0 != s.vars.getD i 0)=false:=by rw[t4];simp
    simp (disch:=first|decide|omega) only[hA,sA,IU,hgf,sL,hb,t3,d4,aa,go_sem]
    refine⟨i+1,⟨yA,fun j hj=>?_⟩,by simp only;omega,?_⟩
    ·rcases bp j i with YG|YG
     ·exact h0 j YG
     ·obtain rfl:j=i:=by omega
      exact⟨by rw[hgn];exact t3,t4⟩
    ·exact VA.kround (p:=sS) (k:=2) kQ kA rfl qF kS kV hR kL
   ·have d4:((rM p).getD i 0 != s.vars.getD i 0)=true:=by simpa using t4
    simp (disch:=first|decide|omega) only[hA,sA,IU,hgf,sL,hb,t3,d4,aa,go_sem]
    have ZGT:decide (rM p=s.vars)=false:=ag (fun h=>t4 (by rw[h]))
    exact ZA (xs:=[.v (.bool false)]) ⟨by unfold dI;rw[ZGT];simp[one],rfl,rfl⟩
 obtain rfl:i=p.vars.length:=by omega
 have t3:fY p s.vars.length=true:=by
  unfold fY
  rw[bn]
  exact fun j hj=>(h0 j (by have:=ba.1 hj;omega)).1
 have t4:decide (rM p=s.vars)=true:=ae (C3 oM (fun j hj=>(h0 j oM).2))
 have hr:dI p s now=CU p (CH s now):=by unfold dI;rw[t1,ae t2,t3,t4];rfl
 rw[hr]
 simp (disch:=first|decide|omega) only[hA,sA,hfv,aa,go_sem]
 refine QA.nxt (rN _ _ _ _ s now _ _) ?_
 by_cases hz:p.evs.length=0
 ·have dz:((p.evs.length:Int)==0)=true:=by rw[hz];rfl
  simp (disch:=first|decide|omega) only[hA,sA,dz,aa,go_sem]
  exact ZA (xs:=[.v (.bool true)]) ⟨by unfold CU;rw[ae (.inl hz)];rfl,rfl,rfl⟩
 ·have dz:((p.evs.length:Int)==0)=false:=dr.2 oM
  have yA:p.evs.length-1<p.evs.length:=by omega
  have yH:=zH yA
  have TI:(p.evs.length:Int)-1=((p.evs.length-1:Nat):Int):=by omega
  simp (disch:=first|decide|omega) only[hA,sA,dz,TI,yH,aa,go_sem]
  exact ZA (xs:=[.v (.bool (decide (p.evs[p.evs.length-1].time≤CH s now)))]) ⟨by unfold CU;rw[YA yA];simp[hz,one],rfl,rfl⟩
noncomputable def bkL (t:Tr) (p n i:Nat):List (Nat×Nat):=(List.range (n-i)).flatMap fun k=>jE t (p,n-k)
theorem ZHO {t:Tr} {p n i:Nat} {y:Nat×Nat} (h:y∈bkL t p n i):∃j,i<j∧j≤n∧y∈jE t (p,j):=by
 unfold bkL at h
 obtain⟨k,hk,hy⟩:=jn.1 h
 have:=ba.1 hk
 exact⟨n-k,by omega,by omega,hy⟩
theorem ZHc {t:Tr} {p n i j:Nat} {y:Nat×Nat} (h1:i<j) (h2:j≤n) (hy:y∈jE t (p,j)):y∈bkL t p n i:=by
 unfold bkL
 exact jn.2 ⟨n-j,ba.2 oM,by rwa [show n-(n-j)=j by omega]⟩
structure Pst (t:Tr) (x:Nat×Nat) (c:Nat→Nat) (Q:List (Nat×Nat)):Prop where
 q:∀y∈Q,y∈ids t∧Le t y x
 le:∀p i,i<c p→p<t.length∧i<(nA t p).length∧Le t (p,i+1) x
 src:x∈Q∨x.2≤c x.1
 cl:∀z∈ids t,z.2≤c z.1→∀y∈jE t z,y∈Q∨y.2≤c y.1
theorem Pst.start {t:Tr} {x:Nat×Nat} (hx:x∈ids t):Pst t x (fun _=>0) [x]:=by
 refine⟨fun y hy=>?_,fun p i h=>by simp at h,.inl kS,fun z hz h=>?_⟩
 ·simp only[lx]at hy;subst hy;exact⟨hx,.refl _⟩
 ·have:=(AC.1 hz).2.1
  omega
theorem Pst.cle {t:Tr} {x:Nat×Nat} {c:Nat→Nat} {Q:List (Nat×Nat)} (h:Pst t x c Q) (p:Nat):c p≤(nA t p).length:=by
 cases hc:c p with
 |zero=>omega
 |succ n=>have:=(h.le p n oM).2.1;omega
theorem Pst.skip {t:Tr} {x y:Nat×Nat} {c:Nat→Nat} {Q:List (Nat×Nat)} (h:Pst t x c (y::Q)) (hc:y.2≤c y.1):Pst t x c Q:=by
 refine⟨fun z hz=>h.q z (by simp[hz]),h.le,?_,fun z hz wV w hw=>?_⟩
 ·rcases h.src with h1|h1
  ·rcases cz.1 h1 with rfl|h2
   ·exact .inr hc
   ·exact .inl h2
  ·exact .inr h1
 ·rcases h.cl z hz wV w hw with h1|h1
  ·rcases cz.1 h1 with rfl|h2
   ·exact .inr hc
   ·exact .inl h2
  ·exact .inr h1
theorem Pst.mark {t:Tr} (hv:Vok t) {x:Nat×Nat} {p n:Nat} {c:Nat→Nat} {Q:List (Nat×Nat)} (h:Pst t x c ((p,n)::Q)) (hc:c p<n):Pst t x (fUp c p n) (Q++bkL t p n (c p)):=by
 obtain⟨hy,hl⟩:=h.q (p,n) kS
 obtain⟨n,rfl⟩:∃k,n=k+1:=⟨n-1,by have:=(AC.1 hy).2.1;simp only at this;omega⟩
 obtain⟨hp,hn⟩:=yE.1 hy
 have up:∀q,c q≤fUp c p (n+1) q:=fun q=>by
  by_cases hq:q=p
  ·subst hq;rw[ZJ];omega
  ·rw[XU hq];exact ai _
 refine⟨fun z hz=>?_,fun q i hi=>?_,?_,fun z hz wV w hw=>?_⟩
 ·rcases bu.1 hz with hz|hz
  ·exact h.q z (by simp[hz])
  ·obtain⟨j,h1,h2,h3⟩:=ZHO hz
   obtain⟨j,rfl⟩:∃k,j=k+1:=⟨j-1,by omega⟩
   obtain⟨h4,h5⟩:=V4 hv (yE.2 ⟨hp,by omega⟩) h3
   exact⟨h4,Le.trans (.inr h5) ((y9 h2 oM).trans hl)⟩
 ·by_cases hq:q=p
  ·subst hq
   rw[ZJ]at hi
   exact⟨hp,by omega,(y9 oM oM).trans hl⟩
  ·rw[XU hq]at hi
   exact h.le q i hi
 ·rcases h.src with h1|h1
  ·rcases cz.1 h1 with rfl|h2
   ·exact .inr (by simp only;rw[ZJ];omega)
   ·exact .inl (bu.2 (.inl h2))
  ·exact .inr (dq h1 (up _))
 ·have old:z.2≤c z.1→w∈Q++bkL t p (n+1) (c p)∨w.2≤fUp c p (n+1) w.1:=fun h0=>by
   rcases h.cl z hz h0 w hw with h1|h1
   ·rcases cz.1 h1 with rfl|h2
    ·exact .inr (by simp only;rw[ZJ];omega)
    ·exact .inl (bu.2 (.inl h2))
   ·exact .inr (dq h1 (up _))
  obtain⟨zp,zi⟩:=z
  by_cases hq:zp=p
  ·subst hq
   simp only at wV
   rw[ZJ]at wV
   by_cases h0:zi≤c zp
   ·exact old h0
   ·exact .inl (bu.2 (.inr (ZHc oM wV hw)))
  ·simp only at wV
   rw[XU hq]at wV
   exact old wV
theorem Pst.all {t:Tr} (hv:Vok t) {x:Nat×Nat} {c:Nat→Nat} (h:Pst t x c []):∀n z,rk t z=n→z∈ids t→z.2≤c z.1→∀w∈ids t,Le t w z→w.2≤c w.1:=by
 intro n
 induction n using Nat.strongRecOn with
 |_ n ih =>
   intro z hn hz wV w hw hl
   rcases (ZHP hv hz hw).1 hl with rfl|⟨y,hy,cU⟩
   ·exact wV
   ·obtain⟨h1,h2⟩:=V4 hv hz hy
    rcases h.cl z hz wV y hy with h3|h3
    ·simp at h3
    ·exact ih (rk t y) (by rw[←hn];exact rk_lt hv hz h2) y rfl h1 h3 w hw cU
theorem Pst.done {t:Tr} (hv:Vok t) {x:Nat×Nat} (hx:x∈ids t) {c:Nat→Nat} (h:Pst t x c []) {p:Nat} (hp:p<t.length):c p=vc t x p:=by
 refine ZJQ (n:=(nA t p).length) (h.cle p) vc_le (fun j hj=>?_)
 rw[←ZJG hj]
 constructor
 ·exact fun hl=>(h.le p j hl).2.2
 ·intro hl
  have hs:x.2≤c x.1:=h.src.resolve_left kS
  have:=h.all hv (rk t x) x rfl hx hs (p,j+1) (yE.2 ⟨hp,hj⟩) hl
  exact this
theorem UW {t:Tr} {x:Nat×Nat}:eC t x=0↔JB t.length x.1 (uA t x)=true∧inB (uA t x).time 0 1099511627776=true∧¬(uA t x).time<xI t x∧(uA t x).asg.length≤8∧sB (gJ (t.getD x.1 dfPr).vars.length (uA t x).asg) (uA t x).asg.length=0:=by
 unfold eC
 cases h1:JB t.length x.1 (uA t x)
 ·simp
 cases h2:inB (uA t x).time 0 1099511627776
 ·simp
 by_cases h3:(uA t x).time<xI t x
 ·simp[h3]
 by_cases h4:8<(uA t x).asg.length
 ·have h5:¬(uA t x).asg.length≤8:=by omega
  simp[h3,h4,h5]
 ·have h5:(uA t x).asg.length≤8:=by omega
  simp[h3,h4,h5]
theorem eP {t:Tr} (h:Vok t) {x:Nat×Nat} (hx:x∈ids t) {k:Int} (hk:k=2∨k=3) (hkx:(uA t x).kind=k):TC t k (uA t x).msg=some x:=by
 rcases hk with rfl|rfl
 ·exact h.paired.send hx hkx
 ·exact (h.paired.recv hx hkx).1
theorem ZEW {t:Tr} {x:Nat×Nat} (hx:x∈ids t):uA t x∈nA t x.1:=by
 obtain⟨p,i⟩:=x
 obtain⟨hp,h1,h2⟩:=AC.1 hx
 unfold uA
 simp only at *
 rw[ME hp,YB PI _ (show i-1<t[p].evs.length by omega)]
 exact ak _
theorem ZEF {t:Tr} {p:Nat} {e:Ev} (hp:p<t.length) (he:e∈nA t p):∃i,(p,i+1)∈ids t∧uA t (p,i+1)=e:=by
 obtain⟨i,hi,rfl⟩:=cu he
 refine⟨i,yE.2 ⟨hp,hi⟩,?_⟩
 unfold uA
 simp only[fd]
 exact YB PI _ hi
def Qb (t:Tr) (k j:Nat) (x y:Nat×Nat):Prop:=Hb t x y∧(y=(k,j+2)→Le t x (k,j)∨((uA t (k,j+2)).kind=3∧Le t x (sndr t (k,j+2))))
theorem Qb.trans {t:Tr} {k j:Nat} {x y z:Nat×Nat} (h:Qb t k j x y) (g:Qb t k j y z):Qb t k j x z:=by
 refine⟨h.1.trans g.1,fun e=>?_⟩
 rcases g.2 e with a|⟨a,c⟩
 ·exact .inl ((Le.trans (.inr h.1) a))
 ·exact .inr ⟨a,(Le.trans (.inr h.1) c)⟩
theorem Hb.pos {t:Tr} {x y:Nat×Nat} (h:Hb t x y):1≤y.2:=by
 have d:∀{a c:Nat×Nat},Dir t a c→1≤c.2:=fun {a c} d=>by
  rcases d with ⟨rfl,_⟩|⟨_,hf⟩
  ·exact Nat.le_add_left _ _
  ·exact (YC hf).2.1
 cases h with
 |one h=>exact d h
 |more _ h=>exact d h
theorem IT (v w:List Int) (hv:v.length≤1000000) (b l:List Row):QA Tryz.prog 24 [.v (.isl 1 (v.map eI)),.v (.isl 1 (w.map eI))] b l (fun r b' l'=>r=.v (.bool (decide (v=w)))∧b'=b∧l'=l):=by
 refine XA ZEl rfl kE ?_
 intro B g hB hR hE hA;simp only[zA]at hA
 by_cases hl:v.length=w.length
 ·have hd:((v.length:Int) != (w.length:Int))=false:=by simp[hl]
  simp (disch:=first|decide|omega) only[a_Eq1,hA,hd,go_sem]
  refine JA (ι:=Nat) ZFK (fun i=>[(13,.v (.int .i64 i))]) 0 (fun _=>[])
   (fun i=>i≤v.length∧∀j,j<i→v.getD j 0=w.getD j 0) (fun i=>v.length-i) 0 ⟨aj _,fun j hj=>by omega⟩ kM kA kF ?_
  rintro g1 qF TE sA i ⟨hi,h0⟩
  by_cases yA:i<v.length
  ·have hlw:i<w.length:=by omega
   by_cases he:v[i]=w[i]
   ·have hd2:(v[i] != w[i])=false:=by simp[he]
    simp (disch:=first|decide|omega) only[hA,sA,eI,hd2,go_sem]
    refine⟨i+1,⟨yA,fun j hj=>?_⟩,by simp only;omega,?_⟩
    ·rcases bp j i with YG|YG
     ·exact h0 j YG
     ·have:j=i:=by omega
      subst this
      rw[YA yA,YA hlw,he]
    exact VA.kround (p:=ZFK) (k:=0) kQ kA rfl qF kS kV hR kL
   ·have hd2:(v[i] != w[i])=true:=by simp[he]
    have qG:decide (v=w)=false:=by
     rw[ly];intro h;subst h;exact he rfl
    simp (disch:=first|decide|omega) only[hA,sA,eI,hd2,go_sem]
    exact ZA (xs:=[.v (.bool false)]) ⟨by rw[qG];rfl,rfl,rfl⟩
  ·simp (disch:=first|decide|omega) only[hA,sA,go_sem]
   obtain rfl:i=v.length:=by omega
   have he:decide (v=w)=true:=ae (C3 hl h0)
   exact ZA (xs:=[.v (.bool true)]) ⟨by rw[he];rfl,rfl,rfl⟩
 ·have hd:((v.length:Int) != (w.length:Int))=true:=by simp;omega
  have qG:decide (v=w)=false:=by
   rw[ly];intro h;subst h;exact hl rfl
  simp (disch:=first|decide|omega) only[a_Eq1,hA,hd,go_sem]
  exact ZA (xs:=[.v (.bool false)]) ⟨by rw[qG];rfl,rfl,rfl⟩
def a_wproc:AFunc:=({c:=_}:CF Tryz.prog 66).c
theorem c7:qA Tryz.prog 66=some a_wproc:=by kernel_rfl
def S1:List (Nat×Nat):=[(4,4),(7,8),(43,57)]

theorem U9 {t:Tr} (h:Vok t) {p:Nat} (hp:p<t.length):OkA t[p]:=by
 intro e he a ha
 obtain⟨i,hi,rfl⟩:=cu he
 obtain⟨j,hj,rfl⟩:=cu ha
 have hx:(p,i+1)∈ids t:=yE.2 ⟨hp,by rw[ME hp];exact hi⟩
 have hf:=h.form _ hx
 have qP:=KG hp hi
 unfold eC at hf
 rw[qP]at hf
 split at hf
 ·cases hf
 split at hf
 ·cases hf
 split at hf
 ·cases hf
 have h1:=EG.1 hf j hj
 unfold gJ at h1
 rw[YB FU _ hj,YB dfPr t hp]at h1
 split at h1
 ·cases h1
 rename_i h2
 simp only[Bool.not_eq_true,km,Bool.not_eq_false']at h2
 have h3:=h2.1
 unfold inB at h3
 simp at h3
 omega
theorem Y9 {t:Tr} (h:Small t) {p:Nat} (hp:p<t.length):PrS t[p]:=⟨h.nv _ (ak hp),h.ne _ (ak hp),h.na _ (ak hp)⟩
theorem lI {t:Tr} {p:Nat} (hp:p<t.length):(t.map ePr)[p]? = some [.str t[p].name,.isl 2 (t[p].vars.map eVr),.isl 5 (t[p].evs.map eEv)]:=by
 rw[an,ah hp];rfl
theorem OY (t:Tr) (GW:ID t=true) (hS:Small t) (hN:Nm t) (p k:Nat) (hp:p<t.length) (hk:k≤t[p].evs.length) (b l:List Row):QA Tryz.prog 32 [.agg [.v (.isl 3 (t.map ePr))],.v (.int .i64 p),.v (.int .i64 k)] b l (fun r b' l'=>r=.tup [.v (.isl 1 ((stV t[p] k).map eI)),.v (.int .i64 0)]∧b'=b∧l'=l):=by
 refine XA NZ rfl kE ?_
 intro B g hB hR hE hA;simp only[zA]at hA
 have cV:=fun b l=>yS t hS hN b l
 rw[GW]at cV
 simp only[eT]at cV
 have qG:=hS.ne _ (ak hp)
 have HU:=hS.np
 have zJ:=lI hp
 have d1:decide ((p:Int)<0)=false:=ag oM
 have d2:decide ((p:Int)≥(t.length:Int))=false:=ag oM
 have d2':decide ((t.length:Int)≤(p:Int))=false:=d2
 have d3:decide ((k:Int)<0)=false:=ag oM
 have d4:decide ((k:Int)>(t[p].evs.length:Int))=false:=ag oM
 have d4':decide ((t[p].evs.length:Int)<(k:Int))=false:=d4
 simp (disch:=first|decide|omega) only[a_vState,hA,go_sem]
 refine QA.nxt (cV _ _) ?_
 simp (disch:=first|decide|omega) only[hA,zJ,d1,d2,d2',d3,d4,d4',aa,go_sem]
 refine QA.nxt (AY t[p] (Y9 hS hp) (U9 (vok GW) hp) k hk _ _) ?_
 simp (disch:=first|decide|omega) only[hA,go_sem]
 exact ZA (xs:=[.v (.isl 1 ((stV t[p] k).map eI)),.v (.int .i64 0)])
abbrev zWA (x:Wd):List AV:=[.v (.isl 6 (x.sv.map eSv)),.v (.int .i64 x.net.now),.v (.bool x.net.fifo),.v (.isl 4 (x.net.l.map eMs)),.v (.isl 1 (x.net.tm.map eI)),.v (.isl 2 (x.net.fates.map eFt)),.v (.int .i64 x.now),.v (.int .i64 x.sent),.v (.isl 3 (x.tr.map ePr))]
theorem s5 (w:Wd) (GW:ID w.tr=true) (hS:Small w.tr) (hN:Nm w.tr) (tL:SvsS w.sv) (p:Nat) (hp:p<w.tr.length) (hps:p<w.sv.length) (h8:w.sv[p].vars.length≤8) (b l:List Row):QA Tryz.prog 66 [.agg ((eWd w).map .v),.v (.int .i64 p)] b l (fun r b' l'=>r=.v (.bool (dI w.tr[p] w.sv[p] w.now))∧b'=b∧l'=l):=by
 refine XA c7 rfl kE ?_
 intro B g hB hR hE hA;simp only[zA]at hA
 obtain⟨x,hx⟩:∃x,w.tr[p]=x:=⟨_,rfl⟩
 obtain⟨s,hs⟩:∃s,w.sv[p]=s:=⟨_,rfl⟩
 have zJ:=lI hp
 have sL:=fG hps
 rw[hx]at zJ
 rw[hs]at sL h8
 rw[hx,hs]
 have R8:PrS x:=hx▸Y9 hS hp
 have hxo:OkA x:=hx▸U9 (vok GW) hp
 have hnv:=R8.nv
 have qG:=R8.ne
 have aU:=tL.len
 have HU:=hS.np
 have cS:=fun b l=>OY w.tr GW hS hN p x.evs.length hp (by rw[hx];exact ai _) b l
 rw[hx,show stV x x.evs.length=rM x from rfl]at cS
 have hfv:(rM x).length=x.vars.length:=nG _
 have hbn:(x.name != s.name)=!(x.name==s.name):=rfl
 cases t1:(x.name==s.name)
 ·simp (disch:=first|decide|omega) only[a_wproc,hA,eWd,zJ,sL,hbn,t1,aa,go_sem]
  exact ZA (xs:=[.v (.bool false)]) ⟨by unfold dI;rw[t1];rfl,rfl,rfl⟩
 by_cases t2:x.vars.length=s.vars.length
 case neg =>
  have d2:((x.vars.length:Int) != (s.vars.length:Int))=true:=by simp;omega
  simp (disch:=first|decide|omega) only[a_wproc,hA,eWd,zJ,sL,hbn,t1,d2,aa,go_sem]
  exact ZA (xs:=[.v (.bool false)]) ⟨by unfold dI;rw[t1,ag t2];rfl,rfl,rfl⟩
 have d2:((x.vars.length:Int) != (s.vars.length:Int))=false:=by simp;omega
 have hwl:(nN s.vars).length=s.vars.length:=tI
 simp (disch:=first|decide|omega) only[a_wproc,hA,eWd,zJ,sL,hbn,t1,d2,aa,go_sem]
 refine QA.nxt (zS s.vars h8 _ _) ?_
 simp (disch:=first|decide|omega) only[hA,hwl,aa,go_sem]
 refine JA (ι:=Nat) S1 (fun i=>[(43,.v (.int .i64 i))]) 3 (fun _=>[.live 0 9 [(zWA w)],uG s,rK x])
  (fun i=>i≤s.vars.length∧∀j,j<i→((x.vars.getD j EO).name==qH j)=true) (fun i=>s.vars.length-i) 0 ⟨aj _,fun j hj=>by omega⟩ kM kA kF ?_
 rintro g1 qF TE sA i ⟨hi,h0⟩
 unfold uG rK
 by_cases yA:i<s.vars.length
 ·have hgw:((nN s.vars).map eVr)[i]? = some [.str (qH i),.int .i64 (s.vars.getD i 0)]:=by
   rw[an]
   unfold nN
   rw[CB yA];rfl
  have hlx:i<x.vars.length:=by omega
  have IU:=ZS hlx
  have hgn:(x.vars.getD i EO).name=x.vars[i].name:=by rw[YA hlx]
  have hb:(x.vars[i].name != qH i)=!(x.vars[i].name==qH i):=rfl
  cases t3:(x.vars[i].name==qH i)
  ·simp (disch:=first|decide|omega) only[hA,sA,hgw,IU,hb,t3,hwl,aa,go_sem]
   exact ZA (xs:=[.v (.bool false)]) ⟨by unfold dI;rw[t1,ae t2,show fY x s.vars.length=false from ew.2 ⟨i,ba.2 yA,by rw[hgn,t3];simp⟩];rfl,rfl,rfl⟩
  ·simp (disch:=first|decide|omega) only[hA,sA,hgw,IU,hb,t3,hwl,aa,go_sem]
   refine⟨i+1,⟨yA,fun j hj=>?_⟩,by simp only;omega,?_⟩
   ·rcases bp j i with YG|YG
    ·exact h0 j YG
    ·obtain rfl:j=i:=by omega
     rw[hgn];exact t3
   ·exact VA.kround (p:=S1) (k:=3) kQ kA rfl qF kS kV hR kL
 obtain rfl:i=s.vars.length:=by omega
 have t3:fY x s.vars.length=true:=by
  unfold fY
  rw[bn]
  exact fun j hj=>h0 j (ba.1 hj)
 simp (disch:=first|decide|omega) only[hA,sA,hwl,aa,go_sem]
 refine QA.nxt (cS _ _) ?_
 simp (disch:=first|decide|omega) only[hA,sA,hwl,aa,go_sem]
 refine QA.nxt (JQ _ _ _ _ s w.now _ _ (.inl ⟨_,rfl⟩)) ?_
 simp (disch:=first|decide|omega) only[hA,sA,hwl,aa,go_sem]
 refine QA.nxt (IT (rM x) s.vars oM _ _) ?_
 by_cases t4:rM x=s.vars
 ·have d4:=ae t4
  have hr:dI x s w.now=CU x (CH s w.now):=by unfold dI;rw[t1,ae t2,t3,d4];rfl
  rw[hr]
  by_cases hz:x.evs.length=0
  ·have dz:((x.evs.length:Int)==0)=true:=by rw[hz];rfl
   simp (disch:=first|decide|omega) only[hA,sA,d4,dz,aa,go_sem]
   exact ZA (xs:=[.v (.bool true)]) ⟨by unfold CU;rw[ae (.inl hz)];rfl,rfl,rfl⟩
  ·have dz:((x.evs.length:Int)==0)=false:=dr.2 oM
   have yA:x.evs.length-1<x.evs.length:=by omega
   have yH:=zH yA
   have TI:(x.evs.length:Int)-1=((x.evs.length-1:Nat):Int):=by omega
   simp (disch:=first|decide|omega) only[hA,sA,d4,dz,TI,yH,aa,go_sem]
   exact ZA (xs:=[.v (.bool (decide (x.evs[x.evs.length-1].time≤CH s w.now)))]) ⟨by unfold CU;rw[YA yA];simp[hz,one],rfl,rfl⟩
 ·have d4:=ag t4
  simp (disch:=first|decide|omega) only[hA,sA,d4,aa,go_sem]
  exact ZA (xs:=[.v (.bool false)]) ⟨by unfold dI;rw[d4];simp[one],rfl,rfl⟩
theorem bS {s:ByteArray} (h:eD s=true):s.size≤16:=by
 unfold eD UY at h
 simp only[ar,bf]at h
 have:=h.1.1.2
 rwa [ft]at this
theorem WN {t:Tr} {p:Nat} (hp:p<t.length) (h:CC t p=0):eD t[p].name=true∧t[p].vars.length≤8∧(∀v∈t[p].vars,eD v.name=true)∧t[p].evs.length≤64:=by
 have h64:=yK hp h
 unfold CC at h
 rw[YA hp]at h
 split at h
 ·exact absurd h kE
 rename_i c1
 split at h
 ·exact absurd h kE
 rename_i c2
 split at h
 ·rename_i c3;exact absurd h c3
 rename_i c3
 have c3:sB (jN t[p].vars) t[p].vars.length=0:=Classical.not_not.1 c3
 refine⟨?_,by omega,fun v hv=>?_,h64⟩
 ·cases hn:eD t[p].name with
  |true=>rfl
  |false=>rw[hn]at c1;simp at c1
 ·obtain⟨i,hi,rfl⟩:=cu hv
  have:=EG.1 c3 i hi
  unfold jN at this
  rw[YA hi]at this
  cases hn:eD t[p].vars[i].name with
  |true=>rfl
  |false=>rw[hn]at this;simp at this
theorem Vok.small {t:Tr} (h:Vok t):Small t:=by
 have hi:=h.hi
 refine⟨by omega,fun x hx=>?_,fun x hx=>?_,fun x hx e he=>?_⟩
 ·obtain⟨p,hp,rfl⟩:=cu hx
  have:=(WN hp (h.head p hp)).2.1;omega
 ·obtain⟨p,hp,rfl⟩:=cu hx
  have:=(WN hp (h.head p hp)).2.2.2;omega
 ·obtain⟨p,hp,rfl⟩:=cu hx
  obtain⟨i,hi,rfl⟩:=ZEF hp (by rw[ME hp];exact he)
  have:=(UW.1 (h.form _ hi)).2.2.2.1
  omega
theorem Vok.nm {t:Tr} (h:Vok t):Nm t:=fun x hx=>by
 obtain⟨p,hp,rfl⟩:=cu hx
 obtain⟨h1,_,h3,_⟩:=WN hp (h.head p hp)
 have g:∀s:ByteArray,eD s=true→s.size≤maxLen:=fun s hs=>dq (bS hs) (by unfold maxLen;decide)
 exact⟨g _ h1,fun v hv=>g _ (h3 v hv)⟩
def a_wValid:AFunc:=({c:=_}:CF Tryz.prog 22).c
theorem aZ:qA Tryz.prog 22=some a_wValid:=by kernel_rfl
def lV:List (Nat×Nat):=[(2,5),(7,7),(52,79)]
def kP:List (Nat×Nat):=[(2,3),(7,7),(64,78)]
def a_wValid1:AFunc:=({c:=_}:CF Tryz.prog 68).c
theorem vX:qA Tryz.prog 68=some a_wValid1:=by kernel_rfl

theorem VT:qA Tryz.prog 67=some (GH 126):=by kernel_rfl
theorem JT:qA Tryz.prog 126=some (wK 4):=by kernel_rfl
def nSd (l:List Ev):Nat→Nat
 |0=>0
 |i+1=>if (l.getD i PI).kind=2 then nSd l i+1 else nSd l i
theorem iY (l:List Ev):∀i,nSd l i≤i
 |0=>ai _
 |i+1=>by have:=iY l i;simp only[nSd];split<;>omega
def cSd (t:Tr):Nat→Nat
 |0=>0
 |p+1=>cSd t p+nSd (nA t p) (nA t p).length
theorem sY {t:Tr} (h:∀x∈t,x.evs.length≤64):∀p,p≤t.length→cSd t p≤64*p
 |0,_=>ai _
 |p+1,hp=>by
   have:=sY h p oM
   have h1:=iY (nA t p) (nA t p).length
   have h2:=h t[p] (ak oM)
   rw[ME (show p<t.length by omega)]at h1
   simp only[cSd]
   rw[ME (show p<t.length by omega)]
   omega
def sOk (l:List Ev) (sent:Int) (i:Nat):Bool:=!((l.getD i PI).kind==2)||decide ((l.getD i PI).msg<sent)
noncomputable def mgB (t:Tr) (m:Ms):Bool:=decide (m.body.length=1)&&(decide (0<(QC t 2 m.nu).2)&&(decide (((QC t 2 m.nu).1:Int)=m.fr)&&decide ((uA t (QC t 2 m.nu)).peer=m.to)))
def prB (w:Wd) (p:Nat):Bool:=dI (w.tr.getD p dfPr) (w.sv.getD p dfSv) w.now&&(List.range (nA w.tr p).length).all (sOk (nA w.tr p) w.sent)
noncomputable def wdB (w:Wd):Bool:=FF w.sv&&(inZ w.now 0 1000000000&&(nwB w.net&&(decide (w.net.now=w.now)&&(ID w.tr&&(decide (w.tr.length=w.sv.length)&&((List.range w.tr.length).all (prB w)&&(decide ((cSd w.tr w.tr.length:Int)=w.sent)&&w.net.l.all (mgB w.tr))))))))
theorem mO {t:Tr} {kd m:Int} (h:0<(QC t kd m).2):∃p i,QC t kd m=(p,i+1)∧∃hp:p<t.length,i<t[p].evs.length:=by
 unfold QC at h⊢
 split at h
 case isFalse=>simp at h
 rename_i hv
 rw[if_pos hv]
 unfold DB jA at h⊢
 cases hf:(ids t).find? (AD t kd m) with
 |none=>rw[hf]at h;simp at h
 |some x =>
   obtain⟨p,j⟩:=x
   have hm:=fk hf
   obtain⟨hp,h1,h2⟩:=AC.1 hm
   simp only at hp h1 h2
   obtain⟨i,rfl⟩:∃i,j=i+1:=⟨j-1,by omega⟩
   exact⟨p,i,rfl,hp,by omega⟩
theorem PW (w:Wd) (hS:Small w.tr) (hN:Nm w.tr) (m:Ms) (hm:m.body.length≤1000000) (id:Nat) (b l:List Row) (hg:hget b l id=some (.live 0 9 [(eWd w).map .v])):QA Tryz.prog 68 [.agg ((eMs m).map .v),.ptr id 0 0 0] b l (fun r b' l'=>r=.v (.bool (!mgB w.tr m))∧b'=b∧l'=l):=by
 refine XA vX rfl kE ?_
 intro B g hB hR hE hA;simp only[zA]at hA
 have g0:∀l',hget B l' id=some (.live 0 9 [(eWd w).map .v]):=fun l'=>by
  rw[OC]at hg
  rw[OC,aw (by rw[hB];exact (am.1 hg).1),hB];exact hg
 unfold eWd at g0
 simp only[bj,cd]at g0
 have cS:=fun b l=>XZ w.tr hS hN b l m.nu
 simp only[eT,idA]at cS
 have xJ:((m.body.length:Int) != 1)=!decide (m.body.length=1):=by
  by_cases h:m.body.length=1<;>simp[h]
  omega
 simp (disch:=first|decide|omega) only[a_wValid1,hA,g0,eMs,aa,go_sem]
 refine QA.nxt (cS _ _) ?_
 by_cases t1:m.body.length=1
 case neg =>
  have d1:((m.body.length:Int) != 1)=true:=by simp;omega
  simp (disch:=first|decide|omega) only[hA,g0,d1,aa,go_sem]
  exact ZA (xs:=[.v (.bool true)]) ⟨by simp[mgB,t1,one],rfl,rfl⟩
 have d1:((m.body.length:Int) != 1)=false:=by simp;omega
 by_cases t2:0<(QC w.tr 2 m.nu).2
 case neg =>
  have d2:decide (0<(QC w.tr 2 m.nu).2)=false:=ag t2
  simp (disch:=first|decide|omega) only[hA,g0,d1,d2,aa,go_sem]
  exact ZA (xs:=[.v (.bool true)]) ⟨by simp[mgB,t2,one],rfl,rfl⟩
 have d2:decide (0<(QC w.tr 2 m.nu).2)=true:=ae t2
 obtain⟨p,i,hpi,hp,hi⟩:=mO t2
 have zJ:=lI hp
 have yH:=zH hi
 have qP:=KG hp hi
 have qG:=hS.ne _ (ak hp)
 have HU:=hS.np
 have MY:mgB w.tr m=(decide ((p:Int)=m.fr)&&decide (w.tr[p].evs[i].peer=m.to)):=by unfold mgB;rw[ae t1,d2,hpi,qP];rfl
 rw[MY]
 rw[hpi]at d2
 have gV:((i+1:Nat):Int)-1=(i:Int):=by omega
 by_cases t3:(p:Int)=m.fr
 case neg =>
  have d3:((p:Int) != m.fr)=true:=by simpa using t3
  simp (disch:=first|decide|omega) only[hA,g0,d1,d2,hpi,d3,aa,go_sem]
  exact ZA (xs:=[.v (.bool true)]) ⟨by simp[t3,one],rfl,rfl⟩
 have d3:((p:Int) != m.fr)=false:=by simpa using t3
 have d4:(w.tr[p].evs[i].peer != m.to)=!decide (w.tr[p].evs[i].peer=m.to):=by
  by_cases h:w.tr[p].evs[i].peer=m.to<;>simp[h]
 simp (disch:=first|decide|omega) only[hA,g0,d1,d2,hpi,d3,zJ,yH,gV,d4,aa,go_sem]
 exact ZA (xs:=[.v (.bool (!decide (w.tr[p].evs[i].peer=m.to)))]) ⟨by simp[t3,one],rfl,rfl⟩
theorem ZEt {w:Wd} {p:Nat} (hp:p<w.tr.length) (h:prB w p=false):wdB w=false:=by
 have:(List.range w.tr.length).all (prB w)=false:=ew.2 ⟨p,ba.2 hp,by rw[h];simp⟩
 unfold wdB
 rw[this];simp
theorem aH (w:Wd) (hS0:Sm w.tr) (hN:Nm w.tr) (tL:SvsS w.sv) (N0:NwS w.net) (b l:List Row):QA Tryz.prog 22 [.agg ((eWd w).map .v)] b l (fun r b' l'=>r=.v (.bool (wdB w))∧b'=b∧l'=l):=by
 refine XA aZ rfl kE ?_
 intro B g hB hR hE hA;simp only[zA]at hA
 have cV:=fun b l=>xG w.net b l
 have cT:=fun b l=>VQ w.tr hS0 hN b l
 simp only[eNw,eT,bj,cd]at cV cT
 have HU:=hS0.np
 have aU:=tL.len
 simp (disch:=first|decide|omega) only[a_wValid,hA,eWd,cellsOf,go_sem]
 refine QA.nxt (FL w.sv tL _ _) ?_
 cases t1:FF w.sv
 ·simp (disch:=first|decide|omega) only[hA,go_sem]
  exact ZA (xs:=[.v (.bool false)]) ⟨by unfold wdB;rw[t1];rfl,rfl,rfl⟩
 simp (disch:=first|decide|omega) only[hA,go_sem]
 refine QA.nxt (QD _ _ _ _ _) ?_
 cases t2:inZ w.now 0 1000000000
 ·simp (disch:=first|decide|omega) only[hA,go_sem]
  exact ZA (xs:=[.v (.bool false)]) ⟨by unfold wdB;rw[t1,t2];rfl,rfl,rfl⟩
 simp (disch:=first|decide|omega) only[hA,go_sem]
 refine QA.nxt (cV _ _) ?_
 cases t3:nwB w.net
 ·simp (disch:=first|decide|omega) only[hA,go_sem]
  exact ZA (xs:=[.v (.bool false)]) ⟨by unfold wdB;rw[t1,t2,t3];rfl,rfl,rfl⟩
 by_cases t4:w.net.now=w.now
 case neg =>
  have d4:(w.net.now != w.now)=true:=by simpa using t4
  simp (disch:=first|decide|omega) only[hA,d4,go_sem]
  exact ZA (xs:=[.v (.bool false)]) ⟨by unfold wdB;rw[t1,t2,t3,ag t4];rfl,rfl,rfl⟩
 have d4:(w.net.now != w.now)=false:=by simpa using t4
 simp (disch:=first|decide|omega) only[hA,d4,go_sem]
 refine QA.nxt (cT _ _) ?_
 cases t5:ID w.tr
 ·simp (disch:=first|decide|omega) only[hA,go_sem]
  exact ZA (xs:=[.v (.bool false)]) ⟨by unfold wdB;rw[t1,t2,t3,ae t4,t5];rfl,rfl,rfl⟩
 by_cases t6:w.tr.length=w.sv.length
 case neg =>
  have d6:((w.tr.length:Int) != (w.sv.length:Int))=true:=by simp;omega
  simp (disch:=first|decide|omega) only[hA,d6,aa,go_sem]
  exact ZA (xs:=[.v (.bool false)]) ⟨by unfold wdB;rw[t1,t2,t3,ae t4,t5,ag t6];rfl,rfl,rfl⟩
 have d6:((w.tr.length:Int) != (w.sv.length:Int))=false:=by simp;omega
 have hvk:=vok t5
 have hS:=hvk.small
 have h64:∀x∈w.tr,x.evs.length≤64:=fun x hx=>by
  obtain⟨p,hp,rfl⟩:=cu hx
  have hh:=hvk.head p hp
  unfold CC at hh
  rw[YB dfPr w.tr hp]at hh
  split at hh
  ·cases hh
  split at hh
  ·cases hh
  split at hh
  ·rename_i hc;exact absurd hh hc
  split at hh
  ·cases hh
  ·omega
 have h8:∀p (h:p<w.sv.length),w.sv[p].vars.length≤8:=fun p hp=>by
  unfold FF at t1
  rw[ar,bn]at t1
  have:=t1.2 p (ba.2 hp)
  unfold svB sv1 at this
  rw[YA hp]at this
  simp only[ar,bf]at this
  exact this.1.2.2.1
 have WM:=sY h64
 have ZLw:=hvk.hi
 simp (disch:=first|decide|omega) only[hA,d6,aa,go_sem]
 refine JA (ι:=Nat) lV (fun p=>[(3,.v (.int .i64 (cSd w.tr p))),(52,.v (.int .i64 p))]) 1 (fun _=>[.live 0 9 [(eWd w).map .v]])
  (fun p=>p≤w.tr.length∧∀j,j<p→prB w j=true) (fun p=>w.tr.length-p) 0 ⟨aj _,fun j hj=>by omega⟩ kM kA kF ?_
 rintro g1 qF TE sA p ⟨hp,h0⟩
 have nL:(eWd w).map AV.v=(zWA w):=rfl
 rw[nL]
 by_cases yA:p<w.tr.length
 case neg =>
  obtain rfl:p=w.tr.length:=by omega
  have xF:(List.range w.tr.length).all (prB w)=true:=bn.2 fun j hj=>h0 j (ba.1 hj)
  have hr:wdB w=(decide ((cSd w.tr w.tr.length:Int)=w.sent)&&w.net.l.all (mgB w.tr)):=by
   unfold wdB;rw[t1,t2,t3,ae t4,t5,ae t6,xF];rfl
  rw[hr]
  by_cases t7:(cSd w.tr w.tr.length:Int)=w.sent
  case neg =>
   have d7:((cSd w.tr w.tr.length:Int)==w.sent)=false:=by simpa using t7
   simp (disch:=first|decide|omega) only[hA,sA,d7,aa,go_sem]
   exact ZA (xs:=[.v (.bool false)]) ⟨by rw[ag t7];rfl,rfl,rfl⟩
  have d7:((cSd w.tr w.tr.length:Int)==w.sent)=true:=by simpa using t7
  have cC:=qD VT JT (w.net.l.map eMs) 68 [.ptr B.length 0 0 0] (fun j=>!mgB w.tr (w.net.l.getD j dfMs)) (fun row h=>by obtain⟨m,_,rfl⟩:=cr.1 h;rfl) (by rw[aa];exact N0.l) B [.live 0 9 [(eWd w).map .v]] (fun j row hj=>by
   have wG:j<w.net.l.length:=by have:=(am.1 hj).1;rwa [aa]at this
   rw[an,ah wG]at hj
   cases hj
   simp only[YA wG]
   exact PW w hS hN _ (N0.body _ (ak wG)) B.length _ _ (by rw[OC,ct,aq (ai _),dy];rfl))
  rw[aa,bG (p:=fun m=>!mgB w.tr m),mF,nL]at cC
  simp (disch:=first|decide|omega) only[hA,sA,d7,aa,go_sem]
  refine QA.nxt cC ?_
  simp (disch:=first|decide|omega) only[hA,sA,ki,go_sem]
  exact ZA (xs:=[.v (.bool (w.net.l.all (mgB w.tr)))]) ⟨by rw[ae t7];rfl,rfl,rfl⟩
 have hps:p<w.sv.length:=by omega
 obtain⟨x,hx⟩:∃x,w.tr[p]=x:=⟨_,rfl⟩
 have zJ:=lI yA
 rw[hx]at zJ
 have hxe:nA w.tr p=x.evs:=by rw[ME yA,hx]
 have ZNP:=h64 x (by rw[←hx];exact ak yA)
 have cP:=fun b l=>s5 w t5 hS hN tL p yA hps (h8 p hps) b l
 rw[nL]at cP
 have hpr:prB w p=(dI w.tr[p] w.sv[p] w.now&&(List.range x.evs.length).all (sOk x.evs w.sent)):=by unfold prB;rw[YA yA,YA hps,hxe]
 have bad:prB w p=false→AV.v (.bool (wdB w))=.v (.bool false):=fun h=>by rw[ZEt yA h]
 have hcp:=WM p hp
 simp (disch:=first|decide|omega) only[hA,sA,zJ,aa,go_sem]
 refine QA.nxt (cP _ _) ?_
 cases t7:dI w.tr[p] w.sv[p] w.now
 ·simp (disch:=first|decide|omega) only[hA,sA,go_sem]
  exact ZA (xs:=[.v (.bool false)]) ⟨by rw[bad (by rw[hpr,t7];rfl)];rfl,rfl,rfl⟩
 simp (disch:=first|decide|omega) only[hA,sA,aa,go_sem]
 refine JA (ι:=Nat) kP (fun i=>[(3,.v (.int .i64 ((cSd w.tr p+nSd x.evs i:Nat):Int))),(64,.v (.int .i64 i))]) 2 (fun _=>[.live 0 9 [(eWd w).map .v],rK x])
  (fun i=>i≤x.evs.length∧∀j,j<i→sOk x.evs w.sent j=true) (fun i=>x.evs.length-i) 0 ⟨aj _,fun j hj=>by omega⟩ kM kA kF ?_
 rintro g2 RJ QO DD i ⟨hi,h02⟩
 rw[nL]
 unfold rK
 by_cases hli:i<x.evs.length
 ·have yH:=zH hli
  have fJ:x.evs.getD i PI=x.evs[i]:=YA hli
  have hns:=iY x.evs i
  have hcn:((cSd w.tr p+nSd x.evs i:Nat):Int)+1=((cSd w.tr p+(nSd x.evs i+1):Nat):Int):=by omega
  by_cases hk:x.evs[i].kind=2
  ·have dk:(x.evs[i].kind != 2)=false:=by rw[hk];rfl
   have hn1:nSd x.evs (i+1)=nSd x.evs i+1:=by simp only[nSd];rw[fJ,if_pos hk]
   by_cases hm:x.evs[i].msg<w.sent
   ·have dm:decide (x.evs[i].msg≥w.sent)=false:=ag oM
    have dm':decide (w.sent≤x.evs[i].msg)=false:=dm
    simp (disch:=first|decide|omega) only[hA,sA,DD,yH,dk,dm,dm',hcn,aa,go_sem]
    refine⟨i+1,⟨hli,fun j hj=>?_⟩,by simp only;omega,?_⟩
    ·rcases bp j i with YG|YG
     ·exact h02 j YG
     ·obtain rfl:j=i:=by omega
      unfold sOk;rw[fJ,ae hm];simp
    ·simp only[hn1,nL]
     exact VA.kround (p:=kP) (k:=2) kQ kA rfl RJ kS kV hR kL
   ·have dm:decide (x.evs[i].msg≥w.sent)=true:=ae oM
    have dm':decide (w.sent≤x.evs[i].msg)=true:=dm
    simp (disch:=first|decide|omega) only[hA,sA,DD,yH,dk,dm,dm',aa,go_sem]
    exact ZA (xs:=[.v (.bool false)]) ⟨by rw[bad (by rw[hpr,show (List.range x.evs.length).all (sOk x.evs w.sent)=false from ew.2 ⟨i,ba.2 hli,by unfold sOk;rw[fJ,hk,ag hm];simp⟩,Bool.and_false])];rfl,rfl,rfl⟩
  ·have dk:(x.evs[i].kind != 2)=true:=by simpa using hk
   have dk2:(x.evs[i].kind==2)=false:=by simpa using hk
   have hn1:nSd x.evs (i+1)=nSd x.evs i:=by simp only[nSd];rw[fJ,if_neg hk]
   simp (disch:=first|decide|omega) only[hA,sA,DD,yH,dk,aa,go_sem]
   refine⟨i+1,⟨hli,fun j hj=>?_⟩,by simp only;omega,?_⟩
   ·rcases bp j i with YG|YG
    ·exact h02 j YG
    ·obtain rfl:j=i:=by omega
     unfold sOk;rw[fJ,dk2];rfl
   ·simp only[hn1,nL]
    exact VA.kround (p:=kP) (k:=2) kQ kA rfl RJ kS kV hR kL
 ·obtain rfl:i=x.evs.length:=by omega
  have YJ:prB w p=true:=by rw[hpr,t7,bn.2 fun j hj=>h02 j (ba.1 hj)];rfl
  have TY:cSd w.tr (p+1)=cSd w.tr p+nSd x.evs x.evs.length:=by simp only[cSd];rw[hxe]
  simp (disch:=first|decide|omega) only[hA,sA,DD,aa,go_sem]
  refine⟨p+1,⟨yA,fun j hj=>?_⟩,by simp only;omega,?_⟩
  ·rcases bp j p with YG|YG
   ·exact h0 j YG
   ·obtain rfl:j=p:=by omega
    exact YJ
  ·simp only[nL,TY]
   exact VA.kround (p:=lV) (k:=1) kQ kA rfl qF kS kV hR kL
def a_rHead:AFunc:=({c:=_}:CF Tryz.prog 149).c
theorem F7:qA Tryz.prog 149=some a_rHead:=by kernel_rfl
def Q2:List (Nat×Nat):=[(4,4),(6,6),(18,31)]
def Z2:List (Nat×Nat):=[(4,4),(7,8),(36,76)]
def O1:List (Nat×Nat):=[(4,4),(8,8),(51,68)]
def a_rVal12:AFunc:=({c:=_}:CF Tryz.prog 177).c
theorem FZ:qA Tryz.prog 177=some a_rVal12:=by kernel_rfl

theorem SP {α:Type} {f:α→Bool} {l:List α} {k:Nat} (hk:k<l.length) (h:(l.take k).any f=false) (h2:f l[k]=false):(l.take (k+1)).any f=false:=by
 rw[jh hk,lu,h];simp[h2]
theorem LT {α:Type} {f:α→Bool} {l:List α} {k n:Nat} (hk:k<l.length) (hkn:k<n) (h2:f l[k]=true):(l.take n).any f=true:=by
 rw[fj]
 exact⟨l[k],lk.2 ⟨k,by omega,rfl⟩,h2⟩
theorem mG {t:Tr} {p:Nat} (hp:p<t.length):(t.map ePr)[p]? = some [.str t[p].name,.isl 2 (t[p].vars.map eVr),.isl 5 (t[p].evs.map eEv)]:=by
 rw[an,ah hp];rfl
theorem ZA7 {l:List Vr} {i:Nat} (h:i<l.length):(l.map eVr)[i]? = some [.str l[i].name,.int .i64 l[i].init]:=by
 rw[an,ah h];rfl
theorem dJ (n:Int) (b l:List Row):QA Tryz.prog 177 [.v (.int .i64 n)] b l (fun r b' l'=>r=.v (.bool (QL n))∧b'=b∧l'=l):=by
 refine XA FZ rfl kE ?_
 intro B g hB hR hE hA;simp only[zA]at hA
 cases h1:decide (n≥-1073741824)
 ·simp (disch:=first|decide|omega) only[a_rVal12,hA,h1,go_sem]
  exact ZA (xs:=[.v (.bool false)]) ⟨by unfold QL;rw[show decide (-1073741824≤n)=false from h1];rfl,rfl,rfl⟩
 ·simp (disch:=first|decide|omega) only[a_rVal12,hA,h1,go_sem]
  exact ZA (xs:=[.v (.bool (decide (n≤1073741824)))]) ⟨by unfold QL;rw[show decide (-1073741824≤n)=true from h1];rfl,rfl,rfl⟩
abbrev zTA (x:Tr):Row:=.live 0 1 [[.v (.isl 3 (x.map ePr))]]
theorem Q6 (t:Tr) (hS:Sm t) (hN:Nm t) (p:Nat) (hp:p<t.length) (b l:List Row):QA Tryz.prog 149 [.agg [.v (eT t)],.v (.int .i64 p)] b l (fun r b' l'=>r=.v (.int .i64 (CC t p))∧b'=b∧l'=l):=by
 refine XA F7 rfl kE ?_
 intro B g hB hR hE hA;simp only[zA]at hA
 have H8:=hS.np
 have hnv:=hS.nv _ (ak hp)
 have qG:=hS.ne _ (ak hp)
 have hm:=hN _ (ak hp)
 have HE:=KA (mM t p hp)
 have zJ:=mG hp
 cases hn:eD t[p].name
 ·simp (disch:=first|decide|omega) only[a_rHead,hA,eT,zJ,go_sem]
  refine QA.nxt (WI _ hm.1 _ _) ?_
  rw[hn]
  simp (disch:=first|decide|omega) only[hA,go_sem]
  exact ZA (xs:=[.v (.int .i64 13)]) ⟨by rw[HE.out,hn];rfl,rfl,rfl⟩
 simp (disch:=first|decide|omega) only[a_rHead,hA,eT,zJ,go_sem]
 refine QA.nxt (WI _ hm.1 _ _) ?_
 rw[hn]
 simp (disch:=first|decide|omega) only[hA,go_sem]
 refine JA (ι:=Nat) Q2 (fun i=>[(6,.v (.int .i64 i))]) 2 (fun _=>[(zTA t),.live 0 3 [[.v (.str t[p].name),.v (.isl 2 (t[p].vars.map eVr)),.v (.isl 5 (t[p].evs.map eEv))]]])
  (fun i=>i≤p∧((t.take i).any fun y=>y.name.toList==t[p].name.toList)=false) (fun i=>p-i) 0 ⟨aj _,rfl⟩ kM kA kF ?_
 intro g1 qF TE sA i ⟨hi,hany⟩
 by_cases yA:i<p
 ·have QI:=mG (t:=t) (p:=i) oM
  cases heq:t[i].name==t[p].name
  ·simp (disch:=first|decide|omega) only[hA,sA,QI,heq,go_sem]
   refine⟨i+1,⟨yA,SP oM hany (by rw[←beq_toListBytes];exact heq)⟩,by simp only;omega,?_⟩
   exact VA.kround (p:=Q2) (k:=2) kQ kA rfl qF kS kV hR kL
  ·have HA:=LT (f:=fun y:Pr=>y.name.toList==t[p].name.toList) (n:=p) (show i<t.length by omega) yA (by rw[←beq_toListBytes];exact heq)
   simp (disch:=first|decide|omega) only[hA,sA,QI,heq,go_sem]
   exact ZA (xs:=[.v (.int .i64 13)]) ⟨by rw[HE.out,hn];exact congrArg (fun n:Nat=>AV.v (.int .i64 n)) (if_pos (by rw[gp];exact .inr HA)).symm,rfl,rfl⟩
 obtain rfl:i=p:=by omega
 have HY:=KA hany
 by_cases h8:8<t[i].vars.length
 ·have d8:decide ((t[i].vars.length:Int)>8)=true:=ae oM
  simp (disch:=first|decide|omega) only[hA,sA,d8,go_sem]
  exact ZA (xs:=[.v (.int .i64 5)]) ⟨by rw[HE.out,hn,HY.out,if_neg kE,if_pos h8];rfl,rfl,rfl⟩
 have d8:decide ((t[i].vars.length:Int)>8)=false:=ag oM
 simp (disch:=first|decide|omega) only[hA,sA,d8,go_sem]
 refine JA (ι:=Nat) Z2 (fun j=>[(7,.v (.int .i64 j))]) 2 (fun _=>[(zTA t),.live 0 3 [[.v (.str t[i].name),.v (.isl 2 (t[i].vars.map eVr)),.v (.isl 5 (t[i].evs.map eEv))]]])
  (fun j=>j≤t[i].vars.length∧sB (jN t[i].vars) j=0) (fun j=>t[i].vars.length-j) 0 ⟨aj _,rfl⟩ kM kA kF ?_
 intro g2 RJ QO DD j ⟨hj,hz⟩
 have HZ:=KA hz
 by_cases lJ:j<t[i].vars.length
 ·have hgj:=ZA7 lJ
  have hmv:=hm.2 _ (ak lJ)
  have HV:=KA (ZAB t[i].vars j lJ)
  have c13:jN t[i].vars j=13→CC t i=13:=fun h=>by
   rw[HE.out,hn,HY.out,if_neg kE,if_neg h8,RC (n:=t[i].vars.length) HZ.out (by rw[h];decide) lJ,h];rfl
  cases eW:eD t[i].vars[j].name
  ·have k13:=c13 (by rw[HV.out,eW];rfl)
   simp (disch:=first|decide|omega) only[hA,sA,DD,hgj,aa,go_sem]
   refine QA.nxt (WI _ hmv _ _) ?_
   rw[eW]
   simp (disch:=first|decide|omega) only[hA,sA,DD,go_sem]
   exact ZA (xs:=[.v (.int .i64 13)]) ⟨by rw[k13];rfl,rfl,rfl⟩
  simp (disch:=first|decide|omega) only[hA,sA,DD,hgj,aa,go_sem]
  refine QA.nxt (WI _ hmv _ _) ?_
  rw[eW]
  simp (disch:=first|decide|omega) only[hA,sA,DD,go_sem]
  refine JA (ι:=Nat) O1 (fun q=>[(8,.v (.int .i64 q))]) 2 (fun _=>[(zTA t),.live 0 3 [[.v (.str t[i].name),.v (.isl 2 (t[i].vars.map eVr)),.v (.isl 5 (t[i].evs.map eEv))]]])
   (fun q=>q≤j∧((t[i].vars.take q).any fun y=>y.name.toList==t[i].vars[j].name.toList)=false) (fun q=>j-q) 0 ⟨aj _,rfl⟩ kM kA kF ?_
  intro g3 bW xR QH q ⟨hq,hany2⟩
  by_cases hlq:q<j
  ·have hgq:=ZA7 (l:=t[i].vars) (i:=q) oM
   cases heq:t[i].vars[q].name==t[i].vars[j].name
   ·simp (disch:=first|decide|omega) only[hA,sA,DD,QH,hgj,hgq,heq,go_sem]
    refine⟨q+1,⟨hlq,SP oM hany2 (by rw[←beq_toListBytes];exact heq)⟩,by simp only;omega,?_⟩
    exact VA.kround (p:=O1) (k:=2) kQ kA rfl bW kS kV hR kL
   ·have k13:=c13 (by rw[HV.out,eW,LT (f:=fun y:Vr=>y.name.toList==t[i].vars[j].name.toList) (n:=j) (show q<t[i].vars.length by omega) hlq (by rw[←beq_toListBytes];exact heq)];rfl)
    simp (disch:=first|decide|omega) only[hA,sA,DD,QH,hgj,hgq,heq,go_sem]
    exact ZA (xs:=[.v (.int .i64 13)]) ⟨by rw[k13];rfl,rfl,rfl⟩
  obtain rfl:q=j:=by omega
  cases hv2:QL t[i].vars[q].init
  ·have k2:CC t i=2:=by
    have h:jN t[i].vars q=2:=by rw[HV.out,eW,hany2,hv2];rfl
    rw[HE.out,hn,HY.out,if_neg kE,if_neg h8,RC (n:=t[i].vars.length) HZ.out (by rw[h];decide) lJ,h];rfl
   simp (disch:=first|decide|omega) only[hA,sA,DD,QH,hgj,go_sem]
   refine QA.nxt (dJ _ _ _) ?_
   rw[hv2]
   simp (disch:=first|decide|omega) only[hA,sA,DD,QH,go_sem]
   exact ZA (xs:=[.v (.int .i64 2)]) ⟨by rw[k2];rfl,rfl,rfl⟩
  ·have k0:jN t[i].vars q=0:=by rw[HV.out,eW,hany2,hv2];rfl
   simp (disch:=first|decide|omega) only[hA,sA,DD,QH,hgj,go_sem]
   refine QA.nxt (dJ _ _ _) ?_
   rw[hv2]
   simp (disch:=first|decide|omega) only[hA,sA,DD,QH,go_sem]
   refine⟨q+1,⟨lJ,CG HZ.out k0⟩,by simp only;omega,?_⟩
   exact VA.kround (p:=Z2) (k:=2) kQ kA rfl RJ kS kV hR kL
 obtain rfl:j=t[i].vars.length:=by omega
 by_cases h64:64<t[i].evs.length
 ·have d64:decide ((t[i].evs.length:Int)>64)=true:=ae oM
  simp (disch:=first|decide|omega) only[hA,sA,DD,d64,go_sem]
  exact ZA (xs:=[.v (.int .i64 5)]) ⟨by rw[HE.out,hn,HY.out,if_neg kE,if_neg h8,if_neg (by rw[HZ.out];decide),if_pos h64];rfl,rfl,rfl⟩
 have d64:decide ((t[i].evs.length:Int)>64)=false:=ag oM
 simp (disch:=first|decide|omega) only[hA,sA,DD,d64,go_sem]
 exact ZA (xs:=[.v (.int .i64 0)]) ⟨by rw[HE.out,hn,HY.out,if_neg kE,if_neg h8,if_neg (by rw[HZ.out];decide),if_neg h64];rfl,rfl,rfl⟩
def a_rForm:AFunc:=({c:=_}:CF Tryz.prog 150).c
theorem E7:qA Tryz.prog 150=some a_rForm:=by kernel_rfl
def J2:List (Nat×Nat):=[(6,6),(8,10),(100,146)]
def Y2:List (Nat×Nat):=[(6,6),(10,10),(133,146)]

theorem yL {l:List Ev} {i:Nat} (h:i<l.length):(l.map eEv)[i]? = some [.int .i64 l[i].kind,.int .i64 l[i].peer,.int .i64 l[i].msg,.int .i64 l[i].time,.isl 2 (l[i].asg.map eAsg)]:=by
 rw[an,ah h];rfl
theorem S2 {l:List Asg} {i:Nat} (h:i<l.length):(l.map eAsg)[i]? = some [.int .i64 l[i].v,.int .i64 l[i].val]:=by
 rw[an,ah h];rfl
abbrev zEA (x:Ev):List AV:=[.v (.int .i64 x.kind),.v (.int .i64 x.peer),.v (.int .i64 x.msg),.v (.int .i64 x.time),.v (.isl 2 (x.asg.map eAsg))]
theorem Y6 (t:Tr) (hS:Small t) (p i:Nat) (hp:p<t.length) (hi:i<t[p].evs.length) (b l:List Row):QA Tryz.prog 150 [.agg [.v (eT t)],.v (.int .i64 p),.v (.int .i64 i)] b l (fun r b' l'=>r=.v (.int .i64 (eC t (p,i+1)))∧b'=b∧l'=l):=by
 refine XA E7 rfl kE ?_
 intro B g hB hR hE hA;simp only[zA]at hA
 have H8:=hS.np
 have hnv:=hS.nv _ (ak hp)
 have qG:=hS.ne _ (ak hp)
 have hna:=hS.na _ (ak hp) _ (ak hi)
 have HFE:=KA (ZBx t p i hp hi)
 have zJ:=mG hp
 have yH:=yL hi
 rcases form_ways t.length p t[p].evs[i] with ⟨hf,hw⟩|⟨hf,hw⟩
 ·have HF:eC t (p,i+1)=3:=by rw[HFE.out _ rfl,hf];rfl
  rcases hw with ⟨b0,b1⟩|⟨b0,b1,b2⟩|⟨b0,b1,b2⟩|⟨b0,b1,b2⟩|⟨b0,b1,b2,b3⟩|⟨b0,b1,b2,b3⟩|⟨b0,b1,b2,b3,b4⟩|⟨b0,b1,b2,b3,b4⟩|⟨b0,b1,b2,b3,b4,b5⟩|⟨b0,b1,b2,b3,b4,b5⟩|⟨b0,b1,b2,b3,b4,b5,b6⟩|⟨b0,b1,b2,b3,b4,b5,b6⟩|⟨b0,b1,b2,b3,b4,b5,b6,b7⟩
  all_goals first|(have q:=b2;clear q)|have b2:=trivial
  all_goals first|(have q:=b3;clear q)|have b3:=trivial
  all_goals first|(have q:=b4;clear q)|have b4:=trivial
  all_goals first|(have q:=b5;clear q)|have b5:=trivial
  all_goals first|(have q:=b6;clear q)|have b6:=trivial
  all_goals first|(have q:=b7;clear q)|have b7:=trivial
  all_goals
   simp (disch:=first|decide|omega) only[a_rForm,hA,eT,zJ,yH,ge_iff_le,gt_iff_lt,b0,b1,b2,b3,b4,b5,b6,b7,go_sem]
   exact ZA (xs:=[.v (.int .i64 3)]) ⟨by rw[HF];rfl,rfl,rfl⟩
 have hL:(i=0∧xI t (p,i+1)=0)∨∃(j:Nat) (hj:j<t[p].evs.length),i=j+1∧xI t (p,i+1)=t[p].evs[j].time:=by
  rcases i with _|j
  ·exact .inl ⟨rfl,I6 t p⟩
  ·exact .inr ⟨j,by omega,rfl,ZBn t p j hp oM⟩
 have hF:=fun L hL=>HFE.out L hL
 rw[hf]at hF
 have HF:=KA hF
 generalize hee:t[p].evs[i]=e at *
 have HEE:=KA hee
 clear hee hf hF
 rcases hw with ⟨b0,b1,b2⟩|⟨b0,b1,b2,b3,b4,b5,b6⟩|⟨b0,b1,b2,b3,b4,b5,b6,b7⟩
 all_goals first|(have q:=b3;clear q)|have b3:=trivial
 all_goals first|(have q:=b4;clear q)|have b4:=trivial
 all_goals first|(have q:=b5;clear q)|have b5:=trivial
 all_goals first|(have q:=b6;clear q)|have b6:=trivial
 all_goals first|(have q:=b7;clear q)|have b7:=trivial
 all_goals
  cases dtl:decide (e.time<0)
  rotate_left
  ·simp (disch:=first|decide|omega) only[a_rForm,hA,eT,zJ,yH,ge_iff_le,gt_iff_lt,b0,b1,b2,b3,b4,b5,b6,b7,dtl,go_sem]
   exact ZA (xs:=[.v (.int .i64 11)]) ⟨by rw[HF.out _ rfl,rO,dtl];rfl,rfl,rfl⟩
  cases dtg:decide (1099511627776<e.time)
  rotate_left
  ·simp (disch:=first|decide|omega) only[a_rForm,hA,eT,zJ,yH,ge_iff_le,gt_iff_lt,b0,b1,b2,b3,b4,b5,b6,b7,dtl,dtg,go_sem]
   exact ZA (xs:=[.v (.int .i64 11)]) ⟨by rw[HF.out _ rfl,rO,dtl,dtg];rfl,rfl,rfl⟩
  have hG:∀L,xI t (p,i+1)=L→decide (e.time<L)=false→eC t (p,i+1)=if 8<e.asg.length then 5 else sB (gJ t[p].vars.length e.asg) e.asg.length:=fun L h1 h2=>by
   rw[HF.out _ h1,rO,dtl,dtg,h2];rfl
  have HH:eC t (p,i+1)=(if 8<e.asg.length then 5 else sB (gJ t[p].vars.length e.asg) e.asg.length)∧((i=0)∨∃(j:Nat) (hj:j<t[p].evs.length),i=j+1∧decide (e.time<t[p].evs[j].time)=false)∨(eC t (p,i+1)=11∧∃(j:Nat) (hj:j<t[p].evs.length),i=j+1∧decide (e.time<t[p].evs[j].time)=true):=by
   rcases hL with ⟨h0,hl0⟩|⟨j,hj,h0,hl0⟩
   ·exact .inl ⟨hG _ hl0 (ag (by have:=fx dtl;omega)),.inl h0⟩
   ·cases dtp:decide (e.time<t[p].evs[j].time)
    ·exact .inl ⟨hG _ hl0 dtp,.inr ⟨j,hj,h0,dtp⟩⟩
    ·exact .inr ⟨by rw[HF.out _ hl0,rO,dtl,dtg,dtp];rfl,j,hj,h0,dtp⟩
  clear hG hL
  rcases HH with ⟨hF,hw⟩|⟨hF,j,hj,J5,dtp⟩
  rotate_left
  ·subst J5
   have hgj:=yL hj
   have hj0:decide ((0:Int)<((j+1:Nat):Int))=true:=ae oM
   have hjm:IntKind.i64.wrap (((j+1:Nat):Int)-1)=(j:Int):=by rw[pA oM oM];omega
   simp (disch:=first|decide|omega) only[a_rForm,hA,eT,zJ,yH,hgj,hj0,hjm,dtp,ge_iff_le,gt_iff_lt,b0,b1,b2,b3,b4,b5,b6,b7,dtl,dtg,go_sem]
   exact ZA (xs:=[.v (.int .i64 11)]) ⟨by rw[hF];rfl,rfl,rfl⟩
  have hw:(decide ((0:Int)<(i:Int))=false)∨∃(j:Nat) (hj:j<t[p].evs.length),decide ((0:Int)<(i:Int))=true∧IntKind.i64.wrap ((i:Int)-1)=(j:Int)∧decide (e.time<t[p].evs[j].time)=false:=by
   rcases hw with h0|⟨j,hj,h0,dtp⟩
   ·exact .inl (ag oM)
   ·exact .inr ⟨j,hj,ae oM,by rw[pA oM oM];omega,dtp⟩
  rcases hw with hj0|⟨j,hj,hj0,hjm,dtp⟩
  all_goals first|have hgj:=yL hj|have hgj:=trivial
  all_goals first|(have q:=hjm;clear q)|have hjm:=trivial
  all_goals first|(have q:=dtp;clear q)|have dtp:=trivial
  all_goals
   by_cases h8:8<e.asg.length
   ·have d8:decide (8<(e.asg.length:Int))=true:=ae oM
    simp (disch:=first|decide|omega) only[a_rForm,hA,eT,zJ,yH,hgj,hj0,hjm,dtp,ge_iff_le,gt_iff_lt,b0,b1,b2,b3,b4,b5,b6,b7,dtl,dtg,d8,go_sem]
    exact ZA (xs:=[.v (.int .i64 5)]) ⟨by rw[hF,if_pos h8];rfl,rfl,rfl⟩
   have d8:decide (8<(e.asg.length:Int))=false:=ag oM
   rw[if_neg h8]at hF
   have HR:=KA hF
   simp (disch:=first|decide|omega) only[a_rForm,hA,eT,zJ,yH,hgj,hj0,hjm,dtp,ge_iff_le,gt_iff_lt,b0,b1,b2,b3,b4,b5,b6,b7,dtl,dtg,d8,go_sem]
   refine JA (ι:=Nat) J2 (fun k=>[(8,.v (.int .i64 k))]) 2 (fun _=>[(zTA t),.live 0 5 [(zEA e)]])
    (fun k=>k≤e.asg.length∧sB (gJ t[p].vars.length e.asg) k=0) (fun k=>e.asg.length-k) 0 ⟨aj _,rfl⟩ kM kA kF ?_
   intro g1 qF TE sA k ⟨hk,hz⟩
   have HZ:=KA hz
   by_cases yA:k<e.asg.length
   ·have hga:=S2 yA
    have HV:=KA (JY t[p].vars.length e.asg k yA)
    have hFk:∀c,gJ t[p].vars.length e.asg k=c→c≠0→eC t (p,i+1)=c:=fun c h h0=>by
     rw[HR.out,RC (n:=e.asg.length) HZ.out (by rw[h];exact h0) yA,h]
    cases dvl:decide (e.asg[k].v<0)
    rotate_left
    ·have HF2:=hFk 2 (by rw[HV.out,TO,dvl];rfl) kE
     simp (disch:=first|decide|omega) only[hA,sA,zJ,hga,ge_iff_le,gt_iff_lt,dvl,go_sem]
     exact ZA (xs:=[.v (.int .i64 2)]) ⟨by rw[HF2];rfl,rfl,rfl⟩
    cases dvg:decide ((t[p].vars.length:Int)≤e.asg[k].v)
    rotate_left
    ·have HF2:=hFk 2 (by rw[HV.out,TO,dvl,dvg];rfl) kE
     simp (disch:=first|decide|omega) only[hA,sA,zJ,hga,ge_iff_le,gt_iff_lt,dvl,dvg,go_sem]
     exact ZA (xs:=[.v (.int .i64 2)]) ⟨by rw[HF2];rfl,rfl,rfl⟩
    cases dvv:QL e.asg[k].val
    ·have HF2:=hFk 2 (by rw[HV.out,TO,dvl,dvg,dvv];rfl) kE
     simp (disch:=first|decide|omega) only[hA,sA,zJ,hga,ge_iff_le,gt_iff_lt,dvl,dvg,go_sem]
     refine QA.nxt (dJ _ _ _) ?_
     rw[dvv]
     simp (disch:=first|decide|omega) only[hA,sA,zJ,hga,ge_iff_le,gt_iff_lt,dvl,dvg,go_sem]
     exact ZA (xs:=[.v (.int .i64 2)]) ⟨by rw[HF2];rfl,rfl,rfl⟩
    simp (disch:=first|decide|omega) only[hA,sA,zJ,hga,ge_iff_le,gt_iff_lt,dvl,dvg,go_sem]
    refine QA.nxt (dJ _ _ _) ?_
    rw[dvv]
    simp (disch:=first|decide|omega) only[hA,sA,zJ,hga,ge_iff_le,gt_iff_lt,dvl,dvg,go_sem]
    refine JA (ι:=Nat) Y2 (fun q=>[(10,.v (.int .i64 q))]) 3 (fun _=>[(zTA t),.live 0 5 [(zEA e)],.live 0 2 [[.v (.int .i64 e.asg[k].v),.v (.int .i64 e.asg[k].val)]]])
     (fun q=>q≤k∧((e.asg.take q).any fun b=>b.v==e.asg[k].v)=false) (fun q=>k-q) 0 ⟨aj _,rfl⟩ kM kA kF ?_
    intro g2 RJ QO DD q ⟨hq,hany⟩
    by_cases hlq:q<k
    ·have hgq:=S2 (l:=e.asg) (i:=q) oM
     cases heq:e.asg[q].v==e.asg[k].v
     ·simp (disch:=first|decide|omega) only[hA,sA,DD,hgq,heq,go_sem]
      refine⟨q+1,⟨hlq,SP oM hany heq⟩,by simp only;omega,?_⟩
      exact VA.kround (p:=Y2) (k:=3) kQ kA rfl RJ kS kV hR kL
     ·have HF8:=hFk 8 (by rw[HV.out,TO,dvl,dvg,dvv,LT (f:=fun b:Asg=>b.v==e.asg[k].v) (n:=k) oM hlq heq];rfl) kE
      simp (disch:=first|decide|omega) only[hA,sA,DD,hgq,heq,go_sem]
      exact ZA (xs:=[.v (.int .i64 8)]) ⟨by rw[HF8];rfl,rfl,rfl⟩
    obtain rfl:q=k:=by omega
    have HF0:gJ t[p].vars.length e.asg q=0:=by rw[HV.out,TO,dvl,dvg,dvv,hany];rfl
    simp (disch:=first|decide|omega) only[hA,sA,DD,go_sem]
    refine⟨q+1,⟨yA,CG HZ.out HF0⟩,by simp only;omega,?_⟩
    exact VA.kround (p:=J2) (k:=2) kQ kA rfl qF kS kV hR kL
   obtain rfl:k=e.asg.length:=by omega
   simp (disch:=first|decide|omega) only[hA,sA,aa,go_sem]
   exact ZA (xs:=[.v (.int .i64 0)]) ⟨by rw[HR.out,HZ.out];rfl,rfl,rfl⟩
def a_rFind:AFunc:=({c:=_}:CF Tryz.prog 56).c
theorem C7:qA Tryz.prog 56=some a_rFind:=by kernel_rfl
def V2:List (Nat×Nat):=[(7,50)]
def uT:List (Nat×Nat):=[(8,9),(17,50)]
def a_rAt:AFunc:=({c:=_}:CF Tryz.prog 57).c
theorem ZEh:qA Tryz.prog 57=some a_rAt:=by kernel_rfl
def a_rPaired:AFunc:=⟨2,70,[.tmp 4],(.seq (.region [⟨some 2,.box (.t 0),none⟩,⟨some 3,.box (.t 1),none⟩,⟨some 4,.mv (.c (.v (.int .i64 0))),none⟩]) (.seq (.region [⟨some 9,.load (some 1) (.t 2),none⟩,⟨some 10,.load (some 2) (.t 3),none⟩,⟨some 11,.call (.c (.fn 57 [])) [(.t 9),(.t 10)],none⟩,⟨some 5,.alloc [(.v (.int .i64 0)),(.v (.int .i64 0)),(.v (.int .i64 0)),(.v (.int .i64 0)),(.v .zsl)],none⟩,⟨none,.store 5 (.t 5) (.t 11),none⟩]) (.seq (.seq (.region [oB 12 0 5,oC 13 12,⟨some 14,.bin .eql (.t 13) (.c (.v (.int .i64 1))),none⟩]) (.cond (.t 14) (.seq (.region [⟨some 4,.mv (.c (.v (.int .i64 0))),none⟩]) .ret) .skip)) (.seq (.seq (.draw [⟨0,⟨some 15,.load (some 1) (.t 2),none⟩,[]⟩,⟨1,oB 16 0 5,[]⟩,⟨2,oC 17 16,[]⟩,⟨3,oB 18 2 5,[]⟩,⟨4,oC 19 18,[]⟩,⟨6,⟨some 21,.load (some 2) (.t 3),none⟩,[]⟩,⟨5,⟨some 20,.call (.c (.fn 56 [])) [(.t 15),(.t 17),(.t 19)],none⟩,[⟨some 21,.load (some 2) (.t 3),none⟩]⟩,⟨7,⟨some 22,.eqs true [.i,.i] (.t 20) (.t 21),none⟩,[]⟩]) (.cond (.t 22) (.seq (.region [⟨some 4,.mv (.c (.v (.int .i64 8))),none⟩]) .ret) .skip)) (.seq (.seq (.region [oB 23 0 5,oC 24 23,⟨some 25,.bin .eql (.t 24) (.c (.v (.int .i64 3))),none⟩]) (.cond (.t 25) (.seq (.region [⟨some 6,.mv (.c (.v (.bool false))),none⟩]) (.seq (.seq (.region [⟨some 7,.mv (.c (.v (.int .i64 0))),none⟩]) (.block 0 (.loop (.seq (.seq (.region [oA 26 7,oB 27 0 2,oC 28 27,oB 29 1 5,oC 30 29,oE 31 3 28 30,oB 32 2 31,oC 33 32,oF 34 33,⟨some 35,.bin .lss (.t 26) (.t 34),none⟩]) (.cond (.t 35) .skip (.exit 0))) (.seq (.block 1 (.seq (.region [oB 38 0 2,oC 39 38,oB 40 1 5,oC 41 40,oE 42 3 39 41,oB 43 2 42,oC 44 43,oA 45 7,oE 46 5 44 45,⟨some 47,.load (some 5) (.t 46),none⟩,⟨some 8,.alloc [(.v (.int .i64 0)),(.v (.int .i64 0)),(.v (.int .i64 0)),(.v (.int .i64 0)),(.v .zsl)],none⟩,⟨none,.store 5 (.t 8) (.t 47),none⟩]) (.region [oA 48 6,oA 49 48,oB 50 0 8 (some (49,false)),oC 51 50 (some (49,false)),⟨some 52,.bin .eql (.t 51) (.c (.v (.int .i64 2))),some (49,false)⟩,oA 53 52 (some (49,false)),oB 54 2 8 (some (53,true)),oC 55 54 (some (53,true)),oB 56 2 5 (some (53,true)),oC 57 56 (some (53,true)),⟨some 58,.bin .eql (.t 55) (.t 57),some (53,true)⟩,⟨some 59,.pick (.t 53) (.t 58) (.c (.v (.bool false))),some (49,false)⟩,oA 60 59 (some (49,false)),oB 61 1 8 (some (60,true)),oC 62 61 (some (60,true)),oB 63 0 3 (some (60,true)),oC 64 63 (some (60,true)),⟨some 65,.bin .eql (.t 62) (.t 64),some (60,true)⟩,⟨some 66,.pick (.t 60) (.t 65) (.c (.v (.bool false))),some (49,false)⟩,⟨some 67,.pick (.t 49) (.c (.v (.bool true))) (.t 66),none⟩,oA 6 67]))) (.region [oA 36 7,⟨some 37,.bin .add (.t 36) (.c (.v (.int .i64 1))),none⟩,oA 7 37])))))) (.seq (.region [oA 68 6,⟨some 69,.not (.t 68),none⟩]) (.cond (.t 69) (.seq (.region [⟨some 4,.mv (.c (.v (.int .i64 7))),none⟩]) .ret) .skip)))) .skip)) (.seq (.region [⟨some 4,.mv (.c (.v (.int .i64 0))),none⟩]) .ret))))))⟩
theorem wX:qA Tryz.prog 151=some a_rPaired:=by kernel_rfl
def aI:List (Nat×Nat):=[(6,8),(26,67)]

theorem evE (e:Ev):(eEv e).map AV.v=(zEA e):=rfl
theorem uP (t:Tr) (hS:Small t) (p j:Nat) (hp:p<t.length) (hj:j<t[p].evs.length) (b l:List Row):QA Tryz.prog 57 [.agg [.v (eT t)],idA (p,j+1)] b l (fun r b' l'=>r=.agg ((eEv t[p].evs[j]).map .v)∧b'=b∧l'=l):=by
 refine XA ZEh rfl kE ?_
 intro B g hB hR hE hA;simp only[zA]at hA
 have H8:=hS.np
 have qG:=hS.ne _ (ak hp)
 have zJ:=mG hp
 have yH:=yL hj
 have hjm:IntKind.i64.wrap (((j+1:Nat):Int)-1)=(j:Int):=by rw[pA oM oM];omega
 simp (disch:=first|decide|omega) only[a_rAt,hA,eT,idA,zJ,yH,hjm,aa,go_sem]
 exact ZA (xs:=[.agg (zEA t[p].evs[j])])
theorem XM (t:Tr) (hS:Small t) (kd m:Int) (b l:List Row):QA Tryz.prog 56 [.agg [.v (eT t)],.v (.int .i64 kd),.v (.int .i64 m)] b l (fun r b' l'=>r=idA (DB t kd m)∧b'=b∧l'=l):=by
 refine XA C7 rfl kE ?_
 intro B g hB hR hE hA;simp only[zA]at hA
 have H8:=hS.np
 simp (disch:=first|decide|omega) only[a_rFind,hA,eT,go_sem]
 refine JA (ι:=Nat) V2 (fun i=>[(7,.v (.int .i64 i))]) 2 (fun _=>[(zTA t),.live 0 2 [[.v (.int .i64 0),.v (.int .i64 0)]]])
  (fun i=>i≤t.length∧(bD t i 0).find? (AD t kd m)=none) (fun i=>t.length-i) 0 ⟨aj _,rfl⟩ kM kA kF ?_
 intro g1 qF TE sA i ⟨hi,h0⟩
 by_cases yA:i<t.length
 ·have zJ:=mG yA
  have qG:=hS.ne _ (ak yA)
  simp (disch:=first|decide|omega) only[hA,sA,aa,go_sem]
  refine JA (ι:=Nat) uT (fun j=>[(8,.v (.int .i64 j))]) 2 (fun _=>[(zTA t),.live 0 2 [[.v (.int .i64 0),.v (.int .i64 0)]]])
   (fun j=>j≤t[i].evs.length∧(bD t i j).find? (AD t kd m)=none) (fun j=>t[i].evs.length-j) 0 ⟨aj _,h0⟩ kM kA kF ?_
  intro g2 RJ QO DD j ⟨hj,h2⟩
  by_cases lJ:j<t[i].evs.length
  ·have yH:=yL lJ
   have hK:AD t kd m (i,j+1)=(t[i].evs[j].kind==kd&&t[i].evs[j].msg==m):=by unfold AD;rw[KG yA lJ]
   cases hk:t[i].evs[j].kind==kd
   ·simp (disch:=first|decide|omega) only[hA,sA,DD,zJ,yH,hk,aa,go_sem]
    refine⟨j+1,⟨lJ,MM h2 (by rw[hK,hk];rfl)⟩,by simp only;omega,?_⟩
    exact VA.kround (p:=uT) (k:=2) kQ kA rfl RJ kS kV hR kL
   cases hm:t[i].evs[j].msg==m
   ·simp (disch:=first|decide|omega) only[hA,sA,DD,zJ,yH,hk,hm,aa,go_sem]
    refine⟨j+1,⟨lJ,MM h2 (by rw[hK,hk,hm];rfl)⟩,by simp only;omega,?_⟩
    exact VA.kround (p:=uT) (k:=2) kQ kA rfl RJ kS kV hR kL
   have hV:=LS yA lJ h2 (by rw[hK,hk,hm];rfl)
   simp (disch:=first|decide|omega) only[hA,sA,DD,zJ,yH,hk,hm,aa,go_sem]
   exact ZA (xs:=[.agg [.v (.int .i64 i),.v (.int .i64 ((j:Int)+1))]]) ⟨by rw[hV];rfl,rfl,rfl⟩
  obtain rfl:j=t[i].evs.length:=by omega
  simp (disch:=first|decide|omega) only[hA,sA,DD,zJ,aa,go_sem]
  refine⟨i+1,⟨yA,by rw[←eF t i yA];exact h2⟩,by simp only;omega,?_⟩
  exact VA.kround (p:=V2) (k:=2) kQ kA rfl qF kS kV hR kL
 obtain rfl:i=t.length:=by omega
 have hV:DB t kd m=(0,0):=by unfold DB jA;rw[←JK,h0];rfl
 simp (disch:=first|decide|omega) only[hA,sA,aa,go_sem]
 exact ZA (xs:=[.agg [.v (.int .i64 0),.v (.int .i64 0)]]) ⟨by rw[hV];rfl,rfl,rfl⟩
theorem yU (t:Tr) (hS:Small t) (p i:Nat) (hp:p<t.length) (hi:i<t[p].evs.length) (hf:JB t.length p (uA t (p,i+1))=true) (b l:List Row):QA Tryz.prog 151 [.agg [.v (eT t)],idA (p,i+1)] b l (fun r b' l'=>r=.v (.int .i64 (KD t (p,i+1)))∧b'=b∧l'=l):=by
 refine XA wX rfl kE ?_
 intro B g hB hR hE hA;simp only[zA]at hA
 have H8:=hS.np
 have hP0:∀e,uA t (p,i+1)=e→KD t (p,i+1)=if e.kind==2 then (if TC t 2 e.msg==some (p,i+1) then 0 else 8) else if e.kind==3 then (if TC t 3 e.msg==some (p,i+1) then (if sendsB t e.peer.toNat e.msg (p:Int) then 0 else 7) else 8) else 0:=fun e h=>by unfold KD;rw[h]
 have qP:=KG hp hi
 rw[qP]at hf
 have D8:∀k m,(TC t k m==some (p,i+1))=decide (DB t k m=(p,i+1)):=fun k m=>ZES kS
 have HP:=KA (hP0 _ qP)
 clear hP0
 generalize hee:t[p].evs[i]=e at *
 cases k1:e.kind==1
 rotate_left
 ·have hk:e.kind=1:=by simpa using k1
  simp (disch:=first|decide|omega) only[a_rPaired,hA,eT,idA,go_sem]
  refine QA.nxt (uP t hS p i hp hi _ _) ?_
  rw[hee,evE]
  simp (disch:=first|decide|omega) only[hA,k1,go_sem]
  exact ZA (xs:=[.v (.int .i64 0)]) ⟨by rw[HP.out,hk];rfl,rfl,rfl⟩
 have ZNQ:e.kind=2∨e.kind=3:=by
  unfold JB at hf
  rw[k1]at hf
  simp at hf
  exact hf.1
 have hP:KD t (p,i+1)=if DB t e.kind e.msg=(p,i+1) then (if e.kind=3∧sendsB t e.peer.toNat e.msg p=false then 7 else 0) else 8:=by
  rw[HP.out]
  simp only[D8]
  rcases ZNQ with h|h<;>rw[h]<;>by_cases hh:DB t e.kind e.msg=(p,i+1)<;>rw[h]at hh<;>simp[hh]<;>(try cases sendsB t e.peer.toNat e.msg p<;>simp)
 clear HP
 have HP:=KA hP
 clear hP
 simp (disch:=first|decide|omega) only[a_rPaired,hA,eT,idA,go_sem]
 refine QA.nxt (uP t hS p i hp hi _ _) ?_
 rw[hee,evE]
 simp (disch:=first|decide|omega) only[hA,k1,go_sem]
 refine QA.nxt (XM t hS _ _ _ _) ?_
 by_cases hh:DB t e.kind e.msg=(p,i+1)
 case neg =>
  have qG:((((DB t e.kind e.msg).1:Int)==(p:Int))&&(((DB t e.kind e.msg).2:Int)==((i+1:Nat):Int)))=false:=by
   cases h1:((DB t e.kind e.msg).1:Int)==(p:Int)
   ·rfl
   ·cases h2:((DB t e.kind e.msg).2:Int)==((i+1:Nat):Int)
    ·rfl
    ·simp only[beq_iff_eq]at h1 h2
     exact absurd (Prod.ext (by simp only;omega) (by simp only;omega)) hh
  simp (disch:=first|decide|omega) only[hA,idA,qG,go_sem]
  exact ZA (xs:=[.v (.int .i64 8)]) ⟨by rw[HP.out,if_neg hh];rfl,rfl,rfl⟩
 rw[hh]
 cases k3:e.kind==3
 ·simp (disch:=first|decide|omega) only[hA,idA,jk,k3,go_sem]
  exact ZA (xs:=[.v (.int .i64 0)]) ⟨by rw[HP.out,if_pos hh,if_neg (fun h=>by simp[h.1]at k3)];rfl,rfl,rfl⟩
 have hk:e.kind=3:=by simpa using k3
 obtain⟨q,hq,hql⟩:∃q:Nat,e.peer=q∧q<t.length:=by
  unfold JB inB at hf
  rw[k1,hk]at hf
  simp at hf
  exact⟨e.peer.toNat,by omega,by omega⟩
 have hgq:=mG hql
 have hnq:=hS.ne _ (ak hql)
 have hsB:sendsB t e.peer.toNat e.msg p=t[q].evs.any fun s=>s.kind==2&&s.msg==e.msg&&s.peer==(p:Int):=by
  unfold sendsB nA;rw[hq,ca,YB dfPr t hql]
 simp (disch:=first|decide|omega) only[hA,idA,jk,k3,go_sem]
 refine JA (ι:=Nat) aI (fun j=>[(7,.v (.int .i64 j)),(6,.v (.bool ((t[q].evs.take j).any fun s=>s.kind==2&&s.msg==e.msg&&s.peer==(p:Int))))]) 3 (fun _=>[(zTA t),.live 0 2 [[.v (.int .i64 p),.v (.int .i64 ((i+1:Nat):Int))]],.live 0 5 [(zEA e)]])
  (fun j=>j≤t[q].evs.length) (fun j=>t[q].evs.length-j) 0 (aj _) kM kA kF ?_
 intro g1 qF TE sA j hj
 by_cases yA:j<t[q].evs.length
 ·have sL:=yL yA
  have ZF:=pZ (f:=fun s:Ev=>s.kind==2&&s.msg==e.msg&&s.peer==(p:Int)) yA
  generalize hs:(t[q].evs.take j).any (fun s=>s.kind==2&&s.msg==e.msg&&s.peer==(p:Int))=sb at *
  cases sb
  ·cases c1:t[q].evs[j].kind==2
   ·simp (disch:=first|decide|omega) only[hA,sA,hgq,sL,hq,c1,aa,go_sem]
    refine⟨j+1,yA,by simp only;omega,?_⟩
    rw[c1]at ZF
    simp only[gq,Bool.false_and]at ZF
    exact VA.kround (p:=aI) (k:=3) kQ (by ((try simp (disch:=decide) only[hA,sA,ZF,go_sem])<;>exact kH)) rfl qF kS kV hR kL
   cases c2:t[q].evs[j].msg==e.msg
   ·simp (disch:=first|decide|omega) only[hA,sA,hgq,sL,hq,c1,c2,aa,go_sem]
    refine⟨j+1,yA,by simp only;omega,?_⟩
    rw[c1,c2]at ZF
    simp only[gq,Bool.false_and,ib]at ZF
    exact VA.kround (p:=aI) (k:=3) kQ (by ((try simp (disch:=decide) only[hA,sA,ZF,go_sem])<;>exact kH)) rfl qF kS kV hR kL
   simp (disch:=first|decide|omega) only[hA,sA,hgq,sL,hq,c1,c2,aa,go_sem]
   refine⟨j+1,yA,by simp only;omega,?_⟩
   rw[c1,c2,gq,ib,ib]at ZF
   exact VA.kround (p:=aI) (k:=3) kQ (by ((try simp (disch:=decide) only[hA,sA,ZF,go_sem])<;>exact kH)) rfl qF kS kV hR kL
  ·simp (disch:=first|decide|omega) only[hA,sA,hgq,sL,hq,aa,go_sem]
   refine⟨j+1,yA,by simp only;omega,?_⟩
   rw[ka]at ZF
   exact VA.kround (p:=aI) (k:=3) kQ (by ((try simp (disch:=decide) only[hA,sA,ZF,go_sem])<;>exact kH)) rfl qF kS kV hR kL
 obtain rfl:j=t[q].evs.length:=by omega
 rw[io,←hsB]
 cases hsb:sendsB t e.peer.toNat e.msg p
 ·simp (disch:=first|decide|omega) only[hA,sA,hgq,hq,aa,go_sem]
  exact ZA (xs:=[.v (.int .i64 7)]) ⟨by rw[HP.out,if_pos hh,if_pos ⟨hk,hsb⟩];rfl,rfl,rfl⟩
 ·simp (disch:=first|decide|omega) only[hA,sA,hgq,hq,aa,go_sem]
  exact ZA (xs:=[.v (.int .i64 0)]) ⟨by rw[HP.out,if_pos hh,if_neg (fun h=>by rw[hsb]at h;cases h.2)];rfl,rfl,rfl⟩
def a_rAcy:AFunc:=({c:=_}:CF Tryz.prog 152).c
theorem ZCW:qA Tryz.prog 152=some a_rAcy:=by kernel_rfl
def ZA5:List (Nat×Nat):=[(4,7),(13,66)]
def HX:List (Nat×Nat):=[(4,7),(13,64)]
def aX:List (Nat×Nat):=[(4,4),(6,7),(20,64)]
def ZA4:List (Nat×Nat):=[(2,2),(8,8),(67,85)]

def dR (D:List Nat):List (List IV):=D.map fun (d:Nat)=>[IV.int .i64 (d:Int)]
theorem AN {D:List Nat}:(dR D).length=D.length:=by simp[dR]
theorem n9 {D:List Nat} {p:Nat} (h:p<D.length):(dR D)[p]? = some [.int .i64 D[p]]:=by simp[dR,h]
theorem ZJk {D:List Nat} {p d:Nat}:(dR D).set p [.int .i64 ((d:Int)+1)]=dR (D.set p (d+1)):=by simp[dR,fa]
theorem ZH8 {n:Nat}:List.replicate n [AV.v (.int .i64 0)]=vs (dR (List.replicate n 0)):=by simp[dR,vs]
theorem ZJg {t:Tr} {k m:Int} (h0:0<t.length):(DB t k m).1<t.length:=by
 unfold DB
 by_cases h:0<(jA t (ids t) k m).2
 ·exact (AC.1 (mQ h).1).1
 ·have hl:∀y∈ids t,1≤y.2:=fun y hy=>lG hy
  have:=zO hl h
  unfold jA;rw[this];simpa using h0
theorem ZBZ (t:Tr) (hS:Small t) (jV:∀x∈ids t,KD t x=0) (b l:List Row):QA Tryz.prog 152 [.agg [.v (eT t)]] b l (fun r b' l'=>∃c:Bool,r=.v (.bool c)∧(c=true→∀x∈ids t,¬Hb t x x)∧b'=b∧l'=l):=by
 refine XA ZCW rfl kE ?_
 intro B g hB hR hE hA;simp only[zA]at hA
 have H8:=hS.np
 have hz:=ZH8 (n:=t.length)
 simp (disch:=first|decide|omega) only[a_rAcy,hA,eT,hz,aa,go_sem]
 refine JA (ι:=List Nat) ZA5 (fun _=>[]) 2 (fun D=>[(zTA t),.live 0 1 (vs (dR D))])
  (fun D=>KI t D) (fun D=>sumE t-D.sum) (List.replicate t.length 0) (KI.start t) kM kA kF ?_
 intro g1 qF TE sA D0 hD0
 simp (disch:=first|decide|omega) only[hA,sA,go_sem]
 refine JA (ι:=Nat×List Nat×Bool) HX (fun i=>[(5,.v (.int .i64 i.1)),(4,.v (.bool i.2.2))]) 2 (fun i=>[(zTA t),.live 0 1 (vs (dR i.2.1))])
  (fun i=>i.1≤t.length∧KI t i.2.1∧D0.sum≤i.2.1.sum∧(i.2.2=true→D0.sum<i.2.1.sum)) (fun i=>t.length-i.1) (0,D0,false) ⟨aj _,hD0,ai _,fun h=>by cases h⟩ kM kA kF ?_
 rintro g2 RJ QO DD ⟨p,D1,b1⟩ ⟨hp,hD1,OH,xJ⟩
 simp only at hp hD1 OH xJ
 by_cases yA:p<t.length
 ·have zJ:=mG yA
  have qG:=hS.ne _ (ak yA)
  simp (disch:=first|decide|omega) only[hA,sA,DD,aa,go_sem]
  refine JA (ι:=List Nat×Bool) aX (fun i=>[(4,.v (.bool i.2))]) 2 (fun i=>[(zTA t),.live 0 1 (vs (dR i.1))])
   (fun i=>KI t i.1∧D0.sum≤i.1.sum∧(i.2=true→D0.sum<i.1.sum)) (fun i=>t[p].evs.length-i.1.getD p 0) (D1,b1) ⟨hD1,OH,xJ⟩ kM kA kF ?_
  rintro g3 bW xR QH ⟨D,b2⟩ ⟨hD,aO,vR⟩
  simp only at hD aO vR
  have hDl:=hD.len
  have fJ:=n9 (D:=D) (p:=p) oM
  have hdk:D.getD p 0=D[p]:=YB 0 D oM
  have LJ:=hD.le p yA
  have ZLx:=ZGa (D:=D) (k:=p) (d:=D[p]+1) oM
  have pK:=ZJk (D:=D) (p:=p) (d:=D[p])
  rw[hdk]at LJ
  by_cases hdl:D[p]<t[p].evs.length
  ·have yH:=yL hdl
   cases k3:t[p].evs[D[p]].kind==3
   ·have hk:KI t (D.set p (D[p]+1)):=by
     have:=KI.step hD yA (by rw[hdk];exact hdl) (ZAv jV yA rfl (by rw[hdk];exact hdl) (fun h3=>by rw[hdk,KG yA hdl]at h3;rw[h3]at k3;simp at k3))
     rwa [hdk]at this
    simp (disch:=first|decide|omega) only[hA,sA,DD,QH,zJ,fJ,yH,pK,k3,AN,cellsOf,go_sem]
    refine⟨(D.set p (D[p]+1),true),⟨hk,by simp only;omega,fun _=>by simp only;omega⟩,?_,?_⟩
    ·simp only;rw[hdk,au,ay oM];simp;omega
    ·exact VA.kround (p:=aX) (k:=2) kQ kA rfl bW kS kV hR kL
   have hk3:t[p].evs[D[p]].kind=3:=by simpa using k3
   generalize qP:t[p].evs[D[p]]=e at *
   have D8:(DB t 2 e.msg).1<t.length:=ZJg oM
   have hgf:(dR D)[(DB t 2 e.msg).1]? = some [.int .i64 ((D.getD (DB t 2 e.msg).1 0:Nat):Int)]:=by rw[n9 oM,YB 0 D oM]
   have hk:(DB t 2 e.msg).2≤D.getD (DB t 2 e.msg).1 0→KI t (D.set p (D[p]+1)):=fun h=>by
    have:=KI.step hD yA (by rw[hdk];exact hdl) (ZAv jV yA rfl (by rw[hdk];exact hdl) (fun h3=>by rw[hdk,KG yA hdl,qP];exact h))
    rwa [hdk]at this
   simp (disch:=first|decide|omega) only[hA,sA,DD,QH,zJ,fJ,yH,k3,AN,aa,go_sem]
   refine QA.nxt (XM t hS _ _ _ _) ?_
   generalize hfe:DB t 2 e.msg=y at *
   generalize hd2:D.getD y.1 0=d2 at *
   by_cases hly:d2<y.2
   ·have ZK0:decide ((d2:Int)<(y.2:Int))=true:=ae oM
    simp (disch:=first|decide|omega) only[hA,sA,DD,QH,zJ,fJ,yH,hgf,ZK0,idA,k3,AN,aa,go_sem]
    refine⟨(p+1,D,b2),⟨yA,hD,aO,vR⟩,by simp only;omega,?_⟩
    exact VA.kround (p:=HX) (k:=2) kQ kA rfl RJ kS kV hR kL
   ·have ZK0:decide ((d2:Int)<(y.2:Int))=false:=ag oM
    have hk:=hk oM
    simp (disch:=first|decide|omega) only[hA,sA,DD,QH,zJ,fJ,yH,hgf,ZK0,pK,idA,k3,AN,cellsOf,go_sem]
    refine⟨(D.set p (D[p]+1),true),⟨hk,by simp only;omega,fun _=>by simp only;omega⟩,?_,?_⟩
    ·simp only;rw[hdk,au,ay oM];simp;omega
    ·exact VA.kround (p:=aX) (k:=2) kQ kA rfl bW kS kV hR kL
  simp (disch:=first|decide|omega) only[hA,sA,DD,QH,zJ,fJ,AN,aa,go_sem]
  refine⟨(p+1,D,b2),⟨yA,hD,aO,vR⟩,by simp only;omega,?_⟩
  exact VA.kround (p:=HX) (k:=2) kQ kA rfl RJ kS kV hR kL
 obtain rfl:p=t.length:=by omega
 cases b1
 rotate_left
 ·have h1:=hD1.sum_le
  have h2:=xJ rfl
  simp (disch:=first|decide|omega) only[hA,sA,DD,aa,go_sem]
  refine⟨D1,hD1,by simp only;omega,?_⟩
  exact VA.kround (p:=ZA5) (k:=2) kQ kA rfl qF kS kV hR kL
 simp (disch:=first|decide|omega) only[hA,sA,DD,aa,go_sem]
 refine JA (ι:=Nat) ZA4 (fun i=>[(8,.v (.int .i64 i))]) 2 (fun i=>[(zTA t),.live 0 1 (vs (dR D1))])
  (fun i=>i≤t.length∧∀j (hj:j<t.length),j<i→t[j].evs.length≤D1.getD j 0) (fun i=>t.length-i) 0 ⟨aj _,fun j hj h=>by omega⟩ kM kA kF ?_
 rintro g3 bW xR QH i ⟨hi,xF⟩
 by_cases M9:i<t.length
 ·have QI:=mG M9
  have hDl:=hD1.len
  have fJ:=n9 (D:=D1) (p:=i) oM
  have hdk:D1.getD i 0=D1[i]:=YB 0 D1 oM
  by_cases hdl:D1[i]<t[i].evs.length
  ·simp (disch:=first|decide|omega) only[hA,sA,DD,QH,QI,fJ,AN,aa,go_sem]
   exact ZA (xs:=[.v (.bool false)]) ⟨false,rfl,(fun h=>by cases h),rfl,rfl⟩
  ·simp (disch:=first|decide|omega) only[hA,sA,DD,QH,QI,fJ,AN,aa,go_sem]
   refine⟨i+1,⟨M9,fun j hj YG=>?_⟩,by simp only;omega,?_⟩
   ·rcases bp j i with h|h
    ·exact xF j hj h
    ·obtain rfl:j=i:=by omega
     omega
   ·exact VA.kround (p:=ZA4) (k:=2) kQ kA rfl bW kS kV hR kL
 obtain rfl:i=t.length:=by omega
 simp (disch:=first|decide|omega) only[hA,sA,DD,QH,aa,go_sem]
 exact ZA (xs:=[.v (.bool true)]) ⟨true,rfl,(fun _=>KI.all hD1 (fun p hp=>xF p hp hp)),rfl,rfl⟩
def a_rFlt:AFunc:=({c:=_}:CF Tryz.prog 106).c
theorem ZCT:qA Tryz.prog 106=some a_rFlt:=by kernel_rfl
def ZAZ:List (Nat×Nat):=[(3,5),(27,41)]
def ZAY:List (Nat×Nat):=[(3,3),(6,8),(42,70)]
def ZAX:List (Nat×Nat):=[(3,3),(7,8),(49,70)]
def ZAW:List (Nat×Nat):=[(3,3),(9,12),(71,99)]
def ZAV:List (Nat×Nat):=[(3,3),(10,12),(78,99)]
def ZAU:List (Nat×Nat):=[(3,3),(13,15),(103,135)]
def ZAT:List (Nat×Nat):=[(3,3),(14,15),(110,135)]

theorem ZBY (t:Tr) (hS:Sm t) (hN:Nm t) (ZLP:Small t→Paired t→∀p j (hp:p<t.length) (hj:j<t[p].evs.length) (b l:List Row),QA Tryz.prog 153 [.agg [.v (eT t)],idA (p,j+1)] b l (fun r b' l'=>∃G R:List (List IV),r=.v (.isl 1 G)∧G[p]? = some [.isl 1 R]∧R[j+1]? = some [.bool (hbB t (p,j+1))]∧b'=b∧l'=l)) (b l:List Row):QA Tryz.prog 106 [.agg [.v (eT t)]] b l (fun r b' l'=>r=.tup [idA (RE t).1,.v (.int .i64 (RE t).2)]∧b'=b∧l'=l):=by
 refine XA ZCT rfl kE ?_
 intro B g hB hR hE hA;simp only[zA]at hA
 have H8:=hS.np
 cases zE:inB t.length 1 8
 ·have HF:=qW zE
  cases h1:decide ((t.length:Int)<1)
  ·have h2:decide ((t.length:Int)>8)=true:=by
    refine ae ?_
    have:=fx h1
    unfold inB at zE;simp at zE;omega
   simp (disch:=first|decide|omega) only[a_rFlt,hA,eT,h1,h2,go_sem]
   exact ZA (xs:=[.agg [.v (.int .i64 0),.v (.int .i64 0)],.v (.int .i64 1)]) ⟨by rw[HF];rfl,rfl,rfl⟩
  ·simp (disch:=first|decide|omega) only[a_rFlt,hA,eT,h1,go_sem]
   exact ZA (xs:=[.agg [.v (.int .i64 0),.v (.int .i64 0)],.v (.int .i64 1)]) ⟨by rw[HF];rfl,rfl,rfl⟩
 have hl18:1≤t.length∧t.length≤8:=by unfold inB at zE;simp at zE;omega
 have h1:decide ((t.length:Int)<1)=false:=ag oM
 have h2:decide ((t.length:Int)>8)=false:=ag oM
 have HIN:=KA zE
 have z0:(((0:Nat):Int) != 0)=false:=rfl
 simp (disch:=first|decide|omega) only[a_rFlt,hA,eT,h1,h2,go_sem]
 refine JA (ι:=Nat) ZAZ (fun p=>[(4,.v (.int .i64 p))]) 2 (fun _=>[(zTA t),.live 0 2 [[.v (.int .i64 0),.v (.int .i64 0)]]])
  (fun p=>p≤t.length∧∀q,q<p→CC t q=0) (fun p=>t.length-p) 0 ⟨aj _,fun q h=>by omega⟩ kM kA kF ?_
 rintro g1 qF TE sA p ⟨hp,hh⟩
 by_cases yA:p<t.length
 ·have cH:=fun b l=>Q6 t hS hN p yA b l
  simp only[eT]at cH
  by_cases hz:CC t p=0
  ·rw[hz]at cH
   simp (disch:=first|decide|omega) only[hA,sA,aa,go_sem]
   refine QA.nxt (cH _ _) ?_
   simp (disch:=first|decide|omega) only[hA,sA,z0,go_sem]
   refine⟨p+1,⟨yA,fun q hq=>?_⟩,by simp only;omega,?_⟩
   ·rcases bp q p with h|h
    ·exact hh q h
    ·obtain rfl:q=p:=by omega
     exact hz
   ·exact VA.kround (p:=ZAZ) (k:=2) kQ kA rfl qF kS kV hR kL
  ·have HF:=AS HIN.out yA hh hz
   have hb:(((CC t p:Nat):Int) != 0)=true:=by simp;exact hz
   simp (disch:=first|decide|omega) only[hA,sA,aa,go_sem]
   refine QA.nxt (cH _ _) ?_
   simp (disch:=first|decide|omega) only[hA,sA,hb,bC,RB,dB,cellsOf,go_sem]
   exact ZA (xs:=[.agg [.v (.int .i64 p),.v (.int .i64 0)],.v (.int .i64 (CC t p))]) ⟨by rw[HF];rfl,rfl,rfl⟩
 obtain rfl:p=t.length:=by omega
 have hS:=hS.small hh
 simp (disch:=first|decide|omega) only[hA,sA,aa,go_sem]
 refine JA (ι:=Nat) ZAY (fun p=>[(6,.v (.int .i64 p))]) 2 (fun _=>[(zTA t),.live 0 2 [[.v (.int .i64 0),.v (.int .i64 0)]]])
  (fun p=>p≤t.length∧(bD t p 0).find? (fun x=>eC t x != 0)=none) (fun p=>t.length-p) 0 ⟨aj _,rfl⟩ kM kA kF ?_
 rintro g2 RJ QO DD p ⟨hp,h0⟩
 by_cases yA:p<t.length
 ·have zJ:=mG yA
  have qG:=hS.ne _ (ak yA)
  simp (disch:=first|decide|omega) only[hA,sA,DD,aa,go_sem]
  refine JA (ι:=Nat) ZAX (fun j=>[(7,.v (.int .i64 j))]) 2 (fun _=>[(zTA t),.live 0 2 [[.v (.int .i64 0),.v (.int .i64 0)]]])
   (fun j=>j≤t[p].evs.length∧(bD t p j).find? (fun x=>eC t x != 0)=none) (fun j=>t[p].evs.length-j) 0 ⟨aj _,h0⟩ kM kA kF ?_
  rintro g3 bW xR QH j ⟨hj,h2⟩
  by_cases lJ:j<t[p].evs.length
  ·have cH:=fun b l=>Y6 t hS p j yA lJ b l
   simp only[eT]at cH
   by_cases hz:eC t (p,j+1)=0
   ·rw[hz]at cH
    simp (disch:=first|decide|omega) only[hA,sA,DD,QH,zJ,aa,go_sem]
    refine QA.nxt (cH _ _) ?_
    simp (disch:=first|decide|omega) only[hA,sA,DD,QH,z0,go_sem]
    refine⟨j+1,⟨lJ,DN h2 (by simp[hz])⟩,by simp only;omega,?_⟩
    exact VA.kround (p:=ZAX) (k:=2) kQ kA rfl bW kS kV hR kL
   ·have HF:=OS HIN.out hh (IN (P:=fun x=>eC t x != 0) yA lJ h2 (by simp[hz]))
    have hb:(((eC t (p,j+1):Nat):Int) != 0)=true:=by simp;exact hz
    simp (disch:=first|decide|omega) only[hA,sA,DD,QH,zJ,aa,go_sem]
    refine QA.nxt (cH _ _) ?_
    simp (disch:=first|decide|omega) only[hA,sA,DD,QH,hb,bC,RB,dB,cellsOf,go_sem]
    exact ZA (xs:=[.agg [.v (.int .i64 p),.v (.int .i64 ((j:Int)+1))],.v (.int .i64 (eC t (p,j+1)))]) ⟨by rw[HF];rfl,rfl,rfl⟩
  obtain rfl:j=t[p].evs.length:=by omega
  simp (disch:=first|decide|omega) only[hA,sA,DD,QH,zJ,aa,go_sem]
  refine⟨p+1,⟨yA,by rw[←eF t p yA];exact h2⟩,by simp only;omega,?_⟩
  exact VA.kround (p:=ZAY) (k:=2) kQ kA rfl RJ kS kV hR kL
 obtain rfl:p=t.length:=by omega
 have HFN:=bP h0
 have fL:∀x∈ids t,JB t.length x.1 (uA t x)=true:=fun x hx=>lK (ES HFN x hx)
 simp (disch:=first|decide|omega) only[hA,sA,DD,aa,go_sem]
 refine JA (ι:=Nat) ZAW (fun p=>[(9,.v (.int .i64 p))]) 2 (fun _=>[(zTA t),.live 0 2 [[.v (.int .i64 0),.v (.int .i64 0)]]])
  (fun p=>p≤t.length∧(bD t p 0).find? (fun x=>KD t x != 0)=none) (fun p=>t.length-p) 0 ⟨aj _,rfl⟩ kM kA kF ?_
 rintro g3 bW xR QH p ⟨hp,h0⟩
 by_cases yA:p<t.length
 ·have zJ:=mG yA
  have qG:=hS.ne _ (ak yA)
  simp (disch:=first|decide|omega) only[hA,sA,DD,QH,aa,go_sem]
  refine JA (ι:=Nat) ZAV (fun j=>[(10,.v (.int .i64 j))]) 2 (fun _=>[(zTA t),.live 0 2 [[.v (.int .i64 0),.v (.int .i64 0)]]])
   (fun j=>j≤t[p].evs.length∧(bD t p j).find? (fun x=>KD t x != 0)=none) (fun j=>t[p].evs.length-j) 0 ⟨aj _,h0⟩ kM kA kF ?_
  rintro g4 hE4 ZK1 jR j ⟨hj,h2⟩
  by_cases lJ:j<t[p].evs.length
  ·have cH:=fun b l=>yU t hS p j yA lJ (fL _ (AC.2 ⟨yA,by simp,by simp;omega⟩)) b l
   simp only[eT,idA]at cH
   have TI:((j+1:Nat):Int)=(j:Int)+1:=by omega
   rw[TI]at cH
   by_cases hz:KD t (p,j+1)=0
   ·rw[hz]at cH
    simp (disch:=first|decide|omega) only[hA,sA,DD,QH,jR,zJ,bC,RB,dB,aa,go_sem]
    refine QA.nxt (cH _ _) ?_
    simp (disch:=first|decide|omega) only[hA,sA,DD,QH,jR,z0,go_sem]
    refine⟨j+1,⟨lJ,DN h2 (by simp[hz])⟩,by simp only;omega,?_⟩
    exact VA.kround (p:=ZAV) (k:=2) kQ kA rfl hE4 kS kV hR kL
   ·have HF:=CS HIN.out hh HFN (IN (P:=fun x=>KD t x != 0) yA lJ h2 (by simp[hz]))
    have hb:(((KD t (p,j+1):Nat):Int) != 0)=true:=by simp;exact hz
    simp (disch:=first|decide|omega) only[hA,sA,DD,QH,jR,zJ,bC,RB,dB,aa,go_sem]
    refine QA.nxt (cH _ _) ?_
    simp (disch:=first|decide|omega) only[hA,sA,DD,QH,jR,hb,bC,RB,dB,cellsOf,go_sem]
    exact DA (xs:=[.agg [.v (.int .i64 p),.v (.int .i64 ((j:Int)+1))],.v (.int .i64 (KD t (p,j+1)))]) (.inr rfl) kR kO hR hB ⟨by rw[HF];rfl,rfl,rfl⟩
  obtain rfl:j=t[p].evs.length:=by omega
  simp (disch:=first|decide|omega) only[hA,sA,DD,QH,jR,zJ,aa,go_sem]
  refine⟨p+1,⟨yA,by rw[←eF t p yA];exact h2⟩,by simp only;omega,?_⟩
  exact VA.kround (p:=ZAW) (k:=2) kQ kA rfl bW kS kV hR kL
 obtain rfl:p=t.length:=by omega
 have HPN:=bP h0
 have jV:=ES HPN
 have hP:Paired t:=⟨fL,jV⟩
 have cA:=fun b l=>ZBZ t hS jV b l
 simp only[eT]at cA
 simp (disch:=first|decide|omega) only[hA,sA,DD,QH,aa,go_sem]
 refine aD _ _ _ _ _ _ (cA _ _) ?_
 rintro x b' l' ⟨c,rfl,hc,rfl,rfl⟩
 cases c
 rotate_left
 ·have HF:=WT HIN.out hh HFN HPN (show UG t=none from db.2 (fun x hx=>by simpa using hc rfl x hx))
  simp (disch:=first|decide|omega) only[hA,sA,DD,QH,bC,RB,dB,cellsOf,go_sem]
  exact ZA (xs:=[.agg [.v (.int .i64 0),.v (.int .i64 0)],.v (.int .i64 0)]) ⟨by rw[HF];rfl,rfl,rfl⟩
 simp (disch:=first|decide|omega) only[hA,sA,DD,QH,aa,go_sem]
 refine JA (ι:=Nat) ZAU (fun p=>[(13,.v (.int .i64 p))]) 2 (fun _=>[(zTA t),.live 0 2 [[.v (.int .i64 0),.v (.int .i64 0)]]])
  (fun p=>p≤t.length∧(bD t p 0).find? (hbB t)=none) (fun p=>t.length-p) 0 ⟨aj _,rfl⟩ kM kA kF ?_
 rintro g4 hE4 ZK1 jR p ⟨hp,h0⟩
 by_cases yA:p<t.length
 ·have zJ:=mG yA
  have qG:=hS.ne _ (ak yA)
  simp (disch:=first|decide|omega) only[hA,sA,DD,QH,jR,aa,go_sem]
  refine JA (ι:=Nat) ZAT (fun j=>[(14,.v (.int .i64 j))]) 2 (fun _=>[(zTA t),.live 0 2 [[.v (.int .i64 0),.v (.int .i64 0)]]])
   (fun j=>j≤t[p].evs.length∧(bD t p j).find? (hbB t)=none) (fun j=>t[p].evs.length-j) 0 ⟨aj _,h0⟩ kM kA kF ?_
  rintro g5 hE5 hEE5 hg5 j ⟨hj,h2⟩
  by_cases lJ:j<t[p].evs.length
  ·have cH:=fun b l=>ZLP hS hP p j yA lJ b l
   simp only[eT,idA]at cH
   have TI:((j+1:Nat):Int)=(j:Int)+1:=by omega
   have hwj:IntKind.i64.wrap ((j:Int)+1)=((j+1:Nat):Int):=by rw[pA oM oM];omega
   rw[TI]at cH
   simp (disch:=first|decide|omega) only[hA,sA,DD,QH,jR,hg5,zJ,bC,RB,dB,aa,go_sem]
   refine aD _ _ _ _ _ _ (cH _ _) ?_
   rintro x b' l' ⟨G,R,rfl,hG,V5,rfl,rfl⟩
   cases hz:hbB t (p,j+1)
   ·rw[hz]at V5
    simp (disch:=first|decide|omega) only[hA,sA,DD,QH,jR,hg5,hG,V5,hwj,go_sem]
    refine⟨j+1,⟨lJ,DN h2 hz⟩,by simp only;omega,?_⟩
    exact VA.kround (p:=ZAT) (k:=2) kQ kA rfl hE5 kS kV hR kL
   ·rw[hz]at V5
    have HF:=E3 HIN.out hh HFN HPN (show UG t=_ from IN (P:=hbB t) yA lJ h2 hz)
    simp (disch:=first|decide|omega) only[hA,sA,DD,QH,jR,hg5,hG,V5,hwj,bC,RB,dB,cellsOf,go_sem]
    exact DA (xs:=[.agg [.v (.int .i64 p),.v (.int .i64 ((j:Int)+1))],.v (.int .i64 10)]) (.inr rfl) kR kO hR hB ⟨by rw[HF];rfl,rfl,rfl⟩
  obtain rfl:j=t[p].evs.length:=by omega
  simp (disch:=first|decide|omega) only[hA,sA,DD,QH,jR,hg5,zJ,aa,go_sem]
  refine⟨p+1,⟨yA,by rw[←eF t p yA];exact h2⟩,by simp only;omega,?_⟩
  exact VA.kround (p:=ZAU) (k:=2) kQ kA rfl hE4 kS kV hR kL
 obtain rfl:p=t.length:=by omega
 have HF:=WT HIN.out hh HFN HPN (show UG t=none from bP h0)
 simp (disch:=first|decide|omega) only[hA,sA,DD,QH,jR,bC,RB,dB,aa,go_sem]
 exact DA (xs:=[.agg [.v (.int .i64 0),.v (.int .i64 0)],.v (.int .i64 0)]) (.inr rfl) kR kO hR hB ⟨by rw[HF];rfl,rfl,rfl⟩
def a_rDtl:AFunc:=({c:=_}:CF Tryz.prog 178).c
theorem ZCU:qA Tryz.prog 178=some a_rDtl:=by kernel_rfl

def eI2 (x:Nat×Nat):List IV:=[.int .i64 x.1,.int .i64 x.2]
theorem tT {e l:_} {rs:List ARes} {Q:AV→List Row→List Row→Prop} {B:List Row} (k ver len:Nat) {s:Nat} {rows:List (List IV)} (hi:l[k]? = some (.live ver s (vs rows))) (hx:resVs e B l rs=some [.sl (B.length+k) ver 0 len]) (hR:gA B.length B) {b0 l0:List Row} (hB:B=b0++l0)
  (hq:Q (.sl B.length ver 0 len) b0 (l0++[.live ver s (vs rows)])):uH rs Q b0.length .ret e B l:=by
 refine nH (.inr rfl) (xs:=[.sl (B.length+k) ver 0 len]) (y:=.sl B.length ver 0 len) (l':=[.live ver s (vs rows)]) hx (m:=1) rfl (fun j=>j+k) (fun i j _ _ h=>by omega) (fun j r' h=>?_) ?_ hR hB hq
 ·match j,h with
  |0,h=>cases h;exact⟨_,by rw[cn];exact hi,RnR.plain⟩
 ·exact Rn.slE (j:=0) kS kS
def dV (t:Tr) (x:Nat×Nat):Nat:=(jE t x).length-1
theorem TV (t:Tr) (hS:Small t) (p j:Nat) (hp:p<t.length) (hj:j<t[p].evs.length) (b l:List Row):QA Tryz.prog 178 [.agg [.v (eT t)],idA (p,j+1)] b l
  (fun r b' l'=>r=.sl (b.length+l.length) (dV t (p,j+1)) 0 (jE t (p,j+1)).length∧b'=b∧l'=l++[.live (dV t (p,j+1)) 2 (vs ((jE t (p,j+1)).map eI2))]):=by
 refine XA ZCU rfl kE ?_
 intro B g hB hR hE hA;simp only[zA]at hA
 have H8:=hS.np
 have qG:=hS.ne _ (ak hp)
 have hbl:B.length=b.length+l.length:=by rw[hB,ap]
 have qP:=KG hp hj
 have hjm:IntKind.i64.wrap (((j+1:Nat):Int)-1)=(j:Int):=by rw[pA oM oM];omega
 have cA:=fun b l=>uP t hS p j hp hj b l
 have cF:=fun b l=>XM t hS 2 t[p].evs[j].msg b l
 simp only[eT,idA,evE]at cA cF
 have hgt:decide (((j+1:Nat):Int)>1)=decide (0<j):=by rw[eh];simp only[bf];omega
 by_cases h1:0<j
 ·cases k3:t[p].evs[j].kind==3
  ·have hb:jE t (p,j+1)=[(p,j)]:=by unfold jE;rw[qP];simp only[k3];rw[if_pos oM];simp
   simp (disch:=first|decide|omega) only[a_rDtl,hA,eT,idA,hgt,ae h1,hjm,bC,RB,dB,reduceCtorEq,go_sem]
   refine QA.nxt (cA _ _) ?_
   simp (disch:=first|decide|omega) only[hA,k3,go_sem]
   refine tT 3 0 1 (rows:=[(p,j)].map eI2) (by rfl) kR hR hB ?_
   exact⟨by rw[hbl];unfold dV;rw[hb];rfl,rfl,by unfold dV;rw[hb];rfl⟩
  ·have hb:jE t (p,j+1)=[(p,j),DB t 2 t[p].evs[j].msg]:=by unfold jE;rw[qP];simp only[k3];rw[if_pos oM];simp
   simp (disch:=first|decide|omega) only[a_rDtl,hA,eT,idA,hgt,ae h1,hjm,bC,RB,dB,reduceCtorEq,go_sem]
   refine QA.nxt (cA _ _) ?_
   simp (disch:=first|decide|omega) only[hA,k3,go_sem]
   refine QA.nxt (cF _ _) ?_
   simp (disch:=first|decide|omega) only[hA,bC,RB,dB,reduceCtorEq,go_sem]
   refine tT 3 1 2 (rows:=[(p,j),DB t 2 t[p].evs[j].msg].map eI2) (by rfl) kR hR hB ?_
   exact⟨by rw[hbl];unfold dV;rw[hb];rfl,rfl,by unfold dV;rw[hb];rfl⟩
 ·cases k3:t[p].evs[j].kind==3
  ·have hb:jE t (p,j+1)=[]:=by unfold jE;rw[qP];simp only[k3];rw[if_neg oM];simp
   simp (disch:=first|decide|omega) only[a_rDtl,hA,eT,idA,hgt,ag h1,bC,RB,dB,reduceCtorEq,go_sem]
   refine QA.nxt (cA _ _) ?_
   simp (disch:=first|decide|omega) only[hA,k3,go_sem]
   refine TS (.inr rfl) 0 2 kR hR hB ?_
   exact⟨by rw[hbl];unfold dV;rw[hb];rfl,rfl,by unfold dV;rw[hb];rfl⟩
  ·have hb:jE t (p,j+1)=[DB t 2 t[p].evs[j].msg]:=by unfold jE;rw[qP];simp only[k3];rw[if_neg oM];simp
   simp (disch:=first|decide|omega) only[a_rDtl,hA,eT,idA,hgt,ag h1,bC,RB,dB,reduceCtorEq,go_sem]
   refine QA.nxt (cA _ _) ?_
   simp (disch:=first|decide|omega) only[hA,k3,go_sem]
   refine QA.nxt (cF _ _) ?_
   simp (disch:=first|decide|omega) only[hA,bC,RB,dB,reduceCtorEq,go_sem]
   refine tT 4 0 1 (rows:=[DB t 2 t[p].evs[j].msg].map eI2) (by rfl) kR hR hB ?_
   exact⟨by rw[hbl];unfold dV;rw[hb];rfl,rfl,by unfold dV;rw[hb];rfl⟩
theorem ZDk (t:Tr) (hS:Small t) (p j:Nat) (hp:p<t.length) (hj:j<t[p].evs.length) (b l:List Row):QA Tryz.prog 178 [.agg [.v (eT t)],idA (p,j+1)] b l (fun r b' l'=>r=.v (.isl 2 ((jE t (p,j+1)).map eI2))∧b'=b∧l'=l):=
 QA.deep (Dv.slV (i:=0) rfl kS) (TV t hS p j hp hj b l)
def a_rPas:AFunc:=({c:=_}:CF Tryz.prog 153).c
theorem ZCS:qA Tryz.prog 153=some a_rPas:=by kernel_rfl
def ZAS:List (Nat×Nat):=[(5,6),(11,29)]
def bX:List (Nat×Nat):=[(7,10),(33,73)]
def ZAR:List (Nat×Nat):=[(7,7),(10,10),(61,73)]

theorem ZAj {t:Tr} {N:Nat} (h:∀x∈t,x.evs.length≤N):∀p,p≤t.length→(bD t p 0).length≤p*N
 |0,_=>by simp[bD]
 |p+1,hp=>by
   have ih:=ZAj h p oM
   have hl:=h _ (ak (show p<t.length by omega))
   rw[←eF t p oM,bx]
   have:(bD t p t[p].evs.length).length=(bD t p 0).length+t[p].evs.length:=by simp[bD]
   omega
theorem ZEK {t:Tr} (h:Small t):(ids t).length≤1000000000000:=by
 have:=ZAj h.ne t.length (ai _)
 rw[JK]at this
 have h2:t.length*1000000≤1000000*1000000:=Nat.mul_le_mul h.np (ai _)
 omega
def gN (t:Tr) (p:Nat):Nat:=(nA t p).length+1
def gB (t:Tr) (S:List (Nat×Nat)) (p:Nat):List (List IV):=fl (gN t p) fun k=>[.bool (decide ((p,k)∈S))]
def gC (t:Tr) (base p:Nat):List AV:=[.sl (base+(p+1+1+1)) 0 0 (gN t p)]
def gW (t:Tr) (S:List (Nat×Nat)) (p:Nat):Row:=.live 0 1 (vs (gB t S p))
def TQ (t:Tr) (base:Nat) (x:Nat×Nat) (S:List (Nat×Nat)) (n:Nat) (T:List Row):List Row:=.live 0 1 [[.v (.isl 3 (t.map ePr))]]::.live 0 2 [[.v (.int .i64 x.1),.v (.int .i64 x.2)]]::.live n 1 (fl n (gC t base))::(fl n (gW t S)++T)
section
variable {t:Tr} {base n m:Nat} {x:Nat×Nat} {S:List (Nat×Nat)} {T:List Row}
theorem IM:TQ t base x S n T=(zTA t)::.live 0 2 [[.v (.int .i64 x.1),.v (.int .i64 x.2)]]::.live n 1 (fl n (gC t base))::(fl n (gW t S)++T):=rfl
theorem VF:(TQ t base x S n T).length=n+T.length+3:=by simp[TQ,xA]
theorem FR (hm:base+(n+3)≤m) (hT:gA m T):gA m (TQ t base x S n T):=by
 have hp:∀(rows:List (List IV)) row,row∈vs rows→∀c∈row,AVlt m c:=by
  intro rows row h c hc
  obtain⟨r0,_,rfl⟩:=cr.1 h
  obtain⟨x0,_,rfl⟩:=cr.1 hc
  exact .v _
 intro id ver sz els hr row JD c hc
 match id,hr with
 |0,hr=>cases hr;exact hp [[.isl 3 (t.map ePr)]] row JD c hc
 |1,hr=>cases hr;exact hp [[.int .i64 x.1,.int .i64 x.2]] row JD c hc
 |2,hr =>
   cases hr
   obtain⟨j,hj,rfl⟩:=cr.1 JD
   have:=ba.1 hj
   simp only[gC,lx]at hc
   subst hc;exact .sl _ _ _ _ oM
 |id+3,hr =>
   have hr:(fl n (gW t S)++T)[id]? = some (.live ver sz els):=hr
   by_cases hid:id<n
   ·rw[Q5 hid]at hr
    cases hr
    exact hp _ row JD c hc
   ·rw[aq (by rw[xA];omega)]at hr
    exact hT _ _ _ _ hr row JD c hc
theorem ZHZ {y:List AV} (h:gC t base n=y):fl n (gC t base)++[y]=fl (n+1) (gC t base):=by unfold fl;rw[fw,bh,←h];rfl
theorem ZHY {y:Row} {r:List Row} (h:gW t S n=y):fl n (gW t S)++y::r=fl (n+1) (gW t S)++r:=by unfold fl;rw[fw,bh,←h,bc];rfl
theorem ZH0 {p:Nat}:List.replicate (gN t p) [AV.v (.bool false)]=vs (gB t [] p):=by
 have:gB t [] p=fl (gN t p) fun _=>[IV.bool false]:=fM (fun _ _=>by simp)
 rw[this]
 apply ea
 intro j
 rw[iB]
 by_cases hj:j<gN t p
 ·rw[CB hj,gr,if_pos hj];rfl
 ·rw[UH oM,gr,if_neg hj];rfl
theorem i9 {p:Nat}:(gB t S p).length=gN t p:=xA
theorem ZFR {p k:Nat} (h:k<gN t p):(gB t S p)[k]? = some [.bool (decide ((p,k)∈S))]:=CB h
theorem ZJf {q k:Nat} (hq:q<n):(fl n (gW t S)++T).set q (.live 0 1 (vs ((gB t S q).set k [.bool true])))=fl n (gW t (S++[(q,k)]))++T:=by
 rw[jf _ _ (by rw[xA];exact hq),ZFS]
 congr 1
 refine fM (fun p _=>?_)
 by_cases hp:p=q
 ·subst hp
  rw[ZJ]
  unfold gW gB
  rw[ZFS]
  congr 2
  refine fM (fun j _=>?_)
  by_cases hj:j=k
  ·subst hj;rw[ZJ];simp
  ·rw[XU hj];congr 2;simp[hj]
 ·rw[XU hp]
  unfold gW gB
  congr 2
  refine fM (fun j _=>?_)
  congr 2;simp[hp]
end
theorem ZBW (t:Tr) (hS:Small t) (hP:Paired t) (p j:Nat) (hp:p<t.length) (hj:j<t[p].evs.length) (b l:List Row):QA Tryz.prog 153 [.agg [.v (eT t)],idA (p,j+1)] b l
  (fun r b' l'=>∃G R:List (List IV),r=.v (.isl 1 G)∧G[p]? = some [.isl 1 R]∧R[j+1]? = some [.bool (hbB t (p,j+1))]∧b'=b∧l'=l):=by
 refine XA ZCS rfl kE ?_
 intro B g hB hR hE hA;simp only[zA]at hA
 have H8:=hS.np
 have hnN:∀q,q<t.length→gN t q≤1000001:=fun q hq=>by
  unfold gN nA;rw[YB dfPr t hq];have:=hS.ne _ (ak hq);omega
 have hgN:∀q (hq:q<t.length),gN t q=t[q].evs.length+1:=fun q hq=>by unfold gN nA;rw[YB dfPr t hq]
 have hxm:(p,j+1)∈ids t:=AC.2 ⟨hp,by simp,by simp;omega⟩
 have ZOD:=ZEK hS
 have cD:=fun b l=>TV t hS p j hp hj b l
 simp only[eT,idA]at cD
 simp (disch:=first|decide|omega) only[a_rPas,hA,eT,idA,go_sem]
 refine QF (ι:=Nat) 5 1 ZAS (fun q=>[(6,.v (.int .i64 q)),(5,.sl (B.length+2) q 0 q)]) 3 (fun q=>TQ t B.length (p,j+1) [] q [])
  (fun q=>q≤t.length) (fun q=>t.length-q) 0 (aj _) (by simp (disch:=first|decide|omega) only[hA,go_sem]) kE rfl kM kA kF ?_
 intro g1 qF TE sA q hq
 by_cases yA:q<t.length
 ·have zJ:=mG yA
  have qG:=hS.ne _ (ak yA)
  have hw:IntKind.i64.wrap ((t[q].evs.length:Int)+1)=((gN t q:Nat):Int):=by rw[hgN q yA,pA oM oM];omega
  have hnq:=hnN q yA
  have hz:=ZH0 (t:=t) (p:=q)
  have hcn:=ZHZ (t:=t) (base:=B.length) (n:=q) rfl
  have htk:(fl q (gC t B.length)).take q=fl q (gC t B.length):=bo (by rw[xA];omega)
  simp only[gC]at hcn
  have hL:=IM (t:=t) (base:=B.length) (x:=(p,j+1)) (S:=[]) (n:=q) (T:=[])
  simp (disch:=first|decide|omega) only[hA,sA,hL,zJ,hw,hz,htk,xA,bC,RB,dB,MC,EC,hcn,aa,go_sem]
  refine⟨q+1,yA,by simp only;omega,?_⟩
  exact VA.kround (p:=ZAS) (k:=3) (junk:=[.live 0 1 [[.sl (B.length+(q+1+1+1)) 0 0 (gN t q)]]]) kQ kA (by have e:=ZHY (t:=t) (S:=[]) (n:=q) (r:=[.live 0 1 [[.sl (B.length+(q+1+1+1)) 0 0 (gN t q)]]]) rfl;simp only[gW]at e;simp only[TQ,ct,da,ee,gW];rw[e]) qF (by rw[VF];simp) (by rw[VF];simp (disch:=omega) only[bH,lts.down,Nat.reduceLT,Nat.reduceAdd]) hR (FR (by rw[VF];simp) nE)
 obtain rfl:q=t.length:=by omega
 have hL:=IM (t:=t) (base:=B.length) (x:=(p,j+1)) (S:=[]) (n:=t.length) (T:=[])
 simp (disch:=first|decide|omega) only[hA,sA,hL,ct,xA,go_sem]
 clear hL
 refine QA.nxt (cD _ _) ?_
 obtain⟨n,hn⟩:∃n,t.length=n:=⟨_,rfl⟩
 have hlq:(jE t (p,j+1)).length≤2:=iW t _
 simp (disch:=first|decide|omega) only[hA,sA,xA,go_sem]
 refine JA (ι:=List (Nat×Nat)×List (Nat×Nat)×Nat×Nat) bX (fun i=>[(7,.sl (B.length+(t.length+1+1+1)) i.2.2.2 i.2.2.1 (i.2.1.length-i.2.2.1))]) (t.length+4)
  (fun i=>TQ t B.length (p,j+1) i.1 t.length [.live i.2.2.2 2 (vs (i.2.1.map eI2))])
  (fun i=>PaI t (p,j+1) i.1 (i.2.1.drop i.2.2.1)∧i.2.2.1≤i.2.1.length∧(i.2.1.drop i.2.2.1).length≤2*i.1.length+2) (fun i=>3*((ids t).length-i.1.length)+(i.2.1.drop i.2.2.1).length)
  ([],jE t (p,j+1),0,dV t (p,j+1)) ⟨PaI.start hP hxm,aj _,by simpa using hlq⟩ kM kA kF ?_
 rintro g2 RJ QO DD ⟨S,els,off,ver⟩ ⟨hI,gR,IB⟩
 simp only at hI gR IB
 have ZNR:=hI.few
 have hL:=IM (t:=t) (base:=B.length) (x:=(p,j+1)) (S:=S) (n:=t.length) (T:=[.live ver 2 (vs (els.map eI2))])
 cases hq:els.drop off with
 |nil =>
   have hz0:els.length-off=0:=by have:=congrArg List.length hq;simpa using this
   have hgt:decide (((els.length-off:Nat):Int)>0)=false:=by rw[hz0];rfl
   rw[hq]at hI
   simp (disch:=first|decide|omega) only[hA,sA,DD,hL,hgt,xA,go_sem]
   have xJ:decide ((p,j+1)∈S)=hbB t (p,j+1):=by
    by_cases h:(p,j+1)∈S
    ·rw[ae h,ZEN ((hI.all _ hxm).1 h)]
    ·rw[ag h,ZBs (fun k=>h ((hI.all _ hxm).2 k))]
   refine iA (.inr rfl) (xs:=[.sl (B.length+2) t.length 0 t.length]) (y:=.v (.isl 1 (fl t.length fun q=>[.isl 1 (gB t S q)]))) kR ?_ hR hB ⟨_,gB t S p,rfl,CB hp,by rw[ZFR (by rw[hgN p hp];omega),xJ],rfl,rfl⟩
   refine Dv.slR (i:=2) rfl (by rw[xA];omega) xA (fun k r row h1 h2=>?_)
   rw[cn]at h1
   by_cases hk:k<t.length
   ·rw[CB hk]at h1 h2
    cases h1;cases h2
    refine .cons ?_ .nil
    refine Dv.slV (i:=k+1+1+1) (rows:=gB t S k) ?_ i9.symm
    simp only[fh]
    exact Q5 hk
   ·rw[UH oM]at h1;cases h1
 |cons y R =>
   have hol:off<els.length:=by
    have:=congrArg List.length hq;simp at this;omega
   have hgy:els[off]? = some y:=by
    have:(els.drop off)[0]? = some y:=by rw[hq];rfl
    rwa [dp,eo]at this
   have V5:els.drop (off+1)=R:=by rw[←List.drop_drop,hq];rfl
   have hgt:decide (((els.length-off:Nat):Int)>0)=true:=ae oM
   rw[hq]at hI IB
   obtain⟨hym,hyb⟩:=hI.r y kS
   obtain⟨q,k⟩:=y
   obtain⟨hqt,hk1,OK⟩:=AC.1 hym
   simp only at hqt hk1 OK
   obtain⟨k,rfl⟩:∃k',k=k'+1:=⟨k-1,by omega⟩
   have hkl':k<t[q].evs.length:=by omega
   have hnq:=hnN q hqt
   have ZNS:=hgN q hqt
   have qG:=hS.ne _ (ak hqt)
   have i0:(0:Int).toNat=0:=rfl
   have i1:(1:Int).toNat=1:=rfl
   have ZLy:(1:Int)≤((els.length-off:Nat):Int):=by omega
   have ZO:els.length-off-1=els.length-(off+1):=by omega
   have hgC:=CB (f:=gC t B.length) hqt
   have hgB:=ZFR (t:=t) (S:=S) (p:=q) (k:=k+1) (by rw[ZNS];omega)
   simp only[gC]at hgC
   have hfa:=fun T=>Q5 (C:=gW t S) (T:=T) hqt
   simp only[gW]at hfa
   simp only[ej]at IB
   by_cases hm:(q,k+1)∈S
   ·rw[ae hm]at hgB
    simp (disch:=first|decide|omega) only[hA,sA,DD,hL,hgt,hgy,eI2,i0,i1,ZLy,ZO,hgC,hfa,hgB,i9,xA,MC,EC,tB,uB,cellsOf,go_sem]
    refine⟨(S,els,off+1,ver),⟨by simp only;rw[V5];exact hI.skip hm,by simp only;omega,by simp only;rw[V5];omega⟩,by simp only;rw[V5,hq];simp,?_⟩
    exact VA.kround (p:=bX) (k:=t.length+4) (l1:=TQ t B.length (p,j+1) S t.length [.live ver 2 (vs (els.map eI2))]) (junk:=[.live 0 2 [[.v (.int .i64 q),.v (.int .i64 ((k+1:Nat):Int))]]]) kQ kA (by simp[TQ,gW]) RJ (by rw[VF];simp) (by rw[VF];simp (disch:=omega) only[bH,lts.down,Nat.reduceLT,Nat.reduceAdd]) hR (FR (by rw[VF];simp) kL)
   rw[ag hm]at hgB
   have cE:=fun b l=>ZDk t hS q k hqt hkl' b l
   simp only[eT,idA]at cE
   have ZNT:=fun T=>ZJf (t:=t) (S:=S) (T:=T) (k:=k+1) hqt
   have hJ:=hI.mark hm
   have hfw:=hJ.few
   simp only[ap,ej,fq]at hfw
   have hm2:(jE t (q,k+1)).length≤2:=iW t _
   simp (disch:=first|decide|omega) only[hA,sA,DD,hL,hgt,hgy,eI2,i0,i1,ZLy,ZO,hgC,hfa,hgB,ZNT,i9,xA,MC,EC,tB,uB,cellsOf,go_sem]
   refine QA.nxt (cE _ _) ?_
   simp (disch:=first|decide|omega) only[hA,sA,DD,go_sem]
   refine JA (ι:=Nat×List (Nat×Nat)×Nat×Nat) ZAR (fun i=>[(10,.v (.int .i64 i.1)),(7,.sl (B.length+(t.length+1+1+1)) i.2.2.2 i.2.2.1 (i.2.1.length-i.2.2.1))]) (t.length+5)
    (fun i=>TQ t B.length (p,j+1) (S++[(q,k+1)]) t.length [.live i.2.2.2 2 (vs (i.2.1.map eI2)),.live 0 2 [[.v (.int .i64 q),.v (.int .i64 ((k+1:Nat):Int))]]])
    (fun i=>i.1≤(jE t (q,k+1)).length∧PaJ t (p,j+1) (q,k+1) (S++[(q,k+1)]) (i.2.1.drop i.2.2.1) i.1∧i.2.2.1≤i.2.1.length∧(i.2.1.drop i.2.2.1).length=R.length+i.1) (fun i=>(jE t (q,k+1)).length-i.1)
    (0,els,off+1,ver) ⟨aj _,by simp only;rw[V5];exact hJ,by simp only;omega,by simp only;rw[V5];rfl⟩ kM kA (fun e=>by simp only[TQ,gW];exact VA.refl _ _ _) ?_
   rintro g3 bW xR QH ⟨m,el,o,v⟩ ⟨hml,hJ,ho,WM⟩
   simp only at hml hJ ho WM
   have hL2:=IM (t:=t) (base:=B.length) (x:=(p,j+1)) (S:=S++[(q,k+1)]) (n:=t.length) (T:=[.live v 2 (vs (el.map eI2)),.live 0 2 [[.v (.int .i64 q),.v (.int .i64 ((k+1:Nat):Int))]]])
   by_cases hlm:m<(jE t (q,k+1)).length
   ·obtain⟨z,hz⟩:∃z,(jE t (q,k+1))[m]? = some z:=⟨_,ah hlm⟩
    have LJ:el.length-o≤2000000000010:=by rw[co]at WM;omega
    have ZNU:List.take (el.length-o) (List.drop o (el.map eI2))++[[.int .i64 z.1,.int .i64 z.2]]=(el.drop o++[z]).map eI2:=by
     rw[bo kS,←fz,bh];rfl
    have ZLx:o+(el.length-o)≤el.length:=by omega
    have ht1:(el.length-o+1)*16≤140737488355328:=by omega
    have ht2:el.length-o+1≤140737488355328:=by omega
    simp (disch:=first|decide|omega) only[hA,sA,DD,QH,hL2,hz,eI2,dB,ZLx,ht1,ht2,xA,MC,EC,tB,uB,bC,RB,go_sem]
    have NY:(el.drop o++[z]).length=el.length-o+1:=by simp
    refine⟨(m+1,el.drop o++[z],0,v+1),⟨hlm,by simp only;rw[gu];exact hJ.push hP hz,aj _,by simp only;rw[gu,NY];rw[co]at WM;omega⟩,by simp only;omega,?_⟩
    simp only[NY,fg]
    exact VA.kround (p:=ZAR) (k:=t.length+5) (l1:=TQ t B.length (p,j+1) (S++[(q,k+1)]) t.length [.live (v+1) 2 (vs ((el.drop o++[z]).map eI2)),.live 0 2 [[.v (.int .i64 q),.v (.int .i64 ((k+1:Nat):Int))]]]) (junk:=[.live 0 2 [[.v (.int .i64 z.1),.v (.int .i64 z.2)]]]) kQ kA (by rw[←ZNU];simp[TQ]) bW (by rw[VF];simp) (by rw[VF];simp (disch:=omega) only[bH,lts.down,Nat.reduceLT,Nat.reduceAdd]) hR (FR (by rw[VF];simp) kL)
   ·obtain rfl:m=(jE t (q,k+1)).length:=by omega
    simp (disch:=first|decide|omega) only[hA,sA,DD,QH,hL2,xA,go_sem]
    have hlz:(S++[(q,k+1)]).length=S.length+1:=by simp
    refine⟨(S++[(q,k+1)],el,o,v),⟨hJ.fin hP (ai _),ho,by simp only;rw[WM,hlz];omega⟩,by simp only;rw[WM,hlz,hq,ej];omega,?_⟩
    exact VA.kround (p:=bX) (k:=t.length+4) (l1:=TQ t B.length (p,j+1) (S++[(q,k+1)]) t.length [.live v 2 (vs (el.map eI2))]) (junk:=[.live 0 2 [[.v (.int .i64 q),.v (.int .i64 ((k+1:Nat):Int))]]]) kQ kA (by simp[TQ]) RJ (by rw[VF];simp;done) (by rw[VF];simp (disch:=omega) only[bH,lts.down,Nat.reduceLT,Nat.reduceAdd]) hR (FR (by rw[VF];simp) kL)
def a_rVld:AFunc:=({c:=_}:CF Tryz.prog 54).c
theorem ZCQ:qA Tryz.prog 54=some a_rVld:=by kernel_rfl

theorem LW (t:Tr) (hS:Sm t) (hN:Nm t) (b l:List Row):QA Tryz.prog 54 [.agg [.v (eT t)]] b l (fun r b' l'=>r=.v (.bool (ID t))∧b'=b∧l'=l):=by
 refine XA ZCQ rfl kE ?_
 intro B g hB hR hE hA;simp only[zA]at hA
 have cF:=fun b l=>ZBY t hS hN (fun h1 h2 p j hp hj b l=>ZBW t h1 h2 p j hp hj b l) b l
 simp only[eT,idA]at cF
 have hv:(((RE t).2:Int)==0)=ID t:=by unfold ID;rw[eh];simp
 simp (disch:=first|decide|omega) only[a_rVld,hA,eT,go_sem]
 refine QA.nxt (cF _ _) ?_
 simp (disch:=first|decide|omega) only[hA,hv,go_sem]
 exact ZA (xs:=[.v (.bool (ID t))])
attribute [local go_sem] C2 O2 M0 C0 rT P2 List.replicate_succ List.replicate_zero
theorem lS (t:Tr) (hS:Small t) (hN:Nm t) (k m:Int) (b l:List Row):QA Tryz.prog 56 [.agg [.v (eT t)],.v (.int .i64 k),.v (.int .i64 m)] b l (fun r b' l'=>r=idA (DB t k m)∧b'=b∧l'=l):=by
 refine QA.of_ext ⟨_,Tryz.func56,by kernel_rfl,by kernel_rfl⟩ (fun F L w vs hr=>?_)
 obtain⟨u,us,rfl,hs,PY⟩:=RO hN hr
 obtain⟨v,us,rfl,h3,PY⟩:=VE PY
 obtain⟨v',us,rfl,h4,PY⟩:=VE PY
 obtain rfl:=yG PY
 cases h3.vI
 cases h4.vI
 refine (ZEm u t k m w hS hs).mono ?_
 rintro e w' ⟨rfl,he⟩
 exact⟨he,_,_,rfl,LX _ _ _ _,rfl,rfl,rfl⟩

structure CutIn (t:Tr) (cs:List Int):Prop where
 len:cs.length=t.length
 le:∀(k:Nat) (h:k<t.length) (h2:k<cs.length),0≤cs[k]∧cs[k]≤t[k].evs.length
def evp (t:Tr) (p j:Nat):Ev:=uA t (p,j+1)
def toI (t:Tr) (p j:Nat):Nat:=(DB t 3 (evp t p j).msg).2
def VN (t:Tr) (p j i:Nat):Bool:=
 (evp t p j).kind==2&&((evp t p i).kind==2&&((evp t p j).peer==(evp t p i).peer&&(toI t p i != 0&&(toI t p j==0||decide (toI t p i<toI t p j)))))
structure FfI (t:Tr) (p q k last:Nat) (mis:Bool):Prop where
 m1:∀j,j<k→(evp t p j).kind=2→(evp t p j).peer=q→toI t p j=0→mis=true
 m2:mis=true→∃j,j<k∧(evp t p j).kind=2∧(evp t p j).peer=q∧toI t p j=0
 l1:∀j,j<k→(evp t p j).kind=2→(evp t p j).peer=q→toI t p j≤last
 l2:0<last→∃j,j<k∧(evp t p j).kind=2∧(evp t p j).peer=q∧toI t p j=last
 g:∀i,i<k→∀j,j<i→(evp t p i).peer=q→VN t p j i=false
theorem FfI.start (t:Tr) (p q:Nat):FfI t p q 0 0 false:=⟨fun j h=>by omega,fun h=>(by cases h),fun j h=>by omega,fun h=>by omega,fun j h=>by omega⟩
theorem FfI.skip {t:Tr} {p q k last:Nat} {mis:Bool} (h:FfI t p q k last mis) (hk:¬((evp t p k).kind=2∧(evp t p k).peer=q)):FfI t p q (k+1) last mis:=by
 have up:∀j,j<k+1→j<k∨j=k:=fun j hj=>by omega
 refine⟨fun j hj a b c=>?_,fun hm=>?_,fun j hj a b=>?_,fun hl=>?_,fun i hi j hj hp=>?_⟩
 ·rcases up j hj with h1|rfl
  ·exact h.m1 j h1 a b c
  ·exact absurd ⟨a,b⟩ hk
 ·obtain⟨j,h1,h2⟩:=h.m2 hm;exact⟨j,by omega,h2⟩
 ·rcases up j hj with h1|rfl
  ·exact h.l1 j h1 a b
  ·exact absurd ⟨a,b⟩ hk
 ·obtain⟨j,h1,h2⟩:=h.l2 hl;exact⟨j,by omega,h2⟩
 ·rcases up i hi with h1|rfl
  ·exact h.g i h1 j hj hp
  ·have:((evp t p i).kind==2)=false:=by
    cases hh:(evp t p i).kind==2 with
    |false=>rfl
    |true=>exact absurd ⟨by simpa using hh,hp⟩ hk
   unfold VN;rw[this];simp
theorem FfI.next {t:Tr} {p q k last:Nat} (h:FfI t p q k last false) (h1:(evp t p k).kind=2) (h2:(evp t p k).peer=q) (h3:toI t p k≠0) (h4:last≤toI t p k):FfI t p q (k+1) (toI t p k) false:=by
 have up:∀j,j<k+1→j<k∨j=k:=fun j hj=>by omega
 refine⟨fun j hj a b c=>?_,fun hm=>(by cases hm),fun j hj a b=>?_,fun hl=>⟨k,by omega,h1,h2,rfl⟩,fun i hi j hj hp=>?_⟩
 ·rcases up j hj with g|rfl
  ·exact h.m1 j g a b c
  ·exact absurd c h3
 ·rcases up j hj with g|rfl
  ·have:=h.l1 j g a b;omega
  ·exact ai _
 ·rcases up i hi with g|rfl
  ·exact h.g i g j hj hp
  ·unfold VN
   cases hk:(evp t p j).kind==2
   ·simp
   cases he:(evp t p j).peer==(evp t p i).peer
   ·simp
   have hk:(evp t p j).kind=2:=by simpa using hk
   have he:(evp t p j).peer=q:=by rw[←h2];simpa using he
   have hz:(toI t p j==0)=false:=by
    cases hq:toI t p j==0 with
    |false=>rfl
    |true=>exact absurd (h.m1 j hj hk he (by simpa using hq)) kS
   have:=h.l1 j hj hk he
   rw[hz,ag oM];simp
theorem FfI.bad {t:Tr} {p q k last:Nat} {mis:Bool} (h:FfI t p q k last mis) (h1:(evp t p k).kind=2) (h2:(evp t p k).peer=q) (h3:toI t p k≠0) (h4:mis=true∨toI t p k<last):∃j,j<k∧VN t p j k=true:=by
 rcases h4 with h4|h4
 ·obtain⟨j,g1,g2,g3,g4⟩:=h.m2 h4
  refine⟨j,g1,?_⟩
  unfold VN;rw[g2,g3,h1,h2,g4];simp[h3]
 ·obtain⟨j,g1,g2,g3,g4⟩:=h.l2 oM
  refine⟨j,g1,?_⟩
  unfold VN;rw[g2,g3,h1,h2,g4];simp[h3,h4]
theorem CutIn.ok {t:Tr} {cs:List Int} (h:CutIn t cs) (hS:Small t):CutOk t cs:=⟨h.len,hS.np,hS.nv,hS.ne,hS.na,h.le⟩

structure Cutt (t:Tr) (cs:List Int):Prop where
 v:Vok t
 len:cs.length=t.length
 rng:∀p,p<t.length→0≤cAt cs p∧cAt cs p≤(nA t p).length
 ok:∀x∈ids t,(uA t x).kind=3→(x.2:Int)≤cAt cs x.1→((sndr t x).2:Int)≤cAt cs (sndr t x).1
def cN (cs:List Int) (p:Nat):Nat:=(cAt cs p).toNat
section
variable {t:Tr} {cs:List Int} (h:Cutt t cs)
include h
end
theorem EI {t:Tr} (h:Vok t):ID t=true:=by
 unfold ID RE
 have h1:¬(t.length<1∨8<t.length):=by have:=h.lo;have:=h.hi;omega
 rw[if_neg h1]
 have h2:(List.range t.length).find? (fun p=>CC t p != 0)=none:=by
  rw[db];intro p hp;rw[h.head p (ba.1 hp)];simp
 have h3:(ids t).find? (fun x=>eC t x != 0)=none:=by
  rw[db];intro x hx;rw[h.form x hx];simp
 have h4:(ids t).find? (fun x=>KD t x != 0)=none:=by
  rw[db];intro x hx;rw[h.pair x hx];simp
 simp only[h2,h3,h4]
 split
 ·rename_i x hx
  have:=ge hx
  have hm:=fk hx
  exact absurd (by simpa using this) (h.acyc x hm)
 ·rfl
end Go.Proofs.YtmaokjojbjdpoaaGreatDoor
