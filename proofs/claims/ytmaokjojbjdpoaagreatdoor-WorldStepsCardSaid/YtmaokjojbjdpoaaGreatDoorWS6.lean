/- Texts of one proof, laid together: B5, DP, B6, B9, BA, CQ, BB, B7, HA, OD, VS, BC, B0, BD, RR, RS, RT, RX, RY, RZ, R0, R1, PA, PE, PD, PK. No condition. -/
import Derived.Test.YtmaokjojbjdpoaaGreatDoorWS5
import Derived.WalkKit
import Derived.KernelRfl
set_option linter.unusedSimpArgs false
set_option maxHeartbeats 16000000
set_option maxRecDepth 100000
namespace Go.Proofs.YtmaokjojbjdpoaaGreatDoor
set_option maxHeartbeats 16000000
set_option maxRecDepth 100000
set_option linter.unusedVariables false
set_option linter.unusedSimpArgs false
open Go.RowKit Go.Extern.Stop Go.Stop Go.Extern
def dgt (n:Nat):ByteArray:=⟨#[UInt8.ofNat (48+n)]⟩
theorem ZJT (n:Nat) (hn:n≤7) (w:World):Calls Tryz.prog 195 #[.int .i64 n] w fun e w'=>e=.returned (.string (dgt n))∧w'=w:=by
 obtain rfl|rfl|rfl|rfl|rfl|rfl|rfl|rfl:n=0∨n=1∨n=2∨n=3∨n=4∨n=5∨n=6∨n=7:=by omega
 all_goals
  go_enter Tryz.func195,Tryz.ntmps195
  go_wp2
  go_ret
  exact⟨rfl,rfl⟩
theorem ZH0 (n:Nat) (hn:n≤7) (w:World):Calls Tryz.prog 185 #[.int .i64 n,.int .i64 10] w fun e w'=>e=.returned (.string (dgt n))∧w'=w:=by
 have S:=ZJT n hn w
 obtain rfl|rfl|rfl|rfl|rfl|rfl|rfl|rfl:n=0∨n=1∨n=2∨n=3∨n=4∨n=5∨n=6∨n=7:=by omega
 all_goals
  go_enter Tryz.func185,Tryz.ntmps185
  go_wp2_with (go_at_call 195;refine S.mono ?_;rintro e w' ⟨rfl,rfl⟩)
  go_ret
  exact⟨rfl,rfl⟩
theorem ZJe (n:Nat) (hn:n≤7) (w:World):Calls Tryz.prog 165 #[.int .i64 n] w fun e w'=>e=.returned (.string (dgt n))∧w'=w:=by
 have S:=ZH0 n hn w
 go_enter Tryz.func165,Tryz.ntmps165
 go_wp2_with (go_at_call 185;refine S.mono ?_;rintro e w' ⟨rfl,rfl⟩)
 go_ret
 exact⟨rfl,rfl⟩
theorem itoa8 (n:Nat) (hn:n≤7) (w:World):Calls Tryz.prog 133 #[.int .i64 n] w fun e w'=>e=.returned (.string (dgt n))∧w'=w:=by
 have S:=ZJe n hn w
 go_enter Tryz.func133,Tryz.ntmps133
 go_wp2_with (go_at_call 165;refine S.mono ?_;rintro e w' ⟨rfl,rfl⟩)
 go_ret
 exact⟨rfl,rfl⟩
theorem ZBq (n:Nat) (hn:n≤7) (b l:List Row):QA Tryz.prog 133 [.v (.int .i64 n)] b l (fun r b' l'=>r=.v (.str (dgt n))∧b'=b∧l'=l):=by
 refine QA.of_ext ⟨_,Tryz.func133,by kernel_rfl,by kernel_rfl⟩ (fun F L w vs hr=>?_)
 obtain⟨u,us,h1,h2,h3⟩:=YE hr
 have:=jG h3
 subst this
 obtain rfl:vs=#[u]:=gh.1 (by rw[h1])
 cases h2.vI
 refine (itoa8 n hn w).mono ?_
 rintro e w' ⟨rfl,rfl⟩
 exact⟨Ext.refl _,_,_,rfl,.v _ _ (.str _),rfl,rfl,rfl⟩
end Go.Proofs.YtmaokjojbjdpoaaGreatDoor
namespace Go.Proofs.YtmaokjojbjdpoaaGreatDoor
set_option linter.unusedVariables false
def Pln (x:AV):Prop:=∀(w:World) (F:Nat→Prop) (L:LMap) (w':World) (F':Nat→Prop) (L':LMap) (v:Value),RepA w F L x v→RepA w' F' L' x v
theorem Pln.int {k:IntKind} {n:Int}:Pln (.v (.int k n)):=fun w F L w' F' L' v h=>by
 cases h.vI;exact .v _ _ (.int _ _)
theorem Pln.bool {t:Bool}:Pln (.v (.bool t)):=fun w F L w' F' L' v h=>by
 cases h.vI;exact .v _ _ (.bool _)
theorem Pln.str {t:ByteArray}:Pln (.v (.str t)):=fun w F L w' F' L' v h=>by
 cases h.vI;exact .v _ _ (.str _)
theorem Pln.agg {cs:List AV} (hc:∀c∈cs,Pln c):Pln (.agg cs):=fun w F L w' F' L' v h=>by
 obtain⟨us,rfl,hu⟩:=h.aggL
 exact DA.agg ⟨hu.1,fun j d u hd hju=>hc d (ci hd) w F L w' F' L' u (hu.2 j d u hd hju)⟩
theorem Pln.tup {cs:List AV} (hc:∀c∈cs,Pln c):Pln (.tup cs):=fun w F L w' F' L' v h=>by
 obtain⟨us,rfl,hu⟩:=h.tupL
 exact DA.tup ⟨hu.1,fun j d u hd hju=>hc d (ci hd) w F L w' F' L' u (hu.2 j d u hd hju)⟩
theorem QA.peek {P:Program} {f:Nat} {args args':List AV} {b l:List Row} {x:AV} (hl:args.length=args'.length)
  (hd:∀(i:Nat) (z y:AV),args[i]? = some z→args'[i]? = some y→Dv 0 (b++l) z y) (hx:Pln x)
  (h:QA P f args' ((b++l).map iF) [] (fun r b' l'=>r=x∧b'=(b++l).map iF∧l'=[])):QA P f args b l (fun r b' l'=>r=x∧b'=b∧l'=l):=by
 refine⟨h.1,fun F L w us s hr=>?_⟩
 obtain⟨H,hH⟩:∃H,H=b++l:=⟨_,rfl⟩
 rw[←hH]at s hd h
 have s0:Sim F L ([]++H) w:=s
 have hget:∀{j v z:Nat} {els:List (List AV)},(H.map iF++[])[j]? = some (.live v z els)→False:=fun {j v z els} hj=>by
  rw[cu,an]at hj
  cases hq:H[j]? with
  |none=>rw[hq]at hj;cases hj
  |some r=>rw[hq]at hj;cases hj
 have UP:∀k,¬GC L (H.map iF++[]) k:=by
  rintro k ⟨j,v,z,els,q,h1,h2,h3⟩
  exact hget h1
 have s1:Sim (FD F L 0 H) L (H.map iF++[]) w:=by
  refine⟨fun j v z els hj=>(hget hj).elim,fun j v q hq=>?_,fun j j' v v' z z' e1 e2 bb q1 q2 h1 h2=>(hget h1).elim,fun k hk=>⟨?_,UP k⟩,s.glob.mono (fun _ h=>.inl h) (fun _ _=>rfl)⟩
  ·obtain⟨r,h1,h2⟩:=s.born j v q hq
   exact⟨iF r,by rw[cu,an,h1];rfl,h2⟩
  ·rcases hk with hk|⟨i,ver,sz,els,q,h1,h2,h3⟩
   ·exact (s.imm k hk).1
   ·rw[cn]at h2
    obtain⟨q',g1,g2⟩:=s.row _ _ _ _ h1
    rw[h2]at g1;cases g1
    exact g2.lt h3
 have HW:DA w (FD F L 0 H) L args' us.toList:=⟨by rw[←hl];exact hr.1,fun j y v hy hv=>by
  have M9:=(am.1 hy).1
  have hx:args[j]? = some args[j]:=ah oM
  exact (hd j _ y hx hy).rep s0 v (hr.2 j _ v hx hv)⟩
 refine Calls.mono (h.2 _ L w us s1 HW) ?_
 rintro en w' ⟨v,x',b',l',F2,L2,h1,h2,h3,h4,h5,rfl,rfl,rfl⟩
 have aR:∀k,k<w.heap.size→w'.heap[k]? = w.heap[k]?:=fun k hk=>h4.block k hk (UP k)
 have ZLt:∀k,F k→w'.heap[k]? = w.heap[k]?:=fun k hk=>aR k (s.imm k hk).1
 subst hH
 refine⟨v,x',b,l,F,L,h1,hx _ _ _ _ _ _ _ h2,⟨fun j ver z els hj=>?_,s.born,s.apart,fun k hk=>⟨fg (s.imm k hk).1 h4.size,(s.imm k hk).2⟩,s.glob.mono (fun _ h=>h) ZLt⟩,
  ⟨fun _ h=>h,fun _ _ _ _ h=>h,h4.os,h4.tape,h4.output,h4.size,fun k hk _=>aR k hk,fun _ _ h=>h,fun _ _ _ h=>h,fun _ _ h=>.inl h⟩,rfl,rfl,rfl,rfl⟩
 obtain⟨q,g1,g2⟩:=s.row j ver z els hj
 exact⟨q,g1,g2.mono (fun k hk=>aR k (g2.lt hk)) (fun _ _ h=>h.mono (fun _ h=>h) ZLt (fun _ _ _ h=>h))⟩
theorem Dv.sl0 {H:List Row} {id ver sz len:Nat} {rows:List (List IV)} (hi:H[id]? = some (.live ver sz (vs rows))) (hl:len=rows.length):Dv 0 H (.sl id ver 0 len) (.v (.isl sz rows)):=by
 have:=Dv.slV (n:=0) hi hl
 rwa [cn]at this
set_option linter.unusedSimpArgs false
attribute [local go_sem ↓] kC JB xC iC yD mB wC kD uC nD TA pB yC SA nB vC AA bB pC VB MA dC lB fB qB eB jB XC sB wD rC gD xD lE tD fE eE RB AB
attribute [local go_sem] UB LA QE vB CA mE rD dD iD UL KL sD sC tC nC XD nA JC EA YC FA KB aop AE AD DD MC SD bC TD OJ QG WF amm UF eC TB dF ID GF comma OC ZG CJ AF EF yJ uF gF qE vJ eqC eqF eG cellsOf iB fC IB xF DI rd rdI IE mk mD AV.cell List.all_cons List.all_nil Bool.and_true Bool.true_and Bool.and_self List.length_cons List.length_nil List.length_append Nat.reduceAdd Nat.reduceSub Nat.reduceMul Nat.zero_add Nat.add_zero List.cons_append List.nil_append List.append_assoc List.append_nil List.getElem?_cons_zero List.getElem?_cons_succ List.getElem?_nil List.set_cons_zero List.set_cons_succ List.drop_zero List.drop_succ_cons List.take_zero List.take_succ_cons List.take_nil List.drop_nil List.map_cons List.map_nil Option.map_some if_true if_false Bool.false_eq_true and_self true_and and_true Nat.reduceLeDiff Nat.reduceLT Nat.le_refl Nat.reduceEqDiff ite_true ite_false beq_self_eq_true beq_true beq_false Bool.not_true Bool.not_false Bool.true_beq Bool.false_beq pE DB xB zD vD jC qC zC KC jD qD nE pA XL sK YL QL dG uG rG iG geI gtI sG decide_true decide_false room List.getElem?_map List.length_map List.length_take Int.toNat_natCast Nat.min_def Nat.min_self uD QD MD tB bD mF KA List.getElem_cons_zero List.getElem_cons_succ
def a_wvars:AFunc:=⟨1,23,[.tmp 2],(.seq (.region [⟨some 2,.mv (.c (.v .zsl)),none⟩]) (.seq (.region [⟨some 3,.mv (.c (.v .zsl)),none⟩]) (.seq (.seq (.region [oA 6 0,oF 7 6,⟨some 8,.mv (.c (.v (.int .i64 0))),none⟩]) (.block 0 (.loop (.seq (.region [⟨some 9,.bin .lss (.t 8) (.t 7),none⟩]) (.seq (.cond (.t 9) .skip (.exit 0)) (.seq (.block 1 (.seq (.region [oA 10 8,oE 11 1 6 8,oC 12 11,oA 4 10,oA 5 12]) (.region [oA 13 3,oA 14 4,⟨some 15,.call (.c (.fn 133 [])) [(.t 14)],none⟩,⟨some 16,.binS .add (.c (.v (.str ⟨#[118]⟩))) (.t 15),none⟩,oA 17 5,⟨some 18,.build [(.v (.str ⟨#[]⟩)),(.v (.int .i64 0))] [(0,1,(.t 16)),(1,1,(.t 17))],none⟩,⟨some 19,.bslice 2 [(.v (.str ⟨#[]⟩)),(.v (.int .i64 0))] 1 [(0,(.t 18))],none⟩,⟨some 20,.append 2 24 (.t 13) (.t 19),none⟩,oA 3 20]))) (.region [⟨some 21,.bin .add (.t 8) (.c (.v (.int .i64 1))),none⟩,oA 8 21]))))))) (.seq (.region [oA 22 3,oA 2 22]) .ret))))⟩
theorem c7:qA Tryz.prog 83=some a_wvars:=by kernel_rfl
def M1:List (Nat×Nat):=[(3,5),(8,21)]
def a_r54VN:AFunc:=⟨1,9,[.tmp 2],(.seq (.region [⟨some 2,.mv (.c (.v (.str ⟨#[]⟩))),none⟩]) (.seq (.region [oA 3 0,⟨some 4,.bin .add (.c (.v (.int .i64 48))) (.t 3),none⟩,⟨some 5,.conv .u8 (.t 4),none⟩,⟨some 6,.bslice 1 [(.v (.int .u8 0))] 1 [(0,(.t 5))],none⟩,⟨some 7,.tostr (.t 6),none⟩,⟨some 8,.binS .add (.c (.v (.str ⟨#[118]⟩))) (.t 7),none⟩,oA 2 8]) .ret))⟩
theorem J8:qA Tryz.prog 108=some a_r54VN:=by kernel_rfl
def a_r54final:AFunc:=({c:=_}:CF Tryz.prog 107).c
theorem lU:qA Tryz.prog 107=some a_r54final:=by kernel_rfl
def dQ:List (Nat×Nat):=[(3,4),(7,22)]
def iQ:List (Nat×Nat):=[(5,6),(23,62)]
def uQ:List (Nat×Nat):=[(6,6),(30,62)]

def zH (i:Nat):ByteArray:=⟨#[118,UInt8.ofNat (48+i)]⟩
def wVr (l:List Int) (i:Nat):Vr:=⟨zH i,l.getD i 0⟩
def sN (l:List Int):List Vr:=fl l.length (wVr l)
theorem Y1 (i:Nat):(⟨#[118]⟩:ByteArray)++dgt i=zH i:=rfl
theorem dI {l:List Int}:(sN l).length=l.length:=xA
theorem ZES (l:List Int) (i:Nat):(fl i (wVr l)).map eVr++[[.str (zH i),.int .i64 (l.getD i 0)]]=(fl (i+1) (wVr l)).map eVr:=by
 have h:fl (i+1) (wVr l)=fl i (wVr l)++[wVr l i]:=by unfold fl;rw[fw,bj];rfl
 rw[h,bj];rfl
theorem yS (l0:List Int) (h8:l0.length≤8) (b l:List Row):QA Tryz.prog 83 [.v (.isl 1 (l0.map eI))] b l (fun r b' l'=>r=.v (.isl 2 ((sN l0).map eVr))∧b'=b∧l'=l):=by
 refine XA c7 rfl kE ?_
 intro B g hB hR hE hA;simp only[KA]at hA
 simp (disch:=first|decide|omega) only[a_wvars,hA,aa,go_sem]
 refine iE (ι:=Nat) 3 2 M1 (fun i=>[(8,.v (.int .i64 i)),(3,.sl B.length i 0 i)]) 1 (fun i=>[.live i 2 (vs ((fl i (wVr l0)).map eVr))])
  (fun i=>i≤l0.length) (fun i=>l0.length-i) 0 (aj _) (by simp (disch:=first|decide|omega) only[hA,go_sem]) kE rfl kM kA kF ?_
 intro g1 ZF bE iA i hi
 by_cases yA:i<l0.length
 ·have EH:=aC yA
  have F9:((fl i (wVr l0)).map eVr).length=i:=by rw[aa,xA]
  have htk:((fl i (wVr l0)).map eVr).take i=(fl i (wVr l0)).map eVr:=bn (by rw[F9];omega)
  have hn:=Y1 i
  simp (disch:=first|decide|omega) only[hA,iA,EH,F9,go_sem]
  refine QA.nxt (ZBq i oM _ _) ?_
  have SN:((#[118]:Array UInt8).size+(dgt i).size≤9223372036854775807)=True:=eq_true (by show 1+1≤_;omega)
  simp (disch:=first|decide|omega) only[hA,iA,EH,hn,SN,uB,F9,htk,ZES,aa,go_sem]

  refine⟨i+1,yA,by simp only;omega,?_⟩
  exact VA.kround (p:=M1) (k:=1) kQ kA rfl ZF kS kV hR kL
 ·obtain rfl:i=l0.length:=by omega
  have F9:((fl l0.length (wVr l0)).map eVr).length=l0.length:=by rw[aa,xA]
  simp (disch:=first|decide|omega) only[hA,iA,aa,go_sem]
  exact mP (i:=0) (ver:=l0.length) (sz:=2) (n:=l0.length) (rows:=(fl l0.length (wVr l0)).map eVr) (.inr rfl) kR rfl F9.symm hR hB ⟨rfl,rfl,rfl⟩
theorem x6 (i:Nat) (hi:i≤7) (b l:List Row):QA Tryz.prog 108 [.v (.int .i64 i)] b l (fun r b' l'=>r=.v (.str (zH i))∧b'=b∧l'=l):=by
 refine XA J8 rfl kE ?_
 intro B g hB hR hE hA;simp only[KA]at hA
 have hw:IntKind.i64.wrap (48+(i:Int))=((48+i:Nat):Int):=by rw[pA oM oM];omega
 have hw8:IntKind.u8.wrap ((48+i:Nat):Int)=((48+i:Nat):Int):=by
  obtain rfl|rfl|rfl|rfl|rfl|rfl|rfl|rfl:i=0∨i=1∨i=2∨i=3∨i=4∨i=5∨i=6∨i=7:=by omega
  all_goals rfl
 have hnu:JR [[AV.v (.int .u8 ((48+i:Nat):Int))]]=some [((48+i:Nat):Int)]:=rfl
 have DE:KY [((48+i:Nat):Int)]=dgt i:=by
  obtain rfl|rfl|rfl|rfl|rfl|rfl|rfl|rfl:i=0∨i=1∨i=2∨i=3∨i=4∨i=5∨i=6∨i=7:=by omega
  all_goals rfl
 have hn:=Y1 i
 have SN:((#[118]:Array UInt8).size+(dgt i).size≤9223372036854775807)=True:=eq_true (by show 1+1≤_;omega)
 simp (disch:=first|decide|omega) only[a_r54VN,hA,hw,hw8,uB,hnu,DE,hn,SN,go_sem]
 exact ZA (xs:=[.v (.str (zH i))])
def apA (v:List Int) (a:Asg):List Int:=v.set a.v.toNat a.val
def qN (v:List Int) (l:List Asg) (j:Nat):List Int:=(l.take j).foldl apA v
def apE (v:List Int) (e:Ev):List Int:=qN v e.asg e.asg.length
def stV (p:Pr):Nat→List Int
 |0=>p.vars.map (·.init)
 |k+1=>apE (stV p k) (p.evs.getD k SI)
def iM (p:Pr):List Int:=stV p p.evs.length
def OkA (p:Pr):Prop:=∀e∈p.evs,∀a∈e.asg,0≤a.v∧a.v<p.vars.length
theorem UT:∀(l:List Asg) (v:List Int),(l.foldl apA v).length=v.length
 |[],v=>rfl
 |a::l,v=>by rw[kx,UT l];unfold apA;simp
theorem fM {v:List Int} {l:List Asg} {j:Nat}:(qN v l j).length=v.length:=UT _ _
theorem pW {v:List Int} {l:List Asg} {j:Nat} (h:j<l.length):qN v l (j+1)=(qN v l j).set l[j].v.toNat l[j].val:=by
 unfold qN
 rw[zF h,List.foldl_append];rfl
theorem tG {p:Pr}:∀k,(stV p k).length=p.vars.length
 |0=>by simp[stV]
 |k+1=>by simp only[stV,apE,fM];exact tG k
theorem YS {l:List Vr} {i:Nat} (h:i<l.length):(l.map eVr)[i]? = some [.str l[i].name,.int .i64 l[i].init]:=by
 rw[an,ah h];rfl
theorem KH {l:List Ev} {i:Nat} (h:i<l.length):(l.map eEv)[i]? = some [.int .i64 l[i].kind,.int .i64 l[i].peer,.int .i64 l[i].msg,.int .i64 l[i].time,.isl 2 (l[i].asg.map eAsg)]:=by
 rw[an,ah h];rfl
theorem j4 {l:List Asg} {i:Nat} (h:i<l.length):(l.map eAsg)[i]? = some [.int .i64 l[i].v,.int .i64 l[i].val]:=by
 rw[an,ah h];rfl
structure PrS (p:Pr):Prop where
 nv:p.vars.length≤1000000
 ne:p.evs.length≤1000000
 na:∀e∈p.evs,e.asg.length≤1000000
def rK (p:Pr):Row:=.live 0 3 [[.v (.str p.name),.v (.isl 2 (p.vars.map eVr)),.v (.isl 5 (p.evs.map eEv))]]
theorem uU (p:Pr) (hS:PrS p) (hO:OkA p) (b l:List Row):QA Tryz.prog 107 [.agg [.v (.str p.name),.v (.isl 2 (p.vars.map eVr)),.v (.isl 5 (p.evs.map eEv))]] b l (fun r b' l'=>r=.v (.isl 1 ((iM p).map eI))∧b'=b∧l'=l):=by
 refine XA lU rfl kE ?_
 intro B g hB hR hE hA;simp only[KA]at hA
 have hnv:=hS.nv
 have zG:=hS.ne
 simp (disch:=first|decide|omega) only[a_r54final,hA,aa,go_sem]
 refine iE (ι:=Nat) 3 1 dQ (fun i=>[(4,.v (.int .i64 i)),(3,.sl (B.length+1) i 0 i)]) 2 (fun i=>[rK p,.live i 1 (vs (((p.vars.take i).map (·.init)).map eI))])
  (fun i=>i≤p.vars.length) (fun i=>p.vars.length-i) 0 (aj _) (by simp (disch:=first|decide|omega) only[hA,go_sem]) kE rfl kM kA kF ?_
 intro g1 ZF bE iA i hi
 unfold rK
 by_cases yA:i<p.vars.length
 ·have EH:=YS yA
  have F9:(((p.vars.take i).map (·.init)).map eI).length=i:=by rw[aa,aa,bg];omega
  have htk:(((p.vars.take i).map (·.init)).map eI).take i=((p.vars.take i).map (·.init)).map eI:=bn (by rw[F9];omega)
  have Q1:((p.vars.take i).map (·.init)).map eI++[[.int .i64 p.vars[i].init]]=((p.vars.take (i+1)).map (·.init)).map eI:=by rw[zF yA,bj,bj];rfl
  simp (disch:=first|decide|omega) only[hA,iA,EH,uB,F9,htk,Q1,aa,go_sem]
  refine⟨i+1,yA,by simp only;omega,?_⟩
  exact VA.kround (p:=dQ) (k:=2) kQ kA rfl ZF kS kV hR kL
 obtain rfl:i=p.vars.length:=by omega
 obtain⟨n,hn⟩:∃n,n=p.vars.length:=⟨_,rfl⟩
 have h0:(p.vars.take p.vars.length).map (·.init)=stV p 0:=by rw[im];rfl
 rw[h0]
 simp (disch:=first|decide|omega) only[hA,iA,aa,go_sem]
 refine JA (ι:=Nat) iQ (fun k=>[(5,.v (.int .i64 k))]) 2 (fun k=>[rK p,.live p.vars.length 1 (vs ((stV p k).map eI))])
  (fun k=>k≤p.evs.length) (fun k=>p.evs.length-k) 0 (aj _) kM kA kF ?_
 intro g2 IJ ZO GD k hk
 unfold rK
 by_cases yA:k<p.evs.length
 case neg =>
  obtain rfl:k=p.evs.length:=by omega
  have F9:((stV p p.evs.length).map eI).length=p.vars.length:=by rw[aa,tG]
  simp (disch:=first|decide|omega) only[hA,iA,GD,aa,go_sem]
  exact mP (i:=1) (ver:=p.vars.length) (sz:=1) (n:=p.vars.length) (rows:=(stV p p.evs.length).map eI) (.inr rfl) kR rfl F9.symm hR hB ⟨rfl,rfl,rfl⟩
 have yH:=KH yA
 obtain⟨e,he⟩:∃e,p.evs[k]=e:=⟨_,rfl⟩
 rw[he]at yH
 have hme:e∈p.evs:=by rw[←he];exact ak yA
 have hna:=hS.na e hme
 have DE:stV p (k+1)=qN (stV p k) e.asg e.asg.length:=by simp only[stV,apE,YA yA,he]
 simp (disch:=first|decide|omega) only[hA,iA,GD,yH,aa,go_sem]
 refine JA (ι:=Nat) uQ (fun j=>[(6,.v (.int .i64 j))]) 2 (fun j=>[rK p,.live p.vars.length 1 (vs ((qN (stV p k) e.asg j).map eI))])
  (fun j=>j≤e.asg.length) (fun j=>e.asg.length-j) 0 (aj _) kM kA kF ?_
 intro g3 GW rR AG j hj
 unfold rK
 by_cases pJ:j<e.asg.length
 ·have hga:=j4 pJ
  have hv:=hO e hme e.asg[j] (ak pJ)
  have F9:((qN (stV p k) e.asg j).map eI).length=p.vars.length:=by rw[aa,fM,tG]
  obtain⟨q,hq⟩:∃q:Nat,e.asg[j].v=q:=⟨e.asg[j].v.toNat,by omega⟩
  have hqn:q<p.vars.length:=by omega
  have hqg:((qN (stV p k) e.asg j).map eI)[q]? = some [.int .i64 ((qN (stV p k) e.asg j).getD q 0)]:=aC (by rw[fM,tG];exact hqn)
  have mK:((qN (stV p k) e.asg j).map eI).set q [.int .i64 e.asg[j].val]=(qN (stV p k) e.asg (j+1)).map eI:=by rw[pW pJ,hq,ca,fa];rfl
  simp (disch:=first|decide|omega) only[hA,iA,GD,AG,yH,hga,hq,hqg,mK,F9,aa,go_sem]
  refine⟨j+1,pJ,by simp only;omega,?_⟩
  exact VA.kround (p:=uQ) (k:=2) kQ kA rfl GW kS kV hR kL
 ·obtain rfl:j=e.asg.length:=by omega
  simp (disch:=first|decide|omega) only[hA,iA,GD,AG,yH,aa,go_sem]
  refine⟨k+1,yA,by simp only;omega,?_⟩
  rw[←DE]
  exact VA.kround (p:=iQ) (k:=2) kQ kA rfl IJ kS kV hR kL
open Go.RowKit
def a_wst1:AFunc:=({c:=_}:CF Tryz.prog 164).c
theorem ZKC:qA Tryz.prog 164=some a_wst1:=by kernel_rfl
def ZAK:List (Nat×Nat):=[(3,3),(5,5),(13,22)]
def nG:List (Nat×Nat):=[(6,7),(9,9),(31,57)]
def ZAJ:List (Nat×Nat):=[(9,9),(39,49)]

theorem dA {α:Type} {T:List α} {n:Nat} (h:T.length=n+1):∃a U,T=a::U∧U.length=n:=by
 cases T with
 |nil=>cases h
 |cons a U=>exact⟨a,U,rfl,by simpa using h⟩
theorem ZIQ {α:Type} (T:List α) (h:T.length=58):∃v0 v1 v2 v3 v4 v5 v6 v7 v8 v9 v10 v11 v12 v13 v14 v15 v16 v17 v18 v19 v20 v21 v22 v23 v24 v25 v26 v27 v28 v29 v30 v31 v32 v33 v34 v35 v36 v37 v38 v39 v40 v41 v42 v43 v44 v45 v46 v47 v48 v49 v50 v51 v52 v53 v54 v55 v56 v57:α,T=[v0,v1,v2,v3,v4,v5,v6,v7,v8,v9,v10,v11,v12,v13,v14,v15,v16,v17,v18,v19,v20,v21,v22,v23,v24,v25,v26,v27,v28,v29,v30,v31,v32,v33,v34,v35,v36,v37,v38,v39,v40,v41,v42,v43,v44,v45,v46,v47,v48,v49,v50,v51,v52,v53,v54,v55,v56,v57]:=by
 obtain⟨v0,T0,rfl,h0⟩:=dA h
 obtain⟨v1,T1,rfl,h1⟩:=dA h0
 obtain⟨v2,T2,rfl,h2⟩:=dA h1
 obtain⟨v3,T3,rfl,h3⟩:=dA h2
 obtain⟨v4,T4,rfl,h4⟩:=dA h3
 obtain⟨v5,T5,rfl,h5⟩:=dA h4
 obtain⟨v6,T6,rfl,h6⟩:=dA h5
 obtain⟨v7,T7,rfl,h7⟩:=dA h6
 obtain⟨v8,T8,rfl,h8⟩:=dA h7
 obtain⟨v9,T9,rfl,h9⟩:=dA h8
 obtain⟨v10,T10,rfl,h10⟩:=dA h9
 obtain⟨v11,T11,rfl,h11⟩:=dA h10
 obtain⟨v12,T12,rfl,h12⟩:=dA h11
 obtain⟨v13,T13,rfl,h13⟩:=dA h12
 obtain⟨v14,T14,rfl,h14⟩:=dA h13
 obtain⟨v15,T15,rfl,h15⟩:=dA h14
 obtain⟨v16,T16,rfl,h16⟩:=dA h15
 obtain⟨v17,T17,rfl,h17⟩:=dA h16
 obtain⟨v18,T18,rfl,h18⟩:=dA h17
 obtain⟨v19,T19,rfl,h19⟩:=dA h18
 obtain⟨v20,T20,rfl,h20⟩:=dA h19
 obtain⟨v21,T21,rfl,h21⟩:=dA h20
 obtain⟨v22,T22,rfl,h22⟩:=dA h21
 obtain⟨v23,T23,rfl,h23⟩:=dA h22
 obtain⟨v24,T24,rfl,h24⟩:=dA h23
 obtain⟨v25,T25,rfl,h25⟩:=dA h24
 obtain⟨v26,T26,rfl,h26⟩:=dA h25
 obtain⟨v27,T27,rfl,h27⟩:=dA h26
 obtain⟨v28,T28,rfl,h28⟩:=dA h27
 obtain⟨v29,T29,rfl,h29⟩:=dA h28
 obtain⟨v30,T30,rfl,h30⟩:=dA h29
 obtain⟨v31,T31,rfl,h31⟩:=dA h30
 obtain⟨v32,T32,rfl,h32⟩:=dA h31
 obtain⟨v33,T33,rfl,h33⟩:=dA h32
 obtain⟨v34,T34,rfl,h34⟩:=dA h33
 obtain⟨v35,T35,rfl,h35⟩:=dA h34
 obtain⟨v36,T36,rfl,h36⟩:=dA h35
 obtain⟨v37,T37,rfl,h37⟩:=dA h36
 obtain⟨v38,T38,rfl,h38⟩:=dA h37
 obtain⟨v39,T39,rfl,h39⟩:=dA h38
 obtain⟨v40,T40,rfl,h40⟩:=dA h39
 obtain⟨v41,T41,rfl,h41⟩:=dA h40
 obtain⟨v42,T42,rfl,h42⟩:=dA h41
 obtain⟨v43,T43,rfl,h43⟩:=dA h42
 obtain⟨v44,T44,rfl,h44⟩:=dA h43
 obtain⟨v45,T45,rfl,h45⟩:=dA h44
 obtain⟨v46,T46,rfl,h46⟩:=dA h45
 obtain⟨v47,T47,rfl,h47⟩:=dA h46
 obtain⟨v48,T48,rfl,h48⟩:=dA h47
 obtain⟨v49,T49,rfl,h49⟩:=dA h48
 obtain⟨v50,T50,rfl,h50⟩:=dA h49
 obtain⟨v51,T51,rfl,h51⟩:=dA h50
 obtain⟨v52,T52,rfl,h52⟩:=dA h51
 obtain⟨v53,T53,rfl,h53⟩:=dA h52
 obtain⟨v54,T54,rfl,h54⟩:=dA h53
 obtain⟨v55,T55,rfl,h55⟩:=dA h54
 obtain⟨v56,T56,rfl,h56⟩:=dA h55
 obtain⟨v57,T57,rfl,h57⟩:=dA h56
 obtain rfl:=ct h57
 exact⟨v0,v1,v2,v3,v4,v5,v6,v7,v8,v9,v10,v11,v12,v13,v14,v15,v16,v17,v18,v19,v20,v21,v22,v23,v24,v25,v26,v27,v28,v29,v30,v31,v32,v33,v34,v35,v36,v37,v38,v39,v40,v41,v42,v43,v44,v45,v46,v47,v48,v49,v50,v51,v52,v53,v54,v55,v56,v57,rfl⟩
def s1A:ACode:=.region [⟨(some 3),.mv (.c (.v .zsl)),none⟩]
def s1V:ACode:=.seq (.region [⟨(some 10),.faddr 1 (.t 1),none⟩,⟨(some 11),.load none (.t 10),none⟩,⟨(some 12),.len (.t 11),none⟩,⟨(some 13),.mv (.c (.v (.int .i64 0))),none⟩])
 (.block 0 (.loop (.seq (.region [⟨(some 14),.bin .lss (.t 13) (.t 12),none⟩])
 (.seq (.cond (.t 14) .skip
 (.exit 0))
 (.seq (.block 1 (.seq (.region [⟨(some 15),.iaddr 2 (.t 11) (.t 13),none⟩,⟨(some 16),.load (some 2) (.t 15),none⟩,⟨(some 5),.alloc [(.v (.str ⟨#[]⟩)),(.v (.int .i64 0))],none⟩,⟨none,.store 2 (.t 5) (.t 16),none⟩])
 (.region [⟨(some 17),.mv (.t 3),none⟩,⟨(some 18),.faddr 1 (.t 5),none⟩,⟨(some 19),.load none (.t 18),none⟩,⟨(some 20),.bslice 1 [(.v (.int .i64 0))] 1 [(0,(.t 19))],none⟩,⟨(some 21),.append 1 8 (.t 17) (.t 20),none⟩,⟨(some 3),.mv (.t 21),none⟩])))
 (.region [⟨(some 22),.bin .add (.t 13) (.c (.v (.int .i64 1))),none⟩,⟨(some 13),.mv (.t 22),none⟩]))))))
def s1R:ACode:=.region [⟨(some 28),.faddr 2 (.t 1),none⟩,⟨(some 29),.load none (.t 28),none⟩,⟨(some 30),.len (.t 29),none⟩,⟨(some 31),.mv (.c (.v (.int .i64 0))),none⟩]
def s1C:ACode:=.region [⟨(some 32),.bin .lss (.t 31) (.t 30),none⟩]
def s1E:ACode:=.region [⟨(some 33),.mv (.t 31),none⟩,⟨(some 34),.iaddr 5 (.t 29) (.t 31),none⟩,⟨(some 35),.load (some 5) (.t 34),none⟩,⟨(some 7),.alloc [(.v (.int .i64 0)),(.v (.int .i64 0)),(.v (.int .i64 0)),(.v (.int .i64 0)),(.v .zsl)],none⟩,⟨(some 6),.mv (.t 33),none⟩,⟨none,.store 5 (.t 7) (.t 35),none⟩]
def s1I:ACode:=.seq (.region [⟨(some 36),.faddr 4 (.t 7),none⟩,⟨(some 37),.load none (.t 36),none⟩,⟨(some 38),.len (.t 37),none⟩,⟨(some 39),.mv (.c (.v (.int .i64 0))),none⟩])
 (.block 4 (.loop (.seq (.region [⟨(some 40),.bin .lss (.t 39) (.t 38),none⟩])
 (.seq (.cond (.t 40) .skip
 (.exit 4))
 (.seq (.block 5 (.seq (.region [⟨(some 41),.iaddr 2 (.t 37) (.t 39),none⟩,⟨(some 42),.load (some 2) (.t 41),none⟩,⟨(some 9),.alloc [(.v (.int .i64 0)),(.v (.int .i64 0))],none⟩,⟨none,.store 2 (.t 9) (.t 42),none⟩])
 (.region [⟨(some 43),.mv (.t 3),none⟩,⟨(some 44),.faddr 0 (.t 9),none⟩,⟨(some 45),.load none (.t 44),none⟩,⟨(some 46),.faddr 1 (.t 9),none⟩,⟨(some 47),.load none (.t 46),none⟩,⟨(some 48),.iaddr 1 (.t 43) (.t 45),none⟩,⟨none,.store 1 (.t 48) (.t 47),none⟩])))
 (.region [⟨(some 49),.bin .add (.t 39) (.c (.v (.int .i64 1))),none⟩,⟨(some 39),.mv (.t 49),none⟩]))))))
def s1N:ACode:=.region [⟨(some 57),.bin .add (.t 31) (.c (.v (.int .i64 1))),none⟩,⟨(some 31),.mv (.t 57),none⟩]
structure StF (yl:Nat) (p:Pr) (B:List Row) (n:Nat) (f:Nat→AV):Prop where
 lt:KLt (B.length+1) f
 s0:f 0=.v (.yl yl)
 s1:f 1=.v (.iptr [.str p.name,.isl 2 (p.vars.map eVr),.isl 5 (p.evs.map eEv)] 0)
 s3:f 3=.sl B.length n 0 n
theorem ZGe (yl:Nat) (p:Pr) (hS:PrS p) (B:List Row) (hR:gA B.length B) (g:Nat→AV) (hE:KLt B.length g) (h0:g 0=.v (.yl yl)) (h1:g 1=.v (.iptr [.str p.name,.isl 2 (p.vars.map eVr),.isl 5 (p.evs.map eEv)] 0)) (h3:g 3=.v .zsl) :
  run (QA Tryz.prog) VA s1V (kOf 58 g) B [] (fun ax e b l=>ax=.normal∧b=B∧l=[.live p.vars.length 1 (vs ((stV p 0).map eI))]∧∃f,e=kOf 58 f∧StF yl p B p.vars.length f):=by
 have hnv:=hS.nv
 simp (disch:=first|decide|omega) only[s1V,h0,h1,h3,aa,go_sem]
 refine iE (ι:=Nat) 3 1 ZAK (fun i=>[(13,.v (.int .i64 i)),(3,.sl B.length i 0 i)]) 1 (fun i=>[.live i 1 (vs (((p.vars.take i).map (·.init)).map eI))])
  (fun i=>i≤p.vars.length) (fun i=>p.vars.length-i) 0 (aj _) (by simp (disch:=first|decide|omega) only[h3,go_sem]) kE rfl kM (by ((try simp (disch:=decide) only[h0,h1,go_sem])<;>exact kH)) kF ?_
 intro g1 ZF bE iA i hi
 by_cases yA:i<p.vars.length
 ·have EH:=YS yA
  have F9:(((p.vars.take i).map (·.init)).map eI).length=i:=by rw[aa,aa,bg];omega
  have htk:(((p.vars.take i).map (·.init)).map eI).take i=((p.vars.take i).map (·.init)).map eI:=bn (by rw[F9];omega)
  have Q1:((p.vars.take i).map (·.init)).map eI++[[.int .i64 p.vars[i].init]]=((p.vars.take (i+1)).map (·.init)).map eI:=by rw[zF yA,bj,bj];rfl
  simp (disch:=first|decide|omega) only[h0,h1,h3,iA,EH,uB,F9,htk,Q1,aa,go_sem]
  refine⟨i+1,yA,by simp only;omega,?_⟩
  exact VA.kround (p:=ZAK) (k:=1) kQ (by ((try simp (disch:=decide) only[h0,h1,iA,go_sem])<;>exact kH)) rfl ZF kS kV hR kL
 ·obtain rfl:i=p.vars.length:=by omega
  have DE:(p.vars.take p.vars.length).map (·.init)=stV p 0:=by rw[im];rfl
  simp (disch:=first|decide|omega) only[h0,h1,h3,iA,aa,go_sem]
  refine⟨by rw[DE],_,rfl,⟨?_,?_,?_,?_⟩⟩
  ·(repeat (first|exact ZF.mono oM|refine KLt.up ?_ kL))
  ·simp (disch:=first|decide|omega) only[h0,h1,iA,go_sem]
  ·simp (disch:=first|decide|omega) only[h0,h1,iA,go_sem]
  ·simp (disch:=first|decide|omega) only[h0,h1,iA,go_sem]
structure StG (yl:Nat) (p:Pr) (B:List Row) (n k i:Nat) (f:Nat→AV):Prop where
 lt:KLt (B.length+k) f
 s0:f 0=.v (.yl yl)
 s1:f 1=.v (.iptr [.str p.name,.isl 2 (p.vars.map eVr),.isl 5 (p.evs.map eEv)] 0)
 s3:f 3=.sl B.length n 0 n
 s29:f 29=.v (.isl 5 (p.evs.map eEv))
 s30:f 30=.v (.int .i64 p.evs.length)
 s31:f 31=.v (.int .i64 i)
theorem ZGf (yl:Nat) (p:Pr) (hS:PrS p) (B:List Row) (n:Nat) (l:List Row) (f:Nat→AV) (h:StF yl p B n f) :
  run (QA Tryz.prog) VA s1R (kOf 58 f) B l (fun ax e b l'=>ax=.normal∧b=B∧l'=l∧∃f',e=kOf 58 f'∧StG yl p B n 1 0 f'):=by
 have zG:=hS.ne
 have h1:=h.s1
 simp (disch:=first|decide|omega) only[s1R,h1,aa,go_sem]
 refine⟨_,rfl,⟨?_,?_,?_,?_,?_,?_,?_⟩⟩
 ·have hE:=h.lt
  (repeat (first|exact hE.mono oM|refine KLt.up ?_ kL))
 ·have:=h.s0
  simp (disch:=first|decide|omega) only[this,go_sem]
 ·simp (disch:=first|decide|omega) only[h1,go_sem]
 ·have:=h.s3
  simp (disch:=first|decide|omega) only[this,go_sem]
 ·simp (disch:=first|decide|omega) only[h1,go_sem]
 ·simp (disch:=first|decide|omega) only[h1,go_sem]
 ·simp (disch:=first|decide|omega) only[h1,go_sem];rfl
theorem ZGj (yl:Nat) (p:Pr) (B:List Row) (n i k:Nat) (l:List Row) (f:Nat→AV) (h:StG yl p B n k i f) :
  run (QA Tryz.prog) VA s1C (kOf 58 f) B l (fun ax e b l'=>ax=.normal∧b=B∧l'=l∧∃f',e=kOf 58 f'∧StG yl p B n k i f'∧f' 32=.v (.bool (decide ((i:Int)<(p.evs.length:Int))))):=by
 have h1:=h.s30
 have h2:=h.s31
 simp (disch:=first|decide|omega) only[s1C,h1,h2,go_sem]
 refine⟨_,rfl,⟨?_,?_,?_,?_,?_,?_,?_⟩,?_⟩
 ·have hE:=h.lt
  (repeat (first|exact hE.mono oM|refine KLt.up ?_ kL))
 ·have:=h.s0
  simp (disch:=first|decide|omega) only[this,go_sem]
 ·have:=h.s1
  simp (disch:=first|decide|omega) only[this,go_sem]
 ·have:=h.s3
  simp (disch:=first|decide|omega) only[this,go_sem]
 ·have:=h.s29
  simp (disch:=first|decide|omega) only[this,go_sem]
 ·simp (disch:=first|decide|omega) only[h1,go_sem]
 ·simp (disch:=first|decide|omega) only[h2,go_sem]
 ·simp (disch:=first|decide|omega) only[h2,go_sem]
def CU (e:Ev):Row:=.live 0 5 [[.v (.int .i64 e.kind),.v (.int .i64 e.peer),.v (.int .i64 e.msg),.v (.int .i64 e.time),.v (.isl 2 (e.asg.map eAsg))]]
theorem ZGi (yl:Nat) (p:Pr) (B:List Row) (n i:Nat) (hi:i<p.evs.length) (r:Row) (f:Nat→AV) (h:StG yl p B n 1 i f) :
  run (QA Tryz.prog) VA s1E (kOf 58 f) B [r] (fun ax e b l'=>ax=.normal∧b=B∧l'=[r,CU p.evs[i]]∧∃f',e=kOf 58 f'∧StG yl p B n 2 i f'∧(f' 6=.v (.int .i64 i)∧f' 7=.ptr (B.length+1) 0 0 0)∧KLt (B.length+1) (yF nG f')):=by
 have h1:=h.s29
 have h2:=h.s31
 have yH:=KH hi
 simp (disch:=first|decide|omega) only[s1E,h1,h2,yH,cellsOf,go_sem]
 refine⟨rfl,_,rfl,⟨?_,?_,?_,?_,?_,?_,?_⟩,⟨?_,?_⟩,?_⟩
 ·have hE:=h.lt
  (repeat (first|exact hE.mono oM|refine KLt.up ?_ kL))
 ·have:=h.s0
  simp (disch:=first|decide|omega) only[this,go_sem]
 ·have:=h.s1
  simp (disch:=first|decide|omega) only[this,go_sem]
 ·have:=h.s3
  simp (disch:=first|decide|omega) only[this,go_sem]
 ·simp (disch:=first|decide|omega) only[h1,go_sem]
 ·have:=h.s30
  simp (disch:=first|decide|omega) only[this,go_sem]
 ·simp (disch:=first|decide|omega) only[h2,go_sem]
 ·simp (disch:=first|decide|omega) only[h2,go_sem]
 ·simp (disch:=first|decide|omega) only[h2,go_sem]
 ·have e1:∀f',yF nG f'=yF nG f→KLt (B.length+1) (yF nG f'):=fun f' he=>by rw[he];exact h.lt.any
  exact e1 _ (by (repeat refine (kAny_up rfl).trans ?_);rfl)
theorem ZGh (yl:Nat) (p:Pr) (hS:PrS p) (hO:OkA p) (B:List Row) (hR:gA B.length B) (i:Nat) (hi:i<p.evs.length) (f:Nat→AV) (h:StG yl p B p.vars.length 2 i f) (h6:f 6=.v (.int .i64 i)) (h7:f 7=.ptr (B.length+1) 0 0 0) (hlo:KLt (B.length+1) (yF nG f)) :
  run (QA Tryz.prog) VA s1I (kOf 58 f) B [.live p.vars.length 1 (vs ((stV p i).map eI)),CU p.evs[i]] (fun ax e b l'=>ax=.normal∧b=B∧l'=[.live p.vars.length 1 (vs ((stV p (i+1)).map eI)),CU p.evs[i]]∧∃f',e=kOf 58 f'∧StG yl p B p.vars.length 2 i f'∧f' 6=.v (.int .i64 i)∧KLt (B.length+1) (yF nG f')):=by
 obtain⟨e,he⟩:∃e,p.evs[i]=e:=⟨_,rfl⟩
 rw[he]
 have hme:e∈p.evs:=by rw[←he];exact ak hi
 have hna:=hS.na e hme
 have hnv:=hS.nv
 have DE:stV p (i+1)=qN (stV p i) e.asg e.asg.length:=by simp only[stV,apE,YA hi,he]
 have hE:=h.lt
 have h3:=h.s3
 unfold CU
 simp (disch:=first|decide|omega) only[s1I,h7,aa,go_sem]
 refine JA (ι:=Nat) ZAJ (fun j=>[(39,.v (.int .i64 j))]) 2 (fun j=>[.live p.vars.length 1 (vs ((qN (stV p i) e.asg j).map eI)),CU e])
  (fun j=>j≤e.asg.length) (fun j=>e.asg.length-j) 0 (aj _) kM (by ((try simp (disch:=decide) only[h7,go_sem])<;>exact kH)) kF ?_
 intro g3 GW rR AG j hj
 unfold CU
 by_cases pJ:j<e.asg.length
 ·have hga:=j4 pJ
  have hv:=hO e hme e.asg[j] (ak pJ)
  have F9:((qN (stV p i) e.asg j).map eI).length=p.vars.length:=by rw[aa,fM,tG]
  obtain⟨q,hq⟩:∃q:Nat,e.asg[j].v=q:=⟨e.asg[j].v.toNat,by omega⟩
  have hqn:q<p.vars.length:=by omega
  have hqg:((qN (stV p i) e.asg j).map eI)[q]? = some [.int .i64 ((qN (stV p i) e.asg j).getD q 0)]:=aC (by rw[fM,tG];exact hqn)
  have mK:((qN (stV p i) e.asg j).map eI).set q [.int .i64 e.asg[j].val]=(qN (stV p i) e.asg (j+1)).map eI:=by rw[pW pJ,hq,ca,fa];rfl
  simp (disch:=first|decide|omega) only[h3,h7,AG,hga,hq,hqg,mK,F9,aa,go_sem]
  refine⟨j+1,pJ,by simp only;omega,?_⟩
  exact VA.kround (p:=ZAJ) (k:=2) kQ (by ((try simp (disch:=decide) only[h3,h7,AG,go_sem])<;>exact kH)) rfl GW kS kV hR kL
 ·obtain rfl:j=e.asg.length:=by omega
  simp (disch:=first|decide|omega) only[h3,h7,AG,aa,go_sem]
  rw[DE]
  refine⟨rfl,_,rfl,⟨?_,?_,?_,?_,?_,?_,?_⟩,?_,?_⟩
  ·(repeat (first|exact GW.mono oM|refine KLt.up ?_ kL))
  ·have:=h.s0
   simp (disch:=first|decide|omega) only[this,AG,go_sem]
  ·have:=h.s1
   simp (disch:=first|decide|omega) only[this,AG,go_sem]
  ·simp (disch:=first|decide|omega) only[h3,AG,go_sem]
  ·have:=h.s29
   simp (disch:=first|decide|omega) only[this,AG,go_sem]
  ·have:=h.s30
   simp (disch:=first|decide|omega) only[this,AG,go_sem]
  ·have:=h.s31
   simp (disch:=first|decide|omega) only[this,AG,go_sem]
  ·simp (disch:=first|decide|omega) only[h6,AG,go_sem]
  ·have e1:∀f',yF nG f'=yF nG f→KLt (B.length+1) (yF nG f'):=fun f' he=>by rw[he];exact hlo
   exact e1 _ (by (repeat refine (kAny_up rfl).trans ?_);refine (kAny_sub AG (kIn_sub rfl)).trans ?_;(repeat refine (kAny_up rfl).trans ?_);rfl)
theorem ZGg (yl:Nat) (p:Pr) (hS:PrS p) (B:List Row) (n i k:Nat) (hi:i<p.evs.length) (l:List Row) (f:Nat→AV) (h:StG yl p B n k i f) :
  run (QA Tryz.prog) VA s1N (kOf 58 f) B l (fun ax e b l'=>ax=.normal∧b=B∧l'=l∧∃f',e=kOf 58 f'∧StG yl p B n k (i+1) f'):=by
 have zG:=hS.ne
 have h2:=h.s31
 simp (disch:=first|decide|omega) only[s1N,h2,go_sem]
 refine⟨_,rfl,⟨?_,?_,?_,?_,?_,?_,?_⟩⟩
 ·have hE:=h.lt
  (repeat (first|exact hE.mono oM|refine KLt.up ?_ kL))
 ·have:=h.s0
  simp (disch:=first|decide|omega) only[this,go_sem]
 ·have:=h.s1
  simp (disch:=first|decide|omega) only[this,go_sem]
 ·have:=h.s3
  simp (disch:=first|decide|omega) only[this,go_sem]
 ·have:=h.s29
  simp (disch:=first|decide|omega) only[this,go_sem]
 ·have:=h.s30
  simp (disch:=first|decide|omega) only[this,go_sem]
 ·simp (disch:=first|decide|omega) only[h2,go_sem];rfl
end Go.Proofs.YtmaokjojbjdpoaaGreatDoor
namespace Go.Proofs.YtmaokjojbjdpoaaGreatDoor
open Go.RowKit
set_option linter.unusedVariables false
set_option linter.unusedSimpArgs false
attribute [local go_sem] Oper.semAt_some
theorem ZHR {P:Program} {nn N:Nat} {F0:Nat→Prop} {m0:Nat} {J:World→Prop} {f:Nat→AV} {l:List Row} {a:Act} {w:World} {s:Nat} {t:Bool} {x y:Code} {K:Exit→Act→World→Prop} (h:QP F0 m0 J (kOf N f) l a w) (hs:s<N) (hf:f s=.v (.bool t))
  (hx:(if t=true then x else y).wpIn Fence.wide nn P K a w):(Code.cond (.tmp s) x y).wpIn Fence.wide nn P K a w:=by
 obtain⟨F,L,s',he,_⟩:=h
 have hr:=he.nth s
 rw[uD hs,hf]at hr
 refine wpIn_cond (uM hr) ?_
 cases t
 ·exact hx
 ·exact hx
theorem ZHQ {F0:Nat→Prop} {m0:Nat} {J:World→Prop} {B:List Row} (hB:B=[]) {e e':List AV} {l l':List Row} (hw:VA e B l e' B l') {a:Act} {w:World} (h:QP F0 m0 J e l a w):QP F0 m0 J e' l' a w:=by
 subst hB
 obtain⟨F,L,s,he,h1,h2,h3,h4,h5⟩:=h
 obtain⟨F',L',s',he',st,_⟩:=hw F L w a s he
 refine⟨F',L',s',he',fun k hk=>st.imm k (h1 k hk),fun k hk=>?_,fun k hk=>?_,h4,h5⟩
 ·rcases bp k w.heap.size with yA|yH
  ·rcases st.fnew k yA hk with hf|ho
   ·exact h2 k hf
   ·exact .inr (h3 k ho)
  ·exact .inr oM
 ·rcases bp k w.heap.size with yA|yH
  ·exact h3 k (st.own k yA hk)
  ·omega
theorem M3 {w:World} {F:Nat→Prop} {v:List Int} {u:Value} (h:RepI w F (.isl 1 (v.map eI)) u):RepI w (fun k=>k<w.heap.size) (.isl 1 (v.map eI)) u:=by
 obtain⟨A,c,rfl,h2,h3,h4⟩:=LI h
 refine aT h2 h3 (fun h0=>?_)
 obtain⟨b,off,h5,h6,h7⟩:=h4 h0
 have yA:b<w.heap.size:=by
  have hk:0<(v.map eI).length:=h0
  obtain⟨g1,g2⟩:=h7 0 (v.map eI)[0] (ah hk)
  have hj:0<((v.map eI)[0]).length:=by rw[g1];decide
  obtain⟨x,hx,_⟩:=g2 0 _ (ah hj)
  obtain⟨o,ho,_⟩:=not_walk_of_cell hx
  exact (bw.1 ho).1
 refine⟨b,off,h5,yA,fun k row hk=>?_⟩
 obtain⟨g1,g2⟩:=h7 k row hk
 refine⟨g1,fun j a hj=>?_⟩
 obtain⟨x,hx,hr⟩:=g2 j a hj
 refine⟨x,hx,?_⟩
 rw[an]at hk
 cases hq:v[k]? with
 |none=>rw[hq]at hk;cases hk
 |some z =>
   rw[hq]at hk;cases hk
   cases j with
   |zero=>simp[eI]at hj;subst hj;cases hr;exact .int _ _
   |succ j=>simp[eI]at hj
theorem SQ (v:List Int) (hn:v.length≤1000000) (w:World) (u:Value) (hu:RepI w (fun k=>k<w.heap.size) (.isl 1 (v.map eI)) u):Calls Tryz.prog 98 #[u] w fun e w'=>∃vv,e=.returned vv∧Ext w w'∧RepI w' (fun k=>w.heap.size≤k∧k<w'.heap.size) (.isl 1 (v.map eI)) vv:=by
 have no:∀k,¬GC (fun _ _=>none) ([]++[]) k:=by rintro k ⟨i,v,s,e1,q,h1,h2,h3⟩;cases h2
 have h:=(sI v hn [] []).2 (fun k=>k<w.heap.size) (fun _ _=>none) w #[u] (ZAE (fun _ h=>h)) (DA.cons (.v _ _ hu) DA.nil)
 refine Calls.mono h ?_
 rintro en w' ⟨vv,x,b',l',F',L',h1,h2,h3,h4,h5,rfl,rfl,rfl⟩
 refine⟨vv,h1,⟨h4.os,h4.tape,h4.output,h4.size,fun k hk=>h4.block k hk (no k)⟩,?_⟩
 have RC:=h3.row 0 1 1 (vs (v.map eI)) rfl
 have hd:RepA w' (FD F' L' 0 [.live 1 1 (vs (v.map eI))]) L' (.v (.isl 1 (v.map eI))) vv:=(Dv.slV (n:=0) (i:=0) rfl (by rw[aa])).rep (b:=[]) h3 vv h2
 obtain⟨A,c,rfl,g2,g3,g4⟩:=LI hd.vI
 refine aT g2 g3 (fun h0=>?_)
 obtain⟨b,off,rfl,h6,h7⟩:=g4 h0
 have QO:w.heap.size≤b:=by
  rcases bp b w.heap.size with yA|yH
  ·exfalso
   have hb:F' b:=h4.imm b yA
   refine (h3.imm b hb).2 ?_
   obtain⟨q,g5,g6⟩:=RC
   refine⟨0,1,1,_,q,rfl,g5,?_⟩
   generalize wO:Value.slice (some ⟨b,off,none⟩) (v.map eI).length c=vv at h2
   generalize hll:v.length=ll at h2
   cases h2 with
   |sl id ver off' len b0 o sz cap hL PJ hm =>
     rw[show ([]:List Row).length+([]:List Row).length=0 from rfl]at hL
     rw[hL]at g5;cases g5
     injection wO with e1 e2 e3
     injection e1 with e4
     injection e4 with e5 e6
     exact e5.symm
   |slz id ver off' b0 o sz cap x hL he =>
     injection wO with e1 e2 e3
     omega
   |sln id ver ad hL =>
     injection wO with e1 e2 e3
     omega
  ·exact yH
 have UE:b<w'.heap.size:=by
  have hk:0<(v.map eI).length:=h0
  obtain⟨g1,g2⟩:=h7 0 (v.map eI)[0] (ah hk)
  have hj:0<((v.map eI)[0]).length:=by rw[g1];decide
  obtain⟨x,hx,_⟩:=g2 0 _ (ah hj)
  obtain⟨o,ho,_⟩:=not_walk_of_cell hx
  exact (bw.1 ho).1
 refine⟨b,off,rfl,⟨QO,UE⟩,fun k row hk=>?_⟩
 obtain⟨g1,g2⟩:=h7 k row hk
 refine⟨g1,fun j a hj=>?_⟩
 obtain⟨x,hx,hr⟩:=g2 j a hj
 refine⟨x,hx,?_⟩
 rw[an]at hk
 cases hq:v[k]? with
 |none=>rw[hq]at hk;cases hk
 |some z =>
   rw[hq]at hk;cases hk
   cases j with
   |zero=>simp[eI]at hj;subst hj;cases hr;exact .int _ _
   |succ j=>simp[eI]at hj
theorem zI {N s:Nat} {F0:Nat→Prop} {m0:Nat} {J:World→Prop} {f:Nat→AV} {l:List Row} {a:Act} {w:World} {v:Value} (h:QP F0 m0 J (kOf N f) l a w):QP F0 m0 J (kOf N (kUp f s .any)) l (a.put (some s) v) w:=by
 obtain⟨F,L,s',he,h⟩:=h
 refine⟨F,L,s',?_,h⟩
 have:=he.put (some s) (RepA.any (w:=w) (F:=F) (L:=L) v)
 rwa [QD]at this
theorem ZGk (B:List Row) (g:Nat→AV):run (QA Tryz.prog) VA s1A (kOf 58 g) B [] (fun ax e b l=>ax=.normal∧b=B∧l=[]∧e=kOf 58 (kUp g 3 (.v .zsl))):=⟨rfl,rfl,rfl,QD (n:=3)⟩
theorem F5 (n:Nat) (hn:1≤n) (p:Pr) (hS:PrS p) (hO:OkA p) (l Bt:Nat) (W:World) (F0:Nat→Prop) (hF0:∀k,F0 k→k<W.heap.size)
  (hp:RepI W F0 (.iptr [.str p.name,.isl 2 (p.vars.map eVr),.isl 5 (p.evs.map eEv)] 0) (.pointer (some ⟨Bt,0,none⟩))) (J:Nat→World→Prop) (Jx:World→Prop)
  (hJ:∀i A B,J i A→Below W.heap.size A B→J i B)
  (hY:∀i v W1,i≤p.evs.length→J i W1→W.heap.size≤W1.heap.size→RepI W1 (fun k=>W.heap.size≤k∧k<W1.heap.size) (.isl 1 ((stV p i).map eI)) v →
   YieldAt Fence.wide (n-1) Tryz.prog l #[.int .i64 i,v] W1 fun e W'=>(e=.returned (.bool true)∧J (i+1) W'∧KeepF F0 W.heap.size W1 W')∨(e=.returned (.bool false)∧Jx W'))
  (h0:J 0 W) :
  CallsIn Fence.wide n Tryz.prog 164 #[.func (.yield l) #[] #[],.pointer (some ⟨Bt,0,none⟩)] W fun e W'=>(∃v,e=.returned v)∧(J (p.evs.length+1) W'∨Jx W'):=by
 obtain⟨B,hB⟩:∃B:List Row,B=[]:=⟨[],rfl⟩
 have hR:gA B.length B:=by rw[hB];exact tE
 obtain⟨m0,hm0⟩:∃m0,m0=W.heap.size:=⟨_,rfl⟩
 rw[←hm0]at hJ hY
 have hJ0:∀i,∀A B,J i A→Low0 m0 A B→J i B:=fun i A B h k=>hJ i A B h k
 refine callsIn_of_wp Tryz.func164 rfl trivial ?_ rfl
 rw[Tryz.ntmps164]
 have HW:DA W F0 (fun _ _=>none) [.v (.yl l),.v (.iptr [.str p.name,.isl 2 (p.vars.map eVr),.isl 5 (p.evs.map eEv)] 0)] (#[.func (.yield l) #[] #[],.pointer (some ⟨Bt,0,none⟩)]:Array Value).toList:=DA.cons (.v _ _ (.yl l)) (DA.cons (.v _ _ hp) DA.nil)
 have hes:=ZCB HW 58 kS
 obtain⟨a0,ha0⟩:∃a0:Act,a0={tmps:=#[.func (.yield l) #[] #[],.pointer (some ⟨Bt,0,none⟩)]++Array.replicate (58-(#[.func (.yield l) #[] #[],.pointer (some ⟨Bt,0,none⟩)]:Array Value).size) undef,defers:=[]}:=⟨_,rfl⟩
 rw[←ha0]at hes⊢
 obtain⟨g0,hg0⟩:∃g0:Nat→AV,g0=fun i=>([.v (.yl l),.v (.iptr [.str p.name,.isl 2 (p.vars.map eVr),.isl 5 (p.evs.map eEv)] 0)]:List AV).getD i (.tup []):=⟨_,rfl⟩
 rw[←hg0]at hes
 have z0:g0 0=.v (.yl l):=by rw[hg0];rfl
 have z1:g0 1=.v (.iptr [.str p.name,.isl 2 (p.vars.map eVr),.isl 5 (p.evs.map eEv)] 0):=by rw[hg0];rfl
 have hE0:KLt B.length g0:=fun i=>by
  rw[hg0]
  match i with
  |0=>exact .v _
  |1=>exact .v _
  |i+2=>exact .tup _ kS
 clear hg0 ha0
 have at0:QP F0 m0 (J 0) (kOf 58 g0) [] a0 W:=by
  refine⟨F0,fun _ _=>none,ZAE hF0,hes,fun _ h=>h,fun _ h=>.inl h,fun k hk=>?_,by rw[hm0];exact ai _,h0⟩
  obtain⟨i,ver,sz,els,q,h1,h2,h3⟩:=hk
  cases h2
 refine wpIn_seq (CI (ac:=s1A) (hJ0 0) (by kernel_rfl) hB (Q:=fun ax e b l=>ax=.normal∧b=B∧l=[]∧e=kOf 58 (kUp g0 3 (.v .zsl))) (ZGk B g0) at0 ?_)
 rintro ex a1 w1 ax e1 l1 hex ⟨rfl,_,rfl,rfl⟩ at1
 cases ex<;>first|exact hex.elim|skip
 simp only[Exit.then]
 refine wpIn_seq (CI (ac:=s1V) (hJ0 0) (by kernel_rfl) hB (ZGe l p hS B hR _ (hE0.up (.v _)) ?_ ?_ RB) at1 ?_)
 ·rw[AB kE];exact z0
 ·rw[AB kE];exact z1
 clear at0 at1 hes hE0
 rintro ex a2 w2 ax e2 l2 hex ⟨rfl,_,rfl,f,rfl,hf⟩ at2
 cases ex<;>first|exact hex.elim|skip
 simp only[Exit.then]
 refine wpIn_seq ?_
 generalize hK:Exit.then _ _=K
 obtain⟨F,L,s,he,q1,q2,q3,q4,q5⟩:=at2
 obtain⟨tm,df⟩:=a2
 obtain rfl:df=[]:=he.1
 have SN:tm.toList.length=58:=by have:=he.2.1;rw[tI]at this;simpa using this
 obtain⟨v0,v1,v2,v3,v4,v5,v6,v7,v8,v9,v10,v11,v12,v13,v14,v15,v16,v17,v18,v19,v20,v21,v22,v23,v24,v25,v26,v27,v28,v29,v30,v31,v32,v33,v34,v35,v36,v37,v38,v39,v40,v41,v42,v43,v44,v45,v46,v47,v48,v49,v50,v51,v52,v53,v54,v55,v56,v57,hT⟩:=ZIQ tm.toList SN
 obtain rfl:tm=#[v0,v1,v2,v3,v4,v5,v6,v7,v8,v9,v10,v11,v12,v13,v14,v15,v16,v17,v18,v19,v20,v21,v22,v23,v24,v25,v26,v27,v28,v29,v30,v31,v32,v33,v34,v35,v36,v37,v38,v39,v40,v41,v42,v43,v44,v45,v46,v47,v48,v49,v50,v51,v52,v53,v54,v55,v56,v57]:=gh.1 (by rw[hT])
 have e0:RepA w2 F L (f 0) v0:=he.2.2 0 _ v0 (by rw[XF];rfl) rfl
 have e3:RepA w2 F L (f 3) v3:=he.2.2 3 _ v3 (by rw[XF];rfl) rfl
 rw[hf.s0]at e0
 cases e0.vI
 rw[hf.s3,hB]at e3
 have hp3:RepI w2 (fun k=>k<w2.heap.size) (.isl 1 ((stV p 0).map eI)) v3:=by
  have hd:Dv ([]:List Row).length [.live p.vars.length 1 (vs ((stV p 0).map eI))] (.sl 0 p.vars.length 0 p.vars.length) (.v (.isl 1 ((stV p 0).map eI))):=Dv.slV (n:=0) (i:=0) rfl (by rw[aa,tG])
  exact M3 (hd.rep (b:=[]) s v3 e3).vI
 obtain⟨A3,c3,hv3,_⟩:=LI hp3
 rw[aa]at hv3
 subst hv3
 have hC:=SQ (stV p 0) (by rw[tG];exact hS.nv) w2 _ hp3
 have hCe:=zA hC
 clear hC hp3 e3 hT SN
 gi_wp2
 refine⟨trivial,CallsIn.mono (callsIn_wide.2 hCe.out) ?_⟩
 rintro en w3 ⟨vv,rfl,JD,hx⟩
 have hi3:=hx.mono (F':=fun k=>m0≤k∧k<w3.heap.size) (fun b hb=>⟨dq q4 hb.1,hb.2⟩) (fun _ _=>rfl)
 have hJ3:=hJ 0 w2 w3 q5 (Below.mono JD q4)
 obtain⟨fn,tmps,assign,body,hy,hRd⟩:=hY 0 vv w3 (aj _) hJ3 (dq q4 JD.size) hi3
 have hy0:(Instr.yield l #[.int .i64 0,vv]).run Tryz.prog w3=.ok (.round l fn tmps assign body) w3:=hy
 clear hy
 have hRe:=zA hRd
 clear hRd hi3 hx
 gi_wp2
 have hkp:KeepF F0 m0 w2 w3:=⟨JD.size,JD.os,JD.tape,JD.output,fun k hk _=>JD.block k hk⟩
 refine hRe.out.mono ?_
 rintro e W3 (⟨rfl,hJ4,hk4⟩|⟨rfl,ZKW⟩)
 case inr =>
  gi_wp2
  rw[←hK]
  simp only[Exit.then]
  refine bodyPost_ret (results_none rfl _ _ _) rfl ?_
  exact⟨⟨_,rfl⟩,.inr ZKW⟩
 gi_wp2
 rw[←hK]
 simp only[Exit.then]
 have at3:=zI (s:=27) (v:=.bool false) (zI (s:=26) (v:=.bool true) (zI (s:=25) (v:=vv) (zI (s:=24) (v:=.slice A3 (stV p 0).length c3) (zI (s:=23) (v:=.func (.yield l) #[] #[])
  (QP.keep (J':=J 1) (⟨F,L,s,he,q1,q2,q3,q4,q5⟩:QP F0 m0 (J 0) _ _ _ w2) (hkp.trans hk4) rfl hJ4)))))
 clear hK he s q1 q2 q3
 have hf2:StF l p B p.vars.length (kUp (kUp (kUp (kUp (kUp f 23 .any) 24 .any) 25 .any) 26 .any) 27 .any):=by
  refine⟨?_,?_,?_,?_⟩
  ·have hE:=hf.lt
   exact ((((hE.up .any).up .any).up .any).up .any).up .any
  ·simp only[AB,ne_eq,Nat.reduceEqDiff,not_false_eq_true];exact hf.s0
  ·simp only[AB,ne_eq,Nat.reduceEqDiff,not_false_eq_true];exact hf.s1
  ·simp only[AB,ne_eq,Nat.reduceEqDiff,not_false_eq_true];exact hf.s3
 generalize hK:bodyPost _ _ _=K2
 refine wpIn_seq (CI (ac:=s1R) (hJ0 1) (by kernel_rfl) hB (ZGf l p hS B _ _ _ hf2) at3 ?_)
 clear at3
 rintro ex a4 w4 ax e4 l4 hex ⟨rfl,_,rfl,f4,rfl,wR⟩ at4
 cases ex<;>first|exact hex.elim|skip
 simp only[Exit.then]
 refine wpIn_block ?_
 refine wpIn_loop_ghost (fun m a w=>∃i f,m=p.evs.length-i∧i≤p.evs.length∧StG l p B p.vars.length 1 i f∧QP F0 m0 (J (i+1)) (kOf 58 f) [.live p.vars.length 1 (vs ((stV p i).map eI))] a w) _ ⟨0,f4,rfl,aj _,wR,at4⟩ ?_
 clear at4 wR hf2 hf
 rintro m a5 w5 ⟨i,f5,rfl,hi,hg5,at5⟩
 generalize hK3:Exit.then _ _=K3
 refine wpIn_seq (CI (ac:=s1C) (hJ0 (i+1)) (by kernel_rfl) hB (ZGj l p B _ i 1 _ f5 hg5) at5 ?_)
 clear at5 hg5
 rintro ex a6 w6 ax e6 l6 hex ⟨rfl,_,rfl,f6,rfl,hg6,hb6⟩ at6
 cases ex<;>first|exact hex.elim|skip
 simp only[Exit.then]
 refine wpIn_seq (ZHR (s:=32) at6 kE hb6 ?_)
 by_cases yA:i<p.evs.length
 case neg =>
  obtain rfl:i=p.evs.length:=by omega
  rw[if_neg kS]
  refine wpIn_exit ?_
  simp only[Exit.then]
  rw[←hK3]
  simp only[Exit.then,Exit.inBlock,if_true]
  rw[←hK]
  obtain⟨F6,L6,s6,he6,_,_,_,_,hJ6⟩:=at6
  exact bodyPost_end (results_none rfl _ _ _) he6.1 ⟨⟨_,rfl⟩,.inl hJ6⟩
 rw[if_pos (by simp;omega)]
 refine wpIn_skip ?_
 simp only[Exit.then]
 refine wpIn_seq (wpIn_block ?_)
 generalize hK4:Exit.inBlock _ _=K4
 refine wpIn_seq (CI (ac:=s1E) (hJ0 (i+1)) (by kernel_rfl) hB (ZGi l p B _ i yA _ f6 hg6) at6 ?_)
 clear at6 hg6
 rintro ex a7 w7 ax e7 l7 hex ⟨rfl,_,rfl,f7,rfl,hg7,⟨h76,h77⟩,ZLu⟩ at7
 cases ex<;>first|exact hex.elim|skip
 simp only[Exit.then]
 refine wpIn_seq (CI (ac:=s1I) (hJ0 (i+1)) (by kernel_rfl) hB (ZGh l p hS hO B hR i yA f7 hg7 h76 h77 ZLu) at7 ?_)
 clear at7 hg7 h76 h77 ZLu
 rintro ex a8 w8 ax e8 l8 hex ⟨rfl,_,rfl,f8,rfl,hg8,h86,ZKX⟩ at8
 cases ex<;>first|exact hex.elim|skip
 simp only[Exit.then]
 have at9:=ZHQ hB (VA.kround (p:=nG) (ov:=[(6,.v (.int .i64 i)),(31,.v (.int .i64 i))]) (l1:=[.live p.vars.length 1 (vs ((stV p (i+1)).map eI))]) (junk:=[CU p.evs[i]]) (k:=1) rfl ⟨h86,hg8.s31,trivial⟩ rfl ZKX kS ⟨.v _,.v _,trivial⟩ hR (by simp only[DC,fJ,tE,and_self])) at8
 obtain⟨f9,hf9⟩:∃f9,f9=kOv [(6,.v (.int .i64 i)),(31,.v (.int .i64 i))] (yF nG f8):=⟨_,rfl⟩
 rw[←hf9]at at9
 have hg9:StG l p B p.vars.length 1 i f9:=by
  have hn:∀s,kIn nG s=false→f9 s=f8 s:=fun s hs=>by
   rw[hf9,tB,tB,bD]
   have h6:6≠s:=fun e=>by subst e;cases hs
   have h31:31≠s:=fun e=>by subst e;cases hs
   rw[AB h6,AB h31,fT hs]
  refine⟨?_,?_,?_,?_,?_,?_,?_⟩
  ·rw[hf9];exact (ZKX).ov (ov:=[(6,.v (.int .i64 i)),(31,.v (.int .i64 i))]) ⟨.v _,.v _,trivial⟩
  ·rw[hn 0 rfl];exact hg8.s0
  ·rw[hn 1 rfl];exact hg8.s1
  ·rw[hn 3 rfl];exact hg8.s3
  ·rw[hn 29 rfl];exact hg8.s29
  ·rw[hn 30 rfl];exact hg8.s30
  ·rw[hf9,tB,tB,AB kE,RB]
 have h96:f9 6=.v (.int .i64 i):=by rw[hf9,tB,RB]
 clear hf9 hg8 ZKX h86 at8
 refine wpIn_seq ?_
 obtain⟨F,L,s,he,q1,q2,q3,q4,q5⟩:=at9
 obtain⟨tm,df⟩:=a8
 obtain rfl:df=[]:=he.1
 have SN:tm.toList.length=58:=by have:=he.2.1;rw[tI]at this;simpa using this
 obtain⟨u0,u1,u2,u3,u4,u5,u6,u7,u8,u9,u10,u11,u12,u13,u14,u15,u16,u17,u18,u19,u20,u21,u22,u23,u24,u25,u26,u27,u28,u29,u30,u31,u32,u33,u34,u35,u36,u37,u38,u39,u40,u41,u42,u43,u44,u45,u46,u47,u48,u49,u50,u51,u52,u53,u54,u55,u56,u57,hT⟩:=ZIQ tm.toList SN
 obtain rfl:tm=#[u0,u1,u2,u3,u4,u5,u6,u7,u8,u9,u10,u11,u12,u13,u14,u15,u16,u17,u18,u19,u20,u21,u22,u23,u24,u25,u26,u27,u28,u29,u30,u31,u32,u33,u34,u35,u36,u37,u38,u39,u40,u41,u42,u43,u44,u45,u46,u47,u48,u49,u50,u51,u52,u53,u54,u55,u56,u57]:=gh.1 (by rw[hT])
 have e0:RepA w8 F L (f9 0) u0:=he.2.2 0 _ u0 (by rw[XF];rfl) rfl
 have e3:RepA w8 F L (f9 3) u3:=he.2.2 3 _ u3 (by rw[XF];rfl) rfl
 have e6:RepA w8 F L (f9 6) u6:=he.2.2 6 _ u6 (by rw[XF];rfl) rfl
 rw[hg9.s0]at e0
 cases e0.vI
 rw[h96]at e6
 cases e6.vI
 rw[hg9.s3,hB]at e3
 have hp3:RepI w8 (fun k=>k<w8.heap.size) (.isl 1 ((stV p (i+1)).map eI)) u3:=by
  have hd:Dv ([]:List Row).length [.live p.vars.length 1 (vs ((stV p (i+1)).map eI))] (.sl 0 p.vars.length 0 p.vars.length) (.v (.isl 1 ((stV p (i+1)).map eI))):=Dv.slV (n:=0) (i:=0) rfl (by rw[aa,tG])
  exact M3 (hd.rep (b:=[]) s u3 e3).vI
 obtain⟨A3,c3,hv3,_⟩:=LI hp3
 rw[aa]at hv3
 subst hv3
 have hC:=SQ (stV p (i+1)) (by rw[tG];exact hS.nv) w8 _ hp3
 have hCe:=zA hC
 have zG:=hS.ne
 have hwi:IntKind.i64.wrap ((i:Int)+1)=((i+1:Nat):Int):=by rw[pA oM oM];omega
 clear hC hp3 e3 hT SN
 gi_wp2
 refine⟨trivial,CallsIn.mono (callsIn_wide.2 hCe.out) ?_⟩
 rintro en w9 ⟨vv,rfl,JD,hx⟩
 have hi3:=hx.mono (F':=fun k=>m0≤k∧k<w9.heap.size) (fun b hb=>⟨dq q4 hb.1,hb.2⟩) (fun _ _=>rfl)
 have hJ3:=hJ (i+1) w8 w9 q5 (Below.mono JD q4)
 obtain⟨fn,tmps,assign,body,hy,hRd⟩:=hY (i+1) vv w9 oM hJ3 (dq q4 JD.size) hi3
 have hy1:(Instr.yield l #[.int .i64 ((i:Int)+1),vv]).run Tryz.prog w9=.ok (.round l fn tmps assign body) w9:=hy
 clear hy
 have hRe:=zA hRd
 clear hRd hi3 hx
 gi_wp2
 have hkp:KeepF F0 m0 w8 w9:=⟨JD.size,JD.os,JD.tape,JD.output,fun k hk _=>JD.block k hk⟩
 refine hRe.out.mono ?_
 rintro e W3 (⟨rfl,hJ4,hk4⟩|⟨rfl,ZKW⟩)
 case inr =>
  gi_wp2
  rw[←hK4]
  simp only[Exit.then,Exit.inBlock]
  rw[←hK3]
  simp only[Exit.then,Exit.inBlock]
  rw[←hK]
  refine bodyPost_ret (results_none rfl _ _ _) rfl ?_
  exact⟨⟨_,rfl⟩,.inr ZKW⟩
 gi_wp2
 rw[←hK4]
 simp only[Exit.then,Exit.inBlock]
 have ata:=zI (s:=56) (v:=.bool false) (zI (s:=55) (v:=.bool true) (zI (s:=54) (v:=vv) (zI (s:=53) (v:=.slice A3 (stV p (i+1)).length c3) (zI (s:=52) (v:=.int .i64 ((i+1:Nat):Int)) (zI (s:=51) (v:=.int .i64 i) (zI (s:=50) (v:=.func (.yield l) #[] #[])
  (QP.keep (J':=J (i+1+1)) (⟨F,L,s,he,q1,q2,q3,q4,q5⟩:QP F0 m0 (J (i+1)) _ _ _ w8) (hkp.trans hk4) rfl hJ4)))))))
 have hga:StG l p B p.vars.length 1 i (kUp (kUp (kUp (kUp (kUp (kUp (kUp f9 50 .any) 51 .any) 52 .any) 53 .any) 54 .any) 55 .any) 56 .any):=by
  refine⟨?_,?_,?_,?_,?_,?_,?_⟩
  ·have hE:=hg9.lt
   exact ((((((hE.up .any).up .any).up .any).up .any).up .any).up .any).up .any
  ·simp only[AB,ne_eq,Nat.reduceEqDiff,not_false_eq_true];exact hg9.s0
  ·simp only[AB,ne_eq,Nat.reduceEqDiff,not_false_eq_true];exact hg9.s1
  ·simp only[AB,ne_eq,Nat.reduceEqDiff,not_false_eq_true];exact hg9.s3
  ·simp only[AB,ne_eq,Nat.reduceEqDiff,not_false_eq_true];exact hg9.s29
  ·simp only[AB,ne_eq,Nat.reduceEqDiff,not_false_eq_true];exact hg9.s30
  ·simp only[AB,ne_eq,Nat.reduceEqDiff,not_false_eq_true];exact hg9.s31
 refine CI (ac:=s1N) (hJ0 (i+1+1)) (by kernel_rfl) hB (ZGg l p hS B _ i 1 yA _ _ hga) ata ?_
 rintro ex ab wb ax eb lb hex ⟨rfl,_,rfl,fb,rfl,hgb⟩ atb
 cases ex<;>first|exact hex.elim|skip
 rw[←hK3]
 exact⟨p.evs.length-(i+1),by omega,i+1,fb,rfl,yA,hgb,atb⟩
end Go.Proofs.YtmaokjojbjdpoaaGreatDoor
namespace Go.Proofs.YtmaokjojbjdpoaaGreatDoor
set_option linter.unusedVariables false

theorem QA.of_newA {P:Program} {f:Nat} {args:List AV} {b l:List Row} {Q:AV→List Row→List Row→Prop} (hf:∃fn,P.funcs[f]? = some fn∧(fn.name == "runtime.NumGoroutine")=false∧fn.body.isSome=true)
  (h:∀F L w (vs:Array Value),(∀b,F b→b<w.heap.size)→DA w F L args vs.toList→Calls P f vs w fun en w'=>Ext w w'∧∃v x F',en=.returned v∧(∀b,F b→F' b)∧(∀b,b<w.heap.size→F' b→F b)∧(∀b,F' b→b<w'.heap.size)∧RepA w' F' (fun _ _=>none) x v∧Q x b l):QA P f args b l Q:=by
 refine⟨hf,fun F L w vs s hr=>Calls.mono (h F L w vs (fun b hb=>(s.imm b hb).1) hr) ?_⟩
 rintro en w' ⟨he,v,x,F',h1,h2,h3,h4,h5,h6⟩
 have AN:∀k,k<w.heap.size→w'.heap[k]? = w.heap[k]?:=he.block
 have FF:∀k,GC L (b++l) k→k<w.heap.size:=by
  rintro k ⟨id,ver,sz,els,q0,k1,k2,k3⟩
  obtain⟨q,q1,q2⟩:=s.row id ver sz els k1
  rw[k2]at q1;cases q1
  exact q2.lt k3
 refine⟨v,x,b,l,F',L,h1,h5.mono (fun _ h=>h) (fun _ _=>rfl) (fun _ _ _ h=>by cases h),⟨fun i v z els hi=>?_,s.born,s.apart,fun k hk=>⟨h4 k hk,fun ho=>(s.imm k (h3 k (FF k ho) hk)).2 ho⟩,s.glob.mono h2 (fun k hk=>AN k (s.imm k hk).1)⟩,
  ⟨h2,fun _ _ _ _ h=>h,he.os,he.tape,he.output,he.size,fun k hk _=>AN k hk,fun _ _ h=>h,fun _ _ _ h=>h,fun k hk hf=>.inl (h3 k hk hf)⟩,rfl,h6⟩
 obtain⟨q,g1,g2⟩:=s.row i v z els hi
 exact⟨q,g1,g2.mono (fun k hk=>AN k (g2.lt hk)) (fun _ _ hx=>hx.mono h2 (fun k hk=>AN k (s.imm k hk).1) (fun _ _ _ h=>h))⟩

open Go.RowKit
set_option linter.unusedSimpArgs false
attribute [local go_sem] Oper.semAt_some
theorem L5 (u0 u1 u2:Value) (w:World):Calls Tryz.prog 132 #[.agg #[u0,u1,u2]] w fun e w'=>e=.returned (.func (.func 164) #[] #[.pointer (some ⟨w.heap.size,0,none⟩)])∧w'=w.alloc (.cells #[u0,u1,u2] 65):=by
 go_enter Tryz.func132,Tryz.ntmps132
 go_wp2_with fail
 go_ret
 exact⟨rfl,rfl⟩
theorem Y6 {F:Fence} (hro:F.round=none) (hFa:∀f,F.fn f) {P:Program} {n:Nat} {g:Operand} {ps:Array Tmp} {assign body:Code} {Q:Exit→Act→World→Prop} {a:Act} {w:World} (h1:1≤n) {gf:Nat} {lb:Array Value} (hg:a.eval g=.func (.func gf) #[] lb) (eg:∀args w,(callFunc gf args).run P w=.ok (.enter gf args) w)
  (ZIh:∀(fn:FuncId) (rec:LoopState→Option Code→Loop) (W1:World),(rec=fun st pe=>{state:=st,pending:=pe,fn:=fn,tmps:=a.tmps,params:=ps,assign:=assign,body:=body,defers:=w.heap.size}) →
   (w.alloc (.deferred (some []))).alloc (.loop (rec .ready none))=W1 →
   CallsIn F (n-1) P gf (#[.func (.yield (w.heap.size+1)) #[] #[]]++lb) W1 (rangePost F n P (w.heap.size+1) Q {a with defers:={target:=.collected w.heap.size,args:=#[]}::a.defers})) :
  (Code.rangeFunc g ps assign body).wpIn F n P Q a w:=by
 refine wpIn_rangeFunc ?_
 intro fn hfn
 rw[hro]
 obtain⟨rec,MW⟩:∃rec:LoopState→Option Code→Loop,rec=fun st pe=>{state:=st,pending:=pe,fn:=fn,tmps:=a.tmps,params:=ps,assign:=assign,body:=body,defers:=w.heap.size}:=⟨_,rfl⟩
 obtain⟨W1,FH⟩:∃W1,(w.alloc (.deferred (some []))).alloc (.loop (rec .ready none))=W1:=⟨_,rfl⟩
 have hh:=ZIh fn rec W1 MW FH
 clear ZIh
 refine⟨w.heap.size+1,[{target:=.collected w.heap.size,args:=#[]}],W1,{target:=.fn (.func gf) lb,args:=#[.func (.yield (w.heap.size+1)) #[] #[]]},W1,gf,
  #[.func (.yield (w.heap.size+1)) #[] #[]]++lb,W1,?_,?_,?_,?_,?_,?_⟩
 ·rw[←FH,MW];exact run_enterLoop_outer _ _ _ _ _
 ·simp only[resolve,hg]
  simp[go_sem]
 ·intro f1 hf1
  exact hFa f1
 ·simp[invoke,go_sem,eg]
 ·exact fun _=>h1
 ·exact hh
theorem ZBO (p:Pr) (hS:PrS p) (hO:OkA p) (k:Nat) (hk:k≤p.evs.length) (u0 u1 u2:Value) (W:World) (h0:RepI W (fun b=>b<W.heap.size) (.str p.name) u0) (h1:RepI W (fun b=>b<W.heap.size) (.isl 2 (p.vars.map eVr)) u1) (h2:RepI W (fun b=>b<W.heap.size) (.isl 5 (p.evs.map eEv)) u2) :
  Calls Tryz.prog 81 #[.agg #[u0,u1,u2],.int .i64 k] W fun e w'=>∃vv,e=.returned vv∧Ext W w'∧RepI w' (fun b=>W.heap.size≤b∧b<w'.heap.size) (.isl 1 ((stV p k).map eI)) vv:=by
 refine (callsIn_wide (n:=5)).1 ?_
 refine callsIn_of_wp_marks Tryz.func81 rfl trivial ?_ rfl
 simp only[Tryz.ntmps81,dy,ej,fq,Nat.reduceAdd,Nat.reduceSub,ie,ig,ii,ij,eh,da]
 have hSt:=fun w=>L5 u0 u1 u2 w
 have H0:=zA h0
 have H1:=zA h1
 have H2:=zA h2
 have HK:=zA hk
 clear h0 h1 h2 hk
 gi_wp2_with (refine⟨trivial,?_⟩;gi_at_call 132;refine (callsIn_wide.2 (hSt _)).mono ?_;rintro e w ⟨rfl,rfl⟩)
 generalize hK:Exit.inBlock _ _=K
 obtain⟨W0,D8⟩:∃W0,(((W.alloc (.cells #[u0,u1,u2] 65)).alloc (.cells #[.int .i64 k] 3)).alloc (.cells #[.slice none 0 0] 24)).alloc (.cells #[u0,u1,u2] 65)=W0:=⟨_,rfl⟩
 have NW:W0.heap.size=W.heap.size+4:=by rw[←D8];simp
 have hb0:Below W.heap.size W W0:=by rw[←D8];exact ((((Below.refl _ W).alloc kS _).alloc kS _).alloc (by simp;omega) _).alloc (by simp;omega) _
 have c1:W0.heap[W.heap.size+1]? = some (.cells #[.int .i64 k] 3):=by
  rw[←D8,Below.heap_alloc _ _ _ kS,Below.heap_alloc _ _ _ kS]
  have:=World.alloc_heap_new (W.alloc (.cells #[u0,u1,u2] 65)) (.cells #[.int .i64 k] 3)
  rwa [World.size_alloc]at this
 have c2:W0.heap[W.heap.size+2]? = some (.cells #[.slice none 0 0] 24):=by
  rw[←D8,Below.heap_alloc _ _ _ kS]
  have:=World.alloc_heap_new ((W.alloc (.cells #[u0,u1,u2] 65)).alloc (.cells #[.int .i64 k] 3)) (.cells #[.slice none 0 0] 24)
  rwa [World.size_alloc,World.size_alloc]at this
 have c3:W0.heap[W.heap.size+3]? = some (.cells #[u0,u1,u2] 65):=by
  rw[←D8]
  have:=World.alloc_heap_new (((W.alloc (.cells #[u0,u1,u2] 65)).alloc (.cells #[.int .i64 k] 3)).alloc (.cells #[.slice none 0 0] 24)) (.cells #[u0,u1,u2] 65)
  rwa [World.size_alloc,World.size_alloc,World.size_alloc]at this
 clear hSt
 rw[D8]
 clear D8
 refine Y6 (F:=Fence.wide) rfl (fun _=>trivial) oM (gf:=164) (lb:=#[.pointer (some ⟨W.heap.size+1+1+1,0,none⟩)]) rfl (mC Tryz.func164 kE rfl) ?_
 intro fn rec W1 MW FH
 have OH:W1.heap.size=W.heap.size+6:=by rw[←FH];simp;omega
 have wJ:Below W0.heap.size W0 W1:=by rw[←FH];exact ((Below.refl _ W0).alloc kS _).alloc kS _
 have aO:W1.heap[W0.heap.size+1]? = some (.loop (rec .ready none)):=by
  rw[←FH];have:=World.alloc_heap_new (W0.alloc (.deferred (some []))) (.loop (rec .ready none));rwa [World.size_alloc]at this
 have hd1:W1.heap[W0.heap.size]? = some (.deferred (some [])):=by
  rw[←FH];exact (Below.heap_alloc _ _ _ kS).trans (World.alloc_heap_new W0 _)
 have hp:RepI W1 (fun b=>b<W.heap.size∨b=W.heap.size+3) (.iptr [.str p.name,.isl 2 (p.vars.map eVr),.isl 5 (p.evs.map eEv)] 0) (.pointer (some ⟨W.heap.size+3,0,none⟩)):=by
  have hm:∀{x:IV} {u:Value},RepI W (fun b=>b<W.heap.size) x u→RepI W1 (fun b=>b<W.heap.size∨b=W.heap.size+3) x u:=fun h=>h.mono (fun _ h=>.inl h) (fun b hb=>((wJ.block b oM).trans (hb0.block b hb)))
  have gY:W1.heap[W.heap.size+3]? = some (.cells #[u0,u1,u2] 65):=(wJ.block _ oM).trans c3
  refine .iptr _ 0 (W.heap.size+3) 0 (fun j=>match j with|0=>u0|1=>u1|_=>u2) (.inr rfl) (fun j a hj=>?_) (fun j a hj=>?_)
  ·match j,hj with
   |0,_=>simp[World.cell?,gY]
   |1,_=>simp[World.cell?,gY]
   |2,_=>simp[World.cell?,gY]
  ·match j,hj with
   |0,hj=>cases hj;exact hm H0.out
   |1,hj=>cases hj;exact hm H1.out
   |2,hj=>cases hj;exact hm H2.out
 refine (F5 4 oM p hS hO (W0.heap.size+1) (W.heap.size+3) W1 (fun b=>b<W.heap.size∨b=W.heap.size+3) (fun b hb=>by omega) hp
  (fun i A=>Below W1.heap.size W1 A∧i≤k)
  (fun A=>Below W.heap.size W A∧A.heap[W0.heap.size]? = some (.deferred (some []))∧A.heap[W0.heap.size+1]? = some (.loop (rec .done (some .ret)))∧W1.heap.size≤A.heap.size∧∃vv,A.heap[W.heap.size+2]? = some (.cells #[vv] 24)∧RepI A (fun b=>W1.heap.size≤b∧b<A.heap.size) (.isl 1 ((stV p k).map eI)) vv)
  (fun i A B h hb=>⟨h.1.trans hb,h.2⟩) ?yield ⟨Below.refl _ _,aj _⟩).mono ?after
 case after =>
  rintro e w' ⟨⟨v,rfl⟩,⟨_,ZNN⟩|⟨hbw,hdw,hlw,hsw,vv,hcw,hvw⟩⟩
  ·exact absurd ZNN (by have:=HK.out;omega)
  ·have hE:=run_endLoop (P:=Tryz.prog) hlw (by rw[MW];simp)
   rw[MW]at hE
   refine⟨some .ret,_,hE,?_⟩
   refine wpIn_ret ?_
   rw[←hK]
   simp only[Exit.inBlock,Exit.then]
   clear hE
   generalize hlp:Obj.loop _=lo
   have hd2:(w'.putObj (W0.heap.size+1) lo).heap[W0.heap.size]? = some (.deferred (some [])):=by rw[World.putObj_heap_other oM];exact hdw
   refine⟨by simp,.inl ⟨_,_,rfl,run_takeDeferred hd2,?_⟩⟩
   have hc4:(((w'.putObj (W0.heap.size+1) lo).putObj W0.heap.size (.deferred none)).heap[W.heap.size+2]?)=some (.cells #[vv] 24):=by
    rw[World.putObj_heap_other oM,World.putObj_heap_other oM];exact hcw
   have fX:((w'.putObj (W0.heap.size+1) lo).putObj W0.heap.size (.deferred none)).cell? ⟨W.heap.size+1+1,0,none⟩=some vv:=by simp[World.cell?,hc4]
   refine⟨vv,?_,vv,rfl,⟨hbw.os,hbw.tape,hbw.output,by simp;exact hbw.size,fun b hb=>by rw[World.putObj_heap_other oM,World.putObj_heap_other oM];exact hbw.block b hb⟩,?_⟩
   ·simp[results,Tryz.f81,go_sem,fX]
   ·refine hvw.mono (fun b hb=>⟨by omega,by simp;exact hb.2⟩) (fun b hb=>?_)
    rw[World.putObj_heap_other oM,World.putObj_heap_other oM]
 case yield =>
  rintro i v Wy hi ⟨yO,I8⟩ hsy hvy
  have hly:Wy.heap[W0.heap.size+1]? = some (.loop (rec .ready none)):=(yO.block _ oM).trans aO
  have hdy:Wy.heap[W0.heap.size]? = some (.deferred (some [])):=(yO.block _ oM).trans hd1
  have hy:=run_yield (P:=Tryz.prog) (args:=#[.int .i64 i,v]) hly (by rw[MW];rfl)
  refine⟨_,_,_,_,hy,roundIn_of_wpIn trivial ?_⟩
  have hbr:=run_beginRound (P:=Tryz.prog) hly (by rw[MW])
  have hrc:rec=rec:=rfl
  obtain⟨Wb,hWb⟩:∃Wb,Wy.putObj (W0.heap.size+1) (.loop {rec .ready none with state:=.busy})=Wb:=⟨_,rfl⟩
  have hlb:Wb.heap[W0.heap.size+1]? = some (.loop {rec .ready none with state:=.busy}):=by rw[←hWb];exact World.putObj_heap_same oM
  have hob:∀b,b≠W0.heap.size+1→Wb.heap[b]? = Wy.heap[b]?:=fun b hb=>by rw[←hWb];exact World.putObj_heap_other hb
  have hsb:Wb.heap.size=Wy.heap.size:=by rw[←hWb];simp
  have ZLv:Wb.os=Wy.os∧Wb.tape=Wy.tape∧Wb.output=Wy.output:=by rw[←hWb];exact⟨rfl,rfl,rfl⟩
  rw[hWb]at hbr
  clear hWb hy
  have ZF:=fun jump=>run_endRound (P:=Tryz.prog) jump hlb
  rw[MW]at ZF⊢
  simp only at ZF⊢
  have k1:Wb.cell? ⟨W.heap.size+1,0,none⟩=some (.int .i64 k):=by
   have hcb:Wb.heap[W.heap.size+1]? = some (.cells #[.int .i64 k] 3):=(hob _ oM).trans ((yO.block _ oM).trans ((wJ.block _ oM).trans c1))
   simp[World.cell?,hcb]
  have ZIJ:Wb.heap[W.heap.size+2]? = some (.cells #[.slice none 0 0] 24):=(hob _ oM).trans ((yO.block _ oM).trans ((wJ.block _ oM).trans c2))
  have k2:Wb.cell? ⟨W.heap.size+1+1,0,none⟩=some (.slice none 0 0):=by simp[World.cell?,ZIJ]
  have k3:Wb.frozen? ⟨W.heap.size+1+1,0,none⟩=false:=by simp[World.frozen?,ZIJ]
  have HS:=zA (show W0.heap.size=W.heap.size+4∧W1.heap.size=W.heap.size+6∧Wb.heap.size=Wy.heap.size∧W1.heap.size≤Wy.heap.size from⟨NW,OH,hsb,hsy⟩)
  obtain⟨A,c,hv,_⟩:=LI hvy
  rw[aa]at hv
  subst hv
  have HV:=zA hvy
  have HL:=zA (And.intro hly (And.intro hdy hlb))
  have HB:=zA (And.intro hob ZLv)
  have HC:=zA ZIJ
  have HE:=zA ZF
  clear NW OH hsb hsy c1 c2 c3 aO hd1 hvy hly hdy hlb hob ZLv ZIJ ZF
  generalize W0.heap.size=d0 at *
  generalize hl0:d0+1=l0 at *
  have HIK:=zA I8
  clear I8
  by_cases hek:i=k
  ·have heq:((i:Int)==(k:Int))=true:=by rw[hek];simp
   have HEK:=zA hek
   clear hek
   gi_wp2
   obtain⟨hob,ZCi,ZCj,ZCk⟩:=HB.out
   obtain⟨hly,hdy,hlb⟩:=HL.out
   obtain⟨z0,z1,z2,z3⟩:=HS.out
   obtain⟨Wc,hWc⟩:∃Wc,Wb.setCell ⟨W.heap.size+1+1,0,none⟩ (.slice A (stV p i).length c)=Wc:=⟨_,rfl⟩
   have hoc:∀b,b≠W.heap.size+2→Wc.heap[b]? = Wb.heap[b]?:=fun b hb=>by rw[←hWc];exact Below.heap_setCell _ _ _ _ (by simp;omega)
   have hsc:Wc.heap.size=Wb.heap.size:=by rw[←hWc];simp[World.setCell]
   have ZKY:Wc.os=Wb.os∧Wc.tape=Wb.tape∧Wc.output=Wb.output:=by rw[←hWc];exact⟨rfl,rfl,rfl⟩
   have fX:Wc.heap[W.heap.size+2]? = some (.cells #[.slice A (stV p i).length c] 24):=by
    have zS:Wb.heap[W.heap.size+1+1]? = some (.cells #[.slice none 0 0] 24):=HC.out
    rw[←hWc]
    show _[W.heap.size+1+1]? = _
    simp[World.setCell,Array.getElem?_modify,zS]
   rw[hWc]
   have hlc:Wc.heap[l0]? = some (.loop {rec .ready none with state:=.busy}):=(hoc _ oM).trans hlb
   have hE:=run_endRound (P:=Tryz.prog) (some .ret) hlc
   rw[MW]at hE
   refine⟨_,_,hE,.inr ⟨rfl,⟨?_,?_,?_,?_,?_⟩,?_,?_,?_,.slice A (stV p i).length c,?_,?_⟩⟩
   ·exact ZKY.1.trans (ZCi.trans (yO.os.trans (wJ.os.trans hb0.os)))
   ·exact ZKY.2.1.trans (ZCj.trans (yO.tape.trans (wJ.tape.trans hb0.tape)))
   ·exact ZKY.2.2.trans (ZCk.trans (yO.output.trans (wJ.output.trans hb0.output)))
   ·simp;omega
   ·intro b hb
    rw[World.putObj_heap_other oM,hoc _ oM,hob _ oM,yO.block b oM,wJ.block b oM,hb0.block b hb]
   ·rw[World.putObj_heap_other oM,hoc _ oM,hob _ oM];exact hdy
   ·exact World.putObj_heap_same oM
   ·simp;omega
   ·rw[World.putObj_heap_other oM];exact fX
   ·rw[←HEK.out]
    refine HV.out.mono (fun b hb=>⟨hb.1,by simp;omega⟩) (fun b hb=>?_)
    rw[World.putObj_heap_other oM,hoc _ oM,hob _ oM]
  ·have heq:((i:Int)==(k:Int))=false:=by simp;omega
   have HEK:=zA hek
   clear hek
   gi_wp2
   obtain⟨hob,ZCi,ZCj,ZCk⟩:=HB.out
   obtain⟨hly,hdy,hlb⟩:=HL.out
   obtain⟨z0,z1,z2,z3⟩:=HS.out
   have hE:=run_endRound (P:=Tryz.prog) none hlb
   rw[MW]at hE
   refine⟨_,_,hE,.inl ⟨rfl,⟨⟨?_,?_,?_,?_,?_⟩,?_⟩,⟨?_,?_,?_,?_,?_⟩⟩⟩
   ·exact ZCi.trans yO.os
   ·exact ZCj.trans yO.tape
   ·exact ZCk.trans yO.output
   ·simp;omega
   ·intro b hb
    by_cases hbl:b=l0
    ·subst hbl
     refine (World.putObj_heap_same oM).trans ?_
     rw[←yO.block _ hb,hly,MW]
     rfl
    ·rw[World.putObj_heap_other hbl,hob _ hbl,yO.block b hb]
   ·have:=HIK.out;have:=HEK.out;omega
   ·simp;omega
   ·exact ZCi
   ·exact ZCj
   ·exact ZCk
   ·intro b hb hf
    rw[World.putObj_heap_other oM,hob _ oM]
attribute [local go_sem ↓] kC JB xC iC yD mB wC kD uC nD TA pB yC SA nB vC AA bB pC VB MA dC lB fB qB eB jB XC sB wD rC gD xD lE tD fE eE RB AB
attribute [local go_sem] UB LA QE vB CA mE rD dD iD UL KL sD sC tC nC XD nA JC EA YC FA KB aop AE AD DD MC SD bC TD OJ QG WF amm UF eC TB dF ID GF comma OC ZG CJ AF EF yJ uF gF qE vJ eqC eqF eG cellsOf iB fC IB xF DI rd rdI IE mk mD AV.cell List.all_cons List.all_nil Bool.and_true Bool.true_and Bool.and_self List.length_cons List.length_nil List.length_append Nat.reduceAdd Nat.reduceSub Nat.reduceMul Nat.zero_add Nat.add_zero List.cons_append List.nil_append List.append_assoc List.append_nil List.getElem?_cons_zero List.getElem?_cons_succ List.getElem?_nil List.set_cons_zero List.set_cons_succ List.drop_zero List.drop_succ_cons List.take_zero List.take_succ_cons List.take_nil List.drop_nil List.map_cons List.map_nil Option.map_some if_true if_false Bool.false_eq_true and_self true_and and_true Nat.reduceLeDiff Nat.reduceLT Nat.le_refl Nat.reduceEqDiff ite_true ite_false beq_self_eq_true beq_true beq_false Bool.not_true Bool.not_false Bool.true_beq Bool.false_beq pE DB xB zD vD jC qC zC KC jD qD nE pA XL sK YL QL dG uG rG iG geI gtI sG decide_true decide_false room List.getElem?_map List.length_map List.length_take Int.toNat_natCast Nat.min_def Nat.min_self uD QD MD tB bD mF KA List.getElem_cons_zero List.getElem_cons_succ
def a_vState:AFunc:=({c:=_}:CF Tryz.prog 32).c
theorem CZ:qA Tryz.prog 32=some a_vState:=by kernel_rfl

theorem JZ (p:Pr) (hS:PrS p) (hO:OkA p) (k:Nat) (hk:k≤p.evs.length) (b l:List Row):QA Tryz.prog 81 [.agg [.v (.str p.name),.v (.isl 2 (p.vars.map eVr)),.v (.isl 5 (p.evs.map eEv))],.v (.int .i64 k)] b l (fun r b' l'=>r=.v (.isl 1 ((stV p k).map eI))∧b'=b∧l'=l):=by
 refine QA.of_newA ⟨_,Tryz.func81,by kernel_rfl,by kernel_rfl⟩ (fun F L w us hF hr=>?_)
 obtain⟨v,u1,e1,r1,hr1⟩:=YE hr
 obtain⟨kv,u2,e2,r2,OY⟩:=YE hr1
 have:=jG OY
 subst this
 obtain rfl:us=#[v,kv]:=gh.1 (by rw[e1,e2])
 cases r2.vI
 obtain⟨cs,rfl,hc⟩:=r1.aggL
 obtain⟨c0,t0,f0,q0,hc0⟩:=YE hc
 obtain⟨c1,t1,f1,q1,II⟩:=YE hc0
 obtain⟨c2,t2,f2,q2,zS⟩:=YE II
 have:=jG zS
 subst this
 obtain rfl:cs=#[c0,c1,c2]:=gh.1 (by rw[f0,f1,f2])
 have up:∀{x:IV} {u:Value},RepA w F L (.v x) u→RepI w (fun b=>b<w.heap.size) x u:=fun h=>h.vI.mono hF (fun _ _=>rfl)
 refine (ZBO p hS hO k hk c0 c1 c2 w (up q0) (up q1) (up q2)).mono ?_
 rintro e w' ⟨vv,rfl,he,hv⟩
 refine⟨he,vv,_,fun b=>F b∨(w.heap.size≤b∧b<w'.heap.size),rfl,fun _ h=>.inl h,fun b hb h=>h.elim id (fun h=>by omega),fun b h=>h.elim (fun h=>fg (hF b h) he.size) (fun h=>h.2),.v _ _ (hv.mono (fun _ h=>.inr h) (fun _ _=>rfl)),rfl,rfl,rfl⟩
end Go.Proofs.YtmaokjojbjdpoaaGreatDoor
namespace Go.Proofs.YtmaokjojbjdpoaaGreatDoor
set_option linter.unusedVariables false
set_option linter.unusedSimpArgs false
attribute [local go_sem ↓] kC JB xC iC yD mB wC kD uC nD TA pB yC SA nB vC AA bB pC VB MA dC lB fB qB eB jB XC sB wD rC gD xD lE tD fE eE RB AB
attribute [local go_sem] UB LA QE vB CA mE rD dD iD UL KL sD sC tC nC XD nA JC EA YC FA KB aop AE AD DD MC SD bC TD OJ QG WF amm UF eC TB dF ID GF comma OC ZG CJ AF EF yJ uF gF qE vJ eqC eqF eG cellsOf iB fC IB xF DI rd rdI IE mk mD AV.cell List.all_cons List.all_nil Bool.and_true Bool.true_and Bool.and_self List.length_cons List.length_nil List.length_append Nat.reduceAdd Nat.reduceSub Nat.reduceMul Nat.zero_add Nat.add_zero List.cons_append List.nil_append List.append_assoc List.append_nil List.getElem?_cons_zero List.getElem?_cons_succ List.getElem?_nil List.set_cons_zero List.set_cons_succ List.drop_zero List.drop_succ_cons List.take_zero List.take_succ_cons List.take_nil List.drop_nil List.map_cons List.map_nil Option.map_some if_true if_false Bool.false_eq_true and_self true_and and_true Nat.reduceLeDiff Nat.reduceLT Nat.le_refl Nat.reduceEqDiff ite_true ite_false beq_self_eq_true beq_true beq_false Bool.not_true Bool.not_false Bool.true_beq Bool.false_beq pE DB xB zD vD jC qC zC KC jD qD nE pA XL sK YL QL dG uG rG iG geI gtI sG decide_true decide_false room List.getElem?_map List.length_map List.length_take Int.toNat_natCast Nat.min_def Nat.min_self uD QD MD tB bD mF KA List.getElem_cons_zero List.getElem_cons_succ
def a_r54fits:AFunc:=({c:=_}:CF Tryz.prog 55).c
theorem rX:qA Tryz.prog 55=some a_r54fits:=by kernel_rfl
def lS:List (Nat×Nat):=[(6,6),(8,8),(28,54)]

def IY (p:Pr) (k:Nat):Bool:=(List.range k).all fun i=>(p.vars.getD i CO).name==zH i
def ZV (p:Pr) (c:Int):Bool:=decide (p.evs.length=0∨(p.evs.getD (p.evs.length-1) SI).time≤c)
def xI (p:Pr) (s:Sv) (now:Int):Bool:=(p.name==s.name)&&(decide (p.vars.length=s.vars.length)&&(IY p s.vars.length&&(decide (iM p=s.vars)&&ZV p (CH s now))))
theorem JX (p:Pr) (hS:PrS p) (hO:OkA p) (s:Sv) (h8:s.vars.length≤8) (now:Int) (b l:List Row):QA Tryz.prog 55 [.agg [.v (.str p.name),.v (.isl 2 (p.vars.map eVr)),.v (.isl 5 (p.evs.map eEv))],.agg (zSA s),.v (.int .i64 now)] b l (fun r b' l'=>r=.v (.bool (xI p s now))∧b'=b∧l'=l):=by
 refine XA rX rfl kE ?_
 intro B g hB hR hE hA;simp only[KA]at hA
 have hnv:=hS.nv
 have zG:=hS.ne
 have hbn:(p.name != s.name)=!(p.name==s.name):=rfl
 cases t1:(p.name==s.name)
 ·simp (disch:=first|decide|omega) only[a_r54fits,hA,hbn,t1,aa,go_sem]
  exact ZA (xs:=[.v (.bool false)]) ⟨by unfold xI;rw[t1];rfl,rfl,rfl⟩
 by_cases t2:p.vars.length=s.vars.length
 case neg =>
  have d2:((p.vars.length:Int) != (s.vars.length:Int))=true:=by simp;omega
  simp (disch:=first|decide|omega) only[a_r54fits,hA,hbn,t1,d2,aa,go_sem]
  exact ZA (xs:=[.v (.bool false)]) ⟨by unfold xI;rw[t1,ag t2];rfl,rfl,rfl⟩
 have d2:((p.vars.length:Int) != (s.vars.length:Int))=false:=by simp;omega
 simp (disch:=first|decide|omega) only[a_r54fits,hA,hbn,t1,d2,aa,go_sem]
 refine QA.nxt (uU p hS hO _ _) ?_
 have hfv:(iM p).length=p.vars.length:=tG _
 simp (disch:=first|decide|omega) only[hA,hbn,t1,d2,aa,go_sem]
 refine JA (ι:=Nat) lS (fun i=>[(8,.v (.int .i64 i))]) 2 (fun i=>[rK p,xG s])
  (fun i=>i≤p.vars.length∧∀j,j<i→((p.vars.getD j CO).name==zH j)=true∧(iM p).getD j 0=s.vars.getD j 0) (fun i=>p.vars.length-i) 0 ⟨aj _,fun j hj=>by omega⟩ kM kA kF ?_
 rintro g1 ZF bE iA i ⟨hi,h0⟩
 unfold rK xG
 by_cases yA:i<p.vars.length
 ·have SU:=YS yA
  have hgf:((iM p).map eI)[i]? = some [.int .i64 ((iM p).getD i 0)]:=aC oM
  have pK:(s.vars.map eI)[i]? = some [.int .i64 (s.vars.getD i 0)]:=aC oM
  have hgn:(p.vars.getD i CO).name=p.vars[i].name:=by rw[YA yA]
  simp (disch:=first|decide|omega) only[hA,iA,SU,hfv,aa,go_sem]
  refine QA.nxt (x6 i oM _ _) ?_
  have hb:(p.vars[i].name != zH i)=!(p.vars[i].name==zH i):=rfl
  cases t3:(p.vars[i].name==zH i)
  ·simp (disch:=first|decide|omega) only[hA,iA,SU,hgf,pK,hb,t3,aa,go_sem]
   exact ZA (xs:=[.v (.bool false)]) ⟨by unfold xI;rw[t1,ae t2,show IY p s.vars.length=false from ep.2 ⟨i,ay.2 oM,by rw[hgn,t3];simp⟩];rfl,rfl,rfl⟩
  ·by_cases t4:(iM p).getD i 0=s.vars.getD i 0
   ·have d4:((iM p).getD i 0 != s.vars.getD i 0)=false:=by rw[t4];simp
    simp (disch:=first|decide|omega) only[hA,iA,SU,hgf,pK,hb,t3,d4,aa,go_sem]
    refine⟨i+1,⟨yA,fun j hj=>?_⟩,by simp only;omega,?_⟩
    ·rcases bp j i with fF|fF
     ·exact h0 j fF
     ·obtain rfl:j=i:=by omega
      exact⟨by rw[hgn];exact t3,t4⟩
    ·exact VA.kround (p:=lS) (k:=2) kQ kA rfl ZF kS kV hR kL
   ·have d4:((iM p).getD i 0 != s.vars.getD i 0)=true:=by simpa using t4
    simp (disch:=first|decide|omega) only[hA,iA,SU,hgf,pK,hb,t3,d4,aa,go_sem]
    have ZGR:decide (iM p=s.vars)=false:=ag (fun h=>t4 (by rw[h]))
    exact ZA (xs:=[.v (.bool false)]) ⟨by unfold xI;rw[ZGR];simp[one],rfl,rfl⟩
 obtain rfl:i=p.vars.length:=by omega
 have t3:IY p s.vars.length=true:=by
  unfold IY
  rw[bl]
  exact fun j hj=>(h0 j (by have:=ay.1 hj;omega)).1
 have t4:decide (iM p=s.vars)=true:=ae (Y4 oM (fun j hj=>(h0 j oM).2))
 have hr:xI p s now=ZV p (CH s now):=by unfold xI;rw[t1,ae t2,t3,t4];rfl
 rw[hr]
 simp (disch:=first|decide|omega) only[hA,iA,hfv,aa,go_sem]
 refine QA.nxt (iN _ _ _ _ s now _ _) ?_
 by_cases hz:p.evs.length=0
 ·have dz:((p.evs.length:Int)==0)=true:=by rw[hz];rfl
  simp (disch:=first|decide|omega) only[hA,iA,dz,aa,go_sem]
  exact ZA (xs:=[.v (.bool true)]) ⟨by unfold ZV;rw[ae (.inl hz)];rfl,rfl,rfl⟩
 ·have dz:((p.evs.length:Int)==0)=false:=dt.2 oM
  have yA:p.evs.length-1<p.evs.length:=by omega
  have yH:=KH yA
  have II:(p.evs.length:Int)-1=((p.evs.length-1:Nat):Int):=by omega
  simp (disch:=first|decide|omega) only[hA,iA,dz,II,yH,aa,go_sem]
  exact ZA (xs:=[.v (.bool (decide (p.evs[p.evs.length-1].time≤CH s now)))]) ⟨by unfold ZV;rw[YA yA];simp[hz,one],rfl,rfl⟩
noncomputable def bkL (t:Tr) (p n i:Nat):List (Nat×Nat):=(List.range (n-i)).flatMap fun k=>zE t (p,n-k)
theorem ZHN {t:Tr} {p n i:Nat} {y:Nat×Nat} (h:y∈bkL t p n i):∃j,i<j∧j≤n∧y∈zE t (p,j):=by
 unfold bkL at h
 obtain⟨k,hk,hy⟩:=jo.1 h
 have:=ay.1 hk
 exact⟨n-k,by omega,by omega,hy⟩
theorem ZHb {t:Tr} {p n i j:Nat} {y:Nat×Nat} (h1:i<j) (h2:j≤n) (hy:y∈zE t (p,j)):y∈bkL t p n i:=by
 unfold bkL
 exact jo.2 ⟨n-j,ay.2 oM,by rwa [show n-(n-j)=j by omega]⟩
structure Pst (t:Tr) (x:Nat×Nat) (c:Nat→Nat) (Q:List (Nat×Nat)):Prop where
 q:∀y∈Q,y∈ids t∧Le t y x
 le:∀p i,i<c p→p<t.length∧i<(sA t p).length∧Le t (p,i+1) x
 src:x∈Q∨x.2≤c x.1
 cl:∀z∈ids t,z.2≤c z.1→∀y∈zE t z,y∈Q∨y.2≤c y.1
theorem Pst.start {t:Tr} {x:Nat×Nat} (hx:x∈ids t):Pst t x (fun _=>0) [x]:=by
 refine⟨fun y hy=>?_,fun p i h=>by simp at h,.inl kS,fun z hz h=>?_⟩
 ·simp only[ly]at hy;subst hy;exact⟨hx,.refl _⟩
 ·have:=(CC.1 hz).2.1
  omega
theorem Pst.cle {t:Tr} {x:Nat×Nat} {c:Nat→Nat} {Q:List (Nat×Nat)} (h:Pst t x c Q) (p:Nat):c p≤(sA t p).length:=by
 cases hc:c p with
 |zero=>omega
 |succ n=>have:=(h.le p n oM).2.1;omega
theorem Pst.skip {t:Tr} {x y:Nat×Nat} {c:Nat→Nat} {Q:List (Nat×Nat)} (h:Pst t x c (y::Q)) (hc:y.2≤c y.1):Pst t x c Q:=by
 refine⟨fun z hz=>h.q z (by simp[hz]),h.le,?_,fun z hz uV w hw=>?_⟩
 ·rcases h.src with h1|h1
  ·rcases cz.1 h1 with rfl|h2
   ·exact .inr hc
   ·exact .inl h2
  ·exact .inr h1
 ·rcases h.cl z hz uV w hw with h1|h1
  ·rcases cz.1 h1 with rfl|h2
   ·exact .inr hc
   ·exact .inl h2
  ·exact .inr h1
theorem Pst.mark {t:Tr} (hv:Vok t) {x:Nat×Nat} {p n:Nat} {c:Nat→Nat} {Q:List (Nat×Nat)} (h:Pst t x c ((p,n)::Q)) (hc:c p<n):Pst t x (fUp c p n) (Q++bkL t p n (c p)):=by
 obtain⟨hy,hl⟩:=h.q (p,n) kS
 obtain⟨n,rfl⟩:∃k,n=k+1:=⟨n-1,by have:=(CC.1 hy).2.1;simp only at this;omega⟩
 obtain⟨hp,hn⟩:=jE.1 hy
 have up:∀q,c q≤fUp c p (n+1) q:=fun q=>by
  by_cases hq:q=p
  ·subst hq;rw[BI];omega
  ·rw[UU hq];exact ai _
 refine⟨fun z hz=>?_,fun q i hi=>?_,?_,fun z hz uV w hw=>?_⟩
 ·rcases bu.1 hz with hz|hz
  ·exact h.q z (by simp[hz])
  ·obtain⟨j,h1,h2,h3⟩:=ZHN hz
   obtain⟨j,rfl⟩:∃k,j=k+1:=⟨j-1,by omega⟩
   obtain⟨h4,h5⟩:=s4 hv (jE.2 ⟨hp,by omega⟩) h3
   exact⟨h4,Le.trans (.inr h5) ((k9 h2 oM).trans hl)⟩
 ·by_cases hq:q=p
  ·subst hq
   rw[BI]at hi
   exact⟨hp,by omega,(k9 oM oM).trans hl⟩
  ·rw[UU hq]at hi
   exact h.le q i hi
 ·rcases h.src with h1|h1
  ·rcases cz.1 h1 with rfl|h2
   ·exact .inr (by simp only;rw[BI];omega)
   ·exact .inl (bu.2 (.inl h2))
  ·exact .inr (dq h1 (up _))
 ·have old:z.2≤c z.1→w∈Q++bkL t p (n+1) (c p)∨w.2≤fUp c p (n+1) w.1:=fun h0=>by
   rcases h.cl z hz h0 w hw with h1|h1
   ·rcases cz.1 h1 with rfl|h2
    ·exact .inr (by simp only;rw[BI];omega)
    ·exact .inl (bu.2 (.inl h2))
   ·exact .inr (dq h1 (up _))
  obtain⟨zp,zi⟩:=z
  by_cases hq:zp=p
  ·subst hq
   simp only at uV
   rw[BI]at uV
   by_cases h0:zi≤c zp
   ·exact old h0
   ·exact .inl (bu.2 (.inr (ZHb oM uV hw)))
  ·simp only at uV
   rw[UU hq]at uV
   exact old uV
theorem Pst.all {t:Tr} (hv:Vok t) {x:Nat×Nat} {c:Nat→Nat} (h:Pst t x c []):∀n z,rk t z=n→z∈ids t→z.2≤c z.1→∀w∈ids t,Le t w z→w.2≤c w.1:=by
 intro n
 induction n using Nat.strongRecOn with
 |_ n ih =>
   intro z hn hz uV w hw hl
   rcases (ZHO hv hz hw).1 hl with rfl|⟨y,hy,IU⟩
   ·exact uV
   ·obtain⟨h1,h2⟩:=s4 hv hz hy
    rcases h.cl z hz uV y hy with h3|h3
    ·simp at h3
    ·exact ih (rk t y) (by rw[←hn];exact rk_lt hv hz h2) y rfl h1 h3 w hw IU
theorem Pst.done {t:Tr} (hv:Vok t) {x:Nat×Nat} (hx:x∈ids t) {c:Nat→Nat} (h:Pst t x c []) {p:Nat} (hp:p<t.length):c p=vc t x p:=by
 refine ZJQ (n:=(sA t p).length) (h.cle p) vc_le (fun j hj=>?_)
 rw[←ZJG hj]
 constructor
 ·exact fun hl=>(h.le p j hl).2.2
 ·intro hl
  have hs:x.2≤c x.1:=h.src.resolve_left kS
  have:=h.all hv (rk t x) x rfl hx hs (p,j+1) (jE.2 ⟨hp,hj⟩) hl
  exact this
theorem yW {t:Tr} {x:Nat×Nat}:lC t x=0↔QB t.length x.1 (uA t x)=true∧inB (uA t x).time 0 1099511627776=true∧¬(uA t x).time<yI t x∧(uA t x).asg.length≤8∧dB (kJ (t.getD x.1 dfPr).vars.length (uA t x).asg) (uA t x).asg.length=0:=by
 unfold lC
 cases h1:QB t.length x.1 (uA t x)
 ·simp
 cases h2:inB (uA t x).time 0 1099511627776
 ·simp
 by_cases h3:(uA t x).time<yI t x
 ·simp[h3]
 by_cases h4:8<(uA t x).asg.length
 ·have h5:¬(uA t x).asg.length≤8:=by omega
  simp[h3,h4,h5]
 ·have h5:(uA t x).asg.length≤8:=by omega
  simp[h3,h4,h5]
theorem aP {t:Tr} (h:Vok t) {x:Nat×Nat} (hx:x∈ids t) {k:Int} (hk:k=2∨k=3) (hkx:(uA t x).kind=k):SC t k (uA t x).msg=some x:=by
 rcases hk with rfl|rfl
 ·exact h.paired.send hx hkx
 ·exact (h.paired.recv hx hkx).1
theorem ZEX {t:Tr} {x:Nat×Nat} (hx:x∈ids t):uA t x∈sA t x.1:=by
 obtain⟨p,i⟩:=x
 obtain⟨hp,h1,h2⟩:=CC.1 hx
 unfold uA
 simp only at *
 rw[ME hp,ZB SI _ (show i-1<t[p].evs.length by omega)]
 exact ak _
theorem ZEG {t:Tr} {p:Nat} {e:Ev} (hp:p<t.length) (he:e∈sA t p):∃i,(p,i+1)∈ids t∧uA t (p,i+1)=e:=by
 obtain⟨i,hi,rfl⟩:=cq he
 refine⟨i,jE.2 ⟨hp,hi⟩,?_⟩
 unfold uA
 simp only[fd]
 exact ZB SI _ hi
def Qb (t:Tr) (k j:Nat) (x y:Nat×Nat):Prop:=Hb t x y∧(y=(k,j+2)→Le t x (k,j)∨((uA t (k,j+2)).kind=3∧Le t x (sndr t (k,j+2))))
theorem Qb.trans {t:Tr} {k j:Nat} {x y z:Nat×Nat} (h:Qb t k j x y) (g:Qb t k j y z):Qb t k j x z:=by
 refine⟨h.1.trans g.1,fun e=>?_⟩
 rcases g.2 e with a|⟨a,c⟩
 ·exact .inl ((Le.trans (.inr h.1) a))
 ·exact .inr ⟨a,(Le.trans (.inr h.1) c)⟩
theorem Hb.pos {t:Tr} {x y:Nat×Nat} (h:Hb t x y):1≤y.2:=by
 have d:∀{a c:Nat×Nat},Dir t a c→1≤c.2:=fun {a c} d=>by
  rcases d with ⟨rfl,_⟩|⟨_,hf⟩
  ·exact Nat.le_add_left _ _
  ·exact (QC hf).2.1
 cases h with
 |one h=>exact d h
 |more _ h=>exact d h
theorem lO (v w:List Int) (hv:v.length≤1000000) (b l:List Row):QA Tryz.prog 24 [.v (.isl 1 (v.map eI)),.v (.isl 1 (w.map eI))] b l (fun r b' l'=>r=.v (.bool (decide (v=w)))∧b'=b∧l'=l):=by
 refine XA ZEk rfl kE ?_
 intro B g hB hR hE hA;simp only[KA]at hA
 by_cases hl:v.length=w.length
 ·have hd:((v.length:Int) != (w.length:Int))=false:=by simp[hl]
  simp (disch:=first|decide|omega) only[a_Eq1,hA,hd,go_sem]
  refine JA (ι:=Nat) ZFJ (fun i=>[(13,.v (.int .i64 i))]) 0 (fun _=>[])
   (fun i=>i≤v.length∧∀j,j<i→v.getD j 0=w.getD j 0) (fun i=>v.length-i) 0 ⟨aj _,fun j hj=>by omega⟩ kM kA kF ?_
  rintro g1 ZF bE iA i ⟨hi,h0⟩
  by_cases yA:i<v.length
  ·have hlw:i<w.length:=by omega
   by_cases he:v[i]=w[i]
   ·have hd2:(v[i] != w[i])=false:=by simp[he]
    simp (disch:=first|decide|omega) only[hA,iA,eI,hd2,go_sem]
    refine⟨i+1,⟨yA,fun j hj=>?_⟩,by simp only;omega,?_⟩
    ·rcases bp j i with fF|fF
     ·exact h0 j fF
     ·have:j=i:=by omega
      subst this
      rw[YA yA,YA hlw,he]
    exact VA.kround (p:=ZFJ) (k:=0) kQ kA rfl ZF kS kV hR kL
   ·have hd2:(v[i] != w[i])=true:=by simp[he]
    have zG:decide (v=w)=false:=by
     rw[lz];intro h;subst h;exact he rfl
    simp (disch:=first|decide|omega) only[hA,iA,eI,hd2,go_sem]
    exact ZA (xs:=[.v (.bool false)]) ⟨by rw[zG];rfl,rfl,rfl⟩
  ·simp (disch:=first|decide|omega) only[hA,iA,go_sem]
   obtain rfl:i=v.length:=by omega
   have he:decide (v=w)=true:=ae (Y4 hl h0)
   exact ZA (xs:=[.v (.bool true)]) ⟨by rw[he];rfl,rfl,rfl⟩
 ·have hd:((v.length:Int) != (w.length:Int))=true:=by simp;omega
  have zG:decide (v=w)=false:=by
   rw[lz];intro h;subst h;exact hl rfl
  simp (disch:=first|decide|omega) only[a_Eq1,hA,hd,go_sem]
  exact ZA (xs:=[.v (.bool false)]) ⟨by rw[zG];rfl,rfl,rfl⟩
def a_wproc:AFunc:=({c:=_}:CF Tryz.prog 66).c
theorem R7:qA Tryz.prog 66=some a_wproc:=by kernel_rfl
def C1:List (Nat×Nat):=[(4,4),(7,8),(43,57)]

theorem K9 {t:Tr} (h:Vok t) {p:Nat} (hp:p<t.length):OkA t[p]:=by
 intro e he a ha
 obtain⟨i,hi,rfl⟩:=cq he
 obtain⟨j,hj,rfl⟩:=cq ha
 have hx:(p,i+1)∈ids t:=jE.2 ⟨hp,by rw[ME hp];exact hi⟩
 have hf:=h.form _ hx
 have jP:=VG hp hi
 unfold lC at hf
 rw[jP]at hf
 split at hf
 ·cases hf
 split at hf
 ·cases hf
 split at hf
 ·cases hf
 have h1:=LG.1 hf j hj
 unfold kJ at h1
 rw[ZB AU _ hj,ZB dfPr t hp]at h1
 split at h1
 ·cases h1
 rename_i h2
 simp only[Bool.not_eq_true,kp,Bool.not_eq_false']at h2
 have h3:=h2.1
 unfold inB at h3
 simp at h3
 omega
theorem V9 {t:Tr} (h:Small t) {p:Nat} (hp:p<t.length):PrS t[p]:=⟨h.nv _ (ak hp),h.ne _ (ak hp),h.na _ (ak hp)⟩
theorem nI {t:Tr} {p:Nat} (hp:p<t.length):(t.map ePr)[p]? = some [.str t[p].name,.isl 2 (t[p].vars.map eVr),.isl 5 (t[p].evs.map eEv)]:=by
 rw[an,ah hp];rfl
theorem VZ (t:Tr) (FY:aD t=true) (hS:Small t) (hN:Nm t) (p k:Nat) (hp:p<t.length) (hk:k≤t[p].evs.length) (b l:List Row):QA Tryz.prog 32 [.agg [.v (.isl 3 (t.map ePr))],.v (.int .i64 p),.v (.int .i64 k)] b l (fun r b' l'=>r=.tup [.v (.isl 1 ((stV t[p] k).map eI)),.v (.int .i64 0)]∧b'=b∧l'=l):=by
 refine XA CZ rfl kE ?_
 intro B g hB hR hE hA;simp only[KA]at hA
 have cV:=fun b l=>iS t hS hN b l
 rw[FY]at cV
 simp only[eT]at cV
 have zG:=hS.ne _ (ak hp)
 have RU:=hS.np
 have KJ:=nI hp
 have d1:decide ((p:Int)<0)=false:=ag oM
 have d2:decide ((p:Int)≥(t.length:Int))=false:=ag oM
 have d2':decide ((t.length:Int)≤(p:Int))=false:=d2
 have d3:decide ((k:Int)<0)=false:=ag oM
 have d4:decide ((k:Int)>(t[p].evs.length:Int))=false:=ag oM
 have d4':decide ((t[p].evs.length:Int)<(k:Int))=false:=d4
 simp (disch:=first|decide|omega) only[a_vState,hA,go_sem]
 refine QA.nxt (cV _ _) ?_
 simp (disch:=first|decide|omega) only[hA,KJ,d1,d2,d2',d3,d4,d4',aa,go_sem]
 refine QA.nxt (JZ t[p] (V9 hS hp) (K9 (vok FY) hp) k hk _ _) ?_
 simp (disch:=first|decide|omega) only[hA,go_sem]
 exact ZA (xs:=[.v (.isl 1 ((stV t[p] k).map eI)),.v (.int .i64 0)])
abbrev zWA (x:Wd):List AV:=[.v (.isl 6 (x.sv.map eSv)),.v (.int .i64 x.net.now),.v (.bool x.net.fifo),.v (.isl 4 (x.net.l.map eMs)),.v (.isl 1 (x.net.tm.map eI)),.v (.isl 2 (x.net.fates.map eFt)),.v (.int .i64 x.now),.v (.int .i64 x.sent),.v (.isl 3 (x.tr.map ePr))]
theorem H5 (w:Wd) (FY:aD w.tr=true) (hS:Small w.tr) (hN:Nm w.tr) (mJ:SvsS w.sv) (p:Nat) (hp:p<w.tr.length) (hps:p<w.sv.length) (h8:w.sv[p].vars.length≤8) (b l:List Row):QA Tryz.prog 66 [.agg ((eWd w).map .v),.v (.int .i64 p)] b l (fun r b' l'=>r=.v (.bool (xI w.tr[p] w.sv[p] w.now))∧b'=b∧l'=l):=by
 refine XA R7 rfl kE ?_
 intro B g hB hR hE hA;simp only[KA]at hA
 obtain⟨x,hx⟩:∃x,w.tr[p]=x:=⟨_,rfl⟩
 obtain⟨s,hs⟩:∃s,w.sv[p]=s:=⟨_,rfl⟩
 have KJ:=nI hp
 have pK:=UG hps
 rw[hx]at KJ
 rw[hs]at pK h8
 rw[hx,hs]
 have N8:PrS x:=hx▸V9 hS hp
 have hxo:OkA x:=hx▸K9 (vok FY) hp
 have hnv:=N8.nv
 have zG:=N8.ne
 have jU:=mJ.len
 have RU:=hS.np
 have cS:=fun b l=>VZ w.tr FY hS hN p x.evs.length hp (by rw[hx];exact ai _) b l
 rw[hx,show stV x x.evs.length=iM x from rfl]at cS
 have hfv:(iM x).length=x.vars.length:=tG _
 have hbn:(x.name != s.name)=!(x.name==s.name):=rfl
 cases t1:(x.name==s.name)
 ·simp (disch:=first|decide|omega) only[a_wproc,hA,eWd,KJ,pK,hbn,t1,aa,go_sem]
  exact ZA (xs:=[.v (.bool false)]) ⟨by unfold xI;rw[t1];rfl,rfl,rfl⟩
 by_cases t2:x.vars.length=s.vars.length
 case neg =>
  have d2:((x.vars.length:Int) != (s.vars.length:Int))=true:=by simp;omega
  simp (disch:=first|decide|omega) only[a_wproc,hA,eWd,KJ,pK,hbn,t1,d2,aa,go_sem]
  exact ZA (xs:=[.v (.bool false)]) ⟨by unfold xI;rw[t1,ag t2];rfl,rfl,rfl⟩
 have d2:((x.vars.length:Int) != (s.vars.length:Int))=false:=by simp;omega
 have hwl:(sN s.vars).length=s.vars.length:=dI
 simp (disch:=first|decide|omega) only[a_wproc,hA,eWd,KJ,pK,hbn,t1,d2,aa,go_sem]
 refine QA.nxt (yS s.vars h8 _ _) ?_
 simp (disch:=first|decide|omega) only[hA,hwl,aa,go_sem]
 refine JA (ι:=Nat) C1 (fun i=>[(43,.v (.int .i64 i))]) 3 (fun _=>[.live 0 9 [(zWA w)],xG s,rK x])
  (fun i=>i≤s.vars.length∧∀j,j<i→((x.vars.getD j CO).name==zH j)=true) (fun i=>s.vars.length-i) 0 ⟨aj _,fun j hj=>by omega⟩ kM kA kF ?_
 rintro g1 ZF bE iA i ⟨hi,h0⟩
 unfold xG rK
 by_cases yA:i<s.vars.length
 ·have hgw:((sN s.vars).map eVr)[i]? = some [.str (zH i),.int .i64 (s.vars.getD i 0)]:=by
   rw[an]
   unfold sN
   rw[FB yA];rfl
  have hlx:i<x.vars.length:=by omega
  have SU:=YS hlx
  have hgn:(x.vars.getD i CO).name=x.vars[i].name:=by rw[YA hlx]
  have hb:(x.vars[i].name != zH i)=!(x.vars[i].name==zH i):=rfl
  cases t3:(x.vars[i].name==zH i)
  ·simp (disch:=first|decide|omega) only[hA,iA,hgw,SU,hb,t3,hwl,aa,go_sem]
   exact ZA (xs:=[.v (.bool false)]) ⟨by unfold xI;rw[t1,ae t2,show IY x s.vars.length=false from ep.2 ⟨i,ay.2 yA,by rw[hgn,t3];simp⟩];rfl,rfl,rfl⟩
  ·simp (disch:=first|decide|omega) only[hA,iA,hgw,SU,hb,t3,hwl,aa,go_sem]
   refine⟨i+1,⟨yA,fun j hj=>?_⟩,by simp only;omega,?_⟩
   ·rcases bp j i with fF|fF
    ·exact h0 j fF
    ·obtain rfl:j=i:=by omega
     rw[hgn];exact t3
   ·exact VA.kround (p:=C1) (k:=3) kQ kA rfl ZF kS kV hR kL
 obtain rfl:i=s.vars.length:=by omega
 have t3:IY x s.vars.length=true:=by
  unfold IY
  rw[bl]
  exact fun j hj=>h0 j (ay.1 hj)
 simp (disch:=first|decide|omega) only[hA,iA,hwl,aa,go_sem]
 refine QA.nxt (cS _ _) ?_
 simp (disch:=first|decide|omega) only[hA,iA,hwl,aa,go_sem]
 refine QA.nxt (zQ _ _ _ _ s w.now _ _ (.inl ⟨_,rfl⟩)) ?_
 simp (disch:=first|decide|omega) only[hA,iA,hwl,aa,go_sem]
 refine QA.nxt (lO (iM x) s.vars oM _ _) ?_
 by_cases t4:iM x=s.vars
 ·have d4:=ae t4
  have hr:xI x s w.now=ZV x (CH s w.now):=by unfold xI;rw[t1,ae t2,t3,d4];rfl
  rw[hr]
  by_cases hz:x.evs.length=0
  ·have dz:((x.evs.length:Int)==0)=true:=by rw[hz];rfl
   simp (disch:=first|decide|omega) only[hA,iA,d4,dz,aa,go_sem]
   exact ZA (xs:=[.v (.bool true)]) ⟨by unfold ZV;rw[ae (.inl hz)];rfl,rfl,rfl⟩
  ·have dz:((x.evs.length:Int)==0)=false:=dt.2 oM
   have yA:x.evs.length-1<x.evs.length:=by omega
   have yH:=KH yA
   have II:(x.evs.length:Int)-1=((x.evs.length-1:Nat):Int):=by omega
   simp (disch:=first|decide|omega) only[hA,iA,d4,dz,II,yH,aa,go_sem]
   exact ZA (xs:=[.v (.bool (decide (x.evs[x.evs.length-1].time≤CH s w.now)))]) ⟨by unfold ZV;rw[YA yA];simp[hz,one],rfl,rfl⟩
 ·have d4:=ag t4
  simp (disch:=first|decide|omega) only[hA,iA,d4,aa,go_sem]
  exact ZA (xs:=[.v (.bool false)]) ⟨by unfold xI;rw[d4];simp[one],rfl,rfl⟩
theorem IS {s:ByteArray} (h:lD s=true):s.size≤16:=by
 unfold lD zY at h
 simp only[ar,bc]at h
 have:=h.1.1.2
 rwa [ft]at this
theorem bN {t:Tr} {p:Nat} (hp:p<t.length) (h:EC t p=0):lD t[p].name=true∧t[p].vars.length≤8∧(∀v∈t[p].vars,lD v.name=true)∧t[p].evs.length≤64:=by
 have h64:=yK hp h
 unfold EC at h
 rw[YA hp]at h
 split at h
 ·exact absurd h kE
 rename_i c1
 split at h
 ·exact absurd h kE
 rename_i c2
 split at h
 ·rename_i c3;exact absurd h c3
 rename_i c3
 have c3:dB (zN t[p].vars) t[p].vars.length=0:=Classical.not_not.1 c3
 refine⟨?_,by omega,fun v hv=>?_,h64⟩
 ·cases hn:lD t[p].name with
  |true=>rfl
  |false=>rw[hn]at c1;simp at c1
 ·obtain⟨i,hi,rfl⟩:=cq hv
  have:=LG.1 c3 i hi
  unfold zN at this
  rw[YA hi]at this
  cases hn:lD t[p].vars[i].name with
  |true=>rfl
  |false=>rw[hn]at this;simp at this
theorem Vok.small {t:Tr} (h:Vok t):Small t:=by
 have hi:=h.hi
 refine⟨by omega,fun x hx=>?_,fun x hx=>?_,fun x hx e he=>?_⟩
 ·obtain⟨p,hp,rfl⟩:=cq hx
  have:=(bN hp (h.head p hp)).2.1;omega
 ·obtain⟨p,hp,rfl⟩:=cq hx
  have:=(bN hp (h.head p hp)).2.2.2;omega
 ·obtain⟨p,hp,rfl⟩:=cq hx
  obtain⟨i,hi,rfl⟩:=ZEG hp (by rw[ME hp];exact he)
  have:=(yW.1 (h.form _ hi)).2.2.2.1
  omega
theorem Vok.nm {t:Tr} (h:Vok t):Nm t:=fun x hx=>by
 obtain⟨p,hp,rfl⟩:=cq hx
 obtain⟨h1,_,h3,_⟩:=bN hp (h.head p hp)
 have g:∀s:ByteArray,lD s=true→s.size≤maxLen:=fun s hs=>dq (IS hs) (by unfold maxLen;decide)
 exact⟨g _ h1,fun v hv=>g _ (h3 v hv)⟩
def a_wValid:AFunc:=({c:=_}:CF Tryz.prog 22).c
theorem PZ:qA Tryz.prog 22=some a_wValid:=by kernel_rfl
def aV:List (Nat×Nat):=[(2,5),(7,7),(52,79)]
def wP:List (Nat×Nat):=[(2,3),(7,7),(64,78)]
def a_wValid1:AFunc:=({c:=_}:CF Tryz.prog 68).c
theorem gX:qA Tryz.prog 68=some a_wValid1:=by kernel_rfl

theorem zT:qA Tryz.prog 67=some (WH 126):=by kernel_rfl
theorem KT:qA Tryz.prog 126=some (wK 4):=by kernel_rfl
def nSd (l:List Ev):Nat→Nat
 |0=>0
 |i+1=>if (l.getD i SI).kind=2 then nSd l i+1 else nSd l i
theorem tY (l:List Ev):∀i,nSd l i≤i
 |0=>ai _
 |i+1=>by have:=tY l i;simp only[nSd];split<;>omega
def cSd (t:Tr):Nat→Nat
 |0=>0
 |p+1=>cSd t p+nSd (sA t p) (sA t p).length
theorem mY {t:Tr} (h:∀x∈t,x.evs.length≤64):∀p,p≤t.length→cSd t p≤64*p
 |0,_=>ai _
 |p+1,hp=>by
   have:=mY h p oM
   have h1:=tY (sA t p) (sA t p).length
   have h2:=h t[p] (ak oM)
   rw[ME (show p<t.length by omega)]at h1
   simp only[cSd]
   rw[ME (show p<t.length by omega)]
   omega
def sOk (l:List Ev) (sent:Int) (i:Nat):Bool:=!((l.getD i SI).kind==2)||decide ((l.getD i SI).msg<sent)
noncomputable def mgB (t:Tr) (m:Ms):Bool:=decide (m.body.length=1)&&(decide (0<(ZC t 2 m.nu).2)&&(decide (((ZC t 2 m.nu).1:Int)=m.fr)&&decide ((uA t (ZC t 2 m.nu)).peer=m.to)))
def prB (w:Wd) (p:Nat):Bool:=xI (w.tr.getD p dfPr) (w.sv.getD p dfSv) w.now&&(List.range (sA w.tr p).length).all (sOk (sA w.tr p) w.sent)
noncomputable def wdB (w:Wd):Bool:=SF w.sv&&(inZ w.now 0 1000000000&&(nwB w.net&&(decide (w.net.now=w.now)&&(aD w.tr&&(decide (w.tr.length=w.sv.length)&&((List.range w.tr.length).all (prB w)&&(decide ((cSd w.tr w.tr.length:Int)=w.sent)&&w.net.l.all (mgB w.tr))))))))
theorem mO {t:Tr} {kd m:Int} (h:0<(ZC t kd m).2):∃p i,ZC t kd m=(p,i+1)∧∃hp:p<t.length,i<t[p].evs.length:=by
 unfold ZC at h⊢
 split at h
 case isFalse=>simp at h
 rename_i hv
 rw[if_pos hv]
 unfold GB jA at h⊢
 cases hf:(ids t).find? (ED t kd m) with
 |none=>rw[hf]at h;simp at h
 |some x =>
   obtain⟨p,j⟩:=x
   have hm:=fk hf
   obtain⟨hp,h1,h2⟩:=CC.1 hm
   simp only at hp h1 h2
   obtain⟨i,rfl⟩:∃i,j=i+1:=⟨j-1,by omega⟩
   exact⟨p,i,rfl,hp,by omega⟩
theorem EW (w:Wd) (hS:Small w.tr) (hN:Nm w.tr) (m:Ms) (hm:m.body.length≤1000000) (id:Nat) (b l:List Row) (hg:hget b l id=some (.live 0 9 [(eWd w).map .v])):QA Tryz.prog 68 [.agg ((eMs m).map .v),.ptr id 0 0 0] b l (fun r b' l'=>r=.v (.bool (!mgB w.tr m))∧b'=b∧l'=l):=by
 refine XA gX rfl kE ?_
 intro B g hB hR hE hA;simp only[KA]at hA
 have g0:∀l',hget B l' id=some (.live 0 9 [(eWd w).map .v]):=fun l'=>by
  rw[AC]at hg
  rw[AC,aw (by rw[hB];exact (am.1 hg).1),hB];exact hg
 unfold eWd at g0
 simp only[bh,cd]at g0
 have cS:=fun b l=>KZ w.tr hS hN b l m.nu
 simp only[eT,idA]at cS
 have wJ:((m.body.length:Int) != 1)=!decide (m.body.length=1):=by
  by_cases h:m.body.length=1<;>simp[h]
  omega
 simp (disch:=first|decide|omega) only[a_wValid1,hA,g0,eMs,aa,go_sem]
 refine QA.nxt (cS _ _) ?_
 by_cases t1:m.body.length=1
 case neg =>
  have d1:((m.body.length:Int) != 1)=true:=by simp;omega
  simp (disch:=first|decide|omega) only[hA,g0,d1,aa,go_sem]
  exact ZA (xs:=[.v (.bool true)]) ⟨by simp[mgB,t1,one],rfl,rfl⟩
 have d1:((m.body.length:Int) != 1)=false:=by simp;omega
 by_cases t2:0<(ZC w.tr 2 m.nu).2
 case neg =>
  have d2:decide (0<(ZC w.tr 2 m.nu).2)=false:=ag t2
  simp (disch:=first|decide|omega) only[hA,g0,d1,d2,aa,go_sem]
  exact ZA (xs:=[.v (.bool true)]) ⟨by simp[mgB,t2,one],rfl,rfl⟩
 have d2:decide (0<(ZC w.tr 2 m.nu).2)=true:=ae t2
 obtain⟨p,i,hpi,hp,hi⟩:=mO t2
 have KJ:=nI hp
 have yH:=KH hi
 have jP:=VG hp hi
 have zG:=hS.ne _ (ak hp)
 have RU:=hS.np
 have QZ:mgB w.tr m=(decide ((p:Int)=m.fr)&&decide (w.tr[p].evs[i].peer=m.to)):=by unfold mgB;rw[ae t1,d2,hpi,jP];rfl
 rw[QZ]
 rw[hpi]at d2
 have rV:((i+1:Nat):Int)-1=(i:Int):=by omega
 by_cases t3:(p:Int)=m.fr
 case neg =>
  have d3:((p:Int) != m.fr)=true:=by simpa using t3
  simp (disch:=first|decide|omega) only[hA,g0,d1,d2,hpi,d3,aa,go_sem]
  exact ZA (xs:=[.v (.bool true)]) ⟨by simp[t3,one],rfl,rfl⟩
 have d3:((p:Int) != m.fr)=false:=by simpa using t3
 have d4:(w.tr[p].evs[i].peer != m.to)=!decide (w.tr[p].evs[i].peer=m.to):=by
  by_cases h:w.tr[p].evs[i].peer=m.to<;>simp[h]
 simp (disch:=first|decide|omega) only[hA,g0,d1,d2,hpi,d3,KJ,yH,rV,d4,aa,go_sem]
 exact ZA (xs:=[.v (.bool (!decide (w.tr[p].evs[i].peer=m.to)))]) ⟨by simp[t3,one],rfl,rfl⟩
theorem ZEs {w:Wd} {p:Nat} (hp:p<w.tr.length) (h:prB w p=false):wdB w=false:=by
 have:(List.range w.tr.length).all (prB w)=false:=ep.2 ⟨p,ay.2 hp,by rw[h];simp⟩
 unfold wdB
 rw[this];simp
theorem sF (w:Wd) (hS0:Sm w.tr) (hN:Nm w.tr) (mJ:SvsS w.sv) (sV:NwS w.net) (b l:List Row):QA Tryz.prog 22 [.agg ((eWd w).map .v)] b l (fun r b' l'=>r=.v (.bool (wdB w))∧b'=b∧l'=l):=by
 refine XA PZ rfl kE ?_
 intro B g hB hR hE hA;simp only[KA]at hA
 have cV:=fun b l=>gG w.net b l
 have cT:=fun b l=>qQ w.tr hS0 hN b l
 simp only[eNw,eT,bh,cd]at cV cT
 have RU:=hS0.np
 have jU:=mJ.len
 simp (disch:=first|decide|omega) only[a_wValid,hA,eWd,cellsOf,go_sem]
 refine QA.nxt (PL w.sv mJ _ _) ?_
 cases t1:SF w.sv
 ·simp (disch:=first|decide|omega) only[hA,go_sem]
  exact ZA (xs:=[.v (.bool false)]) ⟨by unfold wdB;rw[t1];rfl,rfl,rfl⟩
 simp (disch:=first|decide|omega) only[hA,go_sem]
 refine QA.nxt (ZD _ _ _ _ _) ?_
 cases t2:inZ w.now 0 1000000000
 ·simp (disch:=first|decide|omega) only[hA,go_sem]
  exact ZA (xs:=[.v (.bool false)]) ⟨by unfold wdB;rw[t1,t2];rfl,rfl,rfl⟩
 simp (disch:=first|decide|omega) only[hA,go_sem]
 refine QA.nxt (cV _ _) ?_
 cases t3:nwB w.net
 ·simp (disch:=first|decide|omega) only[hA,go_sem]
  exact ZA (xs:=[.v (.bool false)]) ⟨by unfold wdB;rw[t1,t2,t3];rfl,rfl,rfl⟩
 by_cases t4:w.net.now=w.now
 case neg =>
  have d4:(w.net.now != w.now)=true:=by simpa using t4
  simp (disch:=first|decide|omega) only[hA,d4,go_sem]
  exact ZA (xs:=[.v (.bool false)]) ⟨by unfold wdB;rw[t1,t2,t3,ag t4];rfl,rfl,rfl⟩
 have d4:(w.net.now != w.now)=false:=by simpa using t4
 simp (disch:=first|decide|omega) only[hA,d4,go_sem]
 refine QA.nxt (cT _ _) ?_
 cases t5:aD w.tr
 ·simp (disch:=first|decide|omega) only[hA,go_sem]
  exact ZA (xs:=[.v (.bool false)]) ⟨by unfold wdB;rw[t1,t2,t3,ae t4,t5];rfl,rfl,rfl⟩
 by_cases t6:w.tr.length=w.sv.length
 case neg =>
  have d6:((w.tr.length:Int) != (w.sv.length:Int))=true:=by simp;omega
  simp (disch:=first|decide|omega) only[hA,d6,aa,go_sem]
  exact ZA (xs:=[.v (.bool false)]) ⟨by unfold wdB;rw[t1,t2,t3,ae t4,t5,ag t6];rfl,rfl,rfl⟩
 have d6:((w.tr.length:Int) != (w.sv.length:Int))=false:=by simp;omega
 have hvk:=vok t5
 have hS:=hvk.small
 have h64:∀x∈w.tr,x.evs.length≤64:=fun x hx=>by
  obtain⟨p,hp,rfl⟩:=cq hx
  have hh:=hvk.head p hp
  unfold EC at hh
  rw[ZB dfPr w.tr hp]at hh
  split at hh
  ·cases hh
  split at hh
  ·cases hh
  split at hh
  ·rename_i hc;exact absurd hh hc
  split at hh
  ·cases hh
  ·omega
 have h8:∀p (h:p<w.sv.length),w.sv[p].vars.length≤8:=fun p hp=>by
  unfold SF at t1
  rw[ar,bl]at t1
  have:=t1.2 p (ay.2 hp)
  unfold svB sv1 at this
  rw[YA hp]at this
  simp only[ar,bc]at this
  exact this.1.2.2.1
 have bM:=mY h64
 have ZLw:=hvk.hi
 simp (disch:=first|decide|omega) only[hA,d6,aa,go_sem]
 refine JA (ι:=Nat) aV (fun p=>[(3,.v (.int .i64 (cSd w.tr p))),(52,.v (.int .i64 p))]) 1 (fun _=>[.live 0 9 [(eWd w).map .v]])
  (fun p=>p≤w.tr.length∧∀j,j<p→prB w j=true) (fun p=>w.tr.length-p) 0 ⟨aj _,fun j hj=>by omega⟩ kM kA kF ?_
 rintro g1 ZF bE iA p ⟨hp,h0⟩
 have MJ:(eWd w).map AV.v=(zWA w):=rfl
 rw[MJ]
 by_cases yA:p<w.tr.length
 case neg =>
  obtain rfl:p=w.tr.length:=by omega
  have wF:(List.range w.tr.length).all (prB w)=true:=bl.2 fun j hj=>h0 j (ay.1 hj)
  have hr:wdB w=(decide ((cSd w.tr w.tr.length:Int)=w.sent)&&w.net.l.all (mgB w.tr)):=by
   unfold wdB;rw[t1,t2,t3,ae t4,t5,ae t6,wF];rfl
  rw[hr]
  by_cases t7:(cSd w.tr w.tr.length:Int)=w.sent
  case neg =>
   have d7:((cSd w.tr w.tr.length:Int)==w.sent)=false:=by simpa using t7
   simp (disch:=first|decide|omega) only[hA,iA,d7,aa,go_sem]
   exact ZA (xs:=[.v (.bool false)]) ⟨by rw[ag t7];rfl,rfl,rfl⟩
  have d7:((cSd w.tr w.tr.length:Int)==w.sent)=true:=by simpa using t7
  have cC:=KD zT KT (w.net.l.map eMs) 68 [.ptr B.length 0 0 0] (fun j=>!mgB w.tr (w.net.l.getD j dfMs)) (fun row h=>by obtain⟨m,_,rfl⟩:=co.1 h;rfl) (by rw[aa];exact sV.l) B [.live 0 9 [(eWd w).map .v]] (fun j row hj=>by
   have yG:j<w.net.l.length:=by have:=(am.1 hj).1;rwa [aa]at this
   rw[an,ah yG]at hj
   cases hj
   simp only[YA yG]
   exact EW w hS hN _ (sV.body _ (ak yG)) B.length _ _ (by rw[AC,cu,aq (ai _),ea];rfl))
  rw[aa,fG (p:=fun m=>!mgB w.tr m),pF,MJ]at cC
  simp (disch:=first|decide|omega) only[hA,iA,d7,aa,go_sem]
  refine QA.nxt cC ?_
  simp (disch:=first|decide|omega) only[hA,iA,kj,go_sem]
  exact ZA (xs:=[.v (.bool (w.net.l.all (mgB w.tr)))]) ⟨by rw[ae t7];rfl,rfl,rfl⟩
 have hps:p<w.sv.length:=by omega
 obtain⟨x,hx⟩:∃x,w.tr[p]=x:=⟨_,rfl⟩
 have KJ:=nI yA
 rw[hx]at KJ
 have hxe:sA w.tr p=x.evs:=by rw[ME yA,hx]
 have ZNO:=h64 x (by rw[←hx];exact ak yA)
 have cP:=fun b l=>H5 w t5 hS hN mJ p yA hps (h8 p hps) b l
 rw[MJ]at cP
 have hpr:prB w p=(xI w.tr[p] w.sv[p] w.now&&(List.range x.evs.length).all (sOk x.evs w.sent)):=by unfold prB;rw[YA yA,YA hps,hxe]
 have bad:prB w p=false→AV.v (.bool (wdB w))=.v (.bool false):=fun h=>by rw[ZEs yA h]
 have hcp:=bM p hp
 simp (disch:=first|decide|omega) only[hA,iA,KJ,aa,go_sem]
 refine QA.nxt (cP _ _) ?_
 cases t7:xI w.tr[p] w.sv[p] w.now
 ·simp (disch:=first|decide|omega) only[hA,iA,go_sem]
  exact ZA (xs:=[.v (.bool false)]) ⟨by rw[bad (by rw[hpr,t7];rfl)];rfl,rfl,rfl⟩
 simp (disch:=first|decide|omega) only[hA,iA,aa,go_sem]
 refine JA (ι:=Nat) wP (fun i=>[(3,.v (.int .i64 ((cSd w.tr p+nSd x.evs i:Nat):Int))),(64,.v (.int .i64 i))]) 2 (fun _=>[.live 0 9 [(eWd w).map .v],rK x])
  (fun i=>i≤x.evs.length∧∀j,j<i→sOk x.evs w.sent j=true) (fun i=>x.evs.length-i) 0 ⟨aj _,fun j hj=>by omega⟩ kM kA kF ?_
 rintro g2 IJ ZO GD i ⟨hi,h02⟩
 rw[MJ]
 unfold rK
 by_cases hli:i<x.evs.length
 ·have yH:=KH hli
  have UJ:x.evs.getD i SI=x.evs[i]:=YA hli
  have hns:=tY x.evs i
  have hcn:((cSd w.tr p+nSd x.evs i:Nat):Int)+1=((cSd w.tr p+(nSd x.evs i+1):Nat):Int):=by omega
  by_cases hk:x.evs[i].kind=2
  ·have dk:(x.evs[i].kind != 2)=false:=by rw[hk];rfl
   have L8:nSd x.evs (i+1)=nSd x.evs i+1:=by simp only[nSd];rw[UJ,if_pos hk]
   by_cases hm:x.evs[i].msg<w.sent
   ·have dm:decide (x.evs[i].msg≥w.sent)=false:=ag oM
    have dm':decide (w.sent≤x.evs[i].msg)=false:=dm
    simp (disch:=first|decide|omega) only[hA,iA,GD,yH,dk,dm,dm',hcn,aa,go_sem]
    refine⟨i+1,⟨hli,fun j hj=>?_⟩,by simp only;omega,?_⟩
    ·rcases bp j i with fF|fF
     ·exact h02 j fF
     ·obtain rfl:j=i:=by omega
      unfold sOk;rw[UJ,ae hm];simp
    ·simp only[L8,MJ]
     exact VA.kround (p:=wP) (k:=2) kQ kA rfl IJ kS kV hR kL
   ·have dm:decide (x.evs[i].msg≥w.sent)=true:=ae oM
    have dm':decide (w.sent≤x.evs[i].msg)=true:=dm
    simp (disch:=first|decide|omega) only[hA,iA,GD,yH,dk,dm,dm',aa,go_sem]
    exact ZA (xs:=[.v (.bool false)]) ⟨by rw[bad (by rw[hpr,show (List.range x.evs.length).all (sOk x.evs w.sent)=false from ep.2 ⟨i,ay.2 hli,by unfold sOk;rw[UJ,hk,ag hm];simp⟩,Bool.and_false])];rfl,rfl,rfl⟩
  ·have dk:(x.evs[i].kind != 2)=true:=by simpa using hk
   have dk2:(x.evs[i].kind==2)=false:=by simpa using hk
   have L8:nSd x.evs (i+1)=nSd x.evs i:=by simp only[nSd];rw[UJ,if_neg hk]
   simp (disch:=first|decide|omega) only[hA,iA,GD,yH,dk,aa,go_sem]
   refine⟨i+1,⟨hli,fun j hj=>?_⟩,by simp only;omega,?_⟩
   ·rcases bp j i with fF|fF
    ·exact h02 j fF
    ·obtain rfl:j=i:=by omega
     unfold sOk;rw[UJ,dk2];rfl
   ·simp only[L8,MJ]
    exact VA.kround (p:=wP) (k:=2) kQ kA rfl IJ kS kV hR kL
 ·obtain rfl:i=x.evs.length:=by omega
  have ZJ:prB w p=true:=by rw[hpr,t7,bl.2 fun j hj=>h02 j (ay.1 hj)];rfl
  have EY:cSd w.tr (p+1)=cSd w.tr p+nSd x.evs x.evs.length:=by simp only[cSd];rw[hxe]
  simp (disch:=first|decide|omega) only[hA,iA,GD,aa,go_sem]
  refine⟨p+1,⟨yA,fun j hj=>?_⟩,by simp only;omega,?_⟩
  ·rcases bp j p with fF|fF
   ·exact h0 j fF
   ·obtain rfl:j=p:=by omega
    exact ZJ
  ·simp only[MJ,EY]
   exact VA.kround (p:=aV) (k:=1) kQ kA rfl ZF kS kV hR kL
def a_rHead:AFunc:=({c:=_}:CF Tryz.prog 149).c
theorem O7:qA Tryz.prog 149=some a_rHead:=by kernel_rfl
def U2:List (Nat×Nat):=[(4,4),(6,6),(18,31)]
def V2:List (Nat×Nat):=[(4,4),(7,8),(36,76)]
def J2:List (Nat×Nat):=[(4,4),(8,8),(51,68)]
def a_rVal12:AFunc:=({c:=_}:CF Tryz.prog 177).c
theorem Z0:qA Tryz.prog 177=some a_rVal12:=by kernel_rfl

theorem LP {α:Type} {f:α→Bool} {l:List α} {k:Nat} (hk:k<l.length) (h:(l.take k).any f=false) (h2:f l[k]=false):(l.take (k+1)).any f=false:=by
 rw[jh hk,lw,h];simp[h2]
theorem OT {α:Type} {f:α→Bool} {l:List α} {k n:Nat} (hk:k<l.length) (hkn:k<n) (h2:f l[k]=true):(l.take n).any f=true:=by
 rw[fe]
 exact⟨l[k],lm.2 ⟨k,by omega,rfl⟩,h2⟩
theorem pG {t:Tr} {p:Nat} (hp:p<t.length):(t.map ePr)[p]? = some [.str t[p].name,.isl 2 (t[p].vars.map eVr),.isl 5 (t[p].evs.map eEv)]:=by
 rw[an,ah hp];rfl
theorem ZA6 {l:List Vr} {i:Nat} (h:i<l.length):(l.map eVr)[i]? = some [.str l[i].name,.int .i64 l[i].init]:=by
 rw[an,ah h];rfl
theorem uJ (n:Int) (b l:List Row):QA Tryz.prog 177 [.v (.int .i64 n)] b l (fun r b' l'=>r=.v (.bool (ZL n))∧b'=b∧l'=l):=by
 refine XA Z0 rfl kE ?_
 intro B g hB hR hE hA;simp only[KA]at hA
 cases h1:decide (n≥-1073741824)
 ·simp (disch:=first|decide|omega) only[a_rVal12,hA,h1,go_sem]
  exact ZA (xs:=[.v (.bool false)]) ⟨by unfold ZL;rw[show decide (-1073741824≤n)=false from h1];rfl,rfl,rfl⟩
 ·simp (disch:=first|decide|omega) only[a_rVal12,hA,h1,go_sem]
  exact ZA (xs:=[.v (.bool (decide (n≤1073741824)))]) ⟨by unfold ZL;rw[show decide (-1073741824≤n)=true from h1];rfl,rfl,rfl⟩
abbrev zTA (x:Tr):Row:=.live 0 1 [[.v (.isl 3 (x.map ePr))]]
theorem K6 (t:Tr) (hS:Sm t) (hN:Nm t) (p:Nat) (hp:p<t.length) (b l:List Row):QA Tryz.prog 149 [.agg [.v (eT t)],.v (.int .i64 p)] b l (fun r b' l'=>r=.v (.int .i64 (EC t p))∧b'=b∧l'=l):=by
 refine XA O7 rfl kE ?_
 intro B g hB hR hE hA;simp only[KA]at hA
 have R8:=hS.np
 have hnv:=hS.nv _ (ak hp)
 have zG:=hS.ne _ (ak hp)
 have hm:=hN _ (ak hp)
 have HE:=zA (nM t p hp)
 have KJ:=pG hp
 cases hn:lD t[p].name
 ·simp (disch:=first|decide|omega) only[a_rHead,hA,eT,KJ,go_sem]
  refine QA.nxt (cI _ hm.1 _ _) ?_
  rw[hn]
  simp (disch:=first|decide|omega) only[hA,go_sem]
  exact ZA (xs:=[.v (.int .i64 13)]) ⟨by rw[HE.out,hn];rfl,rfl,rfl⟩
 simp (disch:=first|decide|omega) only[a_rHead,hA,eT,KJ,go_sem]
 refine QA.nxt (cI _ hm.1 _ _) ?_
 rw[hn]
 simp (disch:=first|decide|omega) only[hA,go_sem]
 refine JA (ι:=Nat) U2 (fun i=>[(6,.v (.int .i64 i))]) 2 (fun _=>[(zTA t),.live 0 3 [[.v (.str t[p].name),.v (.isl 2 (t[p].vars.map eVr)),.v (.isl 5 (t[p].evs.map eEv))]]])
  (fun i=>i≤p∧((t.take i).any fun y=>y.name.toList==t[p].name.toList)=false) (fun i=>p-i) 0 ⟨aj _,rfl⟩ kM kA kF ?_
 intro g1 ZF bE iA i ⟨hi,hany⟩
 by_cases yA:i<p
 ·have EH:=pG (t:=t) (p:=i) oM
  cases heq:t[i].name==t[p].name
  ·simp (disch:=first|decide|omega) only[hA,iA,EH,heq,go_sem]
   refine⟨i+1,⟨yA,LP oM hany (by rw[←beq_toListBytes];exact heq)⟩,by simp only;omega,?_⟩
   exact VA.kround (p:=U2) (k:=2) kQ kA rfl ZF kS kV hR kL
  ·have HA:=OT (f:=fun y:Pr=>y.name.toList==t[p].name.toList) (n:=p) (show i<t.length by omega) yA (by rw[←beq_toListBytes];exact heq)
   simp (disch:=first|decide|omega) only[hA,iA,EH,heq,go_sem]
   exact ZA (xs:=[.v (.int .i64 13)]) ⟨by rw[HE.out,hn];exact congrArg (fun n:Nat=>AV.v (.int .i64 n)) (if_pos (by rw[gi];exact .inr HA)).symm,rfl,rfl⟩
 obtain rfl:i=p:=by omega
 have HY:=zA hany
 by_cases h8:8<t[i].vars.length
 ·have d8:decide ((t[i].vars.length:Int)>8)=true:=ae oM
  simp (disch:=first|decide|omega) only[hA,iA,d8,go_sem]
  exact ZA (xs:=[.v (.int .i64 5)]) ⟨by rw[HE.out,hn,HY.out,if_neg kE,if_pos h8];rfl,rfl,rfl⟩
 have d8:decide ((t[i].vars.length:Int)>8)=false:=ag oM
 simp (disch:=first|decide|omega) only[hA,iA,d8,go_sem]
 refine JA (ι:=Nat) V2 (fun j=>[(7,.v (.int .i64 j))]) 2 (fun _=>[(zTA t),.live 0 3 [[.v (.str t[i].name),.v (.isl 2 (t[i].vars.map eVr)),.v (.isl 5 (t[i].evs.map eEv))]]])
  (fun j=>j≤t[i].vars.length∧dB (zN t[i].vars) j=0) (fun j=>t[i].vars.length-j) 0 ⟨aj _,rfl⟩ kM kA kF ?_
 intro g2 IJ ZO GD j ⟨hj,hz⟩
 have HZ:=zA hz
 by_cases pJ:j<t[i].vars.length
 ·have hgj:=ZA6 pJ
  have hmv:=hm.2 _ (ak pJ)
  have HV:=zA (ZAA t[i].vars j pJ)
  have c13:zN t[i].vars j=13→EC t i=13:=fun h=>by
   rw[HE.out,hn,HY.out,if_neg kE,if_neg h8,IC (n:=t[i].vars.length) HZ.out (by rw[h];decide) pJ,h];rfl
  cases iV:lD t[i].vars[j].name
  ·have k13:=c13 (by rw[HV.out,iV];rfl)
   simp (disch:=first|decide|omega) only[hA,iA,GD,hgj,aa,go_sem]
   refine QA.nxt (cI _ hmv _ _) ?_
   rw[iV]
   simp (disch:=first|decide|omega) only[hA,iA,GD,go_sem]
   exact ZA (xs:=[.v (.int .i64 13)]) ⟨by rw[k13];rfl,rfl,rfl⟩
  simp (disch:=first|decide|omega) only[hA,iA,GD,hgj,aa,go_sem]
  refine QA.nxt (cI _ hmv _ _) ?_
  rw[iV]
  simp (disch:=first|decide|omega) only[hA,iA,GD,go_sem]
  refine JA (ι:=Nat) J2 (fun q=>[(8,.v (.int .i64 q))]) 2 (fun _=>[(zTA t),.live 0 3 [[.v (.str t[i].name),.v (.isl 2 (t[i].vars.map eVr)),.v (.isl 5 (t[i].evs.map eEv))]]])
   (fun q=>q≤j∧((t[i].vars.take q).any fun y=>y.name.toList==t[i].vars[j].name.toList)=false) (fun q=>j-q) 0 ⟨aj _,rfl⟩ kM kA kF ?_
  intro g3 GW rR AG q ⟨hq,hany2⟩
  by_cases hlq:q<j
  ·have hgq:=ZA6 (l:=t[i].vars) (i:=q) oM
   cases heq:t[i].vars[q].name==t[i].vars[j].name
   ·simp (disch:=first|decide|omega) only[hA,iA,GD,AG,hgj,hgq,heq,go_sem]
    refine⟨q+1,⟨hlq,LP oM hany2 (by rw[←beq_toListBytes];exact heq)⟩,by simp only;omega,?_⟩
    exact VA.kround (p:=J2) (k:=2) kQ kA rfl GW kS kV hR kL
   ·have k13:=c13 (by rw[HV.out,iV,OT (f:=fun y:Vr=>y.name.toList==t[i].vars[j].name.toList) (n:=j) (show q<t[i].vars.length by omega) hlq (by rw[←beq_toListBytes];exact heq)];rfl)
    simp (disch:=first|decide|omega) only[hA,iA,GD,AG,hgj,hgq,heq,go_sem]
    exact ZA (xs:=[.v (.int .i64 13)]) ⟨by rw[k13];rfl,rfl,rfl⟩
  obtain rfl:q=j:=by omega
  cases hv2:ZL t[i].vars[q].init
  ·have k2:EC t i=2:=by
    have h:zN t[i].vars q=2:=by rw[HV.out,iV,hany2,hv2];rfl
    rw[HE.out,hn,HY.out,if_neg kE,if_neg h8,IC (n:=t[i].vars.length) HZ.out (by rw[h];decide) pJ,h];rfl
   simp (disch:=first|decide|omega) only[hA,iA,GD,AG,hgj,go_sem]
   refine QA.nxt (uJ _ _ _) ?_
   rw[hv2]
   simp (disch:=first|decide|omega) only[hA,iA,GD,AG,go_sem]
   exact ZA (xs:=[.v (.int .i64 2)]) ⟨by rw[k2];rfl,rfl,rfl⟩
  ·have k0:zN t[i].vars q=0:=by rw[HV.out,iV,hany2,hv2];rfl
   simp (disch:=first|decide|omega) only[hA,iA,GD,AG,hgj,go_sem]
   refine QA.nxt (uJ _ _ _) ?_
   rw[hv2]
   simp (disch:=first|decide|omega) only[hA,iA,GD,AG,go_sem]
   refine⟨q+1,⟨pJ,FG HZ.out k0⟩,by simp only;omega,?_⟩
   exact VA.kround (p:=V2) (k:=2) kQ kA rfl IJ kS kV hR kL
 obtain rfl:j=t[i].vars.length:=by omega
 by_cases h64:64<t[i].evs.length
 ·have d64:decide ((t[i].evs.length:Int)>64)=true:=ae oM
  simp (disch:=first|decide|omega) only[hA,iA,GD,d64,go_sem]
  exact ZA (xs:=[.v (.int .i64 5)]) ⟨by rw[HE.out,hn,HY.out,if_neg kE,if_neg h8,if_neg (by rw[HZ.out];decide),if_pos h64];rfl,rfl,rfl⟩
 have d64:decide ((t[i].evs.length:Int)>64)=false:=ag oM
 simp (disch:=first|decide|omega) only[hA,iA,GD,d64,go_sem]
 exact ZA (xs:=[.v (.int .i64 0)]) ⟨by rw[HE.out,hn,HY.out,if_neg kE,if_neg h8,if_neg (by rw[HZ.out];decide),if_neg h64];rfl,rfl,rfl⟩
def a_rForm:AFunc:=({c:=_}:CF Tryz.prog 150).c
theorem Z8:qA Tryz.prog 150=some a_rForm:=by kernel_rfl
def I2:List (Nat×Nat):=[(6,6),(8,10),(100,146)]
def G2:List (Nat×Nat):=[(6,6),(10,10),(133,146)]

theorem jL {l:List Ev} {i:Nat} (h:i<l.length):(l.map eEv)[i]? = some [.int .i64 l[i].kind,.int .i64 l[i].peer,.int .i64 l[i].msg,.int .i64 l[i].time,.isl 2 (l[i].asg.map eAsg)]:=by
 rw[an,ah h];rfl
theorem C2 {l:List Asg} {i:Nat} (h:i<l.length):(l.map eAsg)[i]? = some [.int .i64 l[i].v,.int .i64 l[i].val]:=by
 rw[an,ah h];rfl
abbrev zEA (x:Ev):List AV:=[.v (.int .i64 x.kind),.v (.int .i64 x.peer),.v (.int .i64 x.msg),.v (.int .i64 x.time),.v (.isl 2 (x.asg.map eAsg))]
theorem z6 (t:Tr) (hS:Small t) (p i:Nat) (hp:p<t.length) (hi:i<t[p].evs.length) (b l:List Row):QA Tryz.prog 150 [.agg [.v (eT t)],.v (.int .i64 p),.v (.int .i64 i)] b l (fun r b' l'=>r=.v (.int .i64 (lC t (p,i+1)))∧b'=b∧l'=l):=by
 refine XA Z8 rfl kE ?_
 intro B g hB hR hE hA;simp only[KA]at hA
 have R8:=hS.np
 have hnv:=hS.nv _ (ak hp)
 have zG:=hS.ne _ (ak hp)
 have hna:=hS.na _ (ak hp) _ (ak hi)
 have HFE:=zA (ZBz t p i hp hi)
 have KJ:=pG hp
 have yH:=jL hi
 rcases form_ways t.length p t[p].evs[i] with ⟨hf,hw⟩|⟨hf,hw⟩
 ·have HF:lC t (p,i+1)=3:=by rw[HFE.out _ rfl,hf];rfl
  rcases hw with ⟨b0,b1⟩|⟨b0,b1,b2⟩|⟨b0,b1,b2⟩|⟨b0,b1,b2⟩|⟨b0,b1,b2,b3⟩|⟨b0,b1,b2,b3⟩|⟨b0,b1,b2,b3,b4⟩|⟨b0,b1,b2,b3,b4⟩|⟨b0,b1,b2,b3,b4,b5⟩|⟨b0,b1,b2,b3,b4,b5⟩|⟨b0,b1,b2,b3,b4,b5,b6⟩|⟨b0,b1,b2,b3,b4,b5,b6⟩|⟨b0,b1,b2,b3,b4,b5,b6,b7⟩
  all_goals first|(have q:=b2;clear q)|have b2:=trivial
  all_goals first|(have q:=b3;clear q)|have b3:=trivial
  all_goals first|(have q:=b4;clear q)|have b4:=trivial
  all_goals first|(have q:=b5;clear q)|have b5:=trivial
  all_goals first|(have q:=b6;clear q)|have b6:=trivial
  all_goals first|(have q:=b7;clear q)|have b7:=trivial
  all_goals
   simp (disch:=first|decide|omega) only[a_rForm,hA,eT,KJ,yH,ge_iff_le,gt_iff_lt,b0,b1,b2,b3,b4,b5,b6,b7,go_sem]
   exact ZA (xs:=[.v (.int .i64 3)]) ⟨by rw[HF];rfl,rfl,rfl⟩
 have hL:(i=0∧yI t (p,i+1)=0)∨∃(j:Nat) (hj:j<t[p].evs.length),i=j+1∧yI t (p,i+1)=t[p].evs[j].time:=by
  rcases i with _|j
  ·exact .inl ⟨rfl,P6 t p⟩
  ·exact .inr ⟨j,by omega,rfl,ZBp t p j hp oM⟩
 have hF:=fun L hL=>HFE.out L hL
 rw[hf]at hF
 have HF:=zA hF
 generalize hee:t[p].evs[i]=e at *
 have HEE:=zA hee
 clear hee hf hF
 rcases hw with ⟨b0,b1,b2⟩|⟨b0,b1,b2,b3,b4,b5,b6⟩|⟨b0,b1,b2,b3,b4,b5,b6,b7⟩
 all_goals first|(have q:=b3;clear q)|have b3:=trivial
 all_goals first|(have q:=b4;clear q)|have b4:=trivial
 all_goals first|(have q:=b5;clear q)|have b5:=trivial
 all_goals first|(have q:=b6;clear q)|have b6:=trivial
 all_goals first|(have q:=b7;clear q)|have b7:=trivial
 all_goals
  cases dtl:decide (e.time<0)
  rotate_left
  ·simp (disch:=first|decide|omega) only[a_rForm,hA,eT,KJ,yH,ge_iff_le,gt_iff_lt,b0,b1,b2,b3,b4,b5,b6,b7,dtl,go_sem]
   exact ZA (xs:=[.v (.int .i64 11)]) ⟨by rw[HF.out _ rfl,rO,dtl];rfl,rfl,rfl⟩
  cases dtg:decide (1099511627776<e.time)
  rotate_left
  ·simp (disch:=first|decide|omega) only[a_rForm,hA,eT,KJ,yH,ge_iff_le,gt_iff_lt,b0,b1,b2,b3,b4,b5,b6,b7,dtl,dtg,go_sem]
   exact ZA (xs:=[.v (.int .i64 11)]) ⟨by rw[HF.out _ rfl,rO,dtl,dtg];rfl,rfl,rfl⟩
  have hG:∀L,yI t (p,i+1)=L→decide (e.time<L)=false→lC t (p,i+1)=if 8<e.asg.length then 5 else dB (kJ t[p].vars.length e.asg) e.asg.length:=fun L h1 h2=>by
   rw[HF.out _ h1,rO,dtl,dtg,h2];rfl
  have HH:lC t (p,i+1)=(if 8<e.asg.length then 5 else dB (kJ t[p].vars.length e.asg) e.asg.length)∧((i=0)∨∃(j:Nat) (hj:j<t[p].evs.length),i=j+1∧decide (e.time<t[p].evs[j].time)=false)∨(lC t (p,i+1)=11∧∃(j:Nat) (hj:j<t[p].evs.length),i=j+1∧decide (e.time<t[p].evs[j].time)=true):=by
   rcases hL with ⟨h0,hl0⟩|⟨j,hj,h0,hl0⟩
   ·exact .inl ⟨hG _ hl0 (ag (by have:=gv dtl;omega)),.inl h0⟩
   ·cases dtp:decide (e.time<t[p].evs[j].time)
    ·exact .inl ⟨hG _ hl0 dtp,.inr ⟨j,hj,h0,dtp⟩⟩
    ·exact .inr ⟨by rw[HF.out _ hl0,rO,dtl,dtg,dtp];rfl,j,hj,h0,dtp⟩
  clear hG hL
  rcases HH with ⟨hF,hw⟩|⟨hF,j,hj,j5,dtp⟩
  rotate_left
  ·subst j5
   have hgj:=jL hj
   have hj0:decide ((0:Int)<((j+1:Nat):Int))=true:=ae oM
   have hjm:IntKind.i64.wrap (((j+1:Nat):Int)-1)=(j:Int):=by rw[pA oM oM];omega
   simp (disch:=first|decide|omega) only[a_rForm,hA,eT,KJ,yH,hgj,hj0,hjm,dtp,ge_iff_le,gt_iff_lt,b0,b1,b2,b3,b4,b5,b6,b7,dtl,dtg,go_sem]
   exact ZA (xs:=[.v (.int .i64 11)]) ⟨by rw[hF];rfl,rfl,rfl⟩
  have hw:(decide ((0:Int)<(i:Int))=false)∨∃(j:Nat) (hj:j<t[p].evs.length),decide ((0:Int)<(i:Int))=true∧IntKind.i64.wrap ((i:Int)-1)=(j:Int)∧decide (e.time<t[p].evs[j].time)=false:=by
   rcases hw with h0|⟨j,hj,h0,dtp⟩
   ·exact .inl (ag oM)
   ·exact .inr ⟨j,hj,ae oM,by rw[pA oM oM];omega,dtp⟩
  rcases hw with hj0|⟨j,hj,hj0,hjm,dtp⟩
  all_goals first|have hgj:=jL hj|have hgj:=trivial
  all_goals first|(have q:=hjm;clear q)|have hjm:=trivial
  all_goals first|(have q:=dtp;clear q)|have dtp:=trivial
  all_goals
   by_cases h8:8<e.asg.length
   ·have d8:decide (8<(e.asg.length:Int))=true:=ae oM
    simp (disch:=first|decide|omega) only[a_rForm,hA,eT,KJ,yH,hgj,hj0,hjm,dtp,ge_iff_le,gt_iff_lt,b0,b1,b2,b3,b4,b5,b6,b7,dtl,dtg,d8,go_sem]
    exact ZA (xs:=[.v (.int .i64 5)]) ⟨by rw[hF,if_pos h8];rfl,rfl,rfl⟩
   have d8:decide (8<(e.asg.length:Int))=false:=ag oM
   rw[if_neg h8]at hF
   have HR:=zA hF
   simp (disch:=first|decide|omega) only[a_rForm,hA,eT,KJ,yH,hgj,hj0,hjm,dtp,ge_iff_le,gt_iff_lt,b0,b1,b2,b3,b4,b5,b6,b7,dtl,dtg,d8,go_sem]
   refine JA (ι:=Nat) I2 (fun k=>[(8,.v (.int .i64 k))]) 2 (fun _=>[(zTA t),.live 0 5 [(zEA e)]])
    (fun k=>k≤e.asg.length∧dB (kJ t[p].vars.length e.asg) k=0) (fun k=>e.asg.length-k) 0 ⟨aj _,rfl⟩ kM kA kF ?_
   intro g1 ZF bE iA k ⟨hk,hz⟩
   have HZ:=zA hz
   by_cases yA:k<e.asg.length
   ·have hga:=C2 yA
    have HV:=zA (UY t[p].vars.length e.asg k yA)
    have hFk:∀c,kJ t[p].vars.length e.asg k=c→c≠0→lC t (p,i+1)=c:=fun c h h0=>by
     rw[HR.out,IC (n:=e.asg.length) HZ.out (by rw[h];exact h0) yA,h]
    cases dvl:decide (e.asg[k].v<0)
    rotate_left
    ·have HF2:=hFk 2 (by rw[HV.out,NO,dvl];rfl) kE
     simp (disch:=first|decide|omega) only[hA,iA,KJ,hga,ge_iff_le,gt_iff_lt,dvl,go_sem]
     exact ZA (xs:=[.v (.int .i64 2)]) ⟨by rw[HF2];rfl,rfl,rfl⟩
    cases dvg:decide ((t[p].vars.length:Int)≤e.asg[k].v)
    rotate_left
    ·have HF2:=hFk 2 (by rw[HV.out,NO,dvl,dvg];rfl) kE
     simp (disch:=first|decide|omega) only[hA,iA,KJ,hga,ge_iff_le,gt_iff_lt,dvl,dvg,go_sem]
     exact ZA (xs:=[.v (.int .i64 2)]) ⟨by rw[HF2];rfl,rfl,rfl⟩
    cases dvv:ZL e.asg[k].val
    ·have HF2:=hFk 2 (by rw[HV.out,NO,dvl,dvg,dvv];rfl) kE
     simp (disch:=first|decide|omega) only[hA,iA,KJ,hga,ge_iff_le,gt_iff_lt,dvl,dvg,go_sem]
     refine QA.nxt (uJ _ _ _) ?_
     rw[dvv]
     simp (disch:=first|decide|omega) only[hA,iA,KJ,hga,ge_iff_le,gt_iff_lt,dvl,dvg,go_sem]
     exact ZA (xs:=[.v (.int .i64 2)]) ⟨by rw[HF2];rfl,rfl,rfl⟩
    simp (disch:=first|decide|omega) only[hA,iA,KJ,hga,ge_iff_le,gt_iff_lt,dvl,dvg,go_sem]
    refine QA.nxt (uJ _ _ _) ?_
    rw[dvv]
    simp (disch:=first|decide|omega) only[hA,iA,KJ,hga,ge_iff_le,gt_iff_lt,dvl,dvg,go_sem]
    refine JA (ι:=Nat) G2 (fun q=>[(10,.v (.int .i64 q))]) 3 (fun _=>[(zTA t),.live 0 5 [(zEA e)],.live 0 2 [[.v (.int .i64 e.asg[k].v),.v (.int .i64 e.asg[k].val)]]])
     (fun q=>q≤k∧((e.asg.take q).any fun b=>b.v==e.asg[k].v)=false) (fun q=>k-q) 0 ⟨aj _,rfl⟩ kM kA kF ?_
    intro g2 IJ ZO GD q ⟨hq,hany⟩
    by_cases hlq:q<k
    ·have hgq:=C2 (l:=e.asg) (i:=q) oM
     cases heq:e.asg[q].v==e.asg[k].v
     ·simp (disch:=first|decide|omega) only[hA,iA,GD,hgq,heq,go_sem]
      refine⟨q+1,⟨hlq,LP oM hany heq⟩,by simp only;omega,?_⟩
      exact VA.kround (p:=G2) (k:=3) kQ kA rfl IJ kS kV hR kL
     ·have HF8:=hFk 8 (by rw[HV.out,NO,dvl,dvg,dvv,OT (f:=fun b:Asg=>b.v==e.asg[k].v) (n:=k) oM hlq heq];rfl) kE
      simp (disch:=first|decide|omega) only[hA,iA,GD,hgq,heq,go_sem]
      exact ZA (xs:=[.v (.int .i64 8)]) ⟨by rw[HF8];rfl,rfl,rfl⟩
    obtain rfl:q=k:=by omega
    have HF0:kJ t[p].vars.length e.asg q=0:=by rw[HV.out,NO,dvl,dvg,dvv,hany];rfl
    simp (disch:=first|decide|omega) only[hA,iA,GD,go_sem]
    refine⟨q+1,⟨yA,FG HZ.out HF0⟩,by simp only;omega,?_⟩
    exact VA.kround (p:=I2) (k:=2) kQ kA rfl ZF kS kV hR kL
   obtain rfl:k=e.asg.length:=by omega
   simp (disch:=first|decide|omega) only[hA,iA,aa,go_sem]
   exact ZA (xs:=[.v (.int .i64 0)]) ⟨by rw[HR.out,HZ.out];rfl,rfl,rfl⟩
def a_rFind:AFunc:=({c:=_}:CF Tryz.prog 56).c
theorem Q8:qA Tryz.prog 56=some a_rFind:=by kernel_rfl
def S2:List (Nat×Nat):=[(7,50)]
def tT:List (Nat×Nat):=[(8,9),(17,50)]
def a_rAt:AFunc:=({c:=_}:CF Tryz.prog 57).c
theorem ZEg:qA Tryz.prog 57=some a_rAt:=by kernel_rfl
def a_rPaired:AFunc:=⟨2,70,[.tmp 4],(.seq (.region [⟨some 2,.box (.t 0),none⟩,⟨some 3,.box (.t 1),none⟩,⟨some 4,.mv (.c (.v (.int .i64 0))),none⟩]) (.seq (.region [⟨some 9,.load (some 1) (.t 2),none⟩,⟨some 10,.load (some 2) (.t 3),none⟩,⟨some 11,.call (.c (.fn 57 [])) [(.t 9),(.t 10)],none⟩,⟨some 5,.alloc [(.v (.int .i64 0)),(.v (.int .i64 0)),(.v (.int .i64 0)),(.v (.int .i64 0)),(.v .zsl)],none⟩,⟨none,.store 5 (.t 5) (.t 11),none⟩]) (.seq (.seq (.region [oB 12 0 5,oC 13 12,⟨some 14,.bin .eql (.t 13) (.c (.v (.int .i64 1))),none⟩]) (.cond (.t 14) (.seq (.region [⟨some 4,.mv (.c (.v (.int .i64 0))),none⟩]) .ret) .skip)) (.seq (.seq (.draw [⟨0,⟨some 15,.load (some 1) (.t 2),none⟩,[]⟩,⟨1,oB 16 0 5,[]⟩,⟨2,oC 17 16,[]⟩,⟨3,oB 18 2 5,[]⟩,⟨4,oC 19 18,[]⟩,⟨6,⟨some 21,.load (some 2) (.t 3),none⟩,[]⟩,⟨5,⟨some 20,.call (.c (.fn 56 [])) [(.t 15),(.t 17),(.t 19)],none⟩,[⟨some 21,.load (some 2) (.t 3),none⟩]⟩,⟨7,⟨some 22,.eqs true [.i,.i] (.t 20) (.t 21),none⟩,[]⟩]) (.cond (.t 22) (.seq (.region [⟨some 4,.mv (.c (.v (.int .i64 8))),none⟩]) .ret) .skip)) (.seq (.seq (.region [oB 23 0 5,oC 24 23,⟨some 25,.bin .eql (.t 24) (.c (.v (.int .i64 3))),none⟩]) (.cond (.t 25) (.seq (.region [⟨some 6,.mv (.c (.v (.bool false))),none⟩]) (.seq (.seq (.region [⟨some 7,.mv (.c (.v (.int .i64 0))),none⟩]) (.block 0 (.loop (.seq (.seq (.region [oA 26 7,oB 27 0 2,oC 28 27,oB 29 1 5,oC 30 29,oE 31 3 28 30,oB 32 2 31,oC 33 32,oF 34 33,⟨some 35,.bin .lss (.t 26) (.t 34),none⟩]) (.cond (.t 35) .skip (.exit 0))) (.seq (.block 1 (.seq (.region [oB 38 0 2,oC 39 38,oB 40 1 5,oC 41 40,oE 42 3 39 41,oB 43 2 42,oC 44 43,oA 45 7,oE 46 5 44 45,⟨some 47,.load (some 5) (.t 46),none⟩,⟨some 8,.alloc [(.v (.int .i64 0)),(.v (.int .i64 0)),(.v (.int .i64 0)),(.v (.int .i64 0)),(.v .zsl)],none⟩,⟨none,.store 5 (.t 8) (.t 47),none⟩]) (.region [oA 48 6,oA 49 48,oB 50 0 8 (some (49,false)),oC 51 50 (some (49,false)),⟨some 52,.bin .eql (.t 51) (.c (.v (.int .i64 2))),some (49,false)⟩,oA 53 52 (some (49,false)),oB 54 2 8 (some (53,true)),oC 55 54 (some (53,true)),oB 56 2 5 (some (53,true)),oC 57 56 (some (53,true)),⟨some 58,.bin .eql (.t 55) (.t 57),some (53,true)⟩,⟨some 59,.pick (.t 53) (.t 58) (.c (.v (.bool false))),some (49,false)⟩,oA 60 59 (some (49,false)),oB 61 1 8 (some (60,true)),oC 62 61 (some (60,true)),oB 63 0 3 (some (60,true)),oC 64 63 (some (60,true)),⟨some 65,.bin .eql (.t 62) (.t 64),some (60,true)⟩,⟨some 66,.pick (.t 60) (.t 65) (.c (.v (.bool false))),some (49,false)⟩,⟨some 67,.pick (.t 49) (.c (.v (.bool true))) (.t 66),none⟩,oA 6 67]))) (.region [oA 36 7,⟨some 37,.bin .add (.t 36) (.c (.v (.int .i64 1))),none⟩,oA 7 37])))))) (.seq (.region [oA 68 6,⟨some 69,.not (.t 68),none⟩]) (.cond (.t 69) (.seq (.region [⟨some 4,.mv (.c (.v (.int .i64 7))),none⟩]) .ret) .skip)))) .skip)) (.seq (.region [⟨some 4,.mv (.c (.v (.int .i64 0))),none⟩]) .ret))))))⟩
theorem iX:qA Tryz.prog 151=some a_rPaired:=by kernel_rfl
def fI:List (Nat×Nat):=[(6,8),(26,67)]

theorem evE (e:Ev):(eEv e).map AV.v=(zEA e):=rfl
theorem iP (t:Tr) (hS:Small t) (p j:Nat) (hp:p<t.length) (hj:j<t[p].evs.length) (b l:List Row):QA Tryz.prog 57 [.agg [.v (eT t)],idA (p,j+1)] b l (fun r b' l'=>r=.agg ((eEv t[p].evs[j]).map .v)∧b'=b∧l'=l):=by
 refine XA ZEg rfl kE ?_
 intro B g hB hR hE hA;simp only[KA]at hA
 have R8:=hS.np
 have zG:=hS.ne _ (ak hp)
 have KJ:=pG hp
 have yH:=jL hj
 have hjm:IntKind.i64.wrap (((j+1:Nat):Int)-1)=(j:Int):=by rw[pA oM oM];omega
 simp (disch:=first|decide|omega) only[a_rAt,hA,eT,idA,KJ,yH,hjm,aa,go_sem]
 exact ZA (xs:=[.agg (zEA t[p].evs[j])])
theorem OL (t:Tr) (hS:Small t) (kd m:Int) (b l:List Row):QA Tryz.prog 56 [.agg [.v (eT t)],.v (.int .i64 kd),.v (.int .i64 m)] b l (fun r b' l'=>r=idA (GB t kd m)∧b'=b∧l'=l):=by
 refine XA Q8 rfl kE ?_
 intro B g hB hR hE hA;simp only[KA]at hA
 have R8:=hS.np
 simp (disch:=first|decide|omega) only[a_rFind,hA,eT,go_sem]
 refine JA (ι:=Nat) S2 (fun i=>[(7,.v (.int .i64 i))]) 2 (fun _=>[(zTA t),.live 0 2 [[.v (.int .i64 0),.v (.int .i64 0)]]])
  (fun i=>i≤t.length∧(fD t i 0).find? (ED t kd m)=none) (fun i=>t.length-i) 0 ⟨aj _,rfl⟩ kM kA kF ?_
 intro g1 ZF bE iA i ⟨hi,h0⟩
 by_cases yA:i<t.length
 ·have KJ:=pG yA
  have zG:=hS.ne _ (ak yA)
  simp (disch:=first|decide|omega) only[hA,iA,aa,go_sem]
  refine JA (ι:=Nat) tT (fun j=>[(8,.v (.int .i64 j))]) 2 (fun _=>[(zTA t),.live 0 2 [[.v (.int .i64 0),.v (.int .i64 0)]]])
   (fun j=>j≤t[i].evs.length∧(fD t i j).find? (ED t kd m)=none) (fun j=>t[i].evs.length-j) 0 ⟨aj _,h0⟩ kM kA kF ?_
  intro g2 IJ ZO GD j ⟨hj,h2⟩
  by_cases pJ:j<t[i].evs.length
  ·have yH:=jL pJ
   have hK:ED t kd m (i,j+1)=(t[i].evs[j].kind==kd&&t[i].evs[j].msg==m):=by unfold ED;rw[VG yA pJ]
   cases hk:t[i].evs[j].kind==kd
   ·simp (disch:=first|decide|omega) only[hA,iA,GD,KJ,yH,hk,aa,go_sem]
    refine⟨j+1,⟨pJ,NM h2 (by rw[hK,hk];rfl)⟩,by simp only;omega,?_⟩
    exact VA.kround (p:=tT) (k:=2) kQ kA rfl IJ kS kV hR kL
   cases hm:t[i].evs[j].msg==m
   ·simp (disch:=first|decide|omega) only[hA,iA,GD,KJ,yH,hk,hm,aa,go_sem]
    refine⟨j+1,⟨pJ,NM h2 (by rw[hK,hk,hm];rfl)⟩,by simp only;omega,?_⟩
    exact VA.kround (p:=tT) (k:=2) kQ kA rfl IJ kS kV hR kL
   have hV:=CS yA pJ h2 (by rw[hK,hk,hm];rfl)
   simp (disch:=first|decide|omega) only[hA,iA,GD,KJ,yH,hk,hm,aa,go_sem]
   exact ZA (xs:=[.agg [.v (.int .i64 i),.v (.int .i64 ((j:Int)+1))]]) ⟨by rw[hV];rfl,rfl,rfl⟩
  obtain rfl:j=t[i].evs.length:=by omega
  simp (disch:=first|decide|omega) only[hA,iA,GD,KJ,aa,go_sem]
  refine⟨i+1,⟨yA,by rw[←eF t i yA];exact h2⟩,by simp only;omega,?_⟩
  exact VA.kround (p:=S2) (k:=2) kQ kA rfl ZF kS kV hR kL
 obtain rfl:i=t.length:=by omega
 have hV:GB t kd m=(0,0):=by unfold GB jA;rw[←JK,h0];rfl
 simp (disch:=first|decide|omega) only[hA,iA,aa,go_sem]
 exact ZA (xs:=[.agg [.v (.int .i64 0),.v (.int .i64 0)]]) ⟨by rw[hV];rfl,rfl,rfl⟩
theorem xU (t:Tr) (hS:Small t) (p i:Nat) (hp:p<t.length) (hi:i<t[p].evs.length) (hf:QB t.length p (uA t (p,i+1))=true) (b l:List Row):QA Tryz.prog 151 [.agg [.v (eT t)],idA (p,i+1)] b l (fun r b' l'=>r=.v (.int .i64 (VD t (p,i+1)))∧b'=b∧l'=l):=by
 refine XA iX rfl kE ?_
 intro B g hB hR hE hA;simp only[KA]at hA
 have R8:=hS.np
 have hP0:∀e,uA t (p,i+1)=e→VD t (p,i+1)=if e.kind==2 then (if SC t 2 e.msg==some (p,i+1) then 0 else 8) else if e.kind==3 then (if SC t 3 e.msg==some (p,i+1) then (if sendsB t e.peer.toNat e.msg (p:Int) then 0 else 7) else 8) else 0:=fun e h=>by unfold VD;rw[h]
 have jP:=VG hp hi
 rw[jP]at hf
 have S8:∀k m,(SC t k m==some (p,i+1))=decide (GB t k m=(p,i+1)):=fun k m=>ZET kS
 have HP:=zA (hP0 _ jP)
 clear hP0
 generalize hee:t[p].evs[i]=e at *
 cases k1:e.kind==1
 rotate_left
 ·have hk:e.kind=1:=by simpa using k1
  simp (disch:=first|decide|omega) only[a_rPaired,hA,eT,idA,go_sem]
  refine QA.nxt (iP t hS p i hp hi _ _) ?_
  rw[hee,evE]
  simp (disch:=first|decide|omega) only[hA,k1,go_sem]
  exact ZA (xs:=[.v (.int .i64 0)]) ⟨by rw[HP.out,hk];rfl,rfl,rfl⟩
 have ZNP:e.kind=2∨e.kind=3:=by
  unfold QB at hf
  rw[k1]at hf
  simp at hf
  exact hf.1
 have hP:VD t (p,i+1)=if GB t e.kind e.msg=(p,i+1) then (if e.kind=3∧sendsB t e.peer.toNat e.msg p=false then 7 else 0) else 8:=by
  rw[HP.out]
  simp only[S8]
  rcases ZNP with h|h<;>rw[h]<;>by_cases hh:GB t e.kind e.msg=(p,i+1)<;>rw[h]at hh<;>simp[hh]<;>(try cases sendsB t e.peer.toNat e.msg p<;>simp)
 clear HP
 have HP:=zA hP
 clear hP
 simp (disch:=first|decide|omega) only[a_rPaired,hA,eT,idA,go_sem]
 refine QA.nxt (iP t hS p i hp hi _ _) ?_
 rw[hee,evE]
 simp (disch:=first|decide|omega) only[hA,k1,go_sem]
 refine QA.nxt (OL t hS _ _ _ _) ?_
 by_cases hh:GB t e.kind e.msg=(p,i+1)
 case neg =>
  have zG:((((GB t e.kind e.msg).1:Int)==(p:Int))&&(((GB t e.kind e.msg).2:Int)==((i+1:Nat):Int)))=false:=by
   cases h1:((GB t e.kind e.msg).1:Int)==(p:Int)
   ·rfl
   ·cases h2:((GB t e.kind e.msg).2:Int)==((i+1:Nat):Int)
    ·rfl
    ·simp only[beq_iff_eq]at h1 h2
     exact absurd (Prod.ext (by simp only;omega) (by simp only;omega)) hh
  simp (disch:=first|decide|omega) only[hA,idA,zG,go_sem]
  exact ZA (xs:=[.v (.int .i64 8)]) ⟨by rw[HP.out,if_neg hh];rfl,rfl,rfl⟩
 rw[hh]
 cases k3:e.kind==3
 ·simp (disch:=first|decide|omega) only[hA,idA,jk,k3,go_sem]
  exact ZA (xs:=[.v (.int .i64 0)]) ⟨by rw[HP.out,if_pos hh,if_neg (fun h=>by simp[h.1]at k3)];rfl,rfl,rfl⟩
 have hk:e.kind=3:=by simpa using k3
 obtain⟨q,hq,hql⟩:∃q:Nat,e.peer=q∧q<t.length:=by
  unfold QB inB at hf
  rw[k1,hk]at hf
  simp at hf
  exact⟨e.peer.toNat,by omega,by omega⟩
 have hgq:=pG hql
 have hnq:=hS.ne _ (ak hql)
 have hsB:sendsB t e.peer.toNat e.msg p=t[q].evs.any fun s=>s.kind==2&&s.msg==e.msg&&s.peer==(p:Int):=by
  unfold sendsB sA;rw[hq,ca,ZB dfPr t hql]
 simp (disch:=first|decide|omega) only[hA,idA,jk,k3,go_sem]
 refine JA (ι:=Nat) fI (fun j=>[(7,.v (.int .i64 j)),(6,.v (.bool ((t[q].evs.take j).any fun s=>s.kind==2&&s.msg==e.msg&&s.peer==(p:Int))))]) 3 (fun _=>[(zTA t),.live 0 2 [[.v (.int .i64 p),.v (.int .i64 ((i+1:Nat):Int))]],.live 0 5 [(zEA e)]])
  (fun j=>j≤t[q].evs.length) (fun j=>t[q].evs.length-j) 0 (aj _) kM kA kF ?_
 intro g1 ZF bE iA j hj
 by_cases yA:j<t[q].evs.length
 ·have pK:=jL yA
  have DE:=GZ (f:=fun s:Ev=>s.kind==2&&s.msg==e.msg&&s.peer==(p:Int)) yA
  generalize hs:(t[q].evs.take j).any (fun s=>s.kind==2&&s.msg==e.msg&&s.peer==(p:Int))=sb at *
  cases sb
  ·cases c1:t[q].evs[j].kind==2
   ·simp (disch:=first|decide|omega) only[hA,iA,hgq,pK,hq,c1,aa,go_sem]
    refine⟨j+1,yA,by simp only;omega,?_⟩
    rw[c1]at DE
    simp only[gj,Bool.false_and]at DE
    exact VA.kround (p:=fI) (k:=3) kQ (by ((try simp (disch:=decide) only[hA,iA,DE,go_sem])<;>exact kH)) rfl ZF kS kV hR kL
   cases c2:t[q].evs[j].msg==e.msg
   ·simp (disch:=first|decide|omega) only[hA,iA,hgq,pK,hq,c1,c2,aa,go_sem]
    refine⟨j+1,yA,by simp only;omega,?_⟩
    rw[c1,c2]at DE
    simp only[gj,Bool.false_and,ia]at DE
    exact VA.kround (p:=fI) (k:=3) kQ (by ((try simp (disch:=decide) only[hA,iA,DE,go_sem])<;>exact kH)) rfl ZF kS kV hR kL
   simp (disch:=first|decide|omega) only[hA,iA,hgq,pK,hq,c1,c2,aa,go_sem]
   refine⟨j+1,yA,by simp only;omega,?_⟩
   rw[c1,c2,gj,ia,ia]at DE
   exact VA.kround (p:=fI) (k:=3) kQ (by ((try simp (disch:=decide) only[hA,iA,DE,go_sem])<;>exact kH)) rfl ZF kS kV hR kL
  ·simp (disch:=first|decide|omega) only[hA,iA,hgq,pK,hq,aa,go_sem]
   refine⟨j+1,yA,by simp only;omega,?_⟩
   rw[kb]at DE
   exact VA.kround (p:=fI) (k:=3) kQ (by ((try simp (disch:=decide) only[hA,iA,DE,go_sem])<;>exact kH)) rfl ZF kS kV hR kL
 obtain rfl:j=t[q].evs.length:=by omega
 rw[im,←hsB]
 cases hsb:sendsB t e.peer.toNat e.msg p
 ·simp (disch:=first|decide|omega) only[hA,iA,hgq,hq,aa,go_sem]
  exact ZA (xs:=[.v (.int .i64 7)]) ⟨by rw[HP.out,if_pos hh,if_pos ⟨hk,hsb⟩];rfl,rfl,rfl⟩
 ·simp (disch:=first|decide|omega) only[hA,iA,hgq,hq,aa,go_sem]
  exact ZA (xs:=[.v (.int .i64 0)]) ⟨by rw[HP.out,if_pos hh,if_neg (fun h=>by rw[hsb]at h;cases h.2)];rfl,rfl,rfl⟩
def a_rAcy:AFunc:=({c:=_}:CF Tryz.prog 152).c
theorem ZCY:qA Tryz.prog 152=some a_rAcy:=by kernel_rfl
def ZA4:List (Nat×Nat):=[(4,7),(13,66)]
def DX:List (Nat×Nat):=[(4,7),(13,64)]
def IX:List (Nat×Nat):=[(4,4),(6,7),(20,64)]
def ZA3:List (Nat×Nat):=[(2,2),(8,8),(67,85)]

def dR (D:List Nat):List (List IV):=D.map fun (d:Nat)=>[IV.int .i64 (d:Int)]
theorem EN {D:List Nat}:(dR D).length=D.length:=by simp[dR]
theorem p9 {D:List Nat} {p:Nat} (h:p<D.length):(dR D)[p]? = some [.int .i64 D[p]]:=by simp[dR,h]
theorem ZJl {D:List Nat} {p d:Nat}:(dR D).set p [.int .i64 ((d:Int)+1)]=dR (D.set p (d+1)):=by simp[dR,fa]
theorem ZH7 {n:Nat}:List.replicate n [AV.v (.int .i64 0)]=vs (dR (List.replicate n 0)):=by simp[dR,vs]
theorem ZJh {t:Tr} {k m:Int} (h0:0<t.length):(GB t k m).1<t.length:=by
 unfold GB
 by_cases h:0<(jA t (ids t) k m).2
 ·exact (CC.1 (eQ h).1).1
 ·have hl:∀y∈ids t,1≤y.2:=fun y hy=>mG hy
  have:=KO hl h
  unfold jA;rw[this];simpa using h0
theorem ZB1 (t:Tr) (hS:Small t) (wV:∀x∈ids t,VD t x=0) (b l:List Row):QA Tryz.prog 152 [.agg [.v (eT t)]] b l (fun r b' l'=>∃c:Bool,r=.v (.bool c)∧(c=true→∀x∈ids t,¬Hb t x x)∧b'=b∧l'=l):=by
 refine XA ZCY rfl kE ?_
 intro B g hB hR hE hA;simp only[KA]at hA
 have R8:=hS.np
 have hz:=ZH7 (n:=t.length)
 simp (disch:=first|decide|omega) only[a_rAcy,hA,eT,hz,aa,go_sem]
 refine JA (ι:=List Nat) ZA4 (fun _=>[]) 2 (fun D=>[(zTA t),.live 0 1 (vs (dR D))])
  (fun D=>KI t D) (fun D=>sumE t-D.sum) (List.replicate t.length 0) (KI.start t) kM kA kF ?_
 intro g1 ZF bE iA D0 hD0
 simp (disch:=first|decide|omega) only[hA,iA,go_sem]
 refine JA (ι:=Nat×List Nat×Bool) DX (fun i=>[(5,.v (.int .i64 i.1)),(4,.v (.bool i.2.2))]) 2 (fun i=>[(zTA t),.live 0 1 (vs (dR i.2.1))])
  (fun i=>i.1≤t.length∧KI t i.2.1∧D0.sum≤i.2.1.sum∧(i.2.2=true→D0.sum<i.2.1.sum)) (fun i=>t.length-i.1) (0,D0,false) ⟨aj _,hD0,ai _,fun h=>by cases h⟩ kM kA kF ?_
 rintro g2 IJ ZO GD ⟨p,D1,b1⟩ ⟨hp,hD1,OH,wJ⟩
 simp only at hp hD1 OH wJ
 by_cases yA:p<t.length
 ·have KJ:=pG yA
  have zG:=hS.ne _ (ak yA)
  simp (disch:=first|decide|omega) only[hA,iA,GD,aa,go_sem]
  refine JA (ι:=List Nat×Bool) IX (fun i=>[(4,.v (.bool i.2))]) 2 (fun i=>[(zTA t),.live 0 1 (vs (dR i.1))])
   (fun i=>KI t i.1∧D0.sum≤i.1.sum∧(i.2=true→D0.sum<i.1.sum)) (fun i=>t[p].evs.length-i.1.getD p 0) (D1,b1) ⟨hD1,OH,wJ⟩ kM kA kF ?_
  rintro g3 GW rR AG ⟨D,b2⟩ ⟨hD,WO,gR⟩
  simp only at hD WO gR
  have hDl:=hD.len
  have UJ:=p9 (D:=D) (p:=p) oM
  have hdk:D.getD p 0=D[p]:=ZB 0 D oM
  have PJ:=hD.le p yA
  have ZLx:=ZG9 (D:=D) (k:=p) (d:=D[p]+1) oM
  have mK:=ZJl (D:=D) (p:=p) (d:=D[p])
  rw[hdk]at PJ
  by_cases hdl:D[p]<t[p].evs.length
  ·have yH:=jL hdl
   cases k3:t[p].evs[D[p]].kind==3
   ·have hk:KI t (D.set p (D[p]+1)):=by
     have:=KI.step hD yA (by rw[hdk];exact hdl) (ZAw wV yA rfl (by rw[hdk];exact hdl) (fun h3=>by rw[hdk,VG yA hdl]at h3;rw[h3]at k3;simp at k3))
     rwa [hdk]at this
    simp (disch:=first|decide|omega) only[hA,iA,GD,AG,KJ,UJ,yH,mK,k3,EN,cellsOf,go_sem]
    refine⟨(D.set p (D[p]+1),true),⟨hk,by simp only;omega,fun _=>by simp only;omega⟩,?_,?_⟩
    ·simp only;rw[hdk,au,ba oM];simp;omega
    ·exact VA.kround (p:=IX) (k:=2) kQ kA rfl GW kS kV hR kL
   have hk3:t[p].evs[D[p]].kind=3:=by simpa using k3
   generalize jP:t[p].evs[D[p]]=e at *
   have S8:(GB t 2 e.msg).1<t.length:=ZJh oM
   have hgf:(dR D)[(GB t 2 e.msg).1]? = some [.int .i64 ((D.getD (GB t 2 e.msg).1 0:Nat):Int)]:=by rw[p9 oM,ZB 0 D oM]
   have hk:(GB t 2 e.msg).2≤D.getD (GB t 2 e.msg).1 0→KI t (D.set p (D[p]+1)):=fun h=>by
    have:=KI.step hD yA (by rw[hdk];exact hdl) (ZAw wV yA rfl (by rw[hdk];exact hdl) (fun h3=>by rw[hdk,VG yA hdl,jP];exact h))
    rwa [hdk]at this
   simp (disch:=first|decide|omega) only[hA,iA,GD,AG,KJ,UJ,yH,k3,EN,aa,go_sem]
   refine QA.nxt (OL t hS _ _ _ _) ?_
   generalize hfe:GB t 2 e.msg=y at *
   generalize hd2:D.getD y.1 0=d2 at *
   by_cases hly:d2<y.2
   ·have ZKZ:decide ((d2:Int)<(y.2:Int))=true:=ae oM
    simp (disch:=first|decide|omega) only[hA,iA,GD,AG,KJ,UJ,yH,hgf,ZKZ,idA,k3,EN,aa,go_sem]
    refine⟨(p+1,D,b2),⟨yA,hD,WO,gR⟩,by simp only;omega,?_⟩
    exact VA.kround (p:=DX) (k:=2) kQ kA rfl IJ kS kV hR kL
   ·have ZKZ:decide ((d2:Int)<(y.2:Int))=false:=ag oM
    have hk:=hk oM
    simp (disch:=first|decide|omega) only[hA,iA,GD,AG,KJ,UJ,yH,hgf,ZKZ,mK,idA,k3,EN,cellsOf,go_sem]
    refine⟨(D.set p (D[p]+1),true),⟨hk,by simp only;omega,fun _=>by simp only;omega⟩,?_,?_⟩
    ·simp only;rw[hdk,au,ba oM];simp;omega
    ·exact VA.kround (p:=IX) (k:=2) kQ kA rfl GW kS kV hR kL
  simp (disch:=first|decide|omega) only[hA,iA,GD,AG,KJ,UJ,EN,aa,go_sem]
  refine⟨(p+1,D,b2),⟨yA,hD,WO,gR⟩,by simp only;omega,?_⟩
  exact VA.kround (p:=DX) (k:=2) kQ kA rfl IJ kS kV hR kL
 obtain rfl:p=t.length:=by omega
 cases b1
 rotate_left
 ·have h1:=hD1.sum_le
  have h2:=wJ rfl
  simp (disch:=first|decide|omega) only[hA,iA,GD,aa,go_sem]
  refine⟨D1,hD1,by simp only;omega,?_⟩
  exact VA.kround (p:=ZA4) (k:=2) kQ kA rfl ZF kS kV hR kL
 simp (disch:=first|decide|omega) only[hA,iA,GD,aa,go_sem]
 refine JA (ι:=Nat) ZA3 (fun i=>[(8,.v (.int .i64 i))]) 2 (fun i=>[(zTA t),.live 0 1 (vs (dR D1))])
  (fun i=>i≤t.length∧∀j (hj:j<t.length),j<i→t[j].evs.length≤D1.getD j 0) (fun i=>t.length-i) 0 ⟨aj _,fun j hj h=>by omega⟩ kM kA kF ?_
 rintro g3 GW rR AG i ⟨hi,wF⟩
 by_cases M9:i<t.length
 ·have EH:=pG M9
  have hDl:=hD1.len
  have UJ:=p9 (D:=D1) (p:=i) oM
  have hdk:D1.getD i 0=D1[i]:=ZB 0 D1 oM
  by_cases hdl:D1[i]<t[i].evs.length
  ·simp (disch:=first|decide|omega) only[hA,iA,GD,AG,EH,UJ,EN,aa,go_sem]
   exact ZA (xs:=[.v (.bool false)]) ⟨false,rfl,(fun h=>by cases h),rfl,rfl⟩
  ·simp (disch:=first|decide|omega) only[hA,iA,GD,AG,EH,UJ,EN,aa,go_sem]
   refine⟨i+1,⟨M9,fun j hj fF=>?_⟩,by simp only;omega,?_⟩
   ·rcases bp j i with h|h
    ·exact wF j hj h
    ·obtain rfl:j=i:=by omega
     omega
   ·exact VA.kround (p:=ZA3) (k:=2) kQ kA rfl GW kS kV hR kL
 obtain rfl:i=t.length:=by omega
 simp (disch:=first|decide|omega) only[hA,iA,GD,AG,aa,go_sem]
 exact ZA (xs:=[.v (.bool true)]) ⟨true,rfl,(fun _=>KI.all hD1 (fun p hp=>wF p hp hp)),rfl,rfl⟩
def a_rFlt:AFunc:=({c:=_}:CF Tryz.prog 106).c
theorem ZCV:qA Tryz.prog 106=some a_rFlt:=by kernel_rfl
def ZAY:List (Nat×Nat):=[(3,5),(27,41)]
def ZAX:List (Nat×Nat):=[(3,3),(6,8),(42,70)]
def ZAW:List (Nat×Nat):=[(3,3),(7,8),(49,70)]
def ZAV:List (Nat×Nat):=[(3,3),(9,12),(71,99)]
def ZAU:List (Nat×Nat):=[(3,3),(10,12),(78,99)]
def ZAT:List (Nat×Nat):=[(3,3),(13,15),(103,135)]
def ZAS:List (Nat×Nat):=[(3,3),(14,15),(110,135)]

theorem ZB0 (t:Tr) (hS:Sm t) (hN:Nm t) (ZLO:Small t→Paired t→∀p j (hp:p<t.length) (hj:j<t[p].evs.length) (b l:List Row),QA Tryz.prog 153 [.agg [.v (eT t)],idA (p,j+1)] b l (fun r b' l'=>∃G R:List (List IV),r=.v (.isl 1 G)∧G[p]? = some [.isl 1 R]∧R[j+1]? = some [.bool (hbB t (p,j+1))]∧b'=b∧l'=l)) (b l:List Row):QA Tryz.prog 106 [.agg [.v (eT t)]] b l (fun r b' l'=>r=.tup [idA (SE t).1,.v (.int .i64 (SE t).2)]∧b'=b∧l'=l):=by
 refine XA ZCV rfl kE ?_
 intro B g hB hR hE hA;simp only[KA]at hA
 have R8:=hS.np
 cases UE:inB t.length 1 8
 ·have HF:=kW UE
  cases h1:decide ((t.length:Int)<1)
  ·have h2:decide ((t.length:Int)>8)=true:=by
    refine ae ?_
    have:=gv h1
    unfold inB at UE;simp at UE;omega
   simp (disch:=first|decide|omega) only[a_rFlt,hA,eT,h1,h2,go_sem]
   exact ZA (xs:=[.agg [.v (.int .i64 0),.v (.int .i64 0)],.v (.int .i64 1)]) ⟨by rw[HF];rfl,rfl,rfl⟩
  ·simp (disch:=first|decide|omega) only[a_rFlt,hA,eT,h1,go_sem]
   exact ZA (xs:=[.agg [.v (.int .i64 0),.v (.int .i64 0)],.v (.int .i64 1)]) ⟨by rw[HF];rfl,rfl,rfl⟩
 have hl18:1≤t.length∧t.length≤8:=by unfold inB at UE;simp at UE;omega
 have h1:decide ((t.length:Int)<1)=false:=ag oM
 have h2:decide ((t.length:Int)>8)=false:=ag oM
 have HIN:=zA UE
 have z0:(((0:Nat):Int) != 0)=false:=rfl
 simp (disch:=first|decide|omega) only[a_rFlt,hA,eT,h1,h2,go_sem]
 refine JA (ι:=Nat) ZAY (fun p=>[(4,.v (.int .i64 p))]) 2 (fun _=>[(zTA t),.live 0 2 [[.v (.int .i64 0),.v (.int .i64 0)]]])
  (fun p=>p≤t.length∧∀q,q<p→EC t q=0) (fun p=>t.length-p) 0 ⟨aj _,fun q h=>by omega⟩ kM kA kF ?_
 rintro g1 ZF bE iA p ⟨hp,hh⟩
 by_cases yA:p<t.length
 ·have cH:=fun b l=>K6 t hS hN p yA b l
  simp only[eT]at cH
  by_cases hz:EC t p=0
  ·rw[hz]at cH
   simp (disch:=first|decide|omega) only[hA,iA,aa,go_sem]
   refine QA.nxt (cH _ _) ?_
   simp (disch:=first|decide|omega) only[hA,iA,z0,go_sem]
   refine⟨p+1,⟨yA,fun q hq=>?_⟩,by simp only;omega,?_⟩
   ·rcases bp q p with h|h
    ·exact hh q h
    ·obtain rfl:q=p:=by omega
     exact hz
   ·exact VA.kround (p:=ZAY) (k:=2) kQ kA rfl ZF kS kV hR kL
  ·have HF:=QT HIN.out yA hh hz
   have hb:(((EC t p:Nat):Int) != 0)=true:=by simp;exact hz
   simp (disch:=first|decide|omega) only[hA,iA,aa,go_sem]
   refine QA.nxt (cH _ _) ?_
   simp (disch:=first|decide|omega) only[hA,iA,hb,fC,IB,uB,cellsOf,go_sem]
   exact ZA (xs:=[.agg [.v (.int .i64 p),.v (.int .i64 0)],.v (.int .i64 (EC t p))]) ⟨by rw[HF];rfl,rfl,rfl⟩
 obtain rfl:p=t.length:=by omega
 have hS:=hS.small hh
 simp (disch:=first|decide|omega) only[hA,iA,aa,go_sem]
 refine JA (ι:=Nat) ZAX (fun p=>[(6,.v (.int .i64 p))]) 2 (fun _=>[(zTA t),.live 0 2 [[.v (.int .i64 0),.v (.int .i64 0)]]])
  (fun p=>p≤t.length∧(fD t p 0).find? (fun x=>lC t x != 0)=none) (fun p=>t.length-p) 0 ⟨aj _,rfl⟩ kM kA kF ?_
 rintro g2 IJ ZO GD p ⟨hp,h0⟩
 by_cases yA:p<t.length
 ·have KJ:=pG yA
  have zG:=hS.ne _ (ak yA)
  simp (disch:=first|decide|omega) only[hA,iA,GD,aa,go_sem]
  refine JA (ι:=Nat) ZAW (fun j=>[(7,.v (.int .i64 j))]) 2 (fun _=>[(zTA t),.live 0 2 [[.v (.int .i64 0),.v (.int .i64 0)]]])
   (fun j=>j≤t[p].evs.length∧(fD t p j).find? (fun x=>lC t x != 0)=none) (fun j=>t[p].evs.length-j) 0 ⟨aj _,h0⟩ kM kA kF ?_
  rintro g3 GW rR AG j ⟨hj,h2⟩
  by_cases pJ:j<t[p].evs.length
  ·have cH:=fun b l=>z6 t hS p j yA pJ b l
   simp only[eT]at cH
   by_cases hz:lC t (p,j+1)=0
   ·rw[hz]at cH
    simp (disch:=first|decide|omega) only[hA,iA,GD,AG,KJ,aa,go_sem]
    refine QA.nxt (cH _ _) ?_
    simp (disch:=first|decide|omega) only[hA,iA,GD,AG,z0,go_sem]
    refine⟨j+1,⟨pJ,GN h2 (by simp[hz])⟩,by simp only;omega,?_⟩
    exact VA.kround (p:=ZAW) (k:=2) kQ kA rfl GW kS kV hR kL
   ·have HF:=XT HIN.out hh (WN (P:=fun x=>lC t x != 0) yA pJ h2 (by simp[hz]))
    have hb:(((lC t (p,j+1):Nat):Int) != 0)=true:=by simp;exact hz
    simp (disch:=first|decide|omega) only[hA,iA,GD,AG,KJ,aa,go_sem]
    refine QA.nxt (cH _ _) ?_
    simp (disch:=first|decide|omega) only[hA,iA,GD,AG,hb,fC,IB,uB,cellsOf,go_sem]
    exact ZA (xs:=[.agg [.v (.int .i64 p),.v (.int .i64 ((j:Int)+1))],.v (.int .i64 (lC t (p,j+1)))]) ⟨by rw[HF];rfl,rfl,rfl⟩
  obtain rfl:j=t[p].evs.length:=by omega
  simp (disch:=first|decide|omega) only[hA,iA,GD,AG,KJ,aa,go_sem]
  refine⟨p+1,⟨yA,by rw[←eF t p yA];exact h2⟩,by simp only;omega,?_⟩
  exact VA.kround (p:=ZAX) (k:=2) kQ kA rfl IJ kS kV hR kL
 obtain rfl:p=t.length:=by omega
 have HFN:=GP h0
 have pL:∀x∈ids t,QB t.length x.1 (uA t x)=true:=fun x hx=>fK (OS HFN x hx)
 simp (disch:=first|decide|omega) only[hA,iA,GD,aa,go_sem]
 refine JA (ι:=Nat) ZAV (fun p=>[(9,.v (.int .i64 p))]) 2 (fun _=>[(zTA t),.live 0 2 [[.v (.int .i64 0),.v (.int .i64 0)]]])
  (fun p=>p≤t.length∧(fD t p 0).find? (fun x=>VD t x != 0)=none) (fun p=>t.length-p) 0 ⟨aj _,rfl⟩ kM kA kF ?_
 rintro g3 GW rR AG p ⟨hp,h0⟩
 by_cases yA:p<t.length
 ·have KJ:=pG yA
  have zG:=hS.ne _ (ak yA)
  simp (disch:=first|decide|omega) only[hA,iA,GD,AG,aa,go_sem]
  refine JA (ι:=Nat) ZAU (fun j=>[(10,.v (.int .i64 j))]) 2 (fun _=>[(zTA t),.live 0 2 [[.v (.int .i64 0),.v (.int .i64 0)]]])
   (fun j=>j≤t[p].evs.length∧(fD t p j).find? (fun x=>VD t x != 0)=none) (fun j=>t[p].evs.length-j) 0 ⟨aj _,h0⟩ kM kA kF ?_
  rintro g4 hE4 ZK0 wR j ⟨hj,h2⟩
  by_cases pJ:j<t[p].evs.length
  ·have cH:=fun b l=>xU t hS p j yA pJ (pL _ (CC.2 ⟨yA,by simp,by simp;omega⟩)) b l
   simp only[eT,idA]at cH
   have II:((j+1:Nat):Int)=(j:Int)+1:=by omega
   rw[II]at cH
   by_cases hz:VD t (p,j+1)=0
   ·rw[hz]at cH
    simp (disch:=first|decide|omega) only[hA,iA,GD,AG,wR,KJ,fC,IB,uB,aa,go_sem]
    refine QA.nxt (cH _ _) ?_
    simp (disch:=first|decide|omega) only[hA,iA,GD,AG,wR,z0,go_sem]
    refine⟨j+1,⟨pJ,GN h2 (by simp[hz])⟩,by simp only;omega,?_⟩
    exact VA.kround (p:=ZAU) (k:=2) kQ kA rfl hE4 kS kV hR kL
   ·have HF:=ZT HIN.out hh HFN (WN (P:=fun x=>VD t x != 0) yA pJ h2 (by simp[hz]))
    have hb:(((VD t (p,j+1):Nat):Int) != 0)=true:=by simp;exact hz
    simp (disch:=first|decide|omega) only[hA,iA,GD,AG,wR,KJ,fC,IB,uB,aa,go_sem]
    refine QA.nxt (cH _ _) ?_
    simp (disch:=first|decide|omega) only[hA,iA,GD,AG,wR,hb,fC,IB,uB,cellsOf,go_sem]
    exact aA (xs:=[.agg [.v (.int .i64 p),.v (.int .i64 ((j:Int)+1))],.v (.int .i64 (VD t (p,j+1)))]) (.inr rfl) kR kO hR hB ⟨by rw[HF];rfl,rfl,rfl⟩
  obtain rfl:j=t[p].evs.length:=by omega
  simp (disch:=first|decide|omega) only[hA,iA,GD,AG,wR,KJ,aa,go_sem]
  refine⟨p+1,⟨yA,by rw[←eF t p yA];exact h2⟩,by simp only;omega,?_⟩
  exact VA.kround (p:=ZAV) (k:=2) kQ kA rfl GW kS kV hR kL
 obtain rfl:p=t.length:=by omega
 have HPN:=GP h0
 have wV:=OS HPN
 have hP:Paired t:=⟨pL,wV⟩
 have cA:=fun b l=>ZB1 t hS wV b l
 simp only[eT]at cA
 simp (disch:=first|decide|omega) only[hA,iA,GD,AG,aa,go_sem]
 refine eD _ _ _ _ _ _ (cA _ _) ?_
 rintro x b' l' ⟨c,rfl,hc,rfl,rfl⟩
 cases c
 rotate_left
 ·have HF:=ST HIN.out hh HFN HPN (show JG t=none from db.2 (fun x hx=>by simpa using hc rfl x hx))
  simp (disch:=first|decide|omega) only[hA,iA,GD,AG,fC,IB,uB,cellsOf,go_sem]
  exact ZA (xs:=[.agg [.v (.int .i64 0),.v (.int .i64 0)],.v (.int .i64 0)]) ⟨by rw[HF];rfl,rfl,rfl⟩
 simp (disch:=first|decide|omega) only[hA,iA,GD,AG,aa,go_sem]
 refine JA (ι:=Nat) ZAT (fun p=>[(13,.v (.int .i64 p))]) 2 (fun _=>[(zTA t),.live 0 2 [[.v (.int .i64 0),.v (.int .i64 0)]]])
  (fun p=>p≤t.length∧(fD t p 0).find? (hbB t)=none) (fun p=>t.length-p) 0 ⟨aj _,rfl⟩ kM kA kF ?_
 rintro g4 hE4 ZK0 wR p ⟨hp,h0⟩
 by_cases yA:p<t.length
 ·have KJ:=pG yA
  have zG:=hS.ne _ (ak yA)
  simp (disch:=first|decide|omega) only[hA,iA,GD,AG,wR,aa,go_sem]
  refine JA (ι:=Nat) ZAS (fun j=>[(14,.v (.int .i64 j))]) 2 (fun _=>[(zTA t),.live 0 2 [[.v (.int .i64 0),.v (.int .i64 0)]]])
   (fun j=>j≤t[p].evs.length∧(fD t p j).find? (hbB t)=none) (fun j=>t[p].evs.length-j) 0 ⟨aj _,h0⟩ kM kA kF ?_
  rintro g5 hE5 hEE5 hg5 j ⟨hj,h2⟩
  by_cases pJ:j<t[p].evs.length
  ·have cH:=fun b l=>ZLO hS hP p j yA pJ b l
   simp only[eT,idA]at cH
   have II:((j+1:Nat):Int)=(j:Int)+1:=by omega
   have hwj:IntKind.i64.wrap ((j:Int)+1)=((j+1:Nat):Int):=by rw[pA oM oM];omega
   rw[II]at cH
   simp (disch:=first|decide|omega) only[hA,iA,GD,AG,wR,hg5,KJ,fC,IB,uB,aa,go_sem]
   refine eD _ _ _ _ _ _ (cH _ _) ?_
   rintro x b' l' ⟨G,R,rfl,hG,y5,rfl,rfl⟩
   cases hz:hbB t (p,j+1)
   ·rw[hz]at y5
    simp (disch:=first|decide|omega) only[hA,iA,GD,AG,wR,hg5,hG,y5,hwj,go_sem]
    refine⟨j+1,⟨pJ,GN h2 hz⟩,by simp only;omega,?_⟩
    exact VA.kround (p:=ZAS) (k:=2) kQ kA rfl hE5 kS kV hR kL
   ·rw[hz]at y5
    have HF:=Q4 HIN.out hh HFN HPN (show JG t=_ from WN (P:=hbB t) yA pJ h2 hz)
    simp (disch:=first|decide|omega) only[hA,iA,GD,AG,wR,hg5,hG,y5,hwj,fC,IB,uB,cellsOf,go_sem]
    exact aA (xs:=[.agg [.v (.int .i64 p),.v (.int .i64 ((j:Int)+1))],.v (.int .i64 10)]) (.inr rfl) kR kO hR hB ⟨by rw[HF];rfl,rfl,rfl⟩
  obtain rfl:j=t[p].evs.length:=by omega
  simp (disch:=first|decide|omega) only[hA,iA,GD,AG,wR,hg5,KJ,aa,go_sem]
  refine⟨p+1,⟨yA,by rw[←eF t p yA];exact h2⟩,by simp only;omega,?_⟩
  exact VA.kround (p:=ZAT) (k:=2) kQ kA rfl hE4 kS kV hR kL
 obtain rfl:p=t.length:=by omega
 have HF:=ST HIN.out hh HFN HPN (show JG t=none from GP h0)
 simp (disch:=first|decide|omega) only[hA,iA,GD,AG,wR,fC,IB,uB,aa,go_sem]
 exact aA (xs:=[.agg [.v (.int .i64 0),.v (.int .i64 0)],.v (.int .i64 0)]) (.inr rfl) kR kO hR hB ⟨by rw[HF];rfl,rfl,rfl⟩
def a_rDtl:AFunc:=({c:=_}:CF Tryz.prog 178).c
theorem ZCW:qA Tryz.prog 178=some a_rDtl:=by kernel_rfl

def eI2 (x:Nat×Nat):List IV:=[.int .i64 x.1,.int .i64 x.2]
theorem lT {e l:_} {rs:List ARes} {Q:AV→List Row→List Row→Prop} {B:List Row} (k ver len:Nat) {s:Nat} {rows:List (List IV)} (hi:l[k]? = some (.live ver s (vs rows))) (hx:resVs e B l rs=some [.sl (B.length+k) ver 0 len]) (hR:gA B.length B) {b0 l0:List Row} (hB:B=b0++l0)
  (hq:Q (.sl B.length ver 0 len) b0 (l0++[.live ver s (vs rows)])):uH rs Q b0.length .ret e B l:=by
 refine nH (.inr rfl) (xs:=[.sl (B.length+k) ver 0 len]) (y:=.sl B.length ver 0 len) (l':=[.live ver s (vs rows)]) hx (m:=1) rfl (fun j=>j+k) (fun i j _ _ h=>by omega) (fun j r' h=>?_) ?_ hR hB hq
 ·match j,h with
  |0,h=>cases h;exact⟨_,by rw[cn];exact hi,RnR.plain⟩
 ·exact Rn.slE (j:=0) kS kS
def dV (t:Tr) (x:Nat×Nat):Nat:=(zE t x).length-1
theorem FV (t:Tr) (hS:Small t) (p j:Nat) (hp:p<t.length) (hj:j<t[p].evs.length) (b l:List Row):QA Tryz.prog 178 [.agg [.v (eT t)],idA (p,j+1)] b l
  (fun r b' l'=>r=.sl (b.length+l.length) (dV t (p,j+1)) 0 (zE t (p,j+1)).length∧b'=b∧l'=l++[.live (dV t (p,j+1)) 2 (vs ((zE t (p,j+1)).map eI2))]):=by
 refine XA ZCW rfl kE ?_
 intro B g hB hR hE hA;simp only[KA]at hA
 have R8:=hS.np
 have zG:=hS.ne _ (ak hp)
 have hbl:B.length=b.length+l.length:=by rw[hB,ap]
 have jP:=VG hp hj
 have hjm:IntKind.i64.wrap (((j+1:Nat):Int)-1)=(j:Int):=by rw[pA oM oM];omega
 have cA:=fun b l=>iP t hS p j hp hj b l
 have cF:=fun b l=>OL t hS 2 t[p].evs[j].msg b l
 simp only[eT,idA,evE]at cA cF
 have hgt:decide (((j+1:Nat):Int)>1)=decide (0<j):=by rw[dr];simp only[bc];omega
 by_cases h1:0<j
 ·cases k3:t[p].evs[j].kind==3
  ·have hb:zE t (p,j+1)=[(p,j)]:=by unfold zE;rw[jP];simp only[k3];rw[if_pos oM];simp
   simp (disch:=first|decide|omega) only[a_rDtl,hA,eT,idA,hgt,ae h1,hjm,fC,IB,uB,reduceCtorEq,go_sem]
   refine QA.nxt (cA _ _) ?_
   simp (disch:=first|decide|omega) only[hA,k3,go_sem]
   refine lT 3 0 1 (rows:=[(p,j)].map eI2) (by rfl) kR hR hB ?_
   exact⟨by rw[hbl];unfold dV;rw[hb];rfl,rfl,by unfold dV;rw[hb];rfl⟩
  ·have hb:zE t (p,j+1)=[(p,j),GB t 2 t[p].evs[j].msg]:=by unfold zE;rw[jP];simp only[k3];rw[if_pos oM];simp
   simp (disch:=first|decide|omega) only[a_rDtl,hA,eT,idA,hgt,ae h1,hjm,fC,IB,uB,reduceCtorEq,go_sem]
   refine QA.nxt (cA _ _) ?_
   simp (disch:=first|decide|omega) only[hA,k3,go_sem]
   refine QA.nxt (cF _ _) ?_
   simp (disch:=first|decide|omega) only[hA,fC,IB,uB,reduceCtorEq,go_sem]
   refine lT 3 1 2 (rows:=[(p,j),GB t 2 t[p].evs[j].msg].map eI2) (by rfl) kR hR hB ?_
   exact⟨by rw[hbl];unfold dV;rw[hb];rfl,rfl,by unfold dV;rw[hb];rfl⟩
 ·cases k3:t[p].evs[j].kind==3
  ·have hb:zE t (p,j+1)=[]:=by unfold zE;rw[jP];simp only[k3];rw[if_neg oM];simp
   simp (disch:=first|decide|omega) only[a_rDtl,hA,eT,idA,hgt,ag h1,fC,IB,uB,reduceCtorEq,go_sem]
   refine QA.nxt (cA _ _) ?_
   simp (disch:=first|decide|omega) only[hA,k3,go_sem]
   refine MS (.inr rfl) 0 2 kR hR hB ?_
   exact⟨by rw[hbl];unfold dV;rw[hb];rfl,rfl,by unfold dV;rw[hb];rfl⟩
  ·have hb:zE t (p,j+1)=[GB t 2 t[p].evs[j].msg]:=by unfold zE;rw[jP];simp only[k3];rw[if_neg oM];simp
   simp (disch:=first|decide|omega) only[a_rDtl,hA,eT,idA,hgt,ag h1,fC,IB,uB,reduceCtorEq,go_sem]
   refine QA.nxt (cA _ _) ?_
   simp (disch:=first|decide|omega) only[hA,k3,go_sem]
   refine QA.nxt (cF _ _) ?_
   simp (disch:=first|decide|omega) only[hA,fC,IB,uB,reduceCtorEq,go_sem]
   refine lT 4 0 1 (rows:=[GB t 2 t[p].evs[j].msg].map eI2) (by rfl) kR hR hB ?_
   exact⟨by rw[hbl];unfold dV;rw[hb];rfl,rfl,by unfold dV;rw[hb];rfl⟩
theorem ZDl (t:Tr) (hS:Small t) (p j:Nat) (hp:p<t.length) (hj:j<t[p].evs.length) (b l:List Row):QA Tryz.prog 178 [.agg [.v (eT t)],idA (p,j+1)] b l (fun r b' l'=>r=.v (.isl 2 ((zE t (p,j+1)).map eI2))∧b'=b∧l'=l):=
 QA.deep (Dv.slV (i:=0) rfl kS) (FV t hS p j hp hj b l)
def a_rPas:AFunc:=({c:=_}:CF Tryz.prog 153).c
theorem ZCU:qA Tryz.prog 153=some a_rPas:=by kernel_rfl
def ZAR:List (Nat×Nat):=[(5,6),(11,29)]
def HX:List (Nat×Nat):=[(7,10),(33,73)]
def ZAQ:List (Nat×Nat):=[(7,7),(10,10),(61,73)]

theorem ZAj {t:Tr} {N:Nat} (h:∀x∈t,x.evs.length≤N):∀p,p≤t.length→(fD t p 0).length≤p*N
 |0,_=>by simp[fD]
 |p+1,hp=>by
   have ih:=ZAj h p oM
   have hl:=h _ (ak (show p<t.length by omega))
   rw[←eF t p oM,bx]
   have:(fD t p t[p].evs.length).length=(fD t p 0).length+t[p].evs.length:=by simp[fD]
   omega
theorem ZEL {t:Tr} (h:Small t):(ids t).length≤1000000000000:=by
 have:=ZAj h.ne t.length (ai _)
 rw[JK]at this
 have h2:t.length*1000000≤1000000*1000000:=Nat.mul_le_mul h.np (ai _)
 omega
def gN (t:Tr) (p:Nat):Nat:=(sA t p).length+1
def gB (t:Tr) (S:List (Nat×Nat)) (p:Nat):List (List IV):=fl (gN t p) fun k=>[.bool (decide ((p,k)∈S))]
def gC (t:Tr) (base p:Nat):List AV:=[.sl (base+(p+1+1+1)) 0 0 (gN t p)]
def gW (t:Tr) (S:List (Nat×Nat)) (p:Nat):Row:=.live 0 1 (vs (gB t S p))
def LQ (t:Tr) (base:Nat) (x:Nat×Nat) (S:List (Nat×Nat)) (n:Nat) (T:List Row):List Row:=.live 0 1 [[.v (.isl 3 (t.map ePr))]]::.live 0 2 [[.v (.int .i64 x.1),.v (.int .i64 x.2)]]::.live n 1 (fl n (gC t base))::(fl n (gW t S)++T)
section
variable {t:Tr} {base n m:Nat} {x:Nat×Nat} {S:List (Nat×Nat)} {T:List Row}
theorem WM:LQ t base x S n T=(zTA t)::.live 0 2 [[.v (.int .i64 x.1),.v (.int .i64 x.2)]]::.live n 1 (fl n (gC t base))::(fl n (gW t S)++T):=rfl
theorem JF:(LQ t base x S n T).length=n+T.length+3:=by simp[LQ,xA]
theorem AR (hm:base+(n+3)≤m) (hT:gA m T):gA m (LQ t base x S n T):=by
 have hp:∀(rows:List (List IV)) row,row∈vs rows→∀c∈row,AVlt m c:=by
  intro rows row h c hc
  obtain⟨r0,_,rfl⟩:=co.1 h
  obtain⟨x0,_,rfl⟩:=co.1 hc
  exact .v _
 intro id ver sz els hr row RC c hc
 match id,hr with
 |0,hr=>cases hr;exact hp [[.isl 3 (t.map ePr)]] row RC c hc
 |1,hr=>cases hr;exact hp [[.int .i64 x.1,.int .i64 x.2]] row RC c hc
 |2,hr =>
   cases hr
   obtain⟨j,hj,rfl⟩:=co.1 RC
   have:=ay.1 hj
   simp only[gC,ly]at hc
   subst hc;exact .sl _ _ _ _ oM
 |id+3,hr =>
   have hr:(fl n (gW t S)++T)[id]? = some (.live ver sz els):=hr
   by_cases hid:id<n
   ·rw[K5 hid]at hr
    cases hr
    exact hp _ row RC c hc
   ·rw[aq (by rw[xA];omega)]at hr
    exact hT _ _ _ _ hr row RC c hc
theorem ZHY {y:List AV} (h:gC t base n=y):fl n (gC t base)++[y]=fl (n+1) (gC t base):=by unfold fl;rw[fw,bj,←h];rfl
theorem ZHX {y:Row} {r:List Row} (h:gW t S n=y):fl n (gW t S)++y::r=fl (n+1) (gW t S)++r:=by unfold fl;rw[fw,bj,←h,bf];rfl
theorem ZHZ {p:Nat}:List.replicate (gN t p) [AV.v (.bool false)]=vs (gB t [] p):=by
 have:gB t [] p=fl (gN t p) fun _=>[IV.bool false]:=mM (fun _ _=>by simp)
 rw[this]
 apply ec
 intro j
 rw[xB]
 by_cases hj:j<gN t p
 ·rw[FB hj,gp,if_pos hj];rfl
 ·rw[VH oM,gp,if_neg hj];rfl
theorem r9 {p:Nat}:(gB t S p).length=gN t p:=xA
theorem ZFQ {p k:Nat} (h:k<gN t p):(gB t S p)[k]? = some [.bool (decide ((p,k)∈S))]:=FB h
theorem ZJg {q k:Nat} (hq:q<n):(fl n (gW t S)++T).set q (.live 0 1 (vs ((gB t S q).set k [.bool true])))=fl n (gW t (S++[(q,k)]))++T:=by
 rw[jf _ _ (by rw[xA];exact hq),ZFR]
 congr 1
 refine mM (fun p _=>?_)
 by_cases hp:p=q
 ·subst hp
  rw[BI]
  unfold gW gB
  rw[ZFR]
  congr 2
  refine mM (fun j _=>?_)
  by_cases hj:j=k
  ·subst hj;rw[BI];simp
  ·rw[UU hj];congr 2;simp[hj]
 ·rw[UU hp]
  unfold gW gB
  congr 2
  refine mM (fun j _=>?_)
  congr 2;simp[hp]
end
theorem ZBY (t:Tr) (hS:Small t) (hP:Paired t) (p j:Nat) (hp:p<t.length) (hj:j<t[p].evs.length) (b l:List Row):QA Tryz.prog 153 [.agg [.v (eT t)],idA (p,j+1)] b l
  (fun r b' l'=>∃G R:List (List IV),r=.v (.isl 1 G)∧G[p]? = some [.isl 1 R]∧R[j+1]? = some [.bool (hbB t (p,j+1))]∧b'=b∧l'=l):=by
 refine XA ZCU rfl kE ?_
 intro B g hB hR hE hA;simp only[KA]at hA
 have R8:=hS.np
 have hnN:∀q,q<t.length→gN t q≤1000001:=fun q hq=>by
  unfold gN sA;rw[ZB dfPr t hq];have:=hS.ne _ (ak hq);omega
 have hgN:∀q (hq:q<t.length),gN t q=t[q].evs.length+1:=fun q hq=>by unfold gN sA;rw[ZB dfPr t hq]
 have hxm:(p,j+1)∈ids t:=CC.2 ⟨hp,by simp,by simp;omega⟩
 have ZOC:=ZEL hS
 have cD:=fun b l=>FV t hS p j hp hj b l
 simp only[eT,idA]at cD
 simp (disch:=first|decide|omega) only[a_rPas,hA,eT,idA,go_sem]
 refine iE (ι:=Nat) 5 1 ZAR (fun q=>[(6,.v (.int .i64 q)),(5,.sl (B.length+2) q 0 q)]) 3 (fun q=>LQ t B.length (p,j+1) [] q [])
  (fun q=>q≤t.length) (fun q=>t.length-q) 0 (aj _) (by simp (disch:=first|decide|omega) only[hA,go_sem]) kE rfl kM kA kF ?_
 intro g1 ZF bE iA q hq
 by_cases yA:q<t.length
 ·have KJ:=pG yA
  have zG:=hS.ne _ (ak yA)
  have hw:IntKind.i64.wrap ((t[q].evs.length:Int)+1)=((gN t q:Nat):Int):=by rw[hgN q yA,pA oM oM];omega
  have hnq:=hnN q yA
  have hz:=ZHZ (t:=t) (p:=q)
  have hcn:=ZHY (t:=t) (base:=B.length) (n:=q) rfl
  have htk:(fl q (gC t B.length)).take q=fl q (gC t B.length):=bn (by rw[xA];omega)
  simp only[gC]at hcn
  have hL:=WM (t:=t) (base:=B.length) (x:=(p,j+1)) (S:=[]) (n:=q) (T:=[])
  simp (disch:=first|decide|omega) only[hA,iA,hL,KJ,hw,hz,htk,xA,fC,IB,uB,TC,FC,hcn,aa,go_sem]
  refine⟨q+1,yA,by simp only;omega,?_⟩
  exact VA.kround (p:=ZAR) (k:=3) (junk:=[.live 0 1 [[.sl (B.length+(q+1+1+1)) 0 0 (gN t q)]]]) kQ kA (by have e:=ZHX (t:=t) (S:=[]) (n:=q) (r:=[.live 0 1 [[.sl (B.length+(q+1+1+1)) 0 0 (gN t q)]]]) rfl;simp only[gW]at e;simp only[LQ,cu,da,eh,gW];rw[e]) ZF (by rw[JF];simp) (by rw[JF];simp (disch:=omega) only[bH,lts.down,Nat.reduceLT,Nat.reduceAdd]) hR (AR (by rw[JF];simp) tE)
 obtain rfl:q=t.length:=by omega
 have hL:=WM (t:=t) (base:=B.length) (x:=(p,j+1)) (S:=[]) (n:=t.length) (T:=[])
 simp (disch:=first|decide|omega) only[hA,iA,hL,cu,xA,go_sem]
 clear hL
 refine QA.nxt (cD _ _) ?_
 obtain⟨n,hn⟩:∃n,t.length=n:=⟨_,rfl⟩
 have hlq:(zE t (p,j+1)).length≤2:=sW t _
 simp (disch:=first|decide|omega) only[hA,iA,xA,go_sem]
 refine JA (ι:=List (Nat×Nat)×List (Nat×Nat)×Nat×Nat) HX (fun i=>[(7,.sl (B.length+(t.length+1+1+1)) i.2.2.2 i.2.2.1 (i.2.1.length-i.2.2.1))]) (t.length+4)
  (fun i=>LQ t B.length (p,j+1) i.1 t.length [.live i.2.2.2 2 (vs (i.2.1.map eI2))])
  (fun i=>PaI t (p,j+1) i.1 (i.2.1.drop i.2.2.1)∧i.2.2.1≤i.2.1.length∧(i.2.1.drop i.2.2.1).length≤2*i.1.length+2) (fun i=>3*((ids t).length-i.1.length)+(i.2.1.drop i.2.2.1).length)
  ([],zE t (p,j+1),0,dV t (p,j+1)) ⟨PaI.start hP hxm,aj _,by simpa using hlq⟩ kM kA kF ?_
 rintro g2 IJ ZO GD ⟨S,els,off,ver⟩ ⟨hI,iR,aB⟩
 simp only at hI iR aB
 have ZNQ:=hI.few
 have hL:=WM (t:=t) (base:=B.length) (x:=(p,j+1)) (S:=S) (n:=t.length) (T:=[.live ver 2 (vs (els.map eI2))])
 cases hq:els.drop off with
 |nil =>
   have hz0:els.length-off=0:=by have:=congrArg List.length hq;simpa using this
   have hgt:decide (((els.length-off:Nat):Int)>0)=false:=by rw[hz0];rfl
   rw[hq]at hI
   simp (disch:=first|decide|omega) only[hA,iA,GD,hL,hgt,xA,go_sem]
   have wJ:decide ((p,j+1)∈S)=hbB t (p,j+1):=by
    by_cases h:(p,j+1)∈S
    ·rw[ae h,ZEO ((hI.all _ hxm).1 h)]
    ·rw[ag h,ZBu (fun k=>h ((hI.all _ hxm).2 k))]
   refine GA (.inr rfl) (xs:=[.sl (B.length+2) t.length 0 t.length]) (y:=.v (.isl 1 (fl t.length fun q=>[.isl 1 (gB t S q)]))) kR ?_ hR hB ⟨_,gB t S p,rfl,FB hp,by rw[ZFQ (by rw[hgN p hp];omega),wJ],rfl,rfl⟩
   refine Dv.slR (i:=2) rfl (by rw[xA];omega) xA (fun k r row h1 h2=>?_)
   rw[cn]at h1
   by_cases hk:k<t.length
   ·rw[FB hk]at h1 h2
    cases h1;cases h2
    refine .cons ?_ .nil
    refine Dv.slV (i:=k+1+1+1) (rows:=gB t S k) ?_ r9.symm
    simp only[fj]
    exact K5 hk
   ·rw[VH oM]at h1;cases h1
 |cons y R =>
   have hol:off<els.length:=by
    have:=congrArg List.length hq;simp at this;omega
   have hgy:els[off]? = some y:=by
    have:(els.drop off)[0]? = some y:=by rw[hq];rfl
    rwa [dp,eo]at this
   have y5:els.drop (off+1)=R:=by rw[←List.drop_drop,hq];rfl
   have hgt:decide (((els.length-off:Nat):Int)>0)=true:=ae oM
   rw[hq]at hI aB
   obtain⟨hym,hyb⟩:=hI.r y kS
   obtain⟨q,k⟩:=y
   obtain⟨hqt,hk1,FJ⟩:=CC.1 hym
   simp only at hqt hk1 FJ
   obtain⟨k,rfl⟩:∃k',k=k'+1:=⟨k-1,by omega⟩
   have hkl':k<t[q].evs.length:=by omega
   have hnq:=hnN q hqt
   have ZNR:=hgN q hqt
   have zG:=hS.ne _ (ak hqt)
   have i0:(0:Int).toNat=0:=rfl
   have i1:(1:Int).toNat=1:=rfl
   have ZLy:(1:Int)≤((els.length-off:Nat):Int):=by omega
   have ON:els.length-off-1=els.length-(off+1):=by omega
   have hgC:=FB (f:=gC t B.length) hqt
   have hgB:=ZFQ (t:=t) (S:=S) (p:=q) (k:=k+1) (by rw[ZNR];omega)
   simp only[gC]at hgC
   have hfa:=fun T=>K5 (C:=gW t S) (T:=T) hqt
   simp only[gW]at hfa
   simp only[ej]at aB
   by_cases hm:(q,k+1)∈S
   ·rw[ae hm]at hgB
    simp (disch:=first|decide|omega) only[hA,iA,GD,hL,hgt,hgy,eI2,i0,i1,ZLy,ON,hgC,hfa,hgB,r9,xA,TC,FC,rB,wB,cellsOf,go_sem]
    refine⟨(S,els,off+1,ver),⟨by simp only;rw[y5];exact hI.skip hm,by simp only;omega,by simp only;rw[y5];omega⟩,by simp only;rw[y5,hq];simp,?_⟩
    exact VA.kround (p:=HX) (k:=t.length+4) (l1:=LQ t B.length (p,j+1) S t.length [.live ver 2 (vs (els.map eI2))]) (junk:=[.live 0 2 [[.v (.int .i64 q),.v (.int .i64 ((k+1:Nat):Int))]]]) kQ kA (by simp[LQ,gW]) IJ (by rw[JF];simp) (by rw[JF];simp (disch:=omega) only[bH,lts.down,Nat.reduceLT,Nat.reduceAdd]) hR (AR (by rw[JF];simp) kL)
   rw[ag hm]at hgB
   have cE:=fun b l=>ZDl t hS q k hqt hkl' b l
   simp only[eT,idA]at cE
   have ZNS:=fun T=>ZJg (t:=t) (S:=S) (T:=T) (k:=k+1) hqt
   have hJ:=hI.mark hm
   have hfw:=hJ.few
   simp only[ap,ej,fq]at hfw
   have hm2:(zE t (q,k+1)).length≤2:=sW t _
   simp (disch:=first|decide|omega) only[hA,iA,GD,hL,hgt,hgy,eI2,i0,i1,ZLy,ON,hgC,hfa,hgB,ZNS,r9,xA,TC,FC,rB,wB,cellsOf,go_sem]
   refine QA.nxt (cE _ _) ?_
   simp (disch:=first|decide|omega) only[hA,iA,GD,go_sem]
   refine JA (ι:=Nat×List (Nat×Nat)×Nat×Nat) ZAQ (fun i=>[(10,.v (.int .i64 i.1)),(7,.sl (B.length+(t.length+1+1+1)) i.2.2.2 i.2.2.1 (i.2.1.length-i.2.2.1))]) (t.length+5)
    (fun i=>LQ t B.length (p,j+1) (S++[(q,k+1)]) t.length [.live i.2.2.2 2 (vs (i.2.1.map eI2)),.live 0 2 [[.v (.int .i64 q),.v (.int .i64 ((k+1:Nat):Int))]]])
    (fun i=>i.1≤(zE t (q,k+1)).length∧PaJ t (p,j+1) (q,k+1) (S++[(q,k+1)]) (i.2.1.drop i.2.2.1) i.1∧i.2.2.1≤i.2.1.length∧(i.2.1.drop i.2.2.1).length=R.length+i.1) (fun i=>(zE t (q,k+1)).length-i.1)
    (0,els,off+1,ver) ⟨aj _,by simp only;rw[y5];exact hJ,by simp only;omega,by simp only;rw[y5];rfl⟩ kM kA (fun e=>by simp only[LQ,gW];exact VA.refl _ _ _) ?_
   rintro g3 GW rR AG ⟨m,el,o,v⟩ ⟨hml,hJ,ho,bM⟩
   simp only at hml hJ ho bM
   have hL2:=WM (t:=t) (base:=B.length) (x:=(p,j+1)) (S:=S++[(q,k+1)]) (n:=t.length) (T:=[.live v 2 (vs (el.map eI2)),.live 0 2 [[.v (.int .i64 q),.v (.int .i64 ((k+1:Nat):Int))]]])
   by_cases hlm:m<(zE t (q,k+1)).length
   ·obtain⟨z,hz⟩:∃z,(zE t (q,k+1))[m]? = some z:=⟨_,ah hlm⟩
    have PJ:el.length-o≤2000000000010:=by rw[cr]at bM;omega
    have ZNT:List.take (el.length-o) (List.drop o (el.map eI2))++[[.int .i64 z.1,.int .i64 z.2]]=(el.drop o++[z]).map eI2:=by
     rw[bn kS,←fy,bj];rfl
    have ZLx:o+(el.length-o)≤el.length:=by omega
    have ht1:(el.length-o+1)*16≤140737488355328:=by omega
    have ht2:el.length-o+1≤140737488355328:=by omega
    simp (disch:=first|decide|omega) only[hA,iA,GD,AG,hL2,hz,eI2,uB,ZLx,ht1,ht2,xA,TC,FC,rB,wB,fC,IB,go_sem]
    have CY:(el.drop o++[z]).length=el.length-o+1:=by simp
    refine⟨(m+1,el.drop o++[z],0,v+1),⟨hlm,by simp only;rw[gz];exact hJ.push hP hz,aj _,by simp only;rw[gz,CY];rw[cr]at bM;omega⟩,by simp only;omega,?_⟩
    simp only[CY,fh]
    exact VA.kround (p:=ZAQ) (k:=t.length+5) (l1:=LQ t B.length (p,j+1) (S++[(q,k+1)]) t.length [.live (v+1) 2 (vs ((el.drop o++[z]).map eI2)),.live 0 2 [[.v (.int .i64 q),.v (.int .i64 ((k+1:Nat):Int))]]]) (junk:=[.live 0 2 [[.v (.int .i64 z.1),.v (.int .i64 z.2)]]]) kQ kA (by rw[←ZNT];simp[LQ]) GW (by rw[JF];simp) (by rw[JF];simp (disch:=omega) only[bH,lts.down,Nat.reduceLT,Nat.reduceAdd]) hR (AR (by rw[JF];simp) kL)
   ·obtain rfl:m=(zE t (q,k+1)).length:=by omega
    simp (disch:=first|decide|omega) only[hA,iA,GD,AG,hL2,xA,go_sem]
    have hlz:(S++[(q,k+1)]).length=S.length+1:=by simp
    refine⟨(S++[(q,k+1)],el,o,v),⟨hJ.fin hP (ai _),ho,by simp only;rw[bM,hlz];omega⟩,by simp only;rw[bM,hlz,hq,ej];omega,?_⟩
    exact VA.kround (p:=HX) (k:=t.length+4) (l1:=LQ t B.length (p,j+1) (S++[(q,k+1)]) t.length [.live v 2 (vs (el.map eI2))]) (junk:=[.live 0 2 [[.v (.int .i64 q),.v (.int .i64 ((k+1:Nat):Int))]]]) kQ kA (by simp[LQ]) IJ (by rw[JF];simp;done) (by rw[JF];simp (disch:=omega) only[bH,lts.down,Nat.reduceLT,Nat.reduceAdd]) hR (AR (by rw[JF];simp) kL)
def a_rVld:AFunc:=({c:=_}:CF Tryz.prog 54).c
theorem ZCT:qA Tryz.prog 54=some a_rVld:=by kernel_rfl

theorem OW (t:Tr) (hS:Sm t) (hN:Nm t) (b l:List Row):QA Tryz.prog 54 [.agg [.v (eT t)]] b l (fun r b' l'=>r=.v (.bool (aD t))∧b'=b∧l'=l):=by
 refine XA ZCT rfl kE ?_
 intro B g hB hR hE hA;simp only[KA]at hA
 have cF:=fun b l=>ZB0 t hS hN (fun h1 h2 p j hp hj b l=>ZBY t h1 h2 p j hp hj b l) b l
 simp only[eT,idA]at cF
 have hv:(((SE t).2:Int)==0)=aD t:=by unfold aD;rw[dr];simp
 simp (disch:=first|decide|omega) only[a_rVld,hA,eT,go_sem]
 refine QA.nxt (cF _ _) ?_
 simp (disch:=first|decide|omega) only[hA,hv,go_sem]
 exact ZA (xs:=[.v (.bool (aD t))])
attribute [local go_sem] Y3 J3 J1 V1 mT O2 List.replicate_succ List.replicate_zero
theorem bS (t:Tr) (hS:Small t) (hN:Nm t) (k m:Int) (b l:List Row):QA Tryz.prog 56 [.agg [.v (eT t)],.v (.int .i64 k),.v (.int .i64 m)] b l (fun r b' l'=>r=idA (GB t k m)∧b'=b∧l'=l):=by
 refine QA.of_ext ⟨_,Tryz.func56,by kernel_rfl,by kernel_rfl⟩ (fun F L w vs hr=>?_)
 obtain⟨u,us,rfl,hs,OY⟩:=SO hN hr
 obtain⟨v,us,rfl,h3,OY⟩:=YE OY
 obtain⟨v',us,rfl,h4,OY⟩:=YE OY
 obtain rfl:=jG OY
 cases h3.vI
 cases h4.vI
 refine (ZEl u t k m w hS hs).mono ?_
 rintro e w' ⟨rfl,he⟩
 exact⟨he,_,_,rfl,FX _ _ _ _,rfl,rfl,rfl⟩

structure CutIn (t:Tr) (cs:List Int):Prop where
 len:cs.length=t.length
 le:∀(k:Nat) (h:k<t.length) (h2:k<cs.length),0≤cs[k]∧cs[k]≤t[k].evs.length
def evp (t:Tr) (p j:Nat):Ev:=uA t (p,j+1)
def toI (t:Tr) (p j:Nat):Nat:=(GB t 3 (evp t p j).msg).2
def YN (t:Tr) (p j i:Nat):Bool:=
 (evp t p j).kind==2&&((evp t p i).kind==2&&((evp t p j).peer==(evp t p i).peer&&(toI t p i != 0&&(toI t p j==0||decide (toI t p i<toI t p j)))))
structure FfI (t:Tr) (p q k last:Nat) (mis:Bool):Prop where
 m1:∀j,j<k→(evp t p j).kind=2→(evp t p j).peer=q→toI t p j=0→mis=true
 m2:mis=true→∃j,j<k∧(evp t p j).kind=2∧(evp t p j).peer=q∧toI t p j=0
 l1:∀j,j<k→(evp t p j).kind=2→(evp t p j).peer=q→toI t p j≤last
 l2:0<last→∃j,j<k∧(evp t p j).kind=2∧(evp t p j).peer=q∧toI t p j=last
 g:∀i,i<k→∀j,j<i→(evp t p i).peer=q→YN t p j i=false
theorem FfI.start (t:Tr) (p q:Nat):FfI t p q 0 0 false:=⟨fun j h=>by omega,fun h=>(by cases h),fun j h=>by omega,fun h=>by omega,fun j h=>by omega⟩
theorem FfI.skip {t:Tr} {p q k last:Nat} {mis:Bool} (h:FfI t p q k last mis) (hk:¬((evp t p k).kind=2∧(evp t p k).peer=q)):FfI t p q (k+1) last mis:=by
 have up:∀j,j<k+1→j<k∨j=k:=fun j hj=>by omega
 refine⟨fun j hj a b c=>?_,fun hm=>?_,fun j hj a b=>?_,fun hl=>?_,fun i hi j hj hp=>?_⟩
 ·rcases up j hj with h1|rfl
  ·exact h.m1 j h1 a b c
  ·exact absurd ⟨a,b⟩ hk
 ·obtain⟨j,h1,h2⟩:=h.m2 hm;exact⟨j,by omega,h2⟩
 ·rcases up j hj with h1|rfl
  ·exact h.l1 j h1 a b
  ·exact absurd ⟨a,b⟩ hk
 ·obtain⟨j,h1,h2⟩:=h.l2 hl;exact⟨j,by omega,h2⟩
 ·rcases up i hi with h1|rfl
  ·exact h.g i h1 j hj hp
  ·have:((evp t p i).kind==2)=false:=by
    cases hh:(evp t p i).kind==2 with
    |false=>rfl
    |true=>exact absurd ⟨by simpa using hh,hp⟩ hk
   unfold YN;rw[this];simp
theorem FfI.next {t:Tr} {p q k last:Nat} (h:FfI t p q k last false) (h1:(evp t p k).kind=2) (h2:(evp t p k).peer=q) (h3:toI t p k≠0) (h4:last≤toI t p k):FfI t p q (k+1) (toI t p k) false:=by
 have up:∀j,j<k+1→j<k∨j=k:=fun j hj=>by omega
 refine⟨fun j hj a b c=>?_,fun hm=>(by cases hm),fun j hj a b=>?_,fun hl=>⟨k,by omega,h1,h2,rfl⟩,fun i hi j hj hp=>?_⟩
 ·rcases up j hj with g|rfl
  ·exact h.m1 j g a b c
  ·exact absurd c h3
 ·rcases up j hj with g|rfl
  ·have:=h.l1 j g a b;omega
  ·exact ai _
 ·rcases up i hi with g|rfl
  ·exact h.g i g j hj hp
  ·unfold YN
   cases hk:(evp t p j).kind==2
   ·simp
   cases he:(evp t p j).peer==(evp t p i).peer
   ·simp
   have hk:(evp t p j).kind=2:=by simpa using hk
   have he:(evp t p j).peer=q:=by rw[←h2];simpa using he
   have hz:(toI t p j==0)=false:=by
    cases hq:toI t p j==0 with
    |false=>rfl
    |true=>exact absurd (h.m1 j hj hk he (by simpa using hq)) kS
   have:=h.l1 j hj hk he
   rw[hz,ag oM];simp
theorem FfI.bad {t:Tr} {p q k last:Nat} {mis:Bool} (h:FfI t p q k last mis) (h1:(evp t p k).kind=2) (h2:(evp t p k).peer=q) (h3:toI t p k≠0) (h4:mis=true∨toI t p k<last):∃j,j<k∧YN t p j k=true:=by
 rcases h4 with h4|h4
 ·obtain⟨j,g1,g2,g3,g4⟩:=h.m2 h4
  refine⟨j,g1,?_⟩
  unfold YN;rw[g2,g3,h1,h2,g4];simp[h3]
 ·obtain⟨j,g1,g2,g3,g4⟩:=h.l2 oM
  refine⟨j,g1,?_⟩
  unfold YN;rw[g2,g3,h1,h2,g4];simp[h3,h4]
theorem CutIn.ok {t:Tr} {cs:List Int} (h:CutIn t cs) (hS:Small t):CutOk t cs:=⟨h.len,hS.np,hS.nv,hS.ne,hS.na,h.le⟩

structure Cutt (t:Tr) (cs:List Int):Prop where
 v:Vok t
 len:cs.length=t.length
 rng:∀p,p<t.length→0≤cAt cs p∧cAt cs p≤(sA t p).length
 ok:∀x∈ids t,(uA t x).kind=3→(x.2:Int)≤cAt cs x.1→((sndr t x).2:Int)≤cAt cs (sndr t x).1
def cN (cs:List Int) (p:Nat):Nat:=(cAt cs p).toNat
section
variable {t:Tr} {cs:List Int} (h:Cutt t cs)
include h
end
theorem NI {t:Tr} (h:Vok t):aD t=true:=by
 unfold aD SE
 have h1:¬(t.length<1∨8<t.length):=by have:=h.lo;have:=h.hi;omega
 rw[if_neg h1]
 have h2:(List.range t.length).find? (fun p=>EC t p != 0)=none:=by
  rw[db];intro p hp;rw[h.head p (ay.1 hp)];simp
 have h3:(ids t).find? (fun x=>lC t x != 0)=none:=by
  rw[db];intro x hx;rw[h.form x hx];simp
 have h4:(ids t).find? (fun x=>VD t x != 0)=none:=by
  rw[db];intro x hx;rw[h.pair x hx];simp
 simp only[h2,h3,h4]
 split
 ·rename_i x hx
  have:=gb hx
  have hm:=fk hx
  exact absurd (by simpa using this) (h.acyc x hm)
 ·rfl
end Go.Proofs.YtmaokjojbjdpoaaGreatDoor
