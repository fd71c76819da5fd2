/- Texts of one proof, laid together: B5, DP, B6, B9, BA, CQ, BB, B7, HA, OD, VS, BC, B0, BD. No condition. -/
import Derived.Test.YtoccdlnoaindmaaGreatDoorWB6
import Derived.Test.YtoccdlnoaindmaaGreatDoorWB2
import Derived.Test.YtoccdlnoaindmaaGreatDoorWB5
import Derived.Test.YtoccdlnoaindmaaGreatDoorWB3
import Derived.Test.YtoccdlnoaindmaaGreatDoorWB4
import Derived.WalkKit
import Derived.KernelRfl
set_option maxHeartbeats 8000000
set_option maxRecDepth 100000
namespace Go.Proofs.YtoccdlnoaindmaaGreatDoor
set_option maxHeartbeats 16000000
set_option maxRecDepth 100000
set_option linter.unusedVariables false
set_option linter.unusedSimpArgs false
open Go.RowKit Go.Extern.Stop Go.Stop Go.Extern
def dgt (n:Nat):ByteArray:=⟨#[UInt8.ofNat (48+n)]⟩
theorem ZEl (n:Nat) (hn:n≤7) (w:World):Calls Tryz.prog 195 #[.int .i64 n] w fun e w'=>e=.returned (.string (dgt n))∧w'=w:=by
 obtain rfl|rfl|rfl|rfl|rfl|rfl|rfl|rfl:n=0∨n=1∨n=2∨n=3∨n=4∨n=5∨n=6∨n=7:=by omega
 all_goals
  go_enter Tryz.func195,Tryz.ntmps195
  go_wp2
  go_ret
  exact⟨rfl,rfl⟩
theorem ZDG (n:Nat) (hn:n≤7) (w:World):Calls Tryz.prog 182 #[.int .i64 n,.int .i64 10] w fun e w'=>e=.returned (.string (dgt n))∧w'=w:=by
 have S:=ZEl n hn w
 obtain rfl|rfl|rfl|rfl|rfl|rfl|rfl|rfl:n=0∨n=1∨n=2∨n=3∨n=4∨n=5∨n=6∨n=7:=by omega
 all_goals
  go_enter Tryz.func182,Tryz.ntmps182
  go_wp2_with (go_at_call 195;refine S.mono ?_;rintro e w' ⟨rfl,rfl⟩)
  go_ret
  exact⟨rfl,rfl⟩
theorem ZFI (n:Nat) (hn:n≤7) (w:World):Calls Tryz.prog 157 #[.int .i64 n] w fun e w'=>e=.returned (.string (dgt n))∧w'=w:=by
 have S:=ZDG n hn w
 go_enter Tryz.func157,Tryz.ntmps157
 go_wp2_with (go_at_call 182;refine S.mono ?_;rintro e w' ⟨rfl,rfl⟩)
 go_ret
 exact⟨rfl,rfl⟩
theorem itoa8 (n:Nat) (hn:n≤7) (w:World):Calls Tryz.prog 116 #[.int .i64 n] w fun e w'=>e=.returned (.string (dgt n))∧w'=w:=by
 have S:=ZFI n hn w
 go_enter Tryz.func116,Tryz.ntmps116
 go_wp2_with (go_at_call 157;refine S.mono ?_;rintro e w' ⟨rfl,rfl⟩)
 go_ret
 exact⟨rfl,rfl⟩
theorem D6 (n:Nat) (hn:n≤7) (b l:List Row):QA Tryz.prog 116 [.v (.int .i64 n)] b l (fun r b' l'=>r=.v (.str (dgt n))∧b'=b∧l'=l):=by
 refine QA.of_ext ⟨_,Tryz.func116,by kernel_rfl,by kernel_rfl⟩ (fun F L w vs hr=>?_)
 obtain⟨u,us,h1,h2,h3⟩:=lE hr
 have:=dG h3
 subst this
 obtain rfl:vs=#[u]:=Array.toList_inj.1 (by rw[h1])
 cases h2.vI
 refine (itoa8 n hn w).mono ?_
 rintro e w' ⟨rfl,rfl⟩
 exact⟨Ext.refl _,_,_,rfl,.v _ _ (.str _),rfl,rfl,rfl⟩
end Go.Proofs.YtoccdlnoaindmaaGreatDoor
namespace Go.Proofs.YtoccdlnoaindmaaGreatDoor
set_option linter.unusedVariables false
def Pln (x:AV):Prop:=∀(w:World) (F:Nat→Prop) (L:LMap) (w':World) (F':Nat→Prop) (L':LMap) (v:Value),RepA w F L x v→RepA w' F' L' x v
theorem Pln.int {k:IntKind} {n:Int}:Pln (.v (.int k n)):=fun w F L w' F' L' v h=>by
 cases h.vI;exact .v _ _ (.int _ _)
theorem Pln.bool {t:Bool}:Pln (.v (.bool t)):=fun w F L w' F' L' v h=>by
 cases h.vI;exact .v _ _ (.bool _)
theorem Pln.str {t:ByteArray}:Pln (.v (.str t)):=fun w F L w' F' L' v h=>by
 cases h.vI;exact .v _ _ (.str _)
theorem Pln.agg {cs:List AV} (hc:∀c∈cs,Pln c):Pln (.agg cs):=fun w F L w' F' L' v h=>by
 obtain⟨us,rfl,hu⟩:=h.aggL
 exact MA.agg ⟨hu.1,fun j d u hd hju=>hc d (List.mem_of_getElem? hd) w F L w' F' L' u (hu.2 j d u hd hju)⟩
theorem Pln.tup {cs:List AV} (hc:∀c∈cs,Pln c):Pln (.tup cs):=fun w F L w' F' L' v h=>by
 obtain⟨us,rfl,hu⟩:=h.tupL
 exact MA.tup ⟨hu.1,fun j d u hd hju=>hc d (List.mem_of_getElem? hd) w F L w' F' L' u (hu.2 j d u hd hju)⟩
theorem QA.peek {P:Program} {f:Nat} {args args':List AV} {b l:List Row} {x:AV} (hl:args.length=args'.length)
  (hd:∀(i:Nat) (z y:AV),args[i]? = some z→args'[i]? = some y→Dv 0 (b++l) z y) (hx:Pln x)
  (h:QA P f args' ((b++l).map wF) [] (fun r b' l'=>r=x∧b'=(b++l).map wF∧l'=[])):QA P f args b l (fun r b' l'=>r=x∧b'=b∧l'=l):=by
 refine⟨h.1,fun F L w us s hr=>?_⟩
 obtain⟨H,hH⟩:∃H,H=b++l:=⟨_,rfl⟩
 rw[←hH]at s hd h
 have s0:Sim F L ([]++H) w:=s
 have hget:∀{j v z:Nat} {els:List (List AV)},(H.map wF++[])[j]? = some (.live v z els)→False:=fun {j v z els} hj=>by
  rw[List.append_nil,List.getElem?_map]at hj
  cases hq:H[j]? with
  |none=>rw[hq]at hj;cases hj
  |some r=>rw[hq]at hj;cases hj
 have jP:∀k,¬LC L (H.map wF++[]) k:=by
  rintro k ⟨j,v,z,els,q,h1,h2,h3⟩
  exact hget h1
 have s1:Sim (FD F L 0 H) L (H.map wF++[]) w:=by
  refine⟨fun j v z els hj=>(hget hj).elim,fun j v q hq=>?_,fun j j' v v' z z' e1 e2 bb q1 q2 h1 h2=>(hget h1).elim,fun k hk=>⟨?_,jP k⟩,s.glob.mono (fun _ h=>.inl h) (fun _ _=>rfl)⟩
  ·obtain⟨r,h1,h2⟩:=s.born j v q hq
   exact⟨wF r,by rw[List.append_nil,List.getElem?_map,h1];rfl,h2⟩
  ·rcases hk with hk|⟨i,ver,sz,els,q,h1,h2,h3⟩
   ·exact (s.imm k hk).1
   ·rw[Nat.zero_add]at h2
    obtain⟨q',g1,g2⟩:=s.row _ _ _ _ h1
    rw[h2]at g1;cases g1
    exact g2.lt h3
 have mT:MA w (FD F L 0 H) L args' us.toList:=⟨by rw[←hl];exact hr.1,fun j y v hy hv=>by
  have hil:=(List.getElem?_eq_some_iff.1 hy).1
  have hx:args[j]? = some args[j]:=List.getElem?_eq_getElem oM
  exact (hd j _ y hx hy).rep s0 v (hr.2 j _ v hx hv)⟩
 refine Calls.mono (h.2 _ L w us s1 mT) ?_
 rintro en w' ⟨v,x',b',l',F2,L2,h1,h2,h3,h4,h5,rfl,rfl,rfl⟩
 have nP:∀k,k<w.heap.size→w'.heap[k]? = w.heap[k]?:=fun k hk=>h4.block k hk (jP k)
 have ZHM:∀k,F k→w'.heap[k]? = w.heap[k]?:=fun k hk=>nP k (s.imm k hk).1
 subst hH
 refine⟨v,x',b,l,F,L,h1,hx _ _ _ _ _ _ _ h2,⟨fun j ver z els hj=>?_,s.born,s.apart,fun k hk=>⟨Nat.lt_of_lt_of_le (s.imm k hk).1 h4.size,(s.imm k hk).2⟩,s.glob.mono (fun _ h=>h) ZHM⟩,
  ⟨fun _ h=>h,fun _ _ _ _ h=>h,h4.os,h4.tape,h4.output,h4.size,fun k hk _=>nP k hk,fun _ _ h=>h,fun _ _ _ h=>h,fun _ _ h=>.inl h⟩,rfl,rfl,rfl,rfl⟩
 obtain⟨q,g1,g2⟩:=s.row j ver z els hj
 exact⟨q,g1,g2.mono (fun k hk=>nP k (g2.lt hk)) (fun _ _ h=>h.mono (fun _ h=>h) ZHM (fun _ _ _ h=>h))⟩
set_option linter.unusedSimpArgs false
attribute [local go_sem ↓] aB EA IB RB tC yB GB nC DB IC pA vB bB nA jB eB aA iB EB CA mA SB wB xB QB uB XB pB qB pC TB mC lC sD GC tD nD gC rC
attribute [local go_sem] AA lA gD YB bA rD bC eC fC QI XI aC MB LB FB uC uA lB eA mB fA ZB aop YE jD ZD VC QD OB XD pH GE tE amm vE AB rB dE OC nE comma RC aE nH bE eE YH iE xE kD XH eqC eqF rF cellsOf YA aD lD uE PG rd rdI TD mk MC AV.cell List.all_cons List.all_nil Bool.and_true Bool.true_and Bool.and_self List.length_cons List.length_nil List.length_append Nat.reduceAdd Nat.reduceSub Nat.reduceMul Nat.zero_add Nat.add_zero List.cons_append List.nil_append List.append_assoc List.append_nil List.getElem?_cons_zero List.getElem?_cons_succ List.getElem?_nil List.set_cons_zero List.set_cons_succ List.drop_zero List.drop_succ_cons List.take_zero List.take_succ_cons List.take_nil List.drop_nil List.map_cons List.map_nil Option.map_some if_true if_false Bool.false_eq_true and_self true_and and_true Nat.reduceLeDiff Nat.reduceLT Nat.le_refl Nat.reduceEqDiff ite_true ite_false beq_self_eq_true beq_true beq_false Bool.not_true Bool.not_false Bool.true_beq Bool.false_beq XE XC sB JD KD jC qC zC KC UD VD QE VB QJ DI XJ ZJ eF lF bF fF geI gtI aF decide_true decide_false room List.getElem?_map List.length_map List.length_take Int.toNat_natCast Nat.min_def Nat.min_self fD dD VE QC ED ZG xA List.getElem_cons_zero List.getElem_cons_succ
def a_wvars:AFunc:=⟨1,23,[.tmp 2],(.seq (.region [⟨some 2,.mv (.c (.v .zsl)),none⟩]) (.seq (.region [⟨some 3,.mv (.c (.v .zsl)),none⟩]) (.seq (.seq (.region [⟨some 6,.mv (.t 0),none⟩,⟨some 7,.len (.t 6),none⟩,⟨some 8,.mv (.c (.v (.int .i64 0))),none⟩]) (.block 0 (.loop (.seq (.region [⟨some 9,.bin .lss (.t 8) (.t 7),none⟩]) (.seq (.cond (.t 9) .skip (.exit 0)) (.seq (.block 1 (.seq (.region [⟨some 10,.mv (.t 8),none⟩,⟨some 11,.iaddr 1 (.t 6) (.t 8),none⟩,⟨some 12,.load none (.t 11),none⟩,⟨some 4,.mv (.t 10),none⟩,⟨some 5,.mv (.t 12),none⟩]) (.region [⟨some 13,.mv (.t 3),none⟩,⟨some 14,.mv (.t 4),none⟩,⟨some 15,.call (.c (.fn 116 [])) [(.t 14)],none⟩,⟨some 16,.binS .add (.c (.v (.str ⟨#[118]⟩))) (.t 15),none⟩,⟨some 17,.mv (.t 5),none⟩,⟨some 18,.build [(.v (.str ⟨#[]⟩)),(.v (.int .i64 0))] [(0,1,(.t 16)),(1,1,(.t 17))],none⟩,⟨some 19,.bslice 2 [(.v (.str ⟨#[]⟩)),(.v (.int .i64 0))] 1 [(0,(.t 18))],none⟩,⟨some 20,.append 2 24 (.t 13) (.t 19),none⟩,⟨some 3,.mv (.t 20),none⟩]))) (.region [⟨some 21,.bin .add (.t 8) (.c (.v (.int .i64 1))),none⟩,⟨some 8,.mv (.t 21),none⟩]))))))) (.seq (.region [⟨some 22,.mv (.t 3),none⟩,⟨some 2,.mv (.t 22),none⟩]) .ret))))⟩
theorem sZ:dA Tryz.prog 58=some a_wvars:=by kernel_rfl
def PW:List (Nat×Nat):=[(3,5),(8,21)]
def a_r54VN:AFunc:=⟨1,9,[.tmp 2],(.seq (.region [⟨some 2,.mv (.c (.v (.str ⟨#[]⟩))),none⟩]) (.seq (.region [⟨some 3,.mv (.t 0),none⟩,⟨some 4,.bin .add (.c (.v (.int .i64 48))) (.t 3),none⟩,⟨some 5,.conv .u8 (.t 4),none⟩,⟨some 6,.bslice 1 [(.v (.int .u8 0))] 1 [(0,(.t 5))],none⟩,⟨some 7,.tostr (.t 6),none⟩,⟨some 8,.binS .add (.c (.v (.str ⟨#[118]⟩))) (.t 7),none⟩,⟨some 2,.mv (.t 8),none⟩]) .ret))⟩
theorem MZ:dA Tryz.prog 127=some a_r54VN:=by kernel_rfl
def a_r54proc:AFunc:=({c:=_}:CF Tryz.prog 71).c
theorem KU:dA Tryz.prog 71=some a_r54proc:=by kernel_rfl
def qQ:List (Nat×Nat):=[(4,4),(8,27)]

def gI (i:Nat):ByteArray:=⟨#[118,UInt8.ofNat (48+i)]⟩
def wVr (l:List Int) (i:Nat):Vr:=⟨gI i,l.getD i 0⟩
def zK (l:List Int):List Vr:=fl l.length (wVr l)
theorem aW (i:Nat):(⟨#[118]⟩:ByteArray)++dgt i=gI i:=rfl
theorem DH {l:List Int}:(zK l).length=l.length:=fB
theorem dX (l:List Int) (i:Nat):(fl i (wVr l)).map eVr++[[.str (gI i),.int .i64 (l.getD i 0)]]=(fl (i+1) (wVr l)).map eVr:=by
 have h:fl (i+1) (wVr l)=fl i (wVr l)++[wVr l i]:=by unfold fl;rw[List.range_succ,List.map_append];rfl
 rw[h,List.map_append];rfl
theorem OP (l0:List Int) (h8:l0.length≤8) (b l:List Row):QA Tryz.prog 58 [.v (.isl 1 (l0.map eI))] b l (fun r b' l'=>r=.v (.isl 2 ((zK l0).map eVr))∧b'=b∧l'=l):=by
 refine VA sZ rfl (by decide) ?_
 intro B g hB hR hE hA;simp only[xA]at hA
 simp (disch:=first|decide|omega) only[a_wvars,hA,List.length_map,go_sem]
 refine bI (ι:=Nat) 3 2 PW (fun i=>[(8,.v (.int .i64 i)),(3,.sl B.length i 0 i)]) 1 (fun i=>[.live i 2 (vs ((fl i (wVr l0)).map eVr))])
  (fun i=>i≤l0.length) (fun i=>l0.length-i) 0 (Nat.zero_le _) (by simp (disch:=first|decide|omega) only[hA,go_sem]) (by decide) rfl (by (repeat (first|exact hE.mono oM|refine KLt.up ?_ kL))) (by ((try simp (disch:=decide) only[hA,go_sem])<;>exact kH)) (fun e=>qA.refl _ _ _) ?_
 intro g1 mH wD KB i hi
 by_cases LA:i<l0.length
 ·have UK:=mE LA
  have hfl:((fl i (wVr l0)).map eVr).length=i:=by rw[List.length_map,fB]
  have htk:((fl i (wVr l0)).map eVr).take i=(fl i (wVr l0)).map eVr:=List.take_of_length_le (by rw[hfl];omega)
  have hn:=aW i
  simp (disch:=first|decide|omega) only[hA,KB,UK,List.length_map,hfl,go_sem]
  refine QA.nxt (D6 i oM _ _) ?_
  have sM:((#[118]:Array UInt8).size+(dgt i).size≤9223372036854775807)=True:=eq_true (by show 1+1≤_;omega)
  simp (disch:=first|decide|omega) only[hA,KB,UK,hn,sM,iC,hfl,htk,dX,List.length_map,go_sem]

  refine⟨i+1,LA,by simp only;omega,?_⟩
  exact qA.kround (p:=PW) (k:=1) (by ((repeat refine (gA rfl).trans ?_);exact wD)) (by ((try simp (disch:=decide) only[hA,KB,go_sem])<;>exact kH)) rfl mH (by simp) kV hR kL
 ·obtain rfl:i=l0.length:=by omega
  have hfl:((fl l0.length (wVr l0)).map eVr).length=l0.length:=by rw[List.length_map,fB]
  simp (disch:=first|decide|omega) only[hA,KB,List.length_map,go_sem]
  exact H6 (i:=0) (ver:=l0.length) (sz:=2) (n:=l0.length) (rows:=(fl l0.length (wVr l0)).map eVr) (.inr rfl) (by simp (disch:=first|decide|omega) only[JA,zA,hA,KB,go_sem]) rfl hfl.symm hR hB ⟨rfl,rfl,rfl⟩
theorem GY (i:Nat) (hi:i≤7) (b l:List Row):QA Tryz.prog 127 [.v (.int .i64 i)] b l (fun r b' l'=>r=.v (.str (gI i))∧b'=b∧l'=l):=by
 refine VA MZ rfl (by decide) ?_
 intro B g hB hR hE hA;simp only[xA]at hA
 have hw:IntKind.i64.wrap (48+(i:Int))=((48+i:Nat):Int):=by rw[VB oM oM];omega
 have hw8:IntKind.u8.wrap ((48+i:Nat):Int)=((48+i:Nat):Int):=by
  obtain rfl|rfl|rfl|rfl|rfl|rfl|rfl|rfl:i=0∨i=1∨i=2∨i=3∨i=4∨i=5∨i=6∨i=7:=by omega
  all_goals rfl
 have hnu:XP [[AV.v (.int .u8 ((48+i:Nat):Int))]]=some [((48+i:Nat):Int)]:=rfl
 have UH:GU [((48+i:Nat):Int)]=dgt i:=by
  obtain rfl|rfl|rfl|rfl|rfl|rfl|rfl|rfl:i=0∨i=1∨i=2∨i=3∨i=4∨i=5∨i=6∨i=7:=by omega
  all_goals rfl
 have hn:=aW i
 have sM:((#[118]:Array UInt8).size+(dgt i).size≤9223372036854775807)=True:=eq_true (by show 1+1≤_;omega)
 simp (disch:=first|decide|omega) only[a_r54VN,hA,hw,hw8,iC,hnu,UH,hn,sM,go_sem]
 exact ZA (xs:=[.v (.str (gI i))]) (.inr rfl) (by simp (disch:=first|decide|omega) only[JA,zA,go_sem,hA]) kO hR hB ⟨rfl,rfl,rfl⟩
def apA (v:List Int) (a:Asg):List Int:=v.set a.v.toNat a.val
def yS (v:List Int) (l:List Asg) (j:Nat):List Int:=(l.take j).foldl apA v
def apE (v:List Int) (e:Ev):List Int:=yS v e.asg e.asg.length
def stV (p:Pr):Nat→List Int
 |0=>p.vars.map (·.init)
 |k+1=>apE (stV p k) (p.evs.getD k lJ)
def wV (p:Pr):List Int:=stV p p.evs.length
def OkA (p:Pr):Prop:=∀e∈p.evs,∀a∈e.asg,0≤a.v∧a.v<p.vars.length
theorem eQ:∀(l:List Asg) (v:List Int),(l.foldl apA v).length=v.length
 |[],v=>rfl
 |a::l,v=>by rw[List.foldl_cons,eQ l];unfold apA;simp
theorem vR {v:List Int} {l:List Asg} {j:Nat}:(yS v l j).length=v.length:=eQ _ _
theorem y7 {v:List Int} {l:List Asg} {j:Nat} (h:j<l.length):yS v l (j+1)=(yS v l j).set l[j].v.toNat l[j].val:=by
 unfold yS
 rw[bS h,List.foldl_append];rfl
theorem EI {p:Pr}:∀k,(stV p k).length=p.vars.length
 |0=>by simp[stV]
 |k+1=>by simp only[stV,apE,vR];exact EI k
theorem M4 {l:List Vr} {i:Nat} (h:i<l.length):(l.map eVr)[i]? = some [.str l[i].name,.int .i64 l[i].init]:=by
 rw[List.getElem?_map,List.getElem?_eq_getElem h];rfl
theorem VK {l:List Ev} {i:Nat} (h:i<l.length):(l.map eEv)[i]? = some [.int .i64 l[i].kind,.int .i64 l[i].peer,.int .i64 l[i].msg,.int .i64 l[i].time,.isl 2 (l[i].asg.map ZM)]:=by
 rw[List.getElem?_map,List.getElem?_eq_getElem h];rfl
theorem ZA9 {l:List Asg} {i:Nat} (h:i<l.length):(l.map ZM)[i]? = some [.int .i64 l[i].v,.int .i64 l[i].val]:=by
 rw[List.getElem?_map,List.getElem?_eq_getElem h];rfl
structure PrS (p:Pr):Prop where
 nv:p.vars.length≤1000000
 ne:p.evs.length≤1000000
 na:∀e∈p.evs,e.asg.length≤1000000
def X8 (p:Pr):Row:=.live 0 3 [[.v (.str p.name),.v (.isl 2 (p.vars.map eVr)),.v (.isl 5 (p.evs.map eEv))]]
theorem LT (s:Sv) (h8:s.vars.length≤8) (b l:List Row):QA Tryz.prog 71 [.agg [.v (.str s.name),.v (.isl 3 (s.code.map eIn)),.v (.int .i64 s.pc),.v (.isl 1 (s.vars.map eI)),.v (.int .i64 s.off),.v (.int .i64 s.rate)]] b l (fun r b' l'=>r=.agg [.v (.str s.name),.v (.isl 2 ((zK s.vars).map eVr)),.v (.isl 5 [])]∧b'=b∧l'=l):=by
 refine VA KU rfl (by decide) ?_
 intro B g hB hR hE hA;simp only[xA]at hA
 simp (disch:=first|decide|omega) only[a_r54proc,hA,YA,cellsOf,List.length_map,go_sem]
 refine tA (ι:=Nat) qQ (fun i=>[(4,.v (.int .i64 i))]) 3 (fun i=>[DF s,.live 0 3 [[.v (.str ⟨#[]⟩),.v .zsl,.v .zsl]],.live 0 3 [[.v (.str s.name),.sl (B.length+3) i 0 i,.v .zsl]],.live i 2 (vs ((fl i (wVr s.vars)).map eVr))])
  (fun i=>i≤s.vars.length) (fun i=>s.vars.length-i) 0 (Nat.zero_le _) (by (repeat (first|exact hE.mono oM|refine KLt.up ?_ kL))) (by ((try simp (disch:=decide) only[hA,go_sem])<;>exact kH)) (fun e=>?_) ?_
 ·exact qA.nilcell (e:=e) (b:=B) (l:=[DF s,.live 0 3 [[.v (.str ⟨#[]⟩),.v .zsl,.v .zsl]],.live 0 3 [[.v (.str s.name),.v .zsl,.v .zsl]]]) (i:=2) (k:=0) (j:=1) (sz:=2) rfl rfl rfl
 intro g1 mH wD KB i hi
 unfold DF
 by_cases LA:i<s.vars.length
 ·have UK:=mE LA
  have hfl:((fl i (wVr s.vars)).map eVr).length=i:=by rw[List.length_map,fB]
  have htk:((fl i (wVr s.vars)).map eVr).take i=(fl i (wVr s.vars)).map eVr:=List.take_of_length_le (by rw[hfl];omega)
  simp (disch:=first|decide|omega) only[hA,KB,UK,List.length_map,hfl,go_sem]
  refine QA.nxt (GY i oM _ _) ?_
  simp (disch:=first|decide|omega) only[hA,KB,UK,iC,hfl,htk,dX,YA,cellsOf,List.length_map,go_sem]
  refine⟨i+1,LA,by simp only;omega,?_⟩
  exact qA.kround (p:=qQ) (k:=3) (by ((repeat refine (gA rfl).trans ?_);exact wD)) (by ((try simp (disch:=decide) only[hA,KB,go_sem])<;>exact kH)) rfl mH (by simp) kV hR kL
 ·obtain rfl:i=s.vars.length:=by omega
  have hfl:((fl s.vars.length (wVr s.vars)).map eVr).length=s.vars.length:=by rw[List.length_map,fB]
  simp (disch:=first|decide|omega) only[hA,KB,YA,cellsOf,List.length_map,go_sem]
  refine nB (.inr rfl) (xs:=[.agg [.v (.str s.name),.sl (B.length+3) s.vars.length 0 s.vars.length,.v .zsl]]) (by simp (disch:=first|decide|omega) only[JA,zA,hA,KB,go_sem]) ?_ hR hB ⟨rfl,rfl,rfl⟩
  refine Dv.aggL (.cons (.v _) (.cons (Dv.slV (i:=3) (rows:=(fl s.vars.length (wVr s.vars)).map eVr) rfl hfl.symm) (.cons (.z 5) .nil)))
open Go.RowKit
def a_wst1:AFunc:=({c:=_}:CF Tryz.prog 172).c
theorem ZF4:dA Tryz.prog 172=some a_wst1:=by kernel_rfl
def U3:List (Nat×Nat):=[(3,3),(5,5),(13,22)]
def YG:List (Nat×Nat):=[(6,7),(9,9),(31,57)]
def V3:List (Nat×Nat):=[(9,9),(39,49)]

theorem iA {α:Type} {T:List α} {n:Nat} (h:T.length=n+1):∃a U,T=a::U∧U.length=n:=by
 cases T with
 |nil=>cases h
 |cons a U=>exact⟨a,U,rfl,by simpa using h⟩
theorem ZDq {α:Type} (T:List α) (h:T.length=58):∃v0 v1 v2 v3 v4 v5 v6 v7 v8 v9 v10 v11 v12 v13 v14 v15 v16 v17 v18 v19 v20 v21 v22 v23 v24 v25 v26 v27 v28 v29 v30 v31 v32 v33 v34 v35 v36 v37 v38 v39 v40 v41 v42 v43 v44 v45 v46 v47 v48 v49 v50 v51 v52 v53 v54 v55 v56 v57:α,T=[v0,v1,v2,v3,v4,v5,v6,v7,v8,v9,v10,v11,v12,v13,v14,v15,v16,v17,v18,v19,v20,v21,v22,v23,v24,v25,v26,v27,v28,v29,v30,v31,v32,v33,v34,v35,v36,v37,v38,v39,v40,v41,v42,v43,v44,v45,v46,v47,v48,v49,v50,v51,v52,v53,v54,v55,v56,v57]:=by
 obtain⟨v0,T0,rfl,h0⟩:=iA h
 obtain⟨v1,T1,rfl,h1⟩:=iA h0
 obtain⟨v2,T2,rfl,h2⟩:=iA h1
 obtain⟨v3,T3,rfl,h3⟩:=iA h2
 obtain⟨v4,T4,rfl,h4⟩:=iA h3
 obtain⟨v5,T5,rfl,h5⟩:=iA h4
 obtain⟨v6,T6,rfl,h6⟩:=iA h5
 obtain⟨v7,T7,rfl,h7⟩:=iA h6
 obtain⟨v8,T8,rfl,h8⟩:=iA h7
 obtain⟨v9,T9,rfl,h9⟩:=iA h8
 obtain⟨v10,T10,rfl,h10⟩:=iA h9
 obtain⟨v11,T11,rfl,h11⟩:=iA h10
 obtain⟨v12,T12,rfl,h12⟩:=iA h11
 obtain⟨v13,T13,rfl,h13⟩:=iA h12
 obtain⟨v14,T14,rfl,h14⟩:=iA h13
 obtain⟨v15,T15,rfl,h15⟩:=iA h14
 obtain⟨v16,T16,rfl,h16⟩:=iA h15
 obtain⟨v17,T17,rfl,h17⟩:=iA h16
 obtain⟨v18,T18,rfl,h18⟩:=iA h17
 obtain⟨v19,T19,rfl,h19⟩:=iA h18
 obtain⟨v20,T20,rfl,h20⟩:=iA h19
 obtain⟨v21,T21,rfl,h21⟩:=iA h20
 obtain⟨v22,T22,rfl,h22⟩:=iA h21
 obtain⟨v23,T23,rfl,h23⟩:=iA h22
 obtain⟨v24,T24,rfl,h24⟩:=iA h23
 obtain⟨v25,T25,rfl,h25⟩:=iA h24
 obtain⟨v26,T26,rfl,h26⟩:=iA h25
 obtain⟨v27,T27,rfl,h27⟩:=iA h26
 obtain⟨v28,T28,rfl,h28⟩:=iA h27
 obtain⟨v29,T29,rfl,h29⟩:=iA h28
 obtain⟨v30,T30,rfl,h30⟩:=iA h29
 obtain⟨v31,T31,rfl,h31⟩:=iA h30
 obtain⟨v32,T32,rfl,h32⟩:=iA h31
 obtain⟨v33,T33,rfl,h33⟩:=iA h32
 obtain⟨v34,T34,rfl,h34⟩:=iA h33
 obtain⟨v35,T35,rfl,h35⟩:=iA h34
 obtain⟨v36,T36,rfl,h36⟩:=iA h35
 obtain⟨v37,T37,rfl,h37⟩:=iA h36
 obtain⟨v38,T38,rfl,h38⟩:=iA h37
 obtain⟨v39,T39,rfl,h39⟩:=iA h38
 obtain⟨v40,T40,rfl,h40⟩:=iA h39
 obtain⟨v41,T41,rfl,h41⟩:=iA h40
 obtain⟨v42,T42,rfl,h42⟩:=iA h41
 obtain⟨v43,T43,rfl,h43⟩:=iA h42
 obtain⟨v44,T44,rfl,h44⟩:=iA h43
 obtain⟨v45,T45,rfl,h45⟩:=iA h44
 obtain⟨v46,T46,rfl,h46⟩:=iA h45
 obtain⟨v47,T47,rfl,h47⟩:=iA h46
 obtain⟨v48,T48,rfl,h48⟩:=iA h47
 obtain⟨v49,T49,rfl,h49⟩:=iA h48
 obtain⟨v50,T50,rfl,h50⟩:=iA h49
 obtain⟨v51,T51,rfl,h51⟩:=iA h50
 obtain⟨v52,T52,rfl,h52⟩:=iA h51
 obtain⟨v53,T53,rfl,h53⟩:=iA h52
 obtain⟨v54,T54,rfl,h54⟩:=iA h53
 obtain⟨v55,T55,rfl,h55⟩:=iA h54
 obtain⟨v56,T56,rfl,h56⟩:=iA h55
 obtain⟨v57,T57,rfl,h57⟩:=iA h56
 obtain rfl:=List.eq_nil_of_length_eq_zero h57
 exact⟨v0,v1,v2,v3,v4,v5,v6,v7,v8,v9,v10,v11,v12,v13,v14,v15,v16,v17,v18,v19,v20,v21,v22,v23,v24,v25,v26,v27,v28,v29,v30,v31,v32,v33,v34,v35,v36,v37,v38,v39,v40,v41,v42,v43,v44,v45,v46,v47,v48,v49,v50,v51,v52,v53,v54,v55,v56,v57,rfl⟩
def s1A:ACode:=.region [⟨(some 3),.mv (.c (.v .zsl)),none⟩]
def s1V:ACode:=.seq (.region [⟨(some 10),.faddr 1 (.t 1),none⟩,⟨(some 11),.load none (.t 10),none⟩,⟨(some 12),.len (.t 11),none⟩,⟨(some 13),.mv (.c (.v (.int .i64 0))),none⟩])
 (.block 0 (.loop (.seq (.region [⟨(some 14),.bin .lss (.t 13) (.t 12),none⟩])
 (.seq (.cond (.t 14) .skip
 (.exit 0))
 (.seq (.block 1 (.seq (.region [⟨(some 15),.iaddr 2 (.t 11) (.t 13),none⟩,⟨(some 16),.load (some 2) (.t 15),none⟩,⟨(some 5),.alloc [(.v (.str ⟨#[]⟩)),(.v (.int .i64 0))],none⟩,⟨none,.store 2 (.t 5) (.t 16),none⟩])
 (.region [⟨(some 17),.mv (.t 3),none⟩,⟨(some 18),.faddr 1 (.t 5),none⟩,⟨(some 19),.load none (.t 18),none⟩,⟨(some 20),.bslice 1 [(.v (.int .i64 0))] 1 [(0,(.t 19))],none⟩,⟨(some 21),.append 1 8 (.t 17) (.t 20),none⟩,⟨(some 3),.mv (.t 21),none⟩])))
 (.region [⟨(some 22),.bin .add (.t 13) (.c (.v (.int .i64 1))),none⟩,⟨(some 13),.mv (.t 22),none⟩]))))))
def s1R:ACode:=.region [⟨(some 28),.faddr 2 (.t 1),none⟩,⟨(some 29),.load none (.t 28),none⟩,⟨(some 30),.len (.t 29),none⟩,⟨(some 31),.mv (.c (.v (.int .i64 0))),none⟩]
def s1C:ACode:=.region [⟨(some 32),.bin .lss (.t 31) (.t 30),none⟩]
def s1E:ACode:=.region [⟨(some 33),.mv (.t 31),none⟩,⟨(some 34),.iaddr 5 (.t 29) (.t 31),none⟩,⟨(some 35),.load (some 5) (.t 34),none⟩,⟨(some 7),.alloc [(.v (.int .i64 0)),(.v (.int .i64 0)),(.v (.int .i64 0)),(.v (.int .i64 0)),(.v .zsl)],none⟩,⟨(some 6),.mv (.t 33),none⟩,⟨none,.store 5 (.t 7) (.t 35),none⟩]
def s1I:ACode:=.seq (.region [⟨(some 36),.faddr 4 (.t 7),none⟩,⟨(some 37),.load none (.t 36),none⟩,⟨(some 38),.len (.t 37),none⟩,⟨(some 39),.mv (.c (.v (.int .i64 0))),none⟩])
 (.block 4 (.loop (.seq (.region [⟨(some 40),.bin .lss (.t 39) (.t 38),none⟩])
 (.seq (.cond (.t 40) .skip
 (.exit 4))
 (.seq (.block 5 (.seq (.region [⟨(some 41),.iaddr 2 (.t 37) (.t 39),none⟩,⟨(some 42),.load (some 2) (.t 41),none⟩,⟨(some 9),.alloc [(.v (.int .i64 0)),(.v (.int .i64 0))],none⟩,⟨none,.store 2 (.t 9) (.t 42),none⟩])
 (.region [⟨(some 43),.mv (.t 3),none⟩,⟨(some 44),.faddr 0 (.t 9),none⟩,⟨(some 45),.load none (.t 44),none⟩,⟨(some 46),.faddr 1 (.t 9),none⟩,⟨(some 47),.load none (.t 46),none⟩,⟨(some 48),.iaddr 1 (.t 43) (.t 45),none⟩,⟨none,.store 1 (.t 48) (.t 47),none⟩])))
 (.region [⟨(some 49),.bin .add (.t 39) (.c (.v (.int .i64 1))),none⟩,⟨(some 39),.mv (.t 49),none⟩]))))))
def s1N:ACode:=.region [⟨(some 57),.bin .add (.t 31) (.c (.v (.int .i64 1))),none⟩,⟨(some 31),.mv (.t 57),none⟩]
structure StF (yl:Nat) (p:Pr) (B:List Row) (n:Nat) (f:Nat→AV):Prop where
 lt:KLt (B.length+1) f
 s0:f 0=.v (.yl yl)
 s1:f 1=.v (.iptr [.str p.name,.isl 2 (p.vars.map eVr),.isl 5 (p.evs.map eEv)] 0)
 s3:f 3=.sl B.length n 0 n
theorem ZCZ (yl:Nat) (p:Pr) (hS:PrS p) (B:List Row) (hR:SA B.length B) (g:Nat→AV) (hE:KLt B.length g) (h0:g 0=.v (.yl yl)) (h1:g 1=.v (.iptr [.str p.name,.isl 2 (p.vars.map eVr),.isl 5 (p.evs.map eEv)] 0)) (h3:g 3=.v .zsl) :
  run (QA Tryz.prog) qA s1V (kOf 58 g) B [] (fun ax e b l=>ax=.normal∧b=B∧l=[.live p.vars.length 1 (vs ((stV p 0).map eI))]∧∃f,e=kOf 58 f∧StF yl p B p.vars.length f):=by
 have hnv:=hS.nv
 simp (disch:=first|decide|omega) only[s1V,h0,h1,h3,List.length_map,go_sem]
 refine bI (ι:=Nat) 3 1 U3 (fun i=>[(13,.v (.int .i64 i)),(3,.sl B.length i 0 i)]) 1 (fun i=>[.live i 1 (vs (((p.vars.take i).map (·.init)).map eI))])
  (fun i=>i≤p.vars.length) (fun i=>p.vars.length-i) 0 (Nat.zero_le _) (by simp (disch:=first|decide|omega) only[h3,go_sem]) (by decide) rfl (by (repeat (first|exact hE.mono oM|refine KLt.up ?_ kL))) (by ((try simp (disch:=decide) only[h0,h1,go_sem])<;>exact kH)) (fun e=>qA.refl _ _ _) ?_
 intro g1 mH wD KB i hi
 by_cases LA:i<p.vars.length
 ·have UK:=M4 LA
  have hfl:(((p.vars.take i).map (·.init)).map eI).length=i:=by rw[List.length_map,List.length_map,List.length_take];omega
  have htk:(((p.vars.take i).map (·.init)).map eI).take i=((p.vars.take i).map (·.init)).map eI:=List.take_of_length_le (by rw[hfl];omega)
  have DX:((p.vars.take i).map (·.init)).map eI++[[.int .i64 p.vars[i].init]]=((p.vars.take (i+1)).map (·.init)).map eI:=by rw[bS LA,List.map_append,List.map_append];rfl
  simp (disch:=first|decide|omega) only[h0,h1,h3,KB,UK,iC,hfl,htk,DX,YA,cellsOf,List.length_map,go_sem]
  refine⟨i+1,LA,by simp only;omega,?_⟩
  exact qA.kround (p:=U3) (k:=1) (by ((repeat refine (gA rfl).trans ?_);exact wD)) (by ((try simp (disch:=decide) only[h0,h1,KB,go_sem])<;>exact kH)) rfl mH (by simp) kV hR kL
 ·obtain rfl:i=p.vars.length:=by omega
  have UH:(p.vars.take p.vars.length).map (·.init)=stV p 0:=by rw[List.take_length];rfl
  simp (disch:=first|decide|omega) only[h0,h1,h3,KB,List.length_map,go_sem]
  refine⟨by rw[UH],_,rfl,⟨?_,?_,?_,?_⟩⟩
  ·(repeat (first|exact mH.mono oM|refine KLt.up ?_ kL))
  ·simp (disch:=first|decide|omega) only[h0,h1,KB,go_sem]
  ·simp (disch:=first|decide|omega) only[h0,h1,KB,go_sem]
  ·simp (disch:=first|decide|omega) only[h0,h1,KB,go_sem]
structure StG (yl:Nat) (p:Pr) (B:List Row) (n k i:Nat) (f:Nat→AV):Prop where
 lt:KLt (B.length+k) f
 s0:f 0=.v (.yl yl)
 s1:f 1=.v (.iptr [.str p.name,.isl 2 (p.vars.map eVr),.isl 5 (p.evs.map eEv)] 0)
 s3:f 3=.sl B.length n 0 n
 s29:f 29=.v (.isl 5 (p.evs.map eEv))
 s30:f 30=.v (.int .i64 p.evs.length)
 s31:f 31=.v (.int .i64 i)
theorem ZC0 (yl:Nat) (p:Pr) (hS:PrS p) (B:List Row) (n:Nat) (l:List Row) (f:Nat→AV) (h:StF yl p B n f) :
  run (QA Tryz.prog) qA s1R (kOf 58 f) B l (fun ax e b l'=>ax=.normal∧b=B∧l'=l∧∃f',e=kOf 58 f'∧StG yl p B n 1 0 f'):=by
 have KH:=hS.ne
 have h1:=h.s1
 simp (disch:=first|decide|omega) only[s1R,h1,List.length_map,go_sem]
 refine⟨_,rfl,⟨?_,?_,?_,?_,?_,?_,?_⟩⟩
 ·have hE:=h.lt
  (repeat (first|exact hE.mono oM|refine KLt.up ?_ kL))
 ·have:=h.s0
  simp (disch:=first|decide|omega) only[this,go_sem]
 ·simp (disch:=first|decide|omega) only[h1,go_sem]
 ·have:=h.s3
  simp (disch:=first|decide|omega) only[this,go_sem]
 ·simp (disch:=first|decide|omega) only[h1,go_sem]
 ·simp (disch:=first|decide|omega) only[h1,go_sem]
 ·simp (disch:=first|decide|omega) only[h1,go_sem];rfl
theorem ZC4 (yl:Nat) (p:Pr) (B:List Row) (n i k:Nat) (l:List Row) (f:Nat→AV) (h:StG yl p B n k i f) :
  run (QA Tryz.prog) qA s1C (kOf 58 f) B l (fun ax e b l'=>ax=.normal∧b=B∧l'=l∧∃f',e=kOf 58 f'∧StG yl p B n k i f'∧f' 32=.v (.bool (decide ((i:Int)<(p.evs.length:Int))))):=by
 have h1:=h.s30
 have h2:=h.s31
 simp (disch:=first|decide|omega) only[s1C,h1,h2,go_sem]
 refine⟨_,rfl,⟨?_,?_,?_,?_,?_,?_,?_⟩,?_⟩
 ·have hE:=h.lt
  (repeat (first|exact hE.mono oM|refine KLt.up ?_ kL))
 ·have:=h.s0
  simp (disch:=first|decide|omega) only[this,go_sem]
 ·have:=h.s1
  simp (disch:=first|decide|omega) only[this,go_sem]
 ·have:=h.s3
  simp (disch:=first|decide|omega) only[this,go_sem]
 ·have:=h.s29
  simp (disch:=first|decide|omega) only[this,go_sem]
 ·simp (disch:=first|decide|omega) only[h1,go_sem]
 ·simp (disch:=first|decide|omega) only[h2,go_sem]
 ·simp (disch:=first|decide|omega) only[h2,go_sem]
def OR (e:Ev):Row:=.live 0 5 [[.v (.int .i64 e.kind),.v (.int .i64 e.peer),.v (.int .i64 e.msg),.v (.int .i64 e.time),.v (.isl 2 (e.asg.map ZM))]]
theorem ZC3 (yl:Nat) (p:Pr) (B:List Row) (n i:Nat) (hi:i<p.evs.length) (r:Row) (f:Nat→AV) (h:StG yl p B n 1 i f) :
  run (QA Tryz.prog) qA s1E (kOf 58 f) B [r] (fun ax e b l'=>ax=.normal∧b=B∧l'=[r,OR p.evs[i]]∧∃f',e=kOf 58 f'∧StG yl p B n 2 i f'∧(f' 6=.v (.int .i64 i)∧f' 7=.ptr (B.length+1) 0 0 0)∧KLt (B.length+1) (iF YG f')):=by
 have h1:=h.s29
 have h2:=h.s31
 have CK:=VK hi
 simp (disch:=first|decide|omega) only[s1E,h1,h2,CK,YA,cellsOf,go_sem]
 refine⟨rfl,_,rfl,⟨?_,?_,?_,?_,?_,?_,?_⟩,⟨?_,?_⟩,?_⟩
 ·have hE:=h.lt
  (repeat (first|exact hE.mono oM|refine KLt.up ?_ kL))
 ·have:=h.s0
  simp (disch:=first|decide|omega) only[this,go_sem]
 ·have:=h.s1
  simp (disch:=first|decide|omega) only[this,go_sem]
 ·have:=h.s3
  simp (disch:=first|decide|omega) only[this,go_sem]
 ·simp (disch:=first|decide|omega) only[h1,go_sem]
 ·have:=h.s30
  simp (disch:=first|decide|omega) only[this,go_sem]
 ·simp (disch:=first|decide|omega) only[h2,go_sem]
 ·simp (disch:=first|decide|omega) only[h2,go_sem]
 ·simp (disch:=first|decide|omega) only[h2,go_sem]
 ·have e1:∀f',iF YG f'=iF YG f→KLt (B.length+1) (iF YG f'):=fun f' he=>by rw[he];exact h.lt.any
  exact e1 _ (by (repeat refine (gA rfl).trans ?_);rfl)
theorem ZC2 (yl:Nat) (p:Pr) (hS:PrS p) (hO:OkA p) (B:List Row) (hR:SA B.length B) (i:Nat) (hi:i<p.evs.length) (f:Nat→AV) (h:StG yl p B p.vars.length 2 i f) (h6:f 6=.v (.int .i64 i)) (h7:f 7=.ptr (B.length+1) 0 0 0) (hlo:KLt (B.length+1) (iF YG f)) :
  run (QA Tryz.prog) qA s1I (kOf 58 f) B [.live p.vars.length 1 (vs ((stV p i).map eI)),OR p.evs[i]] (fun ax e b l'=>ax=.normal∧b=B∧l'=[.live p.vars.length 1 (vs ((stV p (i+1)).map eI)),OR p.evs[i]]∧∃f',e=kOf 58 f'∧StG yl p B p.vars.length 2 i f'∧f' 6=.v (.int .i64 i)∧KLt (B.length+1) (iF YG f')):=by
 obtain⟨e,he⟩:∃e,p.evs[i]=e:=⟨_,rfl⟩
 rw[he]
 have hme:e∈p.evs:=by rw[←he];exact List.getElem_mem hi
 have hna:=hS.na e hme
 have hnv:=hS.nv
 have UH:stV p (i+1)=yS (stV p i) e.asg e.asg.length:=by simp only[stV,apE,KA hi,he]
 have hE:=h.lt
 have h3:=h.s3
 unfold OR
 simp (disch:=first|decide|omega) only[s1I,h7,List.length_map,go_sem]
 refine tA (ι:=Nat) V3 (fun j=>[(39,.v (.int .i64 j))]) 2 (fun j=>[.live p.vars.length 1 (vs ((yS (stV p i) e.asg j).map eI)),OR e])
  (fun j=>j≤e.asg.length) (fun j=>e.asg.length-j) 0 (Nat.zero_le _) (by (repeat (first|exact hE.mono oM|refine KLt.up ?_ kL))) (by ((try simp (disch:=decide) only[h7,go_sem])<;>exact kH)) (fun e=>qA.refl _ _ _) ?_
 intro g3 hE3 XY NO j hj
 unfold OR
 by_cases VY:j<e.asg.length
 ·have hga:=ZA9 VY
  have hv:=hO e hme e.asg[j] (List.getElem_mem VY)
  have hfl:((yS (stV p i) e.asg j).map eI).length=p.vars.length:=by rw[List.length_map,vR,EI]
  obtain⟨q,hq⟩:∃q:Nat,e.asg[j].v=q:=⟨e.asg[j].v.toNat,by omega⟩
  have hqn:q<p.vars.length:=by omega
  have hqg:((yS (stV p i) e.asg j).map eI)[q]? = some [.int .i64 ((yS (stV p i) e.asg j).getD q 0)]:=mE (by rw[vR,EI];exact hqn)
  have fT:((yS (stV p i) e.asg j).map eI).set q [.int .i64 e.asg[j].val]=(yS (stV p i) e.asg (j+1)).map eI:=by rw[y7 VY,hq,Int.toNat_natCast,List.map_set];rfl
  simp (disch:=first|decide|omega) only[h3,h7,NO,hga,hq,hqg,fT,hfl,YA,cellsOf,List.length_map,go_sem]
  refine⟨j+1,VY,by simp only;omega,?_⟩
  exact qA.kround (p:=V3) (k:=2) (by ((repeat refine (gA rfl).trans ?_);exact XY)) (by ((try simp (disch:=decide) only[h3,h7,NO,go_sem])<;>exact kH)) rfl hE3 (by simp) kV hR kL
 ·obtain rfl:j=e.asg.length:=by omega
  simp (disch:=first|decide|omega) only[h3,h7,NO,List.length_map,go_sem]
  rw[UH]
  refine⟨rfl,_,rfl,⟨?_,?_,?_,?_,?_,?_,?_⟩,?_,?_⟩
  ·(repeat (first|exact hE3.mono oM|refine KLt.up ?_ kL))
  ·have:=h.s0
   simp (disch:=first|decide|omega) only[this,NO,go_sem]
  ·have:=h.s1
   simp (disch:=first|decide|omega) only[this,NO,go_sem]
  ·simp (disch:=first|decide|omega) only[h3,NO,go_sem]
  ·have:=h.s29
   simp (disch:=first|decide|omega) only[this,NO,go_sem]
  ·have:=h.s30
   simp (disch:=first|decide|omega) only[this,NO,go_sem]
  ·have:=h.s31
   simp (disch:=first|decide|omega) only[this,NO,go_sem]
  ·simp (disch:=first|decide|omega) only[h6,NO,go_sem]
  ·have e1:∀f',iF YG f'=iF YG f→KLt (B.length+1) (iF YG f'):=fun f' he=>by rw[he];exact hlo
   exact e1 _ (by (repeat refine (gA rfl).trans ?_);refine (wJ NO (XK rfl)).trans ?_;(repeat refine (gA rfl).trans ?_);rfl)
theorem ZC1 (yl:Nat) (p:Pr) (hS:PrS p) (B:List Row) (n i k:Nat) (hi:i<p.evs.length) (l:List Row) (f:Nat→AV) (h:StG yl p B n k i f) :
  run (QA Tryz.prog) qA s1N (kOf 58 f) B l (fun ax e b l'=>ax=.normal∧b=B∧l'=l∧∃f',e=kOf 58 f'∧StG yl p B n k (i+1) f'):=by
 have KH:=hS.ne
 have h2:=h.s31
 simp (disch:=first|decide|omega) only[s1N,h2,go_sem]
 refine⟨_,rfl,⟨?_,?_,?_,?_,?_,?_,?_⟩⟩
 ·have hE:=h.lt
  (repeat (first|exact hE.mono oM|refine KLt.up ?_ kL))
 ·have:=h.s0
  simp (disch:=first|decide|omega) only[this,go_sem]
 ·have:=h.s1
  simp (disch:=first|decide|omega) only[this,go_sem]
 ·have:=h.s3
  simp (disch:=first|decide|omega) only[this,go_sem]
 ·have:=h.s29
  simp (disch:=first|decide|omega) only[this,go_sem]
 ·have:=h.s30
  simp (disch:=first|decide|omega) only[this,go_sem]
 ·simp (disch:=first|decide|omega) only[h2,go_sem];rfl
end Go.Proofs.YtoccdlnoaindmaaGreatDoor
namespace Go.Proofs.YtoccdlnoaindmaaGreatDoor
open Go.RowKit
set_option linter.unusedVariables false
set_option linter.unusedSimpArgs false
attribute [local go_sem] Oper.semAt_some
theorem ZDA {P:Program} {nn N:Nat} {F0:Nat→Prop} {m0:Nat} {J:World→Prop} {f:Nat→AV} {l:List Row} {a:Act} {w:World} {s:Nat} {t:Bool} {x y:Code} {K:Exit→Act→World→Prop} (h:eN F0 m0 J (kOf N f) l a w) (hs:s<N) (hf:f s=.v (.bool t))
  (hx:(if t=true then x else y).wpIn Fence.wide nn P K a w):(Code.cond (.tmp s) x y).wpIn Fence.wide nn P K a w:=by
 obtain⟨F,L,s',he,_⟩:=h
 have hr:=he.nth s
 rw[fD hs,hf]at hr
 refine wpIn_cond (OK hr) ?_
 cases t
 ·exact hx
 ·exact hx
theorem ZCz {F0:Nat→Prop} {m0:Nat} {J:World→Prop} {B:List Row} (hB:B=[]) {e e':List AV} {l l':List Row} (hw:qA e B l e' B l') {a:Act} {w:World} (h:eN F0 m0 J e l a w):eN F0 m0 J e' l' a w:=by
 subst hB
 obtain⟨F,L,s,he,h1,h2,h3,h4,h5⟩:=h
 obtain⟨F',L',s',he',st,_⟩:=hw F L w a s he
 refine⟨F',L',s',he',fun k hk=>st.imm k (h1 k hk),fun k hk=>?_,fun k hk=>?_,h4,h5⟩
 ·rcases Nat.lt_or_ge k w.heap.size with LA|CK
  ·rcases st.fnew k LA hk with hf|ho
   ·exact h2 k hf
   ·exact .inr (h3 k ho)
  ·exact .inr oM
 ·rcases Nat.lt_or_ge k w.heap.size with LA|CK
  ·exact h3 k (st.own k LA hk)
  ·omega
theorem xX {w:World} {F:Nat→Prop} {v:List Int} {u:Value} (h:RepI w F (.isl 1 (v.map eI)) u):RepI w (fun k=>k<w.heap.size) (.isl 1 (v.map eI)) u:=by
 obtain⟨A,c,rfl,h2,h3,h4⟩:=qI h
 refine BQ h2 h3 (fun h0=>?_)
 obtain⟨b,off,h5,h6,h7⟩:=h4 h0
 have LA:b<w.heap.size:=by
  have hk:0<(v.map eI).length:=h0
  obtain⟨g1,g2⟩:=h7 0 (v.map eI)[0] (List.getElem?_eq_getElem hk)
  have hj:0<((v.map eI)[0]).length:=by rw[g1];decide
  obtain⟨x,hx,_⟩:=g2 0 _ (List.getElem?_eq_getElem hj)
  obtain⟨o,ho,_⟩:=not_walk_of_cell hx
  exact (Array.getElem?_eq_some_iff.1 ho).1
 refine⟨b,off,h5,LA,fun k row hk=>?_⟩
 obtain⟨g1,g2⟩:=h7 k row hk
 refine⟨g1,fun j a hj=>?_⟩
 obtain⟨x,hx,hr⟩:=g2 j a hj
 refine⟨x,hx,?_⟩
 rw[List.getElem?_map]at hk
 cases hq:v[k]? with
 |none=>rw[hq]at hk;cases hk
 |some z =>
   rw[hq]at hk;cases hk
   cases j with
   |zero=>simp[eI]at hj;subst hj;cases hr;exact .int _ _
   |succ j=>simp[eI]at hj
theorem bO (v:List Int) (hn:v.length≤1000000) (w:World) (u:Value) (hu:RepI w (fun k=>k<w.heap.size) (.isl 1 (v.map eI)) u):Calls Tryz.prog 119 #[u] w fun e w'=>∃vv,e=.returned vv∧Ext w w'∧RepI w' (fun k=>w.heap.size≤k∧k<w'.heap.size) (.isl 1 (v.map eI)) vv:=by
 have no:∀k,¬LC (fun _ _=>none) ([]++[]) k:=by rintro k ⟨i,v,s,e1,q,h1,h2,h3⟩;cases h2
 have h:=(SH v hn [] []).2 (fun k=>k<w.heap.size) (fun _ _=>none) w #[u] (O2 (fun _ h=>h)) (MA.cons (.v _ _ hu) MA.nil)
 refine Calls.mono h ?_
 rintro en w' ⟨vv,x,b',l',F',L',h1,h2,h3,h4,h5,rfl,rfl,rfl⟩
 refine⟨vv,h1,⟨h4.os,h4.tape,h4.output,h4.size,fun k hk=>h4.block k hk (no k)⟩,?_⟩
 have yE:=h3.row 0 1 1 (vs (v.map eI)) rfl
 have hd:RepA w' (FD F' L' 0 [.live 1 1 (vs (v.map eI))]) L' (.v (.isl 1 (v.map eI))) vv:=(Dv.slV (n:=0) (i:=0) rfl (by rw[List.length_map])).rep (b:=[]) h3 vv h2
 obtain⟨A,c,rfl,g2,g3,g4⟩:=qI hd.vI
 refine BQ g2 g3 (fun h0=>?_)
 obtain⟨b,off,rfl,h6,h7⟩:=g4 h0
 have GM:w.heap.size≤b:=by
  rcases Nat.lt_or_ge b w.heap.size with LA|CK
  ·exfalso
   have hb:F' b:=h4.imm b LA
   refine (h3.imm b hb).2 ?_
   obtain⟨q,g5,g6⟩:=yE
   refine⟨0,1,1,_,q,rfl,g5,?_⟩
   generalize lS:Value.slice (some ⟨b,off,none⟩) (v.map eI).length c=vv at h2
   generalize hll:v.length=ll at h2
   cases h2 with
   |sl id ver off' len b0 o sz cap hL rK hm =>
     rw[show ([]:List Row).length+([]:List Row).length=0 from rfl]at hL
     rw[hL]at g5;cases g5
     injection lS with e1 e2 e3
     injection e1 with e4
     injection e4 with e5 e6
     exact e5.symm
   |slz id ver off' b0 o sz cap x hL he =>
     injection lS with e1 e2 e3
     omega
   |sln id ver ad hL =>
     injection lS with e1 e2 e3
     omega
  ·exact CK
 have ME:b<w'.heap.size:=by
  have hk:0<(v.map eI).length:=h0
  obtain⟨g1,g2⟩:=h7 0 (v.map eI)[0] (List.getElem?_eq_getElem hk)
  have hj:0<((v.map eI)[0]).length:=by rw[g1];decide
  obtain⟨x,hx,_⟩:=g2 0 _ (List.getElem?_eq_getElem hj)
  obtain⟨o,ho,_⟩:=not_walk_of_cell hx
  exact (Array.getElem?_eq_some_iff.1 ho).1
 refine⟨b,off,rfl,⟨GM,ME⟩,fun k row hk=>?_⟩
 obtain⟨g1,g2⟩:=h7 k row hk
 refine⟨g1,fun j a hj=>?_⟩
 obtain⟨x,hx,hr⟩:=g2 j a hj
 refine⟨x,hx,?_⟩
 rw[List.getElem?_map]at hk
 cases hq:v[k]? with
 |none=>rw[hq]at hk;cases hk
 |some z =>
   rw[hq]at hk;cases hk
   cases j with
   |zero=>simp[eI]at hj;subst hj;cases hr;exact .int _ _
   |succ j=>simp[eI]at hj
theorem fH {N s:Nat} {F0:Nat→Prop} {m0:Nat} {J:World→Prop} {f:Nat→AV} {l:List Row} {a:Act} {w:World} {v:Value} (h:eN F0 m0 J (kOf N f) l a w):eN F0 m0 J (kOf N (kUp f s .any)) l (a.put (some s) v) w:=by
 obtain⟨F,L,s',he,h⟩:=h
 refine⟨F,L,s',?_,h⟩
 have:=he.put (some s) (RepA.any (w:=w) (F:=F) (L:=L) v)
 rwa [dD]at this
theorem ZC5 (B:List Row) (g:Nat→AV):run (QA Tryz.prog) qA s1A (kOf 58 g) B [] (fun ax e b l=>ax=.normal∧b=B∧l=[]∧e=kOf 58 (kUp g 3 (.v .zsl))):=⟨rfl,rfl,rfl,dD (n:=3)⟩
theorem rY (n:Nat) (hn:1≤n) (p:Pr) (hS:PrS p) (hO:OkA p) (l Bt:Nat) (W:World) (F0:Nat→Prop) (hF0:∀k,F0 k→k<W.heap.size)
  (hp:RepI W F0 (.iptr [.str p.name,.isl 2 (p.vars.map eVr),.isl 5 (p.evs.map eEv)] 0) (.pointer (some ⟨Bt,0,none⟩))) (J:Nat→World→Prop) (Jx:World→Prop)
  (hJ:∀i A B,J i A→Below W.heap.size A B→J i B)
  (hY:∀i v W1,i≤p.evs.length→J i W1→W.heap.size≤W1.heap.size→RepI W1 (fun k=>W.heap.size≤k∧k<W1.heap.size) (.isl 1 ((stV p i).map eI)) v →
   YieldAt Fence.wide (n-1) Tryz.prog l #[.int .i64 i,v] W1 fun e W'=>(e=.returned (.bool true)∧J (i+1) W'∧KeepF F0 W.heap.size W1 W')∨(e=.returned (.bool false)∧Jx W'))
  (h0:J 0 W) :
  CallsIn Fence.wide n Tryz.prog 172 #[.func (.yield l) #[] #[],.pointer (some ⟨Bt,0,none⟩)] W fun e W'=>(∃v,e=.returned v)∧(J (p.evs.length+1) W'∨Jx W'):=by
 obtain⟨B,hB⟩:∃B:List Row,B=[]:=⟨[],rfl⟩
 have hR:SA B.length B:=by rw[hB];exact SE
 obtain⟨m0,hm0⟩:∃m0,m0=W.heap.size:=⟨_,rfl⟩
 rw[←hm0]at hJ hY
 have hJ0:∀i,∀A B,J i A→Low0 m0 A B→J i B:=fun i A B h k=>hJ i A B h k
 refine callsIn_of_wp Tryz.func172 rfl trivial ?_ rfl
 rw[Tryz.ntmps172]
 have mT:MA W F0 (fun _ _=>none) [.v (.yl l),.v (.iptr [.str p.name,.isl 2 (p.vars.map eVr),.isl 5 (p.evs.map eEv)] 0)] (#[.func (.yield l) #[] #[],.pointer (some ⟨Bt,0,none⟩)]:Array Value).toList:=MA.cons (.v _ _ (.yl l)) (MA.cons (.v _ _ hp) MA.nil)
 have hes:=Q7 mT 58 (by simp)
 obtain⟨a0,ha0⟩:∃a0:Act,a0={tmps:=#[.func (.yield l) #[] #[],.pointer (some ⟨Bt,0,none⟩)]++Array.replicate (58-(#[.func (.yield l) #[] #[],.pointer (some ⟨Bt,0,none⟩)]:Array Value).size) undef,defers:=[]}:=⟨_,rfl⟩
 rw[←ha0]at hes⊢
 obtain⟨g0,hg0⟩:∃g0:Nat→AV,g0=fun i=>([.v (.yl l),.v (.iptr [.str p.name,.isl 2 (p.vars.map eVr),.isl 5 (p.evs.map eEv)] 0)]:List AV).getD i (.tup []):=⟨_,rfl⟩
 rw[←hg0]at hes
 have z0:g0 0=.v (.yl l):=by rw[hg0];rfl
 have z1:g0 1=.v (.iptr [.str p.name,.isl 2 (p.vars.map eVr),.isl 5 (p.evs.map eEv)] 0):=by rw[hg0];rfl
 have hE0:KLt B.length g0:=fun i=>by
  rw[hg0]
  match i with
  |0=>exact .v _
  |1=>exact .v _
  |i+2=>exact .tup _ (by simp)
 clear hg0 ha0
 have at0:eN F0 m0 (J 0) (kOf 58 g0) [] a0 W:=by
  refine⟨F0,fun _ _=>none,O2 hF0,hes,fun _ h=>h,fun _ h=>.inl h,fun k hk=>?_,by rw[hm0];exact Nat.le_refl _,h0⟩
  obtain⟨i,ver,sz,els,q,h1,h2,h3⟩:=hk
  cases h2
 refine wpIn_seq (yI (ac:=s1A) (hJ0 0) (by kernel_rfl) hB (Q:=fun ax e b l=>ax=.normal∧b=B∧l=[]∧e=kOf 58 (kUp g0 3 (.v .zsl))) (ZC5 B g0) at0 ?_)
 rintro ex a1 w1 ax e1 l1 hex ⟨rfl,_,rfl,rfl⟩ at1
 cases ex<;>first|exact hex.elim|skip
 simp only[Exit.then]
 refine wpIn_seq (yI (ac:=s1V) (hJ0 0) (by kernel_rfl) hB (ZCZ l p hS B hR _ (hE0.up (.v _)) ?_ ?_ gC) at1 ?_)
 ·rw[rC (by decide)];exact z0
 ·rw[rC (by decide)];exact z1
 clear at0 at1 hes hE0
 rintro ex a2 w2 ax e2 l2 hex ⟨rfl,_,rfl,f,rfl,hf⟩ at2
 cases ex<;>first|exact hex.elim|skip
 simp only[Exit.then]
 refine wpIn_seq ?_
 generalize hK:Exit.then _ _=K
 obtain⟨F,L,s,he,q1,q2,q3,q4,q5⟩:=at2
 obtain⟨tm,df⟩:=a2
 obtain rfl:df=[]:=he.1
 have sM:tm.toList.length=58:=by have:=he.2.1;rw[PH]at this;simpa using this
 obtain⟨v0,v1,v2,v3,v4,v5,v6,v7,v8,v9,v10,v11,v12,v13,v14,v15,v16,v17,v18,v19,v20,v21,v22,v23,v24,v25,v26,v27,v28,v29,v30,v31,v32,v33,v34,v35,v36,v37,v38,v39,v40,v41,v42,v43,v44,v45,v46,v47,v48,v49,v50,v51,v52,v53,v54,v55,v56,v57,hT⟩:=ZDq tm.toList sM
 obtain rfl:tm=#[v0,v1,v2,v3,v4,v5,v6,v7,v8,v9,v10,v11,v12,v13,v14,v15,v16,v17,v18,v19,v20,v21,v22,v23,v24,v25,v26,v27,v28,v29,v30,v31,v32,v33,v34,v35,v36,v37,v38,v39,v40,v41,v42,v43,v44,v45,v46,v47,v48,v49,v50,v51,v52,v53,v54,v55,v56,v57]:=Array.toList_inj.1 (by rw[hT])
 have e0:RepA w2 F L (f 0) v0:=he.2.2 0 _ v0 (by rw[LE];rfl) rfl
 have e3:RepA w2 F L (f 3) v3:=he.2.2 3 _ v3 (by rw[LE];rfl) rfl
 rw[hf.s0]at e0
 cases e0.vI
 rw[hf.s3,hB]at e3
 have hp3:RepI w2 (fun k=>k<w2.heap.size) (.isl 1 ((stV p 0).map eI)) v3:=by
  have hd:Dv ([]:List Row).length [.live p.vars.length 1 (vs ((stV p 0).map eI))] (.sl 0 p.vars.length 0 p.vars.length) (.v (.isl 1 ((stV p 0).map eI))):=Dv.slV (n:=0) (i:=0) rfl (by rw[List.length_map,EI])
  exact xX (hd.rep (b:=[]) s v3 e3).vI
 obtain⟨A3,c3,hv3,_⟩:=qI hp3
 rw[List.length_map]at hv3
 subst hv3
 have hC:=bO (stV p 0) (by rw[EI];exact hS.nv) w2 _ hp3
 have hCe:=jA hC
 clear hC hp3 e3 hT sM
 gi_wp2
 refine⟨trivial,CallsIn.mono (callsIn_wide.2 hCe.out) ?_⟩
 rintro en w3 ⟨vv,rfl,yD,hx⟩
 have hi3:=hx.mono (F':=fun k=>m0≤k∧k<w3.heap.size) (fun b hb=>⟨Nat.le_trans q4 hb.1,hb.2⟩) (fun _ _=>rfl)
 have hJ3:=hJ 0 w2 w3 q5 (Below.mono yD q4)
 obtain⟨fn,tmps,assign,body,hy,hRd⟩:=hY 0 vv w3 (Nat.zero_le _) hJ3 (Nat.le_trans q4 yD.size) hi3
 have hy0:(Instr.yield l #[.int .i64 0,vv]).run Tryz.prog w3=.ok (.round l fn tmps assign body) w3:=hy
 clear hy
 have hRe:=jA hRd
 clear hRd hi3 hx
 gi_wp2
 have hkp:KeepF F0 m0 w2 w3:=⟨yD.size,yD.os,yD.tape,yD.output,fun k hk _=>yD.block k hk⟩
 refine hRe.out.mono ?_
 rintro e W3 (⟨rfl,hJ4,hk4⟩|⟨rfl,ZFn⟩)
 case inr =>
  gi_wp2
  rw[←hK]
  simp only[Exit.then]
  refine bodyPost_ret (results_none rfl _ _ _) rfl ?_
  exact⟨⟨_,rfl⟩,.inr ZFn⟩
 gi_wp2
 rw[←hK]
 simp only[Exit.then]
 have at3:=fH (s:=27) (v:=.bool false) (fH (s:=26) (v:=.bool true) (fH (s:=25) (v:=vv) (fH (s:=24) (v:=.slice A3 (stV p 0).length c3) (fH (s:=23) (v:=.func (.yield l) #[] #[])
  (eN.keep (J':=J 1) (⟨F,L,s,he,q1,q2,q3,q4,q5⟩:eN F0 m0 (J 0) _ _ _ w2) (hkp.trans hk4) rfl hJ4)))))
 clear hK he s q1 q2 q3
 have hf2:StF l p B p.vars.length (kUp (kUp (kUp (kUp (kUp f 23 .any) 24 .any) 25 .any) 26 .any) 27 .any):=by
  refine⟨?_,?_,?_,?_⟩
  ·have hE:=hf.lt
   exact ((((hE.up .any).up .any).up .any).up .any).up .any
  ·simp only[rC,ne_eq,Nat.reduceEqDiff,not_false_eq_true];exact hf.s0
  ·simp only[rC,ne_eq,Nat.reduceEqDiff,not_false_eq_true];exact hf.s1
  ·simp only[rC,ne_eq,Nat.reduceEqDiff,not_false_eq_true];exact hf.s3
 generalize hK:bodyPost _ _ _=K2
 refine wpIn_seq (yI (ac:=s1R) (hJ0 1) (by kernel_rfl) hB (ZC0 l p hS B _ _ _ hf2) at3 ?_)
 clear at3
 rintro ex a4 w4 ax e4 l4 hex ⟨rfl,_,rfl,f4,rfl,hg4⟩ at4
 cases ex<;>first|exact hex.elim|skip
 simp only[Exit.then]
 refine wpIn_block ?_
 refine wpIn_loop_ghost (fun m a w=>∃i f,m=p.evs.length-i∧i≤p.evs.length∧StG l p B p.vars.length 1 i f∧eN F0 m0 (J (i+1)) (kOf 58 f) [.live p.vars.length 1 (vs ((stV p i).map eI))] a w) _ ⟨0,f4,rfl,Nat.zero_le _,hg4,at4⟩ ?_
 clear at4 hg4 hf2 hf
 rintro m a5 w5 ⟨i,f5,rfl,hi,hg5,at5⟩
 generalize hK3:Exit.then _ _=K3
 refine wpIn_seq (yI (ac:=s1C) (hJ0 (i+1)) (by kernel_rfl) hB (ZC4 l p B _ i 1 _ f5 hg5) at5 ?_)
 clear at5 hg5
 rintro ex a6 w6 ax e6 l6 hex ⟨rfl,_,rfl,f6,rfl,hg6,hb6⟩ at6
 cases ex<;>first|exact hex.elim|skip
 simp only[Exit.then]
 refine wpIn_seq (ZDA (s:=32) at6 (by decide) hb6 ?_)
 by_cases LA:i<p.evs.length
 case neg =>
  obtain rfl:i=p.evs.length:=by omega
  rw[if_neg (by simp)]
  refine wpIn_exit ?_
  simp only[Exit.then]
  rw[←hK3]
  simp only[Exit.then,Exit.inBlock,if_true]
  rw[←hK]
  obtain⟨F6,L6,s6,he6,_,_,_,_,hJ6⟩:=at6
  exact bodyPost_end (results_none rfl _ _ _) he6.1 ⟨⟨_,rfl⟩,.inl hJ6⟩
 rw[if_pos (by simp;omega)]
 refine wpIn_skip ?_
 simp only[Exit.then]
 refine wpIn_seq (wpIn_block ?_)
 generalize hK4:Exit.inBlock _ _=K4
 refine wpIn_seq (yI (ac:=s1E) (hJ0 (i+1)) (by kernel_rfl) hB (ZC3 l p B _ i LA _ f6 hg6) at6 ?_)
 clear at6 hg6
 rintro ex a7 w7 ax e7 l7 hex ⟨rfl,_,rfl,f7,rfl,hg7,⟨h76,h77⟩,ZHN⟩ at7
 cases ex<;>first|exact hex.elim|skip
 simp only[Exit.then]
 refine wpIn_seq (yI (ac:=s1I) (hJ0 (i+1)) (by kernel_rfl) hB (ZC2 l p hS hO B hR i LA f7 hg7 h76 h77 ZHN) at7 ?_)
 clear at7 hg7 h76 h77 ZHN
 rintro ex a8 w8 ax e8 l8 hex ⟨rfl,_,rfl,f8,rfl,hg8,h86,ZFo⟩ at8
 cases ex<;>first|exact hex.elim|skip
 simp only[Exit.then]
 have at9:=ZCz hB (qA.kround (p:=YG) (ov:=[(6,.v (.int .i64 i)),(31,.v (.int .i64 i))]) (l1:=[.live p.vars.length 1 (vs ((stV p (i+1)).map eI))]) (junk:=[OR p.evs[i]]) (k:=1) rfl ⟨h86,hg8.s31,trivial⟩ rfl ZFo (by simp) ⟨.v _,.v _,trivial⟩ hR (by simp only[UE,qK,SE,and_self])) at8
 obtain⟨f9,hf9⟩:∃f9,f9=kOv [(6,.v (.int .i64 i)),(31,.v (.int .i64 i))] (iF YG f8):=⟨_,rfl⟩
 rw[←hf9]at at9
 have hg9:StG l p B p.vars.length 1 i f9:=by
  have hn:∀s,kIn YG s=false→f9 s=f8 s:=fun s hs=>by
   rw[hf9,QC,QC,ED]
   have h6:6≠s:=fun e=>by subst e;cases hs
   have h31:31≠s:=fun e=>by subst e;cases hs
   rw[rC h6,rC h31,EQ hs]
  refine⟨?_,?_,?_,?_,?_,?_,?_⟩
  ·rw[hf9];exact (ZFo).ov (ov:=[(6,.v (.int .i64 i)),(31,.v (.int .i64 i))]) ⟨.v _,.v _,trivial⟩
  ·rw[hn 0 rfl];exact hg8.s0
  ·rw[hn 1 rfl];exact hg8.s1
  ·rw[hn 3 rfl];exact hg8.s3
  ·rw[hn 29 rfl];exact hg8.s29
  ·rw[hn 30 rfl];exact hg8.s30
  ·rw[hf9,QC,QC,rC (by decide),gC]
 have h96:f9 6=.v (.int .i64 i):=by rw[hf9,QC,gC]
 clear hf9 hg8 ZFo h86 at8
 refine wpIn_seq ?_
 obtain⟨F,L,s,he,q1,q2,q3,q4,q5⟩:=at9
 obtain⟨tm,df⟩:=a8
 obtain rfl:df=[]:=he.1
 have sM:tm.toList.length=58:=by have:=he.2.1;rw[PH]at this;simpa using this
 obtain⟨u0,u1,u2,u3,u4,u5,u6,u7,u8,u9,u10,u11,u12,u13,u14,u15,u16,u17,u18,u19,u20,u21,u22,u23,u24,u25,u26,u27,u28,u29,u30,u31,u32,u33,u34,u35,u36,u37,u38,u39,u40,u41,u42,u43,u44,u45,u46,u47,u48,u49,u50,u51,u52,u53,u54,u55,u56,u57,hT⟩:=ZDq tm.toList sM
 obtain rfl:tm=#[u0,u1,u2,u3,u4,u5,u6,u7,u8,u9,u10,u11,u12,u13,u14,u15,u16,u17,u18,u19,u20,u21,u22,u23,u24,u25,u26,u27,u28,u29,u30,u31,u32,u33,u34,u35,u36,u37,u38,u39,u40,u41,u42,u43,u44,u45,u46,u47,u48,u49,u50,u51,u52,u53,u54,u55,u56,u57]:=Array.toList_inj.1 (by rw[hT])
 have e0:RepA w8 F L (f9 0) u0:=he.2.2 0 _ u0 (by rw[LE];rfl) rfl
 have e3:RepA w8 F L (f9 3) u3:=he.2.2 3 _ u3 (by rw[LE];rfl) rfl
 have e6:RepA w8 F L (f9 6) u6:=he.2.2 6 _ u6 (by rw[LE];rfl) rfl
 rw[hg9.s0]at e0
 cases e0.vI
 rw[h96]at e6
 cases e6.vI
 rw[hg9.s3,hB]at e3
 have hp3:RepI w8 (fun k=>k<w8.heap.size) (.isl 1 ((stV p (i+1)).map eI)) u3:=by
  have hd:Dv ([]:List Row).length [.live p.vars.length 1 (vs ((stV p (i+1)).map eI))] (.sl 0 p.vars.length 0 p.vars.length) (.v (.isl 1 ((stV p (i+1)).map eI))):=Dv.slV (n:=0) (i:=0) rfl (by rw[List.length_map,EI])
  exact xX (hd.rep (b:=[]) s u3 e3).vI
 obtain⟨A3,c3,hv3,_⟩:=qI hp3
 rw[List.length_map]at hv3
 subst hv3
 have hC:=bO (stV p (i+1)) (by rw[EI];exact hS.nv) w8 _ hp3
 have hCe:=jA hC
 have KH:=hS.ne
 have hwi:IntKind.i64.wrap ((i:Int)+1)=((i+1:Nat):Int):=by rw[VB oM oM];omega
 clear hC hp3 e3 hT sM
 gi_wp2
 refine⟨trivial,CallsIn.mono (callsIn_wide.2 hCe.out) ?_⟩
 rintro en w9 ⟨vv,rfl,yD,hx⟩
 have hi3:=hx.mono (F':=fun k=>m0≤k∧k<w9.heap.size) (fun b hb=>⟨Nat.le_trans q4 hb.1,hb.2⟩) (fun _ _=>rfl)
 have hJ3:=hJ (i+1) w8 w9 q5 (Below.mono yD q4)
 obtain⟨fn,tmps,assign,body,hy,hRd⟩:=hY (i+1) vv w9 oM hJ3 (Nat.le_trans q4 yD.size) hi3
 have hy1:(Instr.yield l #[.int .i64 ((i:Int)+1),vv]).run Tryz.prog w9=.ok (.round l fn tmps assign body) w9:=hy
 clear hy
 have hRe:=jA hRd
 clear hRd hi3 hx
 gi_wp2
 have hkp:KeepF F0 m0 w8 w9:=⟨yD.size,yD.os,yD.tape,yD.output,fun k hk _=>yD.block k hk⟩
 refine hRe.out.mono ?_
 rintro e W3 (⟨rfl,hJ4,hk4⟩|⟨rfl,ZFn⟩)
 case inr =>
  gi_wp2
  rw[←hK4]
  simp only[Exit.then,Exit.inBlock]
  rw[←hK3]
  simp only[Exit.then,Exit.inBlock]
  rw[←hK]
  refine bodyPost_ret (results_none rfl _ _ _) rfl ?_
  exact⟨⟨_,rfl⟩,.inr ZFn⟩
 gi_wp2
 rw[←hK4]
 simp only[Exit.then,Exit.inBlock]
 have ata:=fH (s:=56) (v:=.bool false) (fH (s:=55) (v:=.bool true) (fH (s:=54) (v:=vv) (fH (s:=53) (v:=.slice A3 (stV p (i+1)).length c3) (fH (s:=52) (v:=.int .i64 ((i+1:Nat):Int)) (fH (s:=51) (v:=.int .i64 i) (fH (s:=50) (v:=.func (.yield l) #[] #[])
  (eN.keep (J':=J (i+1+1)) (⟨F,L,s,he,q1,q2,q3,q4,q5⟩:eN F0 m0 (J (i+1)) _ _ _ w8) (hkp.trans hk4) rfl hJ4)))))))
 have hga:StG l p B p.vars.length 1 i (kUp (kUp (kUp (kUp (kUp (kUp (kUp f9 50 .any) 51 .any) 52 .any) 53 .any) 54 .any) 55 .any) 56 .any):=by
  refine⟨?_,?_,?_,?_,?_,?_,?_⟩
  ·have hE:=hg9.lt
   exact ((((((hE.up .any).up .any).up .any).up .any).up .any).up .any).up .any
  ·simp only[rC,ne_eq,Nat.reduceEqDiff,not_false_eq_true];exact hg9.s0
  ·simp only[rC,ne_eq,Nat.reduceEqDiff,not_false_eq_true];exact hg9.s1
  ·simp only[rC,ne_eq,Nat.reduceEqDiff,not_false_eq_true];exact hg9.s3
  ·simp only[rC,ne_eq,Nat.reduceEqDiff,not_false_eq_true];exact hg9.s29
  ·simp only[rC,ne_eq,Nat.reduceEqDiff,not_false_eq_true];exact hg9.s30
  ·simp only[rC,ne_eq,Nat.reduceEqDiff,not_false_eq_true];exact hg9.s31
 refine yI (ac:=s1N) (hJ0 (i+1+1)) (by kernel_rfl) hB (ZC1 l p hS B _ i 1 LA _ _ hga) ata ?_
 rintro ex ab wb ax eb lb hex ⟨rfl,_,rfl,fb,rfl,hgb⟩ atb
 cases ex<;>first|exact hex.elim|skip
 rw[←hK3]
 exact⟨p.evs.length-(i+1),by omega,i+1,fb,rfl,LA,hgb,atb⟩
end Go.Proofs.YtoccdlnoaindmaaGreatDoor
namespace Go.Proofs.YtoccdlnoaindmaaGreatDoor
set_option linter.unusedVariables false

theorem QA.of_newA {P:Program} {f:Nat} {args:List AV} {b l:List Row} {Q:AV→List Row→List Row→Prop} (hf:∃fn,P.funcs[f]? = some fn∧(fn.name == "runtime.NumGoroutine")=false∧fn.body.isSome=true)
  (h:∀F L w (vs:Array Value),(∀b,F b→b<w.heap.size)→MA w F L args vs.toList→Calls P f vs w fun en w'=>Ext w w'∧∃v x F',en=.returned v∧(∀b,F b→F' b)∧(∀b,b<w.heap.size→F' b→F b)∧(∀b,F' b→b<w'.heap.size)∧RepA w' F' (fun _ _=>none) x v∧Q x b l):QA P f args b l Q:=by
 refine⟨hf,fun F L w vs s hr=>Calls.mono (h F L w vs (fun b hb=>(s.imm b hb).1) hr) ?_⟩
 rintro en w' ⟨he,v,x,F',h1,h2,h3,h4,h5,h6⟩
 have WM:∀k,k<w.heap.size→w'.heap[k]? = w.heap[k]?:=he.block
 have mF:∀k,LC L (b++l) k→k<w.heap.size:=by
  rintro k ⟨id,ver,sz,els,q0,k1,k2,k3⟩
  obtain⟨q,q1,q2⟩:=s.row id ver sz els k1
  rw[k2]at q1;cases q1
  exact q2.lt k3
 refine⟨v,x,b,l,F',L,h1,h5.mono (fun _ h=>h) (fun _ _=>rfl) (fun _ _ _ h=>by cases h),⟨fun i v z els hi=>?_,s.born,s.apart,fun k hk=>⟨h4 k hk,fun ho=>(s.imm k (h3 k (mF k ho) hk)).2 ho⟩,s.glob.mono h2 (fun k hk=>WM k (s.imm k hk).1)⟩,
  ⟨h2,fun _ _ _ _ h=>h,he.os,he.tape,he.output,he.size,fun k hk _=>WM k hk,fun _ _ h=>h,fun _ _ _ h=>h,fun k hk hf=>.inl (h3 k hk hf)⟩,rfl,h6⟩
 obtain⟨q,g1,g2⟩:=s.row i v z els hi
 exact⟨q,g1,g2.mono (fun k hk=>WM k (g2.lt hk)) (fun _ _ hx=>hx.mono h2 (fun k hk=>WM k (s.imm k hk).1) (fun _ _ _ h=>h))⟩

open Go.RowKit
set_option linter.unusedSimpArgs false
attribute [local go_sem] Oper.semAt_some
theorem dY (u0 u1 u2:Value) (w:World):Calls Tryz.prog 143 #[.agg #[u0,u1,u2]] w fun e w'=>e=.returned (.func (.func 172) #[] #[.pointer (some ⟨w.heap.size,0,none⟩)])∧w'=w.alloc (.cells #[u0,u1,u2] 76):=by
 go_enter Tryz.func143,Tryz.ntmps143
 go_wp2_with fail
 go_ret
 exact⟨rfl,rfl⟩
theorem eY {F:Fence} (hro:F.round=none) (hFa:∀f,F.fn f) {P:Program} {n:Nat} {g:Operand} {ps:Array Tmp} {assign body:Code} {Q:Exit→Act→World→Prop} {a:Act} {w:World} (h1:1≤n) {gf:Nat} {lb:Array Value} (hg:a.eval g=.func (.func gf) #[] lb) (eg:∀args w,(callFunc gf args).run P w=.ok (.enter gf args) w)
  (ZER:∀(fn:FuncId) (rec:LoopState→Option Code→Loop) (W1:World),(rec=fun st pe=>{state:=st,pending:=pe,fn:=fn,tmps:=a.tmps,params:=ps,assign:=assign,body:=body,defers:=w.heap.size}) →
   (w.alloc (.deferred (some []))).alloc (.loop (rec .ready none))=W1 →
   CallsIn F (n-1) P gf (#[.func (.yield (w.heap.size+1)) #[] #[]]++lb) W1 (rangePost F n P (w.heap.size+1) Q {a with defers:={target:=.collected w.heap.size,args:=#[]}::a.defers})) :
  (Code.rangeFunc g ps assign body).wpIn F n P Q a w:=by
 refine wpIn_rangeFunc ?_
 intro fn hfn
 rw[hro]
 obtain⟨rec,DT⟩:∃rec:LoopState→Option Code→Loop,rec=fun st pe=>{state:=st,pending:=pe,fn:=fn,tmps:=a.tmps,params:=ps,assign:=assign,body:=body,defers:=w.heap.size}:=⟨_,rfl⟩
 obtain⟨W1,xH⟩:∃W1,(w.alloc (.deferred (some []))).alloc (.loop (rec .ready none))=W1:=⟨_,rfl⟩
 have hh:=ZER fn rec W1 DT xH
 clear ZER
 refine⟨w.heap.size+1,[{target:=.collected w.heap.size,args:=#[]}],W1,{target:=.fn (.func gf) lb,args:=#[.func (.yield (w.heap.size+1)) #[] #[]]},W1,gf,
  #[.func (.yield (w.heap.size+1)) #[] #[]]++lb,W1,?_,?_,?_,?_,?_,?_⟩
 ·rw[←xH,DT];exact run_enterLoop_outer _ _ _ _ _
 ·simp only[resolve,hg]
  simp[go_sem]
 ·intro f1 hf1
  exact hFa f1
 ·simp[invoke,go_sem,eg]
 ·exact fun _=>h1
 ·exact hh
theorem n5 (p:Pr) (hS:PrS p) (hO:OkA p) (k:Nat) (hk:k≤p.evs.length) (u0 u1 u2:Value) (W:World) (h0:RepI W (fun b=>b<W.heap.size) (.str p.name) u0) (h1:RepI W (fun b=>b<W.heap.size) (.isl 2 (p.vars.map eVr)) u1) (h2:RepI W (fun b=>b<W.heap.size) (.isl 5 (p.evs.map eEv)) u2) :
  Calls Tryz.prog 96 #[.agg #[u0,u1,u2],.int .i64 k] W fun e w'=>∃vv,e=.returned vv∧Ext W w'∧RepI w' (fun b=>W.heap.size≤b∧b<w'.heap.size) (.isl 1 ((stV p k).map eI)) vv:=by
 refine (callsIn_wide (n:=5)).1 ?_
 refine callsIn_of_wp_marks Tryz.func96 rfl trivial ?_ rfl
 simp only[Tryz.ntmps96,List.size_toArray,List.length_cons,List.length_nil,Nat.reduceAdd,Nat.reduceSub,Array.replicate_succ,Array.replicate_zero,List.push_toArray,List.append_toArray,List.nil_append,List.cons_append]
 have hSt:=fun w=>dY u0 u1 u2 w
 have H0:=jA h0
 have H1:=jA h1
 have H2:=jA h2
 have HK:=jA hk
 clear h0 h1 h2 hk
 gi_wp2_with (refine⟨trivial,?_⟩;gi_at_call 143;refine (callsIn_wide.2 (hSt _)).mono ?_;rintro e w ⟨rfl,rfl⟩)
 generalize hK:Exit.inBlock _ _=K
 obtain⟨W0,j0⟩:∃W0,(((W.alloc (.cells #[u0,u1,u2] 76)).alloc (.cells #[.int .i64 k] 3)).alloc (.cells #[.slice none 0 0] 24)).alloc (.cells #[u0,u1,u2] 76)=W0:=⟨_,rfl⟩
 have GT:W0.heap.size=W.heap.size+4:=by rw[←j0];simp
 have hb0:Below W.heap.size W W0:=by rw[←j0];exact ((((Below.refl _ W).alloc (by simp) _).alloc (by simp) _).alloc (by simp;omega) _).alloc (by simp;omega) _
 have c1:W0.heap[W.heap.size+1]? = some (.cells #[.int .i64 k] 3):=by
  rw[←j0,Below.heap_alloc _ _ _ (by simp),Below.heap_alloc _ _ _ (by simp)]
  have:=World.alloc_heap_new (W.alloc (.cells #[u0,u1,u2] 76)) (.cells #[.int .i64 k] 3)
  rwa [World.size_alloc]at this
 have c2:W0.heap[W.heap.size+2]? = some (.cells #[.slice none 0 0] 24):=by
  rw[←j0,Below.heap_alloc _ _ _ (by simp)]
  have:=World.alloc_heap_new ((W.alloc (.cells #[u0,u1,u2] 76)).alloc (.cells #[.int .i64 k] 3)) (.cells #[.slice none 0 0] 24)
  rwa [World.size_alloc,World.size_alloc]at this
 have c3:W0.heap[W.heap.size+3]? = some (.cells #[u0,u1,u2] 76):=by
  rw[←j0]
  have:=World.alloc_heap_new (((W.alloc (.cells #[u0,u1,u2] 76)).alloc (.cells #[.int .i64 k] 3)).alloc (.cells #[.slice none 0 0] 24)) (.cells #[u0,u1,u2] 76)
  rwa [World.size_alloc,World.size_alloc,World.size_alloc]at this
 clear hSt
 rw[j0]
 clear j0
 refine eY (F:=Fence.wide) rfl (fun _=>trivial) oM (gf:=172) (lb:=#[.pointer (some ⟨W.heap.size+1+1+1,0,none⟩)]) rfl (DC Tryz.func172 (by decide) rfl) ?_
 intro fn rec W1 DT xH
 have LH:W1.heap.size=W.heap.size+6:=by rw[←xH];simp;omega
 have YJ:Below W0.heap.size W0 W1:=by rw[←xH];exact ((Below.refl _ W0).alloc (by simp) _).alloc (by simp) _
 have TO:W1.heap[W0.heap.size+1]? = some (.loop (rec .ready none)):=by
  rw[←xH];have:=World.alloc_heap_new (W0.alloc (.deferred (some []))) (.loop (rec .ready none));rwa [World.size_alloc]at this
 have hd1:W1.heap[W0.heap.size]? = some (.deferred (some [])):=by
  rw[←xH];exact (Below.heap_alloc _ _ _ (by simp)).trans (World.alloc_heap_new W0 _)
 have hp:RepI W1 (fun b=>b<W.heap.size∨b=W.heap.size+3) (.iptr [.str p.name,.isl 2 (p.vars.map eVr),.isl 5 (p.evs.map eEv)] 0) (.pointer (some ⟨W.heap.size+3,0,none⟩)):=by
  have hm:∀{x:IV} {u:Value},RepI W (fun b=>b<W.heap.size) x u→RepI W1 (fun b=>b<W.heap.size∨b=W.heap.size+3) x u:=fun h=>h.mono (fun _ h=>.inl h) (fun b hb=>((YJ.block b oM).trans (hb0.block b hb)))
  have MU:W1.heap[W.heap.size+3]? = some (.cells #[u0,u1,u2] 76):=(YJ.block _ oM).trans c3
  refine .iptr _ 0 (W.heap.size+3) 0 (fun j=>match j with|0=>u0|1=>u1|_=>u2) (.inr rfl) (fun j a hj=>?_) (fun j a hj=>?_)
  ·match j,hj with
   |0,_=>simp[World.cell?,MU]
   |1,_=>simp[World.cell?,MU]
   |2,_=>simp[World.cell?,MU]
  ·match j,hj with
   |0,hj=>cases hj;exact hm H0.out
   |1,hj=>cases hj;exact hm H1.out
   |2,hj=>cases hj;exact hm H2.out
 refine (rY 4 oM p hS hO (W0.heap.size+1) (W.heap.size+3) W1 (fun b=>b<W.heap.size∨b=W.heap.size+3) (fun b hb=>by omega) hp
  (fun i A=>Below W1.heap.size W1 A∧i≤k)
  (fun A=>Below W.heap.size W A∧A.heap[W0.heap.size]? = some (.deferred (some []))∧A.heap[W0.heap.size+1]? = some (.loop (rec .done (some .ret)))∧W1.heap.size≤A.heap.size∧∃vv,A.heap[W.heap.size+2]? = some (.cells #[vv] 24)∧RepI A (fun b=>W1.heap.size≤b∧b<A.heap.size) (.isl 1 ((stV p k).map eI)) vv)
  (fun i A B h hb=>⟨h.1.trans hb,h.2⟩) ?yield ⟨Below.refl _ _,Nat.zero_le _⟩).mono ?after
 case after =>
  rintro e w' ⟨⟨v,rfl⟩,⟨_,ZIT⟩|⟨hbw,hdw,hlw,hsw,vv,hcw,hvw⟩⟩
  ·exact absurd ZIT (by have:=HK.out;omega)
  ·have hE:=run_endLoop (P:=Tryz.prog) hlw (by rw[DT];simp)
   rw[DT]at hE
   refine⟨some .ret,_,hE,?_⟩
   refine wpIn_ret ?_
   rw[←hK]
   simp only[Exit.inBlock,Exit.then]
   clear hE
   generalize hlp:Obj.loop _=lo
   have hd2:(w'.putObj (W0.heap.size+1) lo).heap[W0.heap.size]? = some (.deferred (some [])):=by rw[World.putObj_heap_other oM];exact hdw
   refine⟨by simp,.inl ⟨_,_,rfl,run_takeDeferred hd2,?_⟩⟩
   have hc4:(((w'.putObj (W0.heap.size+1) lo).putObj W0.heap.size (.deferred none)).heap[W.heap.size+2]?)=some (.cells #[vv] 24):=by
    rw[World.putObj_heap_other oM,World.putObj_heap_other oM];exact hcw
   have gU:((w'.putObj (W0.heap.size+1) lo).putObj W0.heap.size (.deferred none)).cell? ⟨W.heap.size+1+1,0,none⟩=some vv:=by simp[World.cell?,hc4]
   refine⟨vv,?_,vv,rfl,⟨hbw.os,hbw.tape,hbw.output,by simp;exact hbw.size,fun b hb=>by rw[World.putObj_heap_other oM,World.putObj_heap_other oM];exact hbw.block b hb⟩,?_⟩
   ·simp[results,Tryz.f96,go_sem,gU]
   ·refine hvw.mono (fun b hb=>⟨by omega,by simp;exact hb.2⟩) (fun b hb=>?_)
    rw[World.putObj_heap_other oM,World.putObj_heap_other oM]
 case yield =>
  rintro i v Wy hi ⟨EM,q9⟩ hsy hvy
  have hly:Wy.heap[W0.heap.size+1]? = some (.loop (rec .ready none)):=(EM.block _ oM).trans TO
  have hdy:Wy.heap[W0.heap.size]? = some (.deferred (some [])):=(EM.block _ oM).trans hd1
  have hy:=run_yield (P:=Tryz.prog) (args:=#[.int .i64 i,v]) hly (by rw[DT];rfl)
  refine⟨_,_,_,_,hy,roundIn_of_wpIn trivial ?_⟩
  have hbr:=run_beginRound (P:=Tryz.prog) hly (by rw[DT])
  have hrc:rec=rec:=rfl
  obtain⟨Wb,hWb⟩:∃Wb,Wy.putObj (W0.heap.size+1) (.loop {rec .ready none with state:=.busy})=Wb:=⟨_,rfl⟩
  have hlb:Wb.heap[W0.heap.size+1]? = some (.loop {rec .ready none with state:=.busy}):=by rw[←hWb];exact World.putObj_heap_same oM
  have hob:∀b,b≠W0.heap.size+1→Wb.heap[b]? = Wy.heap[b]?:=fun b hb=>by rw[←hWb];exact World.putObj_heap_other hb
  have hsb:Wb.heap.size=Wy.heap.size:=by rw[←hWb];simp
  have ZHO:Wb.os=Wy.os∧Wb.tape=Wy.tape∧Wb.output=Wy.output:=by rw[←hWb];exact⟨rfl,rfl,rfl⟩
  rw[hWb]at hbr
  clear hWb hy
  have mH:=fun jump=>run_endRound (P:=Tryz.prog) jump hlb
  rw[DT]at mH⊢
  simp only at mH⊢
  have k1:Wb.cell? ⟨W.heap.size+1,0,none⟩=some (.int .i64 k):=by
   have hcb:Wb.heap[W.heap.size+1]? = some (.cells #[.int .i64 k] 3):=(hob _ oM).trans ((EM.block _ oM).trans ((YJ.block _ oM).trans c1))
   simp[World.cell?,hcb]
  have ZDi:Wb.heap[W.heap.size+2]? = some (.cells #[.slice none 0 0] 24):=(hob _ oM).trans ((EM.block _ oM).trans ((YJ.block _ oM).trans c2))
  have k2:Wb.cell? ⟨W.heap.size+1+1,0,none⟩=some (.slice none 0 0):=by simp[World.cell?,ZDi]
  have k3:Wb.frozen? ⟨W.heap.size+1+1,0,none⟩=false:=by simp[World.frozen?,ZDi]
  have HS:=jA (show W0.heap.size=W.heap.size+4∧W1.heap.size=W.heap.size+6∧Wb.heap.size=Wy.heap.size∧W1.heap.size≤Wy.heap.size from⟨GT,LH,hsb,hsy⟩)
  obtain⟨A,c,hv,_⟩:=qI hvy
  rw[List.length_map]at hv
  subst hv
  have HV:=jA hvy
  have HL:=jA (And.intro hly (And.intro hdy hlb))
  have HB:=jA (And.intro hob ZHO)
  have HC:=jA ZDi
  have HE:=jA mH
  clear GT LH hsb hsy c1 c2 c3 TO hd1 hvy hly hdy hlb hob ZHO ZDi mH
  generalize W0.heap.size=d0 at *
  generalize hl0:d0+1=l0 at *
  have HIK:=jA q9
  clear q9
  by_cases hek:i=k
  ·have heq:((i:Int)==(k:Int))=true:=by rw[hek];simp
   have HEK:=jA hek
   clear hek
   gi_wp2
   obtain⟨hob,y8,x8,i8⟩:=HB.out
   obtain⟨hly,hdy,hlb⟩:=HL.out
   obtain⟨z0,z1,z2,z3⟩:=HS.out
   obtain⟨Wc,hWc⟩:∃Wc,Wb.setCell ⟨W.heap.size+1+1,0,none⟩ (.slice A (stV p i).length c)=Wc:=⟨_,rfl⟩
   have hoc:∀b,b≠W.heap.size+2→Wc.heap[b]? = Wb.heap[b]?:=fun b hb=>by rw[←hWc];exact Below.heap_setCell _ _ _ _ (by simp;omega)
   have hsc:Wc.heap.size=Wb.heap.size:=by rw[←hWc];simp[World.setCell]
   have ZFp:Wc.os=Wb.os∧Wc.tape=Wb.tape∧Wc.output=Wb.output:=by rw[←hWc];exact⟨rfl,rfl,rfl⟩
   have gU:Wc.heap[W.heap.size+2]? = some (.cells #[.slice A (stV p i).length c] 24):=by
    have RR:Wb.heap[W.heap.size+1+1]? = some (.cells #[.slice none 0 0] 24):=HC.out
    rw[←hWc]
    show _[W.heap.size+1+1]? = _
    simp[World.setCell,Array.getElem?_modify,RR]
   rw[hWc]
   have hlc:Wc.heap[l0]? = some (.loop {rec .ready none with state:=.busy}):=(hoc _ oM).trans hlb
   have hE:=run_endRound (P:=Tryz.prog) (some .ret) hlc
   rw[DT]at hE
   refine⟨_,_,hE,.inr ⟨rfl,⟨?_,?_,?_,?_,?_⟩,?_,?_,?_,.slice A (stV p i).length c,?_,?_⟩⟩
   ·exact ZFp.1.trans (y8.trans (EM.os.trans (YJ.os.trans hb0.os)))
   ·exact ZFp.2.1.trans (x8.trans (EM.tape.trans (YJ.tape.trans hb0.tape)))
   ·exact ZFp.2.2.trans (i8.trans (EM.output.trans (YJ.output.trans hb0.output)))
   ·simp;omega
   ·intro b hb
    rw[World.putObj_heap_other oM,hoc _ oM,hob _ oM,EM.block b oM,YJ.block b oM,hb0.block b hb]
   ·rw[World.putObj_heap_other oM,hoc _ oM,hob _ oM];exact hdy
   ·exact World.putObj_heap_same oM
   ·simp;omega
   ·rw[World.putObj_heap_other oM];exact gU
   ·rw[←HEK.out]
    refine HV.out.mono (fun b hb=>⟨hb.1,by simp;omega⟩) (fun b hb=>?_)
    rw[World.putObj_heap_other oM,hoc _ oM,hob _ oM]
  ·have heq:((i:Int)==(k:Int))=false:=by simp;omega
   have HEK:=jA hek
   clear hek
   gi_wp2
   obtain⟨hob,y8,x8,i8⟩:=HB.out
   obtain⟨hly,hdy,hlb⟩:=HL.out
   obtain⟨z0,z1,z2,z3⟩:=HS.out
   have hE:=run_endRound (P:=Tryz.prog) none hlb
   rw[DT]at hE
   refine⟨_,_,hE,.inl ⟨rfl,⟨⟨?_,?_,?_,?_,?_⟩,?_⟩,⟨?_,?_,?_,?_,?_⟩⟩⟩
   ·exact y8.trans EM.os
   ·exact x8.trans EM.tape
   ·exact i8.trans EM.output
   ·simp;omega
   ·intro b hb
    by_cases hbl:b=l0
    ·subst hbl
     refine (World.putObj_heap_same oM).trans ?_
     rw[←EM.block _ hb,hly,DT]
     rfl
    ·rw[World.putObj_heap_other hbl,hob _ hbl,EM.block b hb]
   ·have:=HIK.out;have:=HEK.out;omega
   ·simp;omega
   ·exact y8
   ·exact x8
   ·exact i8
   ·intro b hb hf
    rw[World.putObj_heap_other oM,hob _ oM]
attribute [local go_sem ↓] aB EA IB RB tC yB GB nC DB IC pA vB bB nA jB eB aA iB EB CA mA SB wB xB QB uB XB pB qB pC TB mC lC sD GC tD nD gC rC
attribute [local go_sem] AA lA gD YB bA rD bC eC fC QI XI aC MB LB FB uC uA lB eA mB fA ZB aop YE jD ZD VC QD OB XD pH GE tE amm vE AB rB dE OC nE comma RC aE nH bE eE YH iE xE kD XH eqC eqF rF cellsOf YA aD lD uE PG rd rdI TD mk MC AV.cell List.all_cons List.all_nil Bool.and_true Bool.true_and Bool.and_self List.length_cons List.length_nil List.length_append Nat.reduceAdd Nat.reduceSub Nat.reduceMul Nat.zero_add Nat.add_zero List.cons_append List.nil_append List.append_assoc List.append_nil List.getElem?_cons_zero List.getElem?_cons_succ List.getElem?_nil List.set_cons_zero List.set_cons_succ List.drop_zero List.drop_succ_cons List.take_zero List.take_succ_cons List.take_nil List.drop_nil List.map_cons List.map_nil Option.map_some if_true if_false Bool.false_eq_true and_self true_and and_true Nat.reduceLeDiff Nat.reduceLT Nat.le_refl Nat.reduceEqDiff ite_true ite_false beq_self_eq_true beq_true beq_false Bool.not_true Bool.not_false Bool.true_beq Bool.false_beq XE XC sB JD KD jC qC zC KC UD VD QE VB QJ DI XJ ZJ eF lF bF fF geI gtI aF decide_true decide_false room List.getElem?_map List.length_map List.length_take Int.toNat_natCast Nat.min_def Nat.min_self fD dD VE QC ED ZG xA List.getElem_cons_zero List.getElem_cons_succ
def a_vState:AFunc:=({c:=_}:CF Tryz.prog 42).c
theorem xW:dA Tryz.prog 42=some a_vState:=by kernel_rfl

theorem nV (p:Pr) (hS:PrS p) (hO:OkA p) (k:Nat) (hk:k≤p.evs.length) (b l:List Row):QA Tryz.prog 96 [.agg [.v (.str p.name),.v (.isl 2 (p.vars.map eVr)),.v (.isl 5 (p.evs.map eEv))],.v (.int .i64 k)] b l (fun r b' l'=>r=.v (.isl 1 ((stV p k).map eI))∧b'=b∧l'=l):=by
 refine QA.of_newA ⟨_,Tryz.func96,by kernel_rfl,by kernel_rfl⟩ (fun F L w us hF hr=>?_)
 obtain⟨v,u1,e1,r1,hr1⟩:=lE hr
 obtain⟨kv,u2,e2,r2,hr2⟩:=lE hr1
 have:=dG hr2
 subst this
 obtain rfl:us=#[v,kv]:=Array.toList_inj.1 (by rw[e1,e2])
 cases r2.vI
 obtain⟨cs,rfl,hc⟩:=r1.aggL
 obtain⟨c0,t0,f0,q0,hc0⟩:=lE hc
 obtain⟨c1,t1,f1,q1,PI⟩:=lE hc0
 obtain⟨c2,t2,f2,q2,RR⟩:=lE PI
 have:=dG RR
 subst this
 obtain rfl:cs=#[c0,c1,c2]:=Array.toList_inj.1 (by rw[f0,f1,f2])
 have up:∀{x:IV} {u:Value},RepA w F L (.v x) u→RepI w (fun b=>b<w.heap.size) x u:=fun h=>h.vI.mono hF (fun _ _=>rfl)
 refine (n5 p hS hO k hk c0 c1 c2 w (up q0) (up q1) (up q2)).mono ?_
 rintro e w' ⟨vv,rfl,he,hv⟩
 refine⟨he,vv,_,fun b=>F b∨(w.heap.size≤b∧b<w'.heap.size),rfl,fun _ h=>.inl h,fun b hb h=>h.elim id (fun h=>by omega),fun b h=>h.elim (fun h=>Nat.lt_of_lt_of_le (hF b h) he.size) (fun h=>h.2),.v _ _ (hv.mono (fun _ h=>.inr h) (fun _ _=>rfl)),rfl,rfl,rfl⟩
end Go.Proofs.YtoccdlnoaindmaaGreatDoor
namespace Go.Proofs.YtoccdlnoaindmaaGreatDoor
set_option linter.unusedVariables false
set_option linter.unusedSimpArgs false
attribute [local go_sem ↓] aB EA IB RB tC yB GB nC DB IC pA vB bB nA jB eB aA iB EB CA mA SB wB xB QB uB XB pB qB pC TB mC lC sD GC tD nD gC rC
attribute [local go_sem] AA lA gD YB bA rD bC eC fC QI XI aC MB LB FB uC uA lB eA mB fA ZB aop YE jD ZD VC QD OB XD pH GE tE amm vE AB rB dE OC nE comma RC aE nH bE eE YH iE xE kD XH eqC eqF rF cellsOf YA aD lD uE PG rd rdI TD mk MC AV.cell List.all_cons List.all_nil Bool.and_true Bool.true_and Bool.and_self List.length_cons List.length_nil List.length_append Nat.reduceAdd Nat.reduceSub Nat.reduceMul Nat.zero_add Nat.add_zero List.cons_append List.nil_append List.append_assoc List.append_nil List.getElem?_cons_zero List.getElem?_cons_succ List.getElem?_nil List.set_cons_zero List.set_cons_succ List.drop_zero List.drop_succ_cons List.take_zero List.take_succ_cons List.take_nil List.drop_nil List.map_cons List.map_nil Option.map_some if_true if_false Bool.false_eq_true and_self true_and and_true Nat.reduceLeDiff Nat.reduceLT Nat.le_refl Nat.reduceEqDiff ite_true ite_false beq_self_eq_true beq_true beq_false Bool.not_true Bool.not_false Bool.true_beq Bool.false_beq XE XC sB JD KD jC qC zC KC UD VD QE VB QJ DI XJ ZJ eF lF bF fF geI gtI aF decide_true decide_false room List.getElem?_map List.length_map List.length_take Int.toNat_natCast Nat.min_def Nat.min_self fD dD VE QC ED ZG xA List.getElem_cons_zero List.getElem_cons_succ
def n8 (p:Pr) (k:Nat):Bool:=(List.range k).all fun i=>(p.vars.getD i rT).name==gI i
def RX (p:Pr) (c:Int):Bool:=decide (p.evs.length=0∨(p.evs.getD (p.evs.length-1) lJ).time≤c)
def OL (p:Pr) (s:Sv) (now:Int):Bool:=(p.name==s.name)&&(decide (p.vars.length=s.vars.length)&&(n8 p s.vars.length&&(decide (wV p=s.vars)&&RX p (JI s now))))
structure Pst (t:Tr) (x:Nat×Nat) (c:Nat→Nat) (Q:List (Nat×Nat)):Prop where
 q:∀y∈Q,y∈ids t∧Le t y x
 le:∀p i,i<c p→p<t.length∧i<(DA t p).length∧Le t (p,i+1) x
 src:x∈Q∨x.2≤c x.1
 cl:∀z∈ids t,z.2≤c z.1→∀y∈KO t z,y∈Q∨y.2≤c y.1
theorem Pst.start {t:Tr} {x:Nat×Nat} (hx:x∈ids t):Pst t x (fun _=>0) [x]:=by
 refine⟨fun y hy=>?_,fun p i h=>by simp at h,.inl (by simp),fun z hz h=>?_⟩
 ·simp only[List.mem_singleton]at hy;subst hy;exact⟨hx,.refl _⟩
 ·have:=(LD.1 hz).2.1
  omega
theorem Pst.cle {t:Tr} {x:Nat×Nat} {c:Nat→Nat} {Q:List (Nat×Nat)} (h:Pst t x c Q) (p:Nat):c p≤(DA t p).length:=by
 cases hc:c p with
 |zero=>omega
 |succ n=>have:=(h.le p n oM).2.1;omega
theorem Pst.skip {t:Tr} {x y:Nat×Nat} {c:Nat→Nat} {Q:List (Nat×Nat)} (h:Pst t x c (y::Q)) (hc:y.2≤c y.1):Pst t x c Q:=by
 refine⟨fun z hz=>h.q z (by simp[hz]),h.le,?_,fun z hz IX w hw=>?_⟩
 ·rcases h.src with h1|h1
  ·rcases List.mem_cons.1 h1 with rfl|h2
   ·exact .inr hc
   ·exact .inl h2
  ·exact .inr h1
 ·rcases h.cl z hz IX w hw with h1|h1
  ·rcases List.mem_cons.1 h1 with rfl|h2
   ·exact .inr hc
   ·exact .inl h2
  ·exact .inr h1
theorem Pst.all {t:Tr} (hv:Vok t) {x:Nat×Nat} {c:Nat→Nat} (h:Pst t x c []):∀n z,rk t z=n→z∈ids t→z.2≤c z.1→∀w∈ids t,Le t w z→w.2≤c w.1:=by
 intro n
 induction n using Nat.strongRecOn with
 |_ n ih =>
   intro z hn hz IX w hw hl
   rcases (ZCx hv hz hw).1 hl with rfl|⟨y,hy,nT⟩
   ·exact IX
   ·obtain⟨h1,h2⟩:=ZAj hv hz hy
    rcases h.cl z hz IX y hy with h3|h3
    ·simp at h3
    ·exact ih (rk t y) (by rw[←hn];exact rk_lt hv hz h2) y rfl h1 h3 w hw nT
theorem Pst.done {t:Tr} (hv:Vok t) {x:Nat×Nat} (hx:x∈ids t) {c:Nat→Nat} (h:Pst t x c []) {p:Nat} (hp:p<t.length):c p=vc t x p:=by
 refine ZEj (n:=(DA t p).length) (h.cle p) vc_le (fun j hj=>?_)
 rw[←ZEb hj]
 constructor
 ·exact fun hl=>(h.le p j hl).2.2
 ·intro hl
  have hs:x.2≤c x.1:=h.src.resolve_left (by simp)
  have:=h.all hv (rk t x) x rfl hx hs (p,j+1) (fE.2 ⟨hp,hj⟩) hl
  exact this
theorem VT {t:Tr} {x:Nat×Nat}:ZE t x=0↔CB t.length x.1 (sA t x)=true∧inB (sA t x).time 0 1099511627776=true∧¬(sA t x).time<LM t x∧(sA t x).asg.length≤8∧vC (QL (t.getD x.1 dfPr).vars.length (sA t x).asg) (sA t x).asg.length=0:=by
 unfold ZE
 cases h1:CB t.length x.1 (sA t x)
 ·simp
 cases h2:inB (sA t x).time 0 1099511627776
 ·simp
 by_cases h3:(sA t x).time<LM t x
 ·simp[h3]
 by_cases h4:8<(sA t x).asg.length
 ·have h5:¬(sA t x).asg.length≤8:=by omega
  simp[h3,h4,h5]
 ·have h5:(sA t x).asg.length≤8:=by omega
  simp[h3,h4,h5]
theorem ON {t:Tr} (h:Vok t) {x:Nat×Nat} (hx:x∈ids t) {k:Int} (hk:k=2∨k=3) (hkx:(sA t x).kind=k):mD t k (sA t x).msg=some x:=by
 rcases hk with rfl|rfl
 ·exact h.paired.send hx hkx
 ·exact (h.paired.recv hx hkx).1
theorem ZA5 {t:Tr} {x:Nat×Nat} (hx:x∈ids t):sA t x∈DA t x.1:=by
 obtain⟨p,i⟩:=x
 obtain⟨hp,h1,h2⟩:=LD.1 hx
 unfold sA
 simp only at *
 rw[LF hp,JC lJ _ (show i-1<t[p].evs.length by omega)]
 exact List.getElem_mem _
theorem ZAP {t:Tr} {p:Nat} {e:Ev} (hp:p<t.length) (he:e∈DA t p):∃i,(p,i+1)∈ids t∧sA t (p,i+1)=e:=by
 obtain⟨i,hi,rfl⟩:=List.getElem_of_mem he
 refine⟨i,fE.2 ⟨hp,hi⟩,?_⟩
 unfold sA
 simp only[Nat.add_sub_cancel]
 exact JC lJ _ hi
def Qb (t:Tr) (k j:Nat) (x y:Nat×Nat):Prop:=Hb t x y∧(y=(k,j+2)→Le t x (k,j)∨((sA t (k,j+2)).kind=3∧Le t x (sndr t (k,j+2))))
theorem Qb.trans {t:Tr} {k j:Nat} {x y z:Nat×Nat} (h:Qb t k j x y) (g:Qb t k j y z):Qb t k j x z:=by
 refine⟨h.1.trans g.1,fun e=>?_⟩
 rcases g.2 e with a|⟨a,c⟩
 ·exact .inl ((Le.trans (.inr h.1) a))
 ·exact .inr ⟨a,(Le.trans (.inr h.1) c)⟩
theorem Hb.pos {t:Tr} {x y:Nat×Nat} (h:Hb t x y):1≤y.2:=by
 have d:∀{a c:Nat×Nat},Dir t a c→1≤c.2:=fun {a c} d=>by
  rcases d with ⟨rfl,_⟩|⟨_,hf⟩
  ·exact Nat.le_add_left _ _
  ·exact (YD hf).2.1
 cases h with
 |one h=>exact d h
 |more _ h=>exact d h
theorem UR (v w:List Int) (hv:v.length≤1000000) (b l:List Row):QA Tryz.prog 36 [.v (.isl 1 (v.map eI)),.v (.isl 1 (w.map eI))] b l (fun r b' l'=>r=.v (.bool (decide (v=w)))∧b'=b∧l'=l):=by
 refine VA ZAr rfl (by decide) ?_
 intro B g hB hR hE hA;simp only[xA]at hA
 by_cases hl:v.length=w.length
 ·have hd:((v.length:Int) != (w.length:Int))=false:=by simp[hl]
  simp (disch:=first|decide|omega) only[a_Eq1,hA,List.length_map,hd,go_sem]
  refine tA (ι:=Nat) ZBH (fun i=>[(13,.v (.int .i64 i))]) 0 (fun _=>[])
   (fun i=>i≤v.length∧∀j,j<i→v.getD j 0=w.getD j 0) (fun i=>v.length-i) 0 ⟨Nat.zero_le _,fun j hj=>by omega⟩ (by (repeat (first|exact hE.mono oM|refine KLt.up ?_ kL))) (by ((try simp (disch:=decide) only[hA,go_sem])<;>exact kH)) (fun e=>qA.refl _ _ _) ?_
  rintro g1 mH wD KB i ⟨hi,h0⟩
  by_cases LA:i<v.length
  ·have hlw:i<w.length:=by omega
   by_cases he:v[i]=w[i]
   ·have hd2:(v[i] != w[i])=false:=by simp[he]
    simp (disch:=first|decide|omega) only[hA,KB,eI,hd2,go_sem]
    refine⟨i+1,⟨LA,fun j hj=>?_⟩,by simp only;omega,?_⟩
    ·rcases Nat.lt_or_ge j i with fG|fG
     ·exact h0 j fG
     ·have:j=i:=by omega
      subst this
      rw[KA LA,KA hlw,he]
    exact qA.kround (p:=ZBH) (k:=0) (by ((repeat refine (gA rfl).trans ?_);exact wD)) (by ((try simp (disch:=decide) only[hA,go_sem])<;>exact kH)) rfl mH (by simp) kV hR kL
   ·have hd2:(v[i] != w[i])=true:=by simp[he]
    have KH:decide (v=w)=false:=by
     rw[decide_eq_false_iff_not];intro h;subst h;exact he rfl
    simp (disch:=first|decide|omega) only[hA,KB,eI,hd2,go_sem]
    exact ZA (xs:=[.v (.bool false)]) (.inr rfl) (by simp (disch:=first|decide|omega) only[JA,zA,go_sem,hA,KB]) kO hR hB ⟨by rw[KH];rfl,rfl,rfl⟩
  ·simp (disch:=first|decide|omega) only[hA,KB,go_sem]
   obtain rfl:i=v.length:=by omega
   have he:decide (v=w)=true:=decide_eq_true (ZA4 hl h0)
   exact ZA (xs:=[.v (.bool true)]) (.inr rfl) (by simp (disch:=first|decide|omega) only[JA,zA,go_sem,hA,KB]) kO hR hB ⟨by rw[he];rfl,rfl,rfl⟩
 ·have hd:((v.length:Int) != (w.length:Int))=true:=by simp;omega
  have KH:decide (v=w)=false:=by
   rw[decide_eq_false_iff_not];intro h;subst h;exact hl rfl
  simp (disch:=first|decide|omega) only[a_Eq1,hA,List.length_map,hd,go_sem]
  exact ZA (xs:=[.v (.bool false)]) (.inr rfl) (by simp (disch:=first|decide|omega) only[JA,zA,go_sem,hA]) kO hR hB ⟨by rw[KH];rfl,rfl,rfl⟩
def a_wproc:AFunc:=({c:=_}:CF Tryz.prog 72).c
theorem lZ:dA Tryz.prog 72=some a_wproc:=by kernel_rfl
def LW:List (Nat×Nat):=[(4,4),(7,8),(43,57)]

theorem ZBK {t:Tr} (h:Vok t) {p:Nat} (hp:p<t.length):OkA t[p]:=by
 intro e he a ha
 obtain⟨i,hi,rfl⟩:=List.getElem_of_mem he
 obtain⟨j,hj,rfl⟩:=List.getElem_of_mem ha
 have hx:(p,i+1)∈ids t:=fE.2 ⟨hp,by rw[LF hp];exact hi⟩
 have hf:=h.form _ hx
 have LU:=rN hp hi
 unfold ZE at hf
 rw[LU]at hf
 split at hf
 ·cases hf
 split at hf
 ·cases hf
 split at hf
 ·cases hf
 have h1:=wG.1 hf j hj
 unfold QL at h1
 rw[JC ZS _ hj,JC dfPr t hp]at h1
 split at h1
 ·cases h1
 rename_i h2
 simp only[Bool.not_eq_true,Bool.or_eq_false_iff,Bool.not_eq_false']at h2
 have h3:=h2.1
 unfold inB at h3
 simp at h3
 omega
theorem ZBI {t:Tr} (h:Small t) {p:Nat} (hp:p<t.length):PrS t[p]:=⟨h.nv _ (List.getElem_mem hp),h.ne _ (List.getElem_mem hp),h.na _ (List.getElem_mem hp)⟩
theorem PL {t:Tr} {p:Nat} (hp:p<t.length):(t.map ePr)[p]? = some [.str t[p].name,.isl 2 (t[p].vars.map eVr),.isl 5 (t[p].evs.map eEv)]:=by
 rw[List.getElem?_map,List.getElem?_eq_getElem hp];rfl
theorem pV (t:Tr) (iS:pE t=true) (hS:Small t) (hN:Nm t) (p k:Nat) (hp:p<t.length) (hk:k≤t[p].evs.length) (b l:List Row):QA Tryz.prog 42 [.agg [.v (.isl 3 (t.map ePr))],.v (.int .i64 p),.v (.int .i64 k)] b l (fun r b' l'=>r=.tup [.v (.isl 1 ((stV t[p] k).map eI)),.v (.int .i64 0)]∧b'=b∧l'=l):=by
 refine VA xW rfl (by decide) ?_
 intro B g hB hR hE hA;simp only[xA]at hA
 have cV:=fun b l=>YQ t hS hN b l
 rw[iS]at cV
 simp only[eT]at cV
 have KH:=hS.ne _ (List.getElem_mem hp)
 have xU:=hS.np
 have J9:=PL hp
 have d1:decide ((p:Int)<0)=false:=decide_eq_false oM
 have d2:decide ((p:Int)≥(t.length:Int))=false:=decide_eq_false oM
 have d2':decide ((t.length:Int)≤(p:Int))=false:=d2
 have d3:decide ((k:Int)<0)=false:=decide_eq_false oM
 have d4:decide ((k:Int)>(t[p].evs.length:Int))=false:=decide_eq_false oM
 have d4':decide ((t[p].evs.length:Int)<(k:Int))=false:=d4
 simp (disch:=first|decide|omega) only[a_vState,hA,go_sem]
 refine QA.nxt (cV _ _) ?_
 simp (disch:=first|decide|omega) only[hA,J9,d1,d2,d2',d3,d4,d4',List.length_map,go_sem]
 refine QA.nxt (nV t[p] (ZBI hS hp) (ZBK (vok iS) hp) k hk _ _) ?_
 simp (disch:=first|decide|omega) only[hA,go_sem]
 exact ZA (xs:=[.v (.isl 1 ((stV t[p] k).map eI)),.v (.int .i64 0)]) (.inr rfl) (by simp (disch:=first|decide|omega) only[JA,zA,go_sem,hA]) kO hR hB ⟨rfl,rfl,rfl⟩
theorem yY (w:Wd) (iS:pE w.tr=true) (hS:Small w.tr) (hN:Nm w.tr) (tR:SvsS w.sv) (p:Nat) (hp:p<w.tr.length) (hps:p<w.sv.length) (h8:w.sv[p].vars.length≤8) (b l:List Row):QA Tryz.prog 72 [.agg ((eWd w).map .v),.v (.int .i64 p)] b l (fun r b' l'=>r=.v (.bool (OL w.tr[p] w.sv[p] w.now))∧b'=b∧l'=l):=by
 refine VA lZ rfl (by decide) ?_
 intro B g hB hR hE hA;simp only[xA]at hA
 obtain⟨x,hx⟩:∃x,w.tr[p]=x:=⟨_,rfl⟩
 obtain⟨s,hs⟩:∃s,w.sv[p]=s:=⟨_,rfl⟩
 have J9:=PL hp
 have mS:=MH hps
 rw[hx]at J9
 rw[hs]at mS h8
 rw[hx,hs]
 have Q9:PrS x:=hx▸ZBI hS hp
 have hxo:OkA x:=hx▸ZBK (vok iS) hp
 have hnv:=Q9.nv
 have KH:=Q9.ne
 have eW:=tR.len
 have xU:=hS.np
 have cS:=fun b l=>pV w.tr iS hS hN p x.evs.length hp (by rw[hx];exact Nat.le_refl _) b l
 rw[hx,show stV x x.evs.length=wV x from rfl]at cS
 have hfv:(wV x).length=x.vars.length:=EI _
 have hbn:(x.name != s.name)=!(x.name==s.name):=rfl
 cases t1:(x.name==s.name)
 ·simp (disch:=first|decide|omega) only[a_wproc,hA,eWd,J9,mS,hbn,t1,YA,cellsOf,List.length_map,go_sem]
  exact ZA (xs:=[.v (.bool false)]) (.inr rfl) (by simp (disch:=first|decide|omega) only[JA,zA,go_sem,hA]) kO hR hB ⟨by unfold OL;rw[t1];rfl,rfl,rfl⟩
 by_cases t2:x.vars.length=s.vars.length
 case neg =>
  have d2:((x.vars.length:Int) != (s.vars.length:Int))=true:=by simp;omega
  simp (disch:=first|decide|omega) only[a_wproc,hA,eWd,J9,mS,hbn,t1,d2,YA,cellsOf,List.length_map,go_sem]
  exact ZA (xs:=[.v (.bool false)]) (.inr rfl) (by simp (disch:=first|decide|omega) only[JA,zA,go_sem,hA]) kO hR hB ⟨by unfold OL;rw[t1,decide_eq_false t2];rfl,rfl,rfl⟩
 have d2:((x.vars.length:Int) != (s.vars.length:Int))=false:=by simp;omega
 have hwl:(zK s.vars).length=s.vars.length:=DH
 simp (disch:=first|decide|omega) only[a_wproc,hA,eWd,J9,mS,hbn,t1,d2,YA,cellsOf,List.length_map,go_sem]
 refine QA.nxt (OP s.vars h8 _ _) ?_
 simp (disch:=first|decide|omega) only[hA,hwl,List.length_map,go_sem]
 refine tA (ι:=Nat) LW (fun i=>[(43,.v (.int .i64 i))]) 3 (fun _=>[.live 0 9 [[.v (.isl 6 (w.sv.map eSv)),.v (.int .i64 w.net.now),.v (.bool w.net.fifo),.v (.isl 4 (w.net.l.map eMs)),.v (.isl 1 (w.net.tm.map eI)),.v (.isl 2 (w.net.fates.map eFt)),.v (.int .i64 w.now),.v (.int .i64 w.sent),.v (.isl 3 (w.tr.map ePr))]],DF s,X8 x])
  (fun i=>i≤s.vars.length∧∀j,j<i→((x.vars.getD j rT).name==gI j)=true) (fun i=>s.vars.length-i) 0 ⟨Nat.zero_le _,fun j hj=>by omega⟩ (by (repeat (first|exact hE.mono oM|refine KLt.up ?_ kL))) (by ((try simp (disch:=decide) only[hA,go_sem])<;>exact kH)) (fun e=>qA.refl _ _ _) ?_
 rintro g1 mH wD KB i ⟨hi,h0⟩
 unfold DF X8
 by_cases LA:i<s.vars.length
 ·have hgw:((zK s.vars).map eVr)[i]? = some [.str (gI i),.int .i64 (s.vars.getD i 0)]:=by
   rw[List.getElem?_map]
   unfold zK
   rw[VF LA];rfl
  have hlx:i<x.vars.length:=by omega
  have k9:=M4 hlx
  have hgn:(x.vars.getD i rT).name=x.vars[i].name:=by rw[KA hlx]
  have hb:(x.vars[i].name != gI i)=!(x.vars[i].name==gI i):=rfl
  cases t3:(x.vars[i].name==gI i)
  ·simp (disch:=first|decide|omega) only[hA,KB,hgw,k9,hb,t3,hwl,YA,cellsOf,List.length_map,go_sem]
   exact ZA (xs:=[.v (.bool false)]) (.inr rfl) (by simp (disch:=first|decide|omega) only[JA,zA,go_sem,hA,KB]) kO hR hB ⟨by unfold OL;rw[t1,decide_eq_true t2,show n8 x s.vars.length=false from List.all_eq_false.2 ⟨i,List.mem_range.2 LA,by rw[hgn,t3];simp⟩];rfl,rfl,rfl⟩
  ·simp (disch:=first|decide|omega) only[hA,KB,hgw,k9,hb,t3,hwl,YA,cellsOf,List.length_map,go_sem]
   refine⟨i+1,⟨LA,fun j hj=>?_⟩,by simp only;omega,?_⟩
   ·rcases Nat.lt_or_ge j i with fG|fG
    ·exact h0 j fG
    ·obtain rfl:j=i:=by omega
     rw[hgn];exact t3
   ·exact qA.kround (p:=LW) (k:=3) (by ((repeat refine (gA rfl).trans ?_);exact wD)) (by ((try simp (disch:=decide) only[hA,KB,go_sem])<;>exact kH)) rfl mH (by simp) kV hR kL
 obtain rfl:i=s.vars.length:=by omega
 have t3:n8 x s.vars.length=true:=by
  unfold n8
  rw[List.all_eq_true]
  exact fun j hj=>h0 j (List.mem_range.1 hj)
 simp (disch:=first|decide|omega) only[hA,KB,hwl,List.length_map,go_sem]
 refine QA.nxt (cS _ _) ?_
 simp (disch:=first|decide|omega) only[hA,KB,hwl,List.length_map,go_sem]
 refine QA.nxt (lK _ _ _ _ s w.now _ _ (.inl ⟨_,rfl⟩)) ?_
 simp (disch:=first|decide|omega) only[hA,KB,hwl,List.length_map,go_sem]
 refine QA.nxt (UR (wV x) s.vars oM _ _) ?_
 by_cases t4:wV x=s.vars
 ·have d4:=decide_eq_true t4
  have hr:OL x s w.now=RX x (JI s w.now):=by unfold OL;rw[t1,decide_eq_true t2,t3,d4];rfl
  rw[hr]
  by_cases hz:x.evs.length=0
  ·have dz:((x.evs.length:Int)==0)=true:=by rw[hz];rfl
   simp (disch:=first|decide|omega) only[hA,KB,d4,dz,List.length_map,go_sem]
   exact ZA (xs:=[.v (.bool true)]) (.inr rfl) (by simp (disch:=first|decide|omega) only[JA,zA,go_sem,hA,KB]) kO hR hB ⟨by unfold RX;rw[decide_eq_true (.inl hz)];rfl,rfl,rfl⟩
  ·have dz:((x.evs.length:Int)==0)=false:=beq_eq_false_iff_ne.2 oM
   have LA:x.evs.length-1<x.evs.length:=by omega
   have CK:=VK LA
   have PI:(x.evs.length:Int)-1=((x.evs.length-1:Nat):Int):=by omega
   simp (disch:=first|decide|omega) only[hA,KB,d4,dz,PI,CK,List.length_map,go_sem]
   exact ZA (xs:=[.v (.bool (decide (x.evs[x.evs.length-1].time≤JI s w.now)))]) (.inr rfl) (by simp (disch:=first|decide|omega) only[JA,zA,go_sem,hA,KB]) kO hR hB ⟨by unfold RX;rw[KA LA];simp[hz,one],rfl,rfl⟩
 ·have d4:=decide_eq_false t4
  simp (disch:=first|decide|omega) only[hA,KB,d4,List.length_map,go_sem]
  exact ZA (xs:=[.v (.bool false)]) (.inr rfl) (by simp (disch:=first|decide|omega) only[JA,zA,go_sem,hA,KB]) kO hR hB ⟨by unfold OL;rw[d4];simp[one],rfl,rfl⟩
theorem wQ {s:ByteArray} (h:pD s=true):s.size≤16:=by
 unfold pD HU at h
 simp only[Bool.and_eq_true,decide_eq_true_eq]at h
 have:=h.1.1.2
 rwa [Array.length_toList]at this
theorem xM {t:Tr} {p:Nat} (hp:p<t.length) (h:bD t p=0):pD t[p].name=true∧t[p].vars.length≤8∧(∀v∈t[p].vars,pD v.name=true)∧t[p].evs.length≤64:=by
 have h64:=iJ hp h
 unfold bD at h
 rw[KA hp]at h
 split at h
 ·exact absurd h (by decide)
 rename_i c1
 split at h
 ·exact absurd h (by decide)
 rename_i c2
 split at h
 ·rename_i c3;exact absurd h c3
 rename_i c3
 have c3:vC (GO t[p].vars) t[p].vars.length=0:=Classical.not_not.1 c3
 refine⟨?_,by omega,fun v hv=>?_,h64⟩
 ·cases hn:pD t[p].name with
  |true=>rfl
  |false=>rw[hn]at c1;simp at c1
 ·obtain⟨i,hi,rfl⟩:=List.getElem_of_mem hv
  have:=wG.1 c3 i hi
  unfold GO at this
  rw[KA hi]at this
  cases hn:pD t[p].vars[i].name with
  |true=>rfl
  |false=>rw[hn]at this;simp at this
theorem Vok.small {t:Tr} (h:Vok t):Small t:=by
 have hi:=h.hi
 refine⟨by omega,fun x hx=>?_,fun x hx=>?_,fun x hx e he=>?_⟩
 ·obtain⟨p,hp,rfl⟩:=List.getElem_of_mem hx
  have:=(xM hp (h.head p hp)).2.1;omega
 ·obtain⟨p,hp,rfl⟩:=List.getElem_of_mem hx
  have:=(xM hp (h.head p hp)).2.2.2;omega
 ·obtain⟨p,hp,rfl⟩:=List.getElem_of_mem hx
  obtain⟨i,hi,rfl⟩:=ZAP hp (by rw[LF hp];exact he)
  have:=(VT.1 (h.form _ hi)).2.2.2.1
  omega
theorem Vok.nm {t:Tr} (h:Vok t):Nm t:=fun x hx=>by
 obtain⟨p,hp,rfl⟩:=List.getElem_of_mem hx
 obtain⟨h1,_,h3,_⟩:=xM hp (h.head p hp)
 have g:∀s:ByteArray,pD s=true→s.size≤maxLen:=fun s hs=>Nat.le_trans (wQ hs) (by unfold maxLen;decide)
 exact⟨g _ h1,fun v hv=>g _ (h3 v hv)⟩
def a_wValid:AFunc:=({c:=_}:CF Tryz.prog 24).c
theorem jW:dA Tryz.prog 24=some a_wValid:=by kernel_rfl
def TS:List (Nat×Nat):=[(2,5),(7,7),(52,79)]
def SN:List (Nat×Nat):=[(2,3),(7,7),(64,78)]
def a_wValid1:AFunc:=({c:=_}:CF Tryz.prog 73).c
theorem JU:dA Tryz.prog 73=some a_wValid1:=by kernel_rfl

theorem aQ:dA Tryz.prog 53=some (QH 106):=by kernel_rfl
theorem bQ:dA Tryz.prog 106=some (dJ 4):=by kernel_rfl
def nSd (l:List Ev):Nat→Nat
 |0=>0
 |i+1=>if (l.getD i lJ).kind=2 then nSd l i+1 else nSd l i
theorem Y1 (l:List Ev):∀i,nSd l i≤i
 |0=>Nat.le_refl _
 |i+1=>by have:=Y1 l i;simp only[nSd];split<;>omega
def cSd (t:Tr):Nat→Nat
 |0=>0
 |p+1=>cSd t p+nSd (DA t p) (DA t p).length
theorem E1 {t:Tr} (h:∀x∈t,x.evs.length≤64):∀p,p≤t.length→cSd t p≤64*p
 |0,_=>Nat.le_refl _
 |p+1,hp=>by
   have:=E1 h p oM
   have h1:=Y1 (DA t p) (DA t p).length
   have h2:=h t[p] (List.getElem_mem oM)
   rw[LF (show p<t.length by omega)]at h1
   simp only[cSd]
   rw[LF (show p<t.length by omega)]
   omega
def sOk (l:List Ev) (sent:Int) (i:Nat):Bool:=!((l.getD i lJ).kind==2)||decide ((l.getD i lJ).msg<sent)
noncomputable def mgB (t:Tr) (m:Ms):Bool:=decide (m.body.length=1)&&(decide (0<(SC t 2 m.nu).2)&&(decide (((SC t 2 m.nu).1:Int)=m.fr)&&decide ((sA t (SC t 2 m.nu)).peer=m.to)))
def prB (w:Wd) (p:Nat):Bool:=OL (w.tr.getD p dfPr) (w.sv.getD p dfSv) w.now&&(List.range (DA w.tr p).length).all (sOk (DA w.tr p) w.sent)
noncomputable def wdB (w:Wd):Bool:=GF w.sv&&(inZ w.now 0 1000000000&&(nwB w.net&&(decide (w.net.now=w.now)&&(pE w.tr&&(decide (w.tr.length=w.sv.length)&&((List.range w.tr.length).all (prB w)&&(decide ((cSd w.tr w.tr.length:Int)=w.sent)&&w.net.l.all (mgB w.tr))))))))
theorem ZR {t:Tr} {kd m:Int} (h:0<(SC t kd m).2):∃p i,SC t kd m=(p,i+1)∧∃hp:p<t.length,i<t[p].evs.length:=by
 unfold SC at h⊢
 split at h
 case isFalse=>simp at h
 rename_i hv
 rw[if_pos hv]
 unfold xG yA at h⊢
 cases hf:(ids t).find? (uF t kd m) with
 |none=>rw[hf]at h;simp at h
 |some x =>
   obtain⟨p,j⟩:=x
   have hm:=List.mem_of_find?_eq_some hf
   obtain⟨hp,h1,h2⟩:=LD.1 hm
   simp only at hp h1 h2
   obtain⟨i,rfl⟩:∃i,j=i+1:=⟨j-1,by omega⟩
   exact⟨p,i,rfl,hp,by omega⟩
theorem ST (w:Wd) (hS:Small w.tr) (hN:Nm w.tr) (m:Ms) (hm:m.body.length≤1000000) (id:Nat) (b l:List Row) (hg:hget b l id=some (.live 0 9 [(eWd w).map .v])):QA Tryz.prog 73 [.agg ((eMs m).map .v),.ptr id 0 0 0] b l (fun r b' l'=>r=.v (.bool (!mgB w.tr m))∧b'=b∧l'=l):=by
 refine VA JU rfl (by decide) ?_
 intro B g hB hR hE hA;simp only[xA]at hA
 have g0:∀l',hget B l' id=some (.live 0 9 [(eWd w).map .v]):=fun l'=>by
  rw[zD]at hg
  rw[zD,List.getElem?_append_left (by rw[hB];exact (List.getElem?_eq_some_iff.1 hg).1),hB];exact hg
 unfold eWd at g0
 simp only[List.map_cons,List.map_nil]at g0
 have cS:=fun b l=>lV w.tr hS hN b l m.nu
 simp only[eT,idA]at cS
 have YJ:((m.body.length:Int) != 1)=!decide (m.body.length=1):=by
  by_cases h:m.body.length=1<;>simp[h]
  omega
 simp (disch:=first|decide|omega) only[a_wValid1,hA,g0,eMs,YA,cellsOf,List.length_map,go_sem]
 refine QA.nxt (cS _ _) ?_
 by_cases t1:m.body.length=1
 case neg =>
  have d1:((m.body.length:Int) != 1)=true:=by simp;omega
  simp (disch:=first|decide|omega) only[hA,g0,d1,YA,cellsOf,List.length_map,go_sem]
  exact ZA (xs:=[.v (.bool true)]) (.inr rfl) (by simp (disch:=first|decide|omega) only[JA,zA,go_sem,hA]) kO hR hB ⟨by simp[mgB,t1,one],rfl,rfl⟩
 have d1:((m.body.length:Int) != 1)=false:=by simp;omega
 by_cases t2:0<(SC w.tr 2 m.nu).2
 case neg =>
  have d2:decide (0<(SC w.tr 2 m.nu).2)=false:=decide_eq_false t2
  simp (disch:=first|decide|omega) only[hA,g0,d1,d2,YA,cellsOf,List.length_map,go_sem]
  exact ZA (xs:=[.v (.bool true)]) (.inr rfl) (by simp (disch:=first|decide|omega) only[JA,zA,go_sem,hA]) kO hR hB ⟨by simp[mgB,t2,one],rfl,rfl⟩
 have d2:decide (0<(SC w.tr 2 m.nu).2)=true:=decide_eq_true t2
 obtain⟨p,i,hpi,hp,hi⟩:=ZR t2
 have J9:=PL hp
 have CK:=VK hi
 have LU:=rN hp hi
 have KH:=hS.ne _ (List.getElem_mem hp)
 have xU:=hS.np
 have y9:mgB w.tr m=(decide ((p:Int)=m.fr)&&decide (w.tr[p].evs[i].peer=m.to)):=by unfold mgB;rw[decide_eq_true t1,d2,hpi,LU];rfl
 rw[y9]
 rw[hpi]at d2
 have wU:((i+1:Nat):Int)-1=(i:Int):=by omega
 by_cases t3:(p:Int)=m.fr
 case neg =>
  have d3:((p:Int) != m.fr)=true:=by simpa using t3
  simp (disch:=first|decide|omega) only[hA,g0,d1,d2,hpi,d3,YA,cellsOf,List.length_map,go_sem]
  exact ZA (xs:=[.v (.bool true)]) (.inr rfl) (by simp (disch:=first|decide|omega) only[JA,zA,go_sem,hA]) kO hR hB ⟨by simp[t3,one],rfl,rfl⟩
 have d3:((p:Int) != m.fr)=false:=by simpa using t3
 have d4:(w.tr[p].evs[i].peer != m.to)=!decide (w.tr[p].evs[i].peer=m.to):=by
  by_cases h:w.tr[p].evs[i].peer=m.to<;>simp[h]
 simp (disch:=first|decide|omega) only[hA,g0,d1,d2,hpi,d3,J9,CK,wU,d4,YA,cellsOf,List.length_map,go_sem]
 exact ZA (xs:=[.v (.bool (!decide (w.tr[p].evs[i].peer=m.to)))]) (.inr rfl) (by simp (disch:=first|decide|omega) only[JA,zA,go_sem,hA]) kO hR hB ⟨by simp[t3,one],rfl,rfl⟩
theorem ZE9 {w:Wd} {p:Nat} (hp:p<w.tr.length) (h:prB w p=false):wdB w=false:=by
 have:(List.range w.tr.length).all (prB w)=false:=List.all_eq_false.2 ⟨p,List.mem_range.2 hp,by rw[h];simp⟩
 unfold wdB
 rw[this];simp
theorem QG (w:Wd) (hS0:Sm w.tr) (hN:Nm w.tr) (tR:SvsS w.sv) (O8:NwS w.net) (b l:List Row):QA Tryz.prog 24 [.agg ((eWd w).map .v)] b l (fun r b' l'=>r=.v (.bool (wdB w))∧b'=b∧l'=l):=by
 refine VA jW rfl (by decide) ?_
 intro B g hB hR hE hA;simp only[xA]at hA
 have cV:=fun b l=>XG w.net b l
 have cT:=fun b l=>wO w.tr hS0 hN b l
 simp only[eNw,eT,List.map_cons,List.map_nil]at cV cT
 have xU:=hS0.np
 have eW:=tR.len
 simp (disch:=first|decide|omega) only[a_wValid,hA,eWd,YA,cellsOf,go_sem]
 refine QA.nxt (sK w.sv tR _ _) ?_
 cases t1:GF w.sv
 ·simp (disch:=first|decide|omega) only[hA,go_sem]
  exact ZA (xs:=[.v (.bool false)]) (.inr rfl) (by simp (disch:=first|decide|omega) only[JA,zA,go_sem,hA]) kO hR hB ⟨by unfold wdB;rw[t1];rfl,rfl,rfl⟩
 simp (disch:=first|decide|omega) only[hA,go_sem]
 refine QA.nxt (qD _ _ _ _ _) ?_
 cases t2:inZ w.now 0 1000000000
 ·simp (disch:=first|decide|omega) only[hA,go_sem]
  exact ZA (xs:=[.v (.bool false)]) (.inr rfl) (by simp (disch:=first|decide|omega) only[JA,zA,go_sem,hA]) kO hR hB ⟨by unfold wdB;rw[t1,t2];rfl,rfl,rfl⟩
 simp (disch:=first|decide|omega) only[hA,go_sem]
 refine QA.nxt (cV _ _) ?_
 cases t3:nwB w.net
 ·simp (disch:=first|decide|omega) only[hA,go_sem]
  exact ZA (xs:=[.v (.bool false)]) (.inr rfl) (by simp (disch:=first|decide|omega) only[JA,zA,go_sem,hA]) kO hR hB ⟨by unfold wdB;rw[t1,t2,t3];rfl,rfl,rfl⟩
 by_cases t4:w.net.now=w.now
 case neg =>
  have d4:(w.net.now != w.now)=true:=by simpa using t4
  simp (disch:=first|decide|omega) only[hA,d4,go_sem]
  exact ZA (xs:=[.v (.bool false)]) (.inr rfl) (by simp (disch:=first|decide|omega) only[JA,zA,go_sem,hA]) kO hR hB ⟨by unfold wdB;rw[t1,t2,t3,decide_eq_false t4];rfl,rfl,rfl⟩
 have d4:(w.net.now != w.now)=false:=by simpa using t4
 simp (disch:=first|decide|omega) only[hA,d4,go_sem]
 refine QA.nxt (cT _ _) ?_
 cases t5:pE w.tr
 ·simp (disch:=first|decide|omega) only[hA,go_sem]
  exact ZA (xs:=[.v (.bool false)]) (.inr rfl) (by simp (disch:=first|decide|omega) only[JA,zA,go_sem,hA]) kO hR hB ⟨by unfold wdB;rw[t1,t2,t3,decide_eq_true t4,t5];rfl,rfl,rfl⟩
 by_cases t6:w.tr.length=w.sv.length
 case neg =>
  have d6:((w.tr.length:Int) != (w.sv.length:Int))=true:=by simp;omega
  simp (disch:=first|decide|omega) only[hA,d6,List.length_map,go_sem]
  exact ZA (xs:=[.v (.bool false)]) (.inr rfl) (by simp (disch:=first|decide|omega) only[JA,zA,go_sem,hA]) kO hR hB ⟨by unfold wdB;rw[t1,t2,t3,decide_eq_true t4,t5,decide_eq_false t6];rfl,rfl,rfl⟩
 have d6:((w.tr.length:Int) != (w.sv.length:Int))=false:=by simp;omega
 have hvk:=vok t5
 have hS:=hvk.small
 have h64:∀x∈w.tr,x.evs.length≤64:=fun x hx=>by
  obtain⟨p,hp,rfl⟩:=List.getElem_of_mem hx
  have hh:=hvk.head p hp
  unfold bD at hh
  rw[JC dfPr w.tr hp]at hh
  split at hh
  ·cases hh
  split at hh
  ·cases hh
  split at hh
  ·rename_i hc;exact absurd hh hc
  split at hh
  ·cases hh
  ·omega
 have h8:∀p (h:p<w.sv.length),w.sv[p].vars.length≤8:=fun p hp=>by
  unfold GF at t1
  rw[Bool.and_eq_true,List.all_eq_true]at t1
  have:=t1.2 p (List.mem_range.2 hp)
  unfold svB sv1 at this
  rw[KA hp]at this
  simp only[Bool.and_eq_true,decide_eq_true_eq]at this
  exact this.1.2.2.1
 have jO:=E1 h64
 have ZIU:=hvk.hi
 simp (disch:=first|decide|omega) only[hA,d6,List.length_map,go_sem]
 refine tA (ι:=Nat) TS (fun p=>[(3,.v (.int .i64 (cSd w.tr p))),(52,.v (.int .i64 p))]) 1 (fun _=>[.live 0 9 [(eWd w).map .v]])
  (fun p=>p≤w.tr.length∧∀j,j<p→prB w j=true) (fun p=>w.tr.length-p) 0 ⟨Nat.zero_le _,fun j hj=>by omega⟩ (by (repeat (first|exact hE.mono oM|refine KLt.up ?_ kL))) (by ((try simp (disch:=decide) only[hA,go_sem])<;>exact kH)) (fun e=>qA.refl _ _ _) ?_
 rintro g1 mH wD KB p ⟨hp,h0⟩
 have bW:(eWd w).map AV.v=[.v (.isl 6 (w.sv.map eSv)),.v (.int .i64 w.net.now),.v (.bool w.net.fifo),.v (.isl 4 (w.net.l.map eMs)),.v (.isl 1 (w.net.tm.map eI)),.v (.isl 2 (w.net.fates.map eFt)),.v (.int .i64 w.now),.v (.int .i64 w.sent),.v (.isl 3 (w.tr.map ePr))]:=rfl
 rw[bW]
 by_cases LA:p<w.tr.length
 case neg =>
  obtain rfl:p=w.tr.length:=by omega
  have RF:(List.range w.tr.length).all (prB w)=true:=List.all_eq_true.2 fun j hj=>h0 j (List.mem_range.1 hj)
  have hr:wdB w=(decide ((cSd w.tr w.tr.length:Int)=w.sent)&&w.net.l.all (mgB w.tr)):=by
   unfold wdB;rw[t1,t2,t3,decide_eq_true t4,t5,decide_eq_true t6,RF];rfl
  rw[hr]
  by_cases t7:(cSd w.tr w.tr.length:Int)=w.sent
  case neg =>
   have d7:((cSd w.tr w.tr.length:Int)==w.sent)=false:=by simpa using t7
   simp (disch:=first|decide|omega) only[hA,KB,d7,List.length_map,go_sem]
   exact ZA (xs:=[.v (.bool false)]) (.inr rfl) (by simp (disch:=first|decide|omega) only[JA,zA,go_sem,hA,KB]) kO hR hB ⟨by rw[decide_eq_false t7];rfl,rfl,rfl⟩
  have d7:((cSd w.tr w.tr.length:Int)==w.sent)=true:=by simpa using t7
  have cC:=uD aQ bQ (w.net.l.map eMs) 73 [.ptr B.length 0 0 0] (fun j=>!mgB w.tr (w.net.l.getD j dfMs)) (fun row h=>by obtain⟨m,_,rfl⟩:=List.mem_map.1 h;rfl) (by rw[List.length_map];exact O8.l) B [.live 0 9 [(eWd w).map .v]] (fun j row hj=>by
   have FF:j<w.net.l.length:=by have:=(List.getElem?_eq_some_iff.1 hj).1;rwa [List.length_map]at this
   rw[List.getElem?_map,List.getElem?_eq_getElem FF]at hj
   cases hj
   simp only[KA FF]
   exact ST w hS hN _ (O8.body _ (List.getElem_mem FF)) B.length _ _ (by rw[zD,List.append_nil,List.getElem?_append_right (Nat.le_refl _),Nat.sub_self];rfl))
  rw[List.length_map,UG (p:=fun m=>!mgB w.tr m),qF,bW]at cC
  simp (disch:=first|decide|omega) only[hA,KB,d7,List.length_map,go_sem]
  refine QA.nxt cC ?_
  simp (disch:=first|decide|omega) only[hA,KB,Bool.not_not,go_sem]
  exact ZA (xs:=[.v (.bool (w.net.l.all (mgB w.tr)))]) (.inr rfl) (by simp (disch:=first|decide|omega) only[JA,zA,go_sem,hA,KB]) kO hR hB ⟨by rw[decide_eq_true t7];rfl,rfl,rfl⟩
 have hps:p<w.sv.length:=by omega
 obtain⟨x,hx⟩:∃x,w.tr[p]=x:=⟨_,rfl⟩
 have J9:=PL LA
 rw[hx]at J9
 have hxe:DA w.tr p=x.evs:=by rw[LF LA,hx]
 have hx64:=h64 x (by rw[←hx];exact List.getElem_mem LA)
 have cP:=fun b l=>yY w t5 hS hN tR p LA hps (h8 p hps) b l
 rw[bW]at cP
 have hpr:prB w p=(OL w.tr[p] w.sv[p] w.now&&(List.range x.evs.length).all (sOk x.evs w.sent)):=by unfold prB;rw[KA LA,KA hps,hxe]
 have bad:prB w p=false→AV.v (.bool (wdB w))=.v (.bool false):=fun h=>by rw[ZE9 LA h]
 have hcp:=jO p hp
 simp (disch:=first|decide|omega) only[hA,KB,J9,YA,cellsOf,List.length_map,go_sem]
 refine QA.nxt (cP _ _) ?_
 cases t7:OL w.tr[p] w.sv[p] w.now
 ·simp (disch:=first|decide|omega) only[hA,KB,go_sem]
  exact ZA (xs:=[.v (.bool false)]) (.inr rfl) (by simp (disch:=first|decide|omega) only[JA,zA,go_sem,hA,KB]) kO hR hB ⟨by rw[bad (by rw[hpr,t7];rfl)];rfl,rfl,rfl⟩
 simp (disch:=first|decide|omega) only[hA,KB,List.length_map,go_sem]
 refine tA (ι:=Nat) SN (fun i=>[(3,.v (.int .i64 ((cSd w.tr p+nSd x.evs i:Nat):Int))),(64,.v (.int .i64 i))]) 2 (fun _=>[.live 0 9 [(eWd w).map .v],X8 x])
  (fun i=>i≤x.evs.length∧∀j,j<i→sOk x.evs w.sent j=true) (fun i=>x.evs.length-i) 0 ⟨Nat.zero_le _,fun j hj=>by omega⟩ (by (repeat (first|exact mH.mono oM|refine KLt.up ?_ kL))) (by ((try simp (disch:=decide) only[hA,KB,go_sem])<;>exact kH)) (fun e=>qA.refl _ _ _) ?_
 rintro g2 CM bN IG i ⟨hi,h02⟩
 rw[bW]
 unfold X8
 by_cases hli:i<x.evs.length
 ·have CK:=VK hli
  have vP:x.evs.getD i lJ=x.evs[i]:=KA hli
  have hns:=Y1 x.evs i
  have hcn:((cSd w.tr p+nSd x.evs i:Nat):Int)+1=((cSd w.tr p+(nSd x.evs i+1):Nat):Int):=by omega
  by_cases hk:x.evs[i].kind=2
  ·have dk:(x.evs[i].kind != 2)=false:=by rw[hk];rfl
   have hn1:nSd x.evs (i+1)=nSd x.evs i+1:=by simp only[nSd];rw[vP,if_pos hk]
   by_cases hm:x.evs[i].msg<w.sent
   ·have dm:decide (x.evs[i].msg≥w.sent)=false:=decide_eq_false oM
    have dm':decide (w.sent≤x.evs[i].msg)=false:=dm
    simp (disch:=first|decide|omega) only[hA,KB,IG,CK,dk,dm,dm',hcn,YA,cellsOf,List.length_map,go_sem]
    refine⟨i+1,⟨hli,fun j hj=>?_⟩,by simp only;omega,?_⟩
    ·rcases Nat.lt_or_ge j i with fG|fG
     ·exact h02 j fG
     ·obtain rfl:j=i:=by omega
      unfold sOk;rw[vP,decide_eq_true hm];simp
    ·simp only[hn1,bW]
     exact qA.kround (p:=SN) (k:=2) (by ((repeat refine (gA rfl).trans ?_);exact bN)) (by ((try simp (disch:=decide) only[hA,KB,IG,go_sem])<;>exact kH)) rfl CM (by simp) kV hR kL
   ·have dm:decide (x.evs[i].msg≥w.sent)=true:=decide_eq_true oM
    have dm':decide (w.sent≤x.evs[i].msg)=true:=dm
    simp (disch:=first|decide|omega) only[hA,KB,IG,CK,dk,dm,dm',YA,cellsOf,List.length_map,go_sem]
    exact ZA (xs:=[.v (.bool false)]) (.inr rfl) (by simp (disch:=first|decide|omega) only[JA,zA,go_sem,hA,KB,IG]) kO hR hB ⟨by rw[bad (by rw[hpr,show (List.range x.evs.length).all (sOk x.evs w.sent)=false from List.all_eq_false.2 ⟨i,List.mem_range.2 hli,by unfold sOk;rw[vP,hk,decide_eq_false hm];simp⟩,Bool.and_false])];rfl,rfl,rfl⟩
  ·have dk:(x.evs[i].kind != 2)=true:=by simpa using hk
   have dk2:(x.evs[i].kind==2)=false:=by simpa using hk
   have hn1:nSd x.evs (i+1)=nSd x.evs i:=by simp only[nSd];rw[vP,if_neg hk]
   simp (disch:=first|decide|omega) only[hA,KB,IG,CK,dk,YA,cellsOf,List.length_map,go_sem]
   refine⟨i+1,⟨hli,fun j hj=>?_⟩,by simp only;omega,?_⟩
   ·rcases Nat.lt_or_ge j i with fG|fG
    ·exact h02 j fG
    ·obtain rfl:j=i:=by omega
     unfold sOk;rw[vP,dk2];rfl
   ·simp only[hn1,bW]
    exact qA.kround (p:=SN) (k:=2) (by ((repeat refine (gA rfl).trans ?_);exact bN)) (by ((try simp (disch:=decide) only[hA,KB,IG,go_sem])<;>exact kH)) rfl CM (by simp) kV hR kL
 ·obtain rfl:i=x.evs.length:=by omega
  have vM:prB w p=true:=by rw[hpr,t7,List.all_eq_true.2 fun j hj=>h02 j (List.mem_range.1 hj)];rfl
  have HX:cSd w.tr (p+1)=cSd w.tr p+nSd x.evs x.evs.length:=by simp only[cSd];rw[hxe]
  simp (disch:=first|decide|omega) only[hA,KB,IG,YA,cellsOf,List.length_map,go_sem]
  refine⟨p+1,⟨LA,fun j hj=>?_⟩,by simp only;omega,?_⟩
  ·rcases Nat.lt_or_ge j p with fG|fG
   ·exact h0 j fG
   ·obtain rfl:j=p:=by omega
    exact vM
  ·simp only[bW,HX]
   exact qA.kround (p:=TS) (k:=1) (by ((repeat refine (gA rfl).trans ?_);refine (wJ IG (XK rfl)).trans ?_;(repeat refine (gA rfl).trans ?_);exact wD)) (by ((try simp (disch:=decide) only[hA,KB,IG,go_sem])<;>exact kH)) rfl mH (by simp) kV hR kL
end Go.Proofs.YtoccdlnoaindmaaGreatDoor
