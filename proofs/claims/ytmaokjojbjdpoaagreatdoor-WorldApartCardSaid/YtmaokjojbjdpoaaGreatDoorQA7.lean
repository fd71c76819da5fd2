/- Texts of one proof, laid together: B5, DP, B6, B9, BA, CQ, BB, B7, HA, OD, VS, BC, B0, BD. No condition. -/
import Derived.Test.YtmaokjojbjdpoaaGreatDoorQA6
import Derived.Test.YtmaokjojbjdpoaaGreatDoorQA2
import Derived.Test.YtmaokjojbjdpoaaGreatDoorQA5
import Derived.Test.YtmaokjojbjdpoaaGreatDoorQA3
import Derived.Test.YtmaokjojbjdpoaaGreatDoorQA4
import Derived.WalkKit
import Derived.KernelRfl
set_option linter.unusedSimpArgs false
set_option maxHeartbeats 8000000
set_option maxRecDepth 100000
namespace Go.Proofs.YtmaokjojbjdpoaaGreatDoor
set_option maxHeartbeats 16000000
set_option maxRecDepth 100000
set_option linter.unusedVariables false
set_option linter.unusedSimpArgs false
open Go.RowKit Go.Extern.Stop Go.Stop Go.Extern
def dgt (n:Nat):ByteArray:=⟨#[UInt8.ofNat (48+n)]⟩
theorem ZHx (n:Nat) (hn:n≤7) (w:World):Calls Tryz.prog 195 #[.int .i64 n] w fun e w'=>e=.returned (.string (dgt n))∧w'=w:=by
 obtain rfl|rfl|rfl|rfl|rfl|rfl|rfl|rfl:n=0∨n=1∨n=2∨n=3∨n=4∨n=5∨n=6∨n=7:=by omega
 all_goals
  go_enter Tryz.func195,Tryz.ntmps195
  go_wp2
  go_ret
  exact⟨rfl,rfl⟩
theorem ZGJ (n:Nat) (hn:n≤7) (w:World):Calls Tryz.prog 185 #[.int .i64 n,.int .i64 10] w fun e w'=>e=.returned (.string (dgt n))∧w'=w:=by
 have S:=ZHx n hn w
 obtain rfl|rfl|rfl|rfl|rfl|rfl|rfl|rfl:n=0∨n=1∨n=2∨n=3∨n=4∨n=5∨n=6∨n=7:=by omega
 all_goals
  go_enter Tryz.func185,Tryz.ntmps185
  go_wp2_with (go_at_call 195;refine S.mono ?_;rintro e w' ⟨rfl,rfl⟩)
  go_ret
  exact⟨rfl,rfl⟩
theorem ZIT (n:Nat) (hn:n≤7) (w:World):Calls Tryz.prog 165 #[.int .i64 n] w fun e w'=>e=.returned (.string (dgt n))∧w'=w:=by
 have S:=ZGJ n hn w
 go_enter Tryz.func165,Tryz.ntmps165
 go_wp2_with (go_at_call 185;refine S.mono ?_;rintro e w' ⟨rfl,rfl⟩)
 go_ret
 exact⟨rfl,rfl⟩
theorem itoa8 (n:Nat) (hn:n≤7) (w:World):Calls Tryz.prog 133 #[.int .i64 n] w fun e w'=>e=.returned (.string (dgt n))∧w'=w:=by
 have S:=ZIT n hn w
 go_enter Tryz.func133,Tryz.ntmps133
 go_wp2_with (go_at_call 165;refine S.mono ?_;rintro e w' ⟨rfl,rfl⟩)
 go_ret
 exact⟨rfl,rfl⟩
theorem ZA7 (n:Nat) (hn:n≤7) (b l:List Row):QA Tryz.prog 133 [.v (.int .i64 n)] b l (fun r b' l'=>r=.v (.str (dgt n))∧b'=b∧l'=l):=by
 refine QA.of_ext ⟨_,Tryz.func133,by kernel_rfl,by kernel_rfl⟩ (fun F L w vs hr=>?_)
 obtain⟨u,us,h1,h2,h3⟩:=AD hr
 have:=XG h3
 subst this
 obtain rfl:vs=#[u]:=gb.1 (by rw[h1])
 cases h2.vI
 refine (itoa8 n hn w).mono ?_
 rintro e w' ⟨rfl,rfl⟩
 exact⟨Ext.refl _,_,_,rfl,.v _ _ (.str _),rfl,rfl,rfl⟩
end Go.Proofs.YtmaokjojbjdpoaaGreatDoor
namespace Go.Proofs.YtmaokjojbjdpoaaGreatDoor
set_option linter.unusedVariables false
def Pln (x:AV):Prop:=∀(w:World) (F:Nat→Prop) (L:LMap) (w':World) (F':Nat→Prop) (L':LMap) (v:Value),RepA w F L x v→RepA w' F' L' x v
theorem Pln.int {k:IntKind} {n:Int}:Pln (.v (.int k n)):=fun w F L w' F' L' v h=>by
 cases h.vI;exact .v _ _ (.int _ _)
theorem Pln.bool {t:Bool}:Pln (.v (.bool t)):=fun w F L w' F' L' v h=>by
 cases h.vI;exact .v _ _ (.bool _)
theorem Pln.str {t:ByteArray}:Pln (.v (.str t)):=fun w F L w' F' L' v h=>by
 cases h.vI;exact .v _ _ (.str _)
theorem Pln.agg {cs:List AV} (hc:∀c∈cs,Pln c):Pln (.agg cs):=fun w F L w' F' L' v h=>by
 obtain⟨us,rfl,hu⟩:=h.aggL
 exact bA.agg ⟨hu.1,fun j d u hd hju=>hc d (bw hd) w F L w' F' L' u (hu.2 j d u hd hju)⟩
theorem Pln.tup {cs:List AV} (hc:∀c∈cs,Pln c):Pln (.tup cs):=fun w F L w' F' L' v h=>by
 obtain⟨us,rfl,hu⟩:=h.tupL
 exact bA.tup ⟨hu.1,fun j d u hd hju=>hc d (bw hd) w F L w' F' L' u (hu.2 j d u hd hju)⟩
theorem QA.peek {P:Program} {f:Nat} {args args':List AV} {b l:List Row} {x:AV} (hl:args.length=args'.length)
  (hd:∀(i:Nat) (z y:AV),args[i]? = some z→args'[i]? = some y→Dv 0 (b++l) z y) (hx:Pln x)
  (h:QA P f args' ((b++l).map iF) [] (fun r b' l'=>r=x∧b'=(b++l).map iF∧l'=[])):QA P f args b l (fun r b' l'=>r=x∧b'=b∧l'=l):=by
 refine⟨h.1,fun F L w us s hr=>?_⟩
 obtain⟨H,hH⟩:∃H,H=b++l:=⟨_,rfl⟩
 rw[←hH]at s hd h
 have s0:Sim F L ([]++H) w:=s
 have hget:∀{j v z:Nat} {els:List (List AV)},(H.map iF++[])[j]? = some (.live v z els)→False:=fun {j v z els} hj=>by
  rw[db,an]at hj
  cases hq:H[j]? with
  |none=>rw[hq]at hj;cases hj
  |some r=>rw[hq]at hj;cases hj
 have sO:∀k,¬bC L (H.map iF++[]) k:=by
  rintro k ⟨j,v,z,els,q,h1,h2,h3⟩
  exact hget h1
 have s1:Sim (FD F L 0 H) L (H.map iF++[]) w:=by
  refine⟨fun j v z els hj=>(hget hj).elim,fun j v q hq=>?_,fun j j' v v' z z' e1 e2 bb q1 q2 h1 h2=>(hget h1).elim,fun k hk=>⟨?_,sO k⟩,s.glob.mono (fun _ h=>.inl h) (fun _ _=>rfl)⟩
  ·obtain⟨r,h1,h2⟩:=s.born j v q hq
   exact⟨iF r,by rw[db,an,h1];rfl,h2⟩
  ·rcases hk with hk|⟨i,ver,sz,els,q,h1,h2,h3⟩
   ·exact (s.imm k hk).1
   ·rw[cm]at h2
    obtain⟨q',g1,g2⟩:=s.row _ _ _ _ h1
    rw[h2]at g1;cases g1
    exact g2.lt h3
 have sV:bA w (FD F L 0 H) L args' us.toList:=⟨by rw[←hl];exact hr.1,fun j y v hy hv=>by
  have S7:=(ak.1 hy).1
  have hx:args[j]? = some args[j]:=ah oM
  exact (hd j _ y hx hy).rep s0 v (hr.2 j _ v hx hv)⟩
 refine Calls.mono (h.2 _ L w us s1 sV) ?_
 rintro en w' ⟨v,x',b',l',F2,L2,h1,h2,h3,h4,h5,rfl,rfl,rfl⟩
 have bQ:∀k,k<w.heap.size→w'.heap[k]? = w.heap[k]?:=fun k hk=>h4.block k hk (sO k)
 have ZKY:∀k,F k→w'.heap[k]? = w.heap[k]?:=fun k hk=>bQ k (s.imm k hk).1
 subst hH
 refine⟨v,x',b,l,F,L,h1,hx _ _ _ _ _ _ _ h2,⟨fun j ver z els hj=>?_,s.born,s.apart,fun k hk=>⟨fc (s.imm k hk).1 h4.size,(s.imm k hk).2⟩,s.glob.mono (fun _ h=>h) ZKY⟩,
  ⟨fun _ h=>h,fun _ _ _ _ h=>h,h4.os,h4.tape,h4.output,h4.size,fun k hk _=>bQ k hk,fun _ _ h=>h,fun _ _ _ h=>h,fun _ _ h=>.inl h⟩,rfl,rfl,rfl,rfl⟩
 obtain⟨q,g1,g2⟩:=s.row j ver z els hj
 exact⟨q,g1,g2.mono (fun k hk=>bQ k (g2.lt hk)) (fun _ _ h=>h.mono (fun _ h=>h) ZKY (fun _ _ _ h=>h))⟩
set_option linter.unusedSimpArgs false
attribute [local go_sem ↓] vC YB kC xC zD lB yC qD wC dD SA mB jC RA pB qC CA aB nC JB TA uC fB eB zB bB qB OB sB jD iC vD yD nE iD pE mE GB LB
attribute [local go_sem] VB MA CD jB EA sE xD gD wD GK IK uD dC rC sC CC nA QC FA ZC LA UB aop SE LD aD IC GD eC ID fJ SF dF amm AE fC IB qF bD rF comma LC DF lJ IF GF XJ zF VF UE ZJ eqC eqF tG cellsOf xB YC CB UF mI rd rdI fE mk tD AV.cell List.all_cons List.all_nil Bool.and_true Bool.true_and Bool.and_self List.length_cons List.length_nil List.length_append Nat.reduceAdd Nat.reduceSub Nat.reduceMul Nat.zero_add Nat.add_zero List.cons_append List.nil_append List.append_assoc List.append_nil List.getElem?_cons_zero List.getElem?_cons_succ List.getElem?_nil List.set_cons_zero List.set_cons_succ List.drop_zero List.drop_succ_cons List.take_zero List.take_succ_cons List.take_nil List.drop_nil List.map_cons List.map_nil Option.map_some if_true if_false Bool.false_eq_true and_self true_and and_true Nat.reduceLeDiff Nat.reduceLT Nat.le_refl Nat.reduceEqDiff ite_true ite_false beq_self_eq_true beq_true beq_false Bool.not_true Bool.not_false Bool.true_beq Bool.false_beq rE MB wB JD KD zC KC UC VC UD VD dE dA eK YK bK fK kG vG wG yG geI gtI gG decide_true decide_false room List.getElem?_map List.length_map List.length_take Int.toNat_natCast Nat.min_def Nat.min_self kD EC DD tB lD EF zA List.getElem_cons_zero List.getElem_cons_succ
def a_wvars:AFunc:=⟨1,23,[.tmp 2],(.seq (.region [⟨some 2,.mv (.c (.v .zsl)),none⟩]) (.seq (.region [⟨some 3,.mv (.c (.v .zsl)),none⟩]) (.seq (.seq (.region [VMx 6 0,VEx 7 6,⟨some 8,.mv (.c (.v (.int .i64 0))),none⟩]) (.block 0 (.loop (.seq (.region [⟨some 9,.bin .lss (.t 8) (.t 7),none⟩]) (.seq (.cond (.t 9) .skip (.exit 0)) (.seq (.block 1 (.seq (.region [VMx 10 8,VIx 11 1 6 8,VLx 12 11,VMx 4 10,VMx 5 12]) (.region [VMx 13 3,VMx 14 4,⟨some 15,.call (.c (.fn 133 [])) [(.t 14)],none⟩,⟨some 16,.binS .add (.c (.v (.str ⟨#[118]⟩))) (.t 15),none⟩,VMx 17 5,⟨some 18,.build [(.v (.str ⟨#[]⟩)),(.v (.int .i64 0))] [(0,1,(.t 16)),(1,1,(.t 17))],none⟩,⟨some 19,.bslice 2 [(.v (.str ⟨#[]⟩)),(.v (.int .i64 0))] 1 [(0,(.t 18))],none⟩,⟨some 20,.append 2 24 (.t 13) (.t 19),none⟩,VMx 3 20]))) (.region [⟨some 21,.bin .add (.t 8) (.c (.v (.int .i64 1))),none⟩,VMx 8 21]))))))) (.seq (.region [VMx 22 3,VMx 2 22]) .ret))))⟩
theorem Y5:jA Tryz.prog 83=some a_wvars:=by kernel_rfl
def jZ:List (Nat×Nat):=[(3,5),(8,21)]
def a_r54VN:AFunc:=⟨1,9,[.tmp 2],(.seq (.region [⟨some 2,.mv (.c (.v (.str ⟨#[]⟩))),none⟩]) (.seq (.region [VMx 3 0,⟨some 4,.bin .add (.c (.v (.int .i64 48))) (.t 3),none⟩,⟨some 5,.conv .u8 (.t 4),none⟩,⟨some 6,.bslice 1 [(.v (.int .u8 0))] 1 [(0,(.t 5))],none⟩,⟨some 7,.tostr (.t 6),none⟩,⟨some 8,.binS .add (.c (.v (.str ⟨#[118]⟩))) (.t 7),none⟩,VMx 2 8]) .ret))⟩
theorem S5:jA Tryz.prog 108=some a_r54VN:=by kernel_rfl
def a_r54final:AFunc:=({c:=_}:CF Tryz.prog 107).c
theorem uT:jA Tryz.prog 107=some a_r54final:=by kernel_rfl
def xP:List (Nat×Nat):=[(3,4),(7,22)]
def wP:List (Nat×Nat):=[(5,6),(23,62)]
def kP:List (Nat×Nat):=[(6,6),(30,62)]

def OG (i:Nat):ByteArray:=⟨#[118,UInt8.ofNat (48+i)]⟩
def wVr (l:List Int) (i:Nat):Vr:=⟨OG i,l.getD i 0⟩
def NM (l:List Int):List Vr:=fl l.length (wVr l)
theorem CY (i:Nat):(⟨#[118]⟩:ByteArray)++dgt i=OG i:=rfl
theorem VI {l:List Int}:(NM l).length=l.length:=fA
theorem ZDC (l:List Int) (i:Nat):(fl i (wVr l)).map eVr++[[.str (OG i),.int .i64 (l.getD i 0)]]=(fl (i+1) (wVr l)).map eVr:=by
 have h:fl (i+1) (wVr l)=fl i (wVr l)++[wVr l i]:=by unfold fl;rw[fq,bq];rfl
 rw[h,bq];rfl
theorem qR (l0:List Int) (h8:l0.length≤8) (b l:List Row):QA Tryz.prog 83 [.v (.isl 1 (l0.map eI))] b l (fun r b' l'=>r=.v (.isl 2 ((NM l0).map eVr))∧b'=b∧l'=l):=by
 refine XA Y5 rfl kE ?_
 intro B g hB hR hE hA;simp only[zA]at hA
 simp (disch:=first|decide|omega) only[a_wvars,hA,aa,go_sem]
 refine ZG (ι:=Nat) 3 2 jZ (fun i=>[(8,.v (.int .i64 i)),(3,.sl B.length i 0 i)]) 1 (fun i=>[.live i 2 (vs ((fl i (wVr l0)).map eVr))])
  (fun i=>i≤l0.length) (fun i=>l0.length-i) 0 (aj _) (by simp (disch:=first|decide|omega) only[hA,go_sem]) kE rfl kM kA kF ?_
 intro g1 UG mF rA i hi
 by_cases yA:i<l0.length
 ·have CI:=tE yA
  have hfl:((fl i (wVr l0)).map eVr).length=i:=by rw[aa,fA]
  have htk:((fl i (wVr l0)).map eVr).take i=(fl i (wVr l0)).map eVr:=cr (by rw[hfl];omega)
  have hn:=CY i
  simp (disch:=first|decide|omega) only[hA,rA,CI,hfl,go_sem]
  refine QA.nxt (ZA7 i oM _ _) ?_
  have zN:((#[118]:Array UInt8).size+(dgt i).size≤9223372036854775807)=True:=eq_true (by show 1+1≤_;omega)
  simp (disch:=first|decide|omega) only[hA,rA,CI,hn,zN,iB,hfl,htk,ZDC,aa,go_sem]

  refine⟨i+1,yA,by simp only;omega,?_⟩
  exact KA.kround (p:=jZ) (k:=1) kQ kA rfl UG kS kV hR kL
 ·obtain rfl:i=l0.length:=by omega
  have hfl:((fl l0.length (wVr l0)).map eVr).length=l0.length:=by rw[aa,fA]
  simp (disch:=first|decide|omega) only[hA,rA,aa,go_sem]
  exact SU (i:=0) (ver:=l0.length) (sz:=2) (n:=l0.length) (rows:=(fl l0.length (wVr l0)).map eVr) (.inr rfl) kR rfl hfl.symm hR hB ⟨rfl,rfl,rfl⟩
theorem G3 (i:Nat) (hi:i≤7) (b l:List Row):QA Tryz.prog 108 [.v (.int .i64 i)] b l (fun r b' l'=>r=.v (.str (OG i))∧b'=b∧l'=l):=by
 refine XA S5 rfl kE ?_
 intro B g hB hR hE hA;simp only[zA]at hA
 have hw:IntKind.i64.wrap (48+(i:Int))=((48+i:Nat):Int):=by rw[dA oM oM];omega
 have hw8:IntKind.u8.wrap ((48+i:Nat):Int)=((48+i:Nat):Int):=by
  obtain rfl|rfl|rfl|rfl|rfl|rfl|rfl|rfl:i=0∨i=1∨i=2∨i=3∨i=4∨i=5∨i=6∨i=7:=by omega
  all_goals rfl
 have hnu:qQ [[AV.v (.int .u8 ((48+i:Nat):Int))]]=some [((48+i:Nat):Int)]:=rfl
 have pG:LW [((48+i:Nat):Int)]=dgt i:=by
  obtain rfl|rfl|rfl|rfl|rfl|rfl|rfl|rfl:i=0∨i=1∨i=2∨i=3∨i=4∨i=5∨i=6∨i=7:=by omega
  all_goals rfl
 have hn:=CY i
 have zN:((#[118]:Array UInt8).size+(dgt i).size≤9223372036854775807)=True:=eq_true (by show 1+1≤_;omega)
 simp (disch:=first|decide|omega) only[a_r54VN,hA,hw,hw8,iB,hnu,pG,hn,zN,go_sem]
 exact ZA (xs:=[.v (.str (OG i))])
def apA (v:List Int) (a:Asg):List Int:=v.set a.v.toNat a.val
def WM (v:List Int) (l:List Asg) (j:Nat):List Int:=(l.take j).foldl apA v
def apE (v:List Int) (e:Ev):List Int:=WM v e.asg e.asg.length
def stV (p:Pr):Nat→List Int
 |0=>p.vars.map (·.init)
 |k+1=>apE (stV p k) (p.evs.getD k lI)
def AL (p:Pr):List Int:=stV p p.evs.length
def OkA (p:Pr):Prop:=∀e∈p.evs,∀a∈e.asg,0≤a.v∧a.v<p.vars.length
theorem JS:∀(l:List Asg) (v:List Int),(l.foldl apA v).length=v.length
 |[],v=>rfl
 |a::l,v=>by rw[km,JS l];unfold apA;simp
theorem VM {v:List Int} {l:List Asg} {j:Nat}:(WM v l j).length=v.length:=JS _ _
theorem jV {v:List Int} {l:List Asg} {j:Nat} (h:j<l.length):WM v l (j+1)=(WM v l j).set l[j].v.toNat l[j].val:=by
 unfold WM
 rw[mO h,List.foldl_append];rfl
theorem xG {p:Pr}:∀k,(stV p k).length=p.vars.length
 |0=>by simp[stV]
 |k+1=>by simp only[stV,apE,VM];exact xG k
theorem OQ {l:List Vr} {i:Nat} (h:i<l.length):(l.map eVr)[i]? = some [.str l[i].name,.int .i64 l[i].init]:=by
 rw[an,ah h];rfl
theorem AG {l:List Ev} {i:Nat} (h:i<l.length):(l.map eEv)[i]? = some [.int .i64 l[i].kind,.int .i64 l[i].peer,.int .i64 l[i].msg,.int .i64 l[i].time,.isl 2 (l[i].asg.map uL)]:=by
 rw[an,ah h];rfl
theorem X0 {l:List Asg} {i:Nat} (h:i<l.length):(l.map uL)[i]? = some [.int .i64 l[i].v,.int .i64 l[i].val]:=by
 rw[an,ah h];rfl
structure PrS (p:Pr):Prop where
 nv:p.vars.length≤1000000
 ne:p.evs.length≤1000000
 na:∀e∈p.evs,e.asg.length≤1000000
def XK (p:Pr):Row:=.live 0 3 [[.v (.str p.name),.v (.isl 2 (p.vars.map eVr)),.v (.isl 5 (p.evs.map eEv))]]
theorem zT (p:Pr) (hS:PrS p) (hO:OkA p) (b l:List Row):QA Tryz.prog 107 [.agg [.v (.str p.name),.v (.isl 2 (p.vars.map eVr)),.v (.isl 5 (p.evs.map eEv))]] b l (fun r b' l'=>r=.v (.isl 1 ((AL p).map eI))∧b'=b∧l'=l):=by
 refine XA uT rfl kE ?_
 intro B g hB hR hE hA;simp only[zA]at hA
 have hnv:=hS.nv
 have VG:=hS.ne
 simp (disch:=first|decide|omega) only[a_r54final,hA,aa,go_sem]
 refine ZG (ι:=Nat) 3 1 xP (fun i=>[(4,.v (.int .i64 i)),(3,.sl (B.length+1) i 0 i)]) 2 (fun i=>[XK p,.live i 1 (vs (((p.vars.take i).map (·.init)).map eI))])
  (fun i=>i≤p.vars.length) (fun i=>p.vars.length-i) 0 (aj _) (by simp (disch:=first|decide|omega) only[hA,go_sem]) kE rfl kM kA kF ?_
 intro g1 UG mF rA i hi
 unfold XK
 by_cases yA:i<p.vars.length
 ·have CI:=OQ yA
  have hfl:(((p.vars.take i).map (·.init)).map eI).length=i:=by rw[aa,aa,cf];omega
  have htk:(((p.vars.take i).map (·.init)).map eI).take i=((p.vars.take i).map (·.init)).map eI:=cr (by rw[hfl];omega)
  have S1:((p.vars.take i).map (·.init)).map eI++[[.int .i64 p.vars[i].init]]=((p.vars.take (i+1)).map (·.init)).map eI:=by rw[mO yA,bq,bq];rfl
  simp (disch:=first|decide|omega) only[hA,rA,CI,iB,hfl,htk,S1,aa,go_sem]
  refine⟨i+1,yA,by simp only;omega,?_⟩
  exact KA.kround (p:=xP) (k:=2) kQ kA rfl UG kS kV hR kL
 obtain rfl:i=p.vars.length:=by omega
 obtain⟨n,hn⟩:∃n,n=p.vars.length:=⟨_,rfl⟩
 have h0:(p.vars.take p.vars.length).map (·.init)=stV p 0:=by rw[ik];rfl
 rw[h0]
 simp (disch:=first|decide|omega) only[hA,rA,aa,go_sem]
 refine JA (ι:=Nat) wP (fun k=>[(5,.v (.int .i64 k))]) 2 (fun k=>[XK p,.live p.vars.length 1 (vs ((stV p k).map eI))])
  (fun k=>k≤p.evs.length) (fun k=>p.evs.length-k) 0 (aj _) kM kA kF ?_
 intro g2 AJ OP VE k hk
 unfold XK
 by_cases yA:k<p.evs.length
 case neg =>
  obtain rfl:k=p.evs.length:=by omega
  have hfl:((stV p p.evs.length).map eI).length=p.vars.length:=by rw[aa,xG]
  simp (disch:=first|decide|omega) only[hA,rA,VE,aa,go_sem]
  exact SU (i:=1) (ver:=p.vars.length) (sz:=1) (n:=p.vars.length) (rows:=(stV p p.evs.length).map eI) (.inr rfl) kR rfl hfl.symm hR hB ⟨rfl,rfl,rfl⟩
 have xH:=AG yA
 obtain⟨e,he⟩:∃e,p.evs[k]=e:=⟨_,rfl⟩
 rw[he]at xH
 have hme:e∈p.evs:=by rw[←he];exact am yA
 have hna:=hS.na e hme
 have pG:stV p (k+1)=WM (stV p k) e.asg e.asg.length:=by simp only[stV,apE,YA yA,he]
 simp (disch:=first|decide|omega) only[hA,rA,VE,xH,aa,go_sem]
 refine JA (ι:=Nat) kP (fun j=>[(6,.v (.int .i64 j))]) 2 (fun j=>[XK p,.live p.vars.length 1 (vs ((WM (stV p k) e.asg j).map eI))])
  (fun j=>j≤e.asg.length) (fun j=>e.asg.length-j) 0 (aj _) kM kA kF ?_
 intro g3 FY UU dH j hj
 unfold XK
 by_cases mK:j<e.asg.length
 ·have hga:=X0 mK
  have hv:=hO e hme e.asg[j] (am mK)
  have hfl:((WM (stV p k) e.asg j).map eI).length=p.vars.length:=by rw[aa,VM,xG]
  obtain⟨q,hq⟩:∃q:Nat,e.asg[j].v=q:=⟨e.asg[j].v.toNat,by omega⟩
  have hqn:q<p.vars.length:=by omega
  have hqg:((WM (stV p k) e.asg j).map eI)[q]? = some [.int .i64 ((WM (stV p k) e.asg j).getD q 0)]:=tE (by rw[VM,xG];exact hqn)
  have xO:((WM (stV p k) e.asg j).map eI).set q [.int .i64 e.asg[j].val]=(WM (stV p k) e.asg (j+1)).map eI:=by rw[jV mK,hq,cj,fo];rfl
  simp (disch:=first|decide|omega) only[hA,rA,VE,dH,xH,hga,hq,hqg,xO,hfl,aa,go_sem]
  refine⟨j+1,mK,by simp only;omega,?_⟩
  exact KA.kround (p:=kP) (k:=2) kQ kA rfl FY kS kV hR kL
 ·obtain rfl:j=e.asg.length:=by omega
  simp (disch:=first|decide|omega) only[hA,rA,VE,dH,xH,aa,go_sem]
  refine⟨k+1,yA,by simp only;omega,?_⟩
  rw[←pG]
  exact KA.kround (p:=wP) (k:=2) kQ kA rfl AJ kS kV hR kL
open Go.RowKit
def a_wst1:AFunc:=({c:=_}:CF Tryz.prog 164).c
theorem ZIi:jA Tryz.prog 164=some a_wst1:=by kernel_rfl
def K8:List (Nat×Nat):=[(3,3),(5,5),(13,22)]
def uG:List (Nat×Nat):=[(6,7),(9,9),(31,57)]
def U8:List (Nat×Nat):=[(9,9),(39,49)]

theorem xA {α:Type} {T:List α} {n:Nat} (h:T.length=n+1):∃a U,T=a::U∧U.length=n:=by
 cases T with
 |nil=>cases h
 |cons a U=>exact⟨a,U,rfl,by simpa using h⟩
theorem ZGz {α:Type} (T:List α) (h:T.length=58):∃v0 v1 v2 v3 v4 v5 v6 v7 v8 v9 v10 v11 v12 v13 v14 v15 v16 v17 v18 v19 v20 v21 v22 v23 v24 v25 v26 v27 v28 v29 v30 v31 v32 v33 v34 v35 v36 v37 v38 v39 v40 v41 v42 v43 v44 v45 v46 v47 v48 v49 v50 v51 v52 v53 v54 v55 v56 v57:α,T=[v0,v1,v2,v3,v4,v5,v6,v7,v8,v9,v10,v11,v12,v13,v14,v15,v16,v17,v18,v19,v20,v21,v22,v23,v24,v25,v26,v27,v28,v29,v30,v31,v32,v33,v34,v35,v36,v37,v38,v39,v40,v41,v42,v43,v44,v45,v46,v47,v48,v49,v50,v51,v52,v53,v54,v55,v56,v57]:=by
 obtain⟨v0,T0,rfl,h0⟩:=xA h
 obtain⟨v1,T1,rfl,h1⟩:=xA h0
 obtain⟨v2,T2,rfl,h2⟩:=xA h1
 obtain⟨v3,T3,rfl,h3⟩:=xA h2
 obtain⟨v4,T4,rfl,h4⟩:=xA h3
 obtain⟨v5,T5,rfl,h5⟩:=xA h4
 obtain⟨v6,T6,rfl,h6⟩:=xA h5
 obtain⟨v7,T7,rfl,h7⟩:=xA h6
 obtain⟨v8,T8,rfl,h8⟩:=xA h7
 obtain⟨v9,T9,rfl,h9⟩:=xA h8
 obtain⟨v10,T10,rfl,h10⟩:=xA h9
 obtain⟨v11,T11,rfl,h11⟩:=xA h10
 obtain⟨v12,T12,rfl,h12⟩:=xA h11
 obtain⟨v13,T13,rfl,h13⟩:=xA h12
 obtain⟨v14,T14,rfl,h14⟩:=xA h13
 obtain⟨v15,T15,rfl,h15⟩:=xA h14
 obtain⟨v16,T16,rfl,h16⟩:=xA h15
 obtain⟨v17,T17,rfl,h17⟩:=xA h16
 obtain⟨v18,T18,rfl,h18⟩:=xA h17
 obtain⟨v19,T19,rfl,h19⟩:=xA h18
 obtain⟨v20,T20,rfl,h20⟩:=xA h19
 obtain⟨v21,T21,rfl,h21⟩:=xA h20
 obtain⟨v22,T22,rfl,h22⟩:=xA h21
 obtain⟨v23,T23,rfl,h23⟩:=xA h22
 obtain⟨v24,T24,rfl,h24⟩:=xA h23
 obtain⟨v25,T25,rfl,h25⟩:=xA h24
 obtain⟨v26,T26,rfl,h26⟩:=xA h25
 obtain⟨v27,T27,rfl,h27⟩:=xA h26
 obtain⟨v28,T28,rfl,h28⟩:=xA h27
 obtain⟨v29,T29,rfl,h29⟩:=xA h28
 obtain⟨v30,T30,rfl,h30⟩:=xA h29
 obtain⟨v31,T31,rfl,h31⟩:=xA h30
 obtain⟨v32,T32,rfl,h32⟩:=xA h31
 obtain⟨v33,T33,rfl,h33⟩:=xA h32
 obtain⟨v34,T34,rfl,h34⟩:=xA h33
 obtain⟨v35,T35,rfl,h35⟩:=xA h34
 obtain⟨v36,T36,rfl,h36⟩:=xA h35
 obtain⟨v37,T37,rfl,h37⟩:=xA h36
 obtain⟨v38,T38,rfl,h38⟩:=xA h37
 obtain⟨v39,T39,rfl,h39⟩:=xA h38
 obtain⟨v40,T40,rfl,h40⟩:=xA h39
 obtain⟨v41,T41,rfl,h41⟩:=xA h40
 obtain⟨v42,T42,rfl,h42⟩:=xA h41
 obtain⟨v43,T43,rfl,h43⟩:=xA h42
 obtain⟨v44,T44,rfl,h44⟩:=xA h43
 obtain⟨v45,T45,rfl,h45⟩:=xA h44
 obtain⟨v46,T46,rfl,h46⟩:=xA h45
 obtain⟨v47,T47,rfl,h47⟩:=xA h46
 obtain⟨v48,T48,rfl,h48⟩:=xA h47
 obtain⟨v49,T49,rfl,h49⟩:=xA h48
 obtain⟨v50,T50,rfl,h50⟩:=xA h49
 obtain⟨v51,T51,rfl,h51⟩:=xA h50
 obtain⟨v52,T52,rfl,h52⟩:=xA h51
 obtain⟨v53,T53,rfl,h53⟩:=xA h52
 obtain⟨v54,T54,rfl,h54⟩:=xA h53
 obtain⟨v55,T55,rfl,h55⟩:=xA h54
 obtain⟨v56,T56,rfl,h56⟩:=xA h55
 obtain⟨v57,T57,rfl,h57⟩:=xA h56
 obtain rfl:=co h57
 exact⟨v0,v1,v2,v3,v4,v5,v6,v7,v8,v9,v10,v11,v12,v13,v14,v15,v16,v17,v18,v19,v20,v21,v22,v23,v24,v25,v26,v27,v28,v29,v30,v31,v32,v33,v34,v35,v36,v37,v38,v39,v40,v41,v42,v43,v44,v45,v46,v47,v48,v49,v50,v51,v52,v53,v54,v55,v56,v57,rfl⟩
def s1A:ACode:=.region [⟨(some 3),.mv (.c (.v .zsl)),none⟩]
def s1V:ACode:=.seq (.region [⟨(some 10),.faddr 1 (.t 1),none⟩,⟨(some 11),.load none (.t 10),none⟩,⟨(some 12),.len (.t 11),none⟩,⟨(some 13),.mv (.c (.v (.int .i64 0))),none⟩])
 (.block 0 (.loop (.seq (.region [⟨(some 14),.bin .lss (.t 13) (.t 12),none⟩])
 (.seq (.cond (.t 14) .skip
 (.exit 0))
 (.seq (.block 1 (.seq (.region [⟨(some 15),.iaddr 2 (.t 11) (.t 13),none⟩,⟨(some 16),.load (some 2) (.t 15),none⟩,⟨(some 5),.alloc [(.v (.str ⟨#[]⟩)),(.v (.int .i64 0))],none⟩,⟨none,.store 2 (.t 5) (.t 16),none⟩])
 (.region [⟨(some 17),.mv (.t 3),none⟩,⟨(some 18),.faddr 1 (.t 5),none⟩,⟨(some 19),.load none (.t 18),none⟩,⟨(some 20),.bslice 1 [(.v (.int .i64 0))] 1 [(0,(.t 19))],none⟩,⟨(some 21),.append 1 8 (.t 17) (.t 20),none⟩,⟨(some 3),.mv (.t 21),none⟩])))
 (.region [⟨(some 22),.bin .add (.t 13) (.c (.v (.int .i64 1))),none⟩,⟨(some 13),.mv (.t 22),none⟩]))))))
def s1R:ACode:=.region [⟨(some 28),.faddr 2 (.t 1),none⟩,⟨(some 29),.load none (.t 28),none⟩,⟨(some 30),.len (.t 29),none⟩,⟨(some 31),.mv (.c (.v (.int .i64 0))),none⟩]
def s1C:ACode:=.region [⟨(some 32),.bin .lss (.t 31) (.t 30),none⟩]
def s1E:ACode:=.region [⟨(some 33),.mv (.t 31),none⟩,⟨(some 34),.iaddr 5 (.t 29) (.t 31),none⟩,⟨(some 35),.load (some 5) (.t 34),none⟩,⟨(some 7),.alloc [(.v (.int .i64 0)),(.v (.int .i64 0)),(.v (.int .i64 0)),(.v (.int .i64 0)),(.v .zsl)],none⟩,⟨(some 6),.mv (.t 33),none⟩,⟨none,.store 5 (.t 7) (.t 35),none⟩]
def s1I:ACode:=.seq (.region [⟨(some 36),.faddr 4 (.t 7),none⟩,⟨(some 37),.load none (.t 36),none⟩,⟨(some 38),.len (.t 37),none⟩,⟨(some 39),.mv (.c (.v (.int .i64 0))),none⟩])
 (.block 4 (.loop (.seq (.region [⟨(some 40),.bin .lss (.t 39) (.t 38),none⟩])
 (.seq (.cond (.t 40) .skip
 (.exit 4))
 (.seq (.block 5 (.seq (.region [⟨(some 41),.iaddr 2 (.t 37) (.t 39),none⟩,⟨(some 42),.load (some 2) (.t 41),none⟩,⟨(some 9),.alloc [(.v (.int .i64 0)),(.v (.int .i64 0))],none⟩,⟨none,.store 2 (.t 9) (.t 42),none⟩])
 (.region [⟨(some 43),.mv (.t 3),none⟩,⟨(some 44),.faddr 0 (.t 9),none⟩,⟨(some 45),.load none (.t 44),none⟩,⟨(some 46),.faddr 1 (.t 9),none⟩,⟨(some 47),.load none (.t 46),none⟩,⟨(some 48),.iaddr 1 (.t 43) (.t 45),none⟩,⟨none,.store 1 (.t 48) (.t 47),none⟩])))
 (.region [⟨(some 49),.bin .add (.t 39) (.c (.v (.int .i64 1))),none⟩,⟨(some 39),.mv (.t 49),none⟩]))))))
def s1N:ACode:=.region [⟨(some 57),.bin .add (.t 31) (.c (.v (.int .i64 1))),none⟩,⟨(some 31),.mv (.t 57),none⟩]
structure StF (yl:Nat) (p:Pr) (B:List Row) (n:Nat) (f:Nat→AV):Prop where
 lt:KLt (B.length+1) f
 s0:f 0=.v (.yl yl)
 s1:f 1=.v (.iptr [.str p.name,.isl 2 (p.vars.map eVr),.isl 5 (p.evs.map eEv)] 0)
 s3:f 3=.sl B.length n 0 n
theorem ZFX (yl:Nat) (p:Pr) (hS:PrS p) (B:List Row) (hR:tA B.length B) (g:Nat→AV) (hE:KLt B.length g) (h0:g 0=.v (.yl yl)) (h1:g 1=.v (.iptr [.str p.name,.isl 2 (p.vars.map eVr),.isl 5 (p.evs.map eEv)] 0)) (h3:g 3=.v .zsl) :
  run (QA Tryz.prog) KA s1V (kOf 58 g) B [] (fun ax e b l=>ax=.normal∧b=B∧l=[.live p.vars.length 1 (vs ((stV p 0).map eI))]∧∃f,e=kOf 58 f∧StF yl p B p.vars.length f):=by
 have hnv:=hS.nv
 simp (disch:=first|decide|omega) only[s1V,h0,h1,h3,aa,go_sem]
 refine ZG (ι:=Nat) 3 1 K8 (fun i=>[(13,.v (.int .i64 i)),(3,.sl B.length i 0 i)]) 1 (fun i=>[.live i 1 (vs (((p.vars.take i).map (·.init)).map eI))])
  (fun i=>i≤p.vars.length) (fun i=>p.vars.length-i) 0 (aj _) (by simp (disch:=first|decide|omega) only[h3,go_sem]) kE rfl kM (by ((try simp (disch:=decide) only[h0,h1,go_sem])<;>exact kH)) kF ?_
 intro g1 UG mF rA i hi
 by_cases yA:i<p.vars.length
 ·have CI:=OQ yA
  have hfl:(((p.vars.take i).map (·.init)).map eI).length=i:=by rw[aa,aa,cf];omega
  have htk:(((p.vars.take i).map (·.init)).map eI).take i=((p.vars.take i).map (·.init)).map eI:=cr (by rw[hfl];omega)
  have S1:((p.vars.take i).map (·.init)).map eI++[[.int .i64 p.vars[i].init]]=((p.vars.take (i+1)).map (·.init)).map eI:=by rw[mO yA,bq,bq];rfl
  simp (disch:=first|decide|omega) only[h0,h1,h3,rA,CI,iB,hfl,htk,S1,aa,go_sem]
  refine⟨i+1,yA,by simp only;omega,?_⟩
  exact KA.kround (p:=K8) (k:=1) kQ (by ((try simp (disch:=decide) only[h0,h1,rA,go_sem])<;>exact kH)) rfl UG kS kV hR kL
 ·obtain rfl:i=p.vars.length:=by omega
  have pG:(p.vars.take p.vars.length).map (·.init)=stV p 0:=by rw[ik];rfl
  simp (disch:=first|decide|omega) only[h0,h1,h3,rA,aa,go_sem]
  refine⟨by rw[pG],_,rfl,⟨?_,?_,?_,?_⟩⟩
  ·(repeat (first|exact UG.mono oM|refine KLt.up ?_ kL))
  ·simp (disch:=first|decide|omega) only[h0,h1,rA,go_sem]
  ·simp (disch:=first|decide|omega) only[h0,h1,rA,go_sem]
  ·simp (disch:=first|decide|omega) only[h0,h1,rA,go_sem]
structure StG (yl:Nat) (p:Pr) (B:List Row) (n k i:Nat) (f:Nat→AV):Prop where
 lt:KLt (B.length+k) f
 s0:f 0=.v (.yl yl)
 s1:f 1=.v (.iptr [.str p.name,.isl 2 (p.vars.map eVr),.isl 5 (p.evs.map eEv)] 0)
 s3:f 3=.sl B.length n 0 n
 s29:f 29=.v (.isl 5 (p.evs.map eEv))
 s30:f 30=.v (.int .i64 p.evs.length)
 s31:f 31=.v (.int .i64 i)
theorem ZFY (yl:Nat) (p:Pr) (hS:PrS p) (B:List Row) (n:Nat) (l:List Row) (f:Nat→AV) (h:StF yl p B n f) :
  run (QA Tryz.prog) KA s1R (kOf 58 f) B l (fun ax e b l'=>ax=.normal∧b=B∧l'=l∧∃f',e=kOf 58 f'∧StG yl p B n 1 0 f'):=by
 have VG:=hS.ne
 have h1:=h.s1
 simp (disch:=first|decide|omega) only[s1R,h1,aa,go_sem]
 refine⟨_,rfl,⟨?_,?_,?_,?_,?_,?_,?_⟩⟩
 ·have hE:=h.lt
  (repeat (first|exact hE.mono oM|refine KLt.up ?_ kL))
 ·have:=h.s0
  simp (disch:=first|decide|omega) only[this,go_sem]
 ·simp (disch:=first|decide|omega) only[h1,go_sem]
 ·have:=h.s3
  simp (disch:=first|decide|omega) only[this,go_sem]
 ·simp (disch:=first|decide|omega) only[h1,go_sem]
 ·simp (disch:=first|decide|omega) only[h1,go_sem]
 ·simp (disch:=first|decide|omega) only[h1,go_sem];rfl
theorem ZF2 (yl:Nat) (p:Pr) (B:List Row) (n i k:Nat) (l:List Row) (f:Nat→AV) (h:StG yl p B n k i f) :
  run (QA Tryz.prog) KA s1C (kOf 58 f) B l (fun ax e b l'=>ax=.normal∧b=B∧l'=l∧∃f',e=kOf 58 f'∧StG yl p B n k i f'∧f' 32=.v (.bool (decide ((i:Int)<(p.evs.length:Int))))):=by
 have h1:=h.s30
 have h2:=h.s31
 simp (disch:=first|decide|omega) only[s1C,h1,h2,go_sem]
 refine⟨_,rfl,⟨?_,?_,?_,?_,?_,?_,?_⟩,?_⟩
 ·have hE:=h.lt
  (repeat (first|exact hE.mono oM|refine KLt.up ?_ kL))
 ·have:=h.s0
  simp (disch:=first|decide|omega) only[this,go_sem]
 ·have:=h.s1
  simp (disch:=first|decide|omega) only[this,go_sem]
 ·have:=h.s3
  simp (disch:=first|decide|omega) only[this,go_sem]
 ·have:=h.s29
  simp (disch:=first|decide|omega) only[this,go_sem]
 ·simp (disch:=first|decide|omega) only[h1,go_sem]
 ·simp (disch:=first|decide|omega) only[h2,go_sem]
 ·simp (disch:=first|decide|omega) only[h2,go_sem]
def ST (e:Ev):Row:=.live 0 5 [[.v (.int .i64 e.kind),.v (.int .i64 e.peer),.v (.int .i64 e.msg),.v (.int .i64 e.time),.v (.isl 2 (e.asg.map uL))]]
theorem ZF1 (yl:Nat) (p:Pr) (B:List Row) (n i:Nat) (hi:i<p.evs.length) (r:Row) (f:Nat→AV) (h:StG yl p B n 1 i f) :
  run (QA Tryz.prog) KA s1E (kOf 58 f) B [r] (fun ax e b l'=>ax=.normal∧b=B∧l'=[r,ST p.evs[i]]∧∃f',e=kOf 58 f'∧StG yl p B n 2 i f'∧(f' 6=.v (.int .i64 i)∧f' 7=.ptr (B.length+1) 0 0 0)∧KLt (B.length+1) (pF uG f')):=by
 have h1:=h.s29
 have h2:=h.s31
 have xH:=AG hi
 simp (disch:=first|decide|omega) only[s1E,h1,h2,xH,cellsOf,go_sem]
 refine⟨rfl,_,rfl,⟨?_,?_,?_,?_,?_,?_,?_⟩,⟨?_,?_⟩,?_⟩
 ·have hE:=h.lt
  (repeat (first|exact hE.mono oM|refine KLt.up ?_ kL))
 ·have:=h.s0
  simp (disch:=first|decide|omega) only[this,go_sem]
 ·have:=h.s1
  simp (disch:=first|decide|omega) only[this,go_sem]
 ·have:=h.s3
  simp (disch:=first|decide|omega) only[this,go_sem]
 ·simp (disch:=first|decide|omega) only[h1,go_sem]
 ·have:=h.s30
  simp (disch:=first|decide|omega) only[this,go_sem]
 ·simp (disch:=first|decide|omega) only[h2,go_sem]
 ·simp (disch:=first|decide|omega) only[h2,go_sem]
 ·simp (disch:=first|decide|omega) only[h2,go_sem]
 ·have e1:∀f',pF uG f'=pF uG f→KLt (B.length+1) (pF uG f'):=fun f' he=>by rw[he];exact h.lt.any
  exact e1 _ (by (repeat refine (kAny_up rfl).trans ?_);rfl)
theorem ZF0 (yl:Nat) (p:Pr) (hS:PrS p) (hO:OkA p) (B:List Row) (hR:tA B.length B) (i:Nat) (hi:i<p.evs.length) (f:Nat→AV) (h:StG yl p B p.vars.length 2 i f) (h6:f 6=.v (.int .i64 i)) (h7:f 7=.ptr (B.length+1) 0 0 0) (hlo:KLt (B.length+1) (pF uG f)) :
  run (QA Tryz.prog) KA s1I (kOf 58 f) B [.live p.vars.length 1 (vs ((stV p i).map eI)),ST p.evs[i]] (fun ax e b l'=>ax=.normal∧b=B∧l'=[.live p.vars.length 1 (vs ((stV p (i+1)).map eI)),ST p.evs[i]]∧∃f',e=kOf 58 f'∧StG yl p B p.vars.length 2 i f'∧f' 6=.v (.int .i64 i)∧KLt (B.length+1) (pF uG f')):=by
 obtain⟨e,he⟩:∃e,p.evs[i]=e:=⟨_,rfl⟩
 rw[he]
 have hme:e∈p.evs:=by rw[←he];exact am hi
 have hna:=hS.na e hme
 have hnv:=hS.nv
 have pG:stV p (i+1)=WM (stV p i) e.asg e.asg.length:=by simp only[stV,apE,YA hi,he]
 have hE:=h.lt
 have h3:=h.s3
 unfold ST
 simp (disch:=first|decide|omega) only[s1I,h7,aa,go_sem]
 refine JA (ι:=Nat) U8 (fun j=>[(39,.v (.int .i64 j))]) 2 (fun j=>[.live p.vars.length 1 (vs ((WM (stV p i) e.asg j).map eI)),ST e])
  (fun j=>j≤e.asg.length) (fun j=>e.asg.length-j) 0 (aj _) kM (by ((try simp (disch:=decide) only[h7,go_sem])<;>exact kH)) kF ?_
 intro g3 FY UU dH j hj
 unfold ST
 by_cases mK:j<e.asg.length
 ·have hga:=X0 mK
  have hv:=hO e hme e.asg[j] (am mK)
  have hfl:((WM (stV p i) e.asg j).map eI).length=p.vars.length:=by rw[aa,VM,xG]
  obtain⟨q,hq⟩:∃q:Nat,e.asg[j].v=q:=⟨e.asg[j].v.toNat,by omega⟩
  have hqn:q<p.vars.length:=by omega
  have hqg:((WM (stV p i) e.asg j).map eI)[q]? = some [.int .i64 ((WM (stV p i) e.asg j).getD q 0)]:=tE (by rw[VM,xG];exact hqn)
  have xO:((WM (stV p i) e.asg j).map eI).set q [.int .i64 e.asg[j].val]=(WM (stV p i) e.asg (j+1)).map eI:=by rw[jV mK,hq,cj,fo];rfl
  simp (disch:=first|decide|omega) only[h3,h7,dH,hga,hq,hqg,xO,hfl,aa,go_sem]
  refine⟨j+1,mK,by simp only;omega,?_⟩
  exact KA.kround (p:=U8) (k:=2) kQ (by ((try simp (disch:=decide) only[h3,h7,dH,go_sem])<;>exact kH)) rfl FY kS kV hR kL
 ·obtain rfl:j=e.asg.length:=by omega
  simp (disch:=first|decide|omega) only[h3,h7,dH,aa,go_sem]
  rw[pG]
  refine⟨rfl,_,rfl,⟨?_,?_,?_,?_,?_,?_,?_⟩,?_,?_⟩
  ·(repeat (first|exact FY.mono oM|refine KLt.up ?_ kL))
  ·have:=h.s0
   simp (disch:=first|decide|omega) only[this,dH,go_sem]
  ·have:=h.s1
   simp (disch:=first|decide|omega) only[this,dH,go_sem]
  ·simp (disch:=first|decide|omega) only[h3,dH,go_sem]
  ·have:=h.s29
   simp (disch:=first|decide|omega) only[this,dH,go_sem]
  ·have:=h.s30
   simp (disch:=first|decide|omega) only[this,dH,go_sem]
  ·have:=h.s31
   simp (disch:=first|decide|omega) only[this,dH,go_sem]
  ·simp (disch:=first|decide|omega) only[h6,dH,go_sem]
  ·have e1:∀f',pF uG f'=pF uG f→KLt (B.length+1) (pF uG f'):=fun f' he=>by rw[he];exact hlo
   exact e1 _ (by (repeat refine (kAny_up rfl).trans ?_);refine (kAny_sub dH (kIn_sub rfl)).trans ?_;(repeat refine (kAny_up rfl).trans ?_);rfl)
theorem ZFZ (yl:Nat) (p:Pr) (hS:PrS p) (B:List Row) (n i k:Nat) (hi:i<p.evs.length) (l:List Row) (f:Nat→AV) (h:StG yl p B n k i f) :
  run (QA Tryz.prog) KA s1N (kOf 58 f) B l (fun ax e b l'=>ax=.normal∧b=B∧l'=l∧∃f',e=kOf 58 f'∧StG yl p B n k (i+1) f'):=by
 have VG:=hS.ne
 have h2:=h.s31
 simp (disch:=first|decide|omega) only[s1N,h2,go_sem]
 refine⟨_,rfl,⟨?_,?_,?_,?_,?_,?_,?_⟩⟩
 ·have hE:=h.lt
  (repeat (first|exact hE.mono oM|refine KLt.up ?_ kL))
 ·have:=h.s0
  simp (disch:=first|decide|omega) only[this,go_sem]
 ·have:=h.s1
  simp (disch:=first|decide|omega) only[this,go_sem]
 ·have:=h.s3
  simp (disch:=first|decide|omega) only[this,go_sem]
 ·have:=h.s29
  simp (disch:=first|decide|omega) only[this,go_sem]
 ·have:=h.s30
  simp (disch:=first|decide|omega) only[this,go_sem]
 ·simp (disch:=first|decide|omega) only[h2,go_sem];rfl
end Go.Proofs.YtmaokjojbjdpoaaGreatDoor
namespace Go.Proofs.YtmaokjojbjdpoaaGreatDoor
open Go.RowKit
set_option linter.unusedVariables false
set_option linter.unusedSimpArgs false
attribute [local go_sem] Oper.semAt_some
theorem ZFz {P:Program} {nn N:Nat} {F0:Nat→Prop} {m0:Nat} {J:World→Prop} {f:Nat→AV} {l:List Row} {a:Act} {w:World} {s:Nat} {t:Bool} {x y:Code} {K:Exit→Act→World→Prop} (h:gO F0 m0 J (kOf N f) l a w) (hs:s<N) (hf:f s=.v (.bool t))
  (hx:(if t=true then x else y).wpIn Fence.wide nn P K a w):(Code.cond (.tmp s) x y).wpIn Fence.wide nn P K a w:=by
 obtain⟨F,L,s',he,_⟩:=h
 have hr:=he.nth s
 rw[kD hs,hf]at hr
 refine wpIn_cond (CL hr) ?_
 cases t
 ·exact hx
 ·exact hx
theorem ZFy {F0:Nat→Prop} {m0:Nat} {J:World→Prop} {B:List Row} (hB:B=[]) {e e':List AV} {l l':List Row} (hw:KA e B l e' B l') {a:Act} {w:World} (h:gO F0 m0 J e l a w):gO F0 m0 J e' l' a w:=by
 subst hB
 obtain⟨F,L,s,he,h1,h2,h3,h4,h5⟩:=h
 obtain⟨F',L',s',he',st,_⟩:=hw F L w a s he
 refine⟨F',L',s',he',fun k hk=>st.imm k (h1 k hk),fun k hk=>?_,fun k hk=>?_,h4,h5⟩
 ·rcases bj k w.heap.size with yA|xH
  ·rcases st.fnew k yA hk with hf|ho
   ·exact h2 k hf
   ·exact .inr (h3 k ho)
  ·exact .inr oM
 ·rcases bj k w.heap.size with yA|xH
  ·exact h3 k (st.own k yA hk)
  ·omega
theorem MZ {w:World} {F:Nat→Prop} {v:List Int} {u:Value} (h:RepI w F (.isl 1 (v.map eI)) u):RepI w (fun k=>k<w.heap.size) (.isl 1 (v.map eI)) u:=by
 obtain⟨A,c,rfl,h2,h3,h4⟩:=WI h
 refine pS h2 h3 (fun h0=>?_)
 obtain⟨b,off,h5,h6,h7⟩:=h4 h0
 have yA:b<w.heap.size:=by
  have hk:0<(v.map eI).length:=h0
  obtain⟨g1,g2⟩:=h7 0 (v.map eI)[0] (ah hk)
  have hj:0<((v.map eI)[0]).length:=by rw[g1];decide
  obtain⟨x,hx,_⟩:=g2 0 _ (ah hj)
  obtain⟨o,ho,_⟩:=not_walk_of_cell hx
  exact (bo.1 ho).1
 refine⟨b,off,h5,yA,fun k row hk=>?_⟩
 obtain⟨g1,g2⟩:=h7 k row hk
 refine⟨g1,fun j a hj=>?_⟩
 obtain⟨x,hx,hr⟩:=g2 j a hj
 refine⟨x,hx,?_⟩
 rw[an]at hk
 cases hq:v[k]? with
 |none=>rw[hq]at hk;cases hk
 |some z =>
   rw[hq]at hk;cases hk
   cases j with
   |zero=>simp[eI]at hj;subst hj;cases hr;exact .int _ _
   |succ j=>simp[eI]at hj
theorem IP (v:List Int) (hn:v.length≤1000000) (w:World) (u:Value) (hu:RepI w (fun k=>k<w.heap.size) (.isl 1 (v.map eI)) u):Calls Tryz.prog 98 #[u] w fun e w'=>∃vv,e=.returned vv∧Ext w w'∧RepI w' (fun k=>w.heap.size≤k∧k<w'.heap.size) (.isl 1 (v.map eI)) vv:=by
 have no:∀k,¬bC (fun _ _=>none) ([]++[]) k:=by rintro k ⟨i,v,s,e1,q,h1,h2,h3⟩;cases h2
 have h:=(qI v hn [] []).2 (fun k=>k<w.heap.size) (fun _ _=>none) w #[u] (Q8 (fun _ h=>h)) (bA.cons (.v _ _ hu) bA.nil)
 refine Calls.mono h ?_
 rintro en w' ⟨vv,x,b',l',F',L',h1,h2,h3,h4,h5,rfl,rfl,rfl⟩
 refine⟨vv,h1,⟨h4.os,h4.tape,h4.output,h4.size,fun k hk=>h4.block k hk (no k)⟩,?_⟩
 have sD:=h3.row 0 1 1 (vs (v.map eI)) rfl
 have hd:RepA w' (FD F' L' 0 [.live 1 1 (vs (v.map eI))]) L' (.v (.isl 1 (v.map eI))) vv:=(Dv.slV (n:=0) (i:=0) rfl (by rw[aa])).rep (b:=[]) h3 vv h2
 obtain⟨A,c,rfl,g2,g3,g4⟩:=WI hd.vI
 refine pS g2 g3 (fun h0=>?_)
 obtain⟨b,off,rfl,h6,h7⟩:=g4 h0
 have tN:w.heap.size≤b:=by
  rcases bj b w.heap.size with yA|xH
  ·exfalso
   have hb:F' b:=h4.imm b yA
   refine (h3.imm b hb).2 ?_
   obtain⟨q,g5,g6⟩:=sD
   refine⟨0,1,1,_,q,rfl,g5,?_⟩
   generalize kU:Value.slice (some ⟨b,off,none⟩) (v.map eI).length c=vv at h2
   generalize hll:v.length=ll at h2
   cases h2 with
   |sl id ver off' len b0 o sz cap hL CJ hm =>
     rw[show ([]:List Row).length+([]:List Row).length=0 from rfl]at hL
     rw[hL]at g5;cases g5
     injection kU with e1 e2 e3
     injection e1 with e4
     injection e4 with e5 e6
     exact e5.symm
   |slz id ver off' b0 o sz cap x hL he =>
     injection kU with e1 e2 e3
     omega
   |sln id ver ad hL =>
     injection kU with e1 e2 e3
     omega
  ·exact xH
 have GE:b<w'.heap.size:=by
  have hk:0<(v.map eI).length:=h0
  obtain⟨g1,g2⟩:=h7 0 (v.map eI)[0] (ah hk)
  have hj:0<((v.map eI)[0]).length:=by rw[g1];decide
  obtain⟨x,hx,_⟩:=g2 0 _ (ah hj)
  obtain⟨o,ho,_⟩:=not_walk_of_cell hx
  exact (bo.1 ho).1
 refine⟨b,off,rfl,⟨tN,GE⟩,fun k row hk=>?_⟩
 obtain⟨g1,g2⟩:=h7 k row hk
 refine⟨g1,fun j a hj=>?_⟩
 obtain⟨x,hx,hr⟩:=g2 j a hj
 refine⟨x,hx,?_⟩
 rw[an]at hk
 cases hq:v[k]? with
 |none=>rw[hq]at hk;cases hk
 |some z =>
   rw[hq]at hk;cases hk
   cases j with
   |zero=>simp[eI]at hj;subst hj;cases hr;exact .int _ _
   |succ j=>simp[eI]at hj
theorem EH {N s:Nat} {F0:Nat→Prop} {m0:Nat} {J:World→Prop} {f:Nat→AV} {l:List Row} {a:Act} {w:World} {v:Value} (h:gO F0 m0 J (kOf N f) l a w):gO F0 m0 J (kOf N (kUp f s .any)) l (a.put (some s) v) w:=by
 obtain⟨F,L,s',he,h⟩:=h
 refine⟨F,L,s',?_,h⟩
 have:=he.put (some s) (RepA.any (w:=w) (F:=F) (L:=L) v)
 rwa [EC]at this
theorem ZF3 (B:List Row) (g:Nat→AV):run (QA Tryz.prog) KA s1A (kOf 58 g) B [] (fun ax e b l=>ax=.normal∧b=B∧l=[]∧e=kOf 58 (kUp g 3 (.v .zsl))):=⟨rfl,rfl,rfl,EC (n:=3)⟩
theorem M2 (n:Nat) (hn:1≤n) (p:Pr) (hS:PrS p) (hO:OkA p) (l Bt:Nat) (W:World) (F0:Nat→Prop) (hF0:∀k,F0 k→k<W.heap.size)
  (hp:RepI W F0 (.iptr [.str p.name,.isl 2 (p.vars.map eVr),.isl 5 (p.evs.map eEv)] 0) (.pointer (some ⟨Bt,0,none⟩))) (J:Nat→World→Prop) (Jx:World→Prop)
  (hJ:∀i A B,J i A→Below W.heap.size A B→J i B)
  (hY:∀i v W1,i≤p.evs.length→J i W1→W.heap.size≤W1.heap.size→RepI W1 (fun k=>W.heap.size≤k∧k<W1.heap.size) (.isl 1 ((stV p i).map eI)) v →
   YieldAt Fence.wide (n-1) Tryz.prog l #[.int .i64 i,v] W1 fun e W'=>(e=.returned (.bool true)∧J (i+1) W'∧KeepF F0 W.heap.size W1 W')∨(e=.returned (.bool false)∧Jx W'))
  (h0:J 0 W) :
  CallsIn Fence.wide n Tryz.prog 164 #[.func (.yield l) #[] #[],.pointer (some ⟨Bt,0,none⟩)] W fun e W'=>(∃v,e=.returned v)∧(J (p.evs.length+1) W'∨Jx W'):=by
 obtain⟨B,hB⟩:∃B:List Row,B=[]:=⟨[],rfl⟩
 have hR:tA B.length B:=by rw[hB];exact uE
 obtain⟨m0,hm0⟩:∃m0,m0=W.heap.size:=⟨_,rfl⟩
 rw[←hm0]at hJ hY
 have hJ0:∀i,∀A B,J i A→Low0 m0 A B→J i B:=fun i A B h k=>hJ i A B h k
 refine callsIn_of_wp Tryz.func164 rfl trivial ?_ rfl
 rw[Tryz.ntmps164]
 have sV:bA W F0 (fun _ _=>none) [.v (.yl l),.v (.iptr [.str p.name,.isl 2 (p.vars.map eVr),.isl 5 (p.evs.map eEv)] 0)] (#[.func (.yield l) #[] #[],.pointer (some ⟨Bt,0,none⟩)]:Array Value).toList:=bA.cons (.v _ _ (.yl l)) (bA.cons (.v _ _ hp) bA.nil)
 have hes:=ZAh sV 58 kS
 obtain⟨a0,ha0⟩:∃a0:Act,a0={tmps:=#[.func (.yield l) #[] #[],.pointer (some ⟨Bt,0,none⟩)]++Array.replicate (58-(#[.func (.yield l) #[] #[],.pointer (some ⟨Bt,0,none⟩)]:Array Value).size) undef,defers:=[]}:=⟨_,rfl⟩
 rw[←ha0]at hes⊢
 obtain⟨g0,hg0⟩:∃g0:Nat→AV,g0=fun i=>([.v (.yl l),.v (.iptr [.str p.name,.isl 2 (p.vars.map eVr),.isl 5 (p.evs.map eEv)] 0)]:List AV).getD i (.tup []):=⟨_,rfl⟩
 rw[←hg0]at hes
 have z0:g0 0=.v (.yl l):=by rw[hg0];rfl
 have z1:g0 1=.v (.iptr [.str p.name,.isl 2 (p.vars.map eVr),.isl 5 (p.evs.map eEv)] 0):=by rw[hg0];rfl
 have hE0:KLt B.length g0:=fun i=>by
  rw[hg0]
  match i with
  |0=>exact .v _
  |1=>exact .v _
  |i+2=>exact .tup _ kS
 clear hg0 ha0
 have at0:gO F0 m0 (J 0) (kOf 58 g0) [] a0 W:=by
  refine⟨F0,fun _ _=>none,Q8 hF0,hes,fun _ h=>h,fun _ h=>.inl h,fun k hk=>?_,by rw[hm0];exact ai _,h0⟩
  obtain⟨i,ver,sz,els,q,h1,h2,h3⟩:=hk
  cases h2
 refine wpIn_seq (DI (ac:=s1A) (hJ0 0) (by kernel_rfl) hB (Q:=fun ax e b l=>ax=.normal∧b=B∧l=[]∧e=kOf 58 (kUp g0 3 (.v .zsl))) (ZF3 B g0) at0 ?_)
 rintro ex a1 w1 ax e1 l1 hex ⟨rfl,_,rfl,rfl⟩ at1
 cases ex<;>first|exact hex.elim|skip
 simp only[Exit.then]
 refine wpIn_seq (DI (ac:=s1V) (hJ0 0) (by kernel_rfl) hB (ZFX l p hS B hR _ (hE0.up (.v _)) ?_ ?_ GB) at1 ?_)
 ·rw[LB kE];exact z0
 ·rw[LB kE];exact z1
 clear at0 at1 hes hE0
 rintro ex a2 w2 ax e2 l2 hex ⟨rfl,_,rfl,f,rfl,hf⟩ at2
 cases ex<;>first|exact hex.elim|skip
 simp only[Exit.then]
 refine wpIn_seq ?_
 generalize hK:Exit.then _ _=K
 obtain⟨F,L,s,he,q1,q2,q3,q4,q5⟩:=at2
 obtain⟨tm,df⟩:=a2
 obtain rfl:df=[]:=he.1
 have zN:tm.toList.length=58:=by have:=he.2.1;rw[yI]at this;simpa using this
 obtain⟨v0,v1,v2,v3,v4,v5,v6,v7,v8,v9,v10,v11,v12,v13,v14,v15,v16,v17,v18,v19,v20,v21,v22,v23,v24,v25,v26,v27,v28,v29,v30,v31,v32,v33,v34,v35,v36,v37,v38,v39,v40,v41,v42,v43,v44,v45,v46,v47,v48,v49,v50,v51,v52,v53,v54,v55,v56,v57,hT⟩:=ZGz tm.toList zN
 obtain rfl:tm=#[v0,v1,v2,v3,v4,v5,v6,v7,v8,v9,v10,v11,v12,v13,v14,v15,v16,v17,v18,v19,v20,v21,v22,v23,v24,v25,v26,v27,v28,v29,v30,v31,v32,v33,v34,v35,v36,v37,v38,v39,v40,v41,v42,v43,v44,v45,v46,v47,v48,v49,v50,v51,v52,v53,v54,v55,v56,v57]:=gb.1 (by rw[hT])
 have e0:RepA w2 F L (f 0) v0:=he.2.2 0 _ v0 (by rw[ME];rfl) rfl
 have e3:RepA w2 F L (f 3) v3:=he.2.2 3 _ v3 (by rw[ME];rfl) rfl
 rw[hf.s0]at e0
 cases e0.vI
 rw[hf.s3,hB]at e3
 have hp3:RepI w2 (fun k=>k<w2.heap.size) (.isl 1 ((stV p 0).map eI)) v3:=by
  have hd:Dv ([]:List Row).length [.live p.vars.length 1 (vs ((stV p 0).map eI))] (.sl 0 p.vars.length 0 p.vars.length) (.v (.isl 1 ((stV p 0).map eI))):=Dv.slV (n:=0) (i:=0) rfl (by rw[aa,xG])
  exact MZ (hd.rep (b:=[]) s v3 e3).vI
 obtain⟨A3,c3,hv3,_⟩:=WI hp3
 rw[aa]at hv3
 subst hv3
 have hC:=IP (stV p 0) (by rw[xG];exact hS.nv) w2 _ hp3
 have hCe:=UA hC
 clear hC hp3 e3 hT zN
 gi_wp2
 refine⟨trivial,CallsIn.mono (callsIn_wide.2 hCe.out) ?_⟩
 rintro en w3 ⟨vv,rfl,OC,hx⟩
 have hi3:=hx.mono (F':=fun k=>m0≤k∧k<w3.heap.size) (fun b hb=>⟨dh q4 hb.1,hb.2⟩) (fun _ _=>rfl)
 have hJ3:=hJ 0 w2 w3 q5 (Below.mono OC q4)
 obtain⟨fn,tmps,assign,body,hy,hRd⟩:=hY 0 vv w3 (aj _) hJ3 (dh q4 OC.size) hi3
 have hy0:(Instr.yield l #[.int .i64 0,vv]).run Tryz.prog w3=.ok (.round l fn tmps assign body) w3:=hy
 clear hy
 have hRe:=UA hRd
 clear hRd hi3 hx
 gi_wp2
 have hkp:KeepF F0 m0 w2 w3:=⟨OC.size,OC.os,OC.tape,OC.output,fun k hk _=>OC.block k hk⟩
 refine hRe.out.mono ?_
 rintro e W3 (⟨rfl,hJ4,hk4⟩|⟨rfl,ZJA⟩)
 case inr =>
  gi_wp2
  rw[←hK]
  simp only[Exit.then]
  refine bodyPost_ret (results_none rfl _ _ _) rfl ?_
  exact⟨⟨_,rfl⟩,.inr ZJA⟩
 gi_wp2
 rw[←hK]
 simp only[Exit.then]
 have at3:=EH (s:=27) (v:=.bool false) (EH (s:=26) (v:=.bool true) (EH (s:=25) (v:=vv) (EH (s:=24) (v:=.slice A3 (stV p 0).length c3) (EH (s:=23) (v:=.func (.yield l) #[] #[])
  (gO.keep (J':=J 1) (⟨F,L,s,he,q1,q2,q3,q4,q5⟩:gO F0 m0 (J 0) _ _ _ w2) (hkp.trans hk4) rfl hJ4)))))
 clear hK he s q1 q2 q3
 have hf2:StF l p B p.vars.length (kUp (kUp (kUp (kUp (kUp f 23 .any) 24 .any) 25 .any) 26 .any) 27 .any):=by
  refine⟨?_,?_,?_,?_⟩
  ·have hE:=hf.lt
   exact ((((hE.up .any).up .any).up .any).up .any).up .any
  ·simp only[LB,ne_eq,Nat.reduceEqDiff,not_false_eq_true];exact hf.s0
  ·simp only[LB,ne_eq,Nat.reduceEqDiff,not_false_eq_true];exact hf.s1
  ·simp only[LB,ne_eq,Nat.reduceEqDiff,not_false_eq_true];exact hf.s3
 generalize hK:bodyPost _ _ _=K2
 refine wpIn_seq (DI (ac:=s1R) (hJ0 1) (by kernel_rfl) hB (ZFY l p hS B _ _ _ hf2) at3 ?_)
 clear at3
 rintro ex a4 w4 ax e4 l4 hex ⟨rfl,_,rfl,f4,rfl,YR⟩ at4
 cases ex<;>first|exact hex.elim|skip
 simp only[Exit.then]
 refine wpIn_block ?_
 refine wpIn_loop_ghost (fun m a w=>∃i f,m=p.evs.length-i∧i≤p.evs.length∧StG l p B p.vars.length 1 i f∧gO F0 m0 (J (i+1)) (kOf 58 f) [.live p.vars.length 1 (vs ((stV p i).map eI))] a w) _ ⟨0,f4,rfl,aj _,YR,at4⟩ ?_
 clear at4 YR hf2 hf
 rintro m a5 w5 ⟨i,f5,rfl,hi,hg5,at5⟩
 generalize hK3:Exit.then _ _=K3
 refine wpIn_seq (DI (ac:=s1C) (hJ0 (i+1)) (by kernel_rfl) hB (ZF2 l p B _ i 1 _ f5 hg5) at5 ?_)
 clear at5 hg5
 rintro ex a6 w6 ax e6 l6 hex ⟨rfl,_,rfl,f6,rfl,hg6,hb6⟩ at6
 cases ex<;>first|exact hex.elim|skip
 simp only[Exit.then]
 refine wpIn_seq (ZFz (s:=32) at6 kE hb6 ?_)
 by_cases yA:i<p.evs.length
 case neg =>
  obtain rfl:i=p.evs.length:=by omega
  rw[if_neg kS]
  refine wpIn_exit ?_
  simp only[Exit.then]
  rw[←hK3]
  simp only[Exit.then,Exit.inBlock,if_true]
  rw[←hK]
  obtain⟨F6,L6,s6,he6,_,_,_,_,hJ6⟩:=at6
  exact bodyPost_end (results_none rfl _ _ _) he6.1 ⟨⟨_,rfl⟩,.inl hJ6⟩
 rw[if_pos (by simp;omega)]
 refine wpIn_skip ?_
 simp only[Exit.then]
 refine wpIn_seq (wpIn_block ?_)
 generalize hK4:Exit.inBlock _ _=K4
 refine wpIn_seq (DI (ac:=s1E) (hJ0 (i+1)) (by kernel_rfl) hB (ZF1 l p B _ i yA _ f6 hg6) at6 ?_)
 clear at6 hg6
 rintro ex a7 w7 ax e7 l7 hex ⟨rfl,_,rfl,f7,rfl,hg7,⟨h76,h77⟩,ZKZ⟩ at7
 cases ex<;>first|exact hex.elim|skip
 simp only[Exit.then]
 refine wpIn_seq (DI (ac:=s1I) (hJ0 (i+1)) (by kernel_rfl) hB (ZF0 l p hS hO B hR i yA f7 hg7 h76 h77 ZKZ) at7 ?_)
 clear at7 hg7 h76 h77 ZKZ
 rintro ex a8 w8 ax e8 l8 hex ⟨rfl,_,rfl,f8,rfl,hg8,h86,ZJB⟩ at8
 cases ex<;>first|exact hex.elim|skip
 simp only[Exit.then]
 have at9:=ZFy hB (KA.kround (p:=uG) (ov:=[(6,.v (.int .i64 i)),(31,.v (.int .i64 i))]) (l1:=[.live p.vars.length 1 (vs ((stV p (i+1)).map eI))]) (junk:=[ST p.evs[i]]) (k:=1) rfl ⟨h86,hg8.s31,trivial⟩ rfl ZJB kS ⟨.v _,.v _,trivial⟩ hR (by simp only[qE,CK,uE,and_self])) at8
 obtain⟨f9,hf9⟩:∃f9,f9=kOv [(6,.v (.int .i64 i)),(31,.v (.int .i64 i))] (pF uG f8):=⟨_,rfl⟩
 rw[←hf9]at at9
 have hg9:StG l p B p.vars.length 1 i f9:=by
  have hn:∀s,kIn uG s=false→f9 s=f8 s:=fun s hs=>by
   rw[hf9,tB,tB,lD]
   have h6:6≠s:=fun e=>by subst e;cases hs
   have h31:31≠s:=fun e=>by subst e;cases hs
   rw[LB h6,LB h31,nS hs]
  refine⟨?_,?_,?_,?_,?_,?_,?_⟩
  ·rw[hf9];exact (ZJB).ov (ov:=[(6,.v (.int .i64 i)),(31,.v (.int .i64 i))]) ⟨.v _,.v _,trivial⟩
  ·rw[hn 0 rfl];exact hg8.s0
  ·rw[hn 1 rfl];exact hg8.s1
  ·rw[hn 3 rfl];exact hg8.s3
  ·rw[hn 29 rfl];exact hg8.s29
  ·rw[hn 30 rfl];exact hg8.s30
  ·rw[hf9,tB,tB,LB kE,GB]
 have h96:f9 6=.v (.int .i64 i):=by rw[hf9,tB,GB]
 clear hf9 hg8 ZJB h86 at8
 refine wpIn_seq ?_
 obtain⟨F,L,s,he,q1,q2,q3,q4,q5⟩:=at9
 obtain⟨tm,df⟩:=a8
 obtain rfl:df=[]:=he.1
 have zN:tm.toList.length=58:=by have:=he.2.1;rw[yI]at this;simpa using this
 obtain⟨u0,u1,u2,u3,u4,u5,u6,u7,u8,u9,u10,u11,u12,u13,u14,u15,u16,u17,u18,u19,u20,u21,u22,u23,u24,u25,u26,u27,u28,u29,u30,u31,u32,u33,u34,u35,u36,u37,u38,u39,u40,u41,u42,u43,u44,u45,u46,u47,u48,u49,u50,u51,u52,u53,u54,u55,u56,u57,hT⟩:=ZGz tm.toList zN
 obtain rfl:tm=#[u0,u1,u2,u3,u4,u5,u6,u7,u8,u9,u10,u11,u12,u13,u14,u15,u16,u17,u18,u19,u20,u21,u22,u23,u24,u25,u26,u27,u28,u29,u30,u31,u32,u33,u34,u35,u36,u37,u38,u39,u40,u41,u42,u43,u44,u45,u46,u47,u48,u49,u50,u51,u52,u53,u54,u55,u56,u57]:=gb.1 (by rw[hT])
 have e0:RepA w8 F L (f9 0) u0:=he.2.2 0 _ u0 (by rw[ME];rfl) rfl
 have e3:RepA w8 F L (f9 3) u3:=he.2.2 3 _ u3 (by rw[ME];rfl) rfl
 have e6:RepA w8 F L (f9 6) u6:=he.2.2 6 _ u6 (by rw[ME];rfl) rfl
 rw[hg9.s0]at e0
 cases e0.vI
 rw[h96]at e6
 cases e6.vI
 rw[hg9.s3,hB]at e3
 have hp3:RepI w8 (fun k=>k<w8.heap.size) (.isl 1 ((stV p (i+1)).map eI)) u3:=by
  have hd:Dv ([]:List Row).length [.live p.vars.length 1 (vs ((stV p (i+1)).map eI))] (.sl 0 p.vars.length 0 p.vars.length) (.v (.isl 1 ((stV p (i+1)).map eI))):=Dv.slV (n:=0) (i:=0) rfl (by rw[aa,xG])
  exact MZ (hd.rep (b:=[]) s u3 e3).vI
 obtain⟨A3,c3,hv3,_⟩:=WI hp3
 rw[aa]at hv3
 subst hv3
 have hC:=IP (stV p (i+1)) (by rw[xG];exact hS.nv) w8 _ hp3
 have hCe:=UA hC
 have VG:=hS.ne
 have hwi:IntKind.i64.wrap ((i:Int)+1)=((i+1:Nat):Int):=by rw[dA oM oM];omega
 clear hC hp3 e3 hT zN
 gi_wp2
 refine⟨trivial,CallsIn.mono (callsIn_wide.2 hCe.out) ?_⟩
 rintro en w9 ⟨vv,rfl,OC,hx⟩
 have hi3:=hx.mono (F':=fun k=>m0≤k∧k<w9.heap.size) (fun b hb=>⟨dh q4 hb.1,hb.2⟩) (fun _ _=>rfl)
 have hJ3:=hJ (i+1) w8 w9 q5 (Below.mono OC q4)
 obtain⟨fn,tmps,assign,body,hy,hRd⟩:=hY (i+1) vv w9 oM hJ3 (dh q4 OC.size) hi3
 have hy1:(Instr.yield l #[.int .i64 ((i:Int)+1),vv]).run Tryz.prog w9=.ok (.round l fn tmps assign body) w9:=hy
 clear hy
 have hRe:=UA hRd
 clear hRd hi3 hx
 gi_wp2
 have hkp:KeepF F0 m0 w8 w9:=⟨OC.size,OC.os,OC.tape,OC.output,fun k hk _=>OC.block k hk⟩
 refine hRe.out.mono ?_
 rintro e W3 (⟨rfl,hJ4,hk4⟩|⟨rfl,ZJA⟩)
 case inr =>
  gi_wp2
  rw[←hK4]
  simp only[Exit.then,Exit.inBlock]
  rw[←hK3]
  simp only[Exit.then,Exit.inBlock]
  rw[←hK]
  refine bodyPost_ret (results_none rfl _ _ _) rfl ?_
  exact⟨⟨_,rfl⟩,.inr ZJA⟩
 gi_wp2
 rw[←hK4]
 simp only[Exit.then,Exit.inBlock]
 have ata:=EH (s:=56) (v:=.bool false) (EH (s:=55) (v:=.bool true) (EH (s:=54) (v:=vv) (EH (s:=53) (v:=.slice A3 (stV p (i+1)).length c3) (EH (s:=52) (v:=.int .i64 ((i+1:Nat):Int)) (EH (s:=51) (v:=.int .i64 i) (EH (s:=50) (v:=.func (.yield l) #[] #[])
  (gO.keep (J':=J (i+1+1)) (⟨F,L,s,he,q1,q2,q3,q4,q5⟩:gO F0 m0 (J (i+1)) _ _ _ w8) (hkp.trans hk4) rfl hJ4)))))))
 have hga:StG l p B p.vars.length 1 i (kUp (kUp (kUp (kUp (kUp (kUp (kUp f9 50 .any) 51 .any) 52 .any) 53 .any) 54 .any) 55 .any) 56 .any):=by
  refine⟨?_,?_,?_,?_,?_,?_,?_⟩
  ·have hE:=hg9.lt
   exact ((((((hE.up .any).up .any).up .any).up .any).up .any).up .any).up .any
  ·simp only[LB,ne_eq,Nat.reduceEqDiff,not_false_eq_true];exact hg9.s0
  ·simp only[LB,ne_eq,Nat.reduceEqDiff,not_false_eq_true];exact hg9.s1
  ·simp only[LB,ne_eq,Nat.reduceEqDiff,not_false_eq_true];exact hg9.s3
  ·simp only[LB,ne_eq,Nat.reduceEqDiff,not_false_eq_true];exact hg9.s29
  ·simp only[LB,ne_eq,Nat.reduceEqDiff,not_false_eq_true];exact hg9.s30
  ·simp only[LB,ne_eq,Nat.reduceEqDiff,not_false_eq_true];exact hg9.s31
 refine DI (ac:=s1N) (hJ0 (i+1+1)) (by kernel_rfl) hB (ZFZ l p hS B _ i 1 yA _ _ hga) ata ?_
 rintro ex ab wb ax eb lb hex ⟨rfl,_,rfl,fb,rfl,hgb⟩ atb
 cases ex<;>first|exact hex.elim|skip
 rw[←hK3]
 exact⟨p.evs.length-(i+1),by omega,i+1,fb,rfl,yA,hgb,atb⟩
end Go.Proofs.YtmaokjojbjdpoaaGreatDoor
namespace Go.Proofs.YtmaokjojbjdpoaaGreatDoor
set_option linter.unusedVariables false

theorem QA.of_newA {P:Program} {f:Nat} {args:List AV} {b l:List Row} {Q:AV→List Row→List Row→Prop} (hf:∃fn,P.funcs[f]? = some fn∧(fn.name == "runtime.NumGoroutine")=false∧fn.body.isSome=true)
  (h:∀F L w (vs:Array Value),(∀b,F b→b<w.heap.size)→bA w F L args vs.toList→Calls P f vs w fun en w'=>Ext w w'∧∃v x F',en=.returned v∧(∀b,F b→F' b)∧(∀b,b<w.heap.size→F' b→F b)∧(∀b,F' b→b<w'.heap.size)∧RepA w' F' (fun _ _=>none) x v∧Q x b l):QA P f args b l Q:=by
 refine⟨hf,fun F L w vs s hr=>Calls.mono (h F L w vs (fun b hb=>(s.imm b hb).1) hr) ?_⟩
 rintro en w' ⟨he,v,x,F',h1,h2,h3,h4,h5,h6⟩
 have rN:∀k,k<w.heap.size→w'.heap[k]? = w.heap[k]?:=he.block
 have WF:∀k,bC L (b++l) k→k<w.heap.size:=by
  rintro k ⟨id,ver,sz,els,q0,k1,k2,k3⟩
  obtain⟨q,q1,q2⟩:=s.row id ver sz els k1
  rw[k2]at q1;cases q1
  exact q2.lt k3
 refine⟨v,x,b,l,F',L,h1,h5.mono (fun _ h=>h) (fun _ _=>rfl) (fun _ _ _ h=>by cases h),⟨fun i v z els hi=>?_,s.born,s.apart,fun k hk=>⟨h4 k hk,fun ho=>(s.imm k (h3 k (WF k ho) hk)).2 ho⟩,s.glob.mono h2 (fun k hk=>rN k (s.imm k hk).1)⟩,
  ⟨h2,fun _ _ _ _ h=>h,he.os,he.tape,he.output,he.size,fun k hk _=>rN k hk,fun _ _ h=>h,fun _ _ _ h=>h,fun k hk hf=>.inl (h3 k hk hf)⟩,rfl,h6⟩
 obtain⟨q,g1,g2⟩:=s.row i v z els hi
 exact⟨q,g1,g2.mono (fun k hk=>rN k (g2.lt hk)) (fun _ _ hx=>hx.mono h2 (fun k hk=>rN k (s.imm k hk).1) (fun _ _ _ h=>h))⟩

open Go.RowKit
set_option linter.unusedSimpArgs false
attribute [local go_sem] Oper.semAt_some
theorem P2 (u0 u1 u2:Value) (w:World):Calls Tryz.prog 132 #[.agg #[u0,u1,u2]] w fun e w'=>e=.returned (.func (.func 164) #[] #[.pointer (some ⟨w.heap.size,0,none⟩)])∧w'=w.alloc (.cells #[u0,u1,u2] 65):=by
 go_enter Tryz.func132,Tryz.ntmps132
 go_wp2_with fail
 go_ret
 exact⟨rfl,rfl⟩
theorem J3 {F:Fence} (hro:F.round=none) (hFa:∀f,F.fn f) {P:Program} {n:Nat} {g:Operand} {ps:Array Tmp} {assign body:Code} {Q:Exit→Act→World→Prop} {a:Act} {w:World} (h1:1≤n) {gf:Nat} {lb:Array Value} (hg:a.eval g=.func (.func gf) #[] lb) (eg:∀args w,(callFunc gf args).run P w=.ok (.enter gf args) w)
  (ZH1:∀(fn:FuncId) (rec:LoopState→Option Code→Loop) (W1:World),(rec=fun st pe=>{state:=st,pending:=pe,fn:=fn,tmps:=a.tmps,params:=ps,assign:=assign,body:=body,defers:=w.heap.size}) →
   (w.alloc (.deferred (some []))).alloc (.loop (rec .ready none))=W1 →
   CallsIn F (n-1) P gf (#[.func (.yield (w.heap.size+1)) #[] #[]]++lb) W1 (rangePost F n P (w.heap.size+1) Q {a with defers:={target:=.collected w.heap.size,args:=#[]}::a.defers})) :
  (Code.rangeFunc g ps assign body).wpIn F n P Q a w:=by
 refine wpIn_rangeFunc ?_
 intro fn hfn
 rw[hro]
 obtain⟨rec,eV⟩:∃rec:LoopState→Option Code→Loop,rec=fun st pe=>{state:=st,pending:=pe,fn:=fn,tmps:=a.tmps,params:=ps,assign:=assign,body:=body,defers:=w.heap.size}:=⟨_,rfl⟩
 obtain⟨W1,GH⟩:∃W1,(w.alloc (.deferred (some []))).alloc (.loop (rec .ready none))=W1:=⟨_,rfl⟩
 have hh:=ZH1 fn rec W1 eV GH
 clear ZH1
 refine⟨w.heap.size+1,[{target:=.collected w.heap.size,args:=#[]}],W1,{target:=.fn (.func gf) lb,args:=#[.func (.yield (w.heap.size+1)) #[] #[]]},W1,gf,
  #[.func (.yield (w.heap.size+1)) #[] #[]]++lb,W1,?_,?_,?_,?_,?_,?_⟩
 ·rw[←GH,eV];exact run_enterLoop_outer _ _ _ _ _
 ·simp only[resolve,hg]
  simp[go_sem]
 ·intro f1 hf1
  exact hFa f1
 ·simp[invoke,go_sem,eg]
 ·exact fun _=>h1
 ·exact hh
theorem N9 (p:Pr) (hS:PrS p) (hO:OkA p) (k:Nat) (hk:k≤p.evs.length) (u0 u1 u2:Value) (W:World) (h0:RepI W (fun b=>b<W.heap.size) (.str p.name) u0) (h1:RepI W (fun b=>b<W.heap.size) (.isl 2 (p.vars.map eVr)) u1) (h2:RepI W (fun b=>b<W.heap.size) (.isl 5 (p.evs.map eEv)) u2) :
  Calls Tryz.prog 81 #[.agg #[u0,u1,u2],.int .i64 k] W fun e w'=>∃vv,e=.returned vv∧Ext W w'∧RepI w' (fun b=>W.heap.size≤b∧b<w'.heap.size) (.isl 1 ((stV p k).map eI)) vv:=by
 refine (callsIn_wide (n:=5)).1 ?_
 refine callsIn_of_wp_marks Tryz.func81 rfl trivial ?_ rfl
 simp only[Tryz.ntmps81,dq,ee,fh,Nat.reduceAdd,Nat.reduceSub,ib,ic,ie,ig,dw,da]
 have hSt:=fun w=>P2 u0 u1 u2 w
 have H0:=UA h0
 have H1:=UA h1
 have H2:=UA h2
 have HK:=UA hk
 clear h0 h1 h2 hk
 gi_wp2_with (refine⟨trivial,?_⟩;gi_at_call 132;refine (callsIn_wide.2 (hSt _)).mono ?_;rintro e w ⟨rfl,rfl⟩)
 generalize hK:Exit.inBlock _ _=K
 obtain⟨W0,y6⟩:∃W0,(((W.alloc (.cells #[u0,u1,u2] 65)).alloc (.cells #[.int .i64 k] 3)).alloc (.cells #[.slice none 0 0] 24)).alloc (.cells #[u0,u1,u2] 65)=W0:=⟨_,rfl⟩
 have lV:W0.heap.size=W.heap.size+4:=by rw[←y6];simp
 have hb0:Below W.heap.size W W0:=by rw[←y6];exact ((((Below.refl _ W).alloc kS _).alloc kS _).alloc (by simp;omega) _).alloc (by simp;omega) _
 have c1:W0.heap[W.heap.size+1]? = some (.cells #[.int .i64 k] 3):=by
  rw[←y6,Below.heap_alloc _ _ _ kS,Below.heap_alloc _ _ _ kS]
  have:=World.alloc_heap_new (W.alloc (.cells #[u0,u1,u2] 65)) (.cells #[.int .i64 k] 3)
  rwa [World.size_alloc]at this
 have c2:W0.heap[W.heap.size+2]? = some (.cells #[.slice none 0 0] 24):=by
  rw[←y6,Below.heap_alloc _ _ _ kS]
  have:=World.alloc_heap_new ((W.alloc (.cells #[u0,u1,u2] 65)).alloc (.cells #[.int .i64 k] 3)) (.cells #[.slice none 0 0] 24)
  rwa [World.size_alloc,World.size_alloc]at this
 have c3:W0.heap[W.heap.size+3]? = some (.cells #[u0,u1,u2] 65):=by
  rw[←y6]
  have:=World.alloc_heap_new (((W.alloc (.cells #[u0,u1,u2] 65)).alloc (.cells #[.int .i64 k] 3)).alloc (.cells #[.slice none 0 0] 24)) (.cells #[u0,u1,u2] 65)
  rwa [World.size_alloc,World.size_alloc,World.size_alloc]at this
 clear hSt
 rw[y6]
 clear y6
 refine J3 (F:=Fence.wide) rfl (fun _=>trivial) oM (gf:=164) (lb:=#[.pointer (some ⟨W.heap.size+1+1+1,0,none⟩)]) rfl (mC Tryz.func164 kE rfl) ?_
 intro fn rec W1 eV GH
 have LH:W1.heap.size=W.heap.size+6:=by rw[←GH];simp;omega
 have JJ:Below W0.heap.size W0 W1:=by rw[←GH];exact ((Below.refl _ W0).alloc kS _).alloc kS _
 have ZQ:W1.heap[W0.heap.size+1]? = some (.loop (rec .ready none)):=by
  rw[←GH];have:=World.alloc_heap_new (W0.alloc (.deferred (some []))) (.loop (rec .ready none));rwa [World.size_alloc]at this
 have hd1:W1.heap[W0.heap.size]? = some (.deferred (some [])):=by
  rw[←GH];exact (Below.heap_alloc _ _ _ kS).trans (World.alloc_heap_new W0 _)
 have hp:RepI W1 (fun b=>b<W.heap.size∨b=W.heap.size+3) (.iptr [.str p.name,.isl 2 (p.vars.map eVr),.isl 5 (p.evs.map eEv)] 0) (.pointer (some ⟨W.heap.size+3,0,none⟩)):=by
  have hm:∀{x:IV} {u:Value},RepI W (fun b=>b<W.heap.size) x u→RepI W1 (fun b=>b<W.heap.size∨b=W.heap.size+3) x u:=fun h=>h.mono (fun _ h=>.inl h) (fun b hb=>((JJ.block b oM).trans (hb0.block b hb)))
  have VX:W1.heap[W.heap.size+3]? = some (.cells #[u0,u1,u2] 65):=(JJ.block _ oM).trans c3
  refine .iptr _ 0 (W.heap.size+3) 0 (fun j=>match j with|0=>u0|1=>u1|_=>u2) (.inr rfl) (fun j a hj=>?_) (fun j a hj=>?_)
  ·match j,hj with
   |0,_=>simp[World.cell?,VX]
   |1,_=>simp[World.cell?,VX]
   |2,_=>simp[World.cell?,VX]
  ·match j,hj with
   |0,hj=>cases hj;exact hm H0.out
   |1,hj=>cases hj;exact hm H1.out
   |2,hj=>cases hj;exact hm H2.out
 refine (M2 4 oM p hS hO (W0.heap.size+1) (W.heap.size+3) W1 (fun b=>b<W.heap.size∨b=W.heap.size+3) (fun b hb=>by omega) hp
  (fun i A=>Below W1.heap.size W1 A∧i≤k)
  (fun A=>Below W.heap.size W A∧A.heap[W0.heap.size]? = some (.deferred (some []))∧A.heap[W0.heap.size+1]? = some (.loop (rec .done (some .ret)))∧W1.heap.size≤A.heap.size∧∃vv,A.heap[W.heap.size+2]? = some (.cells #[vv] 24)∧RepI A (fun b=>W1.heap.size≤b∧b<A.heap.size) (.isl 1 ((stV p k).map eI)) vv)
  (fun i A B h hb=>⟨h.1.trans hb,h.2⟩) ?yield ⟨Below.refl _ _,aj _⟩).mono ?after
 case after =>
  rintro e w' ⟨⟨v,rfl⟩,⟨_,ZLh⟩|⟨hbw,hdw,hlw,hsw,vv,hcw,hvw⟩⟩
  ·exact absurd ZLh (by have:=HK.out;omega)
  ·have hE:=run_endLoop (P:=Tryz.prog) hlw (by rw[eV];simp)
   rw[eV]at hE
   refine⟨some .ret,_,hE,?_⟩
   refine wpIn_ret ?_
   rw[←hK]
   simp only[Exit.inBlock,Exit.then]
   clear hE
   generalize hlp:Obj.loop _=lo
   have hd2:(w'.putObj (W0.heap.size+1) lo).heap[W0.heap.size]? = some (.deferred (some [])):=by rw[World.putObj_heap_other oM];exact hdw
   refine⟨by simp,.inl ⟨_,_,rfl,run_takeDeferred hd2,?_⟩⟩
   have hc4:(((w'.putObj (W0.heap.size+1) lo).putObj W0.heap.size (.deferred none)).heap[W.heap.size+2]?)=some (.cells #[vv] 24):=by
    rw[World.putObj_heap_other oM,World.putObj_heap_other oM];exact hcw
   have iW:((w'.putObj (W0.heap.size+1) lo).putObj W0.heap.size (.deferred none)).cell? ⟨W.heap.size+1+1,0,none⟩=some vv:=by simp[World.cell?,hc4]
   refine⟨vv,?_,vv,rfl,⟨hbw.os,hbw.tape,hbw.output,by simp;exact hbw.size,fun b hb=>by rw[World.putObj_heap_other oM,World.putObj_heap_other oM];exact hbw.block b hb⟩,?_⟩
   ·simp[results,Tryz.f81,go_sem,iW]
   ·refine hvw.mono (fun b hb=>⟨by omega,by simp;exact hb.2⟩) (fun b hb=>?_)
    rw[World.putObj_heap_other oM,World.putObj_heap_other oM]
 case yield =>
  rintro i v Wy hi ⟨WN,hik⟩ hsy hvy
  have hly:Wy.heap[W0.heap.size+1]? = some (.loop (rec .ready none)):=(WN.block _ oM).trans ZQ
  have hdy:Wy.heap[W0.heap.size]? = some (.deferred (some [])):=(WN.block _ oM).trans hd1
  have hy:=run_yield (P:=Tryz.prog) (args:=#[.int .i64 i,v]) hly (by rw[eV];rfl)
  refine⟨_,_,_,_,hy,roundIn_of_wpIn trivial ?_⟩
  have hbr:=run_beginRound (P:=Tryz.prog) hly (by rw[eV])
  have hrc:rec=rec:=rfl
  obtain⟨Wb,hWb⟩:∃Wb,Wy.putObj (W0.heap.size+1) (.loop {rec .ready none with state:=.busy})=Wb:=⟨_,rfl⟩
  have hlb:Wb.heap[W0.heap.size+1]? = some (.loop {rec .ready none with state:=.busy}):=by rw[←hWb];exact World.putObj_heap_same oM
  have hob:∀b,b≠W0.heap.size+1→Wb.heap[b]? = Wy.heap[b]?:=fun b hb=>by rw[←hWb];exact World.putObj_heap_other hb
  have hsb:Wb.heap.size=Wy.heap.size:=by rw[←hWb];simp
  have ZK0:Wb.os=Wy.os∧Wb.tape=Wy.tape∧Wb.output=Wy.output:=by rw[←hWb];exact⟨rfl,rfl,rfl⟩
  rw[hWb]at hbr
  clear hWb hy
  have UG:=fun jump=>run_endRound (P:=Tryz.prog) jump hlb
  rw[eV]at UG⊢
  simp only at UG⊢
  have k1:Wb.cell? ⟨W.heap.size+1,0,none⟩=some (.int .i64 k):=by
   have hcb:Wb.heap[W.heap.size+1]? = some (.cells #[.int .i64 k] 3):=(hob _ oM).trans ((WN.block _ oM).trans ((JJ.block _ oM).trans c1))
   simp[World.cell?,hcb]
  have ZGs:Wb.heap[W.heap.size+2]? = some (.cells #[.slice none 0 0] 24):=(hob _ oM).trans ((WN.block _ oM).trans ((JJ.block _ oM).trans c2))
  have k2:Wb.cell? ⟨W.heap.size+1+1,0,none⟩=some (.slice none 0 0):=by simp[World.cell?,ZGs]
  have k3:Wb.frozen? ⟨W.heap.size+1+1,0,none⟩=false:=by simp[World.frozen?,ZGs]
  have HS:=UA (show W0.heap.size=W.heap.size+4∧W1.heap.size=W.heap.size+6∧Wb.heap.size=Wy.heap.size∧W1.heap.size≤Wy.heap.size from⟨lV,LH,hsb,hsy⟩)
  obtain⟨A,c,hv,_⟩:=WI hvy
  rw[aa]at hv
  subst hv
  have HV:=UA hvy
  have HL:=UA (And.intro hly (And.intro hdy hlb))
  have HB:=UA (And.intro hob ZK0)
  have HC:=UA ZGs
  have HE:=UA UG
  clear lV LH hsb hsy c1 c2 c3 ZQ hd1 hvy hly hdy hlb hob ZK0 ZGs UG
  generalize W0.heap.size=d0 at *
  generalize hl0:d0+1=l0 at *
  have HIK:=UA hik
  clear hik
  by_cases hek:i=k
  ·have heq:((i:Int)==(k:Int))=true:=by rw[hek];simp
   have HEK:=UA hek
   clear hek
   gi_wp2
   obtain⟨hob,ZB0,ZB1,ZB2⟩:=HB.out
   obtain⟨hly,hdy,hlb⟩:=HL.out
   obtain⟨z0,z1,z2,z3⟩:=HS.out
   obtain⟨Wc,hWc⟩:∃Wc,Wb.setCell ⟨W.heap.size+1+1,0,none⟩ (.slice A (stV p i).length c)=Wc:=⟨_,rfl⟩
   have hoc:∀b,b≠W.heap.size+2→Wc.heap[b]? = Wb.heap[b]?:=fun b hb=>by rw[←hWc];exact Below.heap_setCell _ _ _ _ (by simp;omega)
   have hsc:Wc.heap.size=Wb.heap.size:=by rw[←hWc];simp[World.setCell]
   have ZJC:Wc.os=Wb.os∧Wc.tape=Wb.tape∧Wc.output=Wb.output:=by rw[←hWc];exact⟨rfl,rfl,rfl⟩
   have iW:Wc.heap[W.heap.size+2]? = some (.cells #[.slice A (stV p i).length c] 24):=by
    have JR:Wb.heap[W.heap.size+1+1]? = some (.cells #[.slice none 0 0] 24):=HC.out
    rw[←hWc]
    show _[W.heap.size+1+1]? = _
    simp[World.setCell,Array.getElem?_modify,JR]
   rw[hWc]
   have hlc:Wc.heap[l0]? = some (.loop {rec .ready none with state:=.busy}):=(hoc _ oM).trans hlb
   have hE:=run_endRound (P:=Tryz.prog) (some .ret) hlc
   rw[eV]at hE
   refine⟨_,_,hE,.inr ⟨rfl,⟨?_,?_,?_,?_,?_⟩,?_,?_,?_,.slice A (stV p i).length c,?_,?_⟩⟩
   ·exact ZJC.1.trans (ZB0.trans (WN.os.trans (JJ.os.trans hb0.os)))
   ·exact ZJC.2.1.trans (ZB1.trans (WN.tape.trans (JJ.tape.trans hb0.tape)))
   ·exact ZJC.2.2.trans (ZB2.trans (WN.output.trans (JJ.output.trans hb0.output)))
   ·simp;omega
   ·intro b hb
    rw[World.putObj_heap_other oM,hoc _ oM,hob _ oM,WN.block b oM,JJ.block b oM,hb0.block b hb]
   ·rw[World.putObj_heap_other oM,hoc _ oM,hob _ oM];exact hdy
   ·exact World.putObj_heap_same oM
   ·simp;omega
   ·rw[World.putObj_heap_other oM];exact iW
   ·rw[←HEK.out]
    refine HV.out.mono (fun b hb=>⟨hb.1,by simp;omega⟩) (fun b hb=>?_)
    rw[World.putObj_heap_other oM,hoc _ oM,hob _ oM]
  ·have heq:((i:Int)==(k:Int))=false:=by simp;omega
   have HEK:=UA hek
   clear hek
   gi_wp2
   obtain⟨hob,ZB0,ZB1,ZB2⟩:=HB.out
   obtain⟨hly,hdy,hlb⟩:=HL.out
   obtain⟨z0,z1,z2,z3⟩:=HS.out
   have hE:=run_endRound (P:=Tryz.prog) none hlb
   rw[eV]at hE
   refine⟨_,_,hE,.inl ⟨rfl,⟨⟨?_,?_,?_,?_,?_⟩,?_⟩,⟨?_,?_,?_,?_,?_⟩⟩⟩
   ·exact ZB0.trans WN.os
   ·exact ZB1.trans WN.tape
   ·exact ZB2.trans WN.output
   ·simp;omega
   ·intro b hb
    by_cases hbl:b=l0
    ·subst hbl
     refine (World.putObj_heap_same oM).trans ?_
     rw[←WN.block _ hb,hly,eV]
     rfl
    ·rw[World.putObj_heap_other hbl,hob _ hbl,WN.block b hb]
   ·have:=HIK.out;have:=HEK.out;omega
   ·simp;omega
   ·exact ZB0
   ·exact ZB1
   ·exact ZB2
   ·intro b hb hf
    rw[World.putObj_heap_other oM,hob _ oM]
attribute [local go_sem ↓] vC YB kC xC zD lB yC qD wC dD SA mB jC RA pB qC CA aB nC JB TA uC fB eB zB bB qB OB sB jD iC vD yD nE iD pE mE GB LB
attribute [local go_sem] VB MA CD jB EA sE xD gD wD GK IK uD dC rC sC CC nA QC FA ZC LA UB aop SE LD aD IC GD eC ID fJ SF dF amm AE fC IB qF bD rF comma LC DF lJ IF GF XJ zF VF UE ZJ eqC eqF tG cellsOf xB YC CB UF mI rd rdI fE mk tD AV.cell List.all_cons List.all_nil Bool.and_true Bool.true_and Bool.and_self List.length_cons List.length_nil List.length_append Nat.reduceAdd Nat.reduceSub Nat.reduceMul Nat.zero_add Nat.add_zero List.cons_append List.nil_append List.append_assoc List.append_nil List.getElem?_cons_zero List.getElem?_cons_succ List.getElem?_nil List.set_cons_zero List.set_cons_succ List.drop_zero List.drop_succ_cons List.take_zero List.take_succ_cons List.take_nil List.drop_nil List.map_cons List.map_nil Option.map_some if_true if_false Bool.false_eq_true and_self true_and and_true Nat.reduceLeDiff Nat.reduceLT Nat.le_refl Nat.reduceEqDiff ite_true ite_false beq_self_eq_true beq_true beq_false Bool.not_true Bool.not_false Bool.true_beq Bool.false_beq rE MB wB JD KD zC KC UC VC UD VD dE dA eK YK bK fK kG vG wG yG geI gtI gG decide_true decide_false room List.getElem?_map List.length_map List.length_take Int.toNat_natCast Nat.min_def Nat.min_self kD EC DD tB lD EF zA List.getElem_cons_zero List.getElem_cons_succ
def a_vState:AFunc:=({c:=_}:CF Tryz.prog 32).c
theorem pY:jA Tryz.prog 32=some a_vState:=by kernel_rfl

theorem IX (p:Pr) (hS:PrS p) (hO:OkA p) (k:Nat) (hk:k≤p.evs.length) (b l:List Row):QA Tryz.prog 81 [.agg [.v (.str p.name),.v (.isl 2 (p.vars.map eVr)),.v (.isl 5 (p.evs.map eEv))],.v (.int .i64 k)] b l (fun r b' l'=>r=.v (.isl 1 ((stV p k).map eI))∧b'=b∧l'=l):=by
 refine QA.of_newA ⟨_,Tryz.func81,by kernel_rfl,by kernel_rfl⟩ (fun F L w us hF hr=>?_)
 obtain⟨v,u1,e1,r1,hr1⟩:=AD hr
 obtain⟨kv,u2,e2,r2,hr2⟩:=AD hr1
 have:=XG hr2
 subst this
 obtain rfl:us=#[v,kv]:=gb.1 (by rw[e1,e2])
 cases r2.vI
 obtain⟨cs,rfl,hc⟩:=r1.aggL
 obtain⟨c0,t0,f0,q0,hc0⟩:=AD hc
 obtain⟨c1,t1,f1,q1,pI⟩:=AD hc0
 obtain⟨c2,t2,f2,q2,JR⟩:=AD pI
 have:=XG JR
 subst this
 obtain rfl:cs=#[c0,c1,c2]:=gb.1 (by rw[f0,f1,f2])
 have up:∀{x:IV} {u:Value},RepA w F L (.v x) u→RepI w (fun b=>b<w.heap.size) x u:=fun h=>h.vI.mono hF (fun _ _=>rfl)
 refine (N9 p hS hO k hk c0 c1 c2 w (up q0) (up q1) (up q2)).mono ?_
 rintro e w' ⟨vv,rfl,he,hv⟩
 refine⟨he,vv,_,fun b=>F b∨(w.heap.size≤b∧b<w'.heap.size),rfl,fun _ h=>.inl h,fun b hb h=>h.elim id (fun h=>by omega),fun b h=>h.elim (fun h=>fc (hF b h) he.size) (fun h=>h.2),.v _ _ (hv.mono (fun _ h=>.inr h) (fun _ _=>rfl)),rfl,rfl,rfl⟩
end Go.Proofs.YtmaokjojbjdpoaaGreatDoor
namespace Go.Proofs.YtmaokjojbjdpoaaGreatDoor
set_option linter.unusedVariables false
set_option linter.unusedSimpArgs false
attribute [local go_sem ↓] vC YB kC xC zD lB yC qD wC dD SA mB jC RA pB qC CA aB nC JB TA uC fB eB zB bB qB OB sB jD iC vD yD nE iD pE mE GB LB
attribute [local go_sem] VB MA CD jB EA sE xD gD wD GK IK uD dC rC sC CC nA QC FA ZC LA UB aop SE LD aD IC GD eC ID fJ SF dF amm AE fC IB qF bD rF comma LC DF lJ IF GF XJ zF VF UE ZJ eqC eqF tG cellsOf xB YC CB UF mI rd rdI fE mk tD AV.cell List.all_cons List.all_nil Bool.and_true Bool.true_and Bool.and_self List.length_cons List.length_nil List.length_append Nat.reduceAdd Nat.reduceSub Nat.reduceMul Nat.zero_add Nat.add_zero List.cons_append List.nil_append List.append_assoc List.append_nil List.getElem?_cons_zero List.getElem?_cons_succ List.getElem?_nil List.set_cons_zero List.set_cons_succ List.drop_zero List.drop_succ_cons List.take_zero List.take_succ_cons List.take_nil List.drop_nil List.map_cons List.map_nil Option.map_some if_true if_false Bool.false_eq_true and_self true_and and_true Nat.reduceLeDiff Nat.reduceLT Nat.le_refl Nat.reduceEqDiff ite_true ite_false beq_self_eq_true beq_true beq_false Bool.not_true Bool.not_false Bool.true_beq Bool.false_beq rE MB wB JD KD zC KC UC VC UD VD dE dA eK YK bK fK kG vG wG yG geI gtI gG decide_true decide_false room List.getElem?_map List.length_map List.length_take Int.toNat_natCast Nat.min_def Nat.min_self kD EC DD tB lD EF zA List.getElem_cons_zero List.getElem_cons_succ
def a_r54fits:AFunc:=({c:=_}:CF Tryz.prog 55).c
theorem zW:jA Tryz.prog 55=some a_r54fits:=by kernel_rfl
def rR:List (Nat×Nat):=[(6,6),(8,8),(28,54)]

def dX (p:Pr) (k:Nat):Bool:=(List.range k).all fun i=>(p.vars.getD i qO).name==OG i
def MT (p:Pr) (c:Int):Bool:=decide (p.evs.length=0∨(p.evs.getD (p.evs.length-1) lI).time≤c)
def QI (p:Pr) (s:Sv) (now:Int):Bool:=(p.name==s.name)&&(decide (p.vars.length=s.vars.length)&&(dX p s.vars.length&&(decide (AL p=s.vars)&&MT p (nH s now))))
theorem MV (p:Pr) (hS:PrS p) (hO:OkA p) (s:Sv) (h8:s.vars.length≤8) (now:Int) (b l:List Row):QA Tryz.prog 55 [.agg [.v (.str p.name),.v (.isl 2 (p.vars.map eVr)),.v (.isl 5 (p.evs.map eEv))],.agg (zSA s),.v (.int .i64 now)] b l (fun r b' l'=>r=.v (.bool (QI p s now))∧b'=b∧l'=l):=by
 refine XA zW rfl kE ?_
 intro B g hB hR hE hA;simp only[zA]at hA
 have hnv:=hS.nv
 have VG:=hS.ne
 have hbn:(p.name != s.name)=!(p.name==s.name):=rfl
 cases t1:(p.name==s.name)
 ·simp (disch:=first|decide|omega) only[a_r54fits,hA,hbn,t1,aa,go_sem]
  exact ZA (xs:=[.v (.bool false)]) ⟨by unfold QI;rw[t1];rfl,rfl,rfl⟩
 by_cases t2:p.vars.length=s.vars.length
 case neg =>
  have d2:((p.vars.length:Int) != (s.vars.length:Int))=true:=by simp;omega
  simp (disch:=first|decide|omega) only[a_r54fits,hA,hbn,t1,d2,aa,go_sem]
  exact ZA (xs:=[.v (.bool false)]) ⟨by unfold QI;rw[t1,ag t2];rfl,rfl,rfl⟩
 have d2:((p.vars.length:Int) != (s.vars.length:Int))=false:=by simp;omega
 simp (disch:=first|decide|omega) only[a_r54fits,hA,hbn,t1,d2,aa,go_sem]
 refine QA.nxt (zT p hS hO _ _) ?_
 have hfv:(AL p).length=p.vars.length:=xG _
 simp (disch:=first|decide|omega) only[hA,hbn,t1,d2,aa,go_sem]
 refine JA (ι:=Nat) rR (fun i=>[(8,.v (.int .i64 i))]) 2 (fun i=>[XK p,jG s])
  (fun i=>i≤p.vars.length∧∀j,j<i→((p.vars.getD j qO).name==OG j)=true∧(AL p).getD j 0=s.vars.getD j 0) (fun i=>p.vars.length-i) 0 ⟨aj _,fun j hj=>by omega⟩ kM kA kF ?_
 rintro g1 UG mF rA i ⟨hi,h0⟩
 unfold XK jG
 by_cases yA:i<p.vars.length
 ·have p6:=OQ yA
  have hgf:((AL p).map eI)[i]? = some [.int .i64 ((AL p).getD i 0)]:=tE oM
  have FM:(s.vars.map eI)[i]? = some [.int .i64 (s.vars.getD i 0)]:=tE oM
  have hgn:(p.vars.getD i qO).name=p.vars[i].name:=by rw[YA yA]
  simp (disch:=first|decide|omega) only[hA,rA,p6,hfv,aa,go_sem]
  refine QA.nxt (G3 i oM _ _) ?_
  have hb:(p.vars[i].name != OG i)=!(p.vars[i].name==OG i):=rfl
  cases t3:(p.vars[i].name==OG i)
  ·simp (disch:=first|decide|omega) only[hA,rA,p6,hgf,FM,hb,t3,aa,go_sem]
   exact ZA (xs:=[.v (.bool false)]) ⟨by unfold QI;rw[t1,ae t2,show dX p s.vars.length=false from ew.2 ⟨i,ba.2 oM,by rw[hgn,t3];simp⟩];rfl,rfl,rfl⟩
  ·by_cases t4:(AL p).getD i 0=s.vars.getD i 0
   ·have d4:((AL p).getD i 0 != s.vars.getD i 0)=false:=by rw[t4];simp
    simp (disch:=first|decide|omega) only[hA,rA,p6,hgf,FM,hb,t3,d4,aa,go_sem]
    refine⟨i+1,⟨yA,fun j hj=>?_⟩,by simp only;omega,?_⟩
    ·rcases bj j i with JG|JG
     ·exact h0 j JG
     ·obtain rfl:j=i:=by omega
      exact⟨by rw[hgn];exact t3,t4⟩
    ·exact KA.kround (p:=rR) (k:=2) kQ kA rfl UG kS kV hR kL
   ·have d4:((AL p).getD i 0 != s.vars.getD i 0)=true:=by simpa using t4
    simp (disch:=first|decide|omega) only[hA,rA,p6,hgf,FM,hb,t3,d4,aa,go_sem]
    have ZFB:decide (AL p=s.vars)=false:=ag (fun h=>t4 (by rw[h]))
    exact ZA (xs:=[.v (.bool false)]) ⟨by unfold QI;rw[ZFB];simp[one],rfl,rfl⟩
 obtain rfl:i=p.vars.length:=by omega
 have t3:dX p s.vars.length=true:=by
  unfold dX
  rw[bg]
  exact fun j hj=>(h0 j (by have:=ba.1 hj;omega)).1
 have t4:decide (AL p=s.vars)=true:=ae (AZ oM (fun j hj=>(h0 j oM).2))
 have hr:QI p s now=MT p (nH s now):=by unfold QI;rw[t1,ae t2,t3,t4];rfl
 rw[hr]
 simp (disch:=first|decide|omega) only[hA,rA,hfv,aa,go_sem]
 refine QA.nxt (kT _ _ _ _ s now _ _) ?_
 by_cases hz:p.evs.length=0
 ·have dz:((p.evs.length:Int)==0)=true:=by rw[hz];rfl
  simp (disch:=first|decide|omega) only[hA,rA,dz,aa,go_sem]
  exact ZA (xs:=[.v (.bool true)]) ⟨by unfold MT;rw[ae (.inl hz)];rfl,rfl,rfl⟩
 ·have dz:((p.evs.length:Int)==0)=false:=dy.2 oM
  have yA:p.evs.length-1<p.evs.length:=by omega
  have xH:=AG yA
  have pI:(p.evs.length:Int)-1=((p.evs.length-1:Nat):Int):=by omega
  simp (disch:=first|decide|omega) only[hA,rA,dz,pI,xH,aa,go_sem]
  exact ZA (xs:=[.v (.bool (decide (p.evs[p.evs.length-1].time≤nH s now)))]) ⟨by unfold MT;rw[YA yA];simp[hz,one],rfl,rfl⟩
noncomputable def bkL (t:Tr) (p n i:Nat):List (Nat×Nat):=(List.range (n-i)).flatMap fun k=>JE t (p,n-k)
theorem ZFv {t:Tr} {p n i:Nat} {y:Nat×Nat} (h:y∈bkL t p n i):∃j,i<j∧j≤n∧y∈JE t (p,j):=by
 unfold bkL at h
 obtain⟨k,hk,hy⟩:=jh.1 h
 have:=ba.1 hk
 exact⟨n-k,by omega,by omega,hy⟩
theorem ZGW {t:Tr} {p n i j:Nat} {y:Nat×Nat} (h1:i<j) (h2:j≤n) (hy:y∈JE t (p,j)):y∈bkL t p n i:=by
 unfold bkL
 exact jh.2 ⟨n-j,ba.2 oM,by rwa [show n-(n-j)=j by omega]⟩
structure Pst (t:Tr) (x:Nat×Nat) (c:Nat→Nat) (Q:List (Nat×Nat)):Prop where
 q:∀y∈Q,y∈ids t∧Le t y x
 le:∀p i,i<c p→p<t.length∧i<(iA t p).length∧Le t (p,i+1) x
 src:x∈Q∨x.2≤c x.1
 cl:∀z∈ids t,z.2≤c z.1→∀y∈JE t z,y∈Q∨y.2≤c y.1
theorem Pst.start {t:Tr} {x:Nat×Nat} (hx:x∈ids t):Pst t x (fun _=>0) [x]:=by
 refine⟨fun y hy=>?_,fun p i h=>by simp at h,.inl kS,fun z hz h=>?_⟩
 ·simp only[lu]at hy;subst hy;exact⟨hx,.refl _⟩
 ·have:=(TC.1 hz).2.1
  omega
theorem Pst.cle {t:Tr} {x:Nat×Nat} {c:Nat→Nat} {Q:List (Nat×Nat)} (h:Pst t x c Q) (p:Nat):c p≤(iA t p).length:=by
 cases hc:c p with
 |zero=>omega
 |succ n=>have:=(h.le p n oM).2.1;omega
theorem Pst.skip {t:Tr} {x y:Nat×Nat} {c:Nat→Nat} {Q:List (Nat×Nat)} (h:Pst t x c (y::Q)) (hc:y.2≤c y.1):Pst t x c Q:=by
 refine⟨fun z hz=>h.q z (by simp[hz]),h.le,?_,fun z hz vU w hw=>?_⟩
 ·rcases h.src with h1|h1
  ·rcases cu.1 h1 with rfl|h2
   ·exact .inr hc
   ·exact .inl h2
  ·exact .inr h1
 ·rcases h.cl z hz vU w hw with h1|h1
  ·rcases cu.1 h1 with rfl|h2
   ·exact .inr hc
   ·exact .inl h2
  ·exact .inr h1
theorem Pst.mark {t:Tr} (hv:Vok t) {x:Nat×Nat} {p n:Nat} {c:Nat→Nat} {Q:List (Nat×Nat)} (h:Pst t x c ((p,n)::Q)) (hc:c p<n):Pst t x (fUp c p n) (Q++bkL t p n (c p)):=by
 obtain⟨hy,hl⟩:=h.q (p,n) kS
 obtain⟨n,rfl⟩:∃k,n=k+1:=⟨n-1,by have:=(TC.1 hy).2.1;simp only at this;omega⟩
 obtain⟨hp,hn⟩:=KE.1 hy
 have up:∀q,c q≤fUp c p (n+1) q:=fun q=>by
  by_cases hq:q=p
  ·subst hq;rw[SI];omega
  ·rw[ZT hq];exact ai _
 refine⟨fun z hz=>?_,fun q i hi=>?_,?_,fun z hz vU w hw=>?_⟩
 ·rcases bn.1 hz with hz|hz
  ·exact h.q z (by simp[hz])
  ·obtain⟨j,h1,h2,h3⟩:=ZFv hz
   obtain⟨j,rfl⟩:∃k,j=k+1:=⟨j-1,by omega⟩
   obtain⟨h4,h5⟩:=J0 hv (KE.2 ⟨hp,by omega⟩) h3
   exact⟨h4,Le.trans (.inr h5) ((Z7 h2 oM).trans hl)⟩
 ·by_cases hq:q=p
  ·subst hq
   rw[SI]at hi
   exact⟨hp,by omega,(Z7 oM oM).trans hl⟩
  ·rw[ZT hq]at hi
   exact h.le q i hi
 ·rcases h.src with h1|h1
  ·rcases cu.1 h1 with rfl|h2
   ·exact .inr (by simp only;rw[SI];omega)
   ·exact .inl (bn.2 (.inl h2))
  ·exact .inr (dh h1 (up _))
 ·have old:z.2≤c z.1→w∈Q++bkL t p (n+1) (c p)∨w.2≤fUp c p (n+1) w.1:=fun h0=>by
   rcases h.cl z hz h0 w hw with h1|h1
   ·rcases cu.1 h1 with rfl|h2
    ·exact .inr (by simp only;rw[SI];omega)
    ·exact .inl (bn.2 (.inl h2))
   ·exact .inr (dh h1 (up _))
  obtain⟨zp,zi⟩:=z
  by_cases hq:zp=p
  ·subst hq
   simp only at vU
   rw[SI]at vU
   by_cases h0:zi≤c zp
   ·exact old h0
   ·exact .inl (bn.2 (.inr (ZGW oM vU hw)))
  ·simp only at vU
   rw[ZT hq]at vU
   exact old vU
theorem Pst.all {t:Tr} (hv:Vok t) {x:Nat×Nat} {c:Nat→Nat} (h:Pst t x c []):∀n z,rk t z=n→z∈ids t→z.2≤c z.1→∀w∈ids t,Le t w z→w.2≤c w.1:=by
 intro n
 induction n using Nat.strongRecOn with
 |_ n ih =>
   intro z hn hz vU w hw hl
   rcases (ZFw hv hz hw).1 hl with rfl|⟨y,hy,iV⟩
   ·exact vU
   ·obtain⟨h1,h2⟩:=J0 hv hz hy
    rcases h.cl z hz vU y hy with h3|h3
    ·simp at h3
    ·exact ih (rk t y) (by rw[←hn];exact rk_lt hv hz h2) y rfl h1 h3 w hw iV
theorem Pst.done {t:Tr} (hv:Vok t) {x:Nat×Nat} (hx:x∈ids t) {c:Nat→Nat} (h:Pst t x c []) {p:Nat} (hp:p<t.length):c p=vc t x p:=by
 refine ZHv (n:=(iA t p).length) (h.cle p) vc_le (fun j hj=>?_)
 rw[←ZHl hj]
 constructor
 ·exact fun hl=>(h.le p j hl).2.2
 ·intro hl
  have hs:x.2≤c x.1:=h.src.resolve_left kS
  have:=h.all hv (rk t x) x rfl hx hs (p,j+1) (KE.2 ⟨hp,hj⟩) hl
  exact this
theorem LU {t:Tr} {x:Nat×Nat}:lC t x=0↔AA t.length x.1 (gA t x)=true∧inB (gA t x).time 0 1099511627776=true∧¬(gA t x).time<AH t x∧(gA t x).asg.length≤8∧uB (YJ (t.getD x.1 dfPr).vars.length (gA t x).asg) (gA t x).asg.length=0:=by
 unfold lC
 cases h1:AA t.length x.1 (gA t x)
 ·simp
 cases h2:inB (gA t x).time 0 1099511627776
 ·simp
 by_cases h3:(gA t x).time<AH t x
 ·simp[h3]
 by_cases h4:8<(gA t x).asg.length
 ·have h5:¬(gA t x).asg.length≤8:=by omega
  simp[h3,h4,h5]
 ·have h5:(gA t x).asg.length≤8:=by omega
  simp[h3,h4,h5]
theorem PO {t:Tr} (h:Vok t) {x:Nat×Nat} (hx:x∈ids t) {k:Int} (hk:k=2∨k=3) (hkx:(gA t x).kind=k):GC t k (gA t x).msg=some x:=by
 rcases hk with rfl|rfl
 ·exact h.paired.send hx hkx
 ·exact (h.paired.recv hx hkx).1
theorem ZDH {t:Tr} {x:Nat×Nat} (hx:x∈ids t):gA t x∈iA t x.1:=by
 obtain⟨p,i⟩:=x
 obtain⟨hp,h1,h2⟩:=TC.1 hx
 unfold gA
 simp only at *
 rw[aE hp,QB lI _ (show i-1<t[p].evs.length by omega)]
 exact am _
theorem ZCq {t:Tr} {p:Nat} {e:Ev} (hp:p<t.length) (he:e∈iA t p):∃i,(p,i+1)∈ids t∧gA t (p,i+1)=e:=by
 obtain⟨i,hi,rfl⟩:=cn he
 refine⟨i,KE.2 ⟨hp,hi⟩,?_⟩
 unfold gA
 simp only[fa]
 exact QB lI _ hi
def Qb (t:Tr) (k j:Nat) (x y:Nat×Nat):Prop:=Hb t x y∧(y=(k,j+2)→Le t x (k,j)∨((gA t (k,j+2)).kind=3∧Le t x (sndr t (k,j+2))))
theorem Qb.trans {t:Tr} {k j:Nat} {x y z:Nat×Nat} (h:Qb t k j x y) (g:Qb t k j y z):Qb t k j x z:=by
 refine⟨h.1.trans g.1,fun e=>?_⟩
 rcases g.2 e with a|⟨a,c⟩
 ·exact .inl ((Le.trans (.inr h.1) a))
 ·exact .inr ⟨a,(Le.trans (.inr h.1) c)⟩
theorem Hb.pos {t:Tr} {x y:Nat×Nat} (h:Hb t x y):1≤y.2:=by
 have d:∀{a c:Nat×Nat},Dir t a c→1≤c.2:=fun {a c} d=>by
  rcases d with ⟨rfl,_⟩|⟨_,hf⟩
  ·exact Nat.le_add_left _ _
  ·exact (AB hf).2.1
 cases h with
 |one h=>exact d h
 |more _ h=>exact d h
theorem IS (v w:List Int) (hv:v.length≤1000000) (b l:List Row):QA Tryz.prog 24 [.v (.isl 1 (v.map eI)),.v (.isl 1 (w.map eI))] b l (fun r b' l'=>r=.v (.bool (decide (v=w)))∧b'=b∧l'=l):=by
 refine XA ZD5 rfl kE ?_
 intro B g hB hR hE hA;simp only[zA]at hA
 by_cases hl:v.length=w.length
 ·have hd:((v.length:Int) != (w.length:Int))=false:=by simp[hl]
  simp (disch:=first|decide|omega) only[a_Eq1,hA,hd,go_sem]
  refine JA (ι:=Nat) ZDv (fun i=>[(13,.v (.int .i64 i))]) 0 (fun _=>[])
   (fun i=>i≤v.length∧∀j,j<i→v.getD j 0=w.getD j 0) (fun i=>v.length-i) 0 ⟨aj _,fun j hj=>by omega⟩ kM kA kF ?_
  rintro g1 UG mF rA i ⟨hi,h0⟩
  by_cases yA:i<v.length
  ·have hlw:i<w.length:=by omega
   by_cases he:v[i]=w[i]
   ·have hd2:(v[i] != w[i])=false:=by simp[he]
    simp (disch:=first|decide|omega) only[hA,rA,eI,hd2,go_sem]
    refine⟨i+1,⟨yA,fun j hj=>?_⟩,by simp only;omega,?_⟩
    ·rcases bj j i with JG|JG
     ·exact h0 j JG
     ·have:j=i:=by omega
      subst this
      rw[YA yA,YA hlw,he]
    exact KA.kround (p:=ZDv) (k:=0) kQ kA rfl UG kS kV hR kL
   ·have hd2:(v[i] != w[i])=true:=by simp[he]
    have VG:decide (v=w)=false:=by
     rw[lw];intro h;subst h;exact he rfl
    simp (disch:=first|decide|omega) only[hA,rA,eI,hd2,go_sem]
    exact ZA (xs:=[.v (.bool false)]) ⟨by rw[VG];rfl,rfl,rfl⟩
  ·simp (disch:=first|decide|omega) only[hA,rA,go_sem]
   obtain rfl:i=v.length:=by omega
   have he:decide (v=w)=true:=ae (AZ hl h0)
   exact ZA (xs:=[.v (.bool true)]) ⟨by rw[he];rfl,rfl,rfl⟩
 ·have hd:((v.length:Int) != (w.length:Int))=true:=by simp;omega
  have VG:decide (v=w)=false:=by
   rw[lw];intro h;subst h;exact hl rfl
  simp (disch:=first|decide|omega) only[a_Eq1,hA,hd,go_sem]
  exact ZA (xs:=[.v (.bool false)]) ⟨by rw[VG];rfl,rfl,rfl⟩
def a_wproc:AFunc:=({c:=_}:CF Tryz.prog 66).c
theorem z5:jA Tryz.prog 66=some a_wproc:=by kernel_rfl
def yZ:List (Nat×Nat):=[(4,4),(7,8),(43,57)]

theorem M6 {t:Tr} (h:Vok t) {p:Nat} (hp:p<t.length):OkA t[p]:=by
 intro e he a ha
 obtain⟨i,hi,rfl⟩:=cn he
 obtain⟨j,hj,rfl⟩:=cn ha
 have hx:(p,i+1)∈ids t:=KE.2 ⟨hp,by rw[aE hp];exact hi⟩
 have hf:=h.form _ hx
 have QQ:=FF hp hi
 unfold lC at hf
 rw[QQ]at hf
 split at hf
 ·cases hf
 split at hf
 ·cases hf
 split at hf
 ·cases hf
 have h1:=GG.1 hf j hj
 unfold YJ at h1
 rw[QB TT _ hj,QB dfPr t hp]at h1
 split at h1
 ·cases h1
 rename_i h2
 simp only[Bool.not_eq_true,ke,Bool.not_eq_false']at h2
 have h3:=h2.1
 unfold inB at h3
 simp at h3
 omega
theorem S6 {t:Tr} (h:Small t) {p:Nat} (hp:p<t.length):PrS t[p]:=⟨h.nv _ (am hp),h.ne _ (am hp),h.na _ (am hp)⟩
theorem wI {t:Tr} {p:Nat} (hp:p<t.length):(t.map ePr)[p]? = some [.str t[p].name,.isl 2 (t[p].vars.map eVr),.isl 5 (t[p].evs.map eEv)]:=by
 rw[an,ah hp];rfl
theorem DX (t:Tr) (pV:fD t=true) (hS:Small t) (hN:Nm t) (p k:Nat) (hp:p<t.length) (hk:k≤t[p].evs.length) (b l:List Row):QA Tryz.prog 32 [.agg [.v (.isl 3 (t.map ePr))],.v (.int .i64 p),.v (.int .i64 k)] b l (fun r b' l'=>r=.tup [.v (.isl 1 ((stV t[p] k).map eI)),.v (.int .i64 0)]∧b'=b∧l'=l):=by
 refine XA pY rfl kE ?_
 intro B g hB hR hE hA;simp only[zA]at hA
 have cV:=fun b l=>yR t hS hN b l
 rw[pV]at cV
 simp only[eT]at cV
 have VG:=hS.ne _ (am hp)
 have dW:=hS.np
 have BI:=wI hp
 have d1:decide ((p:Int)<0)=false:=ag oM
 have d2:decide ((p:Int)≥(t.length:Int))=false:=ag oM
 have d2':decide ((t.length:Int)≤(p:Int))=false:=d2
 have d3:decide ((k:Int)<0)=false:=ag oM
 have d4:decide ((k:Int)>(t[p].evs.length:Int))=false:=ag oM
 have d4':decide ((t[p].evs.length:Int)<(k:Int))=false:=d4
 simp (disch:=first|decide|omega) only[a_vState,hA,go_sem]
 refine QA.nxt (cV _ _) ?_
 simp (disch:=first|decide|omega) only[hA,BI,d1,d2,d2',d3,d4,d4',aa,go_sem]
 refine QA.nxt (IX t[p] (S6 hS hp) (M6 (vok pV) hp) k hk _ _) ?_
 simp (disch:=first|decide|omega) only[hA,go_sem]
 exact ZA (xs:=[.v (.isl 1 ((stV t[p] k).map eI)),.v (.int .i64 0)])
abbrev zWA (x:Wd):List AV:=[.v (.isl 6 (x.sv.map eSv)),.v (.int .i64 x.net.now),.v (.bool x.net.fifo),.v (.isl 4 (x.net.l.map eMs)),.v (.isl 1 (x.net.tm.map eI)),.v (.isl 2 (x.net.fates.map eFt)),.v (.int .i64 x.now),.v (.int .i64 x.sent),.v (.isl 3 (x.tr.map ePr))]
theorem Q2 (w:Wd) (pV:fD w.tr=true) (hS:Small w.tr) (hN:Nm w.tr) (qN:SvsS w.sv) (p:Nat) (hp:p<w.tr.length) (hps:p<w.sv.length) (h8:w.sv[p].vars.length≤8) (b l:List Row):QA Tryz.prog 66 [.agg ((eWd w).map .v),.v (.int .i64 p)] b l (fun r b' l'=>r=.v (.bool (QI w.tr[p] w.sv[p] w.now))∧b'=b∧l'=l):=by
 refine XA z5 rfl kE ?_
 intro B g hB hR hE hA;simp only[zA]at hA
 obtain⟨x,hx⟩:∃x,w.tr[p]=x:=⟨_,rfl⟩
 obtain⟨s,hs⟩:∃s,w.sv[p]=s:=⟨_,rfl⟩
 have BI:=wI hp
 have FM:=CG hps
 rw[hx]at BI
 rw[hs]at FM h8
 rw[hx,hs]
 have e9:PrS x:=hx▸S6 hS hp
 have hxo:OkA x:=hx▸M6 (vok pV) hp
 have hnv:=e9.nv
 have VG:=e9.ne
 have JX:=qN.len
 have dW:=hS.np
 have cS:=fun b l=>DX w.tr pV hS hN p x.evs.length hp (by rw[hx];exact ai _) b l
 rw[hx,show stV x x.evs.length=AL x from rfl]at cS
 have hfv:(AL x).length=x.vars.length:=xG _
 have hbn:(x.name != s.name)=!(x.name==s.name):=rfl
 cases t1:(x.name==s.name)
 ·simp (disch:=first|decide|omega) only[a_wproc,hA,eWd,BI,FM,hbn,t1,aa,go_sem]
  exact ZA (xs:=[.v (.bool false)]) ⟨by unfold QI;rw[t1];rfl,rfl,rfl⟩
 by_cases t2:x.vars.length=s.vars.length
 case neg =>
  have d2:((x.vars.length:Int) != (s.vars.length:Int))=true:=by simp;omega
  simp (disch:=first|decide|omega) only[a_wproc,hA,eWd,BI,FM,hbn,t1,d2,aa,go_sem]
  exact ZA (xs:=[.v (.bool false)]) ⟨by unfold QI;rw[t1,ag t2];rfl,rfl,rfl⟩
 have d2:((x.vars.length:Int) != (s.vars.length:Int))=false:=by simp;omega
 have hwl:(NM s.vars).length=s.vars.length:=VI
 simp (disch:=first|decide|omega) only[a_wproc,hA,eWd,BI,FM,hbn,t1,d2,aa,go_sem]
 refine QA.nxt (qR s.vars h8 _ _) ?_
 simp (disch:=first|decide|omega) only[hA,hwl,aa,go_sem]
 refine JA (ι:=Nat) yZ (fun i=>[(43,.v (.int .i64 i))]) 3 (fun _=>[.live 0 9 [(zWA w)],jG s,XK x])
  (fun i=>i≤s.vars.length∧∀j,j<i→((x.vars.getD j qO).name==OG j)=true) (fun i=>s.vars.length-i) 0 ⟨aj _,fun j hj=>by omega⟩ kM kA kF ?_
 rintro g1 UG mF rA i ⟨hi,h0⟩
 unfold jG XK
 by_cases yA:i<s.vars.length
 ·have hgw:((NM s.vars).map eVr)[i]? = some [.str (OG i),.int .i64 (s.vars.getD i 0)]:=by
   rw[an]
   unfold NM
   rw[eD yA];rfl
  have hlx:i<x.vars.length:=by omega
  have p6:=OQ hlx
  have hgn:(x.vars.getD i qO).name=x.vars[i].name:=by rw[YA hlx]
  have hb:(x.vars[i].name != OG i)=!(x.vars[i].name==OG i):=rfl
  cases t3:(x.vars[i].name==OG i)
  ·simp (disch:=first|decide|omega) only[hA,rA,hgw,p6,hb,t3,hwl,aa,go_sem]
   exact ZA (xs:=[.v (.bool false)]) ⟨by unfold QI;rw[t1,ae t2,show dX x s.vars.length=false from ew.2 ⟨i,ba.2 yA,by rw[hgn,t3];simp⟩];rfl,rfl,rfl⟩
  ·simp (disch:=first|decide|omega) only[hA,rA,hgw,p6,hb,t3,hwl,aa,go_sem]
   refine⟨i+1,⟨yA,fun j hj=>?_⟩,by simp only;omega,?_⟩
   ·rcases bj j i with JG|JG
    ·exact h0 j JG
    ·obtain rfl:j=i:=by omega
     rw[hgn];exact t3
   ·exact KA.kround (p:=yZ) (k:=3) kQ kA rfl UG kS kV hR kL
 obtain rfl:i=s.vars.length:=by omega
 have t3:dX x s.vars.length=true:=by
  unfold dX
  rw[bg]
  exact fun j hj=>h0 j (ba.1 hj)
 simp (disch:=first|decide|omega) only[hA,rA,hwl,aa,go_sem]
 refine QA.nxt (cS _ _) ?_
 simp (disch:=first|decide|omega) only[hA,rA,hwl,aa,go_sem]
 refine QA.nxt (JP _ _ _ _ s w.now _ _ (.inl ⟨_,rfl⟩)) ?_
 simp (disch:=first|decide|omega) only[hA,rA,hwl,aa,go_sem]
 refine QA.nxt (IS (AL x) s.vars oM _ _) ?_
 by_cases t4:AL x=s.vars
 ·have d4:=ae t4
  have hr:QI x s w.now=MT x (nH s w.now):=by unfold QI;rw[t1,ae t2,t3,d4];rfl
  rw[hr]
  by_cases hz:x.evs.length=0
  ·have dz:((x.evs.length:Int)==0)=true:=by rw[hz];rfl
   simp (disch:=first|decide|omega) only[hA,rA,d4,dz,aa,go_sem]
   exact ZA (xs:=[.v (.bool true)]) ⟨by unfold MT;rw[ae (.inl hz)];rfl,rfl,rfl⟩
  ·have dz:((x.evs.length:Int)==0)=false:=dy.2 oM
   have yA:x.evs.length-1<x.evs.length:=by omega
   have xH:=AG yA
   have pI:(x.evs.length:Int)-1=((x.evs.length-1:Nat):Int):=by omega
   simp (disch:=first|decide|omega) only[hA,rA,d4,dz,pI,xH,aa,go_sem]
   exact ZA (xs:=[.v (.bool (decide (x.evs[x.evs.length-1].time≤nH s w.now)))]) ⟨by unfold MT;rw[YA yA];simp[hz,one],rfl,rfl⟩
 ·have d4:=ag t4
  simp (disch:=first|decide|omega) only[hA,rA,d4,aa,go_sem]
  exact ZA (xs:=[.v (.bool false)]) ⟨by unfold QI;rw[d4];simp[one],rfl,rfl⟩
theorem mR {s:ByteArray} (h:nD s=true):s.size≤16:=by
 unfold nD EW at h
 simp only[au,bc]at h
 have:=h.1.1.2
 rwa [fj]at this
theorem QN {t:Tr} {p:Nat} (hp:p<t.length) (h:SC t p=0):nD t[p].name=true∧t[p].vars.length≤8∧(∀v∈t[p].vars,nD v.name=true)∧t[p].evs.length≤64:=by
 have h64:=LJ hp h
 unfold SC at h
 rw[YA hp]at h
 split at h
 ·exact absurd h kE
 rename_i c1
 split at h
 ·exact absurd h kE
 rename_i c2
 split at h
 ·rename_i c3;exact absurd h c3
 rename_i c3
 have c3:uB (aM t[p].vars) t[p].vars.length=0:=Classical.not_not.1 c3
 refine⟨?_,by omega,fun v hv=>?_,h64⟩
 ·cases hn:nD t[p].name with
  |true=>rfl
  |false=>rw[hn]at c1;simp at c1
 ·obtain⟨i,hi,rfl⟩:=cn hv
  have:=GG.1 c3 i hi
  unfold aM at this
  rw[YA hi]at this
  cases hn:nD t[p].vars[i].name with
  |true=>rfl
  |false=>rw[hn]at this;simp at this
theorem Vok.small {t:Tr} (h:Vok t):Small t:=by
 have hi:=h.hi
 refine⟨by omega,fun x hx=>?_,fun x hx=>?_,fun x hx e he=>?_⟩
 ·obtain⟨p,hp,rfl⟩:=cn hx
  have:=(QN hp (h.head p hp)).2.1;omega
 ·obtain⟨p,hp,rfl⟩:=cn hx
  have:=(QN hp (h.head p hp)).2.2.2;omega
 ·obtain⟨p,hp,rfl⟩:=cn hx
  obtain⟨i,hi,rfl⟩:=ZCq hp (by rw[aE hp];exact he)
  have:=(LU.1 (h.form _ hi)).2.2.2.1
  omega
theorem Vok.nm {t:Tr} (h:Vok t):Nm t:=fun x hx=>by
 obtain⟨p,hp,rfl⟩:=cn hx
 obtain⟨h1,_,h3,_⟩:=QN hp (h.head p hp)
 have g:∀s:ByteArray,nD s=true→s.size≤maxLen:=fun s hs=>dh (mR hs) (by unfold maxLen;decide)
 exact⟨g _ h1,fun v hv=>g _ (h3 v hv)⟩
def a_wValid:AFunc:=({c:=_}:CF Tryz.prog 22).c
theorem iY:jA Tryz.prog 22=some a_wValid:=by kernel_rfl
def nU:List (Nat×Nat):=[(2,5),(7,7),(52,79)]
def fO:List (Nat×Nat):=[(2,3),(7,7),(64,78)]
def a_wValid1:AFunc:=({c:=_}:CF Tryz.prog 68).c
theorem JW:jA Tryz.prog 68=some a_wValid1:=by kernel_rfl

theorem KS:jA Tryz.prog 67=some (tH 126):=by kernel_rfl
theorem US:jA Tryz.prog 126=some (FJ 4):=by kernel_rfl
def nSd (l:List Ev):Nat→Nat
 |0=>0
 |i+1=>if (l.getD i lI).kind=2 then nSd l i+1 else nSd l i
theorem vX (l:List Ev):∀i,nSd l i≤i
 |0=>ai _
 |i+1=>by have:=vX l i;simp only[nSd];split<;>omega
def cSd (t:Tr):Nat→Nat
 |0=>0
 |p+1=>cSd t p+nSd (iA t p) (iA t p).length
theorem wX {t:Tr} (h:∀x∈t,x.evs.length≤64):∀p,p≤t.length→cSd t p≤64*p
 |0,_=>ai _
 |p+1,hp=>by
   have:=wX h p oM
   have h1:=vX (iA t p) (iA t p).length
   have h2:=h t[p] (am oM)
   rw[aE (show p<t.length by omega)]at h1
   simp only[cSd]
   rw[aE (show p<t.length by omega)]
   omega
def sOk (l:List Ev) (sent:Int) (i:Nat):Bool:=!((l.getD i lI).kind==2)||decide ((l.getD i lI).msg<sent)
noncomputable def mgB (t:Tr) (m:Ms):Bool:=decide (m.body.length=1)&&(decide (0<(EB t 2 m.nu).2)&&(decide (((EB t 2 m.nu).1:Int)=m.fr)&&decide ((gA t (EB t 2 m.nu)).peer=m.to)))
def prB (w:Wd) (p:Nat):Bool:=QI (w.tr.getD p dfPr) (w.sv.getD p dfSv) w.now&&(List.range (iA w.tr p).length).all (sOk (iA w.tr p) w.sent)
noncomputable def wdB (w:Wd):Bool:=bF w.sv&&(inZ w.now 0 1000000000&&(nwB w.net&&(decide (w.net.now=w.now)&&(fD w.tr&&(decide (w.tr.length=w.sv.length)&&((List.range w.tr.length).all (prB w)&&(decide ((cSd w.tr w.tr.length:Int)=w.sent)&&w.net.l.all (mgB w.tr))))))))
theorem LN {t:Tr} {kd m:Int} (h:0<(EB t kd m).2):∃p i,EB t kd m=(p,i+1)∧∃hp:p<t.length,i<t[p].evs.length:=by
 unfold EB at h⊢
 split at h
 case isFalse=>simp at h
 rename_i hv
 rw[if_pos hv]
 unfold DB qA at h⊢
 cases hf:(ids t).find? (MD t kd m) with
 |none=>rw[hf]at h;simp at h
 |some x =>
   obtain⟨p,j⟩:=x
   have hm:=fg hf
   obtain⟨hp,h1,h2⟩:=TC.1 hm
   simp only at hp h1 h2
   obtain⟨i,rfl⟩:∃i,j=i+1:=⟨j-1,by omega⟩
   exact⟨p,i,rfl,hp,by omega⟩
theorem aV (w:Wd) (hS:Small w.tr) (hN:Nm w.tr) (m:Ms) (hm:m.body.length≤1000000) (id:Nat) (b l:List Row) (hg:hget b l id=some (.live 0 9 [(eWd w).map .v])):QA Tryz.prog 68 [.agg ((eMs m).map .v),.ptr id 0 0 0] b l (fun r b' l'=>r=.v (.bool (!mgB w.tr m))∧b'=b∧l'=l):=by
 refine XA JW rfl kE ?_
 intro B g hB hR hE hA;simp only[zA]at hA
 have g0:∀l',hget B l' id=some (.live 0 9 [(eWd w).map .v]):=fun l'=>by
  rw[PC]at hg
  rw[PC,aw (by rw[hB];exact (ak.1 hg).1),hB];exact hg
 unfold eWd at g0
 simp only[bl,cd]at g0
 have cS:=fun b l=>NX w.tr hS hN b l m.nu
 simp only[eT,idA]at cS
 have JJ:((m.body.length:Int) != 1)=!decide (m.body.length=1):=by
  by_cases h:m.body.length=1<;>simp[h]
  omega
 simp (disch:=first|decide|omega) only[a_wValid1,hA,g0,eMs,aa,go_sem]
 refine QA.nxt (cS _ _) ?_
 by_cases t1:m.body.length=1
 case neg =>
  have d1:((m.body.length:Int) != 1)=true:=by simp;omega
  simp (disch:=first|decide|omega) only[hA,g0,d1,aa,go_sem]
  exact ZA (xs:=[.v (.bool true)]) ⟨by simp[mgB,t1,one],rfl,rfl⟩
 have d1:((m.body.length:Int) != 1)=false:=by simp;omega
 by_cases t2:0<(EB w.tr 2 m.nu).2
 case neg =>
  have d2:decide (0<(EB w.tr 2 m.nu).2)=false:=ag t2
  simp (disch:=first|decide|omega) only[hA,g0,d1,d2,aa,go_sem]
  exact ZA (xs:=[.v (.bool true)]) ⟨by simp[mgB,t2,one],rfl,rfl⟩
 have d2:decide (0<(EB w.tr 2 m.nu).2)=true:=ae t2
 obtain⟨p,i,hpi,hp,hi⟩:=LN t2
 have BI:=wI hp
 have xH:=AG hi
 have QQ:=FF hp hi
 have VG:=hS.ne _ (am hp)
 have dW:=hS.np
 have P7:mgB w.tr m=(decide ((p:Int)=m.fr)&&decide (w.tr[p].evs[i].peer=m.to)):=by unfold mgB;rw[ae t1,d2,hpi,QQ];rfl
 rw[P7]
 rw[hpi]at d2
 have yU:((i+1:Nat):Int)-1=(i:Int):=by omega
 by_cases t3:(p:Int)=m.fr
 case neg =>
  have d3:((p:Int) != m.fr)=true:=by simpa using t3
  simp (disch:=first|decide|omega) only[hA,g0,d1,d2,hpi,d3,aa,go_sem]
  exact ZA (xs:=[.v (.bool true)]) ⟨by simp[t3,one],rfl,rfl⟩
 have d3:((p:Int) != m.fr)=false:=by simpa using t3
 have d4:(w.tr[p].evs[i].peer != m.to)=!decide (w.tr[p].evs[i].peer=m.to):=by
  by_cases h:w.tr[p].evs[i].peer=m.to<;>simp[h]
 simp (disch:=first|decide|omega) only[hA,g0,d1,d2,hpi,d3,BI,xH,yU,d4,aa,go_sem]
 exact ZA (xs:=[.v (.bool (!decide (w.tr[p].evs[i].peer=m.to)))]) ⟨by simp[t3,one],rfl,rfl⟩
theorem ZDf {w:Wd} {p:Nat} (hp:p<w.tr.length) (h:prB w p=false):wdB w=false:=by
 have:(List.range w.tr.length).all (prB w)=false:=ew.2 ⟨p,ba.2 hp,by rw[h];simp⟩
 unfold wdB
 rw[this];simp
theorem rH (w:Wd) (hS0:Sm w.tr) (hN:Nm w.tr) (qN:SvsS w.sv) (EY:NwS w.net) (b l:List Row):QA Tryz.prog 22 [.agg ((eWd w).map .v)] b l (fun r b' l'=>r=.v (.bool (wdB w))∧b'=b∧l'=l):=by
 refine XA iY rfl kE ?_
 intro B g hB hR hE hA;simp only[zA]at hA
 have cV:=fun b l=>qG w.net b l
 have cT:=fun b l=>VP w.tr hS0 hN b l
 simp only[eNw,eT,bl,cd]at cV cT
 have dW:=hS0.np
 have JX:=qN.len
 simp (disch:=first|decide|omega) only[a_wValid,hA,eWd,cellsOf,go_sem]
 refine QA.nxt (dL w.sv qN _ _) ?_
 cases t1:bF w.sv
 ·simp (disch:=first|decide|omega) only[hA,go_sem]
  exact ZA (xs:=[.v (.bool false)]) ⟨by unfold wdB;rw[t1];rfl,rfl,rfl⟩
 simp (disch:=first|decide|omega) only[hA,go_sem]
 refine QA.nxt (FC _ _ _ _ _) ?_
 cases t2:inZ w.now 0 1000000000
 ·simp (disch:=first|decide|omega) only[hA,go_sem]
  exact ZA (xs:=[.v (.bool false)]) ⟨by unfold wdB;rw[t1,t2];rfl,rfl,rfl⟩
 simp (disch:=first|decide|omega) only[hA,go_sem]
 refine QA.nxt (cV _ _) ?_
 cases t3:nwB w.net
 ·simp (disch:=first|decide|omega) only[hA,go_sem]
  exact ZA (xs:=[.v (.bool false)]) ⟨by unfold wdB;rw[t1,t2,t3];rfl,rfl,rfl⟩
 by_cases t4:w.net.now=w.now
 case neg =>
  have d4:(w.net.now != w.now)=true:=by simpa using t4
  simp (disch:=first|decide|omega) only[hA,d4,go_sem]
  exact ZA (xs:=[.v (.bool false)]) ⟨by unfold wdB;rw[t1,t2,t3,ag t4];rfl,rfl,rfl⟩
 have d4:(w.net.now != w.now)=false:=by simpa using t4
 simp (disch:=first|decide|omega) only[hA,d4,go_sem]
 refine QA.nxt (cT _ _) ?_
 cases t5:fD w.tr
 ·simp (disch:=first|decide|omega) only[hA,go_sem]
  exact ZA (xs:=[.v (.bool false)]) ⟨by unfold wdB;rw[t1,t2,t3,ae t4,t5];rfl,rfl,rfl⟩
 by_cases t6:w.tr.length=w.sv.length
 case neg =>
  have d6:((w.tr.length:Int) != (w.sv.length:Int))=true:=by simp;omega
  simp (disch:=first|decide|omega) only[hA,d6,aa,go_sem]
  exact ZA (xs:=[.v (.bool false)]) ⟨by unfold wdB;rw[t1,t2,t3,ae t4,t5,ag t6];rfl,rfl,rfl⟩
 have d6:((w.tr.length:Int) != (w.sv.length:Int))=false:=by simp;omega
 have hvk:=vok t5
 have hS:=hvk.small
 have h64:∀x∈w.tr,x.evs.length≤64:=fun x hx=>by
  obtain⟨p,hp,rfl⟩:=cn hx
  have hh:=hvk.head p hp
  unfold SC at hh
  rw[QB dfPr w.tr hp]at hh
  split at hh
  ·cases hh
  split at hh
  ·cases hh
  split at hh
  ·rename_i hc;exact absurd hh hc
  split at hh
  ·cases hh
  ·omega
 have h8:∀p (h:p<w.sv.length),w.sv[p].vars.length≤8:=fun p hp=>by
  unfold bF at t1
  rw[au,bg]at t1
  have:=t1.2 p (ba.2 hp)
  unfold svB sv1 at this
  rw[YA hp]at this
  simp only[au,bc]at this
  exact this.1.2.2.1
 have FL:=wX h64
 have ZK1:=hvk.hi
 simp (disch:=first|decide|omega) only[hA,d6,aa,go_sem]
 refine JA (ι:=Nat) nU (fun p=>[(3,.v (.int .i64 (cSd w.tr p))),(52,.v (.int .i64 p))]) 1 (fun _=>[.live 0 9 [(eWd w).map .v]])
  (fun p=>p≤w.tr.length∧∀j,j<p→prB w j=true) (fun p=>w.tr.length-p) 0 ⟨aj _,fun j hj=>by omega⟩ kM kA kF ?_
 rintro g1 UG mF rA p ⟨hp,h0⟩
 have iQ:(eWd w).map AV.v=(zWA w):=rfl
 rw[iQ]
 by_cases yA:p<w.tr.length
 case neg =>
  obtain rfl:p=w.tr.length:=by omega
  have JF:(List.range w.tr.length).all (prB w)=true:=bg.2 fun j hj=>h0 j (ba.1 hj)
  have hr:wdB w=(decide ((cSd w.tr w.tr.length:Int)=w.sent)&&w.net.l.all (mgB w.tr)):=by
   unfold wdB;rw[t1,t2,t3,ae t4,t5,ae t6,JF];rfl
  rw[hr]
  by_cases t7:(cSd w.tr w.tr.length:Int)=w.sent
  case neg =>
   have d7:((cSd w.tr w.tr.length:Int)==w.sent)=false:=by simpa using t7
   simp (disch:=first|decide|omega) only[hA,rA,d7,aa,go_sem]
   exact ZA (xs:=[.v (.bool false)]) ⟨by rw[ag t7];rfl,rfl,rfl⟩
  have d7:((cSd w.tr w.tr.length:Int)==w.sent)=true:=by simpa using t7
  have cC:=YD KS US (w.net.l.map eMs) 68 [.ptr B.length 0 0 0] (fun j=>!mgB w.tr (w.net.l.getD j dfMs)) (fun row h=>by obtain⟨m,_,rfl⟩:=cq.1 h;rfl) (by rw[aa];exact EY.l) B [.live 0 9 [(eWd w).map .v]] (fun j row hj=>by
   have rG:j<w.net.l.length:=by have:=(ak.1 hj).1;rwa [aa]at this
   rw[an,ah rG]at hj
   cases hj
   simp only[YA rG]
   exact aV w hS hN _ (EY.body _ (am rG)) B.length _ _ (by rw[PC,db,ar (ai _),eh];rfl))
  rw[aa,sG (p:=fun m=>!mgB w.tr m),yF,iQ]at cC
  simp (disch:=first|decide|omega) only[hA,rA,d7,aa,go_sem]
  refine QA.nxt cC ?_
  simp (disch:=first|decide|omega) only[hA,rA,kc,go_sem]
  exact ZA (xs:=[.v (.bool (w.net.l.all (mgB w.tr)))]) ⟨by rw[ae t7];rfl,rfl,rfl⟩
 have hps:p<w.sv.length:=by omega
 obtain⟨x,hx⟩:∃x,w.tr[p]=x:=⟨_,rfl⟩
 have BI:=wI yA
 rw[hx]at BI
 have hxe:iA w.tr p=x.evs:=by rw[aE yA,hx]
 have ZLi:=h64 x (by rw[←hx];exact am yA)
 have cP:=fun b l=>Q2 w t5 hS hN qN p yA hps (h8 p hps) b l
 rw[iQ]at cP
 have hpr:prB w p=(QI w.tr[p] w.sv[p] w.now&&(List.range x.evs.length).all (sOk x.evs w.sent)):=by unfold prB;rw[YA yA,YA hps,hxe]
 have bad:prB w p=false→AV.v (.bool (wdB w))=.v (.bool false):=fun h=>by rw[ZDf yA h]
 have hcp:=FL p hp
 simp (disch:=first|decide|omega) only[hA,rA,BI,aa,go_sem]
 refine QA.nxt (cP _ _) ?_
 cases t7:QI w.tr[p] w.sv[p] w.now
 ·simp (disch:=first|decide|omega) only[hA,rA,go_sem]
  exact ZA (xs:=[.v (.bool false)]) ⟨by rw[bad (by rw[hpr,t7];rfl)];rfl,rfl,rfl⟩
 simp (disch:=first|decide|omega) only[hA,rA,aa,go_sem]
 refine JA (ι:=Nat) fO (fun i=>[(3,.v (.int .i64 ((cSd w.tr p+nSd x.evs i:Nat):Int))),(64,.v (.int .i64 i))]) 2 (fun _=>[.live 0 9 [(eWd w).map .v],XK x])
  (fun i=>i≤x.evs.length∧∀j,j<i→sOk x.evs w.sent j=true) (fun i=>x.evs.length-i) 0 ⟨aj _,fun j hj=>by omega⟩ kM kA kF ?_
 rintro g2 AJ OP VE i ⟨hi,h02⟩
 rw[iQ]
 unfold XK
 by_cases hli:i<x.evs.length
 ·have xH:=AG hli
  have kJ:x.evs.getD i lI=x.evs[i]:=YA hli
  have hns:=vX x.evs i
  have hcn:((cSd w.tr p+nSd x.evs i:Nat):Int)+1=((cSd w.tr p+(nSd x.evs i+1):Nat):Int):=by omega
  by_cases hk:x.evs[i].kind=2
  ·have dk:(x.evs[i].kind != 2)=false:=by rw[hk];rfl
   have hn1:nSd x.evs (i+1)=nSd x.evs i+1:=by simp only[nSd];rw[kJ,if_pos hk]
   by_cases hm:x.evs[i].msg<w.sent
   ·have dm:decide (x.evs[i].msg≥w.sent)=false:=ag oM
    have dm':decide (w.sent≤x.evs[i].msg)=false:=dm
    simp (disch:=first|decide|omega) only[hA,rA,VE,xH,dk,dm,dm',hcn,aa,go_sem]
    refine⟨i+1,⟨hli,fun j hj=>?_⟩,by simp only;omega,?_⟩
    ·rcases bj j i with JG|JG
     ·exact h02 j JG
     ·obtain rfl:j=i:=by omega
      unfold sOk;rw[kJ,ae hm];simp
    ·simp only[hn1,iQ]
     exact KA.kround (p:=fO) (k:=2) kQ kA rfl AJ kS kV hR kL
   ·have dm:decide (x.evs[i].msg≥w.sent)=true:=ae oM
    have dm':decide (w.sent≤x.evs[i].msg)=true:=dm
    simp (disch:=first|decide|omega) only[hA,rA,VE,xH,dk,dm,dm',aa,go_sem]
    exact ZA (xs:=[.v (.bool false)]) ⟨by rw[bad (by rw[hpr,show (List.range x.evs.length).all (sOk x.evs w.sent)=false from ew.2 ⟨i,ba.2 hli,by unfold sOk;rw[kJ,hk,ag hm];simp⟩,Bool.and_false])];rfl,rfl,rfl⟩
  ·have dk:(x.evs[i].kind != 2)=true:=by simpa using hk
   have dk2:(x.evs[i].kind==2)=false:=by simpa using hk
   have hn1:nSd x.evs (i+1)=nSd x.evs i:=by simp only[nSd];rw[kJ,if_neg hk]
   simp (disch:=first|decide|omega) only[hA,rA,VE,xH,dk,aa,go_sem]
   refine⟨i+1,⟨hli,fun j hj=>?_⟩,by simp only;omega,?_⟩
   ·rcases bj j i with JG|JG
    ·exact h02 j JG
    ·obtain rfl:j=i:=by omega
     unfold sOk;rw[kJ,dk2];rfl
   ·simp only[hn1,iQ]
    exact KA.kround (p:=fO) (k:=2) kQ kA rfl AJ kS kV hR kL
 ·obtain rfl:i=x.evs.length:=by omega
  have SL:prB w p=true:=by rw[hpr,t7,bg.2 fun j hj=>h02 j (ba.1 hj)];rfl
  have fX:cSd w.tr (p+1)=cSd w.tr p+nSd x.evs x.evs.length:=by simp only[cSd];rw[hxe]
  simp (disch:=first|decide|omega) only[hA,rA,VE,aa,go_sem]
  refine⟨p+1,⟨yA,fun j hj=>?_⟩,by simp only;omega,?_⟩
  ·rcases bj j p with JG|JG
   ·exact h0 j JG
   ·obtain rfl:j=p:=by omega
    exact SL
  ·simp only[iQ,fX]
   exact KA.kround (p:=nU) (k:=1) kQ kA rfl UG kS kV hR kL
end Go.Proofs.YtmaokjojbjdpoaaGreatDoor
