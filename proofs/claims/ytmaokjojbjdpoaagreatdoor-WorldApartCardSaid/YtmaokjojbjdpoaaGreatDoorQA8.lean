/- Texts of one proof, laid together: RR, RS, RT, RX, RY, RZ, R0, R1, PA, PE, PD, PK. No condition. -/
import Derived.Test.YtmaokjojbjdpoaaGreatDoorQA5
import Derived.Test.YtmaokjojbjdpoaaGreatDoorQA2
import Derived.Test.YtmaokjojbjdpoaaGreatDoorQA4
import Derived.Test.YtmaokjojbjdpoaaGreatDoorQA6
import Derived.Test.YtmaokjojbjdpoaaGreatDoorQA7
import Derived.Test.YtmaokjojbjdpoaaGreatDoorProg
set_option linter.unusedSimpArgs false
set_option maxHeartbeats 16000000
set_option maxRecDepth 20000
namespace Go.Proofs.YtmaokjojbjdpoaaGreatDoor
set_option maxHeartbeats 16000000
set_option maxRecDepth 100000
set_option linter.unusedVariables false
set_option linter.unusedSimpArgs false
attribute [local go_sem ↓] vC YB kC xC zD lB yC qD wC dD SA mB jC RA pB qC CA aB nC JB TA uC fB eB zB bB qB OB sB jD iC vD yD nE iD pE mE GB LB
attribute [local go_sem] VB MA CD jB EA sE xD gD wD GK IK uD dC rC sC CC nA QC FA ZC LA UB aop SE LD aD IC GD eC ID fJ SF dF amm AE fC IB qF bD rF comma LC DF lJ IF GF XJ zF VF UE ZJ eqC eqF tG cellsOf xB YC CB UF mI rd rdI fE mk tD AV.cell List.all_cons List.all_nil Bool.and_true Bool.true_and Bool.and_self List.length_cons List.length_nil List.length_append Nat.reduceAdd Nat.reduceSub Nat.reduceMul Nat.zero_add Nat.add_zero List.cons_append List.nil_append List.append_assoc List.append_nil List.getElem?_cons_zero List.getElem?_cons_succ List.getElem?_nil List.set_cons_zero List.set_cons_succ List.drop_zero List.drop_succ_cons List.take_zero List.take_succ_cons List.take_nil List.drop_nil List.map_cons List.map_nil Option.map_some if_true if_false Bool.false_eq_true and_self true_and and_true Nat.reduceLeDiff Nat.reduceLT Nat.le_refl Nat.reduceEqDiff ite_true ite_false beq_self_eq_true beq_true beq_false Bool.not_true Bool.not_false Bool.true_beq Bool.false_beq rE MB wB JD KD zC KC UC VC UD VD dE dA eK YK bK fK kG vG wG yG geI gtI gG decide_true decide_false room List.getElem?_map List.length_map List.length_take Int.toNat_natCast Nat.min_def Nat.min_self kD EC DD tB lD EF zA List.getElem_cons_zero List.getElem_cons_succ
def a_rHead:AFunc:=({c:=_}:CF Tryz.prog 149).c
theorem G5:jA Tryz.prog 149=some a_rHead:=by kernel_rfl
def xZ:List (Nat×Nat):=[(4,4),(6,6),(18,31)]
def gZ:List (Nat×Nat):=[(4,4),(7,8),(36,76)]
def wZ:List (Nat×Nat):=[(4,4),(8,8),(51,68)]
def a_rVal12:AFunc:=({c:=_}:CF Tryz.prog 177).c
theorem eY:jA Tryz.prog 177=some a_rVal12:=by kernel_rfl

theorem CO {α:Type} {f:α→Bool} {l:List α} {k:Nat} (hk:k<l.length) (h:(l.take k).any f=false) (h2:f l[k]=false):(l.take (k+1)).any f=false:=by
 rw[jc hk,lp,h];simp[h2]
theorem MS {α:Type} {f:α→Bool} {l:List α} {k n:Nat} (hk:k<l.length) (hkn:k<n) (h2:f l[k]=true):(l.take n).any f=true:=by
 rw[fe]
 exact⟨l[k],lf.2 ⟨k,by omega,rfl⟩,h2⟩
theorem iG {t:Tr} {p:Nat} (hp:p<t.length):(t.map ePr)[p]? = some [.str t[p].name,.isl 2 (t[p].vars.map eVr),.isl 5 (t[p].evs.map eEv)]:=by
 rw[an,ah hp];rfl
theorem P8 {l:List Vr} {i:Nat} (h:i<l.length):(l.map eVr)[i]? = some [.str l[i].name,.int .i64 l[i].init]:=by
 rw[an,ah h];rfl
theorem KJ (n:Int) (b l:List Row):QA Tryz.prog 177 [.v (.int .i64 n)] b l (fun r b' l'=>r=.v (.bool (lK n))∧b'=b∧l'=l):=by
 refine XA eY rfl kE ?_
 intro B g hB hR hE hA;simp only[zA]at hA
 cases h1:decide (n≥-1073741824)
 ·simp (disch:=first|decide|omega) only[a_rVal12,hA,h1,go_sem]
  exact ZA (xs:=[.v (.bool false)]) ⟨by unfold lK;rw[show decide (-1073741824≤n)=false from h1];rfl,rfl,rfl⟩
 ·simp (disch:=first|decide|omega) only[a_rVal12,hA,h1,go_sem]
  exact ZA (xs:=[.v (.bool (decide (n≤1073741824)))]) ⟨by unfold lK;rw[show decide (-1073741824≤n)=true from h1];rfl,rfl,rfl⟩
abbrev zTA (x:Tr):Row:=.live 0 1 [[.v (.isl 3 (x.map ePr))]]
theorem V3 (t:Tr) (hS:Sm t) (hN:Nm t) (p:Nat) (hp:p<t.length) (b l:List Row):QA Tryz.prog 149 [.agg [.v (eT t)],.v (.int .i64 p)] b l (fun r b' l'=>r=.v (.int .i64 (SC t p))∧b'=b∧l'=l):=by
 refine XA G5 rfl kE ?_
 intro B g hB hR hE hA;simp only[zA]at hA
 have N7:=hS.np
 have hnv:=hS.nv _ (am hp)
 have VG:=hS.ne _ (am hp)
 have hm:=hN _ (am hp)
 have HE:=UA (XM t p hp)
 have BI:=iG hp
 cases hn:nD t[p].name
 ·simp (disch:=first|decide|omega) only[a_rHead,hA,eT,BI,go_sem]
  refine QA.nxt (rI _ hm.1 _ _) ?_
  rw[hn]
  simp (disch:=first|decide|omega) only[hA,go_sem]
  exact ZA (xs:=[.v (.int .i64 13)]) ⟨by rw[HE.out,hn];rfl,rfl,rfl⟩
 simp (disch:=first|decide|omega) only[a_rHead,hA,eT,BI,go_sem]
 refine QA.nxt (rI _ hm.1 _ _) ?_
 rw[hn]
 simp (disch:=first|decide|omega) only[hA,go_sem]
 refine JA (ι:=Nat) xZ (fun i=>[(6,.v (.int .i64 i))]) 2 (fun _=>[(zTA t),.live 0 3 [[.v (.str t[p].name),.v (.isl 2 (t[p].vars.map eVr)),.v (.isl 5 (t[p].evs.map eEv))]]])
  (fun i=>i≤p∧((t.take i).any fun y=>y.name.toList==t[p].name.toList)=false) (fun i=>p-i) 0 ⟨aj _,rfl⟩ kM kA kF ?_
 intro g1 UG mF rA i ⟨hi,hany⟩
 by_cases yA:i<p
 ·have CI:=iG (t:=t) (p:=i) oM
  cases heq:t[i].name==t[p].name
  ·simp (disch:=first|decide|omega) only[hA,rA,CI,heq,go_sem]
   refine⟨i+1,⟨yA,CO oM hany (by rw[←beq_toListBytes];exact heq)⟩,by simp only;omega,?_⟩
   exact KA.kround (p:=xZ) (k:=2) kQ kA rfl UG kS kV hR kL
  ·have HA:=MS (f:=fun y:Pr=>y.name.toList==t[p].name.toList) (n:=p) (show i<t.length by omega) yA (by rw[←beq_toListBytes];exact heq)
   simp (disch:=first|decide|omega) only[hA,rA,CI,heq,go_sem]
   exact ZA (xs:=[.v (.int .i64 13)]) ⟨by rw[HE.out,hn];exact congrArg (fun n:Nat=>AV.v (.int .i64 n)) (if_pos (by rw[ge];exact .inr HA)).symm,rfl,rfl⟩
 obtain rfl:i=p:=by omega
 have HY:=UA hany
 by_cases h8:8<t[i].vars.length
 ·have d8:decide ((t[i].vars.length:Int)>8)=true:=ae oM
  simp (disch:=first|decide|omega) only[hA,rA,d8,go_sem]
  exact ZA (xs:=[.v (.int .i64 5)]) ⟨by rw[HE.out,hn,HY.out,if_neg kE,if_pos h8];rfl,rfl,rfl⟩
 have d8:decide ((t[i].vars.length:Int)>8)=false:=ag oM
 simp (disch:=first|decide|omega) only[hA,rA,d8,go_sem]
 refine JA (ι:=Nat) gZ (fun j=>[(7,.v (.int .i64 j))]) 2 (fun _=>[(zTA t),.live 0 3 [[.v (.str t[i].name),.v (.isl 2 (t[i].vars.map eVr)),.v (.isl 5 (t[i].evs.map eEv))]]])
  (fun j=>j≤t[i].vars.length∧uB (aM t[i].vars) j=0) (fun j=>t[i].vars.length-j) 0 ⟨aj _,rfl⟩ kM kA kF ?_
 intro g2 AJ OP VE j ⟨hj,hz⟩
 have HZ:=UA hz
 by_cases mK:j<t[i].vars.length
 ·have hgj:=P8 mK
  have hmv:=hm.2 _ (am mK)
  have HV:=UA (C7 t[i].vars j mK)
  have c13:aM t[i].vars j=13→SC t i=13:=fun h=>by
   rw[HE.out,hn,HY.out,if_neg kE,if_neg h8,aC (n:=t[i].vars.length) HZ.out (by rw[h];decide) mK,h];rfl
  cases hn2:nD t[i].vars[j].name
  ·have k13:=c13 (by rw[HV.out,hn2];rfl)
   simp (disch:=first|decide|omega) only[hA,rA,VE,hgj,aa,go_sem]
   refine QA.nxt (rI _ hmv _ _) ?_
   rw[hn2]
   simp (disch:=first|decide|omega) only[hA,rA,VE,go_sem]
   exact ZA (xs:=[.v (.int .i64 13)]) ⟨by rw[k13];rfl,rfl,rfl⟩
  simp (disch:=first|decide|omega) only[hA,rA,VE,hgj,aa,go_sem]
  refine QA.nxt (rI _ hmv _ _) ?_
  rw[hn2]
  simp (disch:=first|decide|omega) only[hA,rA,VE,go_sem]
  refine JA (ι:=Nat) wZ (fun q=>[(8,.v (.int .i64 q))]) 2 (fun _=>[(zTA t),.live 0 3 [[.v (.str t[i].name),.v (.isl 2 (t[i].vars.map eVr)),.v (.isl 5 (t[i].evs.map eEv))]]])
   (fun q=>q≤j∧((t[i].vars.take q).any fun y=>y.name.toList==t[i].vars[j].name.toList)=false) (fun q=>j-q) 0 ⟨aj _,rfl⟩ kM kA kF ?_
  intro g3 FY UU dH q ⟨hq,hany2⟩
  by_cases hlq:q<j
  ·have hgq:=P8 (l:=t[i].vars) (i:=q) oM
   cases heq:t[i].vars[q].name==t[i].vars[j].name
   ·simp (disch:=first|decide|omega) only[hA,rA,VE,dH,hgj,hgq,heq,go_sem]
    refine⟨q+1,⟨hlq,CO oM hany2 (by rw[←beq_toListBytes];exact heq)⟩,by simp only;omega,?_⟩
    exact KA.kround (p:=wZ) (k:=2) kQ kA rfl FY kS kV hR kL
   ·have k13:=c13 (by rw[HV.out,hn2,MS (f:=fun y:Vr=>y.name.toList==t[i].vars[j].name.toList) (n:=j) (show q<t[i].vars.length by omega) hlq (by rw[←beq_toListBytes];exact heq)];rfl)
    simp (disch:=first|decide|omega) only[hA,rA,VE,dH,hgj,hgq,heq,go_sem]
    exact ZA (xs:=[.v (.int .i64 13)]) ⟨by rw[k13];rfl,rfl,rfl⟩
  obtain rfl:q=j:=by omega
  cases hv2:lK t[i].vars[q].init
  ·have k2:SC t i=2:=by
    have h:aM t[i].vars q=2:=by rw[HV.out,hn2,hany2,hv2];rfl
    rw[HE.out,hn,HY.out,if_neg kE,if_neg h8,aC (n:=t[i].vars.length) HZ.out (by rw[h];decide) mK,h];rfl
   simp (disch:=first|decide|omega) only[hA,rA,VE,dH,hgj,go_sem]
   refine QA.nxt (KJ _ _ _) ?_
   rw[hv2]
   simp (disch:=first|decide|omega) only[hA,rA,VE,dH,go_sem]
   exact ZA (xs:=[.v (.int .i64 2)]) ⟨by rw[k2];rfl,rfl,rfl⟩
  ·have k0:aM t[i].vars q=0:=by rw[HV.out,hn2,hany2,hv2];rfl
   simp (disch:=first|decide|omega) only[hA,rA,VE,dH,hgj,go_sem]
   refine QA.nxt (KJ _ _ _) ?_
   rw[hv2]
   simp (disch:=first|decide|omega) only[hA,rA,VE,dH,go_sem]
   refine⟨q+1,⟨mK,IG HZ.out k0⟩,by simp only;omega,?_⟩
   exact KA.kround (p:=gZ) (k:=2) kQ kA rfl AJ kS kV hR kL
 obtain rfl:j=t[i].vars.length:=by omega
 by_cases h64:64<t[i].evs.length
 ·have d64:decide ((t[i].evs.length:Int)>64)=true:=ae oM
  simp (disch:=first|decide|omega) only[hA,rA,VE,d64,go_sem]
  exact ZA (xs:=[.v (.int .i64 5)]) ⟨by rw[HE.out,hn,HY.out,if_neg kE,if_neg h8,if_neg (by rw[HZ.out];decide),if_pos h64];rfl,rfl,rfl⟩
 have d64:decide ((t[i].evs.length:Int)>64)=false:=ag oM
 simp (disch:=first|decide|omega) only[hA,rA,VE,d64,go_sem]
 exact ZA (xs:=[.v (.int .i64 0)]) ⟨by rw[HE.out,hn,HY.out,if_neg kE,if_neg h8,if_neg (by rw[HZ.out];decide),if_neg h64];rfl,rfl,rfl⟩
def a_rForm:AFunc:=({c:=_}:CF Tryz.prog 150).c
theorem H5:jA Tryz.prog 150=some a_rForm:=by kernel_rfl
def iZ:List (Nat×Nat):=[(6,6),(8,10),(100,146)]
def uZ:List (Nat×Nat):=[(6,6),(10,10),(133,146)]

theorem TK {l:List Ev} {i:Nat} (h:i<l.length):(l.map eEv)[i]? = some [.int .i64 l[i].kind,.int .i64 l[i].peer,.int .i64 l[i].msg,.int .i64 l[i].time,.isl 2 (l[i].asg.map uL)]:=by
 rw[an,ah h];rfl
theorem nZ {l:List Asg} {i:Nat} (h:i<l.length):(l.map uL)[i]? = some [.int .i64 l[i].v,.int .i64 l[i].val]:=by
 rw[an,ah h];rfl
abbrev zEA (x:Ev):List AV:=[.v (.int .i64 x.kind),.v (.int .i64 x.peer),.v (.int .i64 x.msg),.v (.int .i64 x.time),.v (.isl 2 (x.asg.map uL))]
theorem U3 (t:Tr) (hS:Small t) (p i:Nat) (hp:p<t.length) (hi:i<t[p].evs.length) (b l:List Row):QA Tryz.prog 150 [.agg [.v (eT t)],.v (.int .i64 p),.v (.int .i64 i)] b l (fun r b' l'=>r=.v (.int .i64 (lC t (p,i+1)))∧b'=b∧l'=l):=by
 refine XA H5 rfl kE ?_
 intro B g hB hR hE hA;simp only[zA]at hA
 have N7:=hS.np
 have hnv:=hS.nv _ (am hp)
 have VG:=hS.ne _ (am hp)
 have hna:=hS.na _ (am hp) _ (am hi)
 have HFE:=UA (ZAg t p i hp hi)
 have BI:=iG hp
 have xH:=TK hi
 rcases form_ways t.length p t[p].evs[i] with ⟨hf,hw⟩|⟨hf,hw⟩
 ·have HF:lC t (p,i+1)=3:=by rw[HFE.out _ rfl,hf];rfl
  rcases hw with ⟨b0,b1⟩|⟨b0,b1,b2⟩|⟨b0,b1,b2⟩|⟨b0,b1,b2⟩|⟨b0,b1,b2,b3⟩|⟨b0,b1,b2,b3⟩|⟨b0,b1,b2,b3,b4⟩|⟨b0,b1,b2,b3,b4⟩|⟨b0,b1,b2,b3,b4,b5⟩|⟨b0,b1,b2,b3,b4,b5⟩|⟨b0,b1,b2,b3,b4,b5,b6⟩|⟨b0,b1,b2,b3,b4,b5,b6⟩|⟨b0,b1,b2,b3,b4,b5,b6,b7⟩
  all_goals first|(have q:=b2;clear q)|have b2:=trivial
  all_goals first|(have q:=b3;clear q)|have b3:=trivial
  all_goals first|(have q:=b4;clear q)|have b4:=trivial
  all_goals first|(have q:=b5;clear q)|have b5:=trivial
  all_goals first|(have q:=b6;clear q)|have b6:=trivial
  all_goals first|(have q:=b7;clear q)|have b7:=trivial
  all_goals
   simp (disch:=first|decide|omega) only[a_rForm,hA,eT,BI,xH,ge_iff_le,gt_iff_lt,b0,b1,b2,b3,b4,b5,b6,b7,go_sem]
   exact ZA (xs:=[.v (.int .i64 3)]) ⟨by rw[HF];rfl,rfl,rfl⟩
 have hL:(i=0∧AH t (p,i+1)=0)∨∃(j:Nat) (hj:j<t[p].evs.length),i=j+1∧AH t (p,i+1)=t[p].evs[j].time:=by
  rcases i with _|j
  ·exact .inl ⟨rfl,J4 t p⟩
  ·exact .inr ⟨j,by omega,rfl,ZA6 t p j hp oM⟩
 have hF:=fun L hL=>HFE.out L hL
 rw[hf]at hF
 have HF:=UA hF
 generalize hee:t[p].evs[i]=e at *
 have HEE:=UA hee
 clear hee hf hF
 rcases hw with ⟨b0,b1,b2⟩|⟨b0,b1,b2,b3,b4,b5,b6⟩|⟨b0,b1,b2,b3,b4,b5,b6,b7⟩
 all_goals first|(have q:=b3;clear q)|have b3:=trivial
 all_goals first|(have q:=b4;clear q)|have b4:=trivial
 all_goals first|(have q:=b5;clear q)|have b5:=trivial
 all_goals first|(have q:=b6;clear q)|have b6:=trivial
 all_goals first|(have q:=b7;clear q)|have b7:=trivial
 all_goals
  cases dtl:decide (e.time<0)
  rotate_left
  ·simp (disch:=first|decide|omega) only[a_rForm,hA,eT,BI,xH,ge_iff_le,gt_iff_lt,b0,b1,b2,b3,b4,b5,b6,b7,dtl,go_sem]
   exact ZA (xs:=[.v (.int .i64 11)]) ⟨by rw[HF.out _ rfl,TN,dtl];rfl,rfl,rfl⟩
  cases dtg:decide (1099511627776<e.time)
  rotate_left
  ·simp (disch:=first|decide|omega) only[a_rForm,hA,eT,BI,xH,ge_iff_le,gt_iff_lt,b0,b1,b2,b3,b4,b5,b6,b7,dtl,dtg,go_sem]
   exact ZA (xs:=[.v (.int .i64 11)]) ⟨by rw[HF.out _ rfl,TN,dtl,dtg];rfl,rfl,rfl⟩
  have hG:∀L,AH t (p,i+1)=L→decide (e.time<L)=false→lC t (p,i+1)=if 8<e.asg.length then 5 else uB (YJ t[p].vars.length e.asg) e.asg.length:=fun L h1 h2=>by
   rw[HF.out _ h1,TN,dtl,dtg,h2];rfl
  have HH:lC t (p,i+1)=(if 8<e.asg.length then 5 else uB (YJ t[p].vars.length e.asg) e.asg.length)∧((i=0)∨∃(j:Nat) (hj:j<t[p].evs.length),i=j+1∧decide (e.time<t[p].evs[j].time)=false)∨(lC t (p,i+1)=11∧∃(j:Nat) (hj:j<t[p].evs.length),i=j+1∧decide (e.time<t[p].evs[j].time)=true):=by
   rcases hL with ⟨h0,hl0⟩|⟨j,hj,h0,hl0⟩
   ·exact .inl ⟨hG _ hl0 (ag (by have:=gu dtl;omega)),.inl h0⟩
   ·cases dtp:decide (e.time<t[p].evs[j].time)
    ·exact .inl ⟨hG _ hl0 dtp,.inr ⟨j,hj,h0,dtp⟩⟩
    ·exact .inr ⟨by rw[HF.out _ hl0,TN,dtl,dtg,dtp];rfl,j,hj,h0,dtp⟩
  clear hG hL
  rcases HH with ⟨hF,hw⟩|⟨hF,j,hj,uQ,dtp⟩
  rotate_left
  ·subst uQ
   have hgj:=TK hj
   have hj0:decide ((0:Int)<((j+1:Nat):Int))=true:=ae oM
   have hjm:IntKind.i64.wrap (((j+1:Nat):Int)-1)=(j:Int):=by rw[dA oM oM];omega
   simp (disch:=first|decide|omega) only[a_rForm,hA,eT,BI,xH,hgj,hj0,hjm,dtp,ge_iff_le,gt_iff_lt,b0,b1,b2,b3,b4,b5,b6,b7,dtl,dtg,go_sem]
   exact ZA (xs:=[.v (.int .i64 11)]) ⟨by rw[hF];rfl,rfl,rfl⟩
  have hw:(decide ((0:Int)<(i:Int))=false)∨∃(j:Nat) (hj:j<t[p].evs.length),decide ((0:Int)<(i:Int))=true∧IntKind.i64.wrap ((i:Int)-1)=(j:Int)∧decide (e.time<t[p].evs[j].time)=false:=by
   rcases hw with h0|⟨j,hj,h0,dtp⟩
   ·exact .inl (ag oM)
   ·exact .inr ⟨j,hj,ae oM,by rw[dA oM oM];omega,dtp⟩
  rcases hw with hj0|⟨j,hj,hj0,hjm,dtp⟩
  all_goals first|have hgj:=TK hj|have hgj:=trivial
  all_goals first|(have q:=hjm;clear q)|have hjm:=trivial
  all_goals first|(have q:=dtp;clear q)|have dtp:=trivial
  all_goals
   by_cases h8:8<e.asg.length
   ·have d8:decide (8<(e.asg.length:Int))=true:=ae oM
    simp (disch:=first|decide|omega) only[a_rForm,hA,eT,BI,xH,hgj,hj0,hjm,dtp,ge_iff_le,gt_iff_lt,b0,b1,b2,b3,b4,b5,b6,b7,dtl,dtg,d8,go_sem]
    exact ZA (xs:=[.v (.int .i64 5)]) ⟨by rw[hF,if_pos h8];rfl,rfl,rfl⟩
   have d8:decide (8<(e.asg.length:Int))=false:=ag oM
   rw[if_neg h8]at hF
   have HR:=UA hF
   simp (disch:=first|decide|omega) only[a_rForm,hA,eT,BI,xH,hgj,hj0,hjm,dtp,ge_iff_le,gt_iff_lt,b0,b1,b2,b3,b4,b5,b6,b7,dtl,dtg,d8,go_sem]
   refine JA (ι:=Nat) iZ (fun k=>[(8,.v (.int .i64 k))]) 2 (fun _=>[(zTA t),.live 0 5 [(zEA e)]])
    (fun k=>k≤e.asg.length∧uB (YJ t[p].vars.length e.asg) k=0) (fun k=>e.asg.length-k) 0 ⟨aj _,rfl⟩ kM kA kF ?_
   intro g1 UG mF rA k ⟨hk,hz⟩
   have HZ:=UA hz
   by_cases yA:k<e.asg.length
   ·have hga:=nZ yA
    have HV:=UA (MW t[p].vars.length e.asg k yA)
    have hFk:∀c,YJ t[p].vars.length e.asg k=c→c≠0→lC t (p,i+1)=c:=fun c h h0=>by
     rw[HR.out,aC (n:=e.asg.length) HZ.out (by rw[h];exact h0) yA,h]
    cases dvl:decide (e.asg[k].v<0)
    rotate_left
    ·have HF2:=hFk 2 (by rw[HV.out,VO,dvl];rfl) kE
     simp (disch:=first|decide|omega) only[hA,rA,BI,hga,ge_iff_le,gt_iff_lt,dvl,go_sem]
     exact ZA (xs:=[.v (.int .i64 2)]) ⟨by rw[HF2];rfl,rfl,rfl⟩
    cases dvg:decide ((t[p].vars.length:Int)≤e.asg[k].v)
    rotate_left
    ·have HF2:=hFk 2 (by rw[HV.out,VO,dvl,dvg];rfl) kE
     simp (disch:=first|decide|omega) only[hA,rA,BI,hga,ge_iff_le,gt_iff_lt,dvl,dvg,go_sem]
     exact ZA (xs:=[.v (.int .i64 2)]) ⟨by rw[HF2];rfl,rfl,rfl⟩
    cases dvv:lK e.asg[k].val
    ·have HF2:=hFk 2 (by rw[HV.out,VO,dvl,dvg,dvv];rfl) kE
     simp (disch:=first|decide|omega) only[hA,rA,BI,hga,ge_iff_le,gt_iff_lt,dvl,dvg,go_sem]
     refine QA.nxt (KJ _ _ _) ?_
     rw[dvv]
     simp (disch:=first|decide|omega) only[hA,rA,BI,hga,ge_iff_le,gt_iff_lt,dvl,dvg,go_sem]
     exact ZA (xs:=[.v (.int .i64 2)]) ⟨by rw[HF2];rfl,rfl,rfl⟩
    simp (disch:=first|decide|omega) only[hA,rA,BI,hga,ge_iff_le,gt_iff_lt,dvl,dvg,go_sem]
    refine QA.nxt (KJ _ _ _) ?_
    rw[dvv]
    simp (disch:=first|decide|omega) only[hA,rA,BI,hga,ge_iff_le,gt_iff_lt,dvl,dvg,go_sem]
    refine JA (ι:=Nat) uZ (fun q=>[(10,.v (.int .i64 q))]) 3 (fun _=>[(zTA t),.live 0 5 [(zEA e)],.live 0 2 [[.v (.int .i64 e.asg[k].v),.v (.int .i64 e.asg[k].val)]]])
     (fun q=>q≤k∧((e.asg.take q).any fun b=>b.v==e.asg[k].v)=false) (fun q=>k-q) 0 ⟨aj _,rfl⟩ kM kA kF ?_
    intro g2 AJ OP VE q ⟨hq,hany⟩
    by_cases hlq:q<k
    ·have hgq:=nZ (l:=e.asg) (i:=q) oM
     cases heq:e.asg[q].v==e.asg[k].v
     ·simp (disch:=first|decide|omega) only[hA,rA,VE,hgq,heq,go_sem]
      refine⟨q+1,⟨hlq,CO oM hany heq⟩,by simp only;omega,?_⟩
      exact KA.kround (p:=uZ) (k:=3) kQ kA rfl AJ kS kV hR kL
     ·have HF8:=hFk 8 (by rw[HV.out,VO,dvl,dvg,dvv,MS (f:=fun b:Asg=>b.v==e.asg[k].v) (n:=k) oM hlq heq];rfl) kE
      simp (disch:=first|decide|omega) only[hA,rA,VE,hgq,heq,go_sem]
      exact ZA (xs:=[.v (.int .i64 8)]) ⟨by rw[HF8];rfl,rfl,rfl⟩
    obtain rfl:q=k:=by omega
    have HF0:YJ t[p].vars.length e.asg q=0:=by rw[HV.out,VO,dvl,dvg,dvv,hany];rfl
    simp (disch:=first|decide|omega) only[hA,rA,VE,go_sem]
    refine⟨q+1,⟨yA,IG HZ.out HF0⟩,by simp only;omega,?_⟩
    exact KA.kround (p:=iZ) (k:=2) kQ kA rfl UG kS kV hR kL
   obtain rfl:k=e.asg.length:=by omega
   simp (disch:=first|decide|omega) only[hA,rA,aa,go_sem]
   exact ZA (xs:=[.v (.int .i64 0)]) ⟨by rw[HR.out,HZ.out];rfl,rfl,rfl⟩
def a_rFind:AFunc:=({c:=_}:CF Tryz.prog 56).c
theorem I5:jA Tryz.prog 56=some a_rFind:=by kernel_rfl
def dZ:List (Nat×Nat):=[(7,50)]
def uS:List (Nat×Nat):=[(8,9),(17,50)]
def a_rAt:AFunc:=({c:=_}:CF Tryz.prog 57).c
theorem ZD1:jA Tryz.prog 57=some a_rAt:=by kernel_rfl
def a_rPaired:AFunc:=⟨2,70,[.tmp 4],(.seq (.region [⟨some 2,.box (.t 0),none⟩,⟨some 3,.box (.t 1),none⟩,⟨some 4,.mv (.c (.v (.int .i64 0))),none⟩]) (.seq (.region [⟨some 9,.load (some 1) (.t 2),none⟩,⟨some 10,.load (some 2) (.t 3),none⟩,⟨some 11,.call (.c (.fn 57 [])) [(.t 9),(.t 10)],none⟩,⟨some 5,.alloc [(.v (.int .i64 0)),(.v (.int .i64 0)),(.v (.int .i64 0)),(.v (.int .i64 0)),(.v .zsl)],none⟩,⟨none,.store 5 (.t 5) (.t 11),none⟩]) (.seq (.seq (.region [VFx 12 0 5,VLx 13 12,⟨some 14,.bin .eql (.t 13) (.c (.v (.int .i64 1))),none⟩]) (.cond (.t 14) (.seq (.region [⟨some 4,.mv (.c (.v (.int .i64 0))),none⟩]) .ret) .skip)) (.seq (.seq (.draw [⟨0,⟨some 15,.load (some 1) (.t 2),none⟩,[]⟩,⟨1,VFx 16 0 5,[]⟩,⟨2,VLx 17 16,[]⟩,⟨3,VFx 18 2 5,[]⟩,⟨4,VLx 19 18,[]⟩,⟨6,⟨some 21,.load (some 2) (.t 3),none⟩,[]⟩,⟨5,⟨some 20,.call (.c (.fn 56 [])) [(.t 15),(.t 17),(.t 19)],none⟩,[⟨some 21,.load (some 2) (.t 3),none⟩]⟩,⟨7,⟨some 22,.eqs true [.i,.i] (.t 20) (.t 21),none⟩,[]⟩]) (.cond (.t 22) (.seq (.region [⟨some 4,.mv (.c (.v (.int .i64 8))),none⟩]) .ret) .skip)) (.seq (.seq (.region [VFx 23 0 5,VLx 24 23,⟨some 25,.bin .eql (.t 24) (.c (.v (.int .i64 3))),none⟩]) (.cond (.t 25) (.seq (.region [⟨some 6,.mv (.c (.v (.bool false))),none⟩]) (.seq (.seq (.region [⟨some 7,.mv (.c (.v (.int .i64 0))),none⟩]) (.block 0 (.loop (.seq (.seq (.region [VMx 26 7,VFx 27 0 2,VLx 28 27,VFx 29 1 5,VLx 30 29,VIx 31 3 28 30,VFx 32 2 31,VLx 33 32,VEx 34 33,⟨some 35,.bin .lss (.t 26) (.t 34),none⟩]) (.cond (.t 35) .skip (.exit 0))) (.seq (.block 1 (.seq (.region [VFx 38 0 2,VLx 39 38,VFx 40 1 5,VLx 41 40,VIx 42 3 39 41,VFx 43 2 42,VLx 44 43,VMx 45 7,VIx 46 5 44 45,⟨some 47,.load (some 5) (.t 46),none⟩,⟨some 8,.alloc [(.v (.int .i64 0)),(.v (.int .i64 0)),(.v (.int .i64 0)),(.v (.int .i64 0)),(.v .zsl)],none⟩,⟨none,.store 5 (.t 8) (.t 47),none⟩]) (.region [VMx 48 6,VMx 49 48,VFx 50 0 8 (some (49,false)),VLx 51 50 (some (49,false)),⟨some 52,.bin .eql (.t 51) (.c (.v (.int .i64 2))),some (49,false)⟩,VMx 53 52 (some (49,false)),VFx 54 2 8 (some (53,true)),VLx 55 54 (some (53,true)),VFx 56 2 5 (some (53,true)),VLx 57 56 (some (53,true)),⟨some 58,.bin .eql (.t 55) (.t 57),some (53,true)⟩,⟨some 59,.pick (.t 53) (.t 58) (.c (.v (.bool false))),some (49,false)⟩,VMx 60 59 (some (49,false)),VFx 61 1 8 (some (60,true)),VLx 62 61 (some (60,true)),VFx 63 0 3 (some (60,true)),VLx 64 63 (some (60,true)),⟨some 65,.bin .eql (.t 62) (.t 64),some (60,true)⟩,⟨some 66,.pick (.t 60) (.t 65) (.c (.v (.bool false))),some (49,false)⟩,⟨some 67,.pick (.t 49) (.c (.v (.bool true))) (.t 66),none⟩,VMx 6 67]))) (.region [VMx 36 7,⟨some 37,.bin .add (.t 36) (.c (.v (.int .i64 1))),none⟩,VMx 7 37])))))) (.seq (.region [VMx 68 6,⟨some 69,.not (.t 68),none⟩]) (.cond (.t 69) (.seq (.region [⟨some 4,.mv (.c (.v (.int .i64 7))),none⟩]) .ret) .skip)))) .skip)) (.seq (.region [⟨some 4,.mv (.c (.v (.int .i64 0))),none⟩]) .ret))))))⟩
theorem KW:jA Tryz.prog 151=some a_rPaired:=by kernel_rfl
def dI:List (Nat×Nat):=[(6,8),(26,67)]

theorem evE (e:Ev):(eEv e).map AV.v=(zEA e):=rfl
theorem bO (t:Tr) (hS:Small t) (p j:Nat) (hp:p<t.length) (hj:j<t[p].evs.length) (b l:List Row):QA Tryz.prog 57 [.agg [.v (eT t)],idA (p,j+1)] b l (fun r b' l'=>r=.agg ((eEv t[p].evs[j]).map .v)∧b'=b∧l'=l):=by
 refine XA ZD1 rfl kE ?_
 intro B g hB hR hE hA;simp only[zA]at hA
 have N7:=hS.np
 have VG:=hS.ne _ (am hp)
 have BI:=iG hp
 have xH:=TK hj
 have hjm:IntKind.i64.wrap (((j+1:Nat):Int)-1)=(j:Int):=by rw[dA oM oM];omega
 simp (disch:=first|decide|omega) only[a_rAt,hA,eT,idA,BI,xH,hjm,aa,go_sem]
 exact ZA (xs:=[.agg (zEA t[p].evs[j])])
theorem lL (t:Tr) (hS:Small t) (kd m:Int) (b l:List Row):QA Tryz.prog 56 [.agg [.v (eT t)],.v (.int .i64 kd),.v (.int .i64 m)] b l (fun r b' l'=>r=idA (DB t kd m)∧b'=b∧l'=l):=by
 refine XA I5 rfl kE ?_
 intro B g hB hR hE hA;simp only[zA]at hA
 have N7:=hS.np
 simp (disch:=first|decide|omega) only[a_rFind,hA,eT,go_sem]
 refine JA (ι:=Nat) dZ (fun i=>[(7,.v (.int .i64 i))]) 2 (fun _=>[(zTA t),.live 0 2 [[.v (.int .i64 0),.v (.int .i64 0)]]])
  (fun i=>i≤t.length∧(pD t i 0).find? (MD t kd m)=none) (fun i=>t.length-i) 0 ⟨aj _,rfl⟩ kM kA kF ?_
 intro g1 UG mF rA i ⟨hi,h0⟩
 by_cases yA:i<t.length
 ·have BI:=iG yA
  have VG:=hS.ne _ (am yA)
  simp (disch:=first|decide|omega) only[hA,rA,aa,go_sem]
  refine JA (ι:=Nat) uS (fun j=>[(8,.v (.int .i64 j))]) 2 (fun _=>[(zTA t),.live 0 2 [[.v (.int .i64 0),.v (.int .i64 0)]]])
   (fun j=>j≤t[i].evs.length∧(pD t i j).find? (MD t kd m)=none) (fun j=>t[i].evs.length-j) 0 ⟨aj _,h0⟩ kM kA kF ?_
  intro g2 AJ OP VE j ⟨hj,h2⟩
  by_cases mK:j<t[i].evs.length
  ·have xH:=TK mK
   have hK:MD t kd m (i,j+1)=(t[i].evs[j].kind==kd&&t[i].evs[j].msg==m):=by unfold MD;rw[FF yA mK]
   cases hk:t[i].evs[j].kind==kd
   ·simp (disch:=first|decide|omega) only[hA,rA,VE,BI,xH,hk,aa,go_sem]
    refine⟨j+1,⟨mK,gM h2 (by rw[hK,hk];rfl)⟩,by simp only;omega,?_⟩
    exact KA.kround (p:=uS) (k:=2) kQ kA rfl AJ kS kV hR kL
   cases hm:t[i].evs[j].msg==m
   ·simp (disch:=first|decide|omega) only[hA,rA,VE,BI,xH,hk,hm,aa,go_sem]
    refine⟨j+1,⟨mK,gM h2 (by rw[hK,hk,hm];rfl)⟩,by simp only;omega,?_⟩
    exact KA.kround (p:=uS) (k:=2) kQ kA rfl AJ kS kV hR kL
   have hV:=FR yA mK h2 (by rw[hK,hk,hm];rfl)
   simp (disch:=first|decide|omega) only[hA,rA,VE,BI,xH,hk,hm,aa,go_sem]
   exact ZA (xs:=[.agg [.v (.int .i64 i),.v (.int .i64 ((j:Int)+1))]]) ⟨by rw[hV];rfl,rfl,rfl⟩
  obtain rfl:j=t[i].evs.length:=by omega
  simp (disch:=first|decide|omega) only[hA,rA,VE,BI,aa,go_sem]
  refine⟨i+1,⟨yA,by rw[←gF t i yA];exact h2⟩,by simp only;omega,?_⟩
  exact KA.kround (p:=dZ) (k:=2) kQ kA rfl UG kS kV hR kL
 obtain rfl:i=t.length:=by omega
 have hV:DB t kd m=(0,0):=by unfold DB qA;rw[←DJ,h0];rfl
 simp (disch:=first|decide|omega) only[hA,rA,aa,go_sem]
 exact ZA (xs:=[.agg [.v (.int .i64 0),.v (.int .i64 0)]]) ⟨by rw[hV];rfl,rfl,rfl⟩
theorem KT (t:Tr) (hS:Small t) (p i:Nat) (hp:p<t.length) (hi:i<t[p].evs.length) (hf:AA t.length p (gA t (p,i+1))=true) (b l:List Row):QA Tryz.prog 151 [.agg [.v (eT t)],idA (p,i+1)] b l (fun r b' l'=>r=.v (.int .i64 (ZD t (p,i+1)))∧b'=b∧l'=l):=by
 refine XA KW rfl kE ?_
 intro B g hB hR hE hA;simp only[zA]at hA
 have N7:=hS.np
 have hP0:∀e,gA t (p,i+1)=e→ZD t (p,i+1)=if e.kind==2 then (if GC t 2 e.msg==some (p,i+1) then 0 else 8) else if e.kind==3 then (if GC t 3 e.msg==some (p,i+1) then (if sendsB t e.peer.toNat e.msg (p:Int) then 0 else 7) else 8) else 0:=fun e h=>by unfold ZD;rw[h]
 have QQ:=FF hp hi
 rw[QQ]at hf
 have hfi:∀k m,(GC t k m==some (p,i+1))=decide (DB t k m=(p,i+1)):=fun k m=>ZDD kS
 have HP:=UA (hP0 _ QQ)
 clear hP0
 generalize hee:t[p].evs[i]=e at *
 cases k1:e.kind==1
 rotate_left
 ·have hk:e.kind=1:=by simpa using k1
  simp (disch:=first|decide|omega) only[a_rPaired,hA,eT,idA,go_sem]
  refine QA.nxt (bO t hS p i hp hi _ _) ?_
  rw[hee,evE]
  simp (disch:=first|decide|omega) only[hA,k1,go_sem]
  exact ZA (xs:=[.v (.int .i64 0)]) ⟨by rw[HP.out,hk];rfl,rfl,rfl⟩
 have ZLj:e.kind=2∨e.kind=3:=by
  unfold AA at hf
  rw[k1]at hf
  simp at hf
  exact hf.1
 have hP:ZD t (p,i+1)=if DB t e.kind e.msg=(p,i+1) then (if e.kind=3∧sendsB t e.peer.toNat e.msg p=false then 7 else 0) else 8:=by
  rw[HP.out]
  simp only[hfi]
  rcases ZLj with h|h<;>rw[h]<;>by_cases hh:DB t e.kind e.msg=(p,i+1)<;>rw[h]at hh<;>simp[hh]<;>(try cases sendsB t e.peer.toNat e.msg p<;>simp)
 clear HP
 have HP:=UA hP
 clear hP
 simp (disch:=first|decide|omega) only[a_rPaired,hA,eT,idA,go_sem]
 refine QA.nxt (bO t hS p i hp hi _ _) ?_
 rw[hee,evE]
 simp (disch:=first|decide|omega) only[hA,k1,go_sem]
 refine QA.nxt (lL t hS _ _ _ _) ?_
 by_cases hh:DB t e.kind e.msg=(p,i+1)
 case neg =>
  have VG:((((DB t e.kind e.msg).1:Int)==(p:Int))&&(((DB t e.kind e.msg).2:Int)==((i+1:Nat):Int)))=false:=by
   cases h1:((DB t e.kind e.msg).1:Int)==(p:Int)
   ·rfl
   ·cases h2:((DB t e.kind e.msg).2:Int)==((i+1:Nat):Int)
    ·rfl
    ·simp only[beq_iff_eq]at h1 h2
     exact absurd (Prod.ext (by simp only;omega) (by simp only;omega)) hh
  simp (disch:=first|decide|omega) only[hA,idA,VG,go_sem]
  exact ZA (xs:=[.v (.int .i64 8)]) ⟨by rw[HP.out,if_neg hh];rfl,rfl,rfl⟩
 rw[hh]
 cases k3:e.kind==3
 ·simp (disch:=first|decide|omega) only[hA,idA,jd,k3,go_sem]
  exact ZA (xs:=[.v (.int .i64 0)]) ⟨by rw[HP.out,if_pos hh,if_neg (fun h=>by simp[h.1]at k3)];rfl,rfl,rfl⟩
 have hk:e.kind=3:=by simpa using k3
 obtain⟨q,hq,hql⟩:∃q:Nat,e.peer=q∧q<t.length:=by
  unfold AA inB at hf
  rw[k1,hk]at hf
  simp at hf
  exact⟨e.peer.toNat,by omega,by omega⟩
 have hgq:=iG hql
 have hnq:=hS.ne _ (am hql)
 have hsB:sendsB t e.peer.toNat e.msg p=t[q].evs.any fun s=>s.kind==2&&s.msg==e.msg&&s.peer==(p:Int):=by
  unfold sendsB iA;rw[hq,cj,QB dfPr t hql]
 simp (disch:=first|decide|omega) only[hA,idA,jd,k3,go_sem]
 refine JA (ι:=Nat) dI (fun j=>[(7,.v (.int .i64 j)),(6,.v (.bool ((t[q].evs.take j).any fun s=>s.kind==2&&s.msg==e.msg&&s.peer==(p:Int))))]) 3 (fun _=>[(zTA t),.live 0 2 [[.v (.int .i64 p),.v (.int .i64 ((i+1:Nat):Int))]],.live 0 5 [(zEA e)]])
  (fun j=>j≤t[q].evs.length) (fun j=>t[q].evs.length-j) 0 (aj _) kM kA kF ?_
 intro g1 UG mF rA j hj
 by_cases yA:j<t[q].evs.length
 ·have FM:=TK yA
  have pG:=kY (f:=fun s:Ev=>s.kind==2&&s.msg==e.msg&&s.peer==(p:Int)) yA
  generalize hs:(t[q].evs.take j).any (fun s=>s.kind==2&&s.msg==e.msg&&s.peer==(p:Int))=sb at *
  cases sb
  ·cases c1:t[q].evs[j].kind==2
   ·simp (disch:=first|decide|omega) only[hA,rA,hgq,FM,hq,c1,aa,go_sem]
    refine⟨j+1,yA,by simp only;omega,?_⟩
    rw[c1]at pG
    simp only[gg,Bool.false_and]at pG
    exact KA.kround (p:=dI) (k:=3) kQ (by ((try simp (disch:=decide) only[hA,rA,pG,go_sem])<;>exact kH)) rfl UG kS kV hR kL
   cases c2:t[q].evs[j].msg==e.msg
   ·simp (disch:=first|decide|omega) only[hA,rA,hgq,FM,hq,c1,c2,aa,go_sem]
    refine⟨j+1,yA,by simp only;omega,?_⟩
    rw[c1,c2]at pG
    simp only[gg,Bool.false_and,hU]at pG
    exact KA.kround (p:=dI) (k:=3) kQ (by ((try simp (disch:=decide) only[hA,rA,pG,go_sem])<;>exact kH)) rfl UG kS kV hR kL
   simp (disch:=first|decide|omega) only[hA,rA,hgq,FM,hq,c1,c2,aa,go_sem]
   refine⟨j+1,yA,by simp only;omega,?_⟩
   rw[c1,c2,gg,hU,hU]at pG
   exact KA.kround (p:=dI) (k:=3) kQ (by ((try simp (disch:=decide) only[hA,rA,pG,go_sem])<;>exact kH)) rfl UG kS kV hR kL
  ·simp (disch:=first|decide|omega) only[hA,rA,hgq,FM,hq,aa,go_sem]
   refine⟨j+1,yA,by simp only;omega,?_⟩
   rw[jx]at pG
   exact KA.kround (p:=dI) (k:=3) kQ (by ((try simp (disch:=decide) only[hA,rA,pG,go_sem])<;>exact kH)) rfl UG kS kV hR kL
 obtain rfl:j=t[q].evs.length:=by omega
 rw[ik,←hsB]
 cases hsb:sendsB t e.peer.toNat e.msg p
 ·simp (disch:=first|decide|omega) only[hA,rA,hgq,hq,aa,go_sem]
  exact ZA (xs:=[.v (.int .i64 7)]) ⟨by rw[HP.out,if_pos hh,if_pos ⟨hk,hsb⟩];rfl,rfl,rfl⟩
 ·simp (disch:=first|decide|omega) only[hA,rA,hgq,hq,aa,go_sem]
  exact ZA (xs:=[.v (.int .i64 0)]) ⟨by rw[HP.out,if_pos hh,if_neg (fun h=>by rw[hsb]at h;cases h.2)];rfl,rfl,rfl⟩
def a_rAcy:AFunc:=({c:=_}:CF Tryz.prog 152).c
theorem ZBD:jA Tryz.prog 152=some a_rAcy:=by kernel_rfl
def R8:List (Nat×Nat):=[(4,7),(13,66)]
def mW:List (Nat×Nat):=[(4,7),(13,64)]
def pW:List (Nat×Nat):=[(4,4),(6,7),(20,64)]
def D8:List (Nat×Nat):=[(2,2),(8,8),(67,85)]

def dR (D:List Nat):List (List IV):=D.map fun (d:Nat)=>[IV.int .i64 (d:Int)]
theorem uN {D:List Nat}:(dR D).length=D.length:=by simp[dR]
theorem z7 {D:List Nat} {p:Nat} (h:p<D.length):(dR D)[p]? = some [.int .i64 D[p]]:=by simp[dR,h]
theorem ZI0 {D:List Nat} {p d:Nat}:(dR D).set p [.int .i64 ((d:Int)+1)]=dR (D.set p (d+1)):=by simp[dR,fo]
theorem ZGS {n:Nat}:List.replicate n [AV.v (.int .i64 0)]=vs (dR (List.replicate n 0)):=by simp[dR,vs]
theorem ZIW {t:Tr} {k m:Int} (h0:0<t.length):(DB t k m).1<t.length:=by
 unfold DB
 by_cases h:0<(qA t (ids t) k m).2
 ·exact (TC.1 (fP h).1).1
 ·have hl:∀y∈ids t,1≤y.2:=fun y hy=>dG hy
  have:=fN hl h
  unfold qA;rw[this];simpa using h0
theorem ZAG (t:Tr) (hS:Small t) (zU:∀x∈ids t,ZD t x=0) (b l:List Row):QA Tryz.prog 152 [.agg [.v (eT t)]] b l (fun r b' l'=>∃c:Bool,r=.v (.bool c)∧(c=true→∀x∈ids t,¬Hb t x x)∧b'=b∧l'=l):=by
 refine XA ZBD rfl kE ?_
 intro B g hB hR hE hA;simp only[zA]at hA
 have N7:=hS.np
 have hz:=ZGS (n:=t.length)
 simp (disch:=first|decide|omega) only[a_rAcy,hA,eT,hz,aa,go_sem]
 refine JA (ι:=List Nat) R8 (fun _=>[]) 2 (fun D=>[(zTA t),.live 0 1 (vs (dR D))])
  (fun D=>KI t D) (fun D=>sumE t-D.sum) (List.replicate t.length 0) (KI.start t) kM kA kF ?_
 intro g1 UG mF rA D0 hD0
 simp (disch:=first|decide|omega) only[hA,rA,go_sem]
 refine JA (ι:=Nat×List Nat×Bool) mW (fun i=>[(5,.v (.int .i64 i.1)),(4,.v (.bool i.2.2))]) 2 (fun i=>[(zTA t),.live 0 1 (vs (dR i.2.1))])
  (fun i=>i.1≤t.length∧KI t i.2.1∧D0.sum≤i.2.1.sum∧(i.2.2=true→D0.sum<i.2.1.sum)) (fun i=>t.length-i.1) (0,D0,false) ⟨aj _,hD0,ai _,fun h=>by cases h⟩ kM kA kF ?_
 rintro g2 AJ OP VE ⟨p,D1,b1⟩ ⟨hp,hD1,LH,JJ⟩
 simp only at hp hD1 LH JJ
 by_cases yA:p<t.length
 ·have BI:=iG yA
  have VG:=hS.ne _ (am yA)
  simp (disch:=first|decide|omega) only[hA,rA,VE,aa,go_sem]
  refine JA (ι:=List Nat×Bool) pW (fun i=>[(4,.v (.bool i.2))]) 2 (fun i=>[(zTA t),.live 0 1 (vs (dR i.1))])
   (fun i=>KI t i.1∧D0.sum≤i.1.sum∧(i.2=true→D0.sum<i.1.sum)) (fun i=>t[p].evs.length-i.1.getD p 0) (D1,b1) ⟨hD1,LH,JJ⟩ kM kA kF ?_
  rintro g3 FY UU dH ⟨D,b2⟩ ⟨hD,uW,dQ⟩
  simp only at hD uW dQ
  have hDl:=hD.len
  have kJ:=z7 (D:=D) (p:=p) oM
  have hdk:D.getD p 0=D[p]:=QB 0 D oM
  have CJ:=hD.le p yA
  have ZK2:=ZFS (D:=D) (k:=p) (d:=D[p]+1) oM
  have xO:=ZI0 (D:=D) (p:=p) (d:=D[p])
  rw[hdk]at CJ
  by_cases hdl:D[p]<t[p].evs.length
  ·have xH:=TK hdl
   cases k3:t[p].evs[D[p]].kind==3
   ·have hk:KI t (D.set p (D[p]+1)):=by
     have:=KI.step hD yA (by rw[hdk];exact hdl) (r9 zU yA rfl (by rw[hdk];exact hdl) (fun h3=>by rw[hdk,FF yA hdl]at h3;rw[h3]at k3;simp at k3))
     rwa [hdk]at this
    simp (disch:=first|decide|omega) only[hA,rA,VE,dH,BI,kJ,xH,xO,k3,uN,cellsOf,go_sem]
    refine⟨(D.set p (D[p]+1),true),⟨hk,by simp only;omega,fun _=>by simp only;omega⟩,?_,?_⟩
    ·simp only;rw[hdk,ap,ay oM];simp;omega
    ·exact KA.kround (p:=pW) (k:=2) kQ kA rfl FY kS kV hR kL
   have hk3:t[p].evs[D[p]].kind=3:=by simpa using k3
   generalize QQ:t[p].evs[D[p]]=e at *
   have hfi:(DB t 2 e.msg).1<t.length:=ZIW oM
   have hgf:(dR D)[(DB t 2 e.msg).1]? = some [.int .i64 ((D.getD (DB t 2 e.msg).1 0:Nat):Int)]:=by rw[z7 oM,QB 0 D oM]
   have hk:(DB t 2 e.msg).2≤D.getD (DB t 2 e.msg).1 0→KI t (D.set p (D[p]+1)):=fun h=>by
    have:=KI.step hD yA (by rw[hdk];exact hdl) (r9 zU yA rfl (by rw[hdk];exact hdl) (fun h3=>by rw[hdk,FF yA hdl,QQ];exact h))
    rwa [hdk]at this
   simp (disch:=first|decide|omega) only[hA,rA,VE,dH,BI,kJ,xH,k3,uN,aa,go_sem]
   refine QA.nxt (lL t hS _ _ _ _) ?_
   generalize hfe:DB t 2 e.msg=y at *
   generalize hd2:D.getD y.1 0=d2 at *
   by_cases hly:d2<y.2
   ·have ZJD:decide ((d2:Int)<(y.2:Int))=true:=ae oM
    simp (disch:=first|decide|omega) only[hA,rA,VE,dH,BI,kJ,xH,hgf,ZJD,idA,k3,uN,aa,go_sem]
    refine⟨(p+1,D,b2),⟨yA,hD,uW,dQ⟩,by simp only;omega,?_⟩
    exact KA.kround (p:=mW) (k:=2) kQ kA rfl AJ kS kV hR kL
   ·have ZJD:decide ((d2:Int)<(y.2:Int))=false:=ag oM
    have hk:=hk oM
    simp (disch:=first|decide|omega) only[hA,rA,VE,dH,BI,kJ,xH,hgf,ZJD,xO,idA,k3,uN,cellsOf,go_sem]
    refine⟨(D.set p (D[p]+1),true),⟨hk,by simp only;omega,fun _=>by simp only;omega⟩,?_,?_⟩
    ·simp only;rw[hdk,ap,ay oM];simp;omega
    ·exact KA.kround (p:=pW) (k:=2) kQ kA rfl FY kS kV hR kL
  simp (disch:=first|decide|omega) only[hA,rA,VE,dH,BI,kJ,uN,aa,go_sem]
  refine⟨(p+1,D,b2),⟨yA,hD,uW,dQ⟩,by simp only;omega,?_⟩
  exact KA.kround (p:=mW) (k:=2) kQ kA rfl AJ kS kV hR kL
 obtain rfl:p=t.length:=by omega
 cases b1
 rotate_left
 ·have h1:=hD1.sum_le
  have h2:=JJ rfl
  simp (disch:=first|decide|omega) only[hA,rA,VE,aa,go_sem]
  refine⟨D1,hD1,by simp only;omega,?_⟩
  exact KA.kround (p:=R8) (k:=2) kQ kA rfl UG kS kV hR kL
 simp (disch:=first|decide|omega) only[hA,rA,VE,aa,go_sem]
 refine JA (ι:=Nat) D8 (fun i=>[(8,.v (.int .i64 i))]) 2 (fun i=>[(zTA t),.live 0 1 (vs (dR D1))])
  (fun i=>i≤t.length∧∀j (hj:j<t.length),j<i→t[j].evs.length≤D1.getD j 0) (fun i=>t.length-i) 0 ⟨aj _,fun j hj h=>by omega⟩ kM kA kF ?_
 rintro g3 FY UU dH i ⟨hi,JF⟩
 by_cases S7:i<t.length
 ·have CI:=iG S7
  have hDl:=hD1.len
  have kJ:=z7 (D:=D1) (p:=i) oM
  have hdk:D1.getD i 0=D1[i]:=QB 0 D1 oM
  by_cases hdl:D1[i]<t[i].evs.length
  ·simp (disch:=first|decide|omega) only[hA,rA,VE,dH,CI,kJ,uN,aa,go_sem]
   exact ZA (xs:=[.v (.bool false)]) ⟨false,rfl,(fun h=>by cases h),rfl,rfl⟩
  ·simp (disch:=first|decide|omega) only[hA,rA,VE,dH,CI,kJ,uN,aa,go_sem]
   refine⟨i+1,⟨S7,fun j hj JG=>?_⟩,by simp only;omega,?_⟩
   ·rcases bj j i with h|h
    ·exact JF j hj h
    ·obtain rfl:j=i:=by omega
     omega
   ·exact KA.kround (p:=D8) (k:=2) kQ kA rfl FY kS kV hR kL
 obtain rfl:i=t.length:=by omega
 simp (disch:=first|decide|omega) only[hA,rA,VE,dH,aa,go_sem]
 exact ZA (xs:=[.v (.bool true)]) ⟨true,rfl,(fun _=>KI.all hD1 (fun p hp=>JF p hp hp)),rfl,rfl⟩
def a_rFlt:AFunc:=({c:=_}:CF Tryz.prog 106).c
theorem ZBB:jA Tryz.prog 106=some a_rFlt:=by kernel_rfl
def I8:List (Nat×Nat):=[(3,5),(27,41)]
def H8:List (Nat×Nat):=[(3,3),(6,8),(42,70)]
def G8:List (Nat×Nat):=[(3,3),(7,8),(49,70)]
def b8:List (Nat×Nat):=[(3,3),(9,12),(71,99)]
def c8:List (Nat×Nat):=[(3,3),(10,12),(78,99)]
def p8:List (Nat×Nat):=[(3,3),(13,15),(103,135)]
def n8:List (Nat×Nat):=[(3,3),(14,15),(110,135)]

theorem ZAF (t:Tr) (hS:Sm t) (hN:Nm t) (ZJg:Small t→Paired t→∀p j (hp:p<t.length) (hj:j<t[p].evs.length) (b l:List Row),QA Tryz.prog 153 [.agg [.v (eT t)],idA (p,j+1)] b l (fun r b' l'=>∃G R:List (List IV),r=.v (.isl 1 G)∧G[p]? = some [.isl 1 R]∧R[j+1]? = some [.bool (hbB t (p,j+1))]∧b'=b∧l'=l)) (b l:List Row):QA Tryz.prog 106 [.agg [.v (eT t)]] b l (fun r b' l'=>r=.tup [idA (eE t).1,.v (.int .i64 (eE t).2)]∧b'=b∧l'=l):=by
 refine XA ZBB rfl kE ?_
 intro B g hB hR hE hA;simp only[zA]at hA
 have N7:=hS.np
 cases GE:inB t.length 1 8
 ·have HF:=CU GE
  cases h1:decide ((t.length:Int)<1)
  ·have h2:decide ((t.length:Int)>8)=true:=by
    refine ae ?_
    have:=gu h1
    unfold inB at GE;simp at GE;omega
   simp (disch:=first|decide|omega) only[a_rFlt,hA,eT,h1,h2,go_sem]
   exact ZA (xs:=[.agg [.v (.int .i64 0),.v (.int .i64 0)],.v (.int .i64 1)]) ⟨by rw[HF];rfl,rfl,rfl⟩
  ·simp (disch:=first|decide|omega) only[a_rFlt,hA,eT,h1,go_sem]
   exact ZA (xs:=[.agg [.v (.int .i64 0),.v (.int .i64 0)],.v (.int .i64 1)]) ⟨by rw[HF];rfl,rfl,rfl⟩
 have hl18:1≤t.length∧t.length≤8:=by unfold inB at GE;simp at GE;omega
 have h1:decide ((t.length:Int)<1)=false:=ag oM
 have h2:decide ((t.length:Int)>8)=false:=ag oM
 have HIN:=UA GE
 have z0:(((0:Nat):Int) != 0)=false:=rfl
 simp (disch:=first|decide|omega) only[a_rFlt,hA,eT,h1,h2,go_sem]
 refine JA (ι:=Nat) I8 (fun p=>[(4,.v (.int .i64 p))]) 2 (fun _=>[(zTA t),.live 0 2 [[.v (.int .i64 0),.v (.int .i64 0)]]])
  (fun p=>p≤t.length∧∀q,q<p→SC t q=0) (fun p=>t.length-p) 0 ⟨aj _,fun q h=>by omega⟩ kM kA kF ?_
 rintro g1 UG mF rA p ⟨hp,hh⟩
 by_cases yA:p<t.length
 ·have cH:=fun b l=>V3 t hS hN p yA b l
  simp only[eT]at cH
  by_cases hz:SC t p=0
  ·rw[hz]at cH
   simp (disch:=first|decide|omega) only[hA,rA,aa,go_sem]
   refine QA.nxt (cH _ _) ?_
   simp (disch:=first|decide|omega) only[hA,rA,z0,go_sem]
   refine⟨p+1,⟨yA,fun q hq=>?_⟩,by simp only;omega,?_⟩
   ·rcases bj q p with h|h
    ·exact hh q h
    ·obtain rfl:q=p:=by omega
     exact hz
   ·exact KA.kround (p:=I8) (k:=2) kQ kA rfl UG kS kV hR kL
  ·have HF:=OR HIN.out yA hh hz
   have hb:(((SC t p:Nat):Int) != 0)=true:=by simp;exact hz
   simp (disch:=first|decide|omega) only[hA,rA,aa,go_sem]
   refine QA.nxt (cH _ _) ?_
   simp (disch:=first|decide|omega) only[hA,rA,hb,YC,CB,iB,cellsOf,go_sem]
   exact ZA (xs:=[.agg [.v (.int .i64 p),.v (.int .i64 0)],.v (.int .i64 (SC t p))]) ⟨by rw[HF];rfl,rfl,rfl⟩
 obtain rfl:p=t.length:=by omega
 have hS:=hS.small hh
 simp (disch:=first|decide|omega) only[hA,rA,aa,go_sem]
 refine JA (ι:=Nat) H8 (fun p=>[(6,.v (.int .i64 p))]) 2 (fun _=>[(zTA t),.live 0 2 [[.v (.int .i64 0),.v (.int .i64 0)]]])
  (fun p=>p≤t.length∧(pD t p 0).find? (fun x=>lC t x != 0)=none) (fun p=>t.length-p) 0 ⟨aj _,rfl⟩ kM kA kF ?_
 rintro g2 AJ OP VE p ⟨hp,h0⟩
 by_cases yA:p<t.length
 ·have BI:=iG yA
  have VG:=hS.ne _ (am yA)
  simp (disch:=first|decide|omega) only[hA,rA,VE,aa,go_sem]
  refine JA (ι:=Nat) G8 (fun j=>[(7,.v (.int .i64 j))]) 2 (fun _=>[(zTA t),.live 0 2 [[.v (.int .i64 0),.v (.int .i64 0)]]])
   (fun j=>j≤t[p].evs.length∧(pD t p j).find? (fun x=>lC t x != 0)=none) (fun j=>t[p].evs.length-j) 0 ⟨aj _,h0⟩ kM kA kF ?_
  rintro g3 FY UU dH j ⟨hj,h2⟩
  by_cases mK:j<t[p].evs.length
  ·have cH:=fun b l=>U3 t hS p j yA mK b l
   simp only[eT]at cH
   by_cases hz:lC t (p,j+1)=0
   ·rw[hz]at cH
    simp (disch:=first|decide|omega) only[hA,rA,VE,dH,BI,aa,go_sem]
    refine QA.nxt (cH _ _) ?_
    simp (disch:=first|decide|omega) only[hA,rA,VE,dH,z0,go_sem]
    refine⟨j+1,⟨mK,JN h2 (by simp[hz])⟩,by simp only;omega,?_⟩
    exact KA.kround (p:=G8) (k:=2) kQ kA rfl FY kS kV hR kL
   ·have HF:=ZS HIN.out hh (YN (P:=fun x=>lC t x != 0) yA mK h2 (by simp[hz]))
    have hb:(((lC t (p,j+1):Nat):Int) != 0)=true:=by simp;exact hz
    simp (disch:=first|decide|omega) only[hA,rA,VE,dH,BI,aa,go_sem]
    refine QA.nxt (cH _ _) ?_
    simp (disch:=first|decide|omega) only[hA,rA,VE,dH,hb,YC,CB,iB,cellsOf,go_sem]
    exact ZA (xs:=[.agg [.v (.int .i64 p),.v (.int .i64 ((j:Int)+1))],.v (.int .i64 (lC t (p,j+1)))]) ⟨by rw[HF];rfl,rfl,rfl⟩
  obtain rfl:j=t[p].evs.length:=by omega
  simp (disch:=first|decide|omega) only[hA,rA,VE,dH,BI,aa,go_sem]
  refine⟨p+1,⟨yA,by rw[←gF t p yA];exact h2⟩,by simp only;omega,?_⟩
  exact KA.kround (p:=H8) (k:=2) kQ kA rfl AJ kS kV hR kL
 obtain rfl:p=t.length:=by omega
 have HFN:=MO h0
 have QL:∀x∈ids t,AA t.length x.1 (gA t x)=true:=fun x hx=>zK (CR HFN x hx)
 simp (disch:=first|decide|omega) only[hA,rA,VE,aa,go_sem]
 refine JA (ι:=Nat) b8 (fun p=>[(9,.v (.int .i64 p))]) 2 (fun _=>[(zTA t),.live 0 2 [[.v (.int .i64 0),.v (.int .i64 0)]]])
  (fun p=>p≤t.length∧(pD t p 0).find? (fun x=>ZD t x != 0)=none) (fun p=>t.length-p) 0 ⟨aj _,rfl⟩ kM kA kF ?_
 rintro g3 FY UU dH p ⟨hp,h0⟩
 by_cases yA:p<t.length
 ·have BI:=iG yA
  have VG:=hS.ne _ (am yA)
  simp (disch:=first|decide|omega) only[hA,rA,VE,dH,aa,go_sem]
  refine JA (ι:=Nat) c8 (fun j=>[(10,.v (.int .i64 j))]) 2 (fun _=>[(zTA t),.live 0 2 [[.v (.int .i64 0),.v (.int .i64 0)]]])
   (fun j=>j≤t[p].evs.length∧(pD t p j).find? (fun x=>ZD t x != 0)=none) (fun j=>t[p].evs.length-j) 0 ⟨aj _,h0⟩ kM kA kF ?_
  rintro g4 hE4 ZK3 YR j ⟨hj,h2⟩
  by_cases mK:j<t[p].evs.length
  ·have cH:=fun b l=>KT t hS p j yA mK (QL _ (TC.2 ⟨yA,by simp,by simp;omega⟩)) b l
   simp only[eT,idA]at cH
   have pI:((j+1:Nat):Int)=(j:Int)+1:=by omega
   rw[pI]at cH
   by_cases hz:ZD t (p,j+1)=0
   ·rw[hz]at cH
    simp (disch:=first|decide|omega) only[hA,rA,VE,dH,YR,BI,YC,CB,iB,aa,go_sem]
    refine QA.nxt (cH _ _) ?_
    simp (disch:=first|decide|omega) only[hA,rA,VE,dH,YR,z0,go_sem]
    refine⟨j+1,⟨mK,JN h2 (by simp[hz])⟩,by simp only;omega,?_⟩
    exact KA.kround (p:=c8) (k:=2) kQ kA rfl hE4 kS kV hR kL
   ·have HF:=AR HIN.out hh HFN (YN (P:=fun x=>ZD t x != 0) yA mK h2 (by simp[hz]))
    have hb:(((ZD t (p,j+1):Nat):Int) != 0)=true:=by simp;exact hz
    simp (disch:=first|decide|omega) only[hA,rA,VE,dH,YR,BI,YC,CB,iB,aa,go_sem]
    refine QA.nxt (cH _ _) ?_
    simp (disch:=first|decide|omega) only[hA,rA,VE,dH,YR,hb,YC,CB,iB,cellsOf,go_sem]
    exact DA (xs:=[.agg [.v (.int .i64 p),.v (.int .i64 ((j:Int)+1))],.v (.int .i64 (ZD t (p,j+1)))]) (.inr rfl) kR kO hR hB ⟨by rw[HF];rfl,rfl,rfl⟩
  obtain rfl:j=t[p].evs.length:=by omega
  simp (disch:=first|decide|omega) only[hA,rA,VE,dH,YR,BI,aa,go_sem]
  refine⟨p+1,⟨yA,by rw[←gF t p yA];exact h2⟩,by simp only;omega,?_⟩
  exact KA.kround (p:=b8) (k:=2) kQ kA rfl FY kS kV hR kL
 obtain rfl:p=t.length:=by omega
 have HPN:=MO h0
 have zU:=CR HPN
 have hP:Paired t:=⟨QL,zU⟩
 have cA:=fun b l=>ZAG t hS zU b l
 simp only[eT]at cA
 simp (disch:=first|decide|omega) only[hA,rA,VE,dH,aa,go_sem]
 refine mD _ _ _ _ _ _ (cA _ _) ?_
 rintro x b' l' ⟨c,rfl,hc,rfl,rfl⟩
 cases c
 rotate_left
 ·have HF:=WS HIN.out hh HFN HPN (show LF t=none from cw.2 (fun x hx=>by simpa using hc rfl x hx))
  simp (disch:=first|decide|omega) only[hA,rA,VE,dH,YC,CB,iB,cellsOf,go_sem]
  exact ZA (xs:=[.agg [.v (.int .i64 0),.v (.int .i64 0)],.v (.int .i64 0)]) ⟨by rw[HF];rfl,rfl,rfl⟩
 simp (disch:=first|decide|omega) only[hA,rA,VE,dH,aa,go_sem]
 refine JA (ι:=Nat) p8 (fun p=>[(13,.v (.int .i64 p))]) 2 (fun _=>[(zTA t),.live 0 2 [[.v (.int .i64 0),.v (.int .i64 0)]]])
  (fun p=>p≤t.length∧(pD t p 0).find? (hbB t)=none) (fun p=>t.length-p) 0 ⟨aj _,rfl⟩ kM kA kF ?_
 rintro g4 hE4 ZK3 YR p ⟨hp,h0⟩
 by_cases yA:p<t.length
 ·have BI:=iG yA
  have VG:=hS.ne _ (am yA)
  simp (disch:=first|decide|omega) only[hA,rA,VE,dH,YR,aa,go_sem]
  refine JA (ι:=Nat) n8 (fun j=>[(14,.v (.int .i64 j))]) 2 (fun _=>[(zTA t),.live 0 2 [[.v (.int .i64 0),.v (.int .i64 0)]]])
   (fun j=>j≤t[p].evs.length∧(pD t p j).find? (hbB t)=none) (fun j=>t[p].evs.length-j) 0 ⟨aj _,h0⟩ kM kA kF ?_
  rintro g5 hE5 hEE5 hg5 j ⟨hj,h2⟩
  by_cases mK:j<t[p].evs.length
  ·have cH:=fun b l=>ZJg hS hP p j yA mK b l
   simp only[eT,idA]at cH
   have pI:((j+1:Nat):Int)=(j:Int)+1:=by omega
   have hwj:IntKind.i64.wrap ((j:Int)+1)=((j+1:Nat):Int):=by rw[dA oM oM];omega
   rw[pI]at cH
   simp (disch:=first|decide|omega) only[hA,rA,VE,dH,YR,hg5,BI,YC,CB,iB,aa,go_sem]
   refine mD _ _ _ _ _ _ (cH _ _) ?_
   rintro x b' l' ⟨G,R,rfl,hG,I1,rfl,rfl⟩
   cases hz:hbB t (p,j+1)
   ·rw[hz]at I1
    simp (disch:=first|decide|omega) only[hA,rA,VE,dH,YR,hg5,hG,I1,hwj,go_sem]
    refine⟨j+1,⟨mK,JN h2 hz⟩,by simp only;omega,?_⟩
    exact KA.kround (p:=n8) (k:=2) kQ kA rfl hE5 kS kV hR kL
   ·rw[hz]at I1
    have HF:=BZ HIN.out hh HFN HPN (show LF t=_ from YN (P:=hbB t) yA mK h2 hz)
    simp (disch:=first|decide|omega) only[hA,rA,VE,dH,YR,hg5,hG,I1,hwj,YC,CB,iB,cellsOf,go_sem]
    exact DA (xs:=[.agg [.v (.int .i64 p),.v (.int .i64 ((j:Int)+1))],.v (.int .i64 10)]) (.inr rfl) kR kO hR hB ⟨by rw[HF];rfl,rfl,rfl⟩
  obtain rfl:j=t[p].evs.length:=by omega
  simp (disch:=first|decide|omega) only[hA,rA,VE,dH,YR,hg5,BI,aa,go_sem]
  refine⟨p+1,⟨yA,by rw[←gF t p yA];exact h2⟩,by simp only;omega,?_⟩
  exact KA.kround (p:=p8) (k:=2) kQ kA rfl hE4 kS kV hR kL
 obtain rfl:p=t.length:=by omega
 have HF:=WS HIN.out hh HFN HPN (show LF t=none from MO h0)
 simp (disch:=first|decide|omega) only[hA,rA,VE,dH,YR,YC,CB,iB,aa,go_sem]
 exact DA (xs:=[.agg [.v (.int .i64 0),.v (.int .i64 0)],.v (.int .i64 0)]) (.inr rfl) kR kO hR hB ⟨by rw[HF];rfl,rfl,rfl⟩
def a_rDtl:AFunc:=({c:=_}:CF Tryz.prog 178).c
theorem ZBC:jA Tryz.prog 178=some a_rDtl:=by kernel_rfl

def eI2 (x:Nat×Nat):List IV:=[.int .i64 x.1,.int .i64 x.2]
theorem sS {e l:_} {rs:List ARes} {Q:AV→List Row→List Row→Prop} {B:List Row} (k ver len:Nat) {s:Nat} {rows:List (List IV)} (hi:l[k]? = some (.live ver s (vs rows))) (hx:resVs e B l rs=some [.sl (B.length+k) ver 0 len]) (hR:tA B.length B) {b0 l0:List Row} (hB:B=b0++l0)
  (hq:Q (.sl B.length ver 0 len) b0 (l0++[.live ver s (vs rows)])):YH rs Q b0.length .ret e B l:=by
 refine UI (.inr rfl) (xs:=[.sl (B.length+k) ver 0 len]) (y:=.sl B.length ver 0 len) (l':=[.live ver s (vs rows)]) hx (m:=1) rfl (fun j=>j+k) (fun i j _ _ h=>by omega) (fun j r' h=>?_) ?_ hR hB hq
 ·match j,h with
  |0,h=>cases h;exact⟨_,by rw[cm];exact hi,RnR.plain⟩
 ·exact Rn.slE (j:=0) kS kS
def dV (t:Tr) (x:Nat×Nat):Nat:=(JE t x).length-1
theorem fU (t:Tr) (hS:Small t) (p j:Nat) (hp:p<t.length) (hj:j<t[p].evs.length) (b l:List Row):QA Tryz.prog 178 [.agg [.v (eT t)],idA (p,j+1)] b l
  (fun r b' l'=>r=.sl (b.length+l.length) (dV t (p,j+1)) 0 (JE t (p,j+1)).length∧b'=b∧l'=l++[.live (dV t (p,j+1)) 2 (vs ((JE t (p,j+1)).map eI2))]):=by
 refine XA ZBC rfl kE ?_
 intro B g hB hR hE hA;simp only[zA]at hA
 have N7:=hS.np
 have VG:=hS.ne _ (am hp)
 have hbl:B.length=b.length+l.length:=by rw[hB,aq]
 have QQ:=FF hp hj
 have hjm:IntKind.i64.wrap (((j+1:Nat):Int)-1)=(j:Int):=by rw[dA oM oM];omega
 have cA:=fun b l=>bO t hS p j hp hj b l
 have cF:=fun b l=>lL t hS 2 t[p].evs[j].msg b l
 simp only[eT,idA,evE]at cA cF
 have hgt:decide (((j+1:Nat):Int)>1)=decide (0<j):=by rw[dx];simp only[bc];omega
 by_cases h1:0<j
 ·cases k3:t[p].evs[j].kind==3
  ·have hb:JE t (p,j+1)=[(p,j)]:=by unfold JE;rw[QQ];simp only[k3];rw[if_pos oM];simp
   simp (disch:=first|decide|omega) only[a_rDtl,hA,eT,idA,hgt,ae h1,hjm,YC,CB,iB,reduceCtorEq,go_sem]
   refine QA.nxt (cA _ _) ?_
   simp (disch:=first|decide|omega) only[hA,k3,go_sem]
   refine sS 3 0 1 (rows:=[(p,j)].map eI2) (by rfl) kR hR hB ?_
   exact⟨by rw[hbl];unfold dV;rw[hb];rfl,rfl,by unfold dV;rw[hb];rfl⟩
  ·have hb:JE t (p,j+1)=[(p,j),DB t 2 t[p].evs[j].msg]:=by unfold JE;rw[QQ];simp only[k3];rw[if_pos oM];simp
   simp (disch:=first|decide|omega) only[a_rDtl,hA,eT,idA,hgt,ae h1,hjm,YC,CB,iB,reduceCtorEq,go_sem]
   refine QA.nxt (cA _ _) ?_
   simp (disch:=first|decide|omega) only[hA,k3,go_sem]
   refine QA.nxt (cF _ _) ?_
   simp (disch:=first|decide|omega) only[hA,YC,CB,iB,reduceCtorEq,go_sem]
   refine sS 3 1 2 (rows:=[(p,j),DB t 2 t[p].evs[j].msg].map eI2) (by rfl) kR hR hB ?_
   exact⟨by rw[hbl];unfold dV;rw[hb];rfl,rfl,by unfold dV;rw[hb];rfl⟩
 ·cases k3:t[p].evs[j].kind==3
  ·have hb:JE t (p,j+1)=[]:=by unfold JE;rw[QQ];simp only[k3];rw[if_neg oM];simp
   simp (disch:=first|decide|omega) only[a_rDtl,hA,eT,idA,hgt,ag h1,YC,CB,iB,reduceCtorEq,go_sem]
   refine QA.nxt (cA _ _) ?_
   simp (disch:=first|decide|omega) only[hA,k3,go_sem]
   refine IR (.inr rfl) 0 2 kR hR hB ?_
   exact⟨by rw[hbl];unfold dV;rw[hb];rfl,rfl,by unfold dV;rw[hb];rfl⟩
  ·have hb:JE t (p,j+1)=[DB t 2 t[p].evs[j].msg]:=by unfold JE;rw[QQ];simp only[k3];rw[if_neg oM];simp
   simp (disch:=first|decide|omega) only[a_rDtl,hA,eT,idA,hgt,ag h1,YC,CB,iB,reduceCtorEq,go_sem]
   refine QA.nxt (cA _ _) ?_
   simp (disch:=first|decide|omega) only[hA,k3,go_sem]
   refine QA.nxt (cF _ _) ?_
   simp (disch:=first|decide|omega) only[hA,YC,CB,iB,reduceCtorEq,go_sem]
   refine sS 4 0 1 (rows:=[DB t 2 t[p].evs[j].msg].map eI2) (by rfl) kR hR hB ?_
   exact⟨by rw[hbl];unfold dV;rw[hb];rfl,rfl,by unfold dV;rw[hb];rfl⟩
theorem ZC5 (t:Tr) (hS:Small t) (p j:Nat) (hp:p<t.length) (hj:j<t[p].evs.length) (b l:List Row):QA Tryz.prog 178 [.agg [.v (eT t)],idA (p,j+1)] b l (fun r b' l'=>r=.v (.isl 2 ((JE t (p,j+1)).map eI2))∧b'=b∧l'=l):=
 QA.deep (Dv.slV (i:=0) rfl kS) (fU t hS p j hp hj b l)
def a_rPas:AFunc:=({c:=_}:CF Tryz.prog 153).c
theorem ZBA:jA Tryz.prog 153=some a_rPas:=by kernel_rfl
def s8:List (Nat×Nat):=[(5,6),(11,29)]
def nW:List (Nat×Nat):=[(7,10),(33,73)]
def r8:List (Nat×Nat):=[(7,7),(10,10),(61,73)]

theorem U9 {t:Tr} {N:Nat} (h:∀x∈t,x.evs.length≤N):∀p,p≤t.length→(pD t p 0).length≤p*N
 |0,_=>by simp[pD]
 |p+1,hp=>by
   have ih:=U9 h p oM
   have hl:=h _ (am (show p<t.length by omega))
   rw[←gF t p oM,bp]
   have:(pD t p t[p].evs.length).length=(pD t p 0).length+t[p].evs.length:=by simp[pD]
   omega
theorem ZCv {t:Tr} (h:Small t):(ids t).length≤1000000000000:=by
 have:=U9 h.ne t.length (ai _)
 rw[DJ]at this
 have h2:t.length*1000000≤1000000*1000000:=Nat.mul_le_mul h.np (ai _)
 omega
def gN (t:Tr) (p:Nat):Nat:=(iA t p).length+1
def gB (t:Tr) (S:List (Nat×Nat)) (p:Nat):List (List IV):=fl (gN t p) fun k=>[.bool (decide ((p,k)∈S))]
def gC (t:Tr) (base p:Nat):List AV:=[.sl (base+(p+1+1+1)) 0 0 (gN t p)]
def gW (t:Tr) (S:List (Nat×Nat)) (p:Nat):Row:=.live 0 1 (vs (gB t S p))
def EP (t:Tr) (base:Nat) (x:Nat×Nat) (S:List (Nat×Nat)) (n:Nat) (T:List Row):List Row:=.live 0 1 [[.v (.isl 3 (t.map ePr))]]::.live 0 2 [[.v (.int .i64 x.1),.v (.int .i64 x.2)]]::.live n 1 (fl n (gC t base))::(fl n (gW t S)++T)
section
variable {t:Tr} {base n m:Nat} {x:Nat×Nat} {S:List (Nat×Nat)} {T:List Row}
theorem zM:EP t base x S n T=(zTA t)::.live 0 2 [[.v (.int .i64 x.1),.v (.int .i64 x.2)]]::.live n 1 (fl n (gC t base))::(fl n (gW t S)++T):=rfl
theorem EE:(EP t base x S n T).length=n+T.length+3:=by simp[EP,fA]
theorem LQ (hm:base+(n+3)≤m) (hT:tA m T):tA m (EP t base x S n T):=by
 have hp:∀(rows:List (List IV)) row,row∈vs rows→∀c∈row,AVlt m c:=by
  intro rows row h c hc
  obtain⟨r0,_,rfl⟩:=cq.1 h
  obtain⟨x0,_,rfl⟩:=cq.1 hc
  exact .v _
 intro id ver sz els hr row sD c hc
 match id,hr with
 |0,hr=>cases hr;exact hp [[.isl 3 (t.map ePr)]] row sD c hc
 |1,hr=>cases hr;exact hp [[.int .i64 x.1,.int .i64 x.2]] row sD c hc
 |2,hr =>
   cases hr
   obtain⟨j,hj,rfl⟩:=cq.1 sD
   have:=ba.1 hj
   simp only[gC,lu]at hc
   subst hc;exact .sl _ _ _ _ oM
 |id+3,hr =>
   have hr:(fl n (gW t S)++T)[id]? = some (.live ver sz els):=hr
   by_cases hid:id<n
   ·rw[ZBT hid]at hr
    cases hr
    exact hp _ row sD c hc
   ·rw[ar (by rw[fA];omega)]at hr
    exact hT _ _ _ _ hr row sD c hc
theorem ZGH {y:List AV} (h:gC t base n=y):fl n (gC t base)++[y]=fl (n+1) (gC t base):=by unfold fl;rw[fq,bq,←h];rfl
theorem ZGG {y:Row} {r:List Row} (h:gW t S n=y):fl n (gW t S)++y::r=fl (n+1) (gW t S)++r:=by unfold fl;rw[fq,bq,←h,bh];rfl
theorem ZGI {p:Nat}:List.replicate (gN t p) [AV.v (.bool false)]=vs (gB t [] p):=by
 have:gB t [] p=fl (gN t p) fun _=>[IV.bool false]:=YM (fun _ _=>by simp)
 rw[this]
 apply dr
 intro j
 rw[wB]
 by_cases hj:j<gN t p
 ·rw[eD hj,gi,if_pos hj];rfl
 ·rw[mH oM,gi,if_neg hj];rfl
theorem V7 {p:Nat}:(gB t S p).length=gN t p:=fA
theorem ZEB {p k:Nat} (h:k<gN t p):(gB t S p)[k]? = some [.bool (decide ((p,k)∈S))]:=eD h
theorem ZIV {q k:Nat} (hq:q<n):(fl n (gW t S)++T).set q (.live 0 1 (vs ((gB t S q).set k [.bool true])))=fl n (gW t (S++[(q,k)]))++T:=by
 rw[kh _ _ (by rw[fA];exact hq),ZEC]
 congr 1
 refine YM (fun p _=>?_)
 by_cases hp:p=q
 ·subst hp
  rw[SI]
  unfold gW gB
  rw[ZEC]
  congr 2
  refine YM (fun j _=>?_)
  by_cases hj:j=k
  ·subst hj;rw[SI];simp
  ·rw[ZT hj];congr 2;simp[hj]
 ·rw[ZT hp]
  unfold gW gB
  congr 2
  refine YM (fun j _=>?_)
  congr 2;simp[hp]
end
theorem ZAD (t:Tr) (hS:Small t) (hP:Paired t) (p j:Nat) (hp:p<t.length) (hj:j<t[p].evs.length) (b l:List Row):QA Tryz.prog 153 [.agg [.v (eT t)],idA (p,j+1)] b l
  (fun r b' l'=>∃G R:List (List IV),r=.v (.isl 1 G)∧G[p]? = some [.isl 1 R]∧R[j+1]? = some [.bool (hbB t (p,j+1))]∧b'=b∧l'=l):=by
 refine XA ZBA rfl kE ?_
 intro B g hB hR hE hA;simp only[zA]at hA
 have N7:=hS.np
 have hnN:∀q,q<t.length→gN t q≤1000001:=fun q hq=>by
  unfold gN iA;rw[QB dfPr t hq];have:=hS.ne _ (am hq);omega
 have hgN:∀q (hq:q<t.length),gN t q=t[q].evs.length+1:=fun q hq=>by unfold gN iA;rw[QB dfPr t hq]
 have hxm:(p,j+1)∈ids t:=TC.2 ⟨hp,by simp,by simp;omega⟩
 have ZM1:=ZCv hS
 have cD:=fun b l=>fU t hS p j hp hj b l
 simp only[eT,idA]at cD
 simp (disch:=first|decide|omega) only[a_rPas,hA,eT,idA,go_sem]
 refine ZG (ι:=Nat) 5 1 s8 (fun q=>[(6,.v (.int .i64 q)),(5,.sl (B.length+2) q 0 q)]) 3 (fun q=>EP t B.length (p,j+1) [] q [])
  (fun q=>q≤t.length) (fun q=>t.length-q) 0 (aj _) (by simp (disch:=first|decide|omega) only[hA,go_sem]) kE rfl kM kA kF ?_
 intro g1 UG mF rA q hq
 by_cases yA:q<t.length
 ·have BI:=iG yA
  have VG:=hS.ne _ (am yA)
  have hw:IntKind.i64.wrap ((t[q].evs.length:Int)+1)=((gN t q:Nat):Int):=by rw[hgN q yA,dA oM oM];omega
  have hnq:=hnN q yA
  have hz:=ZGI (t:=t) (p:=q)
  have hcn:=ZGH (t:=t) (base:=B.length) (n:=q) rfl
  have htk:(fl q (gC t B.length)).take q=fl q (gC t B.length):=cr (by rw[fA];omega)
  simp only[gC]at hcn
  have hL:=zM (t:=t) (base:=B.length) (x:=(p,j+1)) (S:=[]) (n:=q) (T:=[])
  simp (disch:=first|decide|omega) only[hA,rA,hL,BI,hw,hz,htk,fA,YC,CB,iB,MC,RC,hcn,aa,go_sem]
  refine⟨q+1,yA,by simp only;omega,?_⟩
  exact KA.kround (p:=s8) (k:=3) (junk:=[.live 0 1 [[.sl (B.length+(q+1+1+1)) 0 0 (gN t q)]]]) kQ kA (by have e:=ZGG (t:=t) (S:=[]) (n:=q) (r:=[.live 0 1 [[.sl (B.length+(q+1+1+1)) 0 0 (gN t q)]]]) rfl;simp only[gW]at e;simp only[EP,db,da,dw,gW];rw[e]) UG (by rw[EE];simp) (by rw[EE];simp (disch:=omega) only[EI,lts.down,Nat.reduceLT,Nat.reduceAdd]) hR (LQ (by rw[EE];simp) uE)
 obtain rfl:q=t.length:=by omega
 have hL:=zM (t:=t) (base:=B.length) (x:=(p,j+1)) (S:=[]) (n:=t.length) (T:=[])
 simp (disch:=first|decide|omega) only[hA,rA,hL,db,fA,go_sem]
 clear hL
 refine QA.nxt (cD _ _) ?_
 obtain⟨n,hn⟩:∃n,t.length=n:=⟨_,rfl⟩
 have hlq:(JE t (p,j+1)).length≤2:=VV t _
 simp (disch:=first|decide|omega) only[hA,rA,fA,go_sem]
 refine JA (ι:=List (Nat×Nat)×List (Nat×Nat)×Nat×Nat) nW (fun i=>[(7,.sl (B.length+(t.length+1+1+1)) i.2.2.2 i.2.2.1 (i.2.1.length-i.2.2.1))]) (t.length+4)
  (fun i=>EP t B.length (p,j+1) i.1 t.length [.live i.2.2.2 2 (vs (i.2.1.map eI2))])
  (fun i=>PaI t (p,j+1) i.1 (i.2.1.drop i.2.2.1)∧i.2.2.1≤i.2.1.length∧(i.2.1.drop i.2.2.1).length≤2*i.1.length+2) (fun i=>3*((ids t).length-i.1.length)+(i.2.1.drop i.2.2.1).length)
  ([],JE t (p,j+1),0,dV t (p,j+1)) ⟨PaI.start hP hxm,aj _,by simpa using hlq⟩ kM kA kF ?_
 rintro g2 AJ OP VE ⟨S,els,off,ver⟩ ⟨hI,sQ,pC⟩
 simp only at hI sQ pC
 have ZLk:=hI.few
 have hL:=zM (t:=t) (base:=B.length) (x:=(p,j+1)) (S:=S) (n:=t.length) (T:=[.live ver 2 (vs (els.map eI2))])
 cases hq:els.drop off with
 |nil =>
   have hz0:els.length-off=0:=by have:=congrArg List.length hq;simpa using this
   have hgt:decide (((els.length-off:Nat):Int)>0)=false:=by rw[hz0];rfl
   rw[hq]at hI
   simp (disch:=first|decide|omega) only[hA,rA,VE,hL,hgt,fA,go_sem]
   have JJ:decide ((p,j+1)∈S)=hbB t (p,j+1):=by
    by_cases h:(p,j+1)∈S
    ·rw[ae h,ZCy ((hI.all _ hxm).1 h)]
    ·rw[ag h,ZAb (fun k=>h ((hI.all _ hxm).2 k))]
   refine dB (.inr rfl) (xs:=[.sl (B.length+2) t.length 0 t.length]) (y:=.v (.isl 1 (fl t.length fun q=>[.isl 1 (gB t S q)]))) kR ?_ hR hB ⟨_,gB t S p,rfl,eD hp,by rw[ZEB (by rw[hgN p hp];omega),JJ],rfl,rfl⟩
   refine Dv.slR (i:=2) rfl (by rw[fA];omega) fA (fun k r row h1 h2=>?_)
   rw[cm]at h1
   by_cases hk:k<t.length
   ·rw[eD hk]at h1 h2
    cases h1;cases h2
    refine .cons ?_ .nil
    refine Dv.slV (i:=k+1+1+1) (rows:=gB t S k) ?_ V7.symm
    simp only[ga]
    exact ZBT hk
   ·rw[mH oM]at h1;cases h1
 |cons y R =>
   have hol:off<els.length:=by
    have:=congrArg List.length hq;simp at this;omega
   have hgy:els[off]? = some y:=by
    have:(els.drop off)[0]? = some y:=by rw[hq];rfl
    rwa [de,eo]at this
   have I1:els.drop (off+1)=R:=by rw[←List.drop_drop,hq];rfl
   have hgt:decide (((els.length-off:Nat):Int)>0)=true:=ae oM
   rw[hq]at hI pC
   obtain⟨hym,hyb⟩:=hI.r y kS
   obtain⟨q,k⟩:=y
   obtain⟨hqt,hk1,GN⟩:=TC.1 hym
   simp only at hqt hk1 GN
   obtain⟨k,rfl⟩:∃k',k=k'+1:=⟨k-1,by omega⟩
   have hkl':k<t[q].evs.length:=by omega
   have hnq:=hnN q hqt
   have ZLl:=hgN q hqt
   have VG:=hS.ne _ (am hqt)
   have i0:(0:Int).toNat=0:=rfl
   have i1:(1:Int).toNat=1:=rfl
   have ZK4:(1:Int)≤((els.length-off:Nat):Int):=by omega
   have sN:els.length-off-1=els.length-(off+1):=by omega
   have hgC:=eD (f:=gC t B.length) hqt
   have hgB:=ZEB (t:=t) (S:=S) (p:=q) (k:=k+1) (by rw[ZLl];omega)
   simp only[gC]at hgC
   have hfa:=fun T=>ZBT (C:=gW t S) (T:=T) hqt
   simp only[gW]at hfa
   simp only[ee]at pC
   by_cases hm:(q,k+1)∈S
   ·rw[ae hm]at hgB
    simp (disch:=first|decide|omega) only[hA,rA,VE,hL,hgt,hgy,eI2,i0,i1,ZK4,sN,hgC,hfa,hgB,V7,fA,MC,RC,rB,yB,cellsOf,go_sem]
    refine⟨(S,els,off+1,ver),⟨by simp only;rw[I1];exact hI.skip hm,by simp only;omega,by simp only;rw[I1];omega⟩,by simp only;rw[I1,hq];simp,?_⟩
    exact KA.kround (p:=nW) (k:=t.length+4) (l1:=EP t B.length (p,j+1) S t.length [.live ver 2 (vs (els.map eI2))]) (junk:=[.live 0 2 [[.v (.int .i64 q),.v (.int .i64 ((k+1:Nat):Int))]]]) kQ kA (by simp[EP,gW]) AJ (by rw[EE];simp) (by rw[EE];simp (disch:=omega) only[EI,lts.down,Nat.reduceLT,Nat.reduceAdd]) hR (LQ (by rw[EE];simp) kL)
   rw[ag hm]at hgB
   have cE:=fun b l=>ZC5 t hS q k hqt hkl' b l
   simp only[eT,idA]at cE
   have ZLm:=fun T=>ZIV (t:=t) (S:=S) (T:=T) (k:=k+1) hqt
   have hJ:=hI.mark hm
   have hfw:=hJ.few
   simp only[aq,ee,fh]at hfw
   have b9:(JE t (q,k+1)).length≤2:=VV t _
   simp (disch:=first|decide|omega) only[hA,rA,VE,hL,hgt,hgy,eI2,i0,i1,ZK4,sN,hgC,hfa,hgB,ZLm,V7,fA,MC,RC,rB,yB,cellsOf,go_sem]
   refine QA.nxt (cE _ _) ?_
   simp (disch:=first|decide|omega) only[hA,rA,VE,go_sem]
   refine JA (ι:=Nat×List (Nat×Nat)×Nat×Nat) r8 (fun i=>[(10,.v (.int .i64 i.1)),(7,.sl (B.length+(t.length+1+1+1)) i.2.2.2 i.2.2.1 (i.2.1.length-i.2.2.1))]) (t.length+5)
    (fun i=>EP t B.length (p,j+1) (S++[(q,k+1)]) t.length [.live i.2.2.2 2 (vs (i.2.1.map eI2)),.live 0 2 [[.v (.int .i64 q),.v (.int .i64 ((k+1:Nat):Int))]]])
    (fun i=>i.1≤(JE t (q,k+1)).length∧PaJ t (p,j+1) (q,k+1) (S++[(q,k+1)]) (i.2.1.drop i.2.2.1) i.1∧i.2.2.1≤i.2.1.length∧(i.2.1.drop i.2.2.1).length=R.length+i.1) (fun i=>(JE t (q,k+1)).length-i.1)
    (0,els,off+1,ver) ⟨aj _,by simp only;rw[I1];exact hJ,by simp only;omega,by simp only;rw[I1];rfl⟩ kM kA (fun e=>by simp only[EP,gW];exact KA.refl _ _ _) ?_
   rintro g3 FY UU dH ⟨m,el,o,v⟩ ⟨hml,hJ,ho,FL⟩
   simp only at hml hJ ho FL
   have hL2:=zM (t:=t) (base:=B.length) (x:=(p,j+1)) (S:=S++[(q,k+1)]) (n:=t.length) (T:=[.live v 2 (vs (el.map eI2)),.live 0 2 [[.v (.int .i64 q),.v (.int .i64 ((k+1:Nat):Int))]]])
   by_cases hlm:m<(JE t (q,k+1)).length
   ·obtain⟨z,hz⟩:∃z,(JE t (q,k+1))[m]? = some z:=⟨_,ah hlm⟩
    have CJ:el.length-o≤2000000000010:=by rw[ea]at FL;omega
    have ZLn:List.take (el.length-o) (List.drop o (el.map eI2))++[[.int .i64 z.1,.int .i64 z.2]]=(el.drop o++[z]).map eI2:=by
     rw[cr kS,←gp,bq];rfl
    have ZK2:o+(el.length-o)≤el.length:=by omega
    have ht1:(el.length-o+1)*16≤140737488355328:=by omega
    have ht2:el.length-o+1≤140737488355328:=by omega
    simp (disch:=first|decide|omega) only[hA,rA,VE,dH,hL2,hz,eI2,iB,ZK2,ht1,ht2,fA,MC,RC,rB,yB,YC,CB,go_sem]
    have I0:(el.drop o++[z]).length=el.length-o+1:=by simp
    refine⟨(m+1,el.drop o++[z],0,v+1),⟨hlm,by simp only;rw[gz];exact hJ.push hP hz,aj _,by simp only;rw[gz,I0];rw[ea]at FL;omega⟩,by simp only;omega,?_⟩
    simp only[I0,fd]
    exact KA.kround (p:=r8) (k:=t.length+5) (l1:=EP t B.length (p,j+1) (S++[(q,k+1)]) t.length [.live (v+1) 2 (vs ((el.drop o++[z]).map eI2)),.live 0 2 [[.v (.int .i64 q),.v (.int .i64 ((k+1:Nat):Int))]]]) (junk:=[.live 0 2 [[.v (.int .i64 z.1),.v (.int .i64 z.2)]]]) kQ kA (by rw[←ZLn];simp[EP]) FY (by rw[EE];simp) (by rw[EE];simp (disch:=omega) only[EI,lts.down,Nat.reduceLT,Nat.reduceAdd]) hR (LQ (by rw[EE];simp) kL)
   ·obtain rfl:m=(JE t (q,k+1)).length:=by omega
    simp (disch:=first|decide|omega) only[hA,rA,VE,dH,hL2,fA,go_sem]
    have hlz:(S++[(q,k+1)]).length=S.length+1:=by simp
    refine⟨(S++[(q,k+1)],el,o,v),⟨hJ.fin hP (ai _),ho,by simp only;rw[FL,hlz];omega⟩,by simp only;rw[FL,hlz,hq,ee];omega,?_⟩
    exact KA.kround (p:=nW) (k:=t.length+4) (l1:=EP t B.length (p,j+1) (S++[(q,k+1)]) t.length [.live v 2 (vs (el.map eI2))]) (junk:=[.live 0 2 [[.v (.int .i64 q),.v (.int .i64 ((k+1:Nat):Int))]]]) kQ kA (by simp[EP]) AJ (by rw[EE];simp;done) (by rw[EE];simp (disch:=omega) only[EI,lts.down,Nat.reduceLT,Nat.reduceAdd]) hR (LQ (by rw[EE];simp) kL)
def a_rVld:AFunc:=({c:=_}:CF Tryz.prog 54).c
theorem ZAz:jA Tryz.prog 54=some a_rVld:=by kernel_rfl

theorem TV (t:Tr) (hS:Sm t) (hN:Nm t) (b l:List Row):QA Tryz.prog 54 [.agg [.v (eT t)]] b l (fun r b' l'=>r=.v (.bool (fD t))∧b'=b∧l'=l):=by
 refine XA ZAz rfl kE ?_
 intro B g hB hR hE hA;simp only[zA]at hA
 have cF:=fun b l=>ZAF t hS hN (fun h1 h2 p j hp hj b l=>ZAD t h1 h2 p j hp hj b l) b l
 simp only[eT,idA]at cF
 have hv:(((eE t).2:Int)==0)=fD t:=by unfold fD;rw[dx];simp
 simp (disch:=first|decide|omega) only[a_rVld,hA,eT,go_sem]
 refine QA.nxt (cF _ _) ?_
 simp (disch:=first|decide|omega) only[hA,hv,go_sem]
 exact ZA (xs:=[.v (.bool (fD t))])
attribute [local go_sem] lZ fZ AY OY rS pZ List.replicate_succ List.replicate_zero
theorem j3 (t:Tr) (hS:Small t) (hN:Nm t) (k m:Int) (b l:List Row):QA Tryz.prog 56 [.agg [.v (eT t)],.v (.int .i64 k),.v (.int .i64 m)] b l (fun r b' l'=>r=idA (DB t k m)∧b'=b∧l'=l):=by
 refine QA.of_ext ⟨_,Tryz.func56,by kernel_rfl,by kernel_rfl⟩ (fun F L w vs hr=>?_)
 obtain⟨u,us,rfl,hs,hr2⟩:=YO hN hr
 obtain⟨v,us,rfl,h3,hr2⟩:=AD hr2
 obtain⟨v',us,rfl,h4,hr2⟩:=AD hr2
 obtain rfl:=XG hr2
 cases h3.vI
 cases h4.vI
 refine (ZD6 u t k m w hS hs).mono ?_
 rintro e w' ⟨rfl,he⟩
 exact⟨he,_,_,rfl,aW _ _ _ _,rfl,rfl,rfl⟩

structure CutIn (t:Tr) (cs:List Int):Prop where
 len:cs.length=t.length
 le:∀(k:Nat) (h:k<t.length) (h2:k<cs.length),0≤cs[k]∧cs[k]≤t[k].evs.length
def evp (t:Tr) (p j:Nat):Ev:=gA t (p,j+1)
def toI (t:Tr) (p j:Nat):Nat:=(DB t 3 (evp t p j).msg).2
def lM (t:Tr) (p j i:Nat):Bool:=
 (evp t p j).kind==2&&((evp t p i).kind==2&&((evp t p j).peer==(evp t p i).peer&&(toI t p i != 0&&(toI t p j==0||decide (toI t p i<toI t p j)))))
structure FfI (t:Tr) (p q k last:Nat) (mis:Bool):Prop where
 m1:∀j,j<k→(evp t p j).kind=2→(evp t p j).peer=q→toI t p j=0→mis=true
 m2:mis=true→∃j,j<k∧(evp t p j).kind=2∧(evp t p j).peer=q∧toI t p j=0
 l1:∀j,j<k→(evp t p j).kind=2→(evp t p j).peer=q→toI t p j≤last
 l2:0<last→∃j,j<k∧(evp t p j).kind=2∧(evp t p j).peer=q∧toI t p j=last
 g:∀i,i<k→∀j,j<i→(evp t p i).peer=q→lM t p j i=false
theorem FfI.start (t:Tr) (p q:Nat):FfI t p q 0 0 false:=⟨fun j h=>by omega,fun h=>(by cases h),fun j h=>by omega,fun h=>by omega,fun j h=>by omega⟩
theorem FfI.skip {t:Tr} {p q k last:Nat} {mis:Bool} (h:FfI t p q k last mis) (hk:¬((evp t p k).kind=2∧(evp t p k).peer=q)):FfI t p q (k+1) last mis:=by
 have up:∀j,j<k+1→j<k∨j=k:=fun j hj=>by omega
 refine⟨fun j hj a b c=>?_,fun hm=>?_,fun j hj a b=>?_,fun hl=>?_,fun i hi j hj hp=>?_⟩
 ·rcases up j hj with h1|rfl
  ·exact h.m1 j h1 a b c
  ·exact absurd ⟨a,b⟩ hk
 ·obtain⟨j,h1,h2⟩:=h.m2 hm;exact⟨j,by omega,h2⟩
 ·rcases up j hj with h1|rfl
  ·exact h.l1 j h1 a b
  ·exact absurd ⟨a,b⟩ hk
 ·obtain⟨j,h1,h2⟩:=h.l2 hl;exact⟨j,by omega,h2⟩
 ·rcases up i hi with h1|rfl
  ·exact h.g i h1 j hj hp
  ·have:((evp t p i).kind==2)=false:=by
    cases hh:(evp t p i).kind==2 with
    |false=>rfl
    |true=>exact absurd ⟨by simpa using hh,hp⟩ hk
   unfold lM;rw[this];simp
theorem FfI.next {t:Tr} {p q k last:Nat} (h:FfI t p q k last false) (h1:(evp t p k).kind=2) (h2:(evp t p k).peer=q) (h3:toI t p k≠0) (h4:last≤toI t p k):FfI t p q (k+1) (toI t p k) false:=by
 have up:∀j,j<k+1→j<k∨j=k:=fun j hj=>by omega
 refine⟨fun j hj a b c=>?_,fun hm=>(by cases hm),fun j hj a b=>?_,fun hl=>⟨k,by omega,h1,h2,rfl⟩,fun i hi j hj hp=>?_⟩
 ·rcases up j hj with g|rfl
  ·exact h.m1 j g a b c
  ·exact absurd c h3
 ·rcases up j hj with g|rfl
  ·have:=h.l1 j g a b;omega
  ·exact ai _
 ·rcases up i hi with g|rfl
  ·exact h.g i g j hj hp
  ·unfold lM
   cases hk:(evp t p j).kind==2
   ·simp
   cases he:(evp t p j).peer==(evp t p i).peer
   ·simp
   have hk:(evp t p j).kind=2:=by simpa using hk
   have he:(evp t p j).peer=q:=by rw[←h2];simpa using he
   have hz:(toI t p j==0)=false:=by
    cases hq:toI t p j==0 with
    |false=>rfl
    |true=>exact absurd (h.m1 j hj hk he (by simpa using hq)) kS
   have:=h.l1 j hj hk he
   rw[hz,ag oM];simp
theorem FfI.bad {t:Tr} {p q k last:Nat} {mis:Bool} (h:FfI t p q k last mis) (h1:(evp t p k).kind=2) (h2:(evp t p k).peer=q) (h3:toI t p k≠0) (h4:mis=true∨toI t p k<last):∃j,j<k∧lM t p j k=true:=by
 rcases h4 with h4|h4
 ·obtain⟨j,g1,g2,g3,g4⟩:=h.m2 h4
  refine⟨j,g1,?_⟩
  unfold lM;rw[g2,g3,h1,h2,g4];simp[h3]
 ·obtain⟨j,g1,g2,g3,g4⟩:=h.l2 oM
  refine⟨j,g1,?_⟩
  unfold lM;rw[g2,g3,h1,h2,g4];simp[h3,h4]
theorem CutIn.ok {t:Tr} {cs:List Int} (h:CutIn t cs) (hS:Small t):CutOk t cs:=⟨h.len,hS.np,hS.nv,hS.ne,hS.na,h.le⟩

structure Cutt (t:Tr) (cs:List Int):Prop where
 v:Vok t
 len:cs.length=t.length
 rng:∀p,p<t.length→0≤cAt cs p∧cAt cs p≤(iA t p).length
 ok:∀x∈ids t,(gA t x).kind=3→(x.2:Int)≤cAt cs x.1→((sndr t x).2:Int)≤cAt cs (sndr t x).1
def cN (cs:List Int) (p:Nat):Nat:=(cAt cs p).toNat
section
variable {t:Tr} {cs:List Int} (h:Cutt t cs)
include h
end
theorem bI {t:Tr} (h:Vok t):fD t=true:=by
 unfold fD eE
 have h1:¬(t.length<1∨8<t.length):=by have:=h.lo;have:=h.hi;omega
 rw[if_neg h1]
 have h2:(List.range t.length).find? (fun p=>SC t p != 0)=none:=by
  rw[cw];intro p hp;rw[h.head p (ba.1 hp)];simp
 have h3:(ids t).find? (fun x=>lC t x != 0)=none:=by
  rw[cw];intro x hx;rw[h.form x hx];simp
 have h4:(ids t).find? (fun x=>ZD t x != 0)=none:=by
  rw[cw];intro x hx;rw[h.pair x hx];simp
 simp only[h2,h3,h4]
 split
 ·rename_i x hx
  have:=fx hx
  have hm:=fg hx
  exact absurd (by simpa using this) (h.acyc x hm)
 ·rfl
end Go.Proofs.YtmaokjojbjdpoaaGreatDoor
