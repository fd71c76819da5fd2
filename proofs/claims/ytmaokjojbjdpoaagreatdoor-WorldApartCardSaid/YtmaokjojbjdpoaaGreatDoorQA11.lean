/- Texts of one proof, laid together: R2, X5, X9, XB, XD, XE. No condition. -/
import Derived.Test.YtmaokjojbjdpoaaGreatDoorQA5
import Derived.Test.YtmaokjojbjdpoaaGreatDoorQA2
import Derived.Test.YtmaokjojbjdpoaaGreatDoorQA4
import Derived.Test.YtmaokjojbjdpoaaGreatDoorQA6
import Derived.Test.YtmaokjojbjdpoaaGreatDoorQA9
import Derived.Test.YtmaokjojbjdpoaaGreatDoorQA7
import Derived.Test.YtmaokjojbjdpoaaGreatDoorQA10
set_option linter.unusedSimpArgs false
set_option maxHeartbeats 16000000
set_option maxRecDepth 20000
namespace Go.Proofs.YtmaokjojbjdpoaaGreatDoor
set_option maxHeartbeats 16000000
set_option maxRecDepth 100000
set_option linter.unusedVariables false
set_option linter.unusedSimpArgs false
attribute [local go_sem ↓] vC YB kC xC zD lB yC qD wC dD SA mB jC RA pB qC CA aB nC JB TA uC fB eB zB bB qB OB sB jD iC vD yD nE iD pE mE GB LB
attribute [local go_sem] VB MA CD jB EA sE xD gD wD GK IK uD dC rC sC CC nA QC FA ZC LA UB aop SE LD aD IC GD eC ID fJ SF dF amm AE fC IB qF bD rF comma LC DF lJ IF GF XJ zF VF UE ZJ eqC eqF tG cellsOf xB YC CB UF mI rd rdI fE mk tD AV.cell List.all_cons List.all_nil Bool.and_true Bool.true_and Bool.and_self List.length_cons List.length_nil List.length_append Nat.reduceAdd Nat.reduceSub Nat.reduceMul Nat.zero_add Nat.add_zero List.cons_append List.nil_append List.append_assoc List.append_nil List.getElem?_cons_zero List.getElem?_cons_succ List.getElem?_nil List.set_cons_zero List.set_cons_succ List.drop_zero List.drop_succ_cons List.take_zero List.take_succ_cons List.take_nil List.drop_nil List.map_cons List.map_nil Option.map_some if_true if_false Bool.false_eq_true and_self true_and and_true Nat.reduceLeDiff Nat.reduceLT Nat.le_refl Nat.reduceEqDiff ite_true ite_false beq_self_eq_true beq_true beq_false Bool.not_true Bool.not_false Bool.true_beq Bool.false_beq rE MB wB JD KD zC KC UC VC UD VD dE dA eK YK bK fK kG vG wG yG geI gtI gG decide_true decide_false room List.getElem?_map List.length_map List.length_take Int.toNat_natCast Nat.min_def Nat.min_self kD EC DD tB lD EF zA List.getElem_cons_zero List.getElem_cons_succ
def a_sTr:AFunc:=⟨2,94,[.tmp 4],(.seq (.region [⟨some 2,.box (.t 0),none⟩,⟨some 3,.box (.t 1),none⟩,⟨some 4,.mv (.c (.v (.bool false))),none⟩]) (.seq (.seq (.region [VFx 10 0 2,VLx 11 10,VEx 12 11,VFx 13 0 3,VLx 14 13,VEx 15 14,VNx 16 12 15]) (.cond (.t 16) (.seq (.region [⟨some 4,.mv (.c (.v (.bool false))),none⟩]) .ret) .skip)) (.seq (.seq (.region [⟨some 5,.mv (.c (.v (.int .i64 0))),none⟩]) (.block 0 (.loop (.seq (.seq (.region [VMx 17 5,VFx 18 0 2,VLx 19 18,VEx 20 19,⟨some 21,.bin .lss (.t 17) (.t 20),none⟩]) (.cond (.t 21) .skip (.exit 0))) (.seq (.block 1 (.seq (.draw [⟨0,VFx 24 0 2,[]⟩,⟨1,VLx 25 24,[]⟩,⟨2,VMx 26 5,[]⟩,⟨3,VIx 27 3 25 26,[]⟩,⟨4,⟨some 28,.load (some 3) (.t 27),none⟩,[]⟩,⟨5,VFx 29 0 3,[]⟩,⟨6,VLx 30 29,[]⟩,⟨7,VMx 31 5,[]⟩,⟨8,VIx 32 3 30 31,[]⟩,⟨9,⟨some 33,.load (some 3) (.t 32),none⟩,[]⟩,⟨10,⟨some 6,.alloc [(.v (.str ⟨#[]⟩)),(.v .zsl),(.v .zsl)],none⟩,[VFx 24 0 2,VLx 25 24,VMx 26 5,VIx 27 3 25 26,⟨some 28,.load (some 3) (.t 27),none⟩,VFx 29 0 3,VLx 30 29,VMx 31 5,VIx 32 3 30 31,⟨some 33,.load (some 3) (.t 32),none⟩]⟩,⟨11,⟨some 7,.alloc [(.v (.str ⟨#[]⟩)),(.v .zsl),(.v .zsl)],none⟩,[VFx 24 0 2,VLx 25 24,VMx 26 5,VIx 27 3 25 26,⟨some 28,.load (some 3) (.t 27),none⟩,VFx 29 0 3,VLx 30 29,VMx 31 5,VIx 32 3 30 31,⟨some 33,.load (some 3) (.t 32),none⟩]⟩,⟨12,⟨none,.store 3 (.t 6) (.t 28),none⟩,[VFx 29 0 3,VLx 30 29,VMx 31 5,VIx 32 3 30 31,⟨some 33,.load (some 3) (.t 32),none⟩]⟩,⟨13,⟨none,.store 3 (.t 7) (.t 33),none⟩,[]⟩]) (.seq (.seq (.region [VFx 34 0 6,VLx 35 34,VFx 36 0 7,VLx 37 36,⟨some 38,.binS .neq (.t 35) (.t 37),none⟩,VMx 39 38,VFx 40 1 6 (some (39,false)),VLx 41 40 (some (39,false)),VEx 42 41 (some (39,false)),VFx 43 1 7 (some (39,false)),VLx 44 43 (some (39,false)),VEx 45 44 (some (39,false)),VNx 46 42 45 (some (39,false)),⟨some 47,.pick (.t 39) (.c (.v (.bool true))) (.t 46),none⟩,VMx 48 47,VFx 49 2 6 (some (48,false)),VLx 50 49 (some (48,false)),VEx 51 50 (some (48,false)),VFx 52 2 7 (some (48,false)),VLx 53 52 (some (48,false)),VEx 54 53 (some (48,false)),VNx 55 51 54 (some (48,false)),⟨some 56,.pick (.t 48) (.c (.v (.bool true))) (.t 55),none⟩]) (.cond (.t 56) (.seq (.region [⟨some 4,.mv (.c (.v (.bool false))),none⟩]) .ret) .skip)) (.seq (.seq (.region [⟨some 8,.mv (.c (.v (.int .i64 0))),none⟩]) (.block 2 (.loop (.seq (.seq (.region [VMx 57 8,VFx 58 1 6,VLx 59 58,VEx 60 59,⟨some 61,.bin .lss (.t 57) (.t 60),none⟩]) (.cond (.t 61) .skip (.exit 2))) (.seq (.block 3 (.seq (.draw [⟨0,VFx 64 1 6,[]⟩,⟨1,VLx 65 64,[]⟩,⟨2,VMx 66 8,[]⟩,⟨3,VIx 67 2 65 66,[]⟩,⟨4,⟨some 68,.load (some 2) (.t 67),none⟩,[]⟩,⟨5,VFx 69 1 7,[]⟩,⟨6,VLx 70 69,[]⟩,⟨7,VMx 71 8,[]⟩,⟨8,VIx 72 2 70 71,[]⟩,⟨9,⟨some 73,.load (some 2) (.t 72),none⟩,[]⟩,⟨10,⟨some 74,.eqs true [.s,.i] (.t 68) (.t 73),none⟩,[]⟩]) (.cond (.t 74) (.seq (.region [⟨some 4,.mv (.c (.v (.bool false))),none⟩]) .ret) .skip))) (.region [VMx 62 8,⟨some 63,.bin .add (.t 62) (.c (.v (.int .i64 1))),none⟩,VMx 8 63])))))) (.seq (.region [⟨some 9,.mv (.c (.v (.int .i64 0))),none⟩]) (.block 4 (.loop (.seq (.seq (.region [VMx 75 9,VFx 76 2 6,VLx 77 76,VEx 78 77,⟨some 79,.bin .lss (.t 75) (.t 78),none⟩]) (.cond (.t 79) .skip (.exit 4))) (.seq (.block 5 (.seq (.draw [⟨0,VFx 82 2 6,[]⟩,⟨1,VLx 83 82,[]⟩,⟨2,VMx 84 9,[]⟩,⟨3,VIx 85 5 83 84,[]⟩,⟨4,⟨some 86,.load (some 5) (.t 85),none⟩,[]⟩,⟨5,VFx 87 2 7,[]⟩,⟨6,VLx 88 87,[]⟩,⟨7,VMx 89 9,[]⟩,⟨8,VIx 90 5 88 89,[]⟩,⟨9,⟨some 91,.load (some 5) (.t 90),none⟩,[]⟩,⟨10,⟨some 92,.call (.c (.fn 84 [])) [(.t 86),(.t 91)],none⟩,[]⟩,⟨11,⟨some 93,.not (.t 92),none⟩,[]⟩]) (.cond (.t 93) (.seq (.region [⟨some 4,.mv (.c (.v (.bool false))),none⟩]) .ret) .skip))) (.region [VMx 80 9,⟨some 81,.bin .add (.t 80) (.c (.v (.int .i64 1))),none⟩,VMx 9 81])))))))))) (.region [VMx 22 5,⟨some 23,.bin .add (.t 22) (.c (.v (.int .i64 1))),none⟩,VMx 5 23])))))) (.seq (.region [⟨some 4,.mv (.c (.v (.bool true))),none⟩]) .ret))))⟩
theorem ZDW:jA Tryz.prog 34=some a_sTr:=by kernel_rfl
def ZDp:List (Nat×Nat):=[(4,9),(17,93)]
def ZDo:List (Nat×Nat):=[(4,4),(8,8),(57,74)]
def ZDn:List (Nat×Nat):=[(4,4),(9,9),(75,93)]
def a_sEv:AFunc:=⟨2,59,[.tmp 4],(.seq (.region [⟨some 2,.box (.t 0),none⟩,⟨some 3,.box (.t 1),none⟩,⟨some 4,.mv (.c (.v (.bool false))),none⟩]) (.seq (.seq (.region [VFx 6 0 2,VLx 7 6,VFx 8 0 3,VLx 9 8,VNx 10 7 9,VMx 11 10,VFx 12 1 2 (some (11,false)),VLx 13 12 (some (11,false)),VFx 14 1 3 (some (11,false)),VLx 15 14 (some (11,false)),VNx 16 13 15 (some (11,false)),⟨some 17,.pick (.t 11) (.c (.v (.bool true))) (.t 16),none⟩,VMx 18 17,VFx 19 2 2 (some (18,false)),VLx 20 19 (some (18,false)),VFx 21 2 3 (some (18,false)),VLx 22 21 (some (18,false)),VNx 23 20 22 (some (18,false)),⟨some 24,.pick (.t 18) (.c (.v (.bool true))) (.t 23),none⟩,VMx 25 24,VFx 26 3 2 (some (25,false)),VLx 27 26 (some (25,false)),VFx 28 3 3 (some (25,false)),VLx 29 28 (some (25,false)),VNx 30 27 29 (some (25,false)),⟨some 31,.pick (.t 25) (.c (.v (.bool true))) (.t 30),none⟩,VMx 32 31,VFx 33 4 2 (some (32,false)),VLx 34 33 (some (32,false)),VEx 35 34 (some (32,false)),VFx 36 4 3 (some (32,false)),VLx 37 36 (some (32,false)),VEx 38 37 (some (32,false)),VNx 39 35 38 (some (32,false)),⟨some 40,.pick (.t 32) (.c (.v (.bool true))) (.t 39),none⟩]) (.cond (.t 40) (.seq (.region [⟨some 4,.mv (.c (.v (.bool false))),none⟩]) .ret) .skip)) (.seq (.seq (.region [⟨some 5,.mv (.c (.v (.int .i64 0))),none⟩]) (.block 0 (.loop (.seq (.seq (.region [VMx 41 5,VFx 42 4 2,VLx 43 42,VEx 44 43,⟨some 45,.bin .lss (.t 41) (.t 44),none⟩]) (.cond (.t 45) .skip (.exit 0))) (.seq (.block 1 (.seq (.draw [⟨0,VFx 48 4 2,[]⟩,⟨1,VLx 49 48,[]⟩,⟨2,VMx 50 5,[]⟩,⟨3,VIx 51 2 49 50,[]⟩,⟨4,⟨some 52,.load (some 2) (.t 51),none⟩,[]⟩,⟨5,VFx 53 4 3,[]⟩,⟨6,VLx 54 53,[]⟩,⟨7,VMx 55 5,[]⟩,⟨8,VIx 56 2 54 55,[]⟩,⟨9,⟨some 57,.load (some 2) (.t 56),none⟩,[]⟩,⟨10,⟨some 58,.eqs true [.i,.i] (.t 52) (.t 57),none⟩,[]⟩]) (.cond (.t 58) (.seq (.region [⟨some 4,.mv (.c (.v (.bool false))),none⟩]) .ret) .skip))) (.region [VMx 46 5,⟨some 47,.bin .add (.t 46) (.c (.v (.int .i64 1))),none⟩,VMx 5 47])))))) (.seq (.region [⟨some 4,.mv (.c (.v (.bool true))),none⟩]) .ret))))⟩
theorem ZDZ:jA Tryz.prog 84=some a_sEv:=by kernel_rfl
def ZDu:List (Nat×Nat):=[(4,5),(41,58)]

theorem gX (s:ByteArray):(s==s)=true:=by
 cases s with
 |mk d=>show (d==d)=true;exact jd d
theorem ZCX (x:Ev) (hx:x.asg.length≤1000000) (b l:List Row):QA Tryz.prog 84 [.agg ((eEv x).map .v),.agg ((eEv x).map .v)] b l (fun r b' l'=>r=.v (.bool true)∧b'=b∧l'=l):=by
 refine XA ZDZ rfl kE ?_
 intro B g hB hR hE hA;simp only[zA]at hA
 have ne:∀n:Int,(n != n)=false:=by simp
 simp only[eEv,bl,cd]at hA
 simp (disch:=first|decide|omega) only[a_sEv,hA,ne,aa,go_sem]
 refine JA (ι:=Nat) ZDu (fun i=>[(5,.v (.int .i64 i))]) 2 (fun _=>[.live 0 5 [(zEA x)],.live 0 5 [(zEA x)]])
  (fun i=>i≤x.asg.length) (fun i=>x.asg.length-i) 0 (aj _) kM kA kF ?_
 intro g1 UG mF rA i hi
 by_cases yA:i<x.asg.length
 ·simp (disch:=first|decide|omega) only[hA,rA,ne,uL,aa,go_sem]
  refine⟨i+1,yA,by simp only;omega,?_⟩
  exact KA.kround (p:=ZDu) (k:=2) kQ kA rfl UG kS kV hR kL
 ·simp (disch:=first|decide|omega) only[hA,rA,aa,go_sem]
  exact ZA (xs:=[.v (.bool true)])
theorem ZCU (t:Tr) (hS:Small t) (b l:List Row):QA Tryz.prog 34 [.agg [.v (eT t)],.agg [.v (eT t)]] b l (fun r b' l'=>r=.v (.bool true)∧b'=b∧l'=l):=by
 refine XA ZDW rfl kE ?_
 intro B g hB hR hE hA;simp only[zA]at hA
 have N7:=hS.np
 have ne:∀n:Int,(n != n)=false:=by simp
 have eTe:eT t=.isl 3 (t.map ePr):=rfl
 simp only[eTe]at hA
 simp (disch:=first|decide|omega) only[a_sTr,hA,ne,aa,go_sem]
 refine JA (ι:=Nat) ZDp (fun i=>[(5,.v (.int .i64 i))]) 2 (fun _=>[(zTA t),(zTA t)])
  (fun i=>i≤t.length) (fun i=>t.length-i) 0 (aj _) kM kA kF ?_
 intro g1 UG mF rA i hi
 by_cases yA:i<t.length
 ·have hnv:=hS.nv _ (am yA)
  have VG:=hS.ne _ (am yA)
  have hna:=hS.na _ (am yA)
  simp (disch:=first|decide|omega) only[hA,rA,ePr,ne,gX,aa,go_sem]
  refine JA (ι:=Nat) ZDo (fun i=>[(8,.v (.int .i64 i))]) 4 (fun _=>[(zTA t),(zTA t),.live 0 3 [[.v (.str t[i].name),.v (.isl 2 (t[i].vars.map eVr)),.v (.isl 5 (t[i].evs.map eEv))]],.live 0 3 [[.v (.str t[i].name),.v (.isl 2 (t[i].vars.map eVr)),.v (.isl 5 (t[i].evs.map eEv))]]])
   (fun j=>j≤t[i].vars.length) (fun j=>t[i].vars.length-j) 0 (aj _) kM kA kF ?_
  intro g2 AJ OP VE j hj
  by_cases hjv:j<t[i].vars.length
  ·simp (disch:=first|decide|omega) only[hA,rA,VE,eVr,ne,gX,aa,go_sem]
   refine⟨j+1,hjv,by simp only;omega,?_⟩
   exact KA.kround (p:=ZDo) (k:=4) kQ kA rfl AJ kS kV hR kL
  simp (disch:=first|decide|omega) only[hA,rA,VE,aa,go_sem]
  refine JA (ι:=Nat) ZDn (fun i=>[(9,.v (.int .i64 i))]) 4 (fun _=>[(zTA t),(zTA t),.live 0 3 [[.v (.str t[i].name),.v (.isl 2 (t[i].vars.map eVr)),.v (.isl 5 (t[i].evs.map eEv))]],.live 0 3 [[.v (.str t[i].name),.v (.isl 2 (t[i].vars.map eVr)),.v (.isl 5 (t[i].evs.map eEv))]]])
   (fun j=>j≤t[i].evs.length) (fun j=>t[i].evs.length-j) 0 (aj _) kM kA kF ?_
  intro g3 FY UU dH j hj
  by_cases hjv:j<t[i].evs.length
  ·have cE:=fun b l=>ZCX t[i].evs[j] (hna _ (am hjv)) b l
   simp only[eEv,bl,cd]at cE
   simp (disch:=first|decide|omega) only[hA,rA,VE,dH,eEv,aa,go_sem]
   refine QA.nxt (cE _ _) ?_
   simp (disch:=first|decide|omega) only[hA,rA,VE,dH,go_sem]
   refine⟨j+1,hjv,by simp only;omega,?_⟩
   exact KA.kround (p:=ZDn) (k:=4) kQ kA rfl FY kS kV hR kL
  ·simp (disch:=first|decide|omega) only[hA,rA,VE,dH,aa,go_sem]
   refine⟨i+1,yA,by simp only;omega,?_⟩
   exact KA.kround (p:=ZDp) (k:=2) kQ kA rfl UG kS kV hR kL
 ·simp (disch:=first|decide|omega) only[hA,rA,aa,go_sem]
  exact ZA (xs:=[.v (.bool true)])
def a_sSvc:AFunc:=⟨2,87,[.tmp 4],(.seq (.region [⟨some 2,.box (.t 0),none⟩,⟨some 3,.box (.t 1),none⟩,⟨some 4,.mv (.c (.v (.bool false))),none⟩]) (.seq (.seq (.region [VFx 7 0 2,VLx 8 7,VFx 9 0 3,VLx 10 9,⟨some 11,.binS .neq (.t 8) (.t 10),none⟩,VMx 12 11,VFx 13 2 2 (some (12,false)),VLx 14 13 (some (12,false)),VFx 15 2 3 (some (12,false)),VLx 16 15 (some (12,false)),VNx 17 14 16 (some (12,false)),⟨some 18,.pick (.t 12) (.c (.v (.bool true))) (.t 17),none⟩,VMx 19 18,VFx 20 4 2 (some (19,false)),VLx 21 20 (some (19,false)),VFx 22 4 3 (some (19,false)),VLx 23 22 (some (19,false)),VNx 24 21 23 (some (19,false)),⟨some 25,.pick (.t 19) (.c (.v (.bool true))) (.t 24),none⟩,VMx 26 25,VFx 27 5 2 (some (26,false)),VLx 28 27 (some (26,false)),VFx 29 5 3 (some (26,false)),VLx 30 29 (some (26,false)),VNx 31 28 30 (some (26,false)),⟨some 32,.pick (.t 26) (.c (.v (.bool true))) (.t 31),none⟩,VMx 33 32,VFx 34 1 2 (some (33,false)),VLx 35 34 (some (33,false)),VEx 36 35 (some (33,false)),VFx 37 1 3 (some (33,false)),VLx 38 37 (some (33,false)),VEx 39 38 (some (33,false)),VNx 40 36 39 (some (33,false)),⟨some 41,.pick (.t 33) (.c (.v (.bool true))) (.t 40),none⟩,VMx 42 41,VFx 43 3 2 (some (42,false)),VLx 44 43 (some (42,false)),VEx 45 44 (some (42,false)),VFx 46 3 3 (some (42,false)),VLx 47 46 (some (42,false)),VEx 48 47 (some (42,false)),VNx 49 45 48 (some (42,false)),⟨some 50,.pick (.t 42) (.c (.v (.bool true))) (.t 49),none⟩]) (.cond (.t 50) (.seq (.region [⟨some 4,.mv (.c (.v (.bool false))),none⟩]) .ret) .skip)) (.seq (.seq (.region [⟨some 5,.mv (.c (.v (.int .i64 0))),none⟩]) (.block 0 (.loop (.seq (.seq (.region [VMx 51 5,VFx 52 1 2,VLx 53 52,VEx 54 53,⟨some 55,.bin .lss (.t 51) (.t 54),none⟩]) (.cond (.t 55) .skip (.exit 0))) (.seq (.block 1 (.seq (.draw [⟨0,VFx 58 1 2,[]⟩,⟨1,VLx 59 58,[]⟩,⟨2,VMx 60 5,[]⟩,⟨3,VIx 61 3 59 60,[]⟩,⟨4,⟨some 62,.load (some 3) (.t 61),none⟩,[]⟩,⟨5,VFx 63 1 3,[]⟩,⟨6,VLx 64 63,[]⟩,⟨7,VMx 65 5,[]⟩,⟨8,VIx 66 3 64 65,[]⟩,⟨9,⟨some 67,.load (some 3) (.t 66),none⟩,[]⟩,⟨10,⟨some 68,.eqs true [.i,.i,.i] (.t 62) (.t 67),none⟩,[]⟩]) (.cond (.t 68) (.seq (.region [⟨some 4,.mv (.c (.v (.bool false))),none⟩]) .ret) .skip))) (.region [VMx 56 5,⟨some 57,.bin .add (.t 56) (.c (.v (.int .i64 1))),none⟩,VMx 5 57])))))) (.seq (.seq (.region [⟨some 6,.mv (.c (.v (.int .i64 0))),none⟩]) (.block 2 (.loop (.seq (.seq (.region [VMx 69 6,VFx 70 3 2,VLx 71 70,VEx 72 71,⟨some 73,.bin .lss (.t 69) (.t 72),none⟩]) (.cond (.t 73) .skip (.exit 2))) (.seq (.block 3 (.seq (.draw [⟨0,VFx 76 3 2,[]⟩,⟨1,VLx 77 76,[]⟩,⟨2,VMx 78 6,[]⟩,⟨3,VIx 79 1 77 78,[]⟩,⟨4,VLx 80 79,[]⟩,⟨5,VFx 81 3 3,[]⟩,⟨6,VLx 82 81,[]⟩,⟨7,VMx 83 6,[]⟩,⟨8,VIx 84 1 82 83,[]⟩,⟨9,VLx 85 84,[]⟩,⟨10,VNx 86 80 85,[]⟩]) (.cond (.t 86) (.seq (.region [⟨some 4,.mv (.c (.v (.bool false))),none⟩]) .ret) .skip))) (.region [VMx 74 6,⟨some 75,.bin .add (.t 74) (.c (.v (.int .i64 1))),none⟩,VMx 6 75])))))) (.seq (.region [⟨some 4,.mv (.c (.v (.bool true))),none⟩]) .ret)))))⟩
theorem ZAx:jA Tryz.prog 59=some a_sSvc:=by kernel_rfl
def x8:List (Nat×Nat):=[(4,5),(51,68)]
def y8:List (Nat×Nat):=[(4,4),(6,6),(69,86)]
def a_sWd:AFunc:=({c:=_}:CF Tryz.prog 16).c
theorem ZDV:jA Tryz.prog 16=some a_sWd:=by kernel_rfl
def ZDm:List (Nat×Nat):=[(4,5),(43,61)]
def a_noneW:AFunc:=({c:=_}:CF Tryz.prog 14).c
theorem P5:jA Tryz.prog 14=some a_noneW:=by kernel_rfl

theorem neS (s:ByteArray):(s != s)=false:=by
 show (!(s==s))=false
 rw[gX];rfl
theorem C9 (s:Sv) (hS:SvS s) (b l:List Row):QA Tryz.prog 59 [.agg ((eSv s).map .v),.agg ((eSv s).map .v)] b l (fun r b' l'=>r=.v (.bool true)∧b'=b∧l'=l):=by
 refine XA ZAx rfl kE ?_
 intro B g hB hR hE hA;simp only[zA]at hA
 have heS:(eSv s).map AV.v=(zSA s):=rfl
 rw[heS]at hA
 have FL:=hS.code
 have kW:=hS.vars
 simp (disch:=first|decide|omega) only[a_sSvc,hA,neI,neS,gX,aa,go_sem]
 refine JA (ι:=Nat) x8 (fun i=>[(5,.v (.int .i64 i))]) 2 (fun _=>[.live 0 6 [(zSA s)],.live 0 6 [(zSA s)]])
  (fun i=>i≤s.code.length) (fun i=>s.code.length-i) 0 (aj _) kM kA kF ?_
 intro g1 UG mF rA i hi
 by_cases yA:i<s.code.length
 ·have CI:=gI yA
  simp (disch:=first|decide|omega) only[hA,rA,CI,neI,aa,go_sem]
  refine⟨i+1,yA,by simp only;omega,?_⟩
  exact KA.kround (p:=x8) (k:=2) kQ kA rfl UG kS kV hR kL
 obtain rfl:i=s.code.length:=by omega
 simp (disch:=first|decide|omega) only[hA,rA,aa,go_sem]
 refine JA (ι:=Nat) y8 (fun i=>[(6,.v (.int .i64 i))]) 2 (fun _=>[.live 0 6 [(zSA s)],.live 0 6 [(zSA s)]])
  (fun i=>i≤s.vars.length) (fun i=>s.vars.length-i) 0 (aj _) kM kA kF ?_
 intro g2 AJ OP VE i hi
 by_cases yA:i<s.vars.length
 ·have CI:=tE yA
  simp (disch:=first|decide|omega) only[hA,rA,VE,CI,neI,aa,go_sem]
  refine⟨i+1,yA,by simp only;omega,?_⟩
  exact KA.kround (p:=y8) (k:=2) kQ kA rfl AJ kS kV hR kL
 obtain rfl:i=s.vars.length:=by omega
 simp (disch:=first|decide|omega) only[hA,rA,VE,aa,go_sem]
 exact ZA (xs:=[.v (.bool true)])
theorem KZ (w:Wd) (hS:Small w.tr) (qN:SvsS w.sv) (EY:NwS w.net) (b l:List Row):QA Tryz.prog 16 [.agg ((eWd w).map .v),.agg ((eWd w).map .v)] b l (fun r b' l'=>r=.v (.bool true)∧b'=b∧l'=l):=by
 refine XA ZDV rfl kE ?_
 intro B g hB hR hE hA;simp only[zA]at hA
 have iQ:(eWd w).map AV.v=(zWA w):=rfl
 rw[iQ]at hA
 have JX:=qN.len
 have cN:=fun b l=>ZCV w.net EY b l
 simp only[eNw,bl,cd]at cN
 have cT:=fun b l=>ZCU w.tr hS b l
 simp only[eT]at cT
 simp (disch:=first|decide|omega) only[a_sWd,hA,neI,aa,go_sem]
 refine QA.nxt (cN _ _) ?_
 simp (disch:=first|decide|omega) only[hA,neI,aa,go_sem]
 refine QA.nxt (cT _ _) ?_
 simp (disch:=first|decide|omega) only[hA,neI,aa,go_sem]
 refine JA (ι:=Nat) ZDm (fun i=>[(5,.v (.int .i64 i))]) 2 (fun _=>[.live 0 9 [(eWd w).map .v],.live 0 9 [(eWd w).map .v]])
  (fun i=>i≤w.sv.length) (fun i=>w.sv.length-i) 0 (aj _) kM kA kF ?_
 intro g1 UG mF rA i hi
 rw[iQ]
 by_cases yA:i<w.sv.length
 ·have CI:=CG yA
  have cS:=fun b l=>C9 w.sv[i] (qN.all _ (am yA)) b l
  simp only[eSv,bl,cd]at cS
  simp (disch:=first|decide|omega) only[hA,rA,CI,neI,aa,go_sem]
  refine QA.nxt (cS _ _) ?_
  simp (disch:=first|decide|omega) only[hA,rA,CI,neI,aa,go_sem]
  refine⟨i+1,yA,by simp only;omega,?_⟩
  simp only[iQ]
  exact KA.kround (p:=ZDm) (k:=2) kQ kA rfl UG kS kV hR kL
 obtain rfl:i=w.sv.length:=by omega
 simp (disch:=first|decide|omega) only[hA,rA,aa,go_sem]
 exact ZA (xs:=[.v (.bool true)])
theorem ZAX (b l:List Row):QA Tryz.prog 14 [.agg ((eWd wd0).map .v)] b l (fun r b' l'=>r=.v (.bool true)∧b'=b∧l'=l):=by
 refine XA P5 rfl kE ?_
 intro B g hB hR hE hA;simp only[zA]at hA
 have iQ:(eWd wd0).map AV.v=[.v (.isl 6 []),.v (.int .i64 0),.v (.bool false),.v (.isl 4 []),.v (.isl 1 []),.v (.isl 2 []),.v (.int .i64 0),.v (.int .i64 0),.v (.isl 3 [])]:=rfl
 rw[iQ]at hA
 have cS:∀b l,QA Tryz.prog 16 [.agg [.v (.isl 6 []),.v (.int .i64 0),.v (.bool false),.v (.isl 4 []),.v (.isl 1 []),.v (.isl 2 []),.v (.int .i64 0),.v (.int .i64 0),.v (.isl 3 [])],.agg zZA] b l (fun r b' l'=>r=.v (.bool true)∧b'=b∧l'=l):=fun b l=>by
  refine (KZ wd0 ⟨by simp[wd0],by simp[wd0],by simp[wd0],by simp[wd0]⟩ ⟨by simp[wd0],by simp[wd0]⟩ ⟨by simp[wd0,nw0],by simp[wd0,nw0],by simp[wd0,nw0],by simp[wd0,nw0]⟩ b l).le rfl (fun i x y hx hy=>?_)
  match i,hx,hy with
  |0,hx,hy=>cases hx;cases hy;rw[iQ];exact .refl _
  |1,hx,hy =>
    cases hx;cases hy
    rw[iQ]
    refine .agg _ _ rfl (fun j u v hu hv=>?_)
    match j,hu,hv with
    |0,hu,hv=>cases hu;cases hv;exact .v _ _ (.zsl 6)
    |1,hu,hv=>cases hu;cases hv;exact .refl _
    |2,hu,hv=>cases hu;cases hv;exact .refl _
    |3,hu,hv=>cases hu;cases hv;exact .v _ _ (.zsl 4)
    |4,hu,hv=>cases hu;cases hv;exact .v _ _ (.zsl 1)
    |5,hu,hv=>cases hu;cases hv;exact .v _ _ (.zsl 2)
    |6,hu,hv=>cases hu;cases hv;exact .refl _
    |7,hu,hv=>cases hu;cases hv;exact .refl _
    |8,hu,hv=>cases hu;cases hv;exact .v _ _ (.zsl 3)
 simp (disch:=first|decide|omega) only[a_noneW,hA,cellsOf,go_sem]
 refine QA.nxt (cS _ _) ?_
 simp (disch:=first|decide|omega) only[hA,go_sem]
 exact ZA (xs:=[.v (.bool true)])
def a_few54:AFunc:=({c:=_}:CF Tryz.prog 10).c
theorem U6:jA Tryz.prog 10=some a_few54:=by kernel_rfl
def tZ:List (Nat×Nat):=[(2,3),(5,5),(10,43)]
def a_few541:AFunc:=({c:=_}:CF Tryz.prog 45).c
theorem SY:jA Tryz.prog 45=some a_few541:=by kernel_rfl
def a_few542:AFunc:=({c:=_}:CF Tryz.prog 47).c
theorem DY:jA Tryz.prog 47=some a_few542:=by kernel_rfl
def a_svc54:AFunc:=({c:=_}:CF Tryz.prog 28).c
theorem p5:jA Tryz.prog 28=some a_svc54:=by kernel_rfl
def a_svc541:AFunc:=({c:=_}:CF Tryz.prog 78).c
theorem mY:jA Tryz.prog 78=some a_svc541:=by kernel_rfl
def a_net54:AFunc:=({c:=_}:CF Tryz.prog 29).c
theorem C5:jA Tryz.prog 29=some a_net54:=by kernel_rfl
def a_net541:AFunc:=({c:=_}:CF Tryz.prog 79).c
theorem aY:jA Tryz.prog 79=some a_net541:=by kernel_rfl
def a_IndE54:AFunc:=({c:=_}:CF Tryz.prog 94).c
theorem TY:jA Tryz.prog 94=some a_IndE54:=by kernel_rfl
def lU:List (Nat×Nat):=[(4,5),(8,18)]
def a_ConE54:AFunc:=({c:=_}:CF Tryz.prog 44).c
theorem NY:jA Tryz.prog 44=some a_ConE54:=by kernel_rfl

def KL (e:Ev):Bool:=decide (12<e.asg.length)
def rM (v:Vr):Bool:=decide (40<v.name.size)
def pQ (s:Sv):Bool:=decide (110<s.code.length)||(decide (12<s.vars.length)||decide (40<s.name.size))
def OO (m:Ms):Bool:=decide (30<m.body.length)
def UL (l:List Sv):Bool:=decide (l.length≤10)&&!((List.range l.length).any fun j=>pQ (l.getD j dfSv))
def OI (n:Nw):Bool:=decide (n.l.length≤40)&&(decide (n.tm.length≤40)&&(decide (n.fates.length≤40)&&!((List.range n.l.length).any fun j=>OO (n.l.getD j dfMs))))
theorem zY (e:Ev) (b l:List Row):QA Tryz.prog 45 [.agg ((eEv e).map .v)] b l (fun r b' l'=>r=.v (.bool (KL e))∧b'=b∧l'=l):=by
 refine XA SY rfl kE ?_
 intro B g hB hR hE hA;simp only[zA]at hA
 have hd:decide ((e.asg.length:Int)>12)=KL e:=by unfold KL;rw[dx];simp;omega
 have hd':decide ((12:Int)<e.asg.length)=KL e:=hd
 simp (disch:=first|decide|omega) only[a_few541,hA,eEv,hd,hd',go_sem]
 exact ZA (xs:=[.v (.bool (KL e))])
theorem KY (v:Vr) (b l:List Row):QA Tryz.prog 47 [.agg ((eVr v).map .v)] b l (fun r b' l'=>r=.v (.bool (rM v))∧b'=b∧l'=l):=by
 refine XA DY rfl kE ?_
 intro B g hB hR hE hA;simp only[zA]at hA
 have hd:decide ((v.name.size:Int)>40)=rM v:=by unfold rM;rw[dx];simp;omega
 have hd':decide ((40:Int)<v.name.size)=rM v:=hd
 simp (disch:=first|decide|omega) only[a_few542,hA,eVr,hd,hd',go_sem]
 exact ZA (xs:=[.v (.bool (rM v))])
theorem SX (s:Sv) (b l:List Row):QA Tryz.prog 78 [.agg ((eSv s).map .v)] b l (fun r b' l'=>r=.v (.bool (pQ s))∧b'=b∧l'=l):=by
 refine XA mY rfl kE ?_
 intro B g hB hR hE hA;simp only[zA]at hA
 have d0:decide ((s.name.size:Int)>40)=decide (40<s.name.size):=by rw[dx];simp;omega
 have d0':decide ((40:Int)<s.name.size)=decide (40<s.name.size):=d0
 by_cases h1:110<s.code.length
 ·have d1:decide ((s.code.length:Int)>110)=true:=ae oM
  have d1':decide ((110:Int)<(s.code.length:Int))=true:=d1
  simp (disch:=first|decide|omega) only[a_svc541,hA,eSv,d1,d1',go_sem]
  exact ZA (xs:=[.v (.bool true)]) ⟨by unfold pQ;rw[ae h1];rfl,rfl,rfl⟩
 have d1:decide ((s.code.length:Int)>110)=false:=ag oM
 have d1':decide ((110:Int)<(s.code.length:Int))=false:=d1
 by_cases h2:12<s.vars.length
 ·have d2:decide ((s.vars.length:Int)>12)=true:=ae oM
  have d2':decide ((12:Int)<(s.vars.length:Int))=true:=d2
  simp (disch:=first|decide|omega) only[a_svc541,hA,eSv,d1,d1',d2,d2',go_sem]
  exact ZA (xs:=[.v (.bool true)]) ⟨by unfold pQ;rw[ae h2];simp[one],rfl,rfl⟩
 have d2:decide ((s.vars.length:Int)>12)=false:=ag oM
 have d2':decide ((12:Int)<(s.vars.length:Int))=false:=d2
 simp (disch:=first|decide|omega) only[a_svc541,hA,eSv,d1,d1',d2,d2',d0,d0',go_sem]
 exact ZA (xs:=[.v (.bool (decide (40<s.name.size)))]) ⟨by unfold pQ;rw[ag h1,ag h2];rfl,rfl,rfl⟩
theorem YY (m:Ms) (b l:List Row):QA Tryz.prog 79 [.agg ((eMs m).map .v)] b l (fun r b' l'=>r=.v (.bool (OO m))∧b'=b∧l'=l):=by
 refine XA aY rfl kE ?_
 intro B g hB hR hE hA;simp only[zA]at hA
 have hd:decide ((m.body.length:Int)>30)=OO m:=by unfold OO;rw[dx];simp;omega
 have hd':decide ((30:Int)<(m.body.length:Int))=OO m:=hd
 simp (disch:=first|decide|omega) only[a_net541,hA,eMs,hd,hd',go_sem]
 exact ZA (xs:=[.v (.bool (OO m))])
theorem S2 (L:List Sv) (b l:List Row):QA Tryz.prog 28 [.v (.isl 6 (L.map eSv))] b l (fun r b' l'=>r=.v (.bool (UL L))∧b'=b∧l'=l):=by
 refine XA p5 rfl kE ?_
 intro B g hB hR hE hA;simp only[zA]at hA
 by_cases h1:L.length≤10
 case neg =>
  have d1:decide ((L.length:Int)≤10)=false:=ag oM
  simp (disch:=first|decide|omega) only[a_svc54,hA,d1,go_sem]
  exact ZA (xs:=[.v (.bool false)]) ⟨by unfold UL;rw[ag h1];rfl,rfl,rfl⟩
 have d1:decide ((L.length:Int)≤10)=true:=ae oM
 have cC:=fun B0 l0=>YD sK rK (L.map eSv) 78 [] (fun j=>pQ (L.getD j dfSv)) ZR (by rw[aa];omega) B0 l0 (fun j row hj=>by
  have rG:j<L.length:=by have:=(ak.1 hj).1;rwa [aa]at this
  rw[an,ah rG]at hj
  cases hj
  simp only[YA rG]
  exact SX _ _ _)
 rw[aa]at cC
 simp (disch:=first|decide|omega) only[a_svc54,hA,d1,go_sem]
 refine QA.nxt (cC _ _) ?_
 simp (disch:=first|decide|omega) only[hA,go_sem]
 exact ZA (xs:=[.v (.bool (!(List.range L.length).any fun j=>pQ (L.getD j dfSv)))]) ⟨by unfold UL;rw[ae h1];rfl,rfl,rfl⟩
theorem O3 (n:Nw) (b l:List Row):QA Tryz.prog 29 [.agg ((eNw n).map .v)] b l (fun r b' l'=>r=.v (.bool (OI n))∧b'=b∧l'=l):=by
 refine XA C5 rfl kE ?_
 intro B g hB hR hE hA;simp only[zA]at hA
 have heN:(eNw n).map AV.v=(zNA n):=rfl
 rw[heN]at hA
 by_cases h1:n.l.length≤40
 case neg =>
  have d1:decide ((n.l.length:Int)≤40)=false:=ag oM
  simp (disch:=first|decide|omega) only[a_net54,hA,d1,go_sem]
  exact ZA (xs:=[.v (.bool false)]) ⟨by unfold OI;rw[ag h1];rfl,rfl,rfl⟩
 have d1:decide ((n.l.length:Int)≤40)=true:=ae oM
 by_cases h2:n.tm.length≤40
 case neg =>
  have d2:decide ((n.tm.length:Int)≤40)=false:=ag oM
  simp (disch:=first|decide|omega) only[a_net54,hA,d1,d2,go_sem]
  exact ZA (xs:=[.v (.bool false)]) ⟨by unfold OI;rw[ae h1,ag h2];rfl,rfl,rfl⟩
 have d2:decide ((n.tm.length:Int)≤40)=true:=ae oM
 by_cases h3:n.fates.length≤40
 case neg =>
  have d3:decide ((n.fates.length:Int)≤40)=false:=ag oM
  simp (disch:=first|decide|omega) only[a_net54,hA,d1,d2,d3,go_sem]
  exact ZA (xs:=[.v (.bool false)]) ⟨by unfold OI;rw[ae h1,ae h2,ag h3];rfl,rfl,rfl⟩
 have d3:decide ((n.fates.length:Int)≤40)=true:=ae oM
 have cC:=fun B0 l0=>YD KS US (n.l.map eMs) 79 [] (fun j=>OO (n.l.getD j dfMs)) (fun row h=>by obtain⟨m,_,rfl⟩:=cq.1 h;rfl) (by rw[aa];omega) B0 l0 (fun j row hj=>by
  have rG:j<n.l.length:=by have:=(ak.1 hj).1;rwa [aa]at this
  rw[an,ah rG]at hj
  cases hj
  simp only[YA rG]
  exact YY _ _ _)
 rw[aa]at cC
 simp (disch:=first|decide|omega) only[a_net54,hA,d1,d2,d3,go_sem]
 refine QA.nxt (cC _ _) ?_
 simp (disch:=first|decide|omega) only[hA,go_sem]
 exact ZA (xs:=[.v (.bool (!(List.range n.l.length).any fun j=>OO (n.l.getD j dfMs)))]) ⟨by unfold OI;rw[ae h1,ae h2,ae h3];rfl,rfl,rfl⟩
theorem ZCS {l:List Sv} (h:UL l=true):l.length≤10∧SvsS l:=by
 simp only[UL,au,kf,fu,ba,bc]at h
 obtain⟨h1,h2⟩:=h
 refine⟨h1,by omega,fun s hs=>?_⟩
 obtain⟨j,hj,rfl⟩:=cn hs
 have:=h2 j hj
 rw[YA hj]at this
 simp only[pQ,ge,bc,not_or]at this
 exact⟨by omega,by omega,by omega⟩
theorem ZCl {n:Nw} (h:OI n=true):n.l.length≤40∧n.tm.length≤40∧n.fates.length≤40∧NwS n:=by
 simp only[OI,au,kf,fu,ba,bc]at h
 obtain⟨h1,h2,h3,h4⟩:=h
 refine⟨h1,h2,h3,by omega,by omega,by omega,fun m hm=>?_⟩
 obtain⟨j,hj,rfl⟩:=cn hm
 have:=h4 j hj
 rw[YA hj]at this
 simp only[OO,bc]at this
 omega
theorem ZA8 (v:List (Ev)) (k:Nat) (caps:List AV) (p:Nat→Bool) (hn:v.length≤9223372036854775807) (b l:List Row)
  (hp:∀(i:Nat) (h:i<v.length),QA Tryz.prog k (.agg ((eEv v[i]).map .v)::caps) (b++l) [] (fun r b' l'=>r=.v (.bool (p i))∧b'=b++l∧l'=[])) :
  QA Tryz.prog 94 [.v (.isl 5 (v.map eEv)),.fn k caps] b l (fun r b' l'=>r=.v (.int .i64 (aJ p v.length))∧b'=b∧l'=l):=by
 refine XA TY rfl kE ?_
 intro B g hB hR hE hA;simp only[zA]at hA
 simp (disch:=decide) only[a_IndE54,hA,aa,go_sem]
 refine JA (ι:=Nat) lU (fun i=>[(8,.v (.int .i64 i))]) 0 (fun _=>[])
  (fun i=>i≤v.length∧∀j,j<i→p j=false) (fun i=>v.length-i) 0 ⟨aj _,fun j hj=>by omega⟩ kM kA kF ?_
 rintro g1 UG mF rA i ⟨hi,h0⟩
 by_cases yA:i<v.length
 ·have ZK7:=hp i yA
  try simp only[eEv,bl,cd]at ZK7
  simp (disch:=first|decide|omega) only[hA,rA,eEv,aa,go_sem]
  refine mD _ _ _ _ _ _ (hB▸ZK7) ?_
  rintro r b' l' ⟨rfl,rfl,rfl⟩
  cases hpi:p i
  ·simp (disch:=first|decide|omega) only[hA,rA,hpi,go_sem]
   refine⟨i+1,⟨yA,fun j hj=>?_⟩,by simp only;omega,?_⟩
   ·rcases bj j i with JG|JG
    ·exact h0 j JG
    ·have:j=i:=by omega
     rw[this];exact hpi
   exact KA.kround (p:=lU) (k:=0) kQ kA rfl UG kS kV hR kL
  ·simp (disch:=first|decide|omega) only[hA,rA,hpi,go_sem]
   exact ZA (xs:=[.v (.int .i64 i)]) ⟨by rw[EU yA h0 hpi];rfl,rfl,rfl⟩
 ·simp (disch:=first|decide|omega) only[hA,rA,aa,go_sem]
  obtain rfl:i=v.length:=by omega
  exact ZA (xs:=[.v (.int .i64 (-1))]) ⟨by rw[mP h0];rfl,rfl,rfl⟩
theorem CV (v:List (Ev)) (k:Nat) (caps:List AV) (p:Nat→Bool) (hn:v.length≤9223372036854775807) (b l:List Row)
  (hp:∀(i:Nat) (h:i<v.length),QA Tryz.prog k (.agg ((eEv v[i]).map .v)::caps) (b++l) [] (fun r b' l'=>r=.v (.bool (p i))∧b'=b++l∧l'=[])) :
  QA Tryz.prog 44 [.v (.isl 5 (v.map eEv)),.fn k caps] b l (fun r b' l'=>r=.v (.bool ((List.range v.length).any p))∧b'=b∧l'=l):=by
 refine XA NY rfl kE ?_
 intro B g hB hR hE hA;simp only[zA]at hA
 simp (disch:=decide) only[a_ConE54,hA,go_sem]
 refine QA.nxt (ZA8 v k caps p hn B [] (by rw[db,hB];exact hp)) ?_
 simp (disch:=decide) only[hA,go_sem]
 exact ZA (xs:=[.v (.bool (decide (0≤aJ p v.length)))]) ⟨by rw[FU];rfl,rfl,rfl⟩
def OJ (t:Tr):Nat→Int
 |0=>0
 |i+1=>IntKind.i64.wrap (OJ t i+((iA t i).length:Int))
def OK (t:Tr) (i:Nat):Bool:=decide (80<OJ t (i+1))||(decide (12<(t.getD i dfPr).vars.length)||(decide (40<(t.getD i dfPr).name.size)||((List.range (t.getD i dfPr).evs.length).any (fun j=>KL ((t.getD i dfPr).evs.getD j lI))||(List.range (t.getD i dfPr).vars.length).any (fun j=>rM ((t.getD i dfPr).vars.getD j qO)))))
def yQ (w:Wd):Bool:=!(List.range w.tr.length).any (OK w.tr)&&(decide (w.tr.length≤10)&&(UL w.sv&&OI w.net))
theorem S4 (w:Wd) (hT:w.tr.length≤9223372036854775807) (hM:∀x∈w.tr,x.evs.length≤9223372036854775807) (b l:List Row):QA Tryz.prog 10 [.agg ((eWd w).map .v)] b l (fun r b' l'=>r=.v (.bool (yQ w))∧b'=b∧l'=l):=by
 refine XA U6 rfl kE ?_
 intro B g hB hR hE hA;simp only[zA]at hA
 have iQ:(eWd w).map AV.v=[.v (.isl 6 (w.sv.map eSv)),.v (.int .i64 w.net.now),.v (.bool w.net.fifo),.v (.isl 4 (w.net.l.map eMs)),.v (.isl 1 (w.net.tm.map eI)),.v (.isl 2 (w.net.fates.map eFt)),.v (.int .i64 w.now),.v (.int .i64 w.sent),.v (.isl 3 (w.tr.map ePr))]:=rfl
 rw[iQ]at hA
 obtain⟨t,ht⟩:∃t,w.tr=t:=⟨_,rfl⟩
 rw[ht]at hM hT
 have hfw:yQ w=(!(List.range t.length).any (OK t)&&(decide (t.length≤10)&&(UL w.sv&&OI w.net))):=by unfold yQ;rw[ht]
 rw[hfw]
 have hw0:OJ t 0=0:=rfl
 rw[ht]at hA
 simp (disch:=first|decide|omega) only[a_few54,hA,aa,go_sem]
 refine JA (ι:=Nat) tZ (fun i=>[(10,.v (.int .i64 i)),(3,.v (.int .i64 (OJ t i)))]) 1 (fun i=>[.live 0 9 [(eWd w).map .v]])
  (fun i=>i≤t.length∧OJ t i≤80∧∀j,j<i→OK t j=false) (fun i=>t.length-i) 0 ⟨aj _,by rw[OJ];omega,fun j h=>by omega⟩ kM (by ((try simp (disch:=decide) only[hA,hw0,go_sem])<;>exact kH)) (fun e=>by rw[iQ,ht];exact KA.refl _ _ _) ?_
 rintro g1 UG mF rA i ⟨hi,h40,ZK8⟩
 rw[iQ,ht]
 by_cases S7:i<t.length
 ·have m1:=hM _ (am S7)
  have ZFD:IntKind.i64.wrap (OJ t i+(t[i].evs.length:Int))=OJ t (i+1):=by
   show _=IntKind.i64.wrap (OJ t i+((iA t i).length:Int));rw[aE S7]
  have kJ:t.getD i dfPr=t[i]:=YA S7
  have bad:OK t i=true→(!(List.range t.length).any (OK t)&&(decide (t.length≤10)&&(UL w.sv&&OI w.net)))=false:=fun h=>by
   rw[fe.2 ⟨i,ba.2 S7,h⟩];rfl
  by_cases c1:80<OJ t (i+1)
  ·have d1:decide (OJ t (i+1)>80)=true:=ae oM
   have d1':decide ((80:Int)<OJ t (i+1))=true:=d1
   have hb:=bad (by unfold OK;rw[ae c1];rfl)
   simp (disch:=first|decide|omega) only[hA,rA,ePr,ZFD,d1,d1',aa,go_sem]
   exact ZA (xs:=[.v (.bool false)]) ⟨by rw[hb];rfl,rfl,rfl⟩
  have d1:decide (OJ t (i+1)>80)=false:=ag oM
  have d1':decide ((80:Int)<OJ t (i+1))=false:=d1
  by_cases c2:12<t[i].vars.length
  ·have d2:decide ((t[i].vars.length:Int)>12)=true:=ae oM
   have d2':decide ((12:Int)<(t[i].vars.length:Int))=true:=d2
   have hb:=bad (by unfold OK;rw[kJ,ae c2];simp)
   simp (disch:=first|decide|omega) only[hA,rA,ePr,ZFD,d1,d1',d2,d2',aa,go_sem]
   exact ZA (xs:=[.v (.bool false)]) ⟨by rw[hb];rfl,rfl,rfl⟩
  have d2:decide ((t[i].vars.length:Int)>12)=false:=ag oM
  have d2':decide ((12:Int)<(t[i].vars.length:Int))=false:=d2
  by_cases c3:40<t[i].name.size
  ·have d3:decide ((t[i].name.size:Int)>40)=true:=ae oM
   have d3':decide ((40:Int)<(t[i].name.size:Int))=true:=d3
   have hb:=bad (by unfold OK;rw[kJ,ae c3];simp)
   simp (disch:=first|decide|omega) only[hA,rA,ePr,ZFD,d1,d1',d2,d2',d3,d3',aa,go_sem]
   exact ZA (xs:=[.v (.bool false)]) ⟨by rw[hb];rfl,rfl,rfl⟩
  have d3:decide ((t[i].name.size:Int)>40)=false:=ag oM
  have d3':decide ((40:Int)<(t[i].name.size:Int))=false:=d3
  have ce:=fun b l=>CV t[i].evs 45 [] (fun j=>KL (t[i].evs.getD j lI)) m1 b l (fun j hj=>by simp only[YA hj];exact zY _ _ _)
  have cv:=fun b l=>YD (f:=46) (g:=95) (sz:=2) (by kernel_rfl) (by kernel_rfl) (t[i].vars.map eVr) 47 [] (fun j=>rM (t[i].vars.getD j qO)) (by simp[eVr]) (by simp;omega) b l (fun j row hj=>by
   rw[an]at hj
   obtain⟨x,hx,rfl⟩:=kp.1 hj
   obtain⟨q1,q2⟩:=ak.1 hx
   simp only[YA q1,q2]
   exact KY x _ _)
  rw[aa]at cv
  simp (disch:=first|decide|omega) only[hA,rA,ePr,ZFD,d1,d1',d2,d2',d3,d3',aa,go_sem]
  refine QA.nxt (ce _ _) ?_
  cases c4:(List.range t[i].evs.length).any fun j=>KL (t[i].evs.getD j lI) with
  |true =>
    have hb:=bad (by unfold OK;rw[kJ,c4];simp)
    simp (disch:=first|decide|omega) only[hA,rA,go_sem]
    exact ZA (xs:=[.v (.bool false)]) ⟨by rw[hb];rfl,rfl,rfl⟩
  |false =>
    simp (disch:=first|decide|omega) only[hA,rA,go_sem]
    refine QA.nxt (cv _ _) ?_
    cases c5:(List.range t[i].vars.length).any fun j=>rM (t[i].vars.getD j qO) with
    |true =>
      have hb:=bad (by unfold OK;rw[kJ,c5];simp)
      simp (disch:=first|decide|omega) only[hA,rA,go_sem]
      exact ZA (xs:=[.v (.bool false)]) ⟨by rw[hb];rfl,rfl,rfl⟩
    |false =>
      simp (disch:=first|decide|omega) only[hA,rA,go_sem]
      refine⟨i+1,⟨S7,by omega,fun j hj=>?_⟩,by simp only;omega,?_⟩
      ·by_cases JG:j=i
       ·subst JG
        unfold OK
        rw[kJ,c4,c5,ag c1,ag c2,ag c3];rfl
       ·exact ZK8 j oM
      ·simp only[iQ,ht];exact KA.kround (p:=tZ) (k:=1) kQ (by ((try simp (disch:=decide) only[hA,rA,ZFD,go_sem])<;>exact kH)) rfl UG kS kV hR kL
 ·obtain rfl:i=t.length:=by omega
  have sO:(List.range t.length).any (OK t)=false:=by
   rw[fu];intro j hj;rw[ZK8 j (ba.1 hj)];simp
  rw[sO]
  by_cases h1:t.length≤10
  case neg =>
   have d1:decide ((t.length:Int)≤10)=false:=ag oM
   simp (disch:=first|decide|omega) only[hA,rA,d1,go_sem]
   exact ZA (xs:=[.v (.bool false)]) ⟨by first|rfl|(rw[ag h1];rfl),rfl,rfl⟩
  have d1:decide ((t.length:Int)≤10)=true:=ae oM
  have cN:=fun b l=>O3 w.net b l
  simp only[eNw,bl,cd]at cN
  simp (disch:=first|decide|omega) only[hA,rA,d1,go_sem]
  refine QA.nxt (S2 w.sv _ _) ?_
  cases h2:UL w.sv
  ·simp (disch:=first|decide|omega) only[hA,rA,cellsOf,go_sem]
   exact ZA (xs:=[.v (.bool false)]) ⟨by first|rfl|(rw[ae h1];rfl),rfl,rfl⟩
  simp (disch:=first|decide|omega) only[hA,rA,cellsOf,go_sem]
  refine QA.nxt (cN _ _) ?_
  simp (disch:=first|decide|omega) only[hA,rA,cellsOf,go_sem]
  exact ZA (xs:=[.v (.bool (OI w.net))]) ⟨by first|rfl|(rw[ae h1];rfl),rfl,rfl⟩
theorem ZDF {w:Wd} (hM:∀x∈w.tr,x.evs.length≤9223372036854775807) (h:yQ w=true):Sm w.tr∧SvsS w.sv∧NwS w.net:=by
 simp only[yQ,au,kf,fu,ba,bc]at h
 obtain⟨h1,h2,h3,h4⟩:=h
 have key:∀x∈w.tr,x.vars.length≤12∧∀e∈x.evs,e.asg.length≤12:=by
  intro x hx
  obtain⟨i,hi,rfl⟩:=cn hx
  have:=h1 i hi
  simp only[OK,YA hi,ge,bc,fe,ba,not_or,not_exists,not_and]at this
  refine⟨by omega,fun e he=>?_⟩
  obtain⟨j,hj,rfl⟩:=cn he
  have h3:=this.2.2.2.1 j hj
  rw[YA hj]at h3
  simp only[KL,bc]at h3
  omega
 exact⟨⟨by omega,fun x hx=>by have:=(key x hx).1;omega,hM,fun x hx e he=>by have:=(key x hx).2 e he;omega⟩,(ZCS h3).2,(ZCl h4).2.2.2⟩
structure SmW (w:Wd):Prop where
 tr:Small w.tr
 sv:SvsS w.sv
 net:NwS w.net
theorem WdV.smW {w:Wd} (h:WdV w):SmW w:=⟨h.small,h.svS,h.net.s⟩
theorem sW:SmW wd0:=⟨⟨by simp[wd0],by simp[wd0],by simp[wd0],by simp[wd0]⟩,⟨by simp[wd0],by simp[wd0]⟩,⟨by simp[wd0,nw0],by simp[wd0,nw0],by simp[wd0,nw0],by simp[wd0,nw0]⟩⟩
theorem zZ:∀(o:List Int) {w:Wd},WdV w→SmW (zS w o).1
 |[],w,hw=>hw.smW
 |x::r,w,hw=>by
   simp only[zS]
   split
   ·rename_i h;exact zZ r (WO hw h)
   ·exact sW
theorem ZCY {w:Wd} (o:List Int):SmW (runW w o).1:=by
 unfold runW
 split
 ·rename_i h
  split
  ·exact sW
  ·exact zZ o (WdV.of h)
 ·exact sW
theorem SmW.same {w:Wd} (h:SmW w) (b l:List Row):QA Tryz.prog 16 [.agg ((eWd w).map .v),.agg ((eWd w).map .v)] b l (fun r b' l'=>r=.v (.bool true)∧b'=b∧l'=l):=KZ w h.tr h.sv h.net b l
def qtS (s:Sv) (x:In):Option (Sv×Ev):=
 if x.op=1 then some ({s with pc:=s.pc+1}.put x.a.toNat x.b,yO 1 0 0 x.a.toNat x.b)
 else if x.op=2 then
  (if vlB (s.vars.getD x.a.toNat 0+x.b)=true then some ({s with pc:=s.pc+1}.put x.a.toNat (s.vars.getD x.a.toNat 0+x.b),yO 1 0 0 x.a.toNat (s.vars.getD x.a.toNat 0+x.b)) else none)
 else if x.op=6 then
  (if 0<s.vars.getD x.b.toNat 0 then some ({s with pc:=x.a}.put x.b.toNat (s.vars.getD x.b.toNat 0-1),yO 1 0 0 x.b.toNat (s.vars.getD x.b.toNat 0-1)) else some ({s with pc:=s.pc+1},dfEv54))
 else some ({s with pc:=s.pc+1},dfEv54)
def qtW (w:Wd) (p:Nat):Option (Sv×Ev)→Wd×Int
 |some y=>(aF w p y.1 y.2,0)
 |none=>(wd0,9)
def H7 (n:Int):Prop:=n≠3∧n≠4∧n≠5
theorem M9 {w:Wd} {p:Nat} {s:Sv} {x:In} (h:H7 x.op):stI w p s x=qtW w p (qtS s x):=by
 obtain⟨h3,h4,h5⟩:=h
 unfold stI qtS
 by_cases c1:x.op=1
 ·rw[if_pos c1,if_pos c1];rfl
 rw[if_neg c1,if_neg c1]
 by_cases c2:x.op=2
 ·rw[if_pos c2,if_pos c2];split<;>rfl
 rw[if_neg c2,if_neg c2]
 by_cases c6:x.op=6
 ·rw[if_pos c6,if_pos c6];split<;>rfl
 rw[if_neg c6,if_neg c6,if_neg h3,if_neg oM];rfl
def qtA (w:Wd) (p:Nat):Option (Sv×Ev):=qtS (w.sv.getD p dfSv) ((w.sv.getD p dfSv).code.getD (w.sv.getD p dfSv).pc.toNat dN)
theorem P9 {w:Wd} {p:Nat} (h:H7 (QJ (w.sv.getD p dfSv))):stW w p=qtW w p (qtA w p):=M9 h
theorem cU {w:Wd} (hw:WdV w) {p:Nat} (hp:p<w.sv.length) (he:SD w p=true) (h:H7 (QJ (w.sv.getD p dfSv))):yL w (p:Int)=qtW w p (qtA w p):=by
 unfold yL EM
 rw[if_pos oM,if_pos hw.to,if_neg oM,cj,if_pos he,P9 h]
theorem GJ {w:Wd} {i j:Nat} {s:Sv} {e:Ev} (h:i≠j):(aF w i s e).sv.getD j dfSv=w.sv.getD j dfSv∧(aF w i s e).tr.getD j dfPr=w.tr.getD j dfPr:=by
 unfold aF nB
 simp only[ap,bf h,and_self]
theorem ZAH {w:Wd} {i j:Nat} {s:Sv} {e:Ev} (h:i≠j):SD (aF w i s e) j=SD w j:=by
 unfold SD iA
 rw[(GJ h).1,(GJ h).2];rfl
theorem ZAI {w:Wd} {i j:Nat} {s u:Sv} {e f:Ev} (h:i≠j):aF (aF w i s e) j u f=aF (aF w j u f) i s e:=by
 have h1:=(GJ (w:=w) (s:=s) (e:=e) h).2
 have h2:=(GJ (w:=w) (s:=u) (e:=f) h.symm).2
 have e1:(w.sv.set i s).set j u=(w.sv.set j u).set i s:=List.set_comm _ _ h
 have e2:nB (nB w.tr i {e with time:=nH s w.now}) j {f with time:=nH u w.now}=nB (nB w.tr j {f with time:=nH u w.now}) i {e with time:=nH s w.now}:=by
  unfold nB
  simp only[ap,bf h,bf h.symm]
  exact List.set_comm _ _ h
 unfold aF
 simp only[e1,e2]
theorem qV {w:Wd} (hw:WdV w) {i j:Nat} (uQ:i≠j) (hi:i<w.sv.length) (hj:j<w.sv.length) (ei:SD w i=true) (ej:SD w j=true) (qi:H7 (QJ (w.sv.getD i dfSv))) (qj:H7 (QJ (w.sv.getD j dfSv))) :
  runW w [(i:Int),(j:Int)]=match qtA w i,qtA w j with
   |some a,some c=>(aF (aF w i a.1 a.2) j c.1 c.2,0)
   |_,_=>(wd0,9):=by
 unfold runW
 rw[if_pos hw.to,if_neg kS]
 have o1:=cU hw hi ei qi
 simp only[zS]
 rw[o1]
 cases ha:qtA w i with
 |none=>rfl
 |some a =>
   rw[ha]at o1
   have hv:=WO hw (x:=i) (by rw[o1];rfl)
   rw[o1]at hv
   have hv:WdV (aF w i a.1 a.2):=hv
   have hg:=GJ (w:=w) (s:=a.1) (e:=a.2) uQ
   have o2:=cU hv (p:=j) (by rw[(ZC7 w i a.1 a.2).1];exact hj) (by rw[ZAH uQ];exact ej) (by rw[hg.1];exact qj)
   have hA:qtA (aF w i a.1 a.2) j=qtA w j:=by unfold qtA;rw[hg.1]
   rw[hA]at o2
   simp only[qtW,if_true,o2]
   cases hc:qtA w j with
   |none=>rfl
   |some c=>rfl
theorem Z5 {w:Wd} (hw:WdV w) {i j:Nat} (uQ:i≠j) (hi:i<w.sv.length) (hj:j<w.sv.length) (ei:SD w i=true) (ej:SD w j=true) (qi:H7 (QJ (w.sv.getD i dfSv))) (qj:H7 (QJ (w.sv.getD j dfSv))) :
  runW w [(j:Int),(i:Int)]=runW w [(i:Int),(j:Int)]∧((runW w [(i:Int),(j:Int)]).2=0∨runW w [(i:Int),(j:Int)]=(wd0,9)):=by
 rw[qV hw uQ hi hj ei ej qi qj,qV hw uQ.symm hj hi ej ei qj qi]
 cases qtA w i with
 |none=>cases qtA w j<;>exact⟨rfl,.inr rfl⟩
 |some a =>
   cases qtA w j with
   |none=>exact⟨rfl,.inr rfl⟩
   |some c=>exact⟨by simp only[ZAI uQ.symm],.inl rfl⟩
def a_lwApC:AFunc:=({c:=_}:CF Tryz.prog 18).c
theorem Y6:jA Tryz.prog 18=some a_lwApC:=by kernel_rfl
def a_lwApt:AFunc:=({c:=_}:CF Tryz.prog 4).c
theorem Q6:jA Tryz.prog 4=some a_lwApt:=by kernel_rfl

theorem ZGB {b l:List Row} {q:Nat} (h:q<b.length):hget b l q=b[q]?:=by unfold hget;rw[if_pos h]
def ZBS (n:Int):Bool:=(n != 3)&&((n != 4)&&(n != 5))
def qtB (w:Wd) (k:Nat):Bool:=SD w k&&ZBS (QJ (w.sv.getD k dfSv))
theorem N8 {w:Wd} {k:Nat} (h:qtB w k=true):SD w k=true∧H7 (QJ (w.sv.getD k dfSv)):=by
 unfold qtB ZBS at h
 simp only[au,bne_iff_ne]at h
 exact⟨h.1,h.2⟩
theorem bR (w:Wd) (hw:WdV w) (k:Nat) (hk:k<w.sv.length) (q:Nat) (b l:List Row) (sD:(b++l)[q]? = some (.live 0 9 [(eWd w).map .v])) :
  QA Tryz.prog 18 [.v (.int .i64 k),.ptr q 0 0 0] b l (fun r b' l'=>r=.v (.bool (qtB w k))∧b'=b∧l'=l):=by
 refine XA Y6 rfl kE ?_
 intro B g hB hR hE hA;simp only[zA]at hA
 rw[←hB]at sD
 have hq:q<B.length:=(ak.1 sD).1
 have hg:∀l,hget B l q=some (.live 0 9 [(eWd w).map .v]):=fun l=>by rw[ZGB hq];exact sD
 have qN:=hw.svS
 have cR:=fun b l=>LV w qN hw.small hw.sv hw.len (by have:=hw.net.l;omega) (MF.2 hw.net) k hk (by unfold ptB;simp;have:=(aN hw.sv).2;omega) b l
 rw[tC]at cR hg
 have FM:=CG hk
 have hSs:=qN.all _ (am hk)
 simp (disch:=first|decide|omega) only[a_lwApC,hA,hg,cellsOf,go_sem]
 refine QA.nxt (cR _ _) ?_
 cases t1:SD w k
 ·simp (disch:=first|decide|omega) only[hA,go_sem]
  exact ZA (xs:=[.v (.bool false)]) ⟨by unfold qtB;rw[t1];rfl,rfl,rfl⟩
 have uI:=PQ hw.sv hk
 have kJ:w.sv.getD k dfSv=w.sv[k]:=YA hk
 have he:UH w.sv[k]=false:=by
  unfold SD at t1
  rw[kJ]at t1
  cases hz:UH w.sv[k]
  ·rfl
  ·rw[hz]at t1;simp at t1
 have VG:w.sv[k].pc≠w.sv[k].code.length:=fun h=>by
  unfold UH at he
  rw[ae h]at he;simp at he
 obtain⟨c,hc⟩:∃c:Nat,w.sv[k].pc=c:=⟨w.sv[k].pc.toNat,by have:=uI.1;omega⟩
 have FL:c<w.sv[k].code.length:=by have:=uI.2;omega
 have CI:=gI FL
 have hop:QJ w.sv[k]=w.sv[k].code[c].op:=by unfold QJ;rw[hc,cj,YA FL]
 have hQ:qtB w k=ZBS w.sv[k].code[c].op:=by unfold qtB;rw[t1,kJ,hop];rfl
 rw[hQ]
 unfold ZBS
 generalize w.sv[k].code[c].op=o at *
 cases c3:(o != 3)
 ·simp (disch:=first|decide|omega) only[hA,hg,FM,hc,CI,c3,aa,go_sem]
  exact ZA (xs:=[.v (.bool false)]) ⟨by rfl,rfl,rfl⟩
 cases c4:(o != 4)
 ·simp (disch:=first|decide|omega) only[hA,hg,FM,hc,CI,c3,c4,aa,go_sem]
  exact ZA (xs:=[.v (.bool false)]) ⟨by rfl,rfl,rfl⟩
 simp (disch:=first|decide|omega) only[hA,hg,FM,hc,CI,c3,c4,aa,go_sem]
 exact ZA (xs:=[.v (.bool (o != 5))]) ⟨by rfl,rfl,rfl⟩
theorem aQ (w:Wd) (hN:Nm w.tr) (hT:w.tr.length≤9223372036854775807) (hM:∀x∈w.tr,x.evs.length≤9223372036854775807) (p q:Int) (hp:0≤p∧p<256) (hq:0≤q∧q<256) (b l:List Row) :
  QA Tryz.prog 4 [.agg ((eWd w).map .v),.v (.int .u8 p),.v (.int .u8 q)] b l (fun r b' l'=>r=.v (.bool true)∧b'=b∧l'=l):=by
 refine XA Q6 rfl kE ?_
 intro B g hB hR hE hA;simp only[zA]at hA
 obtain⟨p,rfl⟩:∃k:Nat,p=k:=⟨p.toNat,by omega⟩
 obtain⟨q,rfl⟩:∃k:Nat,q=k:=⟨q.toNat,by omega⟩
 have cF:=fun b l=>S4 w hT hM b l
 have b99:((9:Int)==9)=true:=rfl
 have n00:((0:Int) != 0)=false:=rfl
 have n90:((9:Int) != 0)=true:=rfl
 rw[tC]at hA cF
 simp (disch:=first|decide|omega) only[a_lwApt,hA,cellsOf,go_sem]
 refine QA.nxt (yK _ _) ?_
 simp (disch:=first|decide|omega) only[hA,cellsOf,go_sem]
 refine QA.nxt (cF _ _) ?_
 cases g1:yQ w
 ·simp (disch:=first|decide|omega) only[hA,cellsOf,go_sem]
  refine QA.nxt (yK _ _) ?_
  simp (disch:=first|decide|omega) only[hA,go_sem]
  exact ZA (xs:=[.v (.bool true)])
 obtain⟨hS,qN,EY⟩:=ZDF hM g1
 have cRV:=fun b l=>jT w hS hN qN EY b l
 have cZ:=fun b l=>ZAX b l
 cases t1:wdB w
 ·rw[t1]at cRV
  simp only[tC]at cRV
  simp (disch:=first|decide|omega) only[hA,cellsOf,go_sem]
  refine QA.nxt (cRV _ _) ?_
  simp (disch:=first|decide|omega) only[hA,cellsOf,go_sem]
  refine QA.nxt (yK _ _) ?_
  simp (disch:=first|decide|omega) only[hA,go_sem]
  exact ZA (xs:=[.v (.bool true)])
 have hw:=WdV.of t1
 have hs8:=aN hw.sv
 rw[t1]at cRV
 obtain⟨n,hn⟩:∃n,w.sv.length=n:=⟨_,rfl⟩
 have w1:IntKind.i64.wrap (p:Int)=p:=dA oM oM
 have w2:IntKind.i64.wrap (q:Int)=q:=dA oM oM
 have m1:Int.tmod (p:Int) (w.sv.length:Int)=((p % w.sv.length:Nat):Int):=rfl
 have m2:Int.tmod (q:Int) (w.sv.length:Int)=((q % w.sv.length:Nat):Int):=rfl
 have hi:p % w.sv.length<w.sv.length:=Nat.mod_lt _ oM
 have hj:q % w.sv.length<w.sv.length:=Nat.mod_lt _ oM
 have n0:((w.sv.length:Int)=0)=False:=eq_false oM
 generalize p % w.sv.length=i at *
 generalize q % w.sv.length=j at *
 have sD:∀T,(B++Row.live 0 9 [(eWd w).map .v]::T)[B.length]? = some (.live 0 9 [(eWd w).map .v]):=fun T=>by rw[ar (ai _),eh];rfl
 have cI:=fun T=>bR w hw i hi B.length B _ (sD T)
 have cJ:=fun T=>bR w hw j hj B.length B _ (sD T)
 have cA:=fun b l=>pO w hS hN qN EY [(i:Int),(j:Int)] kS kS b l
 have cB:=fun b l=>pO w hS hN qN EY [(j:Int),(i:Int)] kS kS b l
 simp only[tC,bl,cd,eI]at cRV cI cJ cA cB cZ
 simp (disch:=first|decide|omega) only[hA,cellsOf,go_sem]
 refine QA.nxt (cRV _ _) ?_
 cases uQ:((i:Int)==(j:Int))
 rotate_left
 ·simp (disch:=first|decide|omega) only[hA,w1,w2,m1,m2,n0,uQ,aa,go_sem]
  exact ZA (xs:=[.v (.bool true)])
 simp (disch:=first|decide|omega) only[hA,w1,w2,m1,m2,n0,uQ,aa,go_sem]
 refine QA.nxt (cI _) ?_
 cases q1:qtB w i
 ·simp (disch:=first|decide|omega) only[hA,uQ,aa,go_sem]
  exact ZA (xs:=[.v (.bool true)])
 simp (disch:=first|decide|omega) only[hA,uQ,aa,go_sem]
 refine QA.nxt (cJ _) ?_
 cases q2:qtB w j
 ·simp (disch:=first|decide|omega) only[hA,uQ,aa,go_sem]
  exact ZA (xs:=[.v (.bool true)])
 have VG:i≠j:=fun h=>by subst h;simp at uQ
 obtain⟨e1,o1⟩:=N8 q1
 obtain⟨e2,o2⟩:=N8 q2
 obtain⟨hs,ho⟩:=Z5 hw VG hi hj e1 e2 o1 o2
 rw[hs]at cB
 have cQ:=fun b l=>(ZCY (w:=w) [(i:Int),(j:Int)]).same b l
 generalize runW w [(i:Int),(j:Int)]=st at *
 simp only[tC]at cA cB cQ
 simp (disch:=first|decide|omega) only[hA,uQ,YC,CB,iB,bx,ca,gh,gv,go_sem]
 refine QA.frzB (i:=1) (ver:=0) (sz:=1) (rows:=[[.int .i64 i],[.int .i64 j]]) (args':=[.agg (zWA w),.v (.isl 1 [[.int .i64 i],[.int .i64 j]])]) rfl (by simp[frz,YF]) ?_
 refine QA.nxt (cA _ _) ?_
 simp (disch:=first|decide|omega) only[hA,uQ,YC,CB,iB,bx,ca,gh,gv,go_sem]
 refine QA.frzB (i:=3) (ver:=0) (sz:=1) (rows:=[[.int .i64 j],[.int .i64 i]]) (args':=[.agg (zWA w),.v (.isl 1 [[.int .i64 j],[.int .i64 i]])]) rfl (by simp[frz,YF]) ?_
 refine QA.nxt (cB _ _) ?_
 rcases ho with ho|ho
 ·rw[ho]
  simp (disch:=first|decide|omega) only[hA,n00,aa,go_sem]
  refine QA.nxt (cQ _ _) ?_
  simp (disch:=first|decide|omega) only[hA,go_sem]
  exact ZA (xs:=[.v (.bool true)])
 ·subst ho
  simp only
  simp (disch:=first|decide|omega) only[hA,n90,b99,aa,go_sem]
  refine QA.nxt (cZ _ _) ?_
  simp (disch:=first|decide|omega) only[hA,b99,go_sem]
  refine QA.nxt (cZ _ _) ?_
  simp (disch:=first|decide|omega) only[hA,go_sem]
  exact ZA (xs:=[.v (.bool true)])
theorem ZDe {n:Int} (h:(Lit.int .u8 n).wf=true):0≤n∧n<256:=by
 have h1:(decide (IntKind.min .u8≤n)&&decide (n≤IntKind.max .u8))=true:=h
 rw[show IntKind.min .u8=0 from rfl,show IntKind.max .u8=255 from by decide]at h1
 simp at h1
 omega
end Go.Proofs.YtmaokjojbjdpoaaGreatDoor
