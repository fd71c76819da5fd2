/- Texts of one proof, laid together: BE, BF, BG, BH, BJ, BK, BM, BN, BU, BX, BY, BR, NP, BS, NL, NU, NR, BT, X1. No condition. -/
import Derived.Test.YtmaokjojbjdpoaaGreatDoorQA7
import Derived.Test.YtmaokjojbjdpoaaGreatDoorQA8
import Derived.Test.YtmaokjojbjdpoaaGreatDoorQA2
import Derived.Test.YtmaokjojbjdpoaaGreatDoorQA4
import Derived.Test.YtmaokjojbjdpoaaGreatDoorQA6
import Derived.Test.YtmaokjojbjdpoaaGreatDoorQA5
import Derived.Test.YtmaokjojbjdpoaaGreatDoorQA1
set_option linter.unusedSimpArgs false
set_option maxHeartbeats 8000000
set_option maxRecDepth 20000
namespace Go.Proofs.YtmaokjojbjdpoaaGreatDoor
set_option maxHeartbeats 16000000
set_option maxRecDepth 100000
set_option linter.unusedVariables false
set_option linter.unusedSimpArgs false
attribute [local go_sem ↓] vC YB kC xC zD lB yC qD wC dD SA mB jC RA pB qC CA aB nC JB TA uC fB eB zB bB qB OB sB jD iC vD yD nE iD pE mE GB LB
attribute [local go_sem] VB MA CD jB EA sE xD gD wD GK IK uD dC rC sC CC nA QC FA ZC LA UB aop SE LD aD IC GD eC ID fJ SF dF amm AE fC IB qF bD rF comma LC DF lJ IF GF XJ zF VF UE ZJ eqC eqF tG cellsOf xB YC CB UF mI rd rdI fE mk tD AV.cell List.all_cons List.all_nil Bool.and_true Bool.true_and Bool.and_self List.length_cons List.length_nil List.length_append Nat.reduceAdd Nat.reduceSub Nat.reduceMul Nat.zero_add Nat.add_zero List.cons_append List.nil_append List.append_assoc List.append_nil List.getElem?_cons_zero List.getElem?_cons_succ List.getElem?_nil List.set_cons_zero List.set_cons_succ List.drop_zero List.drop_succ_cons List.take_zero List.take_succ_cons List.take_nil List.drop_nil List.map_cons List.map_nil Option.map_some if_true if_false Bool.false_eq_true and_self true_and and_true Nat.reduceLeDiff Nat.reduceLT Nat.le_refl Nat.reduceEqDiff ite_true ite_false beq_self_eq_true beq_true beq_false Bool.not_true Bool.not_false Bool.true_beq Bool.false_beq rE MB wB JD KD zC KC UC VC UD VD dE dA eK YK bK fK kG vG wG yG geI gtI gG decide_true decide_false room List.getElem?_map List.length_map List.length_take Int.toNat_natCast Nat.min_def Nat.min_self kD EC DD tB lD EF zA List.getElem_cons_zero List.getElem_cons_succ
def a_r54Valid:AFunc:=({c:=_}:CF Tryz.prog 13).c
theorem rT:jA Tryz.prog 13=some a_r54Valid:=by kernel_rfl
def iP:List (Nat×Nat):=[(2,6),(50,97)]
def mL:List (Nat×Nat):=[(2,3),(6,6),(73,97)]
def uP:List (Nat×Nat):=[(2,2),(7,9),(98,142)]
def a_rAt54:AFunc:=({c:=_}:CF Tryz.prog 57).c
theorem D5:jA Tryz.prog 57=some a_rAt54:=by kernel_rfl

theorem i3 (t:Tr) (hS:Small t) (p i:Nat) (hp:p<t.length) (hi:i<t[p].evs.length) (b l:List Row) :
  QA Tryz.prog 57 [.agg [.v (.isl 3 (t.map ePr))],.agg [.v (.int .i64 p),.v (.int .i64 ((i+1:Nat):Int))]] b l (fun r b' l'=>r=.agg (zEA t[p].evs[i])∧b'=b∧l'=l):=by
 refine XA D5 rfl kE ?_
 intro B g hB hR hE hA;simp only[zA]at hA
 have VG:=hS.ne _ (am hp)
 have N7:=hS.np
 have BI:=wI hp
 have xH:=AG hi
 have yU:((i+1:Nat):Int)-1=(i:Int):=by omega
 simp (disch:=first|decide|omega) only[a_rAt54,hA,BI,xH,yU,aa,go_sem]
 exact ZA (xs:=[.agg (zEA t[p].evs[i])])
theorem S9 {w:Wd} (t5:fD w.tr=true):(∀x∈w.tr,x.evs.length≤64):=fun x hx=>by
 obtain⟨p,hp,rfl⟩:=cn hx
 have hh:=(vok t5).head p hp
 unfold SC at hh
 rw[QB dfPr w.tr hp]at hh
 split at hh
 ·cases hh
 split at hh
 ·cases hh
 split at hh
 ·rename_i hc;exact absurd hh hc
 split at hh
 ·cases hh
 ·omega
theorem ZDi {l:List Sv} (t1:bF l=true):∀p (h:p<l.length),l[p].vars.length≤8:=fun p hp=>by
 unfold bF at t1
 rw[au,bg]at t1
 have:=t1.2 p (ba.2 hp)
 unfold svB sv1 at this
 rw[YA hp]at this
 simp only[au,bc]at this
 exact this.1.2.2.1
theorem MK {t:Tr} (h:fD t=true) (kd m:Int):EB t kd m=DB t kd m:=by unfold EB;rw[if_pos h]
theorem jT (w:Wd) (hS0:Sm w.tr) (hN:Nm w.tr) (qN:SvsS w.sv) (EY:NwS w.net) (b l:List Row):QA Tryz.prog 13 [.agg ((eWd w).map .v)] b l (fun r b' l'=>r=.v (.bool (wdB w))∧b'=b∧l'=l):=by
 refine XA rT rfl kE ?_
 intro B g hB hR hE hA;simp only[zA]at hA
 have cV:=fun b l=>NV w.net b l
 have cT:=fun b l=>TV w.tr hS0 hN b l
 simp only[eNw,eT,bl,cd]at cV cT
 have dW:=hS0.np
 have JX:=qN.len
 simp (disch:=first|decide|omega) only[a_r54Valid,hA,eWd,cellsOf,go_sem]
 refine QA.nxt (vT w.sv qN _ _) ?_
 cases t1:bF w.sv
 ·simp (disch:=first|decide|omega) only[hA,go_sem]
  exact ZA (xs:=[.v (.bool false)]) ⟨by unfold wdB;rw[t1];rfl,rfl,rfl⟩
 simp (disch:=first|decide|omega) only[hA,go_sem]
 refine QA.nxt (FB _ _ _ _ _) ?_
 cases t2:inZ w.now 0 1000000000
 ·simp (disch:=first|decide|omega) only[hA,go_sem]
  exact ZA (xs:=[.v (.bool false)]) ⟨by unfold wdB;rw[t1,t2];rfl,rfl,rfl⟩
 simp (disch:=first|decide|omega) only[hA,go_sem]
 refine QA.nxt (cV _ _) ?_
 cases t3:nwB w.net
 ·simp (disch:=first|decide|omega) only[hA,go_sem]
  exact ZA (xs:=[.v (.bool false)]) ⟨by unfold wdB;rw[t1,t2,t3];rfl,rfl,rfl⟩
 by_cases t4:w.net.now=w.now
 case neg =>
  have d4:(w.net.now != w.now)=true:=by simpa using t4
  simp (disch:=first|decide|omega) only[hA,d4,go_sem]
  exact ZA (xs:=[.v (.bool false)]) ⟨by unfold wdB;rw[t1,t2,t3,ag t4];rfl,rfl,rfl⟩
 have d4:(w.net.now != w.now)=false:=by simpa using t4
 simp (disch:=first|decide|omega) only[hA,d4,go_sem]
 refine QA.nxt (cT _ _) ?_
 cases t5:fD w.tr
 ·simp (disch:=first|decide|omega) only[hA,go_sem]
  exact ZA (xs:=[.v (.bool false)]) ⟨by unfold wdB;rw[t1,t2,t3,ae t4,t5];rfl,rfl,rfl⟩
 by_cases t6:w.tr.length=w.sv.length
 case neg =>
  have d6:((w.tr.length:Int) != (w.sv.length:Int))=true:=by simp;omega
  simp (disch:=first|decide|omega) only[hA,d6,aa,go_sem]
  exact ZA (xs:=[.v (.bool false)]) ⟨by unfold wdB;rw[t1,t2,t3,ae t4,t5,ag t6];rfl,rfl,rfl⟩
 have d6:((w.tr.length:Int) != (w.sv.length:Int))=false:=by simp;omega
 have hvk:=vok t5
 have hS:=hvk.small
 have h64:=S9 t5
 have h8:=ZDi t1
 have FL:=wX h64
 have ZK1:=hvk.hi
 have iQ:(eWd w).map AV.v=(zWA w):=rfl
 simp (disch:=first|decide|omega) only[hA,d6,aa,go_sem]
 refine JA (ι:=Nat) iP (fun p=>[(3,.v (.int .i64 (cSd w.tr p))),(4,.v (.int .i64 p))]) 1 (fun _=>[.live 0 9 [(eWd w).map .v]])
  (fun p=>p≤w.tr.length∧∀j,j<p→prB w j=true) (fun p=>w.tr.length-p) 0 ⟨aj _,fun j hj=>by omega⟩ kM kA kF ?_
 rintro g1 UG mF rA p ⟨hp,h0⟩
 rw[iQ]
 by_cases yA:p<w.tr.length
 case neg =>
  obtain rfl:p=w.tr.length:=by omega
  have dps:decide ((w.tr.length:Int)<(w.sv.length:Int))=false:=ag oM
  have JF:(List.range w.tr.length).all (prB w)=true:=bg.2 fun j hj=>h0 j (ba.1 hj)
  have hr:wdB w=(decide ((cSd w.tr w.tr.length:Int)=w.sent)&&w.net.l.all (mgB w.tr)):=by
   unfold wdB;rw[t1,t2,t3,ae t4,t5,ae t6,JF];rfl
  rw[hr]
  have I0:=EY.l
  simp (disch:=first|decide|omega) only[hA,rA,dps,aa,go_sem]
  refine JA (ι:=Nat) uP (fun i=>[(7,.v (.int .i64 i))]) 1 (fun _=>[.live 0 9 [(eWd w).map .v]])
   (fun i=>i≤w.net.l.length∧∀j,j<i→mgB w.tr (w.net.l.getD j dfMs)=true) (fun i=>w.net.l.length-i) 0 ⟨aj _,fun j hj=>by omega⟩ kM kA kF ?_
  rintro g4 hE4 ZK3 YR i ⟨hi,h02⟩
  rw[iQ]
  by_cases hli:i<w.net.l.length
  case neg =>
   obtain rfl:i=w.net.l.length:=by omega
   have hal:w.net.l.all (mgB w.tr)=true:=by
    rw[bg]
    intro m hm
    obtain⟨j,hj,rfl⟩:=cn hm
    rw[←YA (d:=dfMs) hj];exact h02 j hj
   have d7:((cSd w.tr w.tr.length:Int)==w.sent)=decide ((cSd w.tr w.tr.length:Int)=w.sent):=by
    by_cases h:(cSd w.tr w.tr.length:Int)=w.sent<;>simp[h]
   simp (disch:=first|decide|omega) only[hA,rA,YR,d7,aa,go_sem]
   exact DA (xs:=[.v (.bool (decide ((cSd w.tr w.tr.length:Int)=w.sent)))]) (.inr rfl) (by simp (disch:=first|decide|omega) only[resVs,resV,go_sem,hA,rA,YR]) kO hR hB ⟨by rw[hal,Bool.and_true];rfl,rfl,rfl⟩
  obtain⟨m,hm⟩:∃m,w.net.l[i]=m:=⟨_,rfl⟩
  have hgm:=EK hli
  have kJ:w.net.l.getD i dfMs=m:=by rw[YA hli,hm]
  rw[hm]at hgm
  have hml:m∈w.net.l:=by rw[←hm];exact am hli
  have hmb:=EY.body m hml
  have cF:=fun b l=>j3 w.tr hS hN 2 m.nu b l
  rw[←MK t5]at cF
  simp only[eT,idA]at cF
  have bad:mgB w.tr m=false→AV.v (.bool (decide ((cSd w.tr w.tr.length:Int)=w.sent)&&w.net.l.all (mgB w.tr)))=.v (.bool false):=fun h=>by
   rw[ew.2 ⟨m,hml,by rw[h];simp⟩,Bool.and_false]
  simp (disch:=first|decide|omega) only[hA,rA,YR,hgm,aa,go_sem]
  refine QA.nxt (cF _ _) ?_
  by_cases u1:m.body.length=1
  case neg =>
   have d1:((m.body.length:Int) != 1)=true:=by simp;omega
   simp (disch:=first|decide|omega) only[hA,rA,YR,d1,aa,go_sem]
   exact DA (xs:=[.v (.bool false)]) (.inr rfl) (by simp (disch:=first|decide|omega) only[resVs,resV,go_sem,hA,rA,YR]) kO hR hB ⟨by rw[bad (by simp[mgB,u1])];rfl,rfl,rfl⟩
  have d1:((m.body.length:Int) != 1)=false:=by simp;omega
  by_cases u2:0<(EB w.tr 2 m.nu).2
  case neg =>
   have d2:(((EB w.tr 2 m.nu).2:Int)==0)=true:=by
    have:(EB w.tr 2 m.nu).2=0:=by omega
    rw[this];rfl
   simp (disch:=first|decide|omega) only[hA,rA,YR,d1,d2,aa,go_sem]
   exact DA (xs:=[.v (.bool false)]) (.inr rfl) (by simp (disch:=first|decide|omega) only[resVs,resV,go_sem,hA,rA,YR]) kO hR hB ⟨by rw[bad (by simp[mgB,u2])];rfl,rfl,rfl⟩
  obtain⟨fp,fi,hpi,hfp,hfi⟩:=LN u2
  have QQ:=FF hfp hfi
  have P7:mgB w.tr m=(decide ((fp:Int)=m.fr)&&decide (w.tr[fp].evs[fi].peer=m.to)):=by unfold mgB;rw[ae u1,ae u2,hpi,QQ];rfl
  have d2:(((fi+1:Nat):Int)==0)=false:=dy.2 oM
  rw[hpi]
  by_cases u3:(fp:Int)=m.fr
  case neg =>
   have d3:((fp:Int) != m.fr)=true:=by simpa using u3
   simp (disch:=first|decide|omega) only[hA,rA,YR,d1,d2,d3,aa,go_sem]
   exact DA (xs:=[.v (.bool false)]) (.inr rfl) (by simp (disch:=first|decide|omega) only[resVs,resV,go_sem,hA,rA,YR]) kO hR hB ⟨by rw[bad (by rw[P7,ag u3];rfl)];rfl,rfl,rfl⟩
  have d3:((fp:Int) != m.fr)=false:=by simpa using u3
  have cA:=fun b l=>i3 w.tr hS fp fi hfp hfi b l
  simp (disch:=first|decide|omega) only[hA,rA,YR,d1,d2,d3,aa,go_sem]
  refine QA.nxt (cA _ _) ?_
  by_cases u4:w.tr[fp].evs[fi].peer=m.to
  ·have d5:(w.tr[fp].evs[fi].peer != m.to)=false:=by simpa using u4
   simp (disch:=first|decide|omega) only[hA,rA,YR,d5,aa,go_sem]
   refine⟨i+1,⟨hli,fun j hj=>?_⟩,by simp only;omega,?_⟩
   ·rcases bj j i with JG|JG
    ·exact h02 j JG
    ·obtain rfl:j=i:=by omega
     rw[kJ,P7,ae u3,ae u4];rfl
   ·simp only[iQ]
    exact KA.kround (p:=uP) (k:=1) kQ (by ((try simp (disch:=decide) only[hA,rA,YR,go_sem])<;>exact kH)) rfl hE4 kS kV hR kL
  ·have d5:(w.tr[fp].evs[fi].peer != m.to)=true:=by simpa using u4
   simp (disch:=first|decide|omega) only[hA,rA,YR,d5,aa,go_sem]
   exact DA (xs:=[.v (.bool false)]) (.inr rfl) (by simp (disch:=first|decide|omega) only[resVs,resV,go_sem,hA,rA,YR]) kO hR hB ⟨by rw[bad (by rw[P7,ag u4];simp)];rfl,rfl,rfl⟩
 have hps:p<w.sv.length:=by omega
 obtain⟨x,hx⟩:∃x,w.tr[p]=x:=⟨_,rfl⟩
 obtain⟨s,hs⟩:∃s,w.sv[p]=s:=⟨_,rfl⟩
 have BI:=wI yA
 have FM:=CG hps
 rw[hx]at BI
 rw[hs]at FM
 have hxe:iA w.tr p=x.evs:=by rw[aE yA,hx]
 have ZLi:=h64 x (by rw[←hx];exact am yA)
 have e9:PrS x:=hx▸S6 hS yA
 have hxo:OkA x:=hx▸M6 hvk yA
 have h8s:s.vars.length≤8:=hs▸h8 p hps
 have hpr:prB w p=(QI x s w.now&&(List.range x.evs.length).all (sOk x.evs w.sent)):=by unfold prB;rw[YA yA,YA hps,hxe,hx,hs]
 have bad:prB w p=false→AV.v (.bool (wdB w))=.v (.bool false):=fun h=>by rw[ZDf yA h]
 have hcp:=FL p hp
 have dps:decide ((p:Int)<(w.sv.length:Int))=true:=ae oM
 simp (disch:=first|decide|omega) only[hA,rA,BI,FM,dps,aa,go_sem]
 refine QA.nxt (MV x e9 hxo s h8s w.now _ _) ?_
 cases t7:QI x s w.now
 ·simp (disch:=first|decide|omega) only[hA,rA,go_sem]
  exact ZA (xs:=[.v (.bool false)]) ⟨by rw[bad (by rw[hpr,t7];rfl)];rfl,rfl,rfl⟩
 simp (disch:=first|decide|omega) only[hA,rA,aa,go_sem]
 refine JA (ι:=Nat) mL (fun i=>[(3,.v (.int .i64 ((cSd w.tr p+nSd x.evs i:Nat):Int))),(6,.v (.int .i64 i))]) 2 (fun _=>[.live 0 9 [(eWd w).map .v],XK x])
  (fun i=>i≤x.evs.length∧∀j,j<i→sOk x.evs w.sent j=true) (fun i=>x.evs.length-i) 0 ⟨aj _,fun j hj=>by omega⟩ kM kA kF ?_
 rintro g2 AJ OP VE i ⟨hi,h02⟩
 rw[iQ]
 unfold XK
 by_cases hli:i<x.evs.length
 ·have xH:=AG hli
  have kJ:x.evs.getD i lI=x.evs[i]:=YA hli
  have hns:=vX x.evs i
  have hcn:((cSd w.tr p+nSd x.evs i:Nat):Int)+1=((cSd w.tr p+(nSd x.evs i+1):Nat):Int):=by omega
  by_cases hk:x.evs[i].kind=2
  ·have dk:(x.evs[i].kind==2)=true:=by rw[hk];rfl
   have hn1:nSd x.evs (i+1)=nSd x.evs i+1:=by simp only[nSd];rw[kJ,if_pos hk]
   by_cases hm:x.evs[i].msg<w.sent
   ·have dm:decide (x.evs[i].msg≥w.sent)=false:=ag oM
    have dm':decide (w.sent≤x.evs[i].msg)=false:=dm
    simp (disch:=first|decide|omega) only[hA,rA,VE,xH,dk,dm,dm',hcn,aa,go_sem]
    refine⟨i+1,⟨hli,fun j hj=>?_⟩,by simp only;omega,?_⟩
    ·rcases bj j i with JG|JG
     ·exact h02 j JG
     ·obtain rfl:j=i:=by omega
      unfold sOk;rw[kJ,ae hm];simp
    ·simp only[hn1,iQ]
     exact KA.kround (p:=mL) (k:=2) kQ kA rfl AJ kS kV hR kL
   ·have dm:decide (x.evs[i].msg≥w.sent)=true:=ae oM
    have dm':decide (w.sent≤x.evs[i].msg)=true:=dm
    simp (disch:=first|decide|omega) only[hA,rA,VE,xH,dk,dm,dm',hcn,aa,go_sem]
    exact ZA (xs:=[.v (.bool false)]) ⟨by rw[bad (by rw[hpr,show (List.range x.evs.length).all (sOk x.evs w.sent)=false from ew.2 ⟨i,ba.2 hli,by unfold sOk;rw[kJ,hk,ag hm];simp⟩,Bool.and_false])];rfl,rfl,rfl⟩
  ·have dk:(x.evs[i].kind==2)=false:=by simpa using hk
   have hn1:nSd x.evs (i+1)=nSd x.evs i:=by simp only[nSd];rw[kJ,if_neg hk]
   simp (disch:=first|decide|omega) only[hA,rA,VE,xH,dk,aa,go_sem]
   refine⟨i+1,⟨hli,fun j hj=>?_⟩,by simp only;omega,?_⟩
   ·rcases bj j i with JG|JG
    ·exact h02 j JG
    ·obtain rfl:j=i:=by omega
     unfold sOk;rw[kJ,dk];rfl
   ·simp only[hn1,iQ]
    exact KA.kround (p:=mL) (k:=2) kQ kA rfl AJ kS kV hR kL
 ·obtain rfl:i=x.evs.length:=by omega
  have SL:prB w p=true:=by rw[hpr,t7,bg.2 fun j hj=>h02 j (ba.1 hj)];rfl
  have fX:cSd w.tr (p+1)=cSd w.tr p+nSd x.evs x.evs.length:=by simp only[cSd];rw[hxe]
  simp (disch:=first|decide|omega) only[hA,rA,VE,aa,go_sem]
  refine⟨p+1,⟨yA,fun j hj=>?_⟩,by simp only;omega,?_⟩
  ·rcases bj j p with JG|JG
   ·exact h0 j JG
   ·obtain rfl:j=p:=by omega
    exact SL
  ·simp only[iQ,fX]
   exact KA.kround (p:=iP) (k:=1) kQ kA rfl UG kS kV hR kL
def a_wended:AFunc:=({c:=_}:CF Tryz.prog 71).c
theorem xY:jA Tryz.prog 71=some a_wended:=by kernel_rfl
def a_r54ended:AFunc:=({c:=_}:CF Tryz.prog 60).c
theorem iT:jA Tryz.prog 60=some a_r54ended:=by kernel_rfl
def a_wenab:AFunc:=({c:=_}:CF Tryz.prog 62).c
theorem y5:jA Tryz.prog 62=some a_wenab:=by kernel_rfl
def a_r54enab:AFunc:=({c:=_}:CF Tryz.prog 19).c
theorem qW:jA Tryz.prog 19=some a_r54enab:=by kernel_rfl
def a_wEnded1:AFunc:=({c:=_}:CF Tryz.prog 70).c
theorem VW:jA Tryz.prog 70=some a_wEnded1:=by kernel_rfl
def a_wEnded:AFunc:=({c:=_}:CF Tryz.prog 23).c
theorem sY:jA Tryz.prog 23=some a_wEnded:=by kernel_rfl

def UH (s:Sv):Bool:=decide (s.pc=s.code.length)||decide ((s.code.getD s.pc.toNat dN).op=8)
def ZCC (s:Sv):Prop:=0≤s.pc∧s.pc≤s.code.length
theorem PQ {l:List Sv} (t1:bF l=true) {p:Nat} (hp:p<l.length):ZCC l[p]:=by
 unfold bF at t1
 rw[au,bg]at t1
 have:=t1.2 p (ba.2 hp)
 unfold svB sv1 at this
 rw[YA hp]at this
 simp only[au,bc]at this
 have h:=this.1.2.2.2.1
 unfold inZ at h
 simp only[au,bc]at h
 exact h
theorem XP (s:Sv) (hS:SvS s) (uI:ZCC s) (b l:List Row):QA Tryz.prog 71 [.agg ((eSv s).map .v)] b l (fun r b' l'=>r=.v (.bool (UH s))∧b'=b∧l'=l):=by
 refine XA xY rfl kE ?_
 intro B g hB hR hE hA;simp only[zA]at hA
 obtain⟨k,hk⟩:∃k:Nat,s.pc=k:=⟨s.pc.toNat,by have:=uI.1;omega⟩
 have GN:k≤s.code.length:=by have:=uI.2;omega
 have FL:=hS.code
 by_cases yA:k<s.code.length
 ·have CI:=gI yA
  have d1:((k:Int)==(s.code.length:Int))=false:=by simp;omega
  have hr:UH s=(s.code[k].op==8):=by
   unfold UH
   rw[hk,cj,YA yA,ag oM]
   rw[gg];rfl
  simp (disch:=first|decide|omega) only[a_wended,hA,eSv,hk,CI,d1,aa,go_sem]
  exact ZA (xs:=[.v (.bool (s.code[k].op==8))]) ⟨by rw[hr];rfl,rfl,rfl⟩
 ·obtain rfl:k=s.code.length:=by omega
  have d1:((s.code.length:Int)==(s.code.length:Int))=true:=by simp
  have hr:UH s=true:=by
   unfold UH
   rw[hk,ae rfl];rfl
  simp (disch:=first|decide|omega) only[a_wended,hA,eSv,hk,d1,aa,go_sem]
  exact ZA (xs:=[.v (.bool true)]) ⟨by rw[hr];rfl,rfl,rfl⟩
theorem qT (s:Sv) (hS:SvS s) (uI:ZCC s) (b l:List Row):QA Tryz.prog 60 [.agg ((eSv s).map .v)] b l (fun r b' l'=>r=.v (.bool (UH s))∧b'=b∧l'=l):=by
 refine XA iT rfl kE ?_
 intro B g hB hR hE hA;simp only[zA]at hA
 obtain⟨k,hk⟩:∃k:Nat,s.pc=k:=⟨s.pc.toNat,by have:=uI.1;omega⟩
 have GN:k≤s.code.length:=by have:=uI.2;omega
 have FL:=hS.code
 by_cases yA:k<s.code.length
 ·have CI:=gI yA
  have d1:decide ((k:Int)≥(s.code.length:Int))=false:=ag oM
  have d1':decide ((s.code.length:Int)≤(k:Int))=false:=d1
  have hr:UH s=(s.code[k].op==8):=by
   unfold UH
   rw[hk,cj,YA yA,ag oM]
   rw[gg];rfl
  simp (disch:=first|decide|omega) only[a_r54ended,hA,eSv,hk,CI,d1,d1',aa,go_sem]
  exact ZA (xs:=[.v (.bool (s.code[k].op==8))]) ⟨by rw[hr];rfl,rfl,rfl⟩
 ·obtain rfl:k=s.code.length:=by omega
  have d1:decide ((s.code.length:Int)≥(s.code.length:Int))=true:=ae oM
  have d1':decide ((s.code.length:Int)≤(s.code.length:Int))=true:=d1
  have hr:UH s=true:=by
   unfold UH
   rw[hk,ae rfl];rfl
  simp (disch:=first|decide|omega) only[a_r54ended,hA,eSv,hk,d1,d1',aa,go_sem]
  exact ZA (xs:=[.v (.bool true)]) ⟨by rw[hr];rfl,rfl,rfl⟩
def QJ (s:Sv):Int:=(s.code.getD s.pc.toNat dN).op
def SD (w:Wd) (p:Nat):Bool:=!(UH (w.sv.getD p dfSv)||decide (64≤(iA w.tr p).length))&&(if QJ (w.sv.getD p dfSv)=4 then decide (0<uH w.net p) else if QJ (w.sv.getD p dfSv)=3 then decide (w.sent≤199) else true)
theorem vR (w:Wd) (qN:SvsS w.sv) (hS:Small w.tr) (h1:bF w.sv=true) (pC:w.tr.length=w.sv.length) (p:Nat) (hp:p<w.sv.length) (b l:List Row):QA Tryz.prog 62 [.agg ((eWd w).map .v),.v (.int .i64 p)] b l (fun r b' l'=>r=.v (.bool (SD w p))∧b'=b∧l'=l):=by
 refine XA y5 rfl kE ?_
 intro B g hB hR hE hA;simp only[zA]at hA
 obtain⟨s,hs⟩:∃s,w.sv[p]=s:=⟨_,rfl⟩
 have kJ:w.sv.getD p dfSv=s:=by rw[YA hp,hs]
 have hSs:=qN.all s (by rw[←hs];exact am hp)
 have uI:ZCC s:=by rw[←hs];exact PQ h1 hp
 have FM:=CG hp
 rw[hs]at FM
 have SL:p<w.tr.length:=by omega
 obtain⟨x,hx⟩:∃x,w.tr[p]=x:=⟨_,rfl⟩
 have BI:=wI SL
 rw[hx]at BI
 have hxe:iA w.tr p=x.evs:=by rw[aE SL,hx]
 have JX:=qN.len
 have dW:=hS.np
 have hxn:=hS.ne x (by rw[←hx];exact am SL)
 have cE:=fun b l=>XP s hSs uI b l
 have cW:=fun b l=>eR w.net p b l
 simp only[eSv,eNw,bl,cd]at cE cW
 have hr:SD w p=(!(UH s||decide (64≤x.evs.length))&&(if QJ s=4 then decide (0<uH w.net p) else if QJ s=3 then decide (w.sent≤199) else true)):=by unfold SD;rw[kJ,hxe]
 rw[hr]
 simp (disch:=first|decide|omega) only[a_wenab,hA,eWd,FM,aa,go_sem]
 refine QA.nxt (cE _ _) ?_
 cases t1:UH s
 case true =>
  simp (disch:=first|decide|omega) only[hA,go_sem]
  exact ZA (xs:=[.v (.bool false)])
 by_cases t2:64≤x.evs.length
 case pos =>
  have d2:decide ((x.evs.length:Int)≥64)=true:=ae oM
  have d2':decide ((64:Int)≤(x.evs.length:Int))=true:=d2
  simp (disch:=first|decide|omega) only[hA,BI,d2,d2',aa,go_sem]
  exact ZA (xs:=[.v (.bool false)])
 have d2:decide ((x.evs.length:Int)≥64)=false:=ag oM
 have d2':decide ((64:Int)≤(x.evs.length:Int))=false:=d2
 rw[ag t2]
 obtain⟨k,hk⟩:∃k:Nat,s.pc=k:=⟨s.pc.toNat,by have:=uI.1;omega⟩
 have GN:k<s.code.length:=by
  have:=uI.2
  rcases bj k s.code.length with h|h
  ·exact h
  ·have:UH s=true:=by unfold UH;rw[ae oM];rfl
   rw[t1]at this;cases this
 have FL:=hSs.code
 have CI:=gI GN
 have ho:QJ s=s.code[k].op:=by unfold QJ;rw[hk,cj,YA GN]
 rw[ho]
 by_cases t3:s.code[k].op=4
 ·have d3:(s.code[k].op==4)=true:=by simpa using t3
  simp (disch:=first|decide|omega) only[hA,BI,hk,CI,d2,d2',d3,aa,go_sem]
  refine QA.nxt (cW _ _) ?_
  simp (disch:=first|decide|omega) only[hA,go_sem]
  exact sP (xs:=[.v (.bool (decide ((0:Int)<((uH w.net p:Nat):Int))))]) kO hR hB ⟨by rw[if_pos t3];simp[one],rfl,rfl⟩
 have d3:(s.code[k].op==4)=false:=by simpa using t3
 by_cases t4:s.code[k].op=3
 ·have d4:(s.code[k].op==3)=true:=by simpa using t4
  simp (disch:=first|decide|omega) only[hA,BI,hk,CI,d2,d2',d3,d4,aa,go_sem]
  exact ZA (xs:=[.v (.bool (decide (w.sent≤199)))]) ⟨by rw[if_neg t3,if_pos t4];rfl,rfl,rfl⟩
 have d4:(s.code[k].op==3)=false:=by simpa using t4
 simp (disch:=first|decide|omega) only[hA,BI,hk,CI,d2,d2',d3,d4,aa,go_sem]
 exact ZA (xs:=[.v (.bool true)]) ⟨by rw[if_neg t3,if_neg t4];rfl,rfl,rfl⟩
theorem LV (w:Wd) (qN:SvsS w.sv) (hS:Small w.tr) (h1:bF w.sv=true) (pC:w.tr.length=w.sv.length) (I0:w.net.l.length≤1000000) (hnw:nwB w.net=true) (p:Nat) (hp:p<w.sv.length) (hpo:ptB p=true) (b l:List Row):QA Tryz.prog 19 [.agg ((eWd w).map .v),.v (.int .i64 p)] b l (fun r b' l'=>r=.v (.bool (SD w p))∧b'=b∧l'=l):=by
 refine XA qW rfl kE ?_
 intro B g hB hR hE hA;simp only[zA]at hA
 obtain⟨s,hs⟩:∃s,w.sv[p]=s:=⟨_,rfl⟩
 have kJ:w.sv.getD p dfSv=s:=by rw[YA hp,hs]
 have hSs:=qN.all s (by rw[←hs];exact am hp)
 have uI:ZCC s:=by rw[←hs];exact PQ h1 hp
 have FM:=CG hp
 rw[hs]at FM
 have SL:p<w.tr.length:=by omega
 obtain⟨x,hx⟩:∃x,w.tr[p]=x:=⟨_,rfl⟩
 have BI:=wI SL
 rw[hx]at BI
 have hxe:iA w.tr p=x.evs:=by rw[aE SL,hx]
 have JX:=qN.len
 have dW:=hS.np
 have hxn:=hS.ne x (by rw[←hx];exact am SL)
 have cE:=fun b l=>qT s hSs uI b l
 have cW:=fun b l=>UT w.net p I0 (MF.1 hnw).len b l
 have hwn:wtN w.net p w.net.l.length=uH w.net p:=by unfold uH;rw[if_pos ⟨hnw,hpo⟩]
 rw[hwn]at cW
 simp only[eSv,bl,cd]at cE
 have hr:SD w p=(!(UH s||decide (64≤x.evs.length))&&(if QJ s=4 then decide (0<uH w.net p) else if QJ s=3 then decide (w.sent≤199) else true)):=by unfold SD;rw[kJ,hxe]
 rw[hr]
 simp (disch:=first|decide|omega) only[a_r54enab,hA,eWd,FM,aa,go_sem]
 refine QA.nxt (cE _ _) ?_
 cases t1:UH s
 case true =>
  simp (disch:=first|decide|omega) only[hA,go_sem]
  exact ZA (xs:=[.v (.bool false)])
 by_cases t2:64≤x.evs.length
 case pos =>
  have d2:decide ((x.evs.length:Int)≥64)=true:=ae oM
  have d2':decide ((64:Int)≤(x.evs.length:Int))=true:=d2
  simp (disch:=first|decide|omega) only[hA,BI,d2,d2',aa,go_sem]
  exact ZA (xs:=[.v (.bool false)])
 have d2:decide ((x.evs.length:Int)≥64)=false:=ag oM
 have d2':decide ((64:Int)≤(x.evs.length:Int))=false:=d2
 rw[ag t2]
 obtain⟨k,hk⟩:∃k:Nat,s.pc=k:=⟨s.pc.toNat,by have:=uI.1;omega⟩
 have GN:k<s.code.length:=by
  have:=uI.2
  rcases bj k s.code.length with h|h
  ·exact h
  ·have:UH s=true:=by unfold UH;rw[ae oM];rfl
   rw[t1]at this;cases this
 have FL:=hSs.code
 have CI:=gI GN
 have ho:QJ s=s.code[k].op:=by unfold QJ;rw[hk,cj,YA GN]
 rw[ho]
 by_cases t3:s.code[k].op=4
 ·have d3:(s.code[k].op==4)=true:=by simpa using t3
  simp (disch:=first|decide|omega) only[hA,BI,hk,CI,d2,d2',d3,aa,go_sem]
  refine QA.nxt (cW _ _) ?_
  simp (disch:=first|decide|omega) only[hA,go_sem]
  exact sP (xs:=[.v (.bool (decide ((0:Int)<((uH w.net p:Nat):Int))))]) kO hR hB ⟨by rw[if_pos t3];simp[one],rfl,rfl⟩
 have d3:(s.code[k].op==4)=false:=by simpa using t3
 by_cases t4:s.code[k].op=3
 ·have d4:(s.code[k].op != 3)=false:=by simpa using t4
  simp (disch:=first|decide|omega) only[hA,BI,hk,CI,d2,d2',d3,d4,aa,go_sem]
  exact ZA (xs:=[.v (.bool (decide (w.sent≤199)))]) ⟨by rw[if_neg t3,if_pos t4];rfl,rfl,rfl⟩
 have d4:(s.code[k].op != 3)=true:=by simpa using t4
 simp (disch:=first|decide|omega) only[hA,BI,hk,CI,d2,d2',d3,d4,aa,go_sem]
 exact ZA (xs:=[.v (.bool true)]) ⟨by rw[if_neg t3,if_neg t4];rfl,rfl,rfl⟩
def a_wEnabl:AFunc:=({c:=_}:CF Tryz.prog 20).c
theorem tY:jA Tryz.prog 20=some a_wEnabl:=by kernel_rfl
def eO:List (Nat×Nat):=[(4,5),(12,22)]

theorem GV (s:Sv) (hS:SvS s) (uI:ZCC s) (b l:List Row):QA Tryz.prog 70 [.agg ((eSv s).map .v)] b l (fun r b' l'=>r=.v (.bool (!UH s))∧b'=b∧l'=l):=by
 refine XA VW rfl kE ?_
 intro B g hB hR hE hA;simp only[zA]at hA
 have cE:=fun b l=>XP s hS uI b l
 simp only[eSv,bl,cd]at cE
 simp (disch:=first|decide|omega) only[a_wEnded1,hA,eSv,go_sem]
 refine QA.nxt (cE _ _) ?_
 simp (disch:=first|decide|omega) only[hA,go_sem]
 exact ZA (xs:=[.v (.bool (!UH s))])
noncomputable def ZEm (w:Wd):Bool:=wdB w&&w.sv.all UH
theorem aX (w:Wd) (hS:Sm w.tr) (hN:Nm w.tr) (qN:SvsS w.sv) (EY:NwS w.net) (b l:List Row):QA Tryz.prog 23 [.agg ((eWd w).map .v)] b l (fun r b' l'=>r=.v (.bool (ZEm w))∧b'=b∧l'=l):=by
 refine XA sY rfl kE ?_
 intro B g hB hR hE hA;simp only[zA]at hA
 have cV:=fun b l=>rH w hS hN qN EY b l
 have iQ:(eWd w).map AV.v=(zWA w):=rfl
 rw[iQ]at cV hA
 simp (disch:=first|decide|omega) only[a_wEnded,hA,cellsOf,go_sem]
 refine QA.nxt (cV _ _) ?_
 cases t1:wdB w
 ·simp (disch:=first|decide|omega) only[hA,go_sem]
  exact ZA (xs:=[.v (.bool false)]) ⟨by unfold ZEm;rw[t1];rfl,rfl,rfl⟩
 have rV:bF w.sv=true:=by unfold wdB at t1;simp only[au]at t1;exact t1.1
 have cC:=YD sK rK (w.sv.map eSv) 70 [] (fun j=>!UH (w.sv.getD j dfSv)) ZR (by rw[aa];exact qN.len) B [.live 0 9 [(eWd w).map .v]] (fun j row hj=>by
  have rG:j<w.sv.length:=by have:=(ak.1 hj).1;rwa [aa]at this
  rw[an,ah rG]at hj
  cases hj
  simp only[YA rG]
  exact GV _ (qN.all _ (am rG)) (PQ rV rG) _ _)
 rw[aa,sG (p:=fun s=>!UH s),yF,iQ]at cC
 simp (disch:=first|decide|omega) only[hA,go_sem]
 refine QA.nxt cC ?_
 simp (disch:=first|decide|omega) only[hA,kc,go_sem]
 exact ZA (xs:=[.v (.bool (w.sv.all UH))]) ⟨by unfold ZEm;rw[t1];rfl,rfl,rfl⟩
noncomputable def xL (w:Wd) (k:Nat):List Nat:=(List.range k).filter (SD w)
noncomputable def BP (w:Wd) (k:Nat):List (List IV):=(xL w k).map fun n:Nat=>eI n
theorem ZGO (w:Wd) (k:Nat):(xL w k).length≤k:=by
 unfold xL
 have:=List.length_filter_le (SD w) (List.range k)
 rwa [ji]at this
theorem Q0 {w:Wd} {k:Nat} (h:SD w k=true):xL w (k+1)=xL w k++[k]:=by
 unfold xL;rw[fq,gj,je,if_pos h,List.filter_nil]
theorem ZGN {w:Wd} {k:Nat} (h:SD w k=false):xL w (k+1)=xL w k:=by
 unfold xL;rw[fq,gj,je,if_neg (by rw[h];simp),List.filter_nil,db]
theorem ZDJ (w:Wd) (k:Nat):(BP w k).length=(xL w k).length:=by unfold BP;rw[aa]
theorem ZDI {w:Wd} {k:Nat} (h:SD w k=true):BP w (k+1)=BP w k++[[.int .i64 (k:Nat)]]:=by
 unfold BP;rw[Q0 h,bq];rfl
theorem R9 {w:Wd} (h:wdB w=true):bF w.sv=true∧fD w.tr=true∧w.tr.length=w.sv.length∧nwB w.net=true:=by
 unfold wdB at h
 simp only[au,bc]at h
 exact⟨h.1,h.2.2.2.2.1,h.2.2.2.2.2.1,h.2.2.1⟩
theorem ZCR {l:List Sv} (h:bF l=true):l.length≤8:=by
 unfold bF at h
 rw[au]at h
 have:=h.1
 unfold inZ at this
 simp only[au,bc]at this
 omega
theorem HX (w:Wd) (hS:Small w.tr) (hN:Nm w.tr) (qN:SvsS w.sv) (EY:NwS w.net) (hv:wdB w=true) (b l:List Row):QA Tryz.prog 20 [.agg ((eWd w).map .v)] b l (fun r b' l'=>r=.tup [.v (.isl 1 (BP w w.sv.length)),.v (.int .i64 0)]∧b'=b∧l'=l):=by
 obtain⟨q1,q2,q3,q4⟩:=R9 hv
 refine XA tY rfl kE ?_
 intro B g hB hR hE hA;simp only[zA]at hA
 have cV:=fun b l=>rH w hS.sm hN qN EY b l
 have iQ:(eWd w).map AV.v=(zWA w):=rfl
 rw[iQ,hv]at cV
 rw[iQ]at hA
 have hs8:=ZCR q1
 have hm0:(xL w 0).length=0:=rfl
 have hq0:BP w 0=[]:=rfl
 simp (disch:=first|decide|omega) only[a_wEnabl,hA,cellsOf,go_sem]
 refine QA.nxt (cV _ _) ?_
 simp (disch:=first|decide|omega) only[hA,aa,go_sem]
 refine ZG (ι:=Nat) 4 1 eO (fun k=>[(12,.v (.int .i64 k)),(4,.sl (B.length+1) (xL w k).length 0 (xL w k).length)]) 2 (fun k=>[.live 0 9 [(eWd w).map .v],.live (xL w k).length 1 (vs (BP w k))])
  (fun k=>k≤w.sv.length) (fun k=>w.sv.length-k) 0 (aj _) (by simp (disch:=decide) only[hA,go_sem]) kE kE kM (by ((try simp (disch:=decide) only[hA,hm0,hq0,go_sem])<;>exact kH)) kF ?_
 intro g1 UG mF rA k hk
 rw[iQ]
 have hml:=ZGO w k
 have kW:=ZDJ w k
 by_cases GN:k<w.sv.length
 ·have cE:=fun b l=>vR w qN hS q1 q3 k GN b l
  rw[iQ]at cE
  simp (disch:=first|decide|omega) only[hA,rA,aa,go_sem]
  refine QA.nxt (cE _ _) ?_
  cases t2:SD w k
  ·have hn1:=ZGN t2
   have hn2:BP w (k+1)=BP w k:=by unfold BP;rw[hn1]
   simp (disch:=first|decide|omega) only[hA,rA,go_sem]
   refine⟨k+1,GN,by simp only;omega,?_⟩
   simp only[hn1,hn2,iQ]
   exact KA.kround (p:=eO) (k:=2) kQ kA rfl UG kS kV hR kL
  ·have S1:=ZDI t2
   have hn1:=Q0 t2
   have JX:(xL w (k+1)).length=(xL w k).length+1:=by rw[hn1];simp
   have tk:List.take (xL w k).length (BP w k)=BP w k:=cr oM
   simp (disch:=first|decide|omega) only[hA,rA,kW,tk,←S1,bx,ca,reduceCtorEq,go_sem]
   rw[←JX]
   refine⟨k+1,GN,by simp only;omega,?_⟩
   simp only[iQ]
   exact KA.kround (p:=eO) (k:=2) kQ kA rfl UG kS kV hR kL
 ·obtain rfl:k=w.sv.length:=by omega
  simp (disch:=first|decide|omega) only[hA,rA,aa,go_sem]
  exact Y4 (i:=1) (ver:=(xL w w.sv.length).length) (sz:=1) (n:=(xL w w.sv.length).length) (rows:=BP w w.sv.length) (.inr rfl) kR rfl (by rw[kW]) hR hB ⟨rfl,rfl,rfl⟩
def a_wLocal:AFunc:=({c:=_}:CF Tryz.prog 113).c
theorem rY:jA Tryz.prog 113=some a_wLocal:=by kernel_rfl

def Sv.put (s:Sv) (i:Nat) (v:Int):Sv:={s with vars:=s.vars.set i v}
theorem DE (b l:List Row):QA Tryz.prog 113 [] b l (fun r b' l'=>r=.agg [.v (.int .i64 1),.v (.int .i64 0),.v (.int .i64 0),.v (.int .i64 0),.v .zsl]∧b'=b∧l'=l):=by
 refine XA rY rfl kE ?_
 intro B g hB hR hE hA;simp only[zA]at hA
 simp (disch:=first|decide|omega) only[a_wLocal,cellsOf,go_sem]
 exact DA (xs:=[.agg [.v (.int .i64 1),.v (.int .i64 0),.v (.int .i64 0),.v (.int .i64 0),.v .zsl]]) (.inr rfl) (by simp (disch:=first|decide|omega) only[resVs,resV,go_sem,hE]) kO hR hB ⟨rfl,rfl,rfl⟩
def a_wmsg:AFunc:=({c:=_}:CF Tryz.prog 141).c
theorem ZAu:jA Tryz.prog 141=some a_wmsg:=by kernel_rfl
def a_wnet:AFunc:=({c:=_}:CF Tryz.prog 96).c
theorem ZAt:jA Tryz.prog 96=some a_wnet:=by kernel_rfl
def z8:List (Nat×Nat):=[(5,5),(19,30)]

theorem jY (v:List In) (hn:v.length≤1000000) (b l:List Row):QA Tryz.prog 97 [.v (.isl 3 (v.map eIn))] b l (fun r b' l'=>r=.sl (b.length+l.length) 1 0 v.length∧b'=b∧l'=l++[.live 1 3 (vs (v.map eIn))]):=by
 have:=zI (P:=Tryz.prog) (f:=97) (sz:=3) (bytes:=24) (zs:=[.v (.int .i64 0),.v (.int .i64 0),.v (.int .i64 0)]) (by kernel_rfl) kE (v.map eIn) (by simpa using hn) b l
 rwa [aa]at this
theorem qY (v:List Vr) (hn:v.length≤1000000) (b l:List Row):QA Tryz.prog 99 [.v (.isl 2 (v.map eVr))] b l (fun r b' l'=>r=.sl (b.length+l.length) 1 0 v.length∧b'=b∧l'=l++[.live 1 2 (vs (v.map eVr))]):=by
 have:=zI (P:=Tryz.prog) (f:=99) (sz:=2) (bytes:=24) (zs:=[.v (.str ⟨#[]⟩),.v (.int .i64 0)]) (by kernel_rfl) kE (v.map eVr) (by simpa using hn) b l
 rwa [aa]at this
theorem vY (v:List Asg) (hn:v.length≤1000000) (b l:List Row):QA Tryz.prog 100 [.v (.isl 2 (v.map uL))] b l (fun r b' l'=>r=.sl (b.length+l.length) 1 0 v.length∧b'=b∧l'=l++[.live 1 2 (vs (v.map uL))]):=by
 have:=zI (P:=Tryz.prog) (f:=100) (sz:=2) (bytes:=16) (zs:=[.v (.int .i64 0),.v (.int .i64 0)]) (by kernel_rfl) kE (v.map uL) (by simpa using hn) b l
 rwa [aa]at this
theorem D9 (m:Ms) (hn:m.body.length≤1000000) (b l:List Row):QA Tryz.prog 141 [.agg ((eMs m).map .v)] b l (fun r b' l'=>r=.agg ((eMs m).map .v)∧b'=b∧l'=l):=by
 refine XA ZAu rfl kE ?_
 intro B g hB hR hE hA;simp only[zA]at hA
 have heM:(eMs m).map AV.v=(zMA m):=rfl
 rw[heM]at hA
 simp (disch:=first|decide|omega) only[a_wmsg,hA,cellsOf,go_sem]
 refine QA.nxt (qI m.body hn _ _) ?_
 simp (disch:=first|decide|omega) only[hA,cellsOf,go_sem]
 refine dB (.inr rfl) (xs:=[.agg [.v (.int .i64 m.fr),.v (.int .i64 m.to),.v (.int .i64 m.nu),.sl (B.length+2) 1 0 m.body.length]]) kR ?_ hR hB ⟨rfl,rfl,rfl⟩
 exact Dv.aggL (.cons (.v _) (.cons (.v _) (.cons (.v _) (.cons (Dv.slV (i:=2) rfl (by rw[aa])) .nil))))
theorem eN (v:List Int) (hn:v.length≤1000000) (b l:List Row):QA Tryz.prog 98 [.v (.isl 1 (v.map eI))] b l (fun r b' l'=>r=.v (.isl 1 (v.map eI))∧b'=b∧l'=l):=
 QA.deep (x:=.sl (b.length+l.length+0) 1 0 v.length) (Dv.slV (i:=0) rfl (by rw[aa])) (qI v hn b l)
theorem QW (v:List (Int×Int)) (hn:v.length≤1000000) (b l:List Row):QA Tryz.prog 92 [.v (.isl 2 (v.map eFt))] b l (fun r b' l'=>r=.v (.isl 2 (v.map eFt))∧b'=b∧l'=l):=
 QA.deep (x:=.sl (b.length+l.length+0) 1 0 v.length) (Dv.slV (i:=0) rfl (by rw[aa])) (ZV v hn b l)
theorem I9 (n:Nw) (hS:NwS n) (b l:List Row):QA Tryz.prog 96 [.agg ((eNw n).map .v)] b l (fun r b' l'=>r=.agg ((eNw n).map .v)∧b'=b∧l'=l):=by
 refine XA ZAt rfl kE ?_
 intro B g hB hR hE hA;simp only[zA]at hA
 have heN:(eNw n).map AV.v=(zNA n):=rfl
 rw[heN]at hA
 have JX:=hS.l
 have cT:=fun b l=>eN n.tm hS.tm b l
 have cF:=fun b l=>QW n.fates hS.fates b l
 simp (disch:=first|decide|omega) only[a_wnet,hA,cellsOf,go_sem]
 refine QA.nxt (cT _ _) ?_
 simp (disch:=first|decide|omega) only[hA,cellsOf,go_sem]
 refine QA.nxt (cF _ _) ?_
 simp (disch:=first|decide|omega) only[hA,aa,go_sem]
 refine JA (ι:=Nat) z8 (fun i=>[(19,.v (.int .i64 i))]) 3 (fun i=>[.live 0 5 [[.v (.int .i64 n.now),.v (.bool n.fifo),.sl (B.length+2) i 0 i,.v (.isl 1 (n.tm.map eI)),.v (.isl 2 (n.fates.map eFt))]],.live 0 5 [[.v (.int .i64 0),.v (.bool false),.v .zsl,.v .zsl,.v .zsl]],.live i 4 (vs ((n.l.take i).map eMs))])
  (fun i=>i≤n.l.length) (fun i=>n.l.length-i) 0 (aj _) kM kA (fun e=>KA.nilcell (e:=e) (b:=B) (l:=[.live 0 5 [[.v (.int .i64 n.now),.v (.bool n.fifo),.v .zsl,.v (.isl 1 (n.tm.map eI)),.v (.isl 2 (n.fates.map eFt))]],.live 0 5 [[.v (.int .i64 0),.v (.bool false),.v .zsl,.v .zsl,.v .zsl]]]) (i:=0) (k:=0) (j:=2) (sz:=4) rfl rfl rfl) ?_
 intro g1 UG mF rA i hi
 by_cases yA:i<n.l.length
 ·have hgm:(n.l.map eMs)[i]? = some [.int .i64 n.l[i].fr,.int .i64 n.l[i].to,.int .i64 n.l[i].nu,.isl 1 (n.l[i].body.map eI)]:=by rw[an,ah yA];rfl
  have cM:=fun b l=>D9 n.l[i] (hS.body _ (am yA)) b l
  have heM:(eMs n.l[i]).map AV.v=[.v (.int .i64 n.l[i].fr),.v (.int .i64 n.l[i].to),.v (.int .i64 n.l[i].nu),.v (.isl 1 (n.l[i].body.map eI))]:=rfl
  rw[heM]at cM
  have kW:((n.l.take i).map eMs).length=i:=by rw[aa,cf];omega
  have tk:List.take i ((n.l.take i).map eMs)=(n.l.take i).map eMs:=cr oM
  have S1:(n.l.take (i+1)).map eMs=(n.l.take i).map eMs++[[.int .i64 n.l[i].fr,.int .i64 n.l[i].to,.int .i64 n.l[i].nu,.isl 1 (n.l[i].body.map eI)]]:=by
   rw[fw,ah yA,bq];rfl
  have ZLo:vs ((n.l.take i).map eMs)++[[.v (.int .i64 n.l[i].fr),.v (.int .i64 n.l[i].to),.v (.int .i64 n.l[i].nu),.v (.isl 1 (n.l[i].body.map eI))]]=vs ((n.l.take (i+1)).map eMs):=by rw[S1];simp[vs]
  simp (disch:=first|decide|omega) only[hA,rA,hgm,aa,go_sem]
  refine QA.nxt (cM _ _) ?_
  simp (disch:=first|decide|omega) only[hA,rA,kW,tk,bx,ca,reduceCtorEq,go_sem]
  rw[ZLo]
  refine⟨i+1,yA,by simp only;omega,?_⟩
  exact KA.kround (p:=z8) (k:=3) kQ kA rfl UG kS kV hR kL
 ·obtain rfl:i=n.l.length:=by omega
  have dW:(n.l.take n.l.length)=n.l:=ik
  simp (disch:=first|decide|omega) only[hA,rA,aa,go_sem]
  refine dB (.inr rfl) (xs:=[.agg [.v (.int .i64 n.now),.v (.bool n.fifo),.sl (B.length+2) n.l.length 0 n.l.length,.v (.isl 1 (n.tm.map eI)),.v (.isl 2 (n.fates.map eFt))]]) kR ?_ hR hB ⟨rfl,rfl,rfl⟩
  rw[dW]
  exact Dv.aggL (.cons (.v _) (.cons (.v _) (.cons (Dv.slV (i:=2) rfl (by rw[aa])) (.cons (.v _) (.cons (.v _) .nil)))))
def dfEv54:Ev:=⟨1,0,0,0,[]⟩
def nB (t:Tr) (p:Nat) (e:Ev):Tr:=t.set p {t.getD p dfPr with evs:=(t.getD p dfPr).evs++[e]}
def aF (w:Wd) (p:Nat) (s:Sv) (e:Ev):Wd:={w with sv:=w.sv.set p s,tr:=nB w.tr p {e with time:=nH s w.now}}
def yO (kd pe ms:Int) (i:Nat) (v:Int):Ev:=⟨kd,pe,ms,0,[⟨i,v⟩]⟩
noncomputable def G7 (w:Wd) (p:Nat) (s:Sv) (x:In):Wd:=
 if fiR w.net p<0 then aF w p {s with pc:=x.b} dfEv54
 else if (DB w.tr 3 (w.net.l.getD (fiR w.net p).toNat dfMs).nu).2>0 then {aF w p s dfEv54 with net:=woN w.net (fiR w.net p).toNat}
 else {aF w p ({s with pc:=s.pc+1}.put x.a.toNat ((w.net.l.getD (fiR w.net p).toNat dfMs).body.getD 0 0)) (yO 3 (w.net.l.getD (fiR w.net p).toNat dfMs).fr (w.net.l.getD (fiR w.net p).toNat dfMs).nu x.a.toNat ((w.net.l.getD (fiR w.net p).toNat dfMs).body.getD 0 0)) with net:=woN w.net (fiR w.net p).toNat}
def DH (w:Wd) (p:Nat) (s:Sv) (x:In):Ms:=⟨p,x.b,w.sent,[s.vars.getD x.a.toNat 0]⟩
noncomputable def stI (w:Wd) (p:Nat) (s:Sv) (x:In):Wd×Int:=
 if x.op=1 then (aF w p ({s with pc:=s.pc+1}.put x.a.toNat x.b) (yO 1 0 0 x.a.toNat x.b),0)
 else if x.op=2 then
  (if vlB (s.vars.getD x.a.toNat 0+x.b)=true then (aF w p ({s with pc:=s.pc+1}.put x.a.toNat (s.vars.getD x.a.toNat 0+x.b)) (yO 1 0 0 x.a.toNat (s.vars.getD x.a.toNat 0+x.b)),0) else (wd0,9))
 else if x.op=6 then
  (if 0<s.vars.getD x.b.toNat 0 then (aF w p ({s with pc:=x.a}.put x.b.toNat (s.vars.getD x.b.toNat 0-1)) (yO 1 0 0 x.b.toNat (s.vars.getD x.b.toNat 0-1)),0) else (aF w p {s with pc:=s.pc+1} dfEv54,0))
 else if x.op=3 then
  (if sdE w.net (DH w p s x)=0 then ({aF w p {s with pc:=s.pc+1} ⟨2,x.b,w.sent,0,[]⟩ with net:=sdR w.net (DH w p s x),sent:=w.sent+1},0) else (wd0,sdE w.net (DH w p s x)))
 else if x.op=4∨x.op=5 then (G7 w p s x,0)
 else (aF w p {s with pc:=s.pc+1} dfEv54,0)
noncomputable def stW (w:Wd) (p:Nat):Wd×Int:=stI w p (w.sv.getD p dfSv) ((w.sv.getD p dfSv).code.getD (w.sv.getD p dfSv).pc.toNat dN)
theorem ZC7 (w:Wd) (p:Nat) (s:Sv) (e:Ev):(aF w p s e).sv.length=w.sv.length∧(aF w p s e).tr.length=w.tr.length:=by
 unfold aF nB;simp
theorem QZ {t:Tr} {p q:Nat} (e:Ev) (h:p≠q):(nB t p e)[q]? = t[q]?:=by
 unfold nB;rw[bf h]
theorem XZ {t:Tr} {p:Nat} (e:Ev) (h:p<t.length):(nB t p e)[p]? = some {t[p] with evs:=t[p].evs++[e]}:=by
 unfold nB;rw[ay (by simpa using h)];simp[List.getD,h]
def svL (s:Sv) (id:Nat):List AV:=[.v (.str s.name),.v (.isl 3 (s.code.map eIn)),.v (.int .i64 s.pc),.sl id 1 0 s.vars.length,.v (.int .i64 s.off),.v (.int .i64 s.rate)]
def prL (x:Pr) (id:Nat):List AV:=[.v (.str x.name),.v (.isl 2 (x.vars.map eVr)),.sl id x.evs.length 0 x.evs.length]
def bG (w:Wd) (p id:Nat):List (List AV):=(vs (w.sv.map eSv)).set p (svL (w.sv.getD p dfSv) id)
def zO (w:Wd) (p id:Nat):List (List AV):=(vs (w.tr.map ePr)).set p (prL (w.tr.getD p dfPr) id)
def xV (w:Wd) (p q:Nat):Row:=.live w.sv.length 6 (bG w p (q+1))
def FT (w:Wd) (p:Nat):Row:=.live 1 1 (vs ((w.sv.getD p dfSv).vars.map eI))
def sX (w:Wd) (p q:Nat):Row:=.live w.tr.length 3 (zO w p (q+3))
def gV (w:Wd) (p:Nat):Row:=.live (w.tr.getD p dfPr).evs.length 5 (vs ((w.tr.getD p dfPr).evs.map eEv))
def mvC (w:Wd) (q:Nat):List AV:=[.sl q w.sv.length 0 w.sv.length,.v (.int .i64 w.net.now),.v (.bool w.net.fifo),.v (.isl 4 (w.net.l.map eMs)),.v (.isl 1 (w.net.tm.map eI)),.v (.isl 2 (w.net.fates.map eFt)),.v (.int .i64 w.now),.v (.int .i64 w.sent),.sl (q+2) w.tr.length 0 w.tr.length]
def rX (w:Wd) (q:Nat):Row:=.live 0 9 [mvC w q]
def ZEg (w:Wd) (p q:Nat):List Row:=[xV w p q,FT w p,sX w p q,gV w p]
def mvF (f:Nat→Row) (w:Wd) (p q:Nat):Nat→Row:=fun j =>
 if j=q then xV w p q else if j=q+1 then FT w p else if j=q+2 then sX w p q else if j=q+3 then gV w p else if j=q+4 then rX w q else f j
section
variable {f:Nat→Row} {w:Wd} {p q:Nat}
theorem OT:mvF f w p q q=xV w p q:=by unfold mvF;rw[if_pos rfl]
theorem uV:mvF f w p q (q+1)=FT w p:=by unfold mvF;rw[if_neg oM,if_pos rfl]
theorem nX:mvF f w p q (q+2)=sX w p q:=by unfold mvF;rw[if_neg oM,if_neg oM,if_pos rfl]
theorem tX:mvF f w p q (q+3)=gV w p:=by unfold mvF;rw[if_neg oM,if_neg oM,if_neg oM,if_pos rfl]
theorem AT:mvF f w p q (q+4)=rX w q:=by unfold mvF;rw[if_neg oM,if_neg oM,if_neg oM,if_neg oM,if_pos rfl]
theorem ET {j:Nat} (h:j<q∨q+5≤j):mvF f w p q j=f j:=by unfold mvF;rw[if_neg oM,if_neg oM,if_neg oM,if_neg oM,if_neg oM]
theorem kX {g:Nat→Row} {w':Wd} (h0:g q=xV w' p q) (h1:g (q+1)=FT w' p) (h2:g (q+2)=sX w' p q) (h3:g (q+3)=gV w' p) (h4:g (q+4)=rX w' q) (ho:∀j,j<q∨q+5≤j→g j=f j):g=mvF f w' p q:=by
 funext j
 by_cases c0:j=q
 ·rw[c0,h0,OT]
 by_cases c1:j=q+1
 ·rw[c1,h1,uV]
 by_cases c2:j=q+2
 ·rw[c2,h2,nX]
 by_cases c3:j=q+3
 ·rw[c3,h3,tX]
 by_cases c4:j=q+4
 ·rw[c4,h4,AT]
 rw[ho j oM,ET oM]
end
theorem lF {w:Wd} {p id:Nat}:(bG w p id).length=w.sv.length:=by unfold bG;rw[dj,MB,aa]
theorem aH {w:Wd} {p id:Nat}:(zO w p id).length=w.tr.length:=by unfold zO;rw[dj,MB,aa]
theorem xN {w:Wd} {p id:Nat} (hp:p<w.sv.length):(bG w p id)[p]? = some (svL (w.sv.getD p dfSv) id):=by
 unfold bG;rw[ay (by rw[MB,aa];exact hp)]
theorem A6 {w:Wd} {p i id:Nat} (hi:i<w.sv.length) (h:p≠i):(bG w p id)[i]? = some ((eSv (w.sv.getD i dfSv)).map .v):=by
 unfold bG;rw[bf h,wB,an,ah hi,ap,ah hi];rfl
theorem yX {w:Wd} {p id:Nat} (hp:p<w.tr.length):(zO w p id)[p]? = some (prL (w.tr.getD p dfPr) id):=by
 unfold zO;rw[ay (by rw[MB,aa];exact hp)]
theorem O6 {w:Wd} {p i id:Nat} (hi:i<w.tr.length) (h:p≠i):(zO w p id)[i]? = some ((ePr (w.tr.getD i dfPr)).map .v):=by
 unfold zO;rw[bf h,wB,an,ah hi,ap,ah hi];rfl
theorem mem_set_cases {α:Type} {l:List α} {i:Nat} {a x:α} (h:x∈l.set i a):x∈l∨x=a:=List.mem_or_eq_of_mem_set h
theorem fW {w:Wd} {p id m:Nat} (h:id<m):∀row∈bG w p id,∀c∈row,AVlt m c:=fun row hr=>by
 rcases mem_set_cases hr with hr|hr
 ·exact (CK.2 trivial) row hr
 ·rw[hr];unfold svL;simp only[lx,uX,XR,true_and,and_true];exact⟨h,fun _ h=>by cases h⟩
theorem O8 {w:Wd} {p id m:Nat} (h:id<m):∀row∈zO w p id,∀c∈row,AVlt m c:=fun row hr=>by
 rcases mem_set_cases hr with hr|hr
 ·exact (CK.2 trivial) row hr
 ·rw[hr];unfold prL;simp only[lx,uX,XR,true_and,and_true];exact⟨h,fun _ h=>by cases h⟩
theorem ZEU {n i p:Nat} {l:List Row} {w:Wd} (hp:p<w.sv.length) (SL:p<w.tr.length) (h0:l[i]? = some (xV w p (n+i))) (h1:l[i+1]? = some (FT w p)) (h2:l[i+2]? = some (sX w p (n+i))) (h3:l[i+3]? = some (gV w p)):Dv n l (.agg (mvC w (n+i))) (.agg ((eWd w).map .v)):=by
 have e:(eWd w).map AV.v=(zWA w):=rfl
 rw[e]
 unfold mvC
 have hA:Dv n l (.sl (n+i) w.sv.length 0 w.sv.length) (.v (.isl 6 (w.sv.map eSv))):=by
  refine Dv.slR h0 (by rw[lF];omega) (by rw[aa]) (fun k r row g1 g2=>?_)
  rw[cm]at g1
  rw[an]at g2
  have hk:k<w.sv.length:=by
   have:=(ak.1 g1).1
   rwa [lF]at this
  rw[ah hk]at g2
  cases g2
  by_cases i6:p=k
  ·subst i6
   rw[xN hp,YA hp]at g1
   cases g1
   refine DvR.cons (.v _) (DvR.cons (.v _) (DvR.cons (.v _) (DvR.cons ?_ (DvR.cons (.v _) (DvR.cons (.v _) DvR.nil)))))
   rw[ct]
   unfold FT at h1
   rw[YA hp]at h1
   exact Dv.slV h1 (by rw[aa])
  ·rw[A6 hk i6,YA hk]at g1
   cases g1
   exact DvR.plain
 have hC:Dv n l (.sl (n+i+2) w.tr.length 0 w.tr.length) (.v (.isl 3 (w.tr.map ePr))):=by
  rw[ct]
  refine Dv.slR h2 (by rw[aH];omega) (by rw[aa]) (fun k r row g1 g2=>?_)
  rw[cm]at g1
  rw[an]at g2
  have hk:k<w.tr.length:=by
   have:=(ak.1 g1).1
   rwa [aH]at this
  rw[ah hk]at g2
  cases g2
  by_cases i6:p=k
  ·subst i6
   rw[yX SL,YA SL]at g1
   cases g1
   refine DvR.cons (.v _) (DvR.cons (.v _) (DvR.cons ?_ DvR.nil))
   rw[ct]
   unfold gV at h3
   rw[YA SL]at h3
   exact Dv.slV h3 (by rw[aa])
  ·rw[O6 hk i6,YA hk]at g1
   cases g1
   exact DvR.plain
 exact Dv.aggL (.cons hA (.cons (.v _) (.cons (.v _) (.cons (.v _) (.cons (.v _) (.cons (.v _) (.cons (.v _) (.cons (.v _) (.cons hC .nil)))))))))
attribute [local go_sem] NN mS vM NO jM TO GA NG
def a_mev:AFunc:=({c:=_}:CF Tryz.prog 114).c
theorem ZD3:jA Tryz.prog 114=some a_mev:=by kernel_rfl

theorem G1 {n q p:Nat} {f:Nat→Row} {w:Wd} {l B:List Row} (hn:q+5≤n) (hB:B=kB n (mvF f w p q)++l):∃m f',m=n+l.length∧B=kB m (mvF f' w p q)∧∀w',kB m (mvF f' w' p q)=kB n (mvF f w' p q)++l:=by
 obtain⟨m,g,hm,hBg,hg⟩:=ZHA B
 have hml:m=n+l.length:=by rw[hm,hB,aq,GA]
 have gB:∀j,j<n→g j=mvF f w p q j:=fun j hj=>hg j _ (by rw[hB,aw (by rw[GA];exact hj),XH hj])
 have e:∀w',kB m (mvF g w' p q)=kB n (mvF f w' p q)++l:=fun w'=>by
  apply dr
  intro j
  by_cases hj:j<n
  ·rw[XH oM,aw (by rw[GA];exact hj),XH hj]
   by_cases hq:j<q∨q+5≤j
   ·rw[ET hq,ET hq,gB j hj,ET hq]
   ·obtain rfl|rfl|rfl|rfl|rfl:j=q∨j=q+1∨j=q+2∨j=q+3∨j=q+4:=by omega
    ·rw[OT,OT]
    ·rw[uV,uV]
    ·rw[nX,nX]
    ·rw[tX,tX]
    ·rw[AT,AT]
  ·rw[ar (by rw[GA];omega),GA]
   by_cases hj2:j<m
   ·rw[XH hj2,ET (.inr oM)]
    have hl:j-n<l.length:=by omega
    rw[ah hl]
    congr 1
    exact hg j _ (by rw[hB,ar (by rw[GA];omega),GA,ah hl])
   ·rw[bu (by rw[GA];omega),bu oM]
 exact⟨m,g,hml,by rw[e w,←hB],e⟩
theorem aT {m q p:Nat} {f:Nat→Row} {w w':Wd} (hq:q+5≤m) (h:tA m (kB m (mvF f w p q))):tA m (kB m (mvF f w' p q)):=by
 intro id ver sz els hi row sD c hc
 have hl:id<m:=by
  have:=(ak.1 hi).1
  rwa [GA]at this
 rw[XH hl,jq]at hi
 by_cases ho:id<q∨q+5≤id
 ·rw[ET ho]at hi
  exact h id ver sz els (by rw[XH hl,ET ho,hi]) row sD c hc
 ·obtain rfl|rfl|rfl|rfl|rfl:id=q∨id=q+1∨id=q+2∨id=q+3∨id=q+4:=by omega
  ·rw[OT]at hi;cases hi;exact fW oM row sD c hc
  ·rw[uV]at hi;cases hi;exact (CK.2 trivial) row sD c hc
  ·rw[nX]at hi;cases hi;exact O8 oM row sD c hc
  ·rw[tX]at hi;cases hi;exact (CK.2 trivial) row sD c hc
  ·rw[AT]at hi;cases hi
   have:∀row∈[mvC w' q],∀c∈row,AVlt m c:=by
    unfold mvC
    simp (disch:=omega) only[lx,List.forall_mem_nil,uX,XR,true_and,and_true,jf,false_imp_iff,implies_true]
    omega
   exact this row sD c hc
theorem DC {rs:List ARes} {Q:AV→List Row→List Row→Prop} {B e l:_} {ex:AExit} (hex:ex=.normal∨ex=.ret) {xs:List AV} (hx:resVs e B l rs=some xs) (yA:AVlt B.length (one xs)) (hR:tA B.length B) {n p q:Nat} {f f':Nat→Row} {w0 w':Wd} {b l0:List Row} (hb:b=kB n (mvF f w0 p q)) (hB:B=kB n (mvF f' w' p q)++l0) (hq:Q (one xs) (kB n (mvF f' w' p q)) l0):YH rs Q b.length ex e B l:=by
 have hbl:b.length=(kB n (mvF f' w' p q)).length:=by rw[hb,GA,GA]
 rw[hbl]
 exact DA hex hx yA hR hB hq
def evW (w:Wd) (p:Nat) (e:Ev):Wd:={w with tr:=nB w.tr p {e with time:=nH (w.sv.getD p dfSv) w.now}}
theorem ZCo {w:Wd} {p id:Nat} {e:Ev} (hp:p<w.tr.length):(zO w p id).set p [.v (.str (w.tr.getD p dfPr).name),.v (.isl 2 ((w.tr.getD p dfPr).vars.map eVr)),.sl id ((w.tr.getD p dfPr).evs.length+1) 0 ((w.tr.getD p dfPr).evs.length+1)]=zO (evW w p e) p id:=by
 unfold zO
 rw[iu]
 have hg:(evW w p e).tr.getD p dfPr={w.tr.getD p dfPr with evs:=(w.tr.getD p dfPr).evs++[{e with time:=nH (w.sv.getD p dfSv) w.now}]}:=by
  show (nB w.tr p _).getD p dfPr=_
  unfold nB
  rw[ap,ay hp];rfl
 rw[hg]
 have hm:vs ((evW w p e).tr.map ePr)=(vs (w.tr.map ePr)).set p ((ePr {w.tr.getD p dfPr with evs:=(w.tr.getD p dfPr).evs++[{e with time:=nH (w.sv.getD p dfSv) w.now}]}).map .v):=by
  show vs ((nB w.tr p _).map ePr)=_
  unfold nB vs
  rw[fo,fo]
 rw[hm,iu]
 unfold prL
 simp only[aq,dp]
theorem ZGM {w:Wd} {p:Nat} {e:Ev} (hp:p<w.tr.length):(evW w p e).tr.getD p dfPr={w.tr.getD p dfPr with evs:=(w.tr.getD p dfPr).evs++[{e with time:=nH (w.sv.getD p dfSv) w.now}]}:=by
 show (nB w.tr p _).getD p dfPr=_
 unfold nB
 rw[ap,ay hp];rfl
theorem jF {w:Wd} {p:Nat} {e:Ev}:(evW w p e).tr.length=w.tr.length:=by
 show (nB w.tr p _).length=_
 unfold nB;simp
theorem GZ (f:Nat→Row) (w:Wd) (p q n:Nat) (hn:q+5≤n) (hp:p<w.sv.length) (SL:p<w.tr.length) (JX:w.sv.length≤1000000) (dW:w.tr.length≤1000000) (mJ:(w.tr.getD p dfPr).evs.length≤1000000) (e:Ev) (b l:List Row) (hb:b=kB n (mvF f w p q)) :
  QA Tryz.prog 114 [.ptr (q+4) 0 0 0,.v (.int .i64 p),.agg (zEA e)] b l
   (fun r b' l'=>r=.tup []∧b'=kB n (mvF f (evW w p e) p q)∧l'=l):=by
 refine XA ZD3 rfl kE ?_
 intro B g hB hR hE hA;simp only[zA]at hA
 rw[hb]at hB
 obtain⟨m,f',hm,n6,KH⟩:=G1 hn hB
 clear hB
 subst n6
 rw[GA]at hR
 obtain⟨s,hs⟩:∃s,w.sv.getD p dfSv=s:=⟨_,rfl⟩
 obtain⟨x,hx⟩:∃x,w.tr.getD p dfPr=x:=⟨_,rfl⟩
 obtain⟨SV,M7⟩:∃SV,bG w p (q+1)=SV:=⟨_,rfl⟩
 obtain⟨PR,hPR⟩:∃PR,zO w p (q+3)=PR:=⟨_,rfl⟩
 have fT:SV.length=w.sv.length:=by rw[←M7,lF]
 have hPl:PR.length=w.tr.length:=by rw[←hPR,aH]
 have gS:SV[p]? = some [.v (.str s.name),.v (.isl 3 (s.code.map eIn)),.v (.int .i64 s.pc),.sl (q+1) 1 0 s.vars.length,.v (.int .i64 s.off),.v (.int .i64 s.rate)]:=by rw[←M7,xN hp,hs];rfl
 have gP:PR[p]? = some [.v (.str x.name),.v (.isl 2 (x.vars.map eVr)),.sl (q+3) x.evs.length 0 x.evs.length]:=by rw[←hPR,yX SL,hx];rfl
 obtain⟨F,hF⟩:∃F,mvF f' w p q=F:=⟨_,rfl⟩
 have f0:F q=.live w.sv.length 6 SV:=by rw[←hF,OT,←M7];rfl
 have f2:F (q+2)=.live w.tr.length 3 PR:=by rw[←hF,nX,←hPR];rfl
 have f3:F (q+3)=.live x.evs.length 5 (vs (x.evs.map eEv)):=by rw[←hF,tX,←hx];rfl
 have f4:F (q+4)=.live 0 9 [[.sl q w.sv.length 0 w.sv.length,.v (.int .i64 w.net.now),.v (.bool w.net.fifo),.v (.isl 4 (w.net.l.map eMs)),.v (.isl 1 (w.net.tm.map eI)),.v (.isl 2 (w.net.fates.map eFt)),.v (.int .i64 w.now),.v (.int .i64 w.sent),.sl (q+2) w.tr.length 0 w.tr.length]]:=by rw[←hF,AT];rfl
 have gk:∀{j:Nat} {f:Nat→Row} {L:List Row},j<5→hget (kB m f) L (q+j)=some (f (q+j)):=fun hj=>pH oM
 have kn:∀{j:Nat} {f:Nat→Row} {r:Row},j<5→vE (kB m f) (q+j) r=kB m (rUp f (q+j) r):=fun hj=>MJ oM
 have kl:∀{j:Nat} {f:Nat→Row} {r:Row} {L:List Row},j<5→lE (kB m f) L (q+j) r=L:=fun hj=>PJ oM
 have gk0:∀{f:Nat→Row} {L:List Row},hget (kB m f) L q=some (f q):=pH oM
 have cC:=fun b l=>JP (.str s.name) (.isl 3 (s.code.map eIn)) (.int .i64 s.pc) (.sl (q+1) 1 0 s.vars.length) s w.now b l (.inr ⟨_,_,_,_,rfl⟩)
 rw[hx]at mJ
 have hye:(x.evs.map eEv).length=x.evs.length:=aa _
 have htk:List.take x.evs.length (vs (x.evs.map eEv))=vs (x.evs.map eEv):=cr (by rw[MB,hye];omega)
 rw[hF]at hR⊢
 simp (disch:=first|decide|omega) only[a_mev,hA,gk,gk0,f0,f4,gS,fT,aa,go_sem]
 refine QA.nxt (cC _ _) ?_
 simp (disch:=first|decide|omega) only[hA,gk,gk0,f0,f2,f3,f4,gP,hPl,hye,htk,kn,kl,sA,iB,go_sem]
 have zH:rUp (rUp F (q+3) (.live (x.evs.length+1) 5 (vs (x.evs.map eEv++[[.int .i64 e.kind,.int .i64 e.peer,.int .i64 e.msg,.int .i64 (nH s w.now),.isl 2 (e.asg.map uL)]])))) (q+2) (.live w.tr.length 3 (PR.set p [.v (.str x.name),.v (.isl 2 (x.vars.map eVr)),.sl (q+3) (x.evs.length+1) 0 (x.evs.length+1)]))=mvF f' (evW w p e) p q:=by
  refine kX ?_ ?_ ?_ ?_ ?_ (fun j hj=>?_)
  ·rw[sA oM,sA oM,←hF,OT];rfl
  ·rw[sA oM,sA oM,←hF,uV];rfl
  ·rw[NG]
   unfold sX
   rw[jF,←ZCo SL,hx,hPR]
  ·rw[sA oM,NG]
   unfold gV
   rw[ZGM SL,hx,hs]
   simp only[aq,dp,bq]
   rfl
  ·rw[sA oM,sA oM,←hF,AT]
   unfold rX mvC
   rw[jF];rfl
  ·rw[sA oM,sA oM,←hF,ET hj]
 rw[zH]
 exact DC (xs:=[]) (.inl rfl) kR kO (by rw[GA];rw[←hF]at hR;exact aT oM hR) hb (KH _) ⟨rfl,rfl,rfl⟩
def a_masg:AFunc:=({c:=_}:CF Tryz.prog 112).c
theorem ZBK:jA Tryz.prog 112=some a_masg:=by kernel_rfl
def a_msnd:AFunc:=({c:=_}:CF Tryz.prog 115).c
theorem ZBI:jA Tryz.prog 115=some a_msnd:=by kernel_rfl
def a_mrcv:AFunc:=({c:=_}:CF Tryz.prog 116).c
theorem ZBJ:jA Tryz.prog 116=some a_mrcv:=by kernel_rfl

theorem RO (f:Nat→Row) (w:Wd) (p q n:Nat) (hn:q+5≤n) (hp:p<w.sv.length) (SL:p<w.tr.length) (JX:w.sv.length≤1000000) (dW:w.tr.length≤1000000) (mJ:(w.tr.getD p dfPr).evs.length≤1000000) (k pe ms:Int) (b l:List Row) (hb:b=kB n (mvF f w p q)) :
  QA Tryz.prog 114 [.ptr (q+4) 0 0 0,.v (.int .i64 p),.agg [.v (.int .i64 k),.v (.int .i64 pe),.v (.int .i64 ms),.v (.int .i64 0),.v .zsl]] b l
   (fun r b' l'=>r=.tup []∧b'=kB n (mvF f (evW w p ⟨k,pe,ms,0,[]⟩) p q)∧l'=l):=by
 refine (GZ f w p q n hn hp SL JX dW mJ ⟨k,pe,ms,0,[]⟩ b l hb).le rfl (fun i x y hx hy=>?_)
 match i,hx,hy with
 |0,hx,hy=>cases hx;cases hy;exact .refl _
 |1,hx,hy=>cases hx;cases hy;exact .refl _
 |2,hx,hy =>
   cases hx;cases hy
   refine .agg _ _ rfl (fun j u v hu hv=>?_)
   match j,hu,hv with
   |0,hu,hv=>cases hu;cases hv;exact .refl _
   |1,hu,hv=>cases hu;cases hv;exact .refl _
   |2,hu,hv=>cases hu;cases hv;exact .refl _
   |3,hu,hv=>cases hu;cases hv;exact .refl _
   |4,hu,hv=>cases hu;cases hv;exact .v _ _ (.zsl 2)
def asW (w:Wd) (p:Nat) (e:Ev) (i:Nat) (v:Int):Wd:={evW w p {e with asg:=[⟨i,v⟩]} with sv:=w.sv.set p ((w.sv.getD p dfSv).put i v)}
theorem bZ {w:Wd} {p id:Nat} {s:Sv} (hp:p<w.sv.length):(bG w p id).set p (svL s id)=bG {w with sv:=w.sv.set p s} p id:=by
 unfold bG
 rw[iu]
 have hg:({w with sv:=w.sv.set p s}:Wd).sv.getD p dfSv=s:=by
  show (w.sv.set p s).getD p dfSv=s
  rw[ap,ay hp];rfl
 rw[hg]
 have hm:vs (({w with sv:=w.sv.set p s}:Wd).sv.map eSv)=(vs (w.sv.map eSv)).set p ((eSv s).map .v):=by
  show vs ((w.sv.set p s).map eSv)=_
  unfold vs
  rw[fo,fo]
 rw[hm,iu]
theorem RU (f:Nat→Row) (w:Wd) (p q n:Nat) (hn:q+5≤n) (hp:p<w.sv.length) (SL:p<w.tr.length) (JX:w.sv.length≤1000000) (dW:w.tr.length≤1000000) (mJ:(w.tr.getD p dfPr).evs.length≤1000000) (k pe ms:Int) (i:Nat) (hi:i<(w.sv.getD p dfSv).vars.length) (kW:(w.sv.getD p dfSv).vars.length≤1000000) (v:Int) (b l:List Row) (hb:b=kB n (mvF f w p q)) :
  QA Tryz.prog 112 [.ptr (q+4) 0 0 0,.v (.int .i64 p),.v (.int .i64 i),.v (.int .i64 v),.agg [.v (.int .i64 k),.v (.int .i64 pe),.v (.int .i64 ms),.v (.int .i64 0),.v .zsl]] b l
   (fun r b' l'=>r=.v (.int .i64 (if vlB v=true then 0 else 9))∧b'=kB n (mvF f (if vlB v=true then asW w p ⟨k,pe,ms,0,[]⟩ i v else w) p q)∧l'=l):=by
 refine XA ZBK rfl kE ?_
 intro B g hB hR hE hA;simp only[zA]at hA
 rw[hb]at hB
 obtain⟨m,f',hm,n6,KH⟩:=G1 hn hB
 clear hB
 subst n6
 rw[GA]at hR
 have cB:=fun b l=>KM v b l
 obtain⟨F,hF⟩:∃F,mvF f' w p q=F:=⟨_,rfl⟩
 cases hv:vlB v
 ·rw[hv]at cB
  rw[if_neg kS,if_neg kS]
  rw[hF]at hR⊢
  simp (disch:=first|decide|omega) only[a_masg,hA,cellsOf,go_sem]
  refine QA.nxt (cB _ _) ?_
  simp (disch:=first|decide|omega) only[hA,go_sem]
  exact DC (xs:=[.v (.int .i64 9)]) (.inr rfl) kR kO (by rw[GA];exact hR) hb (by rw[←hF];exact KH w) ⟨rfl,rfl,rfl⟩
 rw[hv]at cB
 rw[if_pos rfl,if_pos rfl]
 obtain⟨w1,IE⟩:∃w1,evW w p ⟨k,pe,ms,0,[⟨i,v⟩]⟩=w1:=⟨_,rfl⟩
 have cE:=fun l=>GZ f' w p q m oM hp SL JX dW mJ ⟨k,pe,ms,0,[⟨i,v⟩]⟩ (kB m F) l (by rw[hF])
 rw[IE]at cE
 obtain⟨F1,EL⟩:∃F1,mvF f' w1 p q=F1:=⟨_,rfl⟩
 rw[EL]at cE
 simp only[zEA,uL,bl,cd]at cE
 have I1:tA m (kB m F1):=by rw[←EL];exact aT oM hR
 have e1:w1.sv=w.sv:=by rw[←IE];rfl
 have e2:w1.net=w.net:=by rw[←IE];rfl
 have e3:w1.tr.length=w.tr.length:=by rw[←IE];exact jF
 have e4:w1.now=w.now:=by rw[←IE];rfl
 have e5:w1.sent=w.sent:=by rw[←IE];rfl
 obtain⟨s,hs⟩:∃s,w.sv.getD p dfSv=s:=⟨_,rfl⟩
 rw[hs]at hi kW
 obtain⟨SV,M7⟩:∃SV,bG w1 p (q+1)=SV:=⟨_,rfl⟩
 have fT:SV.length=w.sv.length:=by rw[←M7,lF,e1]
 have gS:SV[p]? = some [.v (.str s.name),.v (.isl 3 (s.code.map eIn)),.v (.int .i64 s.pc),.sl (q+1) 1 0 s.vars.length,.v (.int .i64 s.off),.v (.int .i64 s.rate)]:=by rw[←M7,xN (by rw[e1];exact hp),e1,hs];rfl
 have f0:F1 q=.live w.sv.length 6 SV:=by rw[←EL,OT,←M7,←e1];rfl
 obtain⟨rows,hr⟩:∃rows,s.vars.map eI=rows:=⟨_,rfl⟩
 have MY:rows.length=s.vars.length:=by rw[←hr,aa]
 have hri:∀h:i<rows.length,rows[i]'h=[.int .i64 s.vars[i]]:=fun h=>by
  subst hr;rw[lk];rfl
 have f1:F1 (q+1)=.live 1 1 (vs rows):=by rw[←EL,uV,←hr,←hs,←e1];rfl
 have f4:F1 (q+4)=.live 0 9 [[.sl q w.sv.length 0 w.sv.length,.v (.int .i64 w.net.now),.v (.bool w.net.fifo),.v (.isl 4 (w.net.l.map eMs)),.v (.isl 1 (w.net.tm.map eI)),.v (.isl 2 (w.net.fates.map eFt)),.v (.int .i64 w.now),.v (.int .i64 w.sent),.sl (q+2) w.tr.length 0 w.tr.length]]:=by rw[←EL,AT,←e1,←e2,←e3,←e4,←e5];rfl
 have gk:∀{j:Nat} {f:Nat→Row} {L:List Row},j<5→hget (kB m f) L (q+j)=some (f (q+j)):=fun hj=>pH oM
 have kn:∀{j:Nat} {f:Nat→Row} {r:Row},j<5→vE (kB m f) (q+j) r=kB m (rUp f (q+j) r):=fun hj=>MJ oM
 have kl:∀{j:Nat} {f:Nat→Row} {r:Row} {L:List Row},j<5→lE (kB m f) L (q+j) r=L:=fun hj=>PJ oM
 have gk0:∀{f:Nat→Row} {L:List Row},hget (kB m f) L q=some (f q):=pH oM
 rw[hF]at hR⊢
 simp (disch:=first|decide|omega) only[a_masg,hA,cellsOf,go_sem]
 refine QA.nxt (cB _ _) ?_
 simp (disch:=first|decide|omega) only[hA,iB,go_sem]
 refine QA.frzB (i:=1) (ver:=0) (sz:=2) (rows:=[[.int .i64 i,.int .i64 v]]) (args':=[.ptr (q+4) 0 0 0,.v (.int .i64 p),.agg [.v (.int .i64 k),.v (.int .i64 pe),.v (.int .i64 ms),.v (.int .i64 0),.v (.isl 2 [[.int .i64 i,.int .i64 v]])]]) rfl (by simp[frz,YF,GA]) ?_
 refine QA.nxt (cE _) ?_
 simp (disch:=first|decide|omega) only[hA,gk,gk0,f0,f1,f4,gS,fT,MY,hri,kn,kl,sA,iB,gh,go_sem]
 have zH:rUp F1 (q+1) (.live 1 1 (vs (rows.set i [.int .i64 v])))=mvF f' (asW w p ⟨k,pe,ms,0,[]⟩ i v) p q:=by
  have hw2:asW w p ⟨k,pe,ms,0,[]⟩ i v={w1 with sv:=w1.sv.set p (s.put i v)}:=by rw[←IE,←hs];rfl
  have hg:({w1 with sv:=w1.sv.set p (s.put i v)}:Wd).sv.getD p dfSv=s.put i v:=by
   show (w1.sv.set p (s.put i v)).getD p dfSv=_
   rw[ap,ay (by rw[e1];exact hp)];rfl
  rw[hw2]
  refine kX ?_ ?_ ?_ ?_ ?_ (fun j hj=>?_)
  ·rw[sA oM,←EL,OT]
   unfold xV
   rw[←bZ (by rw[e1];exact hp)]
   have:svL (s.put i v) (q+1)=svL s (q+1):=by unfold svL Sv.put;simp
   rw[this]
   have h2:(bG w1 p (q+1)).set p (svL s (q+1))=bG w1 p (q+1):=by
    apply dr
    intro j
    by_cases hj:p=j
    ·subst hj
     rw[ay (by rw[lF,e1];exact hp),xN (by rw[e1];exact hp),e1,hs]
    ·rw[bf hj]
   rw[h2]
   congr 1
   simp
  ·rw[NG]
   unfold FT
   rw[hg,←hr]
   unfold Sv.put
   simp only[fo]
   rfl
  ·rw[sA oM,←EL,nX];rfl
  ·rw[sA oM,←EL,tX];rfl
  ·rw[sA oM,←EL,AT]
   unfold rX mvC
   simp
  ·rw[sA oM,←EL,ET hj]
 rw[zH]
 exact DC (xs:=[.v (.int .i64 0)]) (.inr rfl) kR kO (by rw[GA];rw[←EL]at I1;exact aT oM I1) hb (KH _) ⟨rfl,rfl,rfl⟩
theorem gE {f' F:Nat→Row} {w:Wd} {p q:Nat} (hp:p<w.sv.length) (SL:p<w.tr.length) (hF:mvF f' w p q=F) {s:Sv} (hs:w.sv.getD p dfSv=s) {SV:List (List AV)} (M7:bG w p (q+1)=SV) :
  SV.length=w.sv.length∧SV[p]? = some [.v (.str s.name),.v (.isl 3 (s.code.map eIn)),.v (.int .i64 s.pc),.sl (q+1) 1 0 s.vars.length,.v (.int .i64 s.off),.v (.int .i64 s.rate)]∧F q=.live w.sv.length 6 SV∧F (q+1)=.live 1 1 (vs (s.vars.map eI)) ∧
  F (q+4)=.live 0 9 [[.sl q w.sv.length 0 w.sv.length,.v (.int .i64 w.net.now),.v (.bool w.net.fifo),.v (.isl 4 (w.net.l.map eMs)),.v (.isl 1 (w.net.tm.map eI)),.v (.isl 2 (w.net.fates.map eFt)),.v (.int .i64 w.now),.v (.int .i64 w.sent),.sl (q+2) w.tr.length 0 w.tr.length]]:=by
 subst hs;subst M7;subst hF
 exact⟨lF,xN hp,OT,uV,AT⟩
theorem C6 {f':Nat→Row} {w:Wd} {p q:Nat} {n:Nw} {k:Int}:rUp (mvF f' w p q) (q+4) (.live 0 9 [[.sl q w.sv.length 0 w.sv.length,.v (.int .i64 n.now),.v (.bool n.fifo),.v (.isl 4 (n.l.map eMs)),.v (.isl 1 (n.tm.map eI)),.v (.isl 2 (n.fates.map eFt)),.v (.int .i64 w.now),.v (.int .i64 k),.sl (q+2) w.tr.length 0 w.tr.length]])=mvF f' {w with net:=n,sent:=k} p q:=by
 refine kX ?_ ?_ ?_ ?_ ?_ (fun j hj=>?_)
 ·rw[sA oM,OT];rfl
 ·rw[sA oM,uV];rfl
 ·rw[sA oM,nX];rfl
 ·rw[sA oM,tX];rfl
 ·rw[NG];rfl
 ·rw[sA oM,ET hj]
def pcW (w:Wd) (p:Nat) (c:Int):Wd:={w with sv:=w.sv.set p {w.sv.getD p dfSv with pc:=c}}
theorem AK {f':Nat→Row} {w:Wd} {p q:Nat} {c:Int} (hp:p<w.sv.length) {s:Sv} (hs:w.sv.getD p dfSv=s):rUp (mvF f' w p q) q (.live w.sv.length 6 ((bG w p (q+1)).set p [.v (.str s.name),.v (.isl 3 (s.code.map eIn)),.v (.int .i64 c),.sl (q+1) 1 0 s.vars.length,.v (.int .i64 s.off),.v (.int .i64 s.rate)]))=mvF f' (pcW w p c) p q:=by
 have hg:(pcW w p c).sv.getD p dfSv={s with pc:=c}:=by
  show (w.sv.set p {w.sv.getD p dfSv with pc:=c}).getD p dfSv=_
  rw[ap,ay hp,hs];rfl
 refine kX ?_ ?_ ?_ ?_ ?_ (fun j hj=>?_)
 ·rw[NG]
  have:=bZ (id:=q+1) (s:={s with pc:=c}) hp
  unfold xV
  have e:pcW w p c={w with sv:=w.sv.set p {s with pc:=c}}:=by unfold pcW;rw[hs]
  rw[e,←this]
  congr 1
  simp
 ·rw[sA oM,uV]
  unfold FT
  rw[hg,hs]
 ·rw[sA oM,nX];rfl
 ·rw[sA oM,tX];rfl
 ·rw[sA oM,AT]
  unfold rX mvC pcW
  simp
 ·rw[sA oM,ET hj]
theorem mv_tr {m p q:Nat} {f':Nat→Row} {w:Wd} {L:List Row} (hm:q+5≤m) (hp:p<w.sv.length) (SL:p<w.tr.length):Dv 0 (kB m (mvF f' w p q)++L) (.sl (q+2) w.tr.length 0 w.tr.length) (.v (.isl 3 (w.tr.map ePr))):=by
 have g:∀j r,j<m→mvF f' w p q j=r→(kB m (mvF f' w p q)++L)[j]? = some r:=fun j r hj h=>by
  rw[aw (by rw[GA];exact hj),XH hj,h]
 have:=ZEU (n:=0) (i:=q) (l:=kB m (mvF f' w p q)++L) hp SL (g _ _ oM (by rw[cm];exact OT)) (g _ _ oM uV) (g _ _ oM (by rw[cm];exact nX)) (g _ _ oM tX)
 rw[cm]at this
 cases this with
 |agg _ _ _ h=>exact h 8 _ _ rfl rfl
theorem ZA4 (f:Nat→Row) (w:Wd) (p q n:Nat) (hn:q+5≤n) (hp:p<w.sv.length) (SL:p<w.tr.length) (JX:w.sv.length≤1000000) (dW:w.tr.length≤1000000) (mJ:(w.tr.getD p dfPr).evs.length≤1000000) (x:In) (i:Nat) (KR:x.a=i) (hi:i<(w.sv.getD p dfSv).vars.length) (kW:(w.sv.getD p dfSv).vars.length≤1000000) (S1:0≤w.sent∧w.sent≤1000)
  (hv:nwB w.net=true) (hm:msB (DH w p (w.sv.getD p dfSv) x)=true) (b l:List Row) (hb:b=kB n (mvF f w p q)) :
  QA Tryz.prog 115 [.ptr (q+4) 0 0 0,.v (.int .i64 p),.agg [.v (.int .i64 x.op),.v (.int .i64 x.a),.v (.int .i64 x.b)]] b l
   (fun r b' l'=>r=.v (.int .i64 (sdE w.net (DH w p (w.sv.getD p dfSv) x)))∧b'=kB n (mvF f (if sdE w.net (DH w p (w.sv.getD p dfSv) x)=0 then evW {w with net:=sdR w.net (DH w p (w.sv.getD p dfSv) x),sent:=w.sent+1} p ⟨2,x.b,w.sent,0,[]⟩ else w) p q)∧l'=l):=by
 refine XA ZBI rfl kE ?_
 intro B g hB hR hE hA;simp only[zA]at hA
 rw[hb]at hB
 obtain⟨m,f',hm0,n6,KH⟩:=G1 hn hB
 clear hB
 subst n6
 rw[GA]at hR
 obtain⟨s,hs⟩:∃s,w.sv.getD p dfSv=s:=⟨_,rfl⟩
 obtain⟨SV,M7⟩:∃SV,bG w p (q+1)=SV:=⟨_,rfl⟩
 obtain⟨F,hF⟩:∃F,mvF f' w p q=F:=⟨_,rfl⟩
 obtain⟨fT,gS,f0,f1,f4⟩:=gE hp SL hF hs M7
 rw[hs]at hi kW hm⊢
 have gk:∀{j:Nat} {f:Nat→Row} {L:List Row},j<5→hget (kB m f) L (q+j)=some (f (q+j)):=fun hj=>pH oM
 have kn:∀{j:Nat} {f:Nat→Row} {r:Row},j<5→vE (kB m f) (q+j) r=kB m (rUp f (q+j) r):=fun hj=>MJ oM
 have kl:∀{j:Nat} {f:Nat→Row} {r:Row} {L:List Row},j<5→lE (kB m f) L (q+j) r=L:=fun hj=>PJ oM
 have gk0:∀{f:Nat→Row} {L:List Row},hget (kB m f) L q=some (f q):=pH oM
 have p6:=tE hi
 obtain⟨u,huu⟩:∃u,s.vars.getD i 0=u:=⟨_,rfl⟩
 rw[huu]at p6
 obtain⟨mg,P7⟩:∃mg,DH w p s x=mg:=⟨_,rfl⟩
 have hmd:mg=⟨p,x.b,w.sent,[u]⟩:=by rw[←P7];unfold DH;rw[KR,cj,huu]
 rw[P7]at hm⊢
 have cS:∀b l,QA Tryz.prog 156 [.agg ((eNw w.net).map .v),.agg [.v (.int .i64 p),.v (.int .i64 x.b),.v (.int .i64 w.sent),.v (.isl 1 [[.int .i64 u]])]] b l (fun r b' l'=>r=.tup [nwA (sdR w.net mg),.v (.int .i64 (sdE w.net mg))]∧b'=b∧l'=l):=fun b l=>by
  have:=Z4 w.net mg b l
  have e2:rQ w.net mg=sdE w.net mg:=by unfold rQ;rw[if_pos hv,if_pos hm]
  have e1:ZEe w.net mg=sdR w.net mg:=by unfold ZEe sdR;rw[e2]
  rw[e1,e2,hmd]at this
  rw[hmd]
  exact this
 obtain⟨n2,hn2⟩:∃n2,sdR w.net mg=n2:=⟨_,rfl⟩
 obtain⟨er,her⟩:∃er,sdE w.net mg=er:=⟨_,rfl⟩
 rw[hn2,her]at cS
 rw[her,hn2]
 simp only[eNw,nwA,bl,cd]at cS
 have xH:∀h:i<s.vars.length,eI (s.vars[i]'h)=[.int .i64 u]:=fun h=>by rw[←huu,YA h];rfl
 have hws:IntKind.i64.wrap (w.sent+1)=w.sent+1:=dA oM oM
 rw[hF]at hR⊢
 simp (disch:=first|decide|omega) only[a_msnd,hA,gk,gk0,f0,f1,f4,gS,fT,KR,p6,aa,go_sem]
 refine QA.frzB (i:=1) (ver:=0) (sz:=1) (rows:=[[.int .i64 u]]) (args':=[.agg [.v (.int .i64 w.net.now),.v (.bool w.net.fifo),.v (.isl 4 (w.net.l.map eMs)),.v (.isl 1 (w.net.tm.map eI)),.v (.isl 2 (w.net.fates.map eFt))],.agg [.v (.int .i64 p),.v (.int .i64 x.b),.v (.int .i64 w.sent),.v (.isl 1 [[.int .i64 u]])]]) rfl (by simp[frz,YF,GA]) ?_
 refine QA.nxt (cS _ _) ?_
 by_cases he:er=0
 ·have e0:(er != 0)=false:=by simpa using he
  rw[if_pos he]
  simp (disch:=first|decide|omega) only[hA,e0,gk,gk0,f0,f1,f4,gS,fT,KR,p6,xH,hws,kn,kl,sA,iB,go_sem]
  obtain⟨w1,IE⟩:∃w1:Wd,({w with net:=n2,sent:=w.sent+1}:Wd)=w1:=⟨_,rfl⟩
  have uW:rUp (mvF f' {w with net:=n2} p q) (q+4) (.live 0 9 [[.sl q w.sv.length 0 w.sv.length,.v (.int .i64 n2.now),.v (.bool n2.fifo),.v (.isl 4 (n2.l.map eMs)),.v (.isl 1 (n2.tm.map eI)),.v (.isl 2 (n2.fates.map eFt)),.v (.int .i64 w.now),.v (.int .i64 (w.sent+1)),.sl (q+2) w.tr.length 0 w.tr.length]])=mvF f' w1 p q:=by
   rw[←IE];exact C6 (w:={w with net:=n2})
  rw[←hF,C6,uW]
  have cE:=fun l=>RO f' w1 p q m oM (by rw[←IE];exact hp) (by rw[←IE];exact SL) (by rw[←IE];exact JX) (by rw[←IE];exact dW) (by rw[←IE];exact mJ) 2 x.b w.sent (kB m (mvF f' w1 p q)) l rfl
  refine QA.nxt (cE _) ?_
  simp (disch:=first|decide|omega) only[hA,go_sem]
  rw[he,IE]
  exact DC (xs:=[.v (.int .i64 0)]) (.inr rfl) kR kO (by rw[GA];rw[←hF]at hR;exact aT oM hR) hb (KH _) ⟨rfl,rfl,rfl⟩
 ·have e0:(er != 0)=true:=by simpa using he
  rw[if_neg he]
  simp (disch:=first|decide|omega) only[hA,e0,gk,gk0,f0,f1,f4,gS,fT,KR,p6,xH,aa,go_sem]
  exact DC (xs:=[.v (.int .i64 er)]) (.inr rfl) kR kO (by rw[GA];exact hR) hb (by rw[←hF];exact KH w) ⟨rfl,rfl,rfl⟩
theorem ZA5 (f:Nat→Row) (w:Wd) (p q n:Nat) (hn:q+5≤n) (hp:p<w.sv.length) (SL:p<w.tr.length) (hS:Small w.tr) (hN:Nm w.tr) (JX:w.sv.length≤1000000) (x:In) (i:Nat) (KR:x.a=i) (hi:i<(w.sv.getD p dfSv).vars.length) (kW:(w.sv.getD p dfSv).vars.length≤1000000)
  (hv:nwB w.net=true) (hpo:ptB p=true) (k:Nat) (hk:fiR w.net p=k) (mg:Ms) (P7:w.net.l.getD k dfMs=mg) (v:Int) (hbd:mg.body=[v]) (kU:vlB v=true) (b l:List Row) (hb:b=kB n (mvF f w p q)) :
  QA Tryz.prog 116 [.ptr (q+4) 0 0 0,.v (.int .i64 p),.agg [.v (.int .i64 x.op),.v (.int .i64 x.a),.v (.int .i64 x.b)]] b l
   (fun r b' l'=>r=.v (.bool (!decide (0<(EB w.tr 3 mg.nu).2)))∧b'=kB n (mvF f (if 0<(EB w.tr 3 mg.nu).2 then evW {w with net:=woN w.net k} p ⟨1,0,0,0,[]⟩ else asW {w with net:=woN w.net k} p ⟨3,mg.fr,mg.nu,0,[]⟩ i v) p q)∧l'=l):=by
 refine XA ZBJ rfl kE ?_
 intro B g hB hR hE hA;simp only[zA]at hA
 rw[hb]at hB
 obtain⟨m,f',hm0,n6,KH⟩:=G1 hn hB
 clear hB
 subst n6
 rw[GA]at hR
 obtain⟨s,hs⟩:∃s,w.sv.getD p dfSv=s:=⟨_,rfl⟩
 obtain⟨SV,M7⟩:∃SV,bG w p (q+1)=SV:=⟨_,rfl⟩
 obtain⟨F,hF⟩:∃F,mvF f' w p q=F:=⟨_,rfl⟩
 obtain⟨fT,gS,f0,f1,f4⟩:=gE hp SL hF hs M7
 have gk:∀{j:Nat} {f:Nat→Row} {L:List Row},j<5→hget (kB m f) L (q+j)=some (f (q+j)):=fun hj=>pH oM
 have kn:∀{j:Nat} {f:Nat→Row} {r:Row},j<5→vE (kB m f) (q+j) r=kB m (rUp f (q+j) r):=fun hj=>MJ oM
 have kl:∀{j:Nat} {f:Nat→Row} {r:Row} {L:List Row},j<5→lE (kB m f) L (q+j) r=L:=fun hj=>PJ oM
 have gk0:∀{f:Nat→Row} {L:List Row},hget (kB m f) L q=some (f q):=pH oM
 have he:rcE w.net p=0:=by unfold rcE;rw[if_pos hv,if_pos hpo,if_neg oM]
 have tO:(fiR w.net p).toNat=k:=by rw[hk];rfl
 have hNN:rcN w.net p=woN w.net k:=by unfold rcN;rw[if_pos he,tO]
 have hMm:rcM w.net p=mg:=by unfold rcM;rw[if_pos he,tO,P7]
 have cR:=fun b l=>Q4 w.net p b l
 rw[he,hNN,hMm]at cR
 obtain⟨n2,hn2⟩:∃n2,woN w.net k=n2:=⟨_,rfl⟩
 rw[hn2]at cR⊢
 simp only[eNw,nwA,eMs,hbd,bl,cd,eI]at cR
 have ZK5:∀F0:Nat→Row,F0=mvF f' w p q→rUp F0 (q+4) (.live 0 9 [[.sl q w.sv.length 0 w.sv.length,.v (.int .i64 n2.now),.v (.bool n2.fifo),.v (.isl 4 (n2.l.map eMs)),.v (.isl 1 (n2.tm.map eI)),.v (.isl 2 (n2.fates.map eFt)),.v (.int .i64 w.now),.v (.int .i64 w.sent),.sl (q+2) w.tr.length 0 w.tr.length]])=mvF f' {w with net:=n2} p q:=fun F0 h=>by rw[h];exact C6
 obtain⟨w1,IE⟩:∃w1:Wd,({w with net:=n2}:Wd)=w1:=⟨_,rfl⟩
 rw[IE]at ZK5⊢
 have e1:w1.sv=w.sv:=by rw[←IE]
 have e3:w1.tr=w.tr:=by rw[←IE]
 have dW:=hS.np
 have mJ:(w1.tr.getD p dfPr).evs.length≤1000000:=by rw[e3,YA SL];exact hS.ne _ (am SL)
 have cE:=fun l=>RO f' w1 p q m oM (by rw[e1];exact hp) (by rw[e3];exact SL) (by rw[e1];exact JX) (by rw[e3];exact dW) mJ 1 0 0 (kB m (mvF f' w1 p q)) l rfl
 have cA:=fun l=>RU f' w1 p q m oM (by rw[e1];exact hp) (by rw[e3];exact SL) (by rw[e1];exact JX) (by rw[e3];exact dW) mJ 3 mg.fr mg.nu i (by rw[e1];exact hi) (by rw[e1];exact kW) v (kB m (mvF f' w1 p q)) l rfl
 rw[if_pos kU,if_pos kU]at cA
 have cF:∀l,QA Tryz.prog 158 [.agg [.sl (q+2) w.tr.length 0 w.tr.length],.v (.int .i64 mg.nu)] (kB m (mvF f' w1 p q)) l (fun r b' l'=>r=.tup [idA (EB w.tr 3 mg.nu),.v (.bool (decide (0<(EB w.tr 3 mg.nu).2)))]∧b'=kB m (mvF f' w1 p q)∧l'=l):=fun l =>
  QA.peek (args':=[.agg [.v (eT w.tr)],.v (.int .i64 mg.nu)]) rfl (fun i z y hz hy=>by
   match i,hz,hy with
   |0,hz,hy =>
     cases hz;cases hy
     refine Dv.aggL (.cons ?_ .nil)
     have:=mv_tr (m:=m) (f':=f') (w:=w1) (p:=p) (q:=q) (L:=l) oM (by rw[e1];exact hp) (by rw[e3];exact SL)
     rw[e3]at this
     exact this
   |1,hz,hy=>cases hz;cases hy;exact .v _) (.tup fun c hc=>by
   simp only[cu,jf,or_false]at hc
   rcases hc with rfl|rfl
   ·exact .agg fun c hc=>by
     simp only[cu,jf,or_false]at hc
     rcases hc with rfl|rfl<;>exact .int
   ·exact .bool) (VT w.tr hS hN _ _ mg.nu)
 simp only[idA]at cF
 rw[hF]at hR⊢
 have ZJh:=ZK5 F hF.symm
 have g4:mvF f' w1 p q (q+4)=.live 0 9 [[.sl q w.sv.length 0 w.sv.length,.v (.int .i64 n2.now),.v (.bool n2.fifo),.v (.isl 4 (n2.l.map eMs)),.v (.isl 1 (n2.tm.map eI)),.v (.isl 2 (n2.fates.map eFt)),.v (.int .i64 w.now),.v (.int .i64 w.sent),.sl (q+2) w.tr.length 0 w.tr.length]]:=by rw[AT,←IE];rfl
 simp (disch:=first|decide|omega) only[a_mrcv,hA,gk,gk0,f0,f4,aa,go_sem]
 refine QA.nxt (cR _ _) ?_
 simp (disch:=first|decide|omega) only[hA,gk,gk0,f0,f4,kn,kl,sA,iB,go_sem]
 rw[ZJh]
 refine QA.nxt (cF _) ?_
 by_cases ha:0<(EB w.tr 3 mg.nu).2
 ·have d1:decide (0<(EB w.tr 3 mg.nu).2)=true:=ae ha
  rw[if_pos ha,d1]
  simp (disch:=first|decide|omega) only[hA,gk,gk0,g4,iB,go_sem]
  refine QA.nxt (DE _ _) ?_
  simp (disch:=first|decide|omega) only[hA,go_sem]
  refine QA.nxt (cE _) ?_
  simp (disch:=first|decide|omega) only[hA,go_sem]
  exact DC (xs:=[.v (.bool false)]) (.inr rfl) kR kO (by rw[GA];rw[←hF]at hR;exact aT oM hR) hb (KH _) ⟨rfl,rfl,rfl⟩
 ·have d1:decide (0<(EB w.tr 3 mg.nu).2)=false:=ag ha
  rw[if_neg ha,d1]
  have h00:Int.toNat 0=0:=rfl
  simp (disch:=first|decide|omega) only[hA,KR,gk,gk0,g4,h00,iB,go_sem]
  refine QA.nxt (cA _) ?_
  simp (disch:=first|decide|omega) only[hA,go_sem]
  exact DC (xs:=[.v (.bool true)]) (.inr rfl) kR kO (by rw[GA];rw[←hF]at hR;exact aT oM hR) hb (KH _) ⟨rfl,rfl,rfl⟩
structure NewEv (t:Tr) (p:Nat) (e:Ev):Prop where
 v:Vok t
 hp:p<t.length
 room:(iA t p).length<64
 form:AA t.length p e=true
 tm:inB e.time 0 1099511627776=true
 last:∀i,(iA t p).length=i+1→((iA t p).getD i lI).time≤e.time
 al:e.asg.length≤8
 af:uB (YJ (t.getD p dfPr).vars.length e.asg) e.asg.length=0
 snd:e.kind=2→∀x∈ids t,(gA t x).kind=2→(gA t x).msg≠e.msg
 rcv:e.kind=3→(∀x∈ids t,(gA t x).kind=3→(gA t x).msg≠e.msg)∧sendsB t e.peer.toNat e.msg p=true
theorem FH {t:Tr} {p:Nat} {e:Ev}:(nB t p e).length=t.length:=by unfold nB;simp
theorem pM {t:Tr} {p:Nat} {e:Ev} (hp:p<t.length):(nB t p e).getD p dfPr={t.getD p dfPr with evs:=iA t p++[e]}:=by
 rw[ap,XZ e hp,YA hp,aE hp];rfl
theorem ZO {t:Tr} {p q:Nat} {e:Ev} (h:p≠q):(nB t p e).getD q dfPr=t.getD q dfPr:=by
 rw[ap,QZ e h,ap]
theorem YL {t:Tr} {p:Nat} {e:Ev} (hp:p<t.length):iA (nB t p e) p=iA t p++[e]:=by
 show ((nB t p e).getD p dfPr).evs=_
 rw[pM hp]
theorem UQ {t:Tr} {p q:Nat} {e:Ev} (h:p≠q):iA (nB t p e) q=iA t q:=by
 show ((nB t p e).getD q dfPr).evs=_
 rw[ZO h];rfl
theorem XL {t:Tr} {p:Nat} {e:Ev} (hp:p<t.length) {x:Nat×Nat}:x∈ids (nB t p e)↔x∈ids t∨x=(p,(iA t p).length+1):=by
 obtain⟨q,i⟩:=x
 cases i with
 |zero =>
   constructor
   ·intro h;have:=dG h;simp only at this;omega
   ·rintro (h|h)
    ·have:=dG h;simp only at this;omega
    ·have:=congrArg Prod.snd h;simp only at this;omega
 |succ i =>
   rw[KE,KE,FH]
   by_cases hq:p=q
   ·subst hq
    rw[YL hp,aq,dp]
    constructor
    ·rintro⟨_,h⟩
     rcases bj i (iA t p).length with h2|h2
     ·exact .inl ⟨hp,h2⟩
     ·exact .inr (by rw[show i=(iA t p).length by omega])
    ·rintro (⟨_,h⟩|h)
     ·exact⟨hp,by omega⟩
     ·have:=congrArg Prod.snd h;simp only at this;exact⟨hp,by omega⟩
   ·rw[UQ hq]
    constructor
    ·exact fun h=>.inl h
    ·rintro (h|h)
     ·exact h
     ·exact absurd (congrArg Prod.fst h).symm hq
theorem ZHt {t:Tr} {p:Nat}:(p,(iA t p).length+1)∉ids t:=fun h=>by
 have:=(KE.1 h).2;omega
theorem bJ {t:Tr} {p:Nat} {e:Ev} (hp:p<t.length) {x:Nat×Nat} (hx:x∈ids t):gA (nB t p e) x=gA t x:=by
 obtain⟨q,i⟩:=x
 obtain⟨i,rfl⟩:∃k,i=k+1:=⟨i-1,by have:=dG hx;simp only at this;omega⟩
 obtain⟨_,h2⟩:=KE.1 hx
 unfold gA
 simp only[fa]
 by_cases hq:p=q
 ·subst hq
  rw[YL hp,ap,aw h2,ap]
 ·rw[UQ hq]
theorem JL {t:Tr} {p:Nat} {e:Ev} (hp:p<t.length):gA (nB t p e) (p,(iA t p).length+1)=e:=by
 unfold gA
 simp only[fa]
 rw[YL hp,ap,ar (ai _),eh];rfl
theorem tJ {t:Tr} {k m:Int} {x:Nat×Nat} (h:GC t k m=some x):x∈ids t:=fg h
theorem ZGL {t:Tr} {k m:Int} (h:∀z∈ids t,(gA t z).kind=k→(gA t z).msg≠m):GC t k m=none:=by
 cases hf:GC t k m with
 |none=>rfl
 |some z=>exact absurd (CE hf).2 (h z (tJ hf) (CE hf).1)
theorem y9 {t:Tr} {k m:Int} {x:Nat×Nat} (hx:x∈ids t) (hk:(gA t x).kind=k) (hm:(gA t x).msg=m) (hu:∀z∈ids t,(gA t z).kind=k→(gA t z).msg=m→z=x):GC t k m=some x:=by
 cases hf:GC t k m with
 |none =>
   have:=cw.1 hf x hx
   rw[hk,hm]at this;simp at this
 |some z=>rw[hu z (tJ hf) (CE hf).1 (CE hf).2]
theorem NewEv.fresh {t:Tr} {p:Nat} {e:Ev} (h:NewEv t p e) {k:Int} (hk:k=2∨k=3) (he:e.kind=k) {x:Nat×Nat} (hx:x∈ids t) (hxk:(gA t x).kind=k):(gA t x).msg≠e.msg:=by
 rcases hk with rfl|rfl
 ·exact h.snd he x hx hxk
 ·exact (h.rcv he).1 x hx hxk
theorem rJ {t:Tr} {p:Nat} {e:Ev} (h:NewEv t p e) {k m:Int} (hk:k=2∨k=3):GC (nB t p e) k m=if e.kind=k∧e.msg=m then some (p,(iA t p).length+1) else GC t k m:=by
 have hp:=h.hp
 split
 ·rename_i hc
  obtain⟨h1,h2⟩:=hc
  refine y9 ((XL hp).2 (.inr rfl)) (by rw[JL hp];exact h1) (by rw[JL hp];exact h2) (fun z hz hzk hzm=>?_)
  rcases (XL hp).1 hz with hz|hz
  ·rw[bJ hp hz]at hzk hzm
   exact absurd (hzm.trans h2.symm) (h.fresh hk h1 hz hzk)
  ·exact hz
 ·rename_i hc
  cases hf:GC t k m with
  |none =>
    refine ZGL (fun z hz hzk hzm=>?_)
    rcases (XL hp).1 hz with hz|hz
    ·rw[bJ hp hz]at hzk hzm
     have:=cw.1 hf z hz
     rw[hzk,hzm]at this;simp at this
    ·rw[hz,JL hp]at hzk hzm
     exact hc ⟨hzk,hzm⟩
  |some x =>
    have hx:=tJ hf
    obtain⟨k1,k2⟩:=CE hf
    refine y9 ((XL hp).2 (.inl hx)) (by rw[bJ hp hx];exact k1) (by rw[bJ hp hx];exact k2) (fun z hz hzk hzm=>?_)
    rcases (XL hp).1 hz with hz|hz
    ·rw[bJ hp hz]at hzk hzm
     have:=PO h.v hz hk hzk
     rw[hzm,hf]at this
     exact (ja this).symm
    ·rw[hz,JL hp]at hzk hzm
     exact absurd ⟨hzk,hzm⟩ hc
theorem YZ {t:Tr} {p q:Nat} {e:Ev} (hp:p<t.length) {m to:Int} (h:sendsB t q m to=true):sendsB (nB t p e) q m to=true:=by
 unfold sendsB at h⊢
 by_cases hq:p=q
 ·subst hq
  rw[YL hp,lp,h];rfl
 ·rw[UQ hq];exact h
theorem ZFP {t:Tr} {p:Nat} {e:Ev} (h:NewEv t p e) {x:Nat×Nat} (hx:x∈ids (nB t p e)):lC (nB t p e) x=0:=by
 have hp:=h.hp
 rcases (XL hp).1 hx with hx|hx
 ·have h0:=h.v.form x hx
  obtain⟨q,i⟩:=x
  obtain⟨i,rfl⟩:∃k,i=k+1:=⟨i-1,by have:=dG hx;simp only at this;omega⟩
  obtain⟨_,h2⟩:=KE.1 hx
  have hl:AH (nB t p e) (q,i+1)=AH t (q,i+1):=by
   unfold AH
   by_cases hc:1<i+1
   ·rw[if_pos (show 1<(q,i+1).2 from hc),if_pos (show 1<(q,i+1).2 from hc)]
    simp only
    by_cases hq:p=q
    ·subst hq
     rw[YL hp,ap,aw oM,ap]
    ·rw[UQ hq]
   ·rw[if_neg (show ¬1<(q,i+1).2 from hc),if_neg (show ¬1<(q,i+1).2 from hc)]
  have hg:((nB t p e).getD q dfPr).vars=(t.getD q dfPr).vars:=by
   by_cases hq:p=q
   ·subst hq;rw[pM hp]
   ·rw[ZO hq]
  unfold lC at h0⊢
  rw[bJ hp hx,FH,hl]
  simp only at h0⊢
  rw[hg]
  exact h0
 ·rw[hx,LU,JL hp,FH]
  refine⟨h.form,h.tm,?_,h.al,?_⟩
  ·unfold AH
   by_cases hc:1<(iA t p).length+1
   ·rw[if_pos (show 1<(p,(iA t p).length+1).2 from hc)]
    simp only
    obtain⟨i,hi⟩:∃i,(iA t p).length=i+1:=⟨(iA t p).length-1,by omega⟩
    rw[YL hp,ap,aw oM,←ap,hi,show i+1+1-2=i by omega]
    have:=h.last i hi
    omega
   ·rw[if_neg (show ¬1<(p,(iA t p).length+1).2 from hc)]
    have:=h.tm
    unfold inB at this
    simp only[au,bc]at this
    omega
  ·simp only
   rw[pM hp]
   exact h.af
theorem ZFN {t:Tr} {p:Nat} {e:Ev} (h:NewEv t p e) {x:Nat×Nat} (hx:x∈ids (nB t p e)):ZD (nB t p e) x=0:=by
 have hp:=h.hp
 rcases (XL hp).1 hx with hx|hx
 ·have h0:=h.v.pair x hx
  have QQ:=bJ (e:=e) hp hx
  unfold ZD at h0⊢
  rw[QQ]
  by_cases k2:(gA t x).kind=2
  ·have hf:=PO h.v hx (.inl rfl) k2
   have hc:¬(e.kind=2∧e.msg=(gA t x).msg):=fun hc=>h.fresh (.inl rfl) hc.1 hx k2 hc.2.symm
   rw[rJ h (.inl rfl),if_neg hc]
   rw[hf,k2];simp
  ·by_cases k3:(gA t x).kind=3
   ·have hf:=PO h.v hx (.inr rfl) k3
    have hc:¬(e.kind=3∧e.msg=(gA t x).msg):=fun hc=>h.fresh (.inr rfl) hc.1 hx k3 hc.2.symm
    rw[rJ h (.inr rfl),if_neg hc]
    rw[hf,k3]at h0⊢
    simp only[show ((3:Int)==2)=false from rfl,show ((3:Int)==3)=true from rfl,jd,if_true,dn,if_false]at h0⊢
    cases hs:sendsB t (gA t x).peer.toNat (gA t x).msg x.1 with
    |true=>rw[YZ hp hs];rfl
    |false=>rw[hs]at h0;simp at h0
   ·have e2:((gA t x).kind==2)=false:=dy.2 k2
    have e3:((gA t x).kind==3)=false:=dy.2 k3
    rw[e2,e3];rfl
 ·rw[hx]
  unfold ZD
  rw[JL hp]
  by_cases k2:e.kind=2
  ·have hf:=rJ h (.inl rfl) (m:=e.msg)
   rw[if_pos ⟨k2,rfl⟩]at hf
   rw[hf,k2];simp
  ·by_cases k3:e.kind=3
   ·have hf:=rJ h (.inr rfl) (m:=e.msg)
    rw[if_pos ⟨k3,rfl⟩]at hf
    rw[hf,k3]
    simp only
    rw[YZ hp (h.rcv k3).2];simp
   ·have e2:(e.kind==2)=false:=dy.2 k2
    have e3:(e.kind==3)=false:=dy.2 k3
    rw[e2,e3];rfl
theorem ZDh {t:Tr} {p:Nat} {e:Ev} (h:NewEv t p e) {z:Nat×Nat}:¬Dir (nB t p e) (p,(iA t p).length+1) z:=by
 have hp:=h.hp
 rintro (⟨_,h2⟩|⟨h1,h2⟩)
 ·simp only at h2
  rw[YL hp,aq,dp]at h2;omega
 ·rw[JL hp]at h1 h2
  rw[rJ h (.inr rfl),if_neg oM]at h2
  have hz:=tJ h2
  obtain⟨k1,k2⟩:=CE h2
  obtain⟨_,y,hy⟩:=h.v.paired.recv hz k1
  obtain⟨k3,k4⟩:=CE hy
  exact h.snd h1 y (tJ hy) k3 (k4.trans k2)
theorem tp_dir {t:Tr} {p:Nat} {e:Ev} (h:NewEv t p e) {x z:Nat×Nat} (hx:x∈ids t) (hd:Dir (nB t p e) x z):Dir t x z∨z=(p,(iA t p).length+1):=by
 have hp:=h.hp
 rcases hd with ⟨h1,h2⟩|⟨h1,h2⟩
 ·by_cases hq:p=x.1
  ·obtain⟨q,i⟩:=x
   simp only at hq h1 h2
   subst hq
   rw[YL hp,aq,dp]at h2
   rcases bj i (iA t p).length with h3|h3
   ·exact .inl (.inl ⟨h1,h3⟩)
   ·exact .inr (by rw[h1,show i=(iA t p).length by omega])
  ·rw[UQ hq]at h2
   exact .inl (.inl ⟨h1,h2⟩)
 ·rw[bJ hp hx]at h1 h2
  rw[rJ h (.inr rfl)]at h2
  split at h2
  ·exact .inr (ja h2).symm
  ·exact .inl (.inr ⟨h1,h2⟩)
theorem ZEF {t:Tr} {x z:Nat×Nat} (hx:x∈ids t) (hd:Dir t x z):z∈ids t:=by
 rcases hd with ⟨h1,h2⟩|⟨_,h2⟩
 ·obtain⟨q,i⟩:=x
  have:=(TC.1 hx).1
  rw[h1]
  exact KE.2 ⟨this,h2⟩
 ·exact tJ h2
theorem tp_hb {t:Tr} {p:Nat} {e:Ev} (h:NewEv t p e) {x z:Nat×Nat} (hx:x∈ids t) (hh:Hb (nB t p e) x z):(z∈ids t∧Hb t x z)∨z=(p,(iA t p).length+1):=by
 induction hh with
 |one hd =>
   rcases tp_dir h hx hd with hd|hd
   ·exact .inl ⟨ZEF hx hd,.one hd⟩
   ·exact .inr hd
 |more _ hd ih =>
   rcases ih with ⟨h1,h2⟩|h1
   ·rcases tp_dir h h1 hd with hd|hd
    ·exact .inl ⟨ZEF h1 hd,.more h2 hd⟩
    ·exact .inr hd
   ·rw[h1]at hd
    exact absurd hd (ZDh h)
theorem tp_no {t:Tr} {p:Nat} {e:Ev} (h:NewEv t p e) {x z:Nat×Nat} (hx:x=(p,(iA t p).length+1)) (hh:Hb (nB t p e) x z):False:=by
 induction hh with
 |one hd=>rw[hx]at hd;exact ZDh h hd
 |more _ _ ih=>exact ih
theorem ZCO {t:Tr} {p:Nat} {e:Ev} (q:Nat):((nB t p e).getD q dfPr).name=(t.getD q dfPr).name∧((nB t p e).getD q dfPr).vars=(t.getD q dfPr).vars:=by
 by_cases hq:p=q
 ·subst hq
  by_cases hp:p<t.length
  ·rw[pM hp];exact⟨rfl,rfl⟩
  ·rw[ap,bu (by rw[FH];omega),ap,bu oM];exact⟨rfl,rfl⟩
 ·rw[ZO hq];exact⟨rfl,rfl⟩
theorem ZHu {t:Tr} {p:Nat} {e:Ev}:(nB t p e).map (·.name)=t.map (·.name):=by
 apply dr
 intro j
 rw[an,an]
 by_cases hj:p=j
 ·subst hj
  by_cases hp:p<t.length
  ·rw[XZ e hp,ah hp];rfl
  ·rw[bu (by rw[FH];omega),bu oM]
 ·rw[QZ e hj]
theorem ZFO {t:Tr} {p:Nat} {e:Ev} (h:NewEv t p e) {q:Nat} (hq:q<t.length):SC (nB t p e) q=0:=by
 have h0:=h.v.head q hq
 obtain⟨e1,e2⟩:=ZCO (t:=t) (p:=p) (e:=e) q
 have ha:((nB t p e).take q).any (fun y=>y.name.toList==(t.getD q dfPr).name.toList)=(t.take q).any (fun y=>y.name.toList==(t.getD q dfPr).name.toList):=by
  have:=fun (l:Tr)=>show (l.take q).any (fun y=>y.name.toList==(t.getD q dfPr).name.toList)=((l.map (·.name)).take q).any (fun y=>y.toList==(t.getD q dfPr).name.toList) by rw[←fy,List.any_map];rfl
  rw[this,this,ZHu]
 have hl:¬64<((nB t p e).getD q dfPr).evs.length:=by
  have h64:¬64<(t.getD q dfPr).evs.length:=by
   have:=LJ hq h0
   rw[YA hq];omega
  by_cases hc:p=q
  ·subst hc
   rw[pM h.hp,aq,dp]
   have:=h.room;omega
  ·rw[ZO hc];exact h64
 unfold SC at h0⊢
 rw[e1,e2,ha,if_neg hl]
 split at h0
 ·exact absurd h0 kE
 rename_i c1
 rw[if_neg c1]
 split at h0
 ·exact absurd h0 kE
 rename_i c2
 rw[if_neg c2]
 split at h0
 ·rename_i c3;exact absurd h0 c3
 rename_i c3
 rw[if_neg c3]
theorem H6 {t:Tr} {p:Nat} {e:Ev} (h:NewEv t p e):Vok (nB t p e):=by
 have hp:=h.hp
 refine⟨by rw[FH];exact h.v.lo,by rw[FH];exact h.v.hi,fun q hq=>ZFO h (by rw[←FH (p:=p) (e:=e)];exact hq),fun x hx=>ZFP h hx,fun x hx=>ZFN h hx,fun x hx hh=>?_⟩
 rcases (XL hp).1 hx with hx|hx
 ·rcases tp_hb h hx hh with h1|h1
  ·exact h.v.acyc x hx h1.2
  ·exact ZHt (h1▸hx)
 ·exact tp_no h hx hh
theorem SN {α:Type} {l:List α} {x d:α} {p c:Nat} (hp:p≤l.length) (i:Nat) :
  (l.take p++List.replicate c x++l.drop p).getD i d=if i<p then l.getD i d else if i<p+c then x else l.getD (i-c) d:=by
 have h1:(l.take p).length=p:=by rw[cf];omega
 have h2:(List.replicate c x).length=c:=kr
 simp only[ap]
 by_cases ha:i<p
 ·rw[if_pos ha,aw (by rw[aq];omega),aw oM,cz,if_pos ha]
 ·rw[if_neg ha]
  by_cases hb:i<p+c
  ·rw[if_pos hb,aw (by rw[aq];omega),ar oM,h1,gi,if_pos oM];rfl
  ·rw[if_neg hb,ar (by rw[aq];omega),aq,h1,h2,de]
   congr 2;omega
theorem sI {α:Type} {l:List α} {x:α} {p c:Nat} (hp:p≤l.length):(l.take p++List.replicate c x++l.drop p).length=l.length+c:=by
 simp only[aq,cf,kr,ea];omega
theorem TZ {l:List Int} {a:Int}:(∀j,j<leN l a→l.getD j 0≤a)∧(leN l a<l.length→a<l.getD (leN l a) 0):=by
 unfold leN
 induction l with
 |nil=>simp
 |cons x l ih =>
   by_cases hx:x≤a
   ·rw[List.takeWhile_cons_of_pos (by simpa using hx)]
    refine⟨fun j hj=>?_,fun h=>?_⟩
    ·cases j with
     |zero=>exact hx
     |succ j=>simp only[List.getD_cons_succ];exact ih.1 j (by simpa using hj)
    ·simp only[ee,List.getD_cons_succ]
     exact ih.2 (by simpa using h)
   ·rw[List.takeWhile_cons_of_neg (by simpa using hx)]
    refine⟨fun j hj=>by simp at hj,fun _=>by simp;omega⟩
theorem NwV.ins {n:Nw} (h:NwV n) {m:Ms} (hm:msB m=true) {a:Int} (ha:0≤a∧a≤1099512627776) {c:Nat} (hc:n.l.length+c≤1000):NwV (ZU n m a c):=by
 have hp:=AS (l:=n.tm) (a:=a)
 have hp2:leN n.tm a≤n.l.length:=by rw[h.len];exact hp
 have hs:=TZ (l:=n.tm) (a:=a)
 refine⟨h.now,?_,?_,?_,?_,?_,?_,?_⟩
 ·show (n.l.take _++_++n.l.drop _).length=(n.tm.take _++_++n.tm.drop _).length
  rw[sI hp2,sI hp,h.len]
 ·show (n.l.take _++_++n.l.drop _).length≤1000
  rw[sI hp2];omega
 ·show (n.fates.drop 1).length≤1000
  have:=h.fl;rw[ea];omega
 ·intro f hf
  exact h.fates f (ey hf)
 ·intro x hx
  change x∈n.l.take _++_++n.l.drop _ at hx
  rw[bn,bn]at hx
  rcases hx with (hx|hx)|hx
  ·exact h.ms x (dt hx)
  ·rw[(ly.1 hx).2];exact hm
  ·exact h.ms x (ey hx)
 ·intro x hx
  change x∈n.tm.take _++_++n.tm.drop _ at hx
  rw[bn,bn]at hx
  rcases hx with (hx|hx)|hx
  ·exact h.tm x (dt hx)
  ·rw[(ly.1 hx).2];exact ha
  ·exact h.tm x (ey hx)
 ·intro i hi
  change i+1<(n.tm.take _++_++n.tm.drop _).length at hi
  rw[sI hp]at hi
  show (n.tm.take _++_++n.tm.drop _).getD i 0≤(n.tm.take _++_++n.tm.drop _).getD (i+1) 0
  rw[SN hp,SN hp]
  have key:=h.mono
  have so:=h.sorted
  by_cases h1:i+1<leN n.tm a
  ·rw[if_pos h1,if_pos oM];exact key i oM
  ·rw[if_neg h1]
   by_cases h2:i<leN n.tm a
   ·rw[if_pos h2]
    have e1:=hs.1 i h2
    by_cases h3:i+1<leN n.tm a+c
    ·rw[if_pos h3];exact e1
    ·rw[if_neg h3]
     have:c=0:=by omega
     subst this
     have:i+1<n.tm.length:=by omega
     exact key i this
   ·rw[if_neg h2]
    by_cases h3:i+1<leN n.tm a+c
    ·rw[if_pos h3,if_pos oM];exact ij _
    ·rw[if_neg h3]
     by_cases h4:i<leN n.tm a+c
     ·rw[if_pos h4]
      have e:i+1-c=leN n.tm a:=by omega
      rw[e]
      have:=hs.2 oM
      omega
     ·rw[if_neg h4]
      have e:i+1-c=i-c+1:=by omega
      rw[e]
      exact key (i-c) oM
theorem CN {α:Type} {l:List α} {d:α} {k:Nat} (i:Nat):(l.take k++l.drop (k+1)).getD i d=if k<l.length∧k≤i then l.getD (i+1) d else l.getD i d:=by
 simp only[ap]
 by_cases hk:k<l.length
 ·have h1:(l.take k).length=k:=by rw[cf];omega
  by_cases hi:k≤i
  ·rw[if_pos ⟨hk,hi⟩,ar oM,h1,de]
   congr 2;omega
  ·rw[if_neg (fun h=>hi h.2),aw oM,cz,if_pos oM]
 ·rw[if_neg (fun h=>hk h.1),cr oM,li oM,db]
theorem nI {α:Type} {l:List α} {k:Nat} (hk:k<l.length):(l.take k++l.drop (k+1)).length=l.length-1:=by
 simp only[aq,cf,ea];omega
theorem NwV.out {n:Nw} (h:NwV n) {k:Nat} (hk:k<n.l.length):NwV (woN n k):=by
 have hk2:k<n.tm.length:=by rw[←h.len];exact hk
 refine⟨h.now,?_,?_,h.fl,h.fates,?_,?_,?_⟩
 ·show (n.l.take k++n.l.drop (k+1)).length=(n.tm.take k++n.tm.drop (k+1)).length
  rw[nI hk,nI hk2,h.len]
 ·show (n.l.take k++n.l.drop (k+1)).length≤1000
  have:=h.l;rw[nI hk];omega
 ·intro x hx
  rcases bn.1 (show x∈n.l.take k++n.l.drop (k+1) from hx) with hx|hx
  ·exact h.ms x (dt hx)
  ·exact h.ms x (ey hx)
 ·intro x hx
  rcases bn.1 (show x∈n.tm.take k++n.tm.drop (k+1) from hx) with hx|hx
  ·exact h.tm x (dt hx)
  ·exact h.tm x (ey hx)
 ·intro i hi
  change i+1<(n.tm.take k++n.tm.drop (k+1)).length at hi
  rw[nI hk2]at hi
  show (n.tm.take k++n.tm.drop (k+1)).getD i 0≤(n.tm.take k++n.tm.drop (k+1)).getD (i+1) 0
  rw[CN,CN]
  by_cases h1:k≤i
  ·rw[if_pos ⟨hk2,h1⟩,if_pos ⟨hk2,by omega⟩];exact h.mono (i+1) oM
  ·rw[if_neg (fun h=>h1 h.2)]
   by_cases h2:k≤i+1
   ·rw[if_pos ⟨hk2,h2⟩];exact h.sorted i (i+2) oM oM
   ·rw[if_neg (fun h=>h2 h.2)];exact h.mono i oM
theorem NwV.at {n:Nw} (h:NwV n) {t:Int} (ht:0≤t∧t≤1099511627776):NwV {n with now:=t}:=⟨ht,h.len,h.l,h.fl,h.fates,h.ms,h.tm,h.mono⟩
structure Sc where
 n:Nw
 sent:List Ms
 due:List Int
 copies:List Int
 got:List Int
 last:Int→Int→Int
def JK (l:List Ms) (k:Int):Nat:=(l.filter fun m=>decide (m.nu=k)).length
structure ScOk (fs:List (Int×Int)) (s:Sc):Prop where
 v:NwV s.n
 few:s.n.l.length≤3*s.sent.length
 ld:s.due.length=s.sent.length
 lc:s.copies.length=s.sent.length
 lg:s.got.length=s.sent.length
 fates:s.n.fates=fs.drop s.sent.length
 num:∀k,k<s.sent.length→(s.sent.getD k dfMs).nu=k
 own:∀i,i<s.n.l.length→∃k,k<s.sent.length∧s.n.l.getD i dfMs=s.sent.getD k dfMs∧s.due.getD k 0≤s.n.tm.getD i 0
 cnt:∀k,k<s.sent.length→(JK s.n.l k:Int)+s.got.getD k 0=s.copies.getD k 0
 ord:s.n.fifo=true→∀i j,i<j→j<s.n.l.length→(s.n.l.getD i dfMs).fr=(s.n.l.getD j dfMs).fr→(s.n.l.getD i dfMs).to=(s.n.l.getD j dfMs).to→(s.n.l.getD i dfMs).nu≤(s.n.l.getD j dfMs).nu
 lst:s.n.fifo=true→∀i,i<s.n.l.length→s.last (s.n.l.getD i dfMs).fr (s.n.l.getD i dfMs).to≤(s.n.l.getD i dfMs).nu
 lub:∀x y,s.last x y≤s.sent.length
 rng:∀k,k<s.sent.length→0≤s.got.getD k 0∧s.copies.getD k 0≤3
theorem eM (a c:List Ms) (k:Int):JK (a++c) k=JK a k+JK c k:=by unfold JK;rw[gj,aq]
theorem ZGU (l:List Ms) (x:Ms) (p c:Nat) (k:Int):JK (l.take p++List.replicate c x++l.drop p) k=JK l k+(if x.nu=k then c else 0):=by
 have h:JK l k=JK (l.take p) k+JK (l.drop p) k:=by rw[←eM,ix]
 have h2:JK (List.replicate c x) k=if x.nu=k then c else 0:=by
  unfold JK
  rw[List.filter_replicate]
  by_cases hx:x.nu=k<;>simp[hx]
 rw[eM,eM,h,h2];omega
theorem ZDO {l:List Ms} {k:Int} (h:∀i,i<l.length→(l.getD i dfMs).nu≠k):JK l k=0:=by
 unfold JK
 rw[List.length_eq_zero_iff,List.filter_eq_nil_iff]
 intro m hm
 obtain⟨i,hi,rfl⟩:=cn hm
 have:=h i hi
 rw[YA hi]at this
 simpa using this
theorem fF {α:Type} {l r:List α} {d:α} {k:Nat} (h:k<l.length):(l++r).getD k d=l.getD k d:=by
 simp only[ap];rw[aw h]
theorem yH {α:Type} {l:List α} {x d:α}:(l++[x]).getD l.length d=x:=by
 simp only[ap];rw[ar (ai _)];simp
theorem zV {n:Nw} {m:Ms} (hf:n.fifo=true):∀i j,j<i→(n.l.getD j dfMs).fr=m.fr→(n.l.getD j dfMs).to=m.to→n.tm.getD j 0≤IH n m i
 |0,_,h,_,_=>by omega
 |i+1,j,h,h1,h2=>by
   simp only[IH]
   by_cases hj:j=i
   ·subst hj;rw[if_pos ⟨hf,h1,h2⟩];omega
   ·have:=zV hf i j oM h1 h2
    split<;>omega
theorem ScOk.send {fs:List (Int×Int)} {s:Sc} (h:ScOk fs s) {m:Ms} (hm:msB m=true) (hn:m.nu=s.sent.length) (h60:s.sent.length<60) :
  sdE s.n m=0∧ScOk fs ⟨sdR s.n m,s.sent++[m],s.due++[s.n.now+(s.n.fates.headD (1,0)).2],s.copies++[(s.n.fates.headD (1,0)).1],s.got++[0],s.last⟩:=by
 have hd:=EQ h.v
 have ha:=UO h.v (m:=m) s.n.l.length (ai _)
 have ZKX:=h.v.now
 have ZLk:=h.few
 obtain⟨a,hA⟩:∃a,MG s.n m=a:=⟨_,rfl⟩
 change s.n.now≤MG s.n m∧MG s.n m≤_ at ha
 rw[hA]at ha
 obtain⟨c,hC⟩:∃c:Nat,(s.n.fates.headD (1,0)).1=(c:Int):=⟨(s.n.fates.headD (1,0)).1.toNat,by omega⟩
 have VX:c≤3:=by omega
 have he:sdE s.n m=0:=by
  unfold sdE XU
  rw[hA,hC,if_neg oM,if_neg oM]
 have hr:sdR s.n m=ZU s.n m a c:=by
  unfold sdR XU
  rw[if_pos he,hA,hC,cj]
 refine⟨he,?_⟩
 rw[hr,hC]
 obtain⟨p,hp⟩:∃p,leN s.n.tm a=p:=⟨_,rfl⟩
 have hs:=TZ (l:=s.n.tm) (a:=a)
 have CJ:=AS (l:=s.n.tm) (a:=a)
 rw[hp]at hs CJ
 have ZK6:p≤s.n.l.length:=by rw[h.v.len];exact CJ
 have el:(ZU s.n m a c).l=s.n.l.take p++List.replicate c m++s.n.l.drop p:=by rw[←hp];rfl
 have et:(ZU s.n m a c).tm=s.n.tm.take p++List.replicate c a++s.n.tm.drop p:=by rw[←hp];rfl
 have ef:(ZU s.n m a c).fifo=s.n.fifo:=rfl
 have g:=fun i=>SN (l:=s.n.l) (x:=m) (d:=dfMs) (c:=c) ZK6 i
 have gt:=fun i=>SN (l:=s.n.tm) (x:=a) (d:=0) (c:=c) CJ i
 have ll:(ZU s.n m a c).l.length=s.n.l.length+c:=by rw[el,sI ZK6]
 have late:∀j,p≤j→j<s.n.l.length→a<s.n.tm.getD j 0:=fun j h1 h2=>by
  have hjt:j<s.n.tm.length:=by rw[←h.v.len];exact h2
  have:=hs.2 oM
  have:=h.v.sorted p j h1 hjt
  omega
 have old:∀i,i<s.n.l.length→(s.n.l.getD i dfMs).nu<s.sent.length:=fun i hi=>by
  obtain⟨k,h1,h2,_⟩:=h.own i hi
  rw[h2,h.num k h1];omega
 refine⟨h.v.ins hm oM oM,?_,?_,?_,?_,?_,?_,?_,?_,?_,?_,?_,?_⟩
 ·show (ZU s.n m a c).l.length≤3*(s.sent++[m]).length
  rw[ll,aq,dp];omega
 ·simp[h.ld]
 ·simp[h.lc]
 ·simp[h.lg]
 ·show s.n.fates.drop 1=fs.drop (s.sent++[m]).length
  rw[h.fates,List.drop_drop,aq,dp]
 ·intro k hk
  simp only[aq,dp]at hk
  by_cases h1:k<s.sent.length
  ·simp only[fF h1];exact h.num k h1
  ·obtain rfl:k=s.sent.length:=by omega
   simp only[yH];exact hn
 ·intro i hi
  simp only at hi⊢
  rw[ll]at hi
  rw[el,et,g,gt]
  by_cases h1:i<p
  ·rw[if_pos h1,if_pos h1]
   obtain⟨k,k1,k2,k3⟩:=h.own i oM
   exact⟨k,by simp;omega,by rw[fF k1];exact k2,by rw[fF (by rw[h.ld];exact k1)];exact k3⟩
  ·rw[if_neg h1,if_neg h1]
   by_cases h2:i<p+c
   ·rw[if_pos h2,if_pos h2]
    refine⟨s.sent.length,by simp,by rw[yH],?_⟩
    rw[←h.ld,yH,←hA]
    exact UV (n:=s.n) (m:=m) _
   ·rw[if_neg h2,if_neg h2]
    obtain⟨k,k1,k2,k3⟩:=h.own (i-c) oM
    exact⟨k,by simp;omega,by rw[fF k1];exact k2,by rw[fF (by rw[h.ld];exact k1)];exact k3⟩
 ·intro k hk
  simp only[aq,dp]at hk⊢
  rw[el,ZGU]
  by_cases h1:k<s.sent.length
  ·rw[if_neg (by rw[hn];omega),fF (by rw[h.lg];exact h1),fF (by rw[h.lc];exact h1)]
   exact h.cnt k h1
  ·obtain rfl:k=s.sent.length:=by omega
   rw[if_pos hn,ZDO (fun i hi=>by have:=old i hi;omega)]
   have e1:(s.got++[0]).getD s.sent.length 0=0:=by rw[←h.lg,yH]
   have e2:(s.copies++[(c:Int)]).getD s.sent.length 0=c:=by rw[←h.lc,yH]
   rw[e1,e2];omega
 ·intro hf i j uQ hj
  simp only at hf hj⊢
  rw[ll]at hj
  rw[el,g,g]
  by_cases i1:i<p
  ·rw[if_pos i1]
   by_cases j1:j<p
   ·rw[if_pos j1];exact h.ord hf i j uQ oM
   ·rw[if_neg j1]
    by_cases j2:j<p+c
    ·rw[if_pos j2];intro _ _;have:=old i oM;omega
    ·rw[if_neg j2];exact h.ord hf i (j-c) oM oM
  ·rw[if_neg i1,if_neg (show ¬j<p by omega)]
   by_cases i2:i<p+c
   ·rw[if_pos i2]
    by_cases j2:j<p+c
    ·rw[if_pos j2];intro _ _;exact ij _
    ·rw[if_neg j2]
     intro e1 e2
     have:=late (j-c) oM oM
     have:=zV (n:=s.n) (m:=m) hf s.n.l.length (j-c) oM e1.symm e2.symm
     change _≤MG s.n m at this
     omega
   ·rw[if_neg i2,if_neg (show ¬j<p+c by omega)]
    exact h.ord hf (i-c) (j-c) oM oM
 ·intro hf i hi
  simp only at hf hi⊢
  rw[ll]at hi
  rw[el,g]
  by_cases i1:i<p
  ·rw[if_pos i1];exact h.lst hf i oM
  ·rw[if_neg i1]
   by_cases i2:i<p+c
   ·rw[if_pos i2,hn];exact h.lub _ _
   ·rw[if_neg i2];exact h.lst hf (i-c) oM
 ·intro x y
  have:=h.lub x y
  simp only[aq,dp];omega
 ·intro k hk
  simp only[aq,dp]at hk⊢
  by_cases h1:k<s.sent.length
  ·rw[fF (by rw[h.lg];exact h1),fF (by rw[h.lc];exact h1)]
   exact h.rng k h1
  ·obtain rfl:k=s.sent.length:=by omega
   have e1:(s.got++[0]).getD s.sent.length 0=0:=by rw[←h.lg,yH]
   have e2:(s.copies++[(c:Int)]).getD s.sent.length 0=c:=by rw[←h.lc,yH]
   rw[e1,e2];omega
theorem m9 {l:List Ms} {k:Nat} (hk:k<l.length) (x:Int):JK (l.take k++l.drop (k+1)) x+(if (l.getD k dfMs).nu=x then 1 else 0)=JK l x:=by
 have h:l=l.take k++([l.getD k dfMs]++l.drop (k+1)):=by
  rw[YA hk,List.singleton_append,←List.drop_eq_getElem_cons hk,ix]
 have h2:JK [l.getD k dfMs] x=if (l.getD k dfMs).nu=x then 1 else 0:=by
  obtain⟨z,hz⟩:∃z,l.getD k dfMs=z:=⟨_,rfl⟩
  rw[hz]
  unfold JK
  by_cases hx:z.nu=x<;>simp[hx]
 have h3:JK l x=JK (l.take k) x+(JK [l.getD k dfMs] x+JK (l.drop (k+1)) x):=by
  conv=>lhs;rw[h]
  rw[eM,eM]
 rw[eM,h3,h2];omega
theorem UZ {α:Type} {l:List α} {q k:Nat} {x d:α} (hq:q<l.length):(l.set q x).getD k d=if k=q then x else l.getD k d:=by
 simp only[ap]
 by_cases h:k=q
 ·subst h;rw[if_pos rfl,ay hq];rfl
 ·rw[if_neg h,bf (fun e=>h e.symm)]
theorem ScOk.recv {fs:List (Int×Int)} {s:Sc} (h:ScOk fs s) {to:Int} {k:Nat} (hk:k<s.n.l.length) (ha:arB s.n to k=true) (h0:∀j,j<k→arB s.n to j=false) :
  ∃q,q<s.sent.length∧s.n.l.getD k dfMs=s.sent.getD q dfMs∧(s.n.l.getD k dfMs).nu=q∧(s.n.l.getD k dfMs).to=to∧s.due.getD q 0≤s.n.now ∧
   (s.n.fifo=true→s.last (s.n.l.getD k dfMs).fr (s.n.l.getD k dfMs).to≤q)∧s.got.getD q 0+1≤s.copies.getD q 0 ∧
   ScOk fs ⟨woN s.n k,s.sent,s.due,s.copies,s.got.set q (s.got.getD q 0+1),fun x y=>if x=(s.n.l.getD k dfMs).fr∧y=(s.n.l.getD k dfMs).to then q else s.last x y⟩:=by
 obtain⟨q,q1,q2,q3⟩:=h.own k hk
 unfold arB at ha
 simp only[au,bc]at ha
 obtain⟨a1,a2⟩:=ha
 have hkt:k<s.n.tm.length:=by rw[←h.v.len];exact hk
 have hnu:(s.n.l.getD k dfMs).nu=q:=by rw[q2];exact h.num q q1
 have hqg:q<s.got.length:=by rw[h.lg];exact q1
 have iW:=m9 hk (q:Int)
 rw[if_pos hnu]at iW
 have hcq:=h.cnt q q1
 refine⟨q,q1,q2,hnu,a1,by omega,fun hf=>by have:=h.lst hf k hk;rw[hnu]at this;exact this,by omega,?_⟩
 have g:=fun i=>CN (l:=s.n.l) (d:=dfMs) (k:=k) i
 have gt:=fun i=>CN (l:=s.n.tm) (d:=0) (k:=k) i
 have ll:(woN s.n k).l.length=s.n.l.length-1:=nI hk
 have el:(woN s.n k).l=s.n.l.take k++s.n.l.drop (k+1):=rfl
 have et:(woN s.n k).tm=s.n.tm.take k++s.n.tm.drop (k+1):=rfl
 obtain⟨σ,hσ⟩:∃σ:Nat→Nat,∀i,σ i=if k≤i then i+1 else i:=⟨_,fun _=>rfl⟩
 have gl:∀i,(woN s.n k).l.getD i dfMs=s.n.l.getD (σ i) dfMs:=fun i=>by
  rw[el,g,hσ]
  by_cases hi:k≤i
  ·rw[if_pos ⟨hk,hi⟩,if_pos hi]
  ·rw[if_neg (fun h=>hi h.2),if_neg hi]
 have gm:∀i,(woN s.n k).tm.getD i 0=s.n.tm.getD (σ i) 0:=fun i=>by
  rw[et,gt,hσ]
  by_cases hi:k≤i
  ·rw[if_pos ⟨hkt,hi⟩,if_pos hi]
  ·rw[if_neg (fun h=>hi h.2),if_neg hi]
 have sl:∀i,i<s.n.l.length-1→σ i<s.n.l.length∧σ i≠k:=fun i hi=>by
  rw[hσ];split<;>omega
 have sm:∀i j,i<j→σ i<σ j:=fun i j uQ=>by
  rw[hσ,hσ];split<;>split<;>omega
 refine⟨h.v.out hk,?_,h.ld,h.lc,by simp[h.lg],h.fates,h.num,?_,?_,?_,?_,?_,?_⟩
 ·show (woN s.n k).l.length≤3*s.sent.length
  have:=h.few;rw[ll];omega
 ·intro i hi
  simp only at hi⊢
  rw[ll]at hi
  rw[gl,gm]
  exact h.own (σ i) (sl i hi).1
 ·intro x hx
  simp only at hx⊢
  rw[el,UZ hqg]
  have:=m9 hk (x:Int)
  have hcx:=h.cnt x hx
  by_cases hxq:x=q
  ·subst hxq;rw[if_pos rfl];omega
  ·rw[if_neg hxq]
   rw[if_neg (by rw[hnu];omega)]at this
   omega
 ·intro hf i j uQ hj
  simp only at hf hj⊢
  rw[ll]at hj
  rw[gl,gl]
  exact h.ord hf (σ i) (σ j) (sm i j uQ) (sl j hj).1
 ·intro hf i hi
  simp only at hf hi⊢
  rw[ll]at hi
  rw[gl]
  by_cases hc:(s.n.l.getD (σ i) dfMs).fr=(s.n.l.getD k dfMs).fr∧(s.n.l.getD (σ i) dfMs).to=(s.n.l.getD k dfMs).to
  ·rw[if_pos hc]
   have hgt:k<σ i:=by
    rcases bj k (σ i) with h1|h1
    ·exact h1
    ·exfalso
     have h2:σ i<k:=by have:=(sl i hi).2;omega
     have h3:=h0 (σ i) h2
     have h4:=h.v.sorted (σ i) k oM hkt
     unfold arB at h3
     rw[ae (show (s.n.l.getD (σ i) dfMs).to=to by rw[hc.2];exact a1),ae (show s.n.tm.getD (σ i) 0≤s.n.now by omega)]at h3
     cases h3
   have:=h.ord hf k (σ i) hgt (sl i hi).1 hc.1.symm hc.2.symm
   rw[hnu]at this
   exact this
  ·rw[if_neg hc]
   exact h.lst hf (σ i) (sl i hi).1
 ·intro x y
  simp only
  split
  ·omega
  ·exact h.lub x y
 ·intro x hx
  simp only at hx⊢
  rw[UZ hqg]
  have:=h.rng x hx
  have:=h.rng q q1
  split<;>omega
theorem ScOk.at {fs:List (Int×Int)} {s:Sc} (h:ScOk fs s) {t:Int} (ht:0≤t∧t≤1099511627776):ScOk fs {s with n:={s.n with now:=t}}:=
 ⟨h.v.at ht,h.few,h.ld,h.lc,h.lg,h.fates,h.num,h.own,h.cnt,h.ord,h.lst,h.lub,h.rng⟩
theorem ScOk.done {fs:List (Int×Int)} {s:Sc} (h:ScOk fs s) (h0:s.n.l=[]):s.got=s.copies:=by
 apply dr
 intro k
 by_cases hk:k<s.sent.length
 ·have:=h.cnt k hk
  rw[h0]at this
  have e:JK [] (k:Int)=0:=rfl
  rw[e]at this
  rw[ah (by rw[h.lg];exact hk),ah (by rw[h.lc];exact hk)]
  rw[YA (by rw[h.lg];exact hk),YA (by rw[h.lc];exact hk)]at this
  congr 1;omega
 ·rw[bu (by rw[h.lg];omega),bu (by rw[h.lc];omega)]
theorem ScOk.start {fs:List (Int×Int)} (fifo:Bool) (h:∀f∈fs,ftB f=true) (hl:fs.length≤1000):ScOk fs ⟨⟨0,fifo,[],[],fs⟩,[],[],[],[],fun _ _=>0⟩:=
 ⟨⟨⟨(by decide:(0:Int)≤0),(by decide:(0:Int)≤1099511627776)⟩,rfl,by simp,hl,h,by simp,by simp,by simp⟩,by simp,rfl,rfl,rfl,rfl,by simp,by simp,by simp,by simp,by simp,by simp,by simp⟩
structure WdV (w:Wd):Prop where
 sv:bF w.sv=true
 now:0≤w.now∧w.now≤1000000000
 net:NwV w.net
 nnow:w.net.now=w.now
 tr:Vok w.tr
 len:w.tr.length=w.sv.length
 fit:∀p,p<w.tr.length→QI (w.tr.getD p dfPr) (w.sv.getD p dfSv) w.now=true
 snt:∀x∈ids w.tr,(gA w.tr x).kind=2→(gA w.tr x).msg<w.sent
 cnt:(cSd w.tr w.tr.length:Int)=w.sent
 msg:∀m∈w.net.l,mgB w.tr m=true
theorem WdV.of {w:Wd} (h:wdB w=true):WdV w:=by
 unfold wdB at h
 simp only[au,bc]at h
 obtain⟨h1,h2,h3,h4,h5,h6,h7,h8,h9⟩:=h
 unfold inZ at h2
 simp only[au,bc]at h2
 have hp:∀p,p<w.tr.length→prB w p=true:=fun p hp=>bg.1 h7 p (ba.2 hp)
 unfold prB at hp
 refine⟨h1,h2,MF.1 h3,h4,vok h5,h6,fun p hl=>(au _ _▸hp p hl).1,fun x hx hk=>?_,h8,fun m hm=>bg.1 h9 m hm⟩
 obtain⟨q,i⟩:=x
 obtain⟨i,rfl⟩:∃k,i=k+1:=⟨i-1,by have:=dG hx;simp only at this;omega⟩
 obtain⟨g1,g2⟩:=KE.1 hx
 have:=(au _ _▸hp q g1).2
 have:=bg.1 this i (ba.2 g2)
 unfold sOk at this
 change (((iA w.tr q).getD i lI).kind)=2 at hk
 rw[hk]at this
 show ((iA w.tr q).getD i lI).msg<w.sent
 simpa using this
theorem WdV.to {w:Wd} (h:WdV w):wdB w=true:=by
 have h7:(List.range w.tr.length).all (prB w)=true:=by
  rw[bg]
  intro p hp
  have hp:=ba.1 hp
  unfold prB
  rw[h.fit p hp,hU,bg]
  intro i hi
  have hi:=ba.1 hi
  unfold sOk
  by_cases hk:((iA w.tr p).getD i lI).kind=2
  ·have:=h.snt (p,i+1) (KE.2 ⟨hp,hi⟩) hk
   have e:((iA w.tr p).getD i lI).msg<w.sent:=this
   rw[ae e,Bool.or_true]
  ·rw[dy.2 hk];rfl
 have h2:inZ w.now 0 1000000000=true:=by unfold inZ;simp;exact h.now
 unfold wdB
 rw[h.sv,h2,MF.2 h.net,ae h.nnow,bI h.tr,ae h.len,h7,ae h.cnt,bg.2 h.msg];rfl
structure SvV (s:Sv) (p n:Int):Prop where
 name:nD s.name=true
 cl:1≤s.code.length∧s.code.length≤100
 vl:s.vars.length≤8
 pc:0≤s.pc∧s.pc≤s.code.length
 rt:NI s=true
 vs:∀v∈s.vars,vlB v=true
 ins:∀x∈s.code,iE s.vars.length s.code.length p n x=true
theorem O7 {s:Sv} {p n:Int}:sv1 s p n=true↔SvV s p n:=by
 unfold sv1 inZ
 simp only[au,bc,bg]
 constructor
 ·rintro⟨h1,h2,h3,h4,h5,h6,h7⟩
  exact⟨h1,by omega,h3,h4,h5,h6,h7⟩
 ·rintro⟨h1,h2,h3,h4,h5,h6,h7⟩
  exact⟨h1,by omega,h3,h4,h5,h6,h7⟩
theorem jI {l:List Sv} (h:bF l=true) {p:Nat} (hp:p<l.length):SvV (l.getD p dfSv) p l.length∧∀q,q<p→(l.getD q dfSv).name≠(l.getD p dfSv).name:=by
 unfold bF at h
 rw[au]at h
 have:=bg.1 h.2 p (ba.2 hp)
 unfold svB at this
 rw[au]at this
 refine⟨O7.1 this.1,fun q hq he=>?_⟩
 have FS:q<l.length:=by omega
 have hm:l.getD q dfSv∈l.take p:=by
  rw[YA FS]
  exact ek.2 ⟨q,by rw[cz,if_pos hq,ah FS]⟩
 have:=bg.1 this.2 _ hm
 rw[he,iK]at this
 cases this
theorem ZHw {l:List Sv} (hl:1≤l.length∧l.length≤8) (h:∀p,p<l.length→SvV (l.getD p dfSv) p l.length∧∀q,q<p→(l.getD q dfSv).name≠(l.getD p dfSv).name):bF l=true:=by
 unfold bF
 rw[au]
 refine⟨by unfold inZ;simp only[bc];omega,bg.2 fun p hp=>?_⟩
 have hp:=ba.1 hp
 obtain⟨h1,h2⟩:=h p hp
 unfold svB
 rw[au]
 refine⟨O7.2 h1,bg.2 fun x hx=>?_⟩
 obtain⟨q,hq⟩:=ek.1 hx
 rw[cz]at hq
 split at hq
 ·rename_i hqp
  have:=h2 q hqp
  rw[ap,hq,fk]at this
  cases hb:x.name==(l.getD p dfSv).name with
  |false=>rfl
  |true=>exact absurd (PS hb) this
 ·cases hq
theorem aN {l:List Sv} (h:bF l=true):1≤l.length∧l.length≤8:=by
 unfold bF inZ at h
 simp only[au,bc]at h
 omega
theorem ZFR {l:List Sv} (h:bF l=true) {p:Nat} (hp:p<l.length) {c:Int} {v:List Int} (hc:0≤c∧c≤(l.getD p dfSv).code.length) (hv:v.length=(l.getD p dfSv).vars.length) (kW:∀x∈v,vlB x=true) :
  bF (l.set p {l.getD p dfSv with pc:=c,vars:=v})=true:=by
 have hn:=aN h
 have g:∀q,(l.set p {l.getD p dfSv with pc:=c,vars:=v}).getD q dfSv=if p=q then {l.getD p dfSv with pc:=c,vars:=v} else l.getD q dfSv:=fun q=>by
  split
  ·rename_i e;subst e
   rw[ap,ay hp];rfl
  ·rename_i e
   rw[ap,bf e,←ap]
 have gn:∀q,((l.set p {l.getD p dfSv with pc:=c,vars:=v}).getD q dfSv).name=(l.getD q dfSv).name:=fun q=>by
  rw[g];split
  ·rename_i e;subst e;rfl
  ·rfl
 refine ZHw (by rw[dj];exact hn) (fun q hq=>?_)
 rw[dj]at hq⊢
 obtain⟨h1,h2⟩:=jI h hq
 refine⟨?_,fun r hr=>by rw[gn,gn];exact h2 r hr⟩
 rw[g];split
 ·rename_i e;subst e
  exact⟨h1.name,h1.cl,by show v.length≤8;rw[hv];exact h1.vl,hc,h1.rt,kW,by show ∀x∈(l.getD p dfSv).code,iE v.length _ _ _ x=true;rw[hv];exact h1.ins⟩
 ·exact h1
theorem Z8 {p:Pr} {e:Ev}:∀k,k≤p.evs.length→stV {p with evs:=p.evs++[e]} k=stV p k
 |0,_=>rfl
 |k+1,h=>by
   have ih:=Z8 (p:=p) (e:=e) k oM
   simp only[stV]
   rw[ih,ap,aw oM,←ap]
theorem ZDE {p:Pr} {e:Ev}:AL {p with evs:=p.evs++[e]}=apE (AL p) e:=by
 unfold AL
 show stV {p with evs:=p.evs++[e]} (p.evs++[e]).length=_
 rw[aq,dp]
 simp only[stV]
 rw[Z8 _ (ai _),ap,ar (ai _),eh];rfl
theorem A8 {l:List Ev} {e:Ev}:∀k,k≤l.length→nSd (l++[e]) k=nSd l k
 |0,_=>rfl
 |k+1,h=>by
   have ih:=A8 (l:=l) (e:=e) k oM
   simp only[nSd]
   rw[ih,ap,aw oM,←ap]
theorem ZCm {l:List Ev} {e:Ev}:nSd (l++[e]) (l++[e]).length=nSd l l.length+if e.kind=2 then 1 else 0:=by
 rw[aq,dp]
 simp only[nSd]
 rw[A8 _ (ai _),ap,ar (ai _),eh]
 simp only[ku,fk]
 split<;>omega
theorem l9 {t:Tr} {p:Nat} {e:Ev} (hp:p<t.length):∀k,k≤t.length→cSd (nB t p e) k=cSd t k+if p<k∧e.kind=2 then 1 else 0
 |0,_=>by simp[cSd]
 |k+1,h=>by
   have ih:=l9 (e:=e) hp k oM
   simp only[cSd]
   rw[ih]
   by_cases hk:p=k
   ·subst hk
    rw[YL hp,ZCm,if_neg oM]
    by_cases h2:e.kind=2
    ·rw[if_pos h2,if_pos ⟨by omega,h2⟩];omega
    ·rw[if_neg h2,if_neg (fun h=>h2 h.2)];omega
   ·rw[UQ hk]
    by_cases h2:p<k∧e.kind=2
    ·rw[if_pos h2,if_pos ⟨by omega,h2.2⟩];omega
    ·rw[if_neg h2,if_neg (fun h=>h2 ⟨by omega,h.2⟩)];omega
structure PutOk (w:Wd) (p:Nat) (s:Sv) (e:Ev) (n:Nw) (sn:Int):Prop where
 hp:p<w.sv.length
 sv:∃c v,s={w.sv.getD p dfSv with pc:=c,vars:=v}∧(0≤c∧c≤(w.sv.getD p dfSv).code.length)∧v.length=(w.sv.getD p dfSv).vars.length∧(∀x∈v,vlB x=true)∧apE (w.sv.getD p dfSv).vars e=v
 room:(iA w.tr p).length<64
 form:AA w.tr.length p e=true
 al:e.asg.length≤8
 af:uB (YJ (w.sv.getD p dfSv).vars.length e.asg) e.asg.length=0
 snd:e.kind=2→e.msg=w.sent
 rcv:e.kind=3→(∀x∈ids w.tr,(gA w.tr x).kind=3→(gA w.tr x).msg≠e.msg)∧sendsB w.tr e.peer.toNat e.msg p=true
 net:NwV n
 now:n.now=w.now
 sent:sn=if e.kind=2 then w.sent+1 else w.sent
 msg:∀m∈n.l,mgB w.tr m=true∨(e.kind=2∧m.body.length=1∧m.nu=w.sent∧m.fr=p∧m.to=e.peer)
def ZB5 (w:Wd) (p:Nat) (e:Ev):Ev:={e with time:=nH (w.sv.getD p dfSv) w.now}
theorem y7 {s:Sv} (hr:NI s=true) {now:Int} (hn:0≤now∧now≤1000000000):nH s now=s.off+now*s.rate / 1000∧0≤nH s now∧nH s now≤1099511627776:=by
 have hk:iH s now=true:=by
  unfold iH inZ;rw[hr];simp;exact hn
 obtain⟨h1,h2,h3,h4,h5⟩:=x7 hk
 unfold nH
 rw[if_pos hk]
 refine⟨rfl,?_,?_⟩<;>omega
theorem PutOk.ev {w:Wd} (hw:WdV w) {p:Nat} {s:Sv} {e:Ev} {n:Nw} {sn:Int} (h:PutOk w p s e n sn):NewEv w.tr p (ZB5 w p e):=by
 have hp:p<w.tr.length:=by rw[hw.len];exact h.hp
 have hf:=hw.fit p hp
 unfold QI at hf
 simp only[au,bc]at hf
 obtain⟨_,f2,_,_,f5⟩:=hf
 have hs:=(jI hw.sv h.hp).1
 have hc:=y7 hs.rt hw.now
 refine⟨hw.tr,hp,h.room,h.form,?_,fun i hi=>?_,h.al,?_,fun hk x hx hxk=>?_,h.rcv⟩
 ·unfold inB ZB5;simp;exact hc.2
 ·unfold MT at f5
  have QQ:(w.tr.getD p dfPr).evs=iA w.tr p:=rfl
  rw[QQ,hi]at f5
  simp only[bc,fa]at f5
  rcases f5 with f5|f5
  ·omega
  ·exact f5
 ·rw[f2];exact h.af
 ·have:=hw.snt x hx hxk
  have h2:=h.snd hk
  show _≠e.msg
  omega
theorem ZIO {t:Tr} {p:Nat} {e:Ev} (h:NewEv t p e) {m:Ms} (hm:mgB t m=true):mgB (nB t p e) m=true:=by
 unfold mgB at hm⊢
 simp only[au,bc]at hm
 obtain⟨h1,h2,h3,h4⟩:=hm
 obtain⟨q,i,hq,hpl,hi⟩:=LN h2
 have hv:=bI h.v
 have hv2:=bI (H6 h)
 rw[MK hv]at hq
 have hf:GC t 2 m.nu=some (q,i+1):=by
  cases hc:GC t 2 m.nu with
  |none =>
    have:DB t 2 m.nu=(0,0):=by unfold DB qA;show (GC t 2 m.nu).getD (0,0)=_;rw[hc];rfl
    rw[this]at hq
    have:=congrArg Prod.snd hq;simp only at this;omega
  |some x=>have:=(AB hc).1;rw[show qA t (ids t) 2 m.nu=DB t 2 m.nu from rfl,hq]at this;rw[this]
 have hx:=tJ hf
 obtain⟨k1,k2⟩:=CE hf
 have hf2:GC (nB t p e) 2 m.nu=some (q,i+1):=by
  rw[rJ h (.inl rfl),if_neg (fun hc=>h.fresh (.inl rfl) hc.1 hx k1 (k2.trans hc.2.symm))];exact hf
 have e2:EB (nB t p e) 2 m.nu=(q,i+1):=by rw[MK hv2];exact (AB hf2).1
 have e1:EB t 2 m.nu=(q,i+1):=by rw[MK hv];exact hq
 rw[e1]at h3 h4
 rw[e2,bJ h.hp hx,ae h1,ae h3,ae h4];rfl
theorem ZIP {t:Tr} {p:Nat} {e:Ev} (h:NewEv t p e) (hk:e.kind=2) {m:Ms} (h1:m.body.length=1) (h2:m.nu=e.msg) (h3:m.fr=p) (h4:m.to=e.peer):mgB (nB t p e) m=true:=by
 have hf2:GC (nB t p e) 2 m.nu=some (p,(iA t p).length+1):=by
  rw[rJ h (.inl rfl),if_pos ⟨hk,h2.symm⟩]
 have e2:EB (nB t p e) 2 m.nu=(p,(iA t p).length+1):=by rw[MK (bI (H6 h))];exact (AB hf2).1
 unfold mgB
 rw[e2,JL h.hp,ae h1,ae h3.symm,ae h4.symm];rfl
def ZCB (w:Wd) (p:Nat) (s:Sv) (e:Ev) (n:Nw) (sn:Int):Wd:={aF w p s e with net:=n,sent:=sn}
theorem PutOk.tr {w:Wd} {p:Nat} {s:Sv} {e:Ev} {n:Nw} {sn:Int} (h:PutOk w p s e n sn):(ZCB w p s e n sn).tr=nB w.tr p (ZB5 w p e):=by
 obtain⟨c,v,rfl,_⟩:=h.sv
 rfl
theorem PutOk.valid {w:Wd} (hw:WdV w) {p:Nat} {s:Sv} {e:Ev} {n:Nw} {sn:Int} (h:PutOk w p s e n sn):WdV (ZCB w p s e n sn):=by
 have he:=h.ev hw
 have ht:=h.tr
 have hp:=he.hp
 obtain⟨c,v,hs,hc,kW,kU,hap⟩:=h.sv
 have rV:(ZCB w p s e n sn).sv=w.sv.set p s:=rfl
 refine⟨?_,hw.now,h.net,h.now,?_,?_,fun q hq=>?_,fun x hx hk=>?_,?_,fun m hm=>?_⟩
 ·rw[rV,hs];exact ZFR hw.sv h.hp hc kW kU
 ·rw[ht];exact H6 he
 ·rw[ht,FH,rV,dj];exact hw.len
 ·rw[ht,FH]at hq
  have hf:=hw.fit q hq
  rw[ht,rV]
  show QI _ _ w.now=true
  by_cases hpq:p=q
  ·subst hpq
   rw[pM hp,ap (l:=w.sv.set p s),ay h.hp,fk]
   unfold QI at hf⊢
   simp only[au,bc]at hf⊢
   obtain⟨f1,f2,f3,f4,f5⟩:=hf
   rw[hs]
   refine⟨f1,?_,?_,?_,?_⟩
   ·show (w.tr.getD p dfPr).vars.length=v.length
    rw[kW];exact f2
   ·show dX _ v.length=true
    rw[kW];exact f3
   ·have:AL {w.tr.getD p dfPr with evs:=(w.tr.getD p dfPr).evs++[ZB5 w p e]}=v:=by
     rw[ZDE,f4];exact hap
    exact this
   ·unfold MT
    simp only[bc]
    refine .inr ?_
    show (List.getD (iA w.tr p++[ZB5 w p e]) ((iA w.tr p++[ZB5 w p e]).length-1) lI).time≤_
    rw[aq,dp,fa,ap,ar (ai _),eh]
    exact ij _
  ·rw[ZO hpq,ap (l:=w.sv.set p s),bf hpq,←ap]
   exact hf
 ·have S1:=h.sent
  show (gA (ZCB w p s e n sn).tr x).msg<sn
  rw[ht]at hx hk⊢
  rcases (XL hp).1 hx with hx|hx
  ·rw[bJ hp hx]at hk⊢
   have:=hw.snt x hx hk
   split at S1<;>omega
  ·rw[hx,JL hp]at hk⊢
   have hk:e.kind=2:=hk
   have:=h.snd hk
   rw[if_pos hk]at S1
   show e.msg<sn
   omega
 ·rw[ht,FH,l9 hp _ (ai _)]
  have S1:=h.sent
  have hc:=hw.cnt
  show _=sn
  have hk:(ZB5 w p e).kind=e.kind:=rfl
  rw[hk,S1]
  by_cases h2:e.kind=2
  ·rw[if_pos ⟨hp,h2⟩,if_pos h2];omega
  ·rw[if_neg (fun h=>h2 h.2),if_neg h2];omega
 ·rw[ht]
  rcases h.msg m hm with h1|⟨h1,h2,h3,h4,h5⟩
  ·exact ZIO he h1
  ·exact ZIP he h1 h2 (by rw[h3];exact (h.snd h1).symm) h4 h5
def m7:Ms:=⟨0,1,7,[]⟩
def m8:Ms:=⟨0,1,8,[]⟩
theorem ZEE {n:Nw} {to:Int} (h:0≤fiR n to):∃k:Nat,fiR n to=k∧k<n.l.length∧arB n to k=true∧∀j,j<k→arB n to j=false:=by
 unfold fiR iX at *
 cases hf:(List.range n.l.length).find? (arB n to) with
 |none=>rw[hf]at h;cases h
 |some k =>
   refine⟨k,rfl,ba.1 (fg hf),fx hf,fun j hj=>?_⟩
   obtain⟨as1,bs1,h1,h2⟩:=List.find?_eq_some_iff_append.1 hf |>.2
   have hjr:(List.range n.l.length)[j]? = some j:=jg (by have:=ba.1 (fg hf);omega)
   have pC:as1.length=k:=by
    have h3:(List.range n.l.length)[as1.length]? = some k:=by rw[h1];simp
    have h4:=(ak.1 h3).1
    rw[ji]at h4
    rw[jg h4]at h3
    exact ja h3
   rw[h1,aw oM]at hjr
   have:=h2 j (bw hjr)
   simpa using this
theorem rW {n:Nw} {to:Int}:∀i,(∀j,j<i→arB n to j=false)→wtN n to i=0
 |0,_=>rfl
 |i+1,h=>by
   simp only[wtN]
   rw[h i oM,rW i (fun j hj=>h j oM)];rfl
theorem x9 {n:Nw} {to:Int} (h:fiR n to<0):∀j,j<n.l.length→arB n to j=false:=by
 intro j hj
 cases hc:arB n to j with
 |false=>rfl
 |true =>
   exfalso
   unfold fiR iX at h
   cases hf:(List.range n.l.length).find? (arB n to) with
   |none =>
     have:=cw.1 hf j (ba.2 hj)
     rw[hc]at this;exact this rfl
   |some k=>rw[hf]at h;simp only at h;omega
theorem asg1 {nv i:Nat} (hi:i<nv) {v:Int} (hv:vlB v=true):uB (YJ nv [⟨i,v⟩]) 1=0:=by
 have hb:lK v=true:=by
  unfold vlB at hv;unfold lK
  simpa using hv
 have GE:inB ((i:Nat):Int) 0 ((nv:Int)-1)=true:=by
  unfold inB;simp;omega
 simp only[uB,if_true]
 unfold YJ
 simp only[List.getD_cons_zero,hb,GE,List.take_zero,List.any_nil]
 rfl
theorem zX {l:List Int} {i:Nat} {v:Int} (h:∀x∈l,vlB x=true) (hv:vlB v=true):∀x∈l.set i v,vlB x=true:=fun x hx=>by
 rcases List.mem_or_eq_of_mem_set hx with h1|h1
 ·exact h x h1
 ·rw[h1];exact hv
theorem P6 {w:Wd} (hw:WdV w) {p:Nat} (hp:p<w.sv.length) (JC:(iA w.tr p).length<64) {c:Int} {v:List Int} {a:List Asg} (hc:0≤c∧c≤(w.sv.getD p dfSv).code.length) (hv:v.length=(w.sv.getD p dfSv).vars.length) (kU:∀x∈v,vlB x=true)
  (al:a.length≤8) (af:uB (YJ (w.sv.getD p dfSv).vars.length a) a.length=0) (hap:apE (w.sv.getD p dfSv).vars ⟨1,0,0,0,a⟩=v) {n:Nw} (hn:NwV n) (LY:n.now=w.now) (hm:∀m∈n.l,m∈w.net.l) :
  PutOk w p {w.sv.getD p dfSv with pc:=c,vars:=v} ⟨1,0,0,0,a⟩ n w.sent:=
 ⟨hp,⟨c,v,rfl,hc,hv,kU,hap⟩,JC,rfl,al,af,fun h=>absurd (show (1:Int)=2 from h) kE,fun h=>absurd (show (1:Int)=3 from h) kE,hn,LY,rfl,fun m h=>.inl (hw.msg m (hm m h))⟩
theorem R4 {t:Tr} {k m:Int} (h:¬(DB t k m).2>0):∀x∈ids t,(gA t x).kind=k→(gA t x).msg≠m:=fun x hx hk hm=>by
 cases hf:GC t k m with
 |none =>
   have:=cw.1 hf x hx
   rw[hk,hm]at this;simp at this
 |some y =>
   obtain⟨h1,h2,_⟩:=AB hf
   rw[show qA t (ids t) k m=DB t k m from rfl]at h1
   rw[h1]at h;exact h h2
theorem Z9 {t:Tr} (hv:Vok t) {m:Ms} (hm:mgB t m=true):m.body.length=1∧∃q i,m.fr=(q:Nat)∧(q,i+1)∈ids t∧(gA t (q,i+1)).kind=2∧(gA t (q,i+1)).msg=m.nu∧(gA t (q,i+1)).peer=m.to:=by
 unfold mgB at hm
 simp only[au,bc]at hm
 obtain⟨h1,h2,h3,h4⟩:=hm
 obtain⟨q,i,hq,hpl,hi⟩:=LN h2
 rw[hq]at h3 h4
 rw[MK (bI hv)]at hq
 refine⟨h1,q,i,h3.symm,?_⟩
 have hf:GC t 2 m.nu=some (q,i+1):=by
  cases hc:GC t 2 m.nu with
  |none =>
    have:DB t 2 m.nu=(0,0):=by unfold DB qA;show (GC t 2 m.nu).getD (0,0)=_;rw[hc];rfl
    rw[this]at hq
    have:=congrArg Prod.snd hq;simp only at this;omega
  |some x=>have:=(AB hc).1;rw[show qA t (ids t) 2 m.nu=DB t 2 m.nu from rfl,hq]at this;rw[this]
 exact⟨tJ hf,(CE hf).1,(CE hf).2,h4⟩
theorem ZDd {n:Nw} {k:Nat} {m:Ms} (h:m∈(woN n k).l):m∈n.l:=by
 change m∈n.l.take k++n.l.drop (k+1) at h
 rcases bn.1 h with h|h
 ·exact dt h
 ·exact ey h
theorem ins_mem {n:Nw} {m x:Ms} {a:Int} {c:Nat} (h:x∈(ZU n m a c).l):x∈n.l∨x=m:=by
 change x∈n.l.take _++_++n.l.drop _ at h
 rw[bn,bn]at h
 rcases h with (h|h)|h
 ·exact .inl (dt h)
 ·exact .inr (ly.1 h).2
 ·exact .inl (ey h)
theorem DS {w:Wd} {p:Nat} (h:SD w p=true):UH (w.sv.getD p dfSv)=false∧(iA w.tr p).length<64∧(QJ (w.sv.getD p dfSv)=4→0<uH w.net p)∧(QJ (w.sv.getD p dfSv)=3→w.sent≤199):=by
 unfold SD at h
 rw[au]at h
 obtain⟨h1,h2⟩:=h
 rw[kf,ke]at h1
 refine⟨h1.1,by have:=gu h1.2;omega,fun h4=>?_,fun h3=>?_⟩
 ·rw[if_pos h4]at h2;exact il h2
 ·rw[if_neg oM,if_pos h3]at h2;exact il h2
theorem F7 {n:Nw} {to:Int} (h:0<uH n to):0≤fiR n to:=by
 rcases Int.lt_or_le (fiR n to) 0 with h1|h1
 ·exfalso
  unfold uH at h
  split at h
  ·rw[rW _ (x9 h1)]at h;omega
  ·omega
 ·exact h1
theorem ZHz {w:Wd} (hw:WdV w) {p:Nat} (hp:p<w.sv.length) (JC:(iA w.tr p).length<64) {x:In} (hx:0≤x.a∧x.a<(w.sv.getD p dfSv).vars.length) (uI:0≤(w.sv.getD p dfSv).pc∧(w.sv.getD p dfSv).pc<(w.sv.getD p dfSv).code.length)
  (hb:fiR w.net p<0→0≤x.b∧x.b<(w.sv.getD p dfSv).code.length):∃s e n sn,G7 w p (w.sv.getD p dfSv) x=ZCB w p s e n sn∧PutOk w p s e n sn:=by
 obtain⟨s,hs⟩:∃s,w.sv.getD p dfSv=s:=⟨_,rfl⟩
 have rV:=(jI hw.sv hp).1
 rw[hs]at rV hx uI hb⊢
 unfold G7
 by_cases h1:fiR w.net p<0
 ·rw[if_pos h1]
  have:=hb h1
  have e:({s with pc:=x.b}:Sv)={s with pc:=x.b,vars:=s.vars}:=rfl
  exact⟨_,_,w.net,w.sent,rfl,by
   have:=P6 hw hp JC (c:=x.b) (v:=s.vars) (a:=[]) (by rw[hs];omega) (by rw[hs]) rV.vs kS rfl (by rw[hs];rfl) hw.net hw.nnow (fun m h=>h)
   rw[hs]at this;exact this⟩
 rw[if_neg h1]
 obtain⟨k,hk,GN,hka,_⟩:=ZEE (n:=w.net) (to:=p) oM
 rw[hk,cj]
 obtain⟨m,hm⟩:∃m,w.net.l.getD k dfMs=m:=⟨_,rfl⟩
 have Y1:m∈w.net.l:=by rw[←hm,YA GN];exact am GN
 unfold arB at hka
 simp only[au,bc]at hka
 rw[hm]at hka⊢
 have sO:=hw.net.out GN
 by_cases h2:(DB w.tr 3 m.nu).2>0
 ·rw[if_pos h2]
  exact⟨_,_,woN w.net k,w.sent,rfl,by
   have:=P6 hw hp JC (c:=s.pc) (v:=s.vars) (a:=[]) (by rw[hs];omega) (by rw[hs]) rV.vs kS rfl (by rw[hs];rfl) sO hw.nnow (fun m h=>ZDd h)
   rw[hs]at this;exact this⟩
 rw[if_neg h2]
 obtain⟨JJ,q,i,hq,hqi,hk2,hmn,hpe⟩:=Z9 hw.tr (hw.msg m Y1)
 have hms:=hw.net.ms m Y1
 unfold msB ptB at hms
 simp only[au,bc,bg]at hms
 obtain⟨m1,m2,m3,m4,m5,m6⟩:=hms
 obtain⟨j,hj⟩:∃j:Nat,x.a=j:=⟨x.a.toNat,by omega⟩
 have hql:=(KE.1 hqi).1
 have kU:vlB (m.body.getD 0 0)=true:=by rw[YA oM];exact m6 _ (am _)
 rw[hj,cj]
 refine⟨_,_,woN w.net k,w.sent,rfl,⟨hp,⟨s.pc+1,s.vars.set j (m.body.getD 0 0),by rw[hs];rfl,by rw[hs];omega,by rw[hs];simp,zX rV.vs kU,by rw[hs];rfl⟩,JC,?_,by simp[yO],by rw[hs];exact asg1 oM kU,fun h=>absurd (show (3:Int)=2 from h) kE,fun _=>⟨R4 h2,?_⟩,sO,hw.nnow,rfl,fun m h=>.inl (hw.msg m (ZDd h))⟩⟩
 ·unfold AA yO inB
  simp only[show ((3:Int)==1)=false from rfl,show ((3:Int)==2)=false from rfl,show ((3:Int)==3)=true from rfl,Bool.or_true,if_true,dn,if_false]
  have:(m.fr != (p:Int))=true:=by simp;omega
  rw[this]
  simp;omega
 ·unfold sendsB yO
  simp only
  rw[hq,cj,fe]
  refine⟨gA w.tr (q,i+1),ZDH hqi,?_⟩
  rw[hk2,hmn,hpe,hka.1];simp
theorem ZGv {w:Wd} (hw:WdV w) {p:Nat} (hp:p<w.sv.length) (hen:SD w p=true) (eX:(stW w p).2=0):∃s e n sn,(stW w p).1=ZCB w p s e n sn∧PutOk w p s e n sn:=by
 obtain⟨he,JC,h4,h3⟩:=DS hen
 have rV:=(jI hw.sv hp).1
 unfold stW at eX⊢
 obtain⟨s,hs⟩:∃s,w.sv.getD p dfSv=s:=⟨_,rfl⟩
 have hL:=fun {c v a} hc hv kU al af hap=>P6 hw hp JC (c:=c) (v:=v) (a:=a) hc hv kU al af hap hw.net hw.nnow (fun m h=>h)
 have hR:=fun {x} hx uI hb=>ZHz hw hp JC (x:=x) hx uI hb
 rw[hs]at rV he h4 h3 eX hL hR⊢
 unfold UH at he
 rw[ke]at he
 have uI:0≤s.pc∧s.pc<s.code.length:=by have:=rV.pc;have:=gu he.1;omega
 obtain⟨x,hx⟩:∃x,s.code.getD s.pc.toNat dN=x:=⟨_,rfl⟩
 have hox:QJ s=x.op:=by unfold QJ;rw[hx]
 have h8:x.op≠8:=by have:=gu he.2;rw[hx]at this;exact this
 have GE:iE s.vars.length s.code.length p w.sv.length x=true:=rV.ins x (by rw[←hx,YA oM];exact am _)
 rw[hox]at h4 h3
 rw[hx]at eX⊢
 have pI:0≤s.pc+1∧s.pc+1≤s.code.length:=by omega
 have noA:∀c:Int,0≤c∧c≤s.code.length→PutOk w p {s with pc:=c} dfEv54 w.net w.sent:=fun c hc=>hL (a:=[]) hc rfl rV.vs kS rfl rfl
 unfold iE inZ at GE
 unfold stI at eX⊢
 by_cases o1:x.op=1
 ·rw[if_pos o1]at eX⊢
  rw[if_pos (.inl o1)]at GE
  simp only[au,bc]at GE
  obtain⟨j,hj⟩:∃j:Nat,x.a=j:=⟨x.a.toNat,by omega⟩
  rw[hj,cj]
  exact⟨_,_,w.net,w.sent,rfl,hL pI kS (zX rV.vs GE.2) kS (asg1 oM GE.2) rfl⟩
 rw[if_neg o1]at eX⊢
 by_cases o2:x.op=2
 ·rw[if_pos o2]at eX⊢
  rw[if_pos (.inr o2)]at GE
  simp only[au,bc]at GE
  obtain⟨j,hj⟩:∃j:Nat,x.a=j:=⟨x.a.toNat,by omega⟩
  rw[hj,cj]at eX⊢
  by_cases hq:vlB (s.vars.getD j 0+x.b)=true
  ·rw[if_pos hq]
   exact⟨_,_,w.net,w.sent,rfl,hL pI kS (zX rV.vs hq) kS (asg1 oM hq) rfl⟩
  ·rw[if_neg hq]at eX;cases eX
 rw[if_neg o2]at eX⊢
 rw[if_neg oM]at GE
 by_cases o6:x.op=6
 ·rw[if_pos o6]at eX⊢
  rw[if_neg oM,if_neg oM,if_neg oM,if_pos o6]at GE
  simp only[au,bc]at GE
  obtain⟨j,hj⟩:∃j:Nat,x.b=j:=⟨x.b.toNat,by omega⟩
  have rG:j<s.vars.length:=by omega
  rw[hj,cj]at eX⊢
  by_cases h0:0<s.vars.getD j 0
  ·rw[if_pos h0]
   have hq:vlB (s.vars.getD j 0-1)=true:=by
    have:=rV.vs (s.vars.getD j 0) (by rw[YA rG];exact am rG)
    unfold vlB at this⊢
    simp only[bc]at this⊢
    omega
   exact⟨_,_,w.net,w.sent,rfl,hL (c:=x.a) oM kS (zX rV.vs hq) kS (asg1 rG hq) rfl⟩
  ·rw[if_neg h0]
   exact⟨_,_,w.net,w.sent,rfl,noA _ pI⟩
 rw[if_neg o6]at eX⊢
 by_cases o3:x.op=3
 ·rw[if_pos o3]at eX⊢
  rw[if_pos o3]at GE
  simp only[au,bc]at GE
  obtain⟨j,hj⟩:∃j:Nat,x.a=j:=⟨x.a.toNat,by omega⟩
  obtain⟨m,hm⟩:∃m,DH w p s x=m:=⟨_,rfl⟩
  have hmd:m=⟨p,x.b,w.sent,[s.vars.getD j 0]⟩:=by rw[←hm];unfold DH;rw[hj,cj]
  rw[hm]at eX⊢
  have hp8:=(aN hw.sv).2
  have hs0:0≤w.sent:=by have:=hw.cnt;omega
  have LH:=h3 o3
  have hms:msB m=true:=by
   have:=rV.vs (s.vars.getD j 0) (by rw[YA oM];exact am _)
   rw[hmd]
   unfold msB ptB
   simp only[List.all_cons,List.all_nil,this,Bool.and_true,dp,au,bc]
   refine⟨by omega,by omega,by omega,by omega,by omega⟩
  by_cases hz:sdE w.net m=0
  ·rw[if_pos hz]
   have hN:sdR w.net m=ZU w.net m (MG w.net m) (XU w.net).toNat:=by unfold sdR;rw[if_pos hz]
   have hvN:NwV (sdR w.net m):=by
    rw[hN]
    unfold sdE at hz
    split at hz
    ·cases hz
    rename_i z1
    split at hz
    ·cases hz
    rename_i z2
    have h0:=(EQ hw.net).1
    have ht:=UO hw.net (m:=m) w.net.l.length (ai _)
    have hn0:=hw.net.now
    refine hw.net.ins hms ⟨?_,?_⟩ ?_
    ·unfold MG;omega
    ·omega
    ·unfold XU at z2⊢;omega
   refine⟨_,_,sdR w.net m,w.sent+1,rfl,⟨hp,⟨s.pc+1,s.vars,by rw[hs],by rw[hs];exact pI,by rw[hs],rV.vs,by rw[hs];rfl⟩,JC,?_,by simp,rfl,fun _=>rfl,fun h=>absurd (show (2:Int)=3 from h) kE,hvN,?_,rfl,fun y hy=>?_⟩⟩
   ·have hl:=hw.len
    unfold AA inB
    simp only[show ((2:Int)==1)=false from rfl,show ((2:Int)==2)=true from rfl,jx,if_true,dn,if_false]
    have:(x.b != (p:Int))=true:=by simp;omega
    rw[this]
    simp;omega
   ·rw[hN];exact hw.nnow
   ·rw[hN]at hy
    rcases ins_mem hy with hy|hy
    ·exact .inl (hw.msg y hy)
    ·rw[hy,hmd];exact .inr ⟨rfl,rfl,rfl,rfl,rfl⟩
  ·rw[if_neg hz]at eX;exact absurd eX hz
 rw[if_neg o3]at eX⊢
 rw[if_neg o3]at GE
 by_cases o45:x.op=4∨x.op=5
 ·rw[if_pos o45]at eX⊢
  have hxa:0≤x.a∧x.a<s.vars.length:=by
   rcases o45 with o|o<;>simp[o]at GE<;>omega
  refine hR hxa uI (fun hf=>?_)
  rcases o45 with o|o
  ·have:=F7 (h4 o);omega
  ·simp[o]at GE;omega
 rw[if_neg o45]
 exact⟨_,_,w.net,w.sent,rfl,noA _ pI⟩
theorem IN {w:Wd} (hw:WdV w) {p:Nat} (hp:p<w.sv.length) (hen:SD w p=true) (eX:(stW w p).2=0):WdV (stW w p).1:=by
 obtain⟨s,e,n,sn,h1,h2⟩:=ZGv hw hp hen eX
 rw[h1];exact h2.valid hw
def tkW (w:Wd) (by_:Int):Wd:={w with now:=w.now+by_,net:={w.net with now:=w.now+by_}}
theorem ZDQ {s:Sv} (hr:NI s=true) {a b:Int} (ha:0≤a) (hab:a≤b) (hb:b≤1000000000):nH s a≤nH s b:=by
 rw[(y7 hr ⟨ha,by omega⟩).1,(y7 hr ⟨by omega,hb⟩).1]
 have h1:a*s.rate≤b*s.rate:=Int.mul_le_mul_of_nonneg_right hab (by unfold NI inZ at hr;simp only[au,bc]at hr;omega)
 have:=Int.ediv_le_ediv (c:=1000) oM h1
 omega
theorem ZCP {w:Wd} (hw:WdV w) {k:Int} (hk:0≤k∧w.now+k≤1000000000):WdV (tkW w k):=by
 have hn:=hw.now
 refine⟨hw.sv,⟨by show 0≤w.now+k;omega,hk.2⟩,hw.net.at oM,rfl,hw.tr,hw.len,fun p hp=>?_,hw.snt,hw.cnt,hw.msg⟩
 have hf:=hw.fit p hp
 change QI (w.tr.getD p dfPr) (w.sv.getD p dfSv) (w.now+k)=true
 have hs:=(jI hw.sv (p:=p) (by rw[←hw.len];exact hp)).1
 have hc:=ZDQ hs.rt hn.1 (show w.now≤w.now+k by omega) hk.2
 unfold QI MT at hf⊢
 simp only[au,bc]at hf⊢
 obtain⟨f1,f2,f3,f4,f5⟩:=hf
 refine⟨f1,f2,f3,f4,?_⟩
 rcases f5 with f5|f5
 ·exact .inl f5
 ·exact .inr oM
theorem ZGu {l:List Sv} (h:bF l=true):SvsS l:=by
 have hn:=aN h
 refine⟨by omega,fun s hs=>?_⟩
 obtain⟨p,hp,rfl⟩:=cn hs
 have hv:=(jI h hp).1
 rw[YA hp]at hv
 have h1:=mR hv.name
 have h2:=hv.cl
 have h3:=hv.vl
 exact⟨by omega,by omega,by omega⟩
theorem WdV.small {w:Wd} (h:WdV w):Small w.tr:=h.tr.small
theorem WdV.nm {w:Wd} (h:WdV w):Nm w.tr:=h.tr.nm
theorem WdV.svS {w:Wd} (h:WdV w):SvsS w.sv:=ZGu h.sv
theorem WdV.evl {w:Wd} (h:WdV w) {p:Nat} (hp:p<w.tr.length):(w.tr.getD p dfPr).evs.length≤64:=by
 rw[YA hp];exact LJ hp (h.tr.head p hp)
theorem WdV.sent {w:Wd} (h:WdV w):0≤w.sent∧w.sent≤512:=by
 have hc:=h.cnt
 have:=wX (t:=w.tr) (fun x hx=>by
  obtain⟨p,hp,rfl⟩:=cn hx
  exact LJ hp (h.tr.head p hp)) w.tr.length (ai _)
 have:=h.tr.hi
 omega
theorem ZDc {n:Nw} {to:Int} {j:Nat}:∀{i:Nat},j<i→arB n to j=true→0<wtN n to i
 |0,h,_=>by omega
 |i+1,h,ha=>by
   simp only[wtN]
   by_cases hj:j<i
   ·have:=ZDc hj ha
    split<;>omega
   ·obtain rfl:j=i:=by omega
    rw[if_pos ha];omega
theorem ZGP {w:Wd} (hw:WdV w) {p:Nat} (hp:p<w.sv.length) (he:SD w p=true):∃k:Nat,(w.sv.getD p dfSv).pc=k∧k<(w.sv.getD p dfSv).code.length∧(w.sv.getD p dfSv).code.getD (w.sv.getD p dfSv).pc.toNat dN=(w.sv.getD p dfSv).code.getD k dN∧QJ (w.sv.getD p dfSv)≠8∧iE (w.sv.getD p dfSv).vars.length (w.sv.getD p dfSv).code.length p w.sv.length ((w.sv.getD p dfSv).code.getD k dN)=true:=by
 have hs:=(jI hw.sv hp).1
 obtain⟨h1,_⟩:=DS he
 unfold UH at h1
 rw[ke]at h1
 have h2:=gu h1.1
 have uI:=hs.pc
 obtain⟨k,hk⟩:∃k:Nat,(w.sv.getD p dfSv).pc=k:=⟨(w.sv.getD p dfSv).pc.toNat,by omega⟩
 have GN:k<(w.sv.getD p dfSv).code.length:=by omega
 refine⟨k,hk,GN,by rw[hk,cj],fun h=>gu h1.2 h,?_⟩
 rw[YA GN]
 exact hs.ins _ (am GN)
end Go.Proofs.YtmaokjojbjdpoaaGreatDoor
