/- Texts of one proof, laid together: BE, BF, BG, BH, BJ, BK, BM, BN, BU, BX, BY, BR, NP, BS, NL, NU, NR, BT, X1, X2, OE, BV, X3, X6, OF, OG, BO, BP. No condition. -/
import Derived.Test.YtmaokjojbjdpoaaGreatDoorWR6
set_option linter.unusedSimpArgs false
set_option maxHeartbeats 16000000
set_option maxRecDepth 20000
namespace Go.Proofs.YtmaokjojbjdpoaaGreatDoor
set_option maxHeartbeats 16000000
set_option maxRecDepth 100000
set_option linter.unusedVariables false
set_option linter.unusedSimpArgs false
attribute [local go_sem ↓] xC UB iC rC wD fB uC gD dC mD LA lB wC MA mB kC QB GB lC KB FA sC eB bB vB aB yB JC nB xD tC uD iD eE pD bE aE TB ZC
attribute [local go_sem] zB EA YE wB ZB fE tD sD rD KL zL nD nC pC mC YD lA UC AA VC CA qB aop AE QE TD LC MD GC LD AJ XG GF amm zF aC MB sF SD IF comma ZD QG EJ ZG AF wJ dF uF vE yJ eqC eqF aG cellsOf rB bC RB iF NI rd rdI IE mk fD AV.cell List.all_cons List.all_nil Bool.and_true Bool.true_and Bool.and_self List.length_cons List.length_nil List.length_append Nat.reduceAdd Nat.reduceSub Nat.reduceMul Nat.zero_add Nat.add_zero List.cons_append List.nil_append List.append_assoc List.append_nil List.getElem?_cons_zero List.getElem?_cons_succ List.getElem?_nil List.set_cons_zero List.set_cons_succ List.drop_zero List.drop_succ_cons List.take_zero List.take_succ_cons List.take_nil List.drop_nil List.map_cons List.map_nil Option.map_some if_true if_false Bool.false_eq_true and_self true_and and_true Nat.reduceLeDiff Nat.reduceLT Nat.le_refl Nat.reduceEqDiff ite_true ite_false beq_self_eq_true beq_true beq_false Bool.not_true Bool.not_false Bool.true_beq Bool.false_beq lE SB iB jD kD yC vC jC qC yD vD mE pA YL sK JL XL rG iG sG dG geI gtI tG decide_true decide_false room List.getElem?_map List.length_map List.length_take Int.toNat_natCast Nat.min_def Nat.min_self dD XD ED pB GD lF zA List.getElem_cons_zero List.getElem_cons_succ
def a_r54Valid:AFunc:=({c:=_}:CF Tryz.prog 13).c
theorem pU:qA Tryz.prog 13=some a_r54Valid:=by kernel_rfl
def uQ:List (Nat×Nat):=[(2,6),(50,97)]
def QM:List (Nat×Nat):=[(2,3),(6,6),(73,97)]
def xQ:List (Nat×Nat):=[(2,2),(7,9),(98,142)]
def a_rAt54:AFunc:=({c:=_}:CF Tryz.prog 57).c
theorem A7:qA Tryz.prog 57=some a_rAt54:=by kernel_rfl

theorem V6 (t:Tr) (hS:Small t) (p i:Nat) (hp:p<t.length) (hi:i<t[p].evs.length) (b l:List Row) :
  QA Tryz.prog 57 [.agg [.v (.isl 3 (t.map ePr))],.agg [.v (.int .i64 p),.v (.int .i64 ((i+1:Nat):Int))]] b l (fun r b' l'=>r=.agg (zEA t[p].evs[i])∧b'=b∧l'=l):=by
 refine XA A7 rfl kE ?_
 intro B g hB hR hE hA;simp only[zA]at hA
 have qG:=hS.ne _ (ak hp)
 have H8:=hS.np
 have zJ:=lI hp
 have yH:=zH hi
 have gV:((i+1:Nat):Int)-1=(i:Int):=by omega
 simp (disch:=first|decide|omega) only[a_rAt54,hA,zJ,yH,gV,aa,go_sem]
 exact ZA (xs:=[.agg (zEA t[p].evs[i])])
theorem ZBK {w:Wd} (t5:ID w.tr=true):(∀x∈w.tr,x.evs.length≤64):=fun x hx=>by
 obtain⟨p,hp,rfl⟩:=cu hx
 have hh:=(vok t5).head p hp
 unfold CC at hh
 rw[YB dfPr w.tr hp]at hh
 split at hh
 ·cases hh
 split at hh
 ·cases hh
 split at hh
 ·rename_i hc;exact absurd hh hc
 split at hh
 ·cases hh
 ·omega
theorem ZEx {l:List Sv} (t1:FF l=true):∀p (h:p<l.length),l[p].vars.length≤8:=fun p hp=>by
 unfold FF at t1
 rw[ar,bn]at t1
 have:=t1.2 p (ba.2 hp)
 unfold svB sv1 at this
 rw[YA hp]at this
 simp only[ar,bf]at this
 exact this.1.2.2.1
theorem uL {t:Tr} (h:ID t=true) (kd m:Int):QC t kd m=DB t kd m:=by unfold QC;rw[if_pos h]
theorem gU (w:Wd) (hS0:Sm w.tr) (hN:Nm w.tr) (tL:SvsS w.sv) (N0:NwS w.net) (b l:List Row):QA Tryz.prog 13 [.agg ((eWd w).map .v)] b l (fun r b' l'=>r=.v (.bool (wdB w))∧b'=b∧l'=l):=by
 refine XA pU rfl kE ?_
 intro B g hB hR hE hA;simp only[zA]at hA
 have cV:=fun b l=>EW w.net b l
 have cT:=fun b l=>LW w.tr hS0 hN b l
 simp only[eNw,eT,bj,cd]at cV cT
 have HU:=hS0.np
 have aU:=tL.len
 simp (disch:=first|decide|omega) only[a_r54Valid,hA,eWd,cellsOf,go_sem]
 refine QA.nxt (uU w.sv tL _ _) ?_
 cases t1:FF w.sv
 ·simp (disch:=first|decide|omega) only[hA,go_sem]
  exact ZA (xs:=[.v (.bool false)]) ⟨by unfold wdB;rw[t1];rfl,rfl,rfl⟩
 simp (disch:=first|decide|omega) only[hA,go_sem]
 refine QA.nxt (LB _ _ _ _ _) ?_
 cases t2:inZ w.now 0 1000000000
 ·simp (disch:=first|decide|omega) only[hA,go_sem]
  exact ZA (xs:=[.v (.bool false)]) ⟨by unfold wdB;rw[t1,t2];rfl,rfl,rfl⟩
 simp (disch:=first|decide|omega) only[hA,go_sem]
 refine QA.nxt (cV _ _) ?_
 cases t3:nwB w.net
 ·simp (disch:=first|decide|omega) only[hA,go_sem]
  exact ZA (xs:=[.v (.bool false)]) ⟨by unfold wdB;rw[t1,t2,t3];rfl,rfl,rfl⟩
 by_cases t4:w.net.now=w.now
 case neg =>
  have d4:(w.net.now != w.now)=true:=by simpa using t4
  simp (disch:=first|decide|omega) only[hA,d4,go_sem]
  exact ZA (xs:=[.v (.bool false)]) ⟨by unfold wdB;rw[t1,t2,t3,ag t4];rfl,rfl,rfl⟩
 have d4:(w.net.now != w.now)=false:=by simpa using t4
 simp (disch:=first|decide|omega) only[hA,d4,go_sem]
 refine QA.nxt (cT _ _) ?_
 cases t5:ID w.tr
 ·simp (disch:=first|decide|omega) only[hA,go_sem]
  exact ZA (xs:=[.v (.bool false)]) ⟨by unfold wdB;rw[t1,t2,t3,ae t4,t5];rfl,rfl,rfl⟩
 by_cases t6:w.tr.length=w.sv.length
 case neg =>
  have d6:((w.tr.length:Int) != (w.sv.length:Int))=true:=by simp;omega
  simp (disch:=first|decide|omega) only[hA,d6,aa,go_sem]
  exact ZA (xs:=[.v (.bool false)]) ⟨by unfold wdB;rw[t1,t2,t3,ae t4,t5,ag t6];rfl,rfl,rfl⟩
 have d6:((w.tr.length:Int) != (w.sv.length:Int))=false:=by simp;omega
 have hvk:=vok t5
 have hS:=hvk.small
 have h64:=ZBK t5
 have h8:=ZEx t1
 have WM:=sY h64
 have ZLw:=hvk.hi
 have nL:(eWd w).map AV.v=(zWA w):=rfl
 simp (disch:=first|decide|omega) only[hA,d6,aa,go_sem]
 refine JA (ι:=Nat) uQ (fun p=>[(3,.v (.int .i64 (cSd w.tr p))),(4,.v (.int .i64 p))]) 1 (fun _=>[.live 0 9 [(eWd w).map .v]])
  (fun p=>p≤w.tr.length∧∀j,j<p→prB w j=true) (fun p=>w.tr.length-p) 0 ⟨aj _,fun j hj=>by omega⟩ kM kA kF ?_
 rintro g1 qF TE sA p ⟨hp,h0⟩
 rw[nL]
 by_cases yA:p<w.tr.length
 case neg =>
  obtain rfl:p=w.tr.length:=by omega
  have dps:decide ((w.tr.length:Int)<(w.sv.length:Int))=false:=ag oM
  have xF:(List.range w.tr.length).all (prB w)=true:=bn.2 fun j hj=>h0 j (ba.1 hj)
  have hr:wdB w=(decide ((cSd w.tr w.tr.length:Int)=w.sent)&&w.net.l.all (mgB w.tr)):=by
   unfold wdB;rw[t1,t2,t3,ae t4,t5,ae t6,xF];rfl
  rw[hr]
  have NY:=N0.l
  simp (disch:=first|decide|omega) only[hA,sA,dps,aa,go_sem]
  refine JA (ι:=Nat) xQ (fun i=>[(7,.v (.int .i64 i))]) 1 (fun _=>[.live 0 9 [(eWd w).map .v]])
   (fun i=>i≤w.net.l.length∧∀j,j<i→mgB w.tr (w.net.l.getD j dfMs)=true) (fun i=>w.net.l.length-i) 0 ⟨aj _,fun j hj=>by omega⟩ kM kA kF ?_
  rintro g4 hE4 ZK1 jR i ⟨hi,h02⟩
  rw[nL]
  by_cases hli:i<w.net.l.length
  case neg =>
   obtain rfl:i=w.net.l.length:=by omega
   have hal:w.net.l.all (mgB w.tr)=true:=by
    rw[bn]
    intro m hm
    obtain⟨j,hj,rfl⟩:=cu hm
    rw[←YA (d:=dfMs) hj];exact h02 j hj
   have d7:((cSd w.tr w.tr.length:Int)==w.sent)=decide ((cSd w.tr w.tr.length:Int)=w.sent):=by
    by_cases h:(cSd w.tr w.tr.length:Int)=w.sent<;>simp[h]
   simp (disch:=first|decide|omega) only[hA,sA,jR,d7,aa,go_sem]
   exact DA (xs:=[.v (.bool (decide ((cSd w.tr w.tr.length:Int)=w.sent)))]) (.inr rfl) (by simp (disch:=first|decide|omega) only[resVs,resV,go_sem,hA,sA,jR]) kO hR hB ⟨by rw[hal,Bool.and_true];rfl,rfl,rfl⟩
  obtain⟨m,hm⟩:∃m,w.net.l[i]=m:=⟨_,rfl⟩
  have hgm:=eG hli
  have fJ:w.net.l.getD i dfMs=m:=by rw[YA hli,hm]
  rw[hm]at hgm
  have hml:m∈w.net.l:=by rw[←hm];exact ak hli
  have hmb:=N0.body m hml
  have cF:=fun b l=>lS w.tr hS hN 2 m.nu b l
  rw[←uL t5]at cF
  simp only[eT,idA]at cF
  have bad:mgB w.tr m=false→AV.v (.bool (decide ((cSd w.tr w.tr.length:Int)=w.sent)&&w.net.l.all (mgB w.tr)))=.v (.bool false):=fun h=>by
   rw[ew.2 ⟨m,hml,by rw[h];simp⟩,Bool.and_false]
  simp (disch:=first|decide|omega) only[hA,sA,jR,hgm,aa,go_sem]
  refine QA.nxt (cF _ _) ?_
  by_cases u1:m.body.length=1
  case neg =>
   have d1:((m.body.length:Int) != 1)=true:=by simp;omega
   simp (disch:=first|decide|omega) only[hA,sA,jR,d1,aa,go_sem]
   exact DA (xs:=[.v (.bool false)]) (.inr rfl) (by simp (disch:=first|decide|omega) only[resVs,resV,go_sem,hA,sA,jR]) kO hR hB ⟨by rw[bad (by simp[mgB,u1])];rfl,rfl,rfl⟩
  have d1:((m.body.length:Int) != 1)=false:=by simp;omega
  by_cases u2:0<(QC w.tr 2 m.nu).2
  case neg =>
   have d2:(((QC w.tr 2 m.nu).2:Int)==0)=true:=by
    have:(QC w.tr 2 m.nu).2=0:=by omega
    rw[this];rfl
   simp (disch:=first|decide|omega) only[hA,sA,jR,d1,d2,aa,go_sem]
   exact DA (xs:=[.v (.bool false)]) (.inr rfl) (by simp (disch:=first|decide|omega) only[resVs,resV,go_sem,hA,sA,jR]) kO hR hB ⟨by rw[bad (by simp[mgB,u2])];rfl,rfl,rfl⟩
  obtain⟨fp,fi,hpi,hfp,D8⟩:=mO u2
  have qP:=KG hfp D8
  have MY:mgB w.tr m=(decide ((fp:Int)=m.fr)&&decide (w.tr[fp].evs[fi].peer=m.to)):=by unfold mgB;rw[ae u1,ae u2,hpi,qP];rfl
  have d2:(((fi+1:Nat):Int)==0)=false:=dr.2 oM
  rw[hpi]
  by_cases u3:(fp:Int)=m.fr
  case neg =>
   have d3:((fp:Int) != m.fr)=true:=by simpa using u3
   simp (disch:=first|decide|omega) only[hA,sA,jR,d1,d2,d3,aa,go_sem]
   exact DA (xs:=[.v (.bool false)]) (.inr rfl) (by simp (disch:=first|decide|omega) only[resVs,resV,go_sem,hA,sA,jR]) kO hR hB ⟨by rw[bad (by rw[MY,ag u3];rfl)];rfl,rfl,rfl⟩
  have d3:((fp:Int) != m.fr)=false:=by simpa using u3
  have cA:=fun b l=>V6 w.tr hS fp fi hfp D8 b l
  simp (disch:=first|decide|omega) only[hA,sA,jR,d1,d2,d3,aa,go_sem]
  refine QA.nxt (cA _ _) ?_
  by_cases u4:w.tr[fp].evs[fi].peer=m.to
  ·have d5:(w.tr[fp].evs[fi].peer != m.to)=false:=by simpa using u4
   simp (disch:=first|decide|omega) only[hA,sA,jR,d5,aa,go_sem]
   refine⟨i+1,⟨hli,fun j hj=>?_⟩,by simp only;omega,?_⟩
   ·rcases bp j i with YG|YG
    ·exact h02 j YG
    ·obtain rfl:j=i:=by omega
     rw[fJ,MY,ae u3,ae u4];rfl
   ·simp only[nL]
    exact VA.kround (p:=xQ) (k:=1) kQ (by ((try simp (disch:=decide) only[hA,sA,jR,go_sem])<;>exact kH)) rfl hE4 kS kV hR kL
  ·have d5:(w.tr[fp].evs[fi].peer != m.to)=true:=by simpa using u4
   simp (disch:=first|decide|omega) only[hA,sA,jR,d5,aa,go_sem]
   exact DA (xs:=[.v (.bool false)]) (.inr rfl) (by simp (disch:=first|decide|omega) only[resVs,resV,go_sem,hA,sA,jR]) kO hR hB ⟨by rw[bad (by rw[MY,ag u4];simp)];rfl,rfl,rfl⟩
 have hps:p<w.sv.length:=by omega
 obtain⟨x,hx⟩:∃x,w.tr[p]=x:=⟨_,rfl⟩
 obtain⟨s,hs⟩:∃s,w.sv[p]=s:=⟨_,rfl⟩
 have zJ:=lI yA
 have sL:=fG hps
 rw[hx]at zJ
 rw[hs]at sL
 have hxe:nA w.tr p=x.evs:=by rw[ME yA,hx]
 have ZNP:=h64 x (by rw[←hx];exact ak yA)
 have R8:PrS x:=hx▸Y9 hS yA
 have hxo:OkA x:=hx▸U9 hvk yA
 have h8s:s.vars.length≤8:=hs▸h8 p hps
 have hpr:prB w p=(dI x s w.now&&(List.range x.evs.length).all (sOk x.evs w.sent)):=by unfold prB;rw[YA yA,YA hps,hxe,hx,hs]
 have bad:prB w p=false→AV.v (.bool (wdB w))=.v (.bool false):=fun h=>by rw[ZEt yA h]
 have hcp:=WM p hp
 have dps:decide ((p:Int)<(w.sv.length:Int))=true:=ae oM
 simp (disch:=first|decide|omega) only[hA,sA,zJ,sL,dps,aa,go_sem]
 refine QA.nxt (OW x R8 hxo s h8s w.now _ _) ?_
 cases t7:dI x s w.now
 ·simp (disch:=first|decide|omega) only[hA,sA,go_sem]
  exact ZA (xs:=[.v (.bool false)]) ⟨by rw[bad (by rw[hpr,t7];rfl)];rfl,rfl,rfl⟩
 simp (disch:=first|decide|omega) only[hA,sA,aa,go_sem]
 refine JA (ι:=Nat) QM (fun i=>[(3,.v (.int .i64 ((cSd w.tr p+nSd x.evs i:Nat):Int))),(6,.v (.int .i64 i))]) 2 (fun _=>[.live 0 9 [(eWd w).map .v],rK x])
  (fun i=>i≤x.evs.length∧∀j,j<i→sOk x.evs w.sent j=true) (fun i=>x.evs.length-i) 0 ⟨aj _,fun j hj=>by omega⟩ kM kA kF ?_
 rintro g2 RJ QO DD i ⟨hi,h02⟩
 rw[nL]
 unfold rK
 by_cases hli:i<x.evs.length
 ·have yH:=zH hli
  have fJ:x.evs.getD i PI=x.evs[i]:=YA hli
  have hns:=iY x.evs i
  have hcn:((cSd w.tr p+nSd x.evs i:Nat):Int)+1=((cSd w.tr p+(nSd x.evs i+1):Nat):Int):=by omega
  by_cases hk:x.evs[i].kind=2
  ·have dk:(x.evs[i].kind==2)=true:=by rw[hk];rfl
   have hn1:nSd x.evs (i+1)=nSd x.evs i+1:=by simp only[nSd];rw[fJ,if_pos hk]
   by_cases hm:x.evs[i].msg<w.sent
   ·have dm:decide (x.evs[i].msg≥w.sent)=false:=ag oM
    have dm':decide (w.sent≤x.evs[i].msg)=false:=dm
    simp (disch:=first|decide|omega) only[hA,sA,DD,yH,dk,dm,dm',hcn,aa,go_sem]
    refine⟨i+1,⟨hli,fun j hj=>?_⟩,by simp only;omega,?_⟩
    ·rcases bp j i with YG|YG
     ·exact h02 j YG
     ·obtain rfl:j=i:=by omega
      unfold sOk;rw[fJ,ae hm];simp
    ·simp only[hn1,nL]
     exact VA.kround (p:=QM) (k:=2) kQ kA rfl RJ kS kV hR kL
   ·have dm:decide (x.evs[i].msg≥w.sent)=true:=ae oM
    have dm':decide (w.sent≤x.evs[i].msg)=true:=dm
    simp (disch:=first|decide|omega) only[hA,sA,DD,yH,dk,dm,dm',hcn,aa,go_sem]
    exact ZA (xs:=[.v (.bool false)]) ⟨by rw[bad (by rw[hpr,show (List.range x.evs.length).all (sOk x.evs w.sent)=false from ew.2 ⟨i,ba.2 hli,by unfold sOk;rw[fJ,hk,ag hm];simp⟩,Bool.and_false])];rfl,rfl,rfl⟩
  ·have dk:(x.evs[i].kind==2)=false:=by simpa using hk
   have hn1:nSd x.evs (i+1)=nSd x.evs i:=by simp only[nSd];rw[fJ,if_neg hk]
   simp (disch:=first|decide|omega) only[hA,sA,DD,yH,dk,aa,go_sem]
   refine⟨i+1,⟨hli,fun j hj=>?_⟩,by simp only;omega,?_⟩
   ·rcases bp j i with YG|YG
    ·exact h02 j YG
    ·obtain rfl:j=i:=by omega
     unfold sOk;rw[fJ,dk];rfl
   ·simp only[hn1,nL]
    exact VA.kround (p:=QM) (k:=2) kQ kA rfl RJ kS kV hR kL
 ·obtain rfl:i=x.evs.length:=by omega
  have YJ:prB w p=true:=by rw[hpr,t7,bn.2 fun j hj=>h02 j (ba.1 hj)];rfl
  have TY:cSd w.tr (p+1)=cSd w.tr p+nSd x.evs x.evs.length:=by simp only[cSd];rw[hxe]
  simp (disch:=first|decide|omega) only[hA,sA,DD,aa,go_sem]
  refine⟨p+1,⟨yA,fun j hj=>?_⟩,by simp only;omega,?_⟩
  ·rcases bp j p with YG|YG
   ·exact h0 j YG
   ·obtain rfl:j=p:=by omega
    exact YJ
  ·simp only[nL,TY]
   exact VA.kround (p:=uQ) (k:=1) kQ kA rfl qF kS kV hR kL
def a_wended:AFunc:=({c:=_}:CF Tryz.prog 71).c
theorem eZ:qA Tryz.prog 71=some a_wended:=by kernel_rfl
def a_r54ended:AFunc:=({c:=_}:CF Tryz.prog 60).c
theorem nU:qA Tryz.prog 60=some a_r54ended:=by kernel_rfl
def a_wenab:AFunc:=({c:=_}:CF Tryz.prog 62).c
theorem H7:qA Tryz.prog 62=some a_wenab:=by kernel_rfl
def a_r54enab:AFunc:=({c:=_}:CF Tryz.prog 19).c
theorem uX:qA Tryz.prog 19=some a_r54enab:=by kernel_rfl
def a_wEnded1:AFunc:=({c:=_}:CF Tryz.prog 70).c
theorem yX:qA Tryz.prog 70=some a_wEnded1:=by kernel_rfl
def a_wEnded:AFunc:=({c:=_}:CF Tryz.prog 23).c
theorem DZ:qA Tryz.prog 23=some a_wEnded:=by kernel_rfl

def zI (s:Sv):Bool:=decide (s.pc=s.code.length)||decide ((s.code.getD s.pc.toNat fN).op=8)
def D9 (s:Sv):Prop:=0≤s.pc∧s.pc≤s.code.length
theorem IX {l:List Sv} (t1:FF l=true) {p:Nat} (hp:p<l.length):D9 l[p]:=by
 unfold FF at t1
 rw[ar,bn]at t1
 have:=t1.2 p (ba.2 hp)
 unfold svB sv1 at this
 rw[YA hp]at this
 simp only[ar,bf]at this
 have h:=this.1.2.2.2.1
 unfold inZ at h
 simp only[ar,bf]at h
 exact h
theorem XQ (s:Sv) (hS:SvS s) (qI:D9 s) (b l:List Row):QA Tryz.prog 71 [.agg ((eSv s).map .v)] b l (fun r b' l'=>r=.v (.bool (zI s))∧b'=b∧l'=l):=by
 refine XA eZ rfl kE ?_
 intro B g hB hR hE hA;simp only[zA]at hA
 obtain⟨k,hk⟩:∃k:Nat,s.pc=k:=⟨s.pc.toNat,by have:=qI.1;omega⟩
 have OK:k≤s.code.length:=by have:=qI.2;omega
 have WM:=hS.code
 by_cases yA:k<s.code.length
 ·have QI:=fI yA
  have d1:((k:Int)==(s.code.length:Int))=false:=by simp;omega
  have hr:zI s=(s.code[k].op==8):=by
   unfold zI
   rw[hk,ca,YA yA,ag oM]
   rw[gq];rfl
  simp (disch:=first|decide|omega) only[a_wended,hA,eSv,hk,QI,d1,aa,go_sem]
  exact ZA (xs:=[.v (.bool (s.code[k].op==8))]) ⟨by rw[hr];rfl,rfl,rfl⟩
 ·obtain rfl:k=s.code.length:=by omega
  have d1:((s.code.length:Int)==(s.code.length:Int))=true:=by simp
  have hr:zI s=true:=by
   unfold zI
   rw[hk,ae rfl];rfl
  simp (disch:=first|decide|omega) only[a_wended,hA,eSv,hk,d1,aa,go_sem]
  exact ZA (xs:=[.v (.bool true)]) ⟨by rw[hr];rfl,rfl,rfl⟩
theorem wU (s:Sv) (hS:SvS s) (qI:D9 s) (b l:List Row):QA Tryz.prog 60 [.agg ((eSv s).map .v)] b l (fun r b' l'=>r=.v (.bool (zI s))∧b'=b∧l'=l):=by
 refine XA nU rfl kE ?_
 intro B g hB hR hE hA;simp only[zA]at hA
 obtain⟨k,hk⟩:∃k:Nat,s.pc=k:=⟨s.pc.toNat,by have:=qI.1;omega⟩
 have OK:k≤s.code.length:=by have:=qI.2;omega
 have WM:=hS.code
 by_cases yA:k<s.code.length
 ·have QI:=fI yA
  have d1:decide ((k:Int)≥(s.code.length:Int))=false:=ag oM
  have d1':decide ((s.code.length:Int)≤(k:Int))=false:=d1
  have hr:zI s=(s.code[k].op==8):=by
   unfold zI
   rw[hk,ca,YA yA,ag oM]
   rw[gq];rfl
  simp (disch:=first|decide|omega) only[a_r54ended,hA,eSv,hk,QI,d1,d1',aa,go_sem]
  exact ZA (xs:=[.v (.bool (s.code[k].op==8))]) ⟨by rw[hr];rfl,rfl,rfl⟩
 ·obtain rfl:k=s.code.length:=by omega
  have d1:decide ((s.code.length:Int)≥(s.code.length:Int))=true:=ae oM
  have d1':decide ((s.code.length:Int)≤(s.code.length:Int))=true:=d1
  have hr:zI s=true:=by
   unfold zI
   rw[hk,ae rfl];rfl
  simp (disch:=first|decide|omega) only[a_r54ended,hA,eSv,hk,d1,d1',aa,go_sem]
  exact ZA (xs:=[.v (.bool true)]) ⟨by rw[hr];rfl,rfl,rfl⟩
def LO (s:Sv):Int:=(s.code.getD s.pc.toNat fN).op
def rF (w:Wd) (p:Nat):Bool:=!(zI (w.sv.getD p dfSv)||decide (64≤(nA w.tr p).length))&&(if LO (w.sv.getD p dfSv)=4 then decide (0<fH w.net p) else if LO (w.sv.getD p dfSv)=3 then decide (w.sent≤199) else true)
theorem jS (w:Wd) (tL:SvsS w.sv) (hS:Small w.tr) (h1:FF w.sv=true) (IB:w.tr.length=w.sv.length) (p:Nat) (hp:p<w.sv.length) (b l:List Row):QA Tryz.prog 62 [.agg ((eWd w).map .v),.v (.int .i64 p)] b l (fun r b' l'=>r=.v (.bool (rF w p))∧b'=b∧l'=l):=by
 refine XA H7 rfl kE ?_
 intro B g hB hR hE hA;simp only[zA]at hA
 obtain⟨s,hs⟩:∃s,w.sv[p]=s:=⟨_,rfl⟩
 have fJ:w.sv.getD p dfSv=s:=by rw[YA hp,hs]
 have I0:=tL.all s (by rw[←hs];exact ak hp)
 have qI:D9 s:=by rw[←hs];exact IX h1 hp
 have sL:=fG hp
 rw[hs]at sL
 have YJ:p<w.tr.length:=by omega
 obtain⟨x,hx⟩:∃x,w.tr[p]=x:=⟨_,rfl⟩
 have zJ:=lI YJ
 rw[hx]at zJ
 have hxe:nA w.tr p=x.evs:=by rw[ME YJ,hx]
 have aU:=tL.len
 have HU:=hS.np
 have hxn:=hS.ne x (by rw[←hx];exact ak YJ)
 have cE:=fun b l=>XQ s I0 qI b l
 have cW:=fun b l=>IS w.net p b l
 simp only[eSv,eNw,bj,cd]at cE cW
 have hr:rF w p=(!(zI s||decide (64≤x.evs.length))&&(if LO s=4 then decide (0<fH w.net p) else if LO s=3 then decide (w.sent≤199) else true)):=by unfold rF;rw[fJ,hxe]
 rw[hr]
 simp (disch:=first|decide|omega) only[a_wenab,hA,eWd,sL,aa,go_sem]
 refine QA.nxt (cE _ _) ?_
 cases t1:zI s
 case true =>
  simp (disch:=first|decide|omega) only[hA,go_sem]
  exact ZA (xs:=[.v (.bool false)])
 by_cases t2:64≤x.evs.length
 case pos =>
  have d2:decide ((x.evs.length:Int)≥64)=true:=ae oM
  have d2':decide ((64:Int)≤(x.evs.length:Int))=true:=d2
  simp (disch:=first|decide|omega) only[hA,zJ,d2,d2',aa,go_sem]
  exact ZA (xs:=[.v (.bool false)])
 have d2:decide ((x.evs.length:Int)≥64)=false:=ag oM
 have d2':decide ((64:Int)≤(x.evs.length:Int))=false:=d2
 rw[ag t2]
 obtain⟨k,hk⟩:∃k:Nat,s.pc=k:=⟨s.pc.toNat,by have:=qI.1;omega⟩
 have OK:k<s.code.length:=by
  have:=qI.2
  rcases bp k s.code.length with h|h
  ·exact h
  ·have:zI s=true:=by unfold zI;rw[ae oM];rfl
   rw[t1]at this;cases this
 have WM:=I0.code
 have QI:=fI OK
 have ho:LO s=s.code[k].op:=by unfold LO;rw[hk,ca,YA OK]
 rw[ho]
 by_cases t3:s.code[k].op=4
 ·have d3:(s.code[k].op==4)=true:=by simpa using t3
  simp (disch:=first|decide|omega) only[hA,zJ,hk,QI,d2,d2',d3,aa,go_sem]
  refine QA.nxt (cW _ _) ?_
  simp (disch:=first|decide|omega) only[hA,go_sem]
  exact rQ (xs:=[.v (.bool (decide ((0:Int)<((fH w.net p:Nat):Int))))]) kO hR hB ⟨by rw[if_pos t3];simp[one],rfl,rfl⟩
 have d3:(s.code[k].op==4)=false:=by simpa using t3
 by_cases t4:s.code[k].op=3
 ·have d4:(s.code[k].op==3)=true:=by simpa using t4
  simp (disch:=first|decide|omega) only[hA,zJ,hk,QI,d2,d2',d3,d4,aa,go_sem]
  exact ZA (xs:=[.v (.bool (decide (w.sent≤199)))]) ⟨by rw[if_neg t3,if_pos t4];rfl,rfl,rfl⟩
 have d4:(s.code[k].op==3)=false:=by simpa using t4
 simp (disch:=first|decide|omega) only[hA,zJ,hk,QI,d2,d2',d3,d4,aa,go_sem]
 exact ZA (xs:=[.v (.bool true)]) ⟨by rw[if_neg t3,if_neg t4];rfl,rfl,rfl⟩
theorem ZX (w:Wd) (tL:SvsS w.sv) (hS:Small w.tr) (h1:FF w.sv=true) (IB:w.tr.length=w.sv.length) (NY:w.net.l.length≤1000000) (hnw:nwB w.net=true) (p:Nat) (hp:p<w.sv.length) (hpo:ptB p=true) (b l:List Row):QA Tryz.prog 19 [.agg ((eWd w).map .v),.v (.int .i64 p)] b l (fun r b' l'=>r=.v (.bool (rF w p))∧b'=b∧l'=l):=by
 refine XA uX rfl kE ?_
 intro B g hB hR hE hA;simp only[zA]at hA
 obtain⟨s,hs⟩:∃s,w.sv[p]=s:=⟨_,rfl⟩
 have fJ:w.sv.getD p dfSv=s:=by rw[YA hp,hs]
 have I0:=tL.all s (by rw[←hs];exact ak hp)
 have qI:D9 s:=by rw[←hs];exact IX h1 hp
 have sL:=fG hp
 rw[hs]at sL
 have YJ:p<w.tr.length:=by omega
 obtain⟨x,hx⟩:∃x,w.tr[p]=x:=⟨_,rfl⟩
 have zJ:=lI YJ
 rw[hx]at zJ
 have hxe:nA w.tr p=x.evs:=by rw[ME YJ,hx]
 have aU:=tL.len
 have HU:=hS.np
 have hxn:=hS.ne x (by rw[←hx];exact ak YJ)
 have cE:=fun b l=>wU s I0 qI b l
 have cW:=fun b l=>vU w.net p NY (VG.1 hnw).len b l
 have hwn:wtN w.net p w.net.l.length=fH w.net p:=by unfold fH;rw[if_pos ⟨hnw,hpo⟩]
 rw[hwn]at cW
 simp only[eSv,bj,cd]at cE
 have hr:rF w p=(!(zI s||decide (64≤x.evs.length))&&(if LO s=4 then decide (0<fH w.net p) else if LO s=3 then decide (w.sent≤199) else true)):=by unfold rF;rw[fJ,hxe]
 rw[hr]
 simp (disch:=first|decide|omega) only[a_r54enab,hA,eWd,sL,aa,go_sem]
 refine QA.nxt (cE _ _) ?_
 cases t1:zI s
 case true =>
  simp (disch:=first|decide|omega) only[hA,go_sem]
  exact ZA (xs:=[.v (.bool false)])
 by_cases t2:64≤x.evs.length
 case pos =>
  have d2:decide ((x.evs.length:Int)≥64)=true:=ae oM
  have d2':decide ((64:Int)≤(x.evs.length:Int))=true:=d2
  simp (disch:=first|decide|omega) only[hA,zJ,d2,d2',aa,go_sem]
  exact ZA (xs:=[.v (.bool false)])
 have d2:decide ((x.evs.length:Int)≥64)=false:=ag oM
 have d2':decide ((64:Int)≤(x.evs.length:Int))=false:=d2
 rw[ag t2]
 obtain⟨k,hk⟩:∃k:Nat,s.pc=k:=⟨s.pc.toNat,by have:=qI.1;omega⟩
 have OK:k<s.code.length:=by
  have:=qI.2
  rcases bp k s.code.length with h|h
  ·exact h
  ·have:zI s=true:=by unfold zI;rw[ae oM];rfl
   rw[t1]at this;cases this
 have WM:=I0.code
 have QI:=fI OK
 have ho:LO s=s.code[k].op:=by unfold LO;rw[hk,ca,YA OK]
 rw[ho]
 by_cases t3:s.code[k].op=4
 ·have d3:(s.code[k].op==4)=true:=by simpa using t3
  simp (disch:=first|decide|omega) only[hA,zJ,hk,QI,d2,d2',d3,aa,go_sem]
  refine QA.nxt (cW _ _) ?_
  simp (disch:=first|decide|omega) only[hA,go_sem]
  exact rQ (xs:=[.v (.bool (decide ((0:Int)<((fH w.net p:Nat):Int))))]) kO hR hB ⟨by rw[if_pos t3];simp[one],rfl,rfl⟩
 have d3:(s.code[k].op==4)=false:=by simpa using t3
 by_cases t4:s.code[k].op=3
 ·have d4:(s.code[k].op != 3)=false:=by simpa using t4
  simp (disch:=first|decide|omega) only[hA,zJ,hk,QI,d2,d2',d3,d4,aa,go_sem]
  exact ZA (xs:=[.v (.bool (decide (w.sent≤199)))]) ⟨by rw[if_neg t3,if_pos t4];rfl,rfl,rfl⟩
 have d4:(s.code[k].op != 3)=true:=by simpa using t4
 simp (disch:=first|decide|omega) only[hA,zJ,hk,QI,d2,d2',d3,d4,aa,go_sem]
 exact ZA (xs:=[.v (.bool true)]) ⟨by rw[if_neg t3,if_neg t4];rfl,rfl,rfl⟩
def a_wEnabl:AFunc:=({c:=_}:CF Tryz.prog 20).c
theorem SZ:qA Tryz.prog 20=some a_wEnabl:=by kernel_rfl
def wP:List (Nat×Nat):=[(4,5),(12,22)]

theorem MW (s:Sv) (hS:SvS s) (qI:D9 s) (b l:List Row):QA Tryz.prog 70 [.agg ((eSv s).map .v)] b l (fun r b' l'=>r=.v (.bool (!zI s))∧b'=b∧l'=l):=by
 refine XA yX rfl kE ?_
 intro B g hB hR hE hA;simp only[zA]at hA
 have cE:=fun b l=>XQ s hS qI b l
 simp only[eSv,bj,cd]at cE
 simp (disch:=first|decide|omega) only[a_wEnded1,hA,eSv,go_sem]
 refine QA.nxt (cE _ _) ?_
 simp (disch:=first|decide|omega) only[hA,go_sem]
 exact ZA (xs:=[.v (.bool (!zI s))])
noncomputable def ZGD (w:Wd):Bool:=wdB w&&w.sv.all zI
theorem EY (w:Wd) (hS:Sm w.tr) (hN:Nm w.tr) (tL:SvsS w.sv) (N0:NwS w.net) (b l:List Row):QA Tryz.prog 23 [.agg ((eWd w).map .v)] b l (fun r b' l'=>r=.v (.bool (ZGD w))∧b'=b∧l'=l):=by
 refine XA DZ rfl kE ?_
 intro B g hB hR hE hA;simp only[zA]at hA
 have cV:=fun b l=>aH w hS hN tL N0 b l
 have nL:(eWd w).map AV.v=(zWA w):=rfl
 rw[nL]at cV hA
 simp (disch:=first|decide|omega) only[a_wEnded,hA,cellsOf,go_sem]
 refine QA.nxt (cV _ _) ?_
 cases t1:wdB w
 ·simp (disch:=first|decide|omega) only[hA,go_sem]
  exact ZA (xs:=[.v (.bool false)]) ⟨by unfold ZGD;rw[t1];rfl,rfl,rfl⟩
 have UU:FF w.sv=true:=by unfold wdB at t1;simp only[ar]at t1;exact t1.1
 have cC:=qD LK MK (w.sv.map eSv) 70 [] (fun j=>!zI (w.sv.getD j dfSv)) QS (by rw[aa];exact tL.len) B [.live 0 9 [(eWd w).map .v]] (fun j row hj=>by
  have wG:j<w.sv.length:=by have:=(am.1 hj).1;rwa [aa]at this
  rw[an,ah wG]at hj
  cases hj
  simp only[YA wG]
  exact MW _ (tL.all _ (ak wG)) (IX UU wG) _ _)
 rw[aa,bG (p:=fun s=>!zI s),mF,nL]at cC
 simp (disch:=first|decide|omega) only[hA,go_sem]
 refine QA.nxt cC ?_
 simp (disch:=first|decide|omega) only[hA,ki,go_sem]
 exact ZA (xs:=[.v (.bool (w.sv.all zI))]) ⟨by unfold ZGD;rw[t1];rfl,rfl,rfl⟩
noncomputable def LL (w:Wd) (k:Nat):List Nat:=(List.range k).filter (rF w)
noncomputable def NQ (w:Wd) (k:Nat):List (List IV):=(LL w k).map fun n:Nat=>eI n
theorem ZH6 (w:Wd) (k:Nat):(LL w k).length≤k:=by
 unfold LL
 have:=List.length_filter_le (rF w) (List.range k)
 rwa [jo]at this
theorem Q4 {w:Wd} {k:Nat} (h:rF w k=true):LL w (k+1)=LL w k++[k]:=by
 unfold LL;rw[fw,gv,jl,if_pos h,List.filter_nil]
theorem ZH5 {w:Wd} {k:Nat} (h:rF w k=false):LL w (k+1)=LL w k:=by
 unfold LL;rw[fw,gv,jl,if_neg (by rw[h];simp),List.filter_nil,ct]
theorem ZEY (w:Wd) (k:Nat):(NQ w k).length=(LL w k).length:=by unfold NQ;rw[aa]
theorem ZEX {w:Wd} {k:Nat} (h:rF w k=true):NQ w (k+1)=NQ w k++[[.int .i64 (k:Nat)]]:=by
 unfold NQ;rw[Q4 h,bh];rfl
theorem ZBJ {w:Wd} (h:wdB w=true):FF w.sv=true∧ID w.tr=true∧w.tr.length=w.sv.length∧nwB w.net=true:=by
 unfold wdB at h
 simp only[ar,bf]at h
 exact⟨h.1,h.2.2.2.2.1,h.2.2.2.2.2.1,h.2.2.1⟩
theorem ZD7 {l:List Sv} (h:FF l=true):l.length≤8:=by
 unfold FF at h
 rw[ar]at h
 have:=h.1
 unfold inZ at this
 simp only[ar,bf]at this
 omega
theorem CY (w:Wd) (hS:Small w.tr) (hN:Nm w.tr) (tL:SvsS w.sv) (N0:NwS w.net) (hv:wdB w=true) (b l:List Row):QA Tryz.prog 20 [.agg ((eWd w).map .v)] b l (fun r b' l'=>r=.tup [.v (.isl 1 (NQ w w.sv.length)),.v (.int .i64 0)]∧b'=b∧l'=l):=by
 obtain⟨q1,q2,q3,q4⟩:=ZBJ hv
 refine XA SZ rfl kE ?_
 intro B g hB hR hE hA;simp only[zA]at hA
 have cV:=fun b l=>aH w hS.sm hN tL N0 b l
 have nL:(eWd w).map AV.v=(zWA w):=rfl
 rw[nL,hv]at cV
 rw[nL]at hA
 have hs8:=ZD7 q1
 have hm0:(LL w 0).length=0:=rfl
 have hq0:NQ w 0=[]:=rfl
 simp (disch:=first|decide|omega) only[a_wEnabl,hA,cellsOf,go_sem]
 refine QA.nxt (cV _ _) ?_
 simp (disch:=first|decide|omega) only[hA,aa,go_sem]
 refine QF (ι:=Nat) 4 1 wP (fun k=>[(12,.v (.int .i64 k)),(4,.sl (B.length+1) (LL w k).length 0 (LL w k).length)]) 2 (fun k=>[.live 0 9 [(eWd w).map .v],.live (LL w k).length 1 (vs (NQ w k))])
  (fun k=>k≤w.sv.length) (fun k=>w.sv.length-k) 0 (aj _) (by simp (disch:=decide) only[hA,go_sem]) kE kE kM (by ((try simp (disch:=decide) only[hA,hm0,hq0,go_sem])<;>exact kH)) kF ?_
 intro g1 qF TE sA k hk
 rw[nL]
 have hml:=ZH6 w k
 have bU:=ZEY w k
 by_cases OK:k<w.sv.length
 ·have cE:=fun b l=>jS w tL hS q1 q3 k OK b l
  rw[nL]at cE
  simp (disch:=first|decide|omega) only[hA,sA,aa,go_sem]
  refine QA.nxt (cE _ _) ?_
  cases t2:rF w k
  ·have hn1:=ZH5 t2
   have eW:NQ w (k+1)=NQ w k:=by unfold NQ;rw[hn1]
   simp (disch:=first|decide|omega) only[hA,sA,go_sem]
   refine⟨k+1,OK,by simp only;omega,?_⟩
   simp only[hn1,eW,nL]
   exact VA.kround (p:=wP) (k:=2) kQ kA rfl qF kS kV hR kL
  ·have S0:=ZEX t2
   have hn1:=Q4 t2
   have aU:(LL w (k+1)).length=(LL w k).length+1:=by rw[hn1];simp
   have tk:List.take (LL w k).length (NQ w k)=NQ w k:=bo oM
   simp (disch:=first|decide|omega) only[hA,sA,bU,tk,←S0,bq,bs,reduceCtorEq,go_sem]
   rw[←aU]
   refine⟨k+1,OK,by simp only;omega,?_⟩
   simp only[nL]
   exact VA.kround (p:=wP) (k:=2) kQ kA rfl qF kS kV hR kL
 ·obtain rfl:k=w.sv.length:=by omega
  simp (disch:=first|decide|omega) only[hA,sA,aa,go_sem]
  exact H6 (i:=1) (ver:=(LL w w.sv.length).length) (sz:=1) (n:=(LL w w.sv.length).length) (rows:=NQ w w.sv.length) (.inr rfl) kR rfl (by rw[bU]) hR hB ⟨rfl,rfl,rfl⟩
def a_wvalue:AFunc:=({c:=_}:CF Tryz.prog 73).c
theorem mZ:qA Tryz.prog 73=some a_wvalue:=by kernel_rfl
def a_wLocal:AFunc:=({c:=_}:CF Tryz.prog 113).c
theorem IZ:qA Tryz.prog 113=some a_wLocal:=by kernel_rfl

def Sv.put (s:Sv) (i:Nat) (v:Int):Sv:={s with vars:=s.vars.set i v}
theorem EE (b l:List Row):QA Tryz.prog 113 [] b l (fun r b' l'=>r=.agg [.v (.int .i64 1),.v (.int .i64 0),.v (.int .i64 0),.v (.int .i64 0),.v .zsl]∧b'=b∧l'=l):=by
 refine XA IZ rfl kE ?_
 intro B g hB hR hE hA;simp only[zA]at hA
 simp (disch:=first|decide|omega) only[a_wLocal,cellsOf,go_sem]
 exact DA (xs:=[.agg [.v (.int .i64 1),.v (.int .i64 0),.v (.int .i64 0),.v (.int .i64 0),.v .zsl]]) (.inr rfl) (by simp (disch:=first|decide|omega) only[resVs,resV,go_sem,hE]) kO hR hB ⟨rfl,rfl,rfl⟩
theorem SG (s:Sv) (hS:SvS s) (kd:Int) (i:Nat) (hi:i<s.vars.length) (v:Int) (b l:List Row) :
  QA Tryz.prog 73 [.agg ((eSv s).map .v),.v (.int .i64 kd),.v (.int .i64 i),.v (.int .i64 v)] b l (fun r b' l'=>r=.tup [.agg ((eSv (s.put i v)).map .v),.agg [.v (.int .i64 kd),.v (.int .i64 0),.v (.int .i64 0),.v (.int .i64 0),.v (.isl 2 [[.int .i64 i,.int .i64 v]])]]∧b'=b∧l'=l):=by
 refine XA mZ rfl kE ?_
 intro B g hB hR hE hA;simp only[zA]at hA
 have heS:(eSv s).map AV.v=(zSA s):=rfl
 rw[heS]at hA
 have hv:=hS.vars
 obtain⟨rows,hr⟩:∃rows,s.vars.map eI=rows:=⟨_,rfl⟩
 have nR:rows.length=s.vars.length:=by rw[←hr,aa]
 unfold zSA at hA;rw[hr]at hA
 have hri:∀h:i<rows.length,rows[i]'h=[.int .i64 s.vars[i]]:=fun h=>by
  subst hr;rw[jc];rfl
 have pK:(vs rows).set i [.v (.int .i64 v)]=vs ((s.put i v).vars.map eI):=by
  rw[←hr];unfold Sv.put vs;simp[fa,eI]
 have aU:((s.put i v).vars.map eI).length=s.vars.length:=by unfold Sv.put;simp
 simp (disch:=first|decide|omega) only[a_wvalue,hA,nR,hri,pK,dB,ez,go_sem]
 refine iA (.inr rfl) (xs:=[.agg [.v (.str s.name),.v (.isl 3 (s.code.map eIn)),.v (.int .i64 s.pc),.sl (B.length+3) 1 0 s.vars.length,.v (.int .i64 s.off),.v (.int .i64 s.rate)],.agg [.v (.int .i64 kd),.v (.int .i64 0),.v (.int .i64 0),.v (.int .i64 0),.sl (B.length+4) 0 0 1]]) kR ?_ hR hB ⟨rfl,rfl,rfl⟩
 refine Dv.tupL (.cons (Dv.aggL (.cons (.v _) (.cons (.v _) (.cons (.v _) (.cons (Dv.slV (i:=3) rfl aU.symm) (.cons (.v _) (.cons (.v _) .nil)))))))
  (.cons (Dv.aggL (.cons (.v _) (.cons (.v _) (.cons (.v _) (.cons (.v _) (.cons (Dv.slV (i:=4) (rows:=[[.int .i64 i,.int .i64 v]]) rfl rfl) .nil)))))) .nil))
def a_wmsg:AFunc:=({c:=_}:CF Tryz.prog 141).c
theorem ZCL:qA Tryz.prog 141=some a_wmsg:=by kernel_rfl
def a_wnet:AFunc:=({c:=_}:CF Tryz.prog 96).c
theorem ZCK:qA Tryz.prog 96=some a_wnet:=by kernel_rfl
def ZAM:List (Nat×Nat):=[(5,5),(19,30)]

theorem sZ (v:List In) (hn:v.length≤1000000) (b l:List Row):QA Tryz.prog 97 [.v (.isl 3 (v.map eIn))] b l (fun r b' l'=>r=.sl (b.length+l.length) 1 0 v.length∧b'=b∧l'=l++[.live 1 3 (vs (v.map eIn))]):=by
 have:=nI (P:=Tryz.prog) (f:=97) (sz:=3) (bytes:=24) (zs:=[.v (.int .i64 0),.v (.int .i64 0),.v (.int .i64 0)]) (by kernel_rfl) kE (v.map eIn) (by simpa using hn) b l
 rwa [aa]at this
theorem rZ (v:List Vr) (hn:v.length≤1000000) (b l:List Row):QA Tryz.prog 99 [.v (.isl 2 (v.map eVr))] b l (fun r b' l'=>r=.sl (b.length+l.length) 1 0 v.length∧b'=b∧l'=l++[.live 1 2 (vs (v.map eVr))]):=by
 have:=nI (P:=Tryz.prog) (f:=99) (sz:=2) (bytes:=24) (zs:=[.v (.str ⟨#[]⟩),.v (.int .i64 0)]) (by kernel_rfl) kE (v.map eVr) (by simpa using hn) b l
 rwa [aa]at this
theorem tZ (v:List Asg) (hn:v.length≤1000000) (b l:List Row):QA Tryz.prog 100 [.v (.isl 2 (v.map eAsg))] b l (fun r b' l'=>r=.sl (b.length+l.length) 1 0 v.length∧b'=b∧l'=l++[.live 1 2 (vs (v.map eAsg))]):=by
 have:=nI (P:=Tryz.prog) (f:=100) (sz:=2) (bytes:=16) (zs:=[.v (.int .i64 0),.v (.int .i64 0)]) (by kernel_rfl) kE (v.map eAsg) (by simpa using hn) b l
 rwa [aa]at this
theorem ZBI (m:Ms) (hn:m.body.length≤1000000) (b l:List Row):QA Tryz.prog 141 [.agg ((eMs m).map .v)] b l (fun r b' l'=>r=.agg ((eMs m).map .v)∧b'=b∧l'=l):=by
 refine XA ZCL rfl kE ?_
 intro B g hB hR hE hA;simp only[zA]at hA
 have heM:(eMs m).map AV.v=(zMA m):=rfl
 rw[heM]at hA
 simp (disch:=first|decide|omega) only[a_wmsg,hA,cellsOf,go_sem]
 refine QA.nxt (pI m.body hn _ _) ?_
 simp (disch:=first|decide|omega) only[hA,cellsOf,go_sem]
 refine iA (.inr rfl) (xs:=[.agg [.v (.int .i64 m.fr),.v (.int .i64 m.to),.v (.int .i64 m.nu),.sl (B.length+2) 1 0 m.body.length]]) kR ?_ hR hB ⟨rfl,rfl,rfl⟩
 exact Dv.aggL (.cons (.v _) (.cons (.v _) (.cons (.v _) (.cons (Dv.slV (i:=2) rfl (by rw[aa])) .nil))))
theorem qO (v:List Int) (hn:v.length≤1000000) (b l:List Row):QA Tryz.prog 98 [.v (.isl 1 (v.map eI))] b l (fun r b' l'=>r=.v (.isl 1 (v.map eI))∧b'=b∧l'=l):=
 QA.deep (x:=.sl (b.length+l.length+0) 1 0 v.length) (Dv.slV (i:=0) rfl (by rw[aa])) (pI v hn b l)
theorem zX (v:List (Int×Int)) (hn:v.length≤1000000) (b l:List Row):QA Tryz.prog 92 [.v (.isl 2 (v.map eFt))] b l (fun r b' l'=>r=.v (.isl 2 (v.map eFt))∧b'=b∧l'=l):=
 QA.deep (x:=.sl (b.length+l.length+0) 1 0 v.length) (Dv.slV (i:=0) rfl (by rw[aa])) (kW v hn b l)
theorem ZBH (n:Nw) (hS:NwS n) (b l:List Row):QA Tryz.prog 96 [.agg ((eNw n).map .v)] b l (fun r b' l'=>r=.agg ((eNw n).map .v)∧b'=b∧l'=l):=by
 refine XA ZCK rfl kE ?_
 intro B g hB hR hE hA;simp only[zA]at hA
 have heN:(eNw n).map AV.v=(zNA n):=rfl
 rw[heN]at hA
 have aU:=hS.l
 have cT:=fun b l=>qO n.tm hS.tm b l
 have cF:=fun b l=>zX n.fates hS.fates b l
 simp (disch:=first|decide|omega) only[a_wnet,hA,cellsOf,go_sem]
 refine QA.nxt (cT _ _) ?_
 simp (disch:=first|decide|omega) only[hA,cellsOf,go_sem]
 refine QA.nxt (cF _ _) ?_
 simp (disch:=first|decide|omega) only[hA,aa,go_sem]
 refine JA (ι:=Nat) ZAM (fun i=>[(19,.v (.int .i64 i))]) 3 (fun i=>[.live 0 5 [[.v (.int .i64 n.now),.v (.bool n.fifo),.sl (B.length+2) i 0 i,.v (.isl 1 (n.tm.map eI)),.v (.isl 2 (n.fates.map eFt))]],.live 0 5 [[.v (.int .i64 0),.v (.bool false),.v .zsl,.v .zsl,.v .zsl]],.live i 4 (vs ((n.l.take i).map eMs))])
  (fun i=>i≤n.l.length) (fun i=>n.l.length-i) 0 (aj _) kM kA (fun e=>VA.nilcell (e:=e) (b:=B) (l:=[.live 0 5 [[.v (.int .i64 n.now),.v (.bool n.fifo),.v .zsl,.v (.isl 1 (n.tm.map eI)),.v (.isl 2 (n.fates.map eFt))]],.live 0 5 [[.v (.int .i64 0),.v (.bool false),.v .zsl,.v .zsl,.v .zsl]]]) (i:=0) (k:=0) (j:=2) (sz:=4) rfl rfl rfl) ?_
 intro g1 qF TE sA i hi
 by_cases yA:i<n.l.length
 ·have hgm:(n.l.map eMs)[i]? = some [.int .i64 n.l[i].fr,.int .i64 n.l[i].to,.int .i64 n.l[i].nu,.isl 1 (n.l[i].body.map eI)]:=by rw[an,ah yA];rfl
  have cM:=fun b l=>ZBI n.l[i] (hS.body _ (ak yA)) b l
  have heM:(eMs n.l[i]).map AV.v=[.v (.int .i64 n.l[i].fr),.v (.int .i64 n.l[i].to),.v (.int .i64 n.l[i].nu),.v (.isl 1 (n.l[i].body.map eI))]:=rfl
  rw[heM]at cM
  have bU:((n.l.take i).map eMs).length=i:=by rw[aa,bg];omega
  have tk:List.take i ((n.l.take i).map eMs)=(n.l.take i).map eMs:=bo oM
  have S0:(n.l.take (i+1)).map eMs=(n.l.take i).map eMs++[[.int .i64 n.l[i].fr,.int .i64 n.l[i].to,.int .i64 n.l[i].nu,.isl 1 (n.l[i].body.map eI)]]:=by
   rw[gb,ah yA,bh];rfl
  have ZNV:vs ((n.l.take i).map eMs)++[[.v (.int .i64 n.l[i].fr),.v (.int .i64 n.l[i].to),.v (.int .i64 n.l[i].nu),.v (.isl 1 (n.l[i].body.map eI))]]=vs ((n.l.take (i+1)).map eMs):=by rw[S0];simp[vs]
  simp (disch:=first|decide|omega) only[hA,sA,hgm,aa,go_sem]
  refine QA.nxt (cM _ _) ?_
  simp (disch:=first|decide|omega) only[hA,sA,bU,tk,bq,bs,reduceCtorEq,go_sem]
  rw[ZNV]
  refine⟨i+1,yA,by simp only;omega,?_⟩
  exact VA.kround (p:=ZAM) (k:=3) kQ kA rfl qF kS kV hR kL
 ·obtain rfl:i=n.l.length:=by omega
  have HU:(n.l.take n.l.length)=n.l:=io
  simp (disch:=first|decide|omega) only[hA,sA,aa,go_sem]
  refine iA (.inr rfl) (xs:=[.agg [.v (.int .i64 n.now),.v (.bool n.fifo),.sl (B.length+2) n.l.length 0 n.l.length,.v (.isl 1 (n.tm.map eI)),.v (.isl 2 (n.fates.map eFt))]]) kR ?_ hR hB ⟨rfl,rfl,rfl⟩
  rw[HU]
  exact Dv.aggL (.cons (.v _) (.cons (.v _) (.cons (Dv.slV (i:=2) rfl (by rw[aa])) (.cons (.v _) (.cons (.v _) .nil)))))
def dfEv54:Ev:=⟨1,0,0,0,[]⟩
def EB (t:Tr) (p:Nat) (e:Ev):Tr:=t.set p {t.getD p dfPr with evs:=(t.getD p dfPr).evs++[e]}
def MG (w:Wd) (p:Nat) (s:Sv) (e:Ev):Wd:={w with sv:=w.sv.set p s,tr:=EB w.tr p {e with time:=CH s w.now}}
def CJ (kd pe ms:Int) (i:Nat) (v:Int):Ev:=⟨kd,pe,ms,0,[⟨i,v⟩]⟩
noncomputable def MO (w:Wd) (p:Nat) (s:Sv) (x:In):Wd:=
 if fiR w.net p<0 then MG w p {s with pc:=x.b} dfEv54
 else if (DB w.tr 3 (w.net.l.getD (fiR w.net p).toNat dfMs).nu).2>0 then {MG w p s dfEv54 with net:=woN w.net (fiR w.net p).toNat}
 else {MG w p ({s with pc:=s.pc+1}.put x.a.toNat ((w.net.l.getD (fiR w.net p).toNat dfMs).body.getD 0 0)) (CJ 3 (w.net.l.getD (fiR w.net p).toNat dfMs).fr (w.net.l.getD (fiR w.net p).toNat dfMs).nu x.a.toNat ((w.net.l.getD (fiR w.net p).toNat dfMs).body.getD 0 0)) with net:=woN w.net (fiR w.net p).toNat}
def jH (w:Wd) (p:Nat) (s:Sv) (x:In):Ms:=⟨p,x.b,w.sent,[s.vars.getD x.a.toNat 0]⟩
noncomputable def stI (w:Wd) (p:Nat) (s:Sv) (x:In):Wd×Int:=
 if x.op=1 then (MG w p ({s with pc:=s.pc+1}.put x.a.toNat x.b) (CJ 1 0 0 x.a.toNat x.b),0)
 else if x.op=2 then
  (if vlB (s.vars.getD x.a.toNat 0+x.b)=true then (MG w p ({s with pc:=s.pc+1}.put x.a.toNat (s.vars.getD x.a.toNat 0+x.b)) (CJ 1 0 0 x.a.toNat (s.vars.getD x.a.toNat 0+x.b)),0) else (wd0,9))
 else if x.op=6 then
  (if 0<s.vars.getD x.b.toNat 0 then (MG w p ({s with pc:=x.a}.put x.b.toNat (s.vars.getD x.b.toNat 0-1)) (CJ 1 0 0 x.b.toNat (s.vars.getD x.b.toNat 0-1)),0) else (MG w p {s with pc:=s.pc+1} dfEv54,0))
 else if x.op=3 then
  (if sdE w.net (jH w p s x)=0 then ({MG w p {s with pc:=s.pc+1} ⟨2,x.b,w.sent,0,[]⟩ with net:=sdR w.net (jH w p s x),sent:=w.sent+1},0) else (wd0,sdE w.net (jH w p s x)))
 else if x.op=4∨x.op=5 then (MO w p s x,0)
 else (MG w p {s with pc:=s.pc+1} dfEv54,0)
noncomputable def stW (w:Wd) (p:Nat):Wd×Int:=stI w p (w.sv.getD p dfSv) ((w.sv.getD p dfSv).code.getD (w.sv.getD p dfSv).pc.toNat fN)
theorem yT {t:Tr} {p q:Nat} (e:Ev) (h:p≠q):(EB t p e)[q]? = t[q]?:=by
 unfold EB;rw[bl h]
theorem kT {t:Tr} {p:Nat} (e:Ev) (h:p<t.length):(EB t p e)[p]? = some {t[p] with evs:=t[p].evs++[e]}:=by
 unfold EB;rw[ay (by simpa using h)];simp[List.getD,h]
def svL (s:Sv) (id:Nat):List AV:=[.v (.str s.name),.v (.isl 3 (s.code.map eIn)),.v (.int .i64 s.pc),.sl id 1 0 s.vars.length,.v (.int .i64 s.off),.v (.int .i64 s.rate)]
def prL (x:Pr) (id:Nat):List AV:=[.v (.str x.name),.v (.isl 2 (x.vars.map eVr)),.sl id x.evs.length 0 x.evs.length]
def LG (w:Wd) (p id:Nat):List (List AV):=(vs (w.sv.map eSv)).set p (svL (w.sv.getD p dfSv) id)
def FO (w:Wd) (p id:Nat):List (List AV):=(vs (w.tr.map ePr)).set p (prL (w.tr.getD p dfPr) id)
def lW (w:Wd) (p q:Nat):Row:=.live w.sv.length 6 (LG w p (q+1))
def OU (w:Wd) (p:Nat):Row:=.live 1 1 (vs ((w.sv.getD p dfSv).vars.map eI))
def bY (w:Wd) (p q:Nat):Row:=.live w.tr.length 3 (FO w p (q+3))
def mW (w:Wd) (p:Nat):Row:=.live (w.tr.getD p dfPr).evs.length 5 (vs ((w.tr.getD p dfPr).evs.map eEv))
def mvC (w:Wd) (q:Nat):List AV:=[.sl q w.sv.length 0 w.sv.length,.v (.int .i64 w.net.now),.v (.bool w.net.fifo),.v (.isl 4 (w.net.l.map eMs)),.v (.isl 1 (w.net.tm.map eI)),.v (.isl 2 (w.net.fates.map eFt)),.v (.int .i64 w.now),.v (.int .i64 w.sent),.sl (q+2) w.tr.length 0 w.tr.length]
def eY (w:Wd) (q:Nat):Row:=.live 0 9 [mvC w q]
def ZFx (w:Wd) (p q:Nat):List Row:=[lW w p q,OU w p,bY w p q,mW w p]
def mvF (f:Nat→Row) (w:Wd) (p q:Nat):Nat→Row:=fun j =>
 if j=q then lW w p q else if j=q+1 then OU w p else if j=q+2 then bY w p q else if j=q+3 then mW w p else if j=q+4 then eY w q else f j
section
variable {f:Nat→Row} {w:Wd} {p q:Nat}
theorem YV:mvF f w p q q=lW w p q:=by unfold mvF;rw[if_pos rfl]
theorem fW:mvF f w p q (q+1)=OU w p:=by unfold mvF;rw[if_neg oM,if_pos rfl]
theorem GY:mvF f w p q (q+2)=bY w p q:=by unfold mvF;rw[if_neg oM,if_neg oM,if_pos rfl]
theorem aY:mvF f w p q (q+3)=mW w p:=by unfold mvF;rw[if_neg oM,if_neg oM,if_neg oM,if_pos rfl]
theorem QV:mvF f w p q (q+4)=eY w q:=by unfold mvF;rw[if_neg oM,if_neg oM,if_neg oM,if_neg oM,if_pos rfl]
theorem ZV {j:Nat} (h:j<q∨q+5≤j):mvF f w p q j=f j:=by unfold mvF;rw[if_neg oM,if_neg oM,if_neg oM,if_neg oM,if_neg oM]
theorem rY {g:Nat→Row} {w':Wd} (h0:g q=lW w' p q) (h1:g (q+1)=OU w' p) (h2:g (q+2)=bY w' p q) (h3:g (q+3)=mW w' p) (h4:g (q+4)=eY w' q) (ho:∀j,j<q∨q+5≤j→g j=f j):g=mvF f w' p q:=by
 funext j
 by_cases c0:j=q
 ·rw[c0,h0,YV]
 by_cases c1:j=q+1
 ·rw[c1,h1,fW]
 by_cases c2:j=q+2
 ·rw[c2,h2,GY]
 by_cases c3:j=q+3
 ·rw[c3,h3,aY]
 by_cases c4:j=q+4
 ·rw[c4,h4,QV]
 rw[ho j oM,ZV oM]
end
theorem TF {w:Wd} {p id:Nat}:(LG w p id).length=w.sv.length:=by unfold LG;rw[dh,SB,aa]
theorem LH {w:Wd} {p id:Nat}:(FO w p id).length=w.tr.length:=by unfold FO;rw[dh,SB,aa]
theorem CN {w:Wd} {p id:Nat} (hp:p<w.sv.length):(LG w p id)[p]? = some (svL (w.sv.getD p dfSv) id):=by
 unfold LG;rw[ay (by rw[SB,aa];exact hp)]
theorem q9 {w:Wd} {p i id:Nat} (hi:i<w.sv.length) (h:p≠i):(LG w p id)[i]? = some ((eSv (w.sv.getD i dfSv)).map .v):=by
 unfold LG;rw[bl h,iB,an,ah hi,au,ah hi];rfl
theorem dY {w:Wd} {p id:Nat} (hp:p<w.tr.length):(FO w p id)[p]? = some (prL (w.tr.getD p dfPr) id):=by
 unfold FO;rw[ay (by rw[SB,aa];exact hp)]
theorem j9 {w:Wd} {p i id:Nat} (hi:i<w.tr.length) (h:p≠i):(FO w p id)[i]? = some ((ePr (w.tr.getD i dfPr)).map .v):=by
 unfold FO;rw[bl h,iB,an,ah hi,au,ah hi];rfl
theorem mem_set_cases {α:Type} {l:List α} {i:Nat} {a x:α} (h:x∈l.set i a):x∈l∨x=a:=List.mem_or_eq_of_mem_set h
theorem DX {w:Wd} {p id m:Nat} (h:id<m):∀row∈LG w p id,∀c∈row,AVlt m c:=fun row hr=>by
 rcases mem_set_cases hr with hr|hr
 ·exact (cJ.2 trivial) row hr
 ·rw[hr];unfold svL;simp only[lz,qR,NO,true_and,and_true];exact⟨h,fun _ h=>by cases h⟩
theorem ZAe {w:Wd} {p id m:Nat} (h:id<m):∀row∈FO w p id,∀c∈row,AVlt m c:=fun row hr=>by
 rcases mem_set_cases hr with hr|hr
 ·exact (cJ.2 trivial) row hr
 ·rw[hr];unfold prL;simp only[lz,qR,NO,true_and,and_true];exact⟨h,fun _ h=>by cases h⟩
theorem ZF9 {n i p:Nat} {l:List Row} {w:Wd} (hp:p<w.sv.length) (YJ:p<w.tr.length) (h0:l[i]? = some (lW w p (n+i))) (h1:l[i+1]? = some (OU w p)) (h2:l[i+2]? = some (bY w p (n+i))) (h3:l[i+3]? = some (mW w p)):Dv n l (.agg (mvC w (n+i))) (.agg ((eWd w).map .v)):=by
 have e:(eWd w).map AV.v=(zWA w):=rfl
 rw[e]
 unfold mvC
 have hA:Dv n l (.sl (n+i) w.sv.length 0 w.sv.length) (.v (.isl 6 (w.sv.map eSv))):=by
  refine Dv.slR h0 (by rw[TF];omega) (by rw[aa]) (fun k r row g1 g2=>?_)
  rw[cn]at g1
  rw[an]at g2
  have hk:k<w.sv.length:=by
   have:=(am.1 g1).1
   rwa [TF]at this
  rw[ah hk]at g2
  cases g2
  by_cases G0:p=k
  ·subst G0
   rw[CN hp,YA hp]at g1
   cases g1
   refine DvR.cons (.v _) (DvR.cons (.v _) (DvR.cons (.v _) (DvR.cons ?_ (DvR.cons (.v _) (DvR.cons (.v _) DvR.nil)))))
   rw[cw]
   unfold OU at h1
   rw[YA hp]at h1
   exact Dv.slV h1 (by rw[aa])
  ·rw[q9 hk G0,YA hk]at g1
   cases g1
   exact DvR.plain
 have hC:Dv n l (.sl (n+i+2) w.tr.length 0 w.tr.length) (.v (.isl 3 (w.tr.map ePr))):=by
  rw[cw]
  refine Dv.slR h2 (by rw[LH];omega) (by rw[aa]) (fun k r row g1 g2=>?_)
  rw[cn]at g1
  rw[an]at g2
  have hk:k<w.tr.length:=by
   have:=(am.1 g1).1
   rwa [LH]at this
  rw[ah hk]at g2
  cases g2
  by_cases G0:p=k
  ·subst G0
   rw[dY YJ,YA YJ]at g1
   cases g1
   refine DvR.cons (.v _) (DvR.cons (.v _) (DvR.cons ?_ DvR.nil))
   rw[cw]
   unfold mW at h3
   rw[YA YJ]at h3
   exact Dv.slV h3 (by rw[aa])
  ·rw[j9 hk G0,YA hk]at g1
   cases g1
   exact DvR.plain
 exact Dv.aggL (.cons hA (.cons (.v _) (.cons (.v _) (.cons (.v _) (.cons (.v _) (.cons (.v _) (.cons (.v _) (.cons (.v _) (.cons hC .nil)))))))))
attribute [local go_sem] sO mT TM fP SM lP RA XH
def a_mev:AFunc:=({c:=_}:CF Tryz.prog 114).c
theorem ZEj:qA Tryz.prog 114=some a_mev:=by kernel_rfl

theorem Z5 {n q p:Nat} {f:Nat→Row} {w:Wd} {l B:List Row} (hn:q+5≤n) (hB:B=kB n (mvF f w p q)++l):∃m f',m=n+l.length∧B=kB m (mvF f' w p q)∧∀w',kB m (mvF f' w' p q)=kB n (mvF f w' p q)++l:=by
 obtain⟨m,g,hm,hBg,hg⟩:=ZIQ B
 have hml:m=n+l.length:=by rw[hm,hB,ap,RA]
 have gB:∀j,j<n→g j=mvF f w p q j:=fun j hj=>hg j _ (by rw[hB,aw (by rw[RA];exact hj),xH hj])
 have e:∀w',kB m (mvF g w' p q)=kB n (mvF f w' p q)++l:=fun w'=>by
  apply ea
  intro j
  by_cases hj:j<n
  ·rw[xH oM,aw (by rw[RA];exact hj),xH hj]
   by_cases hq:j<q∨q+5≤j
   ·rw[ZV hq,ZV hq,gB j hj,ZV hq]
   ·obtain rfl|rfl|rfl|rfl|rfl:j=q∨j=q+1∨j=q+2∨j=q+3∨j=q+4:=by omega
    ·rw[YV,YV]
    ·rw[fW,fW]
    ·rw[GY,GY]
    ·rw[aY,aY]
    ·rw[QV,QV]
  ·rw[aq (by rw[RA];omega),RA]
   by_cases hj2:j<m
   ·rw[xH hj2,ZV (.inr oM)]
    have hl:j-n<l.length:=by omega
    rw[ah hl]
    congr 1
    exact hg j _ (by rw[hB,aq (by rw[RA];omega),RA,ah hl])
   ·rw[cg (by rw[RA];omega),cg oM]
 exact⟨m,g,hml,by rw[e w,←hB],e⟩
theorem RU {m q p:Nat} {f:Nat→Row} {w w':Wd} (hq:q+5≤m) (h:gA m (kB m (mvF f w p q))):gA m (kB m (mvF f w' p q)):=by
 intro id ver sz els hi row JD c hc
 have hl:id<m:=by
  have:=(am.1 hi).1
  rwa [RA]at this
 rw[xH hl,ji]at hi
 by_cases ho:id<q∨q+5≤id
 ·rw[ZV ho]at hi
  exact h id ver sz els (by rw[xH hl,ZV ho,hi]) row JD c hc
 ·obtain rfl|rfl|rfl|rfl|rfl:id=q∨id=q+1∨id=q+2∨id=q+3∨id=q+4:=by omega
  ·rw[YV]at hi;cases hi;exact DX oM row JD c hc
  ·rw[fW]at hi;cases hi;exact (cJ.2 trivial) row JD c hc
  ·rw[GY]at hi;cases hi;exact ZAe oM row JD c hc
  ·rw[aY]at hi;cases hi;exact (cJ.2 trivial) row JD c hc
  ·rw[QV]at hi;cases hi
   have:∀row∈[mvC w' q],∀c∈row,AVlt m c:=by
    unfold mvC
    simp (disch:=omega) only[lz,List.forall_mem_nil,qR,NO,true_and,and_true,ie,false_imp_iff,implies_true]
    omega
   exact this row JD c hc
theorem FC {rs:List ARes} {Q:AV→List Row→List Row→Prop} {B e l:_} {ex:AExit} (hex:ex=.normal∨ex=.ret) {xs:List AV} (hx:resVs e B l rs=some xs) (yA:AVlt B.length (one xs)) (hR:gA B.length B) {n p q:Nat} {f f':Nat→Row} {w0 w':Wd} {b l0:List Row} (hb:b=kB n (mvF f w0 p q)) (hB:B=kB n (mvF f' w' p q)++l0) (hq:Q (one xs) (kB n (mvF f' w' p q)) l0):uH rs Q b.length ex e B l:=by
 have hbl:b.length=(kB n (mvF f' w' p q)).length:=by rw[hb,RA,RA]
 rw[hbl]
 exact DA hex hx yA hR hB hq
def evW (w:Wd) (p:Nat) (e:Ev):Wd:={w with tr:=EB w.tr p {e with time:=CH (w.sv.getD p dfSv) w.now}}
theorem ZED {w:Wd} {p id:Nat} {e:Ev} (hp:p<w.tr.length):(FO w p id).set p [.v (.str (w.tr.getD p dfPr).name),.v (.isl 2 ((w.tr.getD p dfPr).vars.map eVr)),.sl id ((w.tr.getD p dfPr).evs.length+1) 0 ((w.tr.getD p dfPr).evs.length+1)]=FO (evW w p e) p id:=by
 unfold FO
 rw[ix]
 have hg:(evW w p e).tr.getD p dfPr={w.tr.getD p dfPr with evs:=(w.tr.getD p dfPr).evs++[{e with time:=CH (w.sv.getD p dfSv) w.now}]}:=by
  show (EB w.tr p _).getD p dfPr=_
  unfold EB
  rw[au,ay hp];rfl
 rw[hg]
 have hm:vs ((evW w p e).tr.map ePr)=(vs (w.tr.map ePr)).set p ((ePr {w.tr.getD p dfPr with evs:=(w.tr.getD p dfPr).evs++[{e with time:=CH (w.sv.getD p dfSv) w.now}]}).map .v):=by
  show vs ((EB w.tr p _).map ePr)=_
  unfold EB vs
  rw[fa,fa]
 rw[hm,ix]
 unfold prL
 simp only[ap,dw]
theorem ZH4 {w:Wd} {p:Nat} {e:Ev} (hp:p<w.tr.length):(evW w p e).tr.getD p dfPr={w.tr.getD p dfPr with evs:=(w.tr.getD p dfPr).evs++[{e with time:=CH (w.sv.getD p dfSv) w.now}]}:=by
 show (EB w.tr p _).getD p dfPr=_
 unfold EB
 rw[au,ay hp];rfl
theorem tF {w:Wd} {p:Nat} {e:Ev}:(evW w p e).tr.length=w.tr.length:=by
 show (EB w.tr p _).length=_
 unfold EB;simp
theorem J3 (f:Nat→Row) (w:Wd) (p q n:Nat) (hn:q+5≤n) (hp:p<w.sv.length) (YJ:p<w.tr.length) (aU:w.sv.length≤1000000) (HU:w.tr.length≤1000000) (XJ:(w.tr.getD p dfPr).evs.length≤1000000) (e:Ev) (b l:List Row) (hb:b=kB n (mvF f w p q)) :
  QA Tryz.prog 114 [.ptr (q+4) 0 0 0,.v (.int .i64 p),.agg (zEA e)] b l
   (fun r b' l'=>r=.tup []∧b'=kB n (mvF f (evW w p e) p q)∧l'=l):=by
 refine XA ZEj rfl kE ?_
 intro B g hB hR hE hA;simp only[zA]at hA
 rw[hb]at hB
 obtain⟨m,f',hm,M8,rH⟩:=Z5 hn hB
 clear hB
 subst M8
 rw[RA]at hR
 obtain⟨s,hs⟩:∃s,w.sv.getD p dfSv=s:=⟨_,rfl⟩
 obtain⟨x,hx⟩:∃x,w.tr.getD p dfPr=x:=⟨_,rfl⟩
 obtain⟨SV,E9⟩:∃SV,LG w p (q+1)=SV:=⟨_,rfl⟩
 obtain⟨PR,hPR⟩:∃PR,FO w p (q+3)=PR:=⟨_,rfl⟩
 have DU:SV.length=w.sv.length:=by rw[←E9,TF]
 have hPl:PR.length=w.tr.length:=by rw[←hPR,LH]
 have gS:SV[p]? = some [.v (.str s.name),.v (.isl 3 (s.code.map eIn)),.v (.int .i64 s.pc),.sl (q+1) 1 0 s.vars.length,.v (.int .i64 s.off),.v (.int .i64 s.rate)]:=by rw[←E9,CN hp,hs];rfl
 have gP:PR[p]? = some [.v (.str x.name),.v (.isl 2 (x.vars.map eVr)),.sl (q+3) x.evs.length 0 x.evs.length]:=by rw[←hPR,dY YJ,hx];rfl
 obtain⟨F,hF⟩:∃F,mvF f' w p q=F:=⟨_,rfl⟩
 have f0:F q=.live w.sv.length 6 SV:=by rw[←hF,YV,←E9];rfl
 have f2:F (q+2)=.live w.tr.length 3 PR:=by rw[←hF,GY,←hPR];rfl
 have f3:F (q+3)=.live x.evs.length 5 (vs (x.evs.map eEv)):=by rw[←hF,aY,←hx];rfl
 have f4:F (q+4)=.live 0 9 [[.sl q w.sv.length 0 w.sv.length,.v (.int .i64 w.net.now),.v (.bool w.net.fifo),.v (.isl 4 (w.net.l.map eMs)),.v (.isl 1 (w.net.tm.map eI)),.v (.isl 2 (w.net.fates.map eFt)),.v (.int .i64 w.now),.v (.int .i64 w.sent),.sl (q+2) w.tr.length 0 w.tr.length]]:=by rw[←hF,QV];rfl
 have gk:∀{j:Nat} {f:Nat→Row} {L:List Row},j<5→hget (kB m f) L (q+j)=some (f (q+j)):=fun hj=>DH oM
 have kn:∀{j:Nat} {f:Nat→Row} {r:Row},j<5→iE (kB m f) (q+j) r=kB m (rUp f (q+j) r):=fun hj=>vK oM
 have kl:∀{j:Nat} {f:Nat→Row} {r:Row} {L:List Row},j<5→GE (kB m f) L (q+j) r=L:=fun hj=>jK oM
 have gk0:∀{f:Nat→Row} {L:List Row},hget (kB m f) L q=some (f q):=DH oM
 have cC:=fun b l=>JQ (.str s.name) (.isl 3 (s.code.map eIn)) (.int .i64 s.pc) (.sl (q+1) 1 0 s.vars.length) s w.now b l (.inr ⟨_,_,_,_,rfl⟩)
 rw[hx]at XJ
 have hye:(x.evs.map eEv).length=x.evs.length:=aa _
 have htk:List.take x.evs.length (vs (x.evs.map eEv))=vs (x.evs.map eEv):=bo (by rw[SB,hye];omega)
 rw[hF]at hR⊢
 simp (disch:=first|decide|omega) only[a_mev,hA,gk,gk0,f0,f4,gS,DU,aa,go_sem]
 refine QA.nxt (cC _ _) ?_
 simp (disch:=first|decide|omega) only[hA,gk,gk0,f0,f2,f3,f4,gP,hPl,hye,htk,kn,kl,mA,dB,go_sem]
 have IG:rUp (rUp F (q+3) (.live (x.evs.length+1) 5 (vs (x.evs.map eEv++[[.int .i64 e.kind,.int .i64 e.peer,.int .i64 e.msg,.int .i64 (CH s w.now),.isl 2 (e.asg.map eAsg)]])))) (q+2) (.live w.tr.length 3 (PR.set p [.v (.str x.name),.v (.isl 2 (x.vars.map eVr)),.sl (q+3) (x.evs.length+1) 0 (x.evs.length+1)]))=mvF f' (evW w p e) p q:=by
  refine rY ?_ ?_ ?_ ?_ ?_ (fun j hj=>?_)
  ·rw[mA oM,mA oM,←hF,YV];rfl
  ·rw[mA oM,mA oM,←hF,fW];rfl
  ·rw[XH]
   unfold bY
   rw[tF,←ZED YJ,hx,hPR]
  ·rw[mA oM,XH]
   unfold mW
   rw[ZH4 YJ,hx,hs]
   simp only[ap,dw,bh]
   rfl
  ·rw[mA oM,mA oM,←hF,QV]
   unfold eY mvC
   rw[tF];rfl
  ·rw[mA oM,mA oM,←hF,ZV hj]
 rw[IG]
 exact FC (xs:=[]) (.inl rfl) kR kO (by rw[RA];rw[←hF]at hR;exact RU oM hR) hb (rH _) ⟨rfl,rfl,rfl⟩
def a_masg:AFunc:=({c:=_}:CF Tryz.prog 112).c
theorem ZC3:qA Tryz.prog 112=some a_masg:=by kernel_rfl
def a_msnd:AFunc:=({c:=_}:CF Tryz.prog 115).c
theorem ZC1:qA Tryz.prog 115=some a_msnd:=by kernel_rfl
def a_mrcv:AFunc:=({c:=_}:CF Tryz.prog 116).c
theorem ZC2:qA Tryz.prog 116=some a_mrcv:=by kernel_rfl

theorem nP (f:Nat→Row) (w:Wd) (p q n:Nat) (hn:q+5≤n) (hp:p<w.sv.length) (YJ:p<w.tr.length) (aU:w.sv.length≤1000000) (HU:w.tr.length≤1000000) (XJ:(w.tr.getD p dfPr).evs.length≤1000000) (k pe ms:Int) (b l:List Row) (hb:b=kB n (mvF f w p q)) :
  QA Tryz.prog 114 [.ptr (q+4) 0 0 0,.v (.int .i64 p),.agg [.v (.int .i64 k),.v (.int .i64 pe),.v (.int .i64 ms),.v (.int .i64 0),.v .zsl]] b l
   (fun r b' l'=>r=.tup []∧b'=kB n (mvF f (evW w p ⟨k,pe,ms,0,[]⟩) p q)∧l'=l):=by
 refine (J3 f w p q n hn hp YJ aU HU XJ ⟨k,pe,ms,0,[]⟩ b l hb).le rfl (fun i x y hx hy=>?_)
 match i,hx,hy with
 |0,hx,hy=>cases hx;cases hy;exact .refl _
 |1,hx,hy=>cases hx;cases hy;exact .refl _
 |2,hx,hy =>
   cases hx;cases hy
   refine .agg _ _ rfl (fun j u v hu hv=>?_)
   match j,hu,hv with
   |0,hu,hv=>cases hu;cases hv;exact .refl _
   |1,hu,hv=>cases hu;cases hv;exact .refl _
   |2,hu,hv=>cases hu;cases hv;exact .refl _
   |3,hu,hv=>cases hu;cases hv;exact .refl _
   |4,hu,hv=>cases hu;cases hv;exact .v _ _ (.zsl 2)
def asW (w:Wd) (p:Nat) (e:Ev) (i:Nat) (v:Int):Wd:={evW w p {e with asg:=[⟨i,v⟩]} with sv:=w.sv.set p ((w.sv.getD p dfSv).put i v)}
theorem Q3 {w:Wd} {p id:Nat} {s:Sv} (hp:p<w.sv.length):(LG w p id).set p (svL s id)=LG {w with sv:=w.sv.set p s} p id:=by
 unfold LG
 rw[ix]
 have hg:({w with sv:=w.sv.set p s}:Wd).sv.getD p dfSv=s:=by
  show (w.sv.set p s).getD p dfSv=s
  rw[au,ay hp];rfl
 rw[hg]
 have hm:vs (({w with sv:=w.sv.set p s}:Wd).sv.map eSv)=(vs (w.sv.map eSv)).set p ((eSv s).map .v):=by
  show vs ((w.sv.set p s).map eSv)=_
  unfold vs
  rw[fa,fa]
 rw[hm,ix]
theorem XW (f:Nat→Row) (w:Wd) (p q n:Nat) (hn:q+5≤n) (hp:p<w.sv.length) (YJ:p<w.tr.length) (aU:w.sv.length≤1000000) (HU:w.tr.length≤1000000) (XJ:(w.tr.getD p dfPr).evs.length≤1000000) (k pe ms:Int) (i:Nat) (hi:i<(w.sv.getD p dfSv).vars.length) (bU:(w.sv.getD p dfSv).vars.length≤1000000) (v:Int) (b l:List Row) (hb:b=kB n (mvF f w p q)) :
  QA Tryz.prog 112 [.ptr (q+4) 0 0 0,.v (.int .i64 p),.v (.int .i64 i),.v (.int .i64 v),.agg [.v (.int .i64 k),.v (.int .i64 pe),.v (.int .i64 ms),.v (.int .i64 0),.v .zsl]] b l
   (fun r b' l'=>r=.v (.int .i64 (if vlB v=true then 0 else 9))∧b'=kB n (mvF f (if vlB v=true then asW w p ⟨k,pe,ms,0,[]⟩ i v else w) p q)∧l'=l):=by
 refine XA ZC3 rfl kE ?_
 intro B g hB hR hE hA;simp only[zA]at hA
 rw[hb]at hB
 obtain⟨m,f',hm,M8,rH⟩:=Z5 hn hB
 clear hB
 subst M8
 rw[RA]at hR
 have cB:=fun b l=>GM v b l
 obtain⟨F,hF⟩:∃F,mvF f' w p q=F:=⟨_,rfl⟩
 cases hv:vlB v
 ·rw[hv]at cB
  rw[if_neg kS,if_neg kS]
  rw[hF]at hR⊢
  simp (disch:=first|decide|omega) only[a_masg,hA,cellsOf,go_sem]
  refine QA.nxt (cB _ _) ?_
  simp (disch:=first|decide|omega) only[hA,go_sem]
  exact FC (xs:=[.v (.int .i64 9)]) (.inr rfl) kR kO (by rw[RA];exact hR) hb (by rw[←hF];exact rH w) ⟨rfl,rfl,rfl⟩
 rw[hv]at cB
 rw[if_pos rfl,if_pos rfl]
 obtain⟨w1,LE⟩:∃w1,evW w p ⟨k,pe,ms,0,[⟨i,v⟩]⟩=w1:=⟨_,rfl⟩
 have cE:=fun l=>J3 f' w p q m oM hp YJ aU HU XJ ⟨k,pe,ms,0,[⟨i,v⟩]⟩ (kB m F) l (by rw[hF])
 rw[LE]at cE
 obtain⟨F1,uM⟩:∃F1,mvF f' w1 p q=F1:=⟨_,rfl⟩
 rw[uM]at cE
 simp only[zEA,eAsg,bj,cd]at cE
 have V5:gA m (kB m F1):=by rw[←uM];exact RU oM hR
 have e1:w1.sv=w.sv:=by rw[←LE];rfl
 have e2:w1.net=w.net:=by rw[←LE];rfl
 have e3:w1.tr.length=w.tr.length:=by rw[←LE];exact tF
 have e4:w1.now=w.now:=by rw[←LE];rfl
 have e5:w1.sent=w.sent:=by rw[←LE];rfl
 obtain⟨s,hs⟩:∃s,w.sv.getD p dfSv=s:=⟨_,rfl⟩
 rw[hs]at hi bU
 obtain⟨SV,E9⟩:∃SV,LG w1 p (q+1)=SV:=⟨_,rfl⟩
 have DU:SV.length=w.sv.length:=by rw[←E9,TF,e1]
 have gS:SV[p]? = some [.v (.str s.name),.v (.isl 3 (s.code.map eIn)),.v (.int .i64 s.pc),.sl (q+1) 1 0 s.vars.length,.v (.int .i64 s.off),.v (.int .i64 s.rate)]:=by rw[←E9,CN (by rw[e1];exact hp),e1,hs];rfl
 have f0:F1 q=.live w.sv.length 6 SV:=by rw[←uM,YV,←E9,←e1];rfl
 obtain⟨rows,hr⟩:∃rows,s.vars.map eI=rows:=⟨_,rfl⟩
 have nR:rows.length=s.vars.length:=by rw[←hr,aa]
 have hri:∀h:i<rows.length,rows[i]'h=[.int .i64 s.vars[i]]:=fun h=>by
  subst hr;rw[jc];rfl
 have f1:F1 (q+1)=.live 1 1 (vs rows):=by rw[←uM,fW,←hr,←hs,←e1];rfl
 have f4:F1 (q+4)=.live 0 9 [[.sl q w.sv.length 0 w.sv.length,.v (.int .i64 w.net.now),.v (.bool w.net.fifo),.v (.isl 4 (w.net.l.map eMs)),.v (.isl 1 (w.net.tm.map eI)),.v (.isl 2 (w.net.fates.map eFt)),.v (.int .i64 w.now),.v (.int .i64 w.sent),.sl (q+2) w.tr.length 0 w.tr.length]]:=by rw[←uM,QV,←e1,←e2,←e3,←e4,←e5];rfl
 have gk:∀{j:Nat} {f:Nat→Row} {L:List Row},j<5→hget (kB m f) L (q+j)=some (f (q+j)):=fun hj=>DH oM
 have kn:∀{j:Nat} {f:Nat→Row} {r:Row},j<5→iE (kB m f) (q+j) r=kB m (rUp f (q+j) r):=fun hj=>vK oM
 have kl:∀{j:Nat} {f:Nat→Row} {r:Row} {L:List Row},j<5→GE (kB m f) L (q+j) r=L:=fun hj=>jK oM
 have gk0:∀{f:Nat→Row} {L:List Row},hget (kB m f) L q=some (f q):=DH oM
 rw[hF]at hR⊢
 simp (disch:=first|decide|omega) only[a_masg,hA,cellsOf,go_sem]
 refine QA.nxt (cB _ _) ?_
 simp (disch:=first|decide|omega) only[hA,dB,go_sem]
 refine QA.frzB (i:=1) (ver:=0) (sz:=2) (rows:=[[.int .i64 i,.int .i64 v]]) (args':=[.ptr (q+4) 0 0 0,.v (.int .i64 p),.agg [.v (.int .i64 k),.v (.int .i64 pe),.v (.int .i64 ms),.v (.int .i64 0),.v (.isl 2 [[.int .i64 i,.int .i64 v]])]]) rfl (by simp[frz,ZE,RA]) ?_
 refine QA.nxt (cE _) ?_
 simp (disch:=first|decide|omega) only[hA,gk,gk0,f0,f1,f4,gS,DU,nR,hri,kn,kl,mA,dB,ez,go_sem]
 have IG:rUp F1 (q+1) (.live 1 1 (vs (rows.set i [.int .i64 v])))=mvF f' (asW w p ⟨k,pe,ms,0,[]⟩ i v) p q:=by
  have hw2:asW w p ⟨k,pe,ms,0,[]⟩ i v={w1 with sv:=w1.sv.set p (s.put i v)}:=by rw[←LE,←hs];rfl
  have hg:({w1 with sv:=w1.sv.set p (s.put i v)}:Wd).sv.getD p dfSv=s.put i v:=by
   show (w1.sv.set p (s.put i v)).getD p dfSv=_
   rw[au,ay (by rw[e1];exact hp)];rfl
  rw[hw2]
  refine rY ?_ ?_ ?_ ?_ ?_ (fun j hj=>?_)
  ·rw[mA oM,←uM,YV]
   unfold lW
   rw[←Q3 (by rw[e1];exact hp)]
   have:svL (s.put i v) (q+1)=svL s (q+1):=by unfold svL Sv.put;simp
   rw[this]
   have h2:(LG w1 p (q+1)).set p (svL s (q+1))=LG w1 p (q+1):=by
    apply ea
    intro j
    by_cases hj:p=j
    ·subst hj
     rw[ay (by rw[TF,e1];exact hp),CN (by rw[e1];exact hp),e1,hs]
    ·rw[bl hj]
   rw[h2]
   congr 1
   simp
  ·rw[XH]
   unfold OU
   rw[hg,←hr]
   unfold Sv.put
   simp only[fa]
   rfl
  ·rw[mA oM,←uM,GY];rfl
  ·rw[mA oM,←uM,aY];rfl
  ·rw[mA oM,←uM,QV]
   unfold eY mvC
   simp
  ·rw[mA oM,←uM,ZV hj]
 rw[IG]
 exact FC (xs:=[.v (.int .i64 0)]) (.inr rfl) kR kO (by rw[RA];rw[←uM]at V5;exact RU oM V5) hb (rH _) ⟨rfl,rfl,rfl⟩
theorem sE {f' F:Nat→Row} {w:Wd} {p q:Nat} (hp:p<w.sv.length) (YJ:p<w.tr.length) (hF:mvF f' w p q=F) {s:Sv} (hs:w.sv.getD p dfSv=s) {SV:List (List AV)} (E9:LG w p (q+1)=SV) :
  SV.length=w.sv.length∧SV[p]? = some [.v (.str s.name),.v (.isl 3 (s.code.map eIn)),.v (.int .i64 s.pc),.sl (q+1) 1 0 s.vars.length,.v (.int .i64 s.off),.v (.int .i64 s.rate)]∧F q=.live w.sv.length 6 SV∧F (q+1)=.live 1 1 (vs (s.vars.map eI)) ∧
  F (q+4)=.live 0 9 [[.sl q w.sv.length 0 w.sv.length,.v (.int .i64 w.net.now),.v (.bool w.net.fifo),.v (.isl 4 (w.net.l.map eMs)),.v (.isl 1 (w.net.tm.map eI)),.v (.isl 2 (w.net.fates.map eFt)),.v (.int .i64 w.now),.v (.int .i64 w.sent),.sl (q+2) w.tr.length 0 w.tr.length]]:=by
 subst hs;subst E9;subst hF
 exact⟨TF,CN hp,YV,fW,QV⟩
theorem z9 {f':Nat→Row} {w:Wd} {p q:Nat} {n:Nw} {k:Int}:rUp (mvF f' w p q) (q+4) (.live 0 9 [[.sl q w.sv.length 0 w.sv.length,.v (.int .i64 n.now),.v (.bool n.fifo),.v (.isl 4 (n.l.map eMs)),.v (.isl 1 (n.tm.map eI)),.v (.isl 2 (n.fates.map eFt)),.v (.int .i64 w.now),.v (.int .i64 k),.sl (q+2) w.tr.length 0 w.tr.length]])=mvF f' {w with net:=n,sent:=k} p q:=by
 refine rY ?_ ?_ ?_ ?_ ?_ (fun j hj=>?_)
 ·rw[mA oM,YV];rfl
 ·rw[mA oM,fW];rfl
 ·rw[mA oM,GY];rfl
 ·rw[mA oM,aY];rfl
 ·rw[XH];rfl
 ·rw[mA oM,ZV hj]
def pcW (w:Wd) (p:Nat) (c:Int):Wd:={w with sv:=w.sv.set p {w.sv.getD p dfSv with pc:=c}}
theorem pL {f':Nat→Row} {w:Wd} {p q:Nat} {c:Int} (hp:p<w.sv.length) {s:Sv} (hs:w.sv.getD p dfSv=s):rUp (mvF f' w p q) q (.live w.sv.length 6 ((LG w p (q+1)).set p [.v (.str s.name),.v (.isl 3 (s.code.map eIn)),.v (.int .i64 c),.sl (q+1) 1 0 s.vars.length,.v (.int .i64 s.off),.v (.int .i64 s.rate)]))=mvF f' (pcW w p c) p q:=by
 have hg:(pcW w p c).sv.getD p dfSv={s with pc:=c}:=by
  show (w.sv.set p {w.sv.getD p dfSv with pc:=c}).getD p dfSv=_
  rw[au,ay hp,hs];rfl
 refine rY ?_ ?_ ?_ ?_ ?_ (fun j hj=>?_)
 ·rw[XH]
  have:=Q3 (id:=q+1) (s:={s with pc:=c}) hp
  unfold lW
  have e:pcW w p c={w with sv:=w.sv.set p {s with pc:=c}}:=by unfold pcW;rw[hs]
  rw[e,←this]
  congr 1
  simp
 ·rw[mA oM,fW]
  unfold OU
  rw[hg,hs]
 ·rw[mA oM,GY];rfl
 ·rw[mA oM,aY];rfl
 ·rw[mA oM,QV]
  unfold eY mvC pcW
  simp
 ·rw[mA oM,ZV hj]
theorem mv_tr {m p q:Nat} {f':Nat→Row} {w:Wd} {L:List Row} (hm:q+5≤m) (hp:p<w.sv.length) (YJ:p<w.tr.length):Dv 0 (kB m (mvF f' w p q)++L) (.sl (q+2) w.tr.length 0 w.tr.length) (.v (.isl 3 (w.tr.map ePr))):=by
 have g:∀j r,j<m→mvF f' w p q j=r→(kB m (mvF f' w p q)++L)[j]? = some r:=fun j r hj h=>by
  rw[aw (by rw[RA];exact hj),xH hj,h]
 have:=ZF9 (n:=0) (i:=q) (l:=kB m (mvF f' w p q)++L) hp YJ (g _ _ oM (by rw[cn];exact YV)) (g _ _ oM fW) (g _ _ oM (by rw[cn];exact GY)) (g _ _ oM aY)
 rw[cn]at this
 cases this with
 |agg _ _ _ h=>exact h 8 _ _ rfl rfl
theorem ZBl (f:Nat→Row) (w:Wd) (p q n:Nat) (hn:q+5≤n) (hp:p<w.sv.length) (YJ:p<w.tr.length) (aU:w.sv.length≤1000000) (HU:w.tr.length≤1000000) (XJ:(w.tr.getD p dfPr).evs.length≤1000000) (x:In) (i:Nat) (US:x.a=i) (hi:i<(w.sv.getD p dfSv).vars.length) (bU:(w.sv.getD p dfSv).vars.length≤1000000) (S0:0≤w.sent∧w.sent≤1000)
  (hv:nwB w.net=true) (hm:msB (jH w p (w.sv.getD p dfSv) x)=true) (b l:List Row) (hb:b=kB n (mvF f w p q)) :
  QA Tryz.prog 115 [.ptr (q+4) 0 0 0,.v (.int .i64 p),.agg [.v (.int .i64 x.op),.v (.int .i64 x.a),.v (.int .i64 x.b)]] b l
   (fun r b' l'=>r=.v (.int .i64 (sdE w.net (jH w p (w.sv.getD p dfSv) x)))∧b'=kB n (mvF f (if sdE w.net (jH w p (w.sv.getD p dfSv) x)=0 then evW {w with net:=sdR w.net (jH w p (w.sv.getD p dfSv) x),sent:=w.sent+1} p ⟨2,x.b,w.sent,0,[]⟩ else w) p q)∧l'=l):=by
 refine XA ZC1 rfl kE ?_
 intro B g hB hR hE hA;simp only[zA]at hA
 rw[hb]at hB
 obtain⟨m,f',hm0,M8,rH⟩:=Z5 hn hB
 clear hB
 subst M8
 rw[RA]at hR
 obtain⟨s,hs⟩:∃s,w.sv.getD p dfSv=s:=⟨_,rfl⟩
 obtain⟨SV,E9⟩:∃SV,LG w p (q+1)=SV:=⟨_,rfl⟩
 obtain⟨F,hF⟩:∃F,mvF f' w p q=F:=⟨_,rfl⟩
 obtain⟨DU,gS,f0,f1,f4⟩:=sE hp YJ hF hs E9
 rw[hs]at hi bU hm⊢
 have gk:∀{j:Nat} {f:Nat→Row} {L:List Row},j<5→hget (kB m f) L (q+j)=some (f (q+j)):=fun hj=>DH oM
 have kn:∀{j:Nat} {f:Nat→Row} {r:Row},j<5→iE (kB m f) (q+j) r=kB m (rUp f (q+j) r):=fun hj=>vK oM
 have kl:∀{j:Nat} {f:Nat→Row} {r:Row} {L:List Row},j<5→GE (kB m f) L (q+j) r=L:=fun hj=>jK oM
 have gk0:∀{f:Nat→Row} {L:List Row},hget (kB m f) L q=some (f q):=DH oM
 have IU:=IC hi
 obtain⟨u,huu⟩:∃u,s.vars.getD i 0=u:=⟨_,rfl⟩
 rw[huu]at IU
 obtain⟨mg,MY⟩:∃mg,jH w p s x=mg:=⟨_,rfl⟩
 have hmd:mg=⟨p,x.b,w.sent,[u]⟩:=by rw[←MY];unfold jH;rw[US,ca,huu]
 rw[MY]at hm⊢
 have cS:∀b l,QA Tryz.prog 156 [.agg ((eNw w.net).map .v),.agg [.v (.int .i64 p),.v (.int .i64 x.b),.v (.int .i64 w.sent),.v (.isl 1 [[.int .i64 u]])]] b l (fun r b' l'=>r=.tup [nwA (sdR w.net mg),.v (.int .i64 (sdE w.net mg))]∧b'=b∧l'=l):=fun b l=>by
  have:=c6 w.net mg b l
  have e2:yR w.net mg=sdE w.net mg:=by unfold yR;rw[if_pos hv,if_pos hm]
  have e1:ZFv w.net mg=sdR w.net mg:=by unfold ZFv sdR;rw[e2]
  rw[e1,e2,hmd]at this
  rw[hmd]
  exact this
 obtain⟨n2,eW⟩:∃n2,sdR w.net mg=n2:=⟨_,rfl⟩
 obtain⟨er,her⟩:∃er,sdE w.net mg=er:=⟨_,rfl⟩
 rw[eW,her]at cS
 rw[her,eW]
 simp only[eNw,nwA,bj,cd]at cS
 have yH:∀h:i<s.vars.length,eI (s.vars[i]'h)=[.int .i64 u]:=fun h=>by rw[←huu,YA h];rfl
 have hws:IntKind.i64.wrap (w.sent+1)=w.sent+1:=pA oM oM
 rw[hF]at hR⊢
 simp (disch:=first|decide|omega) only[a_msnd,hA,gk,gk0,f0,f1,f4,gS,DU,US,IU,aa,go_sem]
 refine QA.frzB (i:=1) (ver:=0) (sz:=1) (rows:=[[.int .i64 u]]) (args':=[.agg [.v (.int .i64 w.net.now),.v (.bool w.net.fifo),.v (.isl 4 (w.net.l.map eMs)),.v (.isl 1 (w.net.tm.map eI)),.v (.isl 2 (w.net.fates.map eFt))],.agg [.v (.int .i64 p),.v (.int .i64 x.b),.v (.int .i64 w.sent),.v (.isl 1 [[.int .i64 u]])]]) rfl (by simp[frz,ZE,RA]) ?_
 refine QA.nxt (cS _ _) ?_
 by_cases he:er=0
 ·have e0:(er != 0)=false:=by simpa using he
  rw[if_pos he]
  simp (disch:=first|decide|omega) only[hA,e0,gk,gk0,f0,f1,f4,gS,DU,US,IU,yH,hws,kn,kl,mA,dB,go_sem]
  obtain⟨w1,LE⟩:∃w1:Wd,({w with net:=n2,sent:=w.sent+1}:Wd)=w1:=⟨_,rfl⟩
  have aO:rUp (mvF f' {w with net:=n2} p q) (q+4) (.live 0 9 [[.sl q w.sv.length 0 w.sv.length,.v (.int .i64 n2.now),.v (.bool n2.fifo),.v (.isl 4 (n2.l.map eMs)),.v (.isl 1 (n2.tm.map eI)),.v (.isl 2 (n2.fates.map eFt)),.v (.int .i64 w.now),.v (.int .i64 (w.sent+1)),.sl (q+2) w.tr.length 0 w.tr.length]])=mvF f' w1 p q:=by
   rw[←LE];exact z9 (w:={w with net:=n2})
  rw[←hF,z9,aO]
  have cE:=fun l=>nP f' w1 p q m oM (by rw[←LE];exact hp) (by rw[←LE];exact YJ) (by rw[←LE];exact aU) (by rw[←LE];exact HU) (by rw[←LE];exact XJ) 2 x.b w.sent (kB m (mvF f' w1 p q)) l rfl
  refine QA.nxt (cE _) ?_
  simp (disch:=first|decide|omega) only[hA,go_sem]
  rw[he,LE]
  exact FC (xs:=[.v (.int .i64 0)]) (.inr rfl) kR kO (by rw[RA];rw[←hF]at hR;exact RU oM hR) hb (rH _) ⟨rfl,rfl,rfl⟩
 ·have e0:(er != 0)=true:=by simpa using he
  rw[if_neg he]
  simp (disch:=first|decide|omega) only[hA,e0,gk,gk0,f0,f1,f4,gS,DU,US,IU,yH,aa,go_sem]
  exact FC (xs:=[.v (.int .i64 er)]) (.inr rfl) kR kO (by rw[RA];exact hR) hb (by rw[←hF];exact rH w) ⟨rfl,rfl,rfl⟩
theorem ZBm (f:Nat→Row) (w:Wd) (p q n:Nat) (hn:q+5≤n) (hp:p<w.sv.length) (YJ:p<w.tr.length) (hS:Small w.tr) (hN:Nm w.tr) (aU:w.sv.length≤1000000) (x:In) (i:Nat) (US:x.a=i) (hi:i<(w.sv.getD p dfSv).vars.length) (bU:(w.sv.getD p dfSv).vars.length≤1000000)
  (hv:nwB w.net=true) (hpo:ptB p=true) (k:Nat) (hk:fiR w.net p=k) (mg:Ms) (MY:w.net.l.getD k dfMs=mg) (v:Int) (H4:mg.body=[v]) (wO:vlB v=true) (b l:List Row) (hb:b=kB n (mvF f w p q)) :
  QA Tryz.prog 116 [.ptr (q+4) 0 0 0,.v (.int .i64 p),.agg [.v (.int .i64 x.op),.v (.int .i64 x.a),.v (.int .i64 x.b)]] b l
   (fun r b' l'=>r=.v (.bool (!decide (0<(QC w.tr 3 mg.nu).2)))∧b'=kB n (mvF f (if 0<(QC w.tr 3 mg.nu).2 then evW {w with net:=woN w.net k} p ⟨1,0,0,0,[]⟩ else asW {w with net:=woN w.net k} p ⟨3,mg.fr,mg.nu,0,[]⟩ i v) p q)∧l'=l):=by
 refine XA ZC2 rfl kE ?_
 intro B g hB hR hE hA;simp only[zA]at hA
 rw[hb]at hB
 obtain⟨m,f',hm0,M8,rH⟩:=Z5 hn hB
 clear hB
 subst M8
 rw[RA]at hR
 obtain⟨s,hs⟩:∃s,w.sv.getD p dfSv=s:=⟨_,rfl⟩
 obtain⟨SV,E9⟩:∃SV,LG w p (q+1)=SV:=⟨_,rfl⟩
 obtain⟨F,hF⟩:∃F,mvF f' w p q=F:=⟨_,rfl⟩
 obtain⟨DU,gS,f0,f1,f4⟩:=sE hp YJ hF hs E9
 have gk:∀{j:Nat} {f:Nat→Row} {L:List Row},j<5→hget (kB m f) L (q+j)=some (f (q+j)):=fun hj=>DH oM
 have kn:∀{j:Nat} {f:Nat→Row} {r:Row},j<5→iE (kB m f) (q+j) r=kB m (rUp f (q+j) r):=fun hj=>vK oM
 have kl:∀{j:Nat} {f:Nat→Row} {r:Row} {L:List Row},j<5→GE (kB m f) L (q+j) r=L:=fun hj=>jK oM
 have gk0:∀{f:Nat→Row} {L:List Row},hget (kB m f) L q=some (f q):=DH oM
 have he:rcE w.net p=0:=by unfold rcE;rw[if_pos hv,if_pos hpo,if_neg oM]
 have UP:(fiR w.net p).toNat=k:=by rw[hk];rfl
 have hNN:rcN w.net p=woN w.net k:=by unfold rcN;rw[if_pos he,UP]
 have hMm:rcM w.net p=mg:=by unfold rcM;rw[if_pos he,UP,MY]
 have cR:=fun b l=>G6 w.net p b l
 rw[he,hNN,hMm]at cR
 obtain⟨n2,eW⟩:∃n2,woN w.net k=n2:=⟨_,rfl⟩
 rw[eW]at cR⊢
 simp only[eNw,nwA,eMs,H4,bj,cd,eI]at cR
 have ZLz:∀F0:Nat→Row,F0=mvF f' w p q→rUp F0 (q+4) (.live 0 9 [[.sl q w.sv.length 0 w.sv.length,.v (.int .i64 n2.now),.v (.bool n2.fifo),.v (.isl 4 (n2.l.map eMs)),.v (.isl 1 (n2.tm.map eI)),.v (.isl 2 (n2.fates.map eFt)),.v (.int .i64 w.now),.v (.int .i64 w.sent),.sl (q+2) w.tr.length 0 w.tr.length]])=mvF f' {w with net:=n2} p q:=fun F0 h=>by rw[h];exact z9
 obtain⟨w1,LE⟩:∃w1:Wd,({w with net:=n2}:Wd)=w1:=⟨_,rfl⟩
 rw[LE]at ZLz⊢
 have e1:w1.sv=w.sv:=by rw[←LE]
 have e3:w1.tr=w.tr:=by rw[←LE]
 have HU:=hS.np
 have XJ:(w1.tr.getD p dfPr).evs.length≤1000000:=by rw[e3,YA YJ];exact hS.ne _ (ak YJ)
 have cE:=fun l=>nP f' w1 p q m oM (by rw[e1];exact hp) (by rw[e3];exact YJ) (by rw[e1];exact aU) (by rw[e3];exact HU) XJ 1 0 0 (kB m (mvF f' w1 p q)) l rfl
 have cA:=fun l=>XW f' w1 p q m oM (by rw[e1];exact hp) (by rw[e3];exact YJ) (by rw[e1];exact aU) (by rw[e3];exact HU) XJ 3 mg.fr mg.nu i (by rw[e1];exact hi) (by rw[e1];exact bU) v (kB m (mvF f' w1 p q)) l rfl
 rw[if_pos wO,if_pos wO]at cA
 have cF:∀l,QA Tryz.prog 158 [.agg [.sl (q+2) w.tr.length 0 w.tr.length],.v (.int .i64 mg.nu)] (kB m (mvF f' w1 p q)) l (fun r b' l'=>r=.tup [idA (QC w.tr 3 mg.nu),.v (.bool (decide (0<(QC w.tr 3 mg.nu).2)))]∧b'=kB m (mvF f' w1 p q)∧l'=l):=fun l =>
  QA.peek (args':=[.agg [.v (eT w.tr)],.v (.int .i64 mg.nu)]) rfl (fun i z y hz hy=>by
   match i,hz,hy with
   |0,hz,hy =>
     cases hz;cases hy
     refine Dv.aggL (.cons ?_ .nil)
     have:=mv_tr (m:=m) (f':=f') (w:=w1) (p:=p) (q:=q) (L:=l) oM (by rw[e1];exact hp) (by rw[e3];exact YJ)
     rw[e3]at this
     exact this
   |1,hz,hy=>cases hz;cases hy;exact .v _) (.tup fun c hc=>by
   simp only[cz,ie,or_false]at hc
   rcases hc with rfl|rfl
   ·exact .agg fun c hc=>by
     simp only[cz,ie,or_false]at hc
     rcases hc with rfl|rfl<;>exact .int
   ·exact .bool) (qU w.tr hS hN _ _ mg.nu)
 simp only[idA]at cF
 rw[hF]at hR⊢
 have ZLQ:=ZLz F hF.symm
 have g4:mvF f' w1 p q (q+4)=.live 0 9 [[.sl q w.sv.length 0 w.sv.length,.v (.int .i64 n2.now),.v (.bool n2.fifo),.v (.isl 4 (n2.l.map eMs)),.v (.isl 1 (n2.tm.map eI)),.v (.isl 2 (n2.fates.map eFt)),.v (.int .i64 w.now),.v (.int .i64 w.sent),.sl (q+2) w.tr.length 0 w.tr.length]]:=by rw[QV,←LE];rfl
 simp (disch:=first|decide|omega) only[a_mrcv,hA,gk,gk0,f0,f4,aa,go_sem]
 refine QA.nxt (cR _ _) ?_
 simp (disch:=first|decide|omega) only[hA,gk,gk0,f0,f4,kn,kl,mA,dB,go_sem]
 rw[ZLQ]
 refine QA.nxt (cF _) ?_
 by_cases ha:0<(QC w.tr 3 mg.nu).2
 ·have d1:decide (0<(QC w.tr 3 mg.nu).2)=true:=ae ha
  rw[if_pos ha,d1]
  simp (disch:=first|decide|omega) only[hA,gk,gk0,g4,dB,go_sem]
  refine QA.nxt (EE _ _) ?_
  simp (disch:=first|decide|omega) only[hA,go_sem]
  refine QA.nxt (cE _) ?_
  simp (disch:=first|decide|omega) only[hA,go_sem]
  exact FC (xs:=[.v (.bool false)]) (.inr rfl) kR kO (by rw[RA];rw[←hF]at hR;exact RU oM hR) hb (rH _) ⟨rfl,rfl,rfl⟩
 ·have d1:decide (0<(QC w.tr 3 mg.nu).2)=false:=ag ha
  rw[if_neg ha,d1]
  have P9:Int.toNat 0=0:=rfl
  simp (disch:=first|decide|omega) only[hA,US,gk,gk0,g4,P9,dB,go_sem]
  refine QA.nxt (cA _) ?_
  simp (disch:=first|decide|omega) only[hA,go_sem]
  exact FC (xs:=[.v (.bool true)]) (.inr rfl) kR kO (by rw[RA];rw[←hF]at hR;exact RU oM hR) hb (rH _) ⟨rfl,rfl,rfl⟩
structure NewEv (t:Tr) (p:Nat) (e:Ev):Prop where
 v:Vok t
 hp:p<t.length
 room:(nA t p).length<64
 form:JB t.length p e=true
 tm:inB e.time 0 1099511627776=true
 last:∀i,(nA t p).length=i+1→((nA t p).getD i PI).time≤e.time
 al:e.asg.length≤8
 af:sB (gJ (t.getD p dfPr).vars.length e.asg) e.asg.length=0
 snd:e.kind=2→∀x∈ids t,(uA t x).kind=2→(uA t x).msg≠e.msg
 rcv:e.kind=3→(∀x∈ids t,(uA t x).kind=3→(uA t x).msg≠e.msg)∧sendsB t e.peer.toNat e.msg p=true
theorem jI {t:Tr} {p:Nat} {e:Ev}:(EB t p e).length=t.length:=by unfold EB;simp
theorem YN {t:Tr} {p:Nat} {e:Ev} (hp:p<t.length):(EB t p e).getD p dfPr={t.getD p dfPr with evs:=nA t p++[e]}:=by
 rw[au,kT e hp,YA hp,ME hp];rfl
theorem WO {t:Tr} {p q:Nat} {e:Ev} (h:p≠q):(EB t p e).getD q dfPr=t.getD q dfPr:=by
 rw[au,yT e h,au]
theorem aL {t:Tr} {p:Nat} {e:Ev} (hp:p<t.length):nA (EB t p e) p=nA t p++[e]:=by
 show ((EB t p e).getD p dfPr).evs=_
 rw[YN hp]
theorem AQ {t:Tr} {p q:Nat} {e:Ev} (h:p≠q):nA (EB t p e) q=nA t q:=by
 show ((EB t p e).getD q dfPr).evs=_
 rw[WO h];rfl
theorem eL {t:Tr} {p:Nat} {e:Ev} (hp:p<t.length) {x:Nat×Nat}:x∈ids (EB t p e)↔x∈ids t∨x=(p,(nA t p).length+1):=by
 obtain⟨q,i⟩:=x
 cases i with
 |zero =>
   constructor
   ·intro h;have:=lG h;simp only at this;omega
   ·rintro (h|h)
    ·have:=lG h;simp only at this;omega
    ·have:=congrArg Prod.snd h;simp only at this;omega
 |succ i =>
   rw[yE,yE,jI]
   by_cases hq:p=q
   ·subst hq
    rw[aL hp,ap,dw]
    constructor
    ·rintro⟨_,h⟩
     rcases bp i (nA t p).length with h2|h2
     ·exact .inl ⟨hp,h2⟩
     ·exact .inr (by rw[show i=(nA t p).length by omega])
    ·rintro (⟨_,h⟩|h)
     ·exact⟨hp,by omega⟩
     ·have:=congrArg Prod.snd h;simp only at this;exact⟨hp,by omega⟩
   ·rw[AQ hq]
    constructor
    ·exact fun h=>.inl h
    ·rintro (h|h)
     ·exact h
     ·exact absurd (congrArg Prod.fst h).symm hq
theorem ZJO {t:Tr} {p:Nat}:(p,(nA t p).length+1)∉ids t:=fun h=>by
 have:=(yE.1 h).2;omega
theorem QK {t:Tr} {p:Nat} {e:Ev} (hp:p<t.length) {x:Nat×Nat} (hx:x∈ids t):uA (EB t p e) x=uA t x:=by
 obtain⟨q,i⟩:=x
 obtain⟨i,rfl⟩:∃k,i=k+1:=⟨i-1,by have:=lG hx;simp only at this;omega⟩
 obtain⟨_,h2⟩:=yE.1 hx
 unfold uA
 simp only[fd]
 by_cases hq:p=q
 ·subst hq
  rw[aL hp,au,aw h2,au]
 ·rw[AQ hq]
theorem GL {t:Tr} {p:Nat} {e:Ev} (hp:p<t.length):uA (EB t p e) (p,(nA t p).length+1)=e:=by
 unfold uA
 simp only[fd]
 rw[aL hp,au,aq (ai _),dy];rfl
theorem PJ {t:Tr} {k m:Int} {x:Nat×Nat} (h:TC t k m=some x):x∈ids t:=fk h
theorem ZH3 {t:Tr} {k m:Int} (h:∀z∈ids t,(uA t z).kind=k→(uA t z).msg≠m):TC t k m=none:=by
 cases hf:TC t k m with
 |none=>rfl
 |some z=>exact absurd (UF hf).2 (h z (PJ hf) (UF hf).1)
theorem ZAo {t:Tr} {k m:Int} {x:Nat×Nat} (hx:x∈ids t) (hk:(uA t x).kind=k) (hm:(uA t x).msg=m) (hu:∀z∈ids t,(uA t z).kind=k→(uA t z).msg=m→z=x):TC t k m=some x:=by
 cases hf:TC t k m with
 |none =>
   have:=db.1 hf x hx
   rw[hk,hm]at this;simp at this
 |some z=>rw[hu z (PJ hf) (UF hf).1 (UF hf).2]
theorem NewEv.fresh {t:Tr} {p:Nat} {e:Ev} (h:NewEv t p e) {k:Int} (hk:k=2∨k=3) (he:e.kind=k) {x:Nat×Nat} (hx:x∈ids t) (hxk:(uA t x).kind=k):(uA t x).msg≠e.msg:=by
 rcases hk with rfl|rfl
 ·exact h.snd he x hx hxk
 ·exact (h.rcv he).1 x hx hxk
theorem SJ {t:Tr} {p:Nat} {e:Ev} (h:NewEv t p e) {k m:Int} (hk:k=2∨k=3):TC (EB t p e) k m=if e.kind=k∧e.msg=m then some (p,(nA t p).length+1) else TC t k m:=by
 have hp:=h.hp
 split
 ·rename_i hc
  obtain⟨h1,h2⟩:=hc
  refine ZAo ((eL hp).2 (.inr rfl)) (by rw[GL hp];exact h1) (by rw[GL hp];exact h2) (fun z hz hzk hzm=>?_)
  rcases (eL hp).1 hz with hz|hz
  ·rw[QK hp hz]at hzk hzm
   exact absurd (hzm.trans h2.symm) (h.fresh hk h1 hz hzk)
  ·exact hz
 ·rename_i hc
  cases hf:TC t k m with
  |none =>
    refine ZH3 (fun z hz hzk hzm=>?_)
    rcases (eL hp).1 hz with hz|hz
    ·rw[QK hp hz]at hzk hzm
     have:=db.1 hf z hz
     rw[hzk,hzm]at this;simp at this
    ·rw[hz,GL hp]at hzk hzm
     exact hc ⟨hzk,hzm⟩
  |some x =>
    have hx:=PJ hf
    obtain⟨k1,k2⟩:=UF hf
    refine ZAo ((eL hp).2 (.inl hx)) (by rw[QK hp hx];exact k1) (by rw[QK hp hx];exact k2) (fun z hz hzk hzm=>?_)
    rcases (eL hp).1 hz with hz|hz
    ·rw[QK hp hz]at hzk hzm
     have:=eP h.v hz hk hzk
     rw[hzm,hf]at this
     exact (jd this).symm
    ·rw[hz,GL hp]at hzk hzm
     exact absurd ⟨hzk,hzm⟩ hc
theorem O0 {t:Tr} {p q:Nat} {e:Ev} (hp:p<t.length) {m to:Int} (h:sendsB t q m to=true):sendsB (EB t p e) q m to=true:=by
 unfold sendsB at h⊢
 by_cases hq:p=q
 ·subst hq
  rw[aL hp,lu,h];rfl
 ·rw[AQ hq];exact h
theorem ZG7 {t:Tr} {p:Nat} {e:Ev} (h:NewEv t p e) {x:Nat×Nat} (hx:x∈ids (EB t p e)):eC (EB t p e) x=0:=by
 have hp:=h.hp
 rcases (eL hp).1 hx with hx|hx
 ·have h0:=h.v.form x hx
  obtain⟨q,i⟩:=x
  obtain⟨i,rfl⟩:∃k,i=k+1:=⟨i-1,by have:=lG hx;simp only at this;omega⟩
  obtain⟨_,h2⟩:=yE.1 hx
  have hl:xI (EB t p e) (q,i+1)=xI t (q,i+1):=by
   unfold xI
   by_cases hc:1<i+1
   ·rw[if_pos (show 1<(q,i+1).2 from hc),if_pos (show 1<(q,i+1).2 from hc)]
    simp only
    by_cases hq:p=q
    ·subst hq
     rw[aL hp,au,aw oM,au]
    ·rw[AQ hq]
   ·rw[if_neg (show ¬1<(q,i+1).2 from hc),if_neg (show ¬1<(q,i+1).2 from hc)]
  have hg:((EB t p e).getD q dfPr).vars=(t.getD q dfPr).vars:=by
   by_cases hq:p=q
   ·subst hq;rw[YN hp]
   ·rw[WO hq]
  unfold eC at h0⊢
  rw[QK hp hx,jI,hl]
  simp only at h0⊢
  rw[hg]
  exact h0
 ·rw[hx,UW,GL hp,jI]
  refine⟨h.form,h.tm,?_,h.al,?_⟩
  ·unfold xI
   by_cases hc:1<(nA t p).length+1
   ·rw[if_pos (show 1<(p,(nA t p).length+1).2 from hc)]
    simp only
    obtain⟨i,hi⟩:∃i,(nA t p).length=i+1:=⟨(nA t p).length-1,by omega⟩
    rw[aL hp,au,aw oM,←au,hi,show i+1+1-2=i by omega]
    have:=h.last i hi
    omega
   ·rw[if_neg (show ¬1<(p,(nA t p).length+1).2 from hc)]
    have:=h.tm
    unfold inB at this
    simp only[ar,bf]at this
    omega
  ·simp only
   rw[YN hp]
   exact h.af
theorem ZG5 {t:Tr} {p:Nat} {e:Ev} (h:NewEv t p e) {x:Nat×Nat} (hx:x∈ids (EB t p e)):KD (EB t p e) x=0:=by
 have hp:=h.hp
 rcases (eL hp).1 hx with hx|hx
 ·have h0:=h.v.pair x hx
  have qP:=QK (e:=e) hp hx
  unfold KD at h0⊢
  rw[qP]
  by_cases k2:(uA t x).kind=2
  ·have hf:=eP h.v hx (.inl rfl) k2
   have hc:¬(e.kind=2∧e.msg=(uA t x).msg):=fun hc=>h.fresh (.inl rfl) hc.1 hx k2 hc.2.symm
   rw[SJ h (.inl rfl),if_neg hc]
   rw[hf,k2];simp
  ·by_cases k3:(uA t x).kind=3
   ·have hf:=eP h.v hx (.inr rfl) k3
    have hc:¬(e.kind=3∧e.msg=(uA t x).msg):=fun hc=>h.fresh (.inr rfl) hc.1 hx k3 hc.2.symm
    rw[SJ h (.inr rfl),if_neg hc]
    rw[hf,k3]at h0⊢
    simp only[show ((3:Int)==2)=false from rfl,show ((3:Int)==3)=true from rfl,jk,if_true,dt,if_false]at h0⊢
    cases hs:sendsB t (uA t x).peer.toNat (uA t x).msg x.1 with
    |true=>rw[O0 hp hs];rfl
    |false=>rw[hs]at h0;simp at h0
   ·have e2:((uA t x).kind==2)=false:=dr.2 k2
    have e3:((uA t x).kind==3)=false:=dr.2 k3
    rw[e2,e3];rfl
 ·rw[hx]
  unfold KD
  rw[GL hp]
  by_cases k2:e.kind=2
  ·have hf:=SJ h (.inl rfl) (m:=e.msg)
   rw[if_pos ⟨k2,rfl⟩]at hf
   rw[hf,k2];simp
  ·by_cases k3:e.kind=3
   ·have hf:=SJ h (.inr rfl) (m:=e.msg)
    rw[if_pos ⟨k3,rfl⟩]at hf
    rw[hf,k3]
    simp only
    rw[O0 hp (h.rcv k3).2];simp
   ·have e2:(e.kind==2)=false:=dr.2 k2
    have e3:(e.kind==3)=false:=dr.2 k3
    rw[e2,e3];rfl
theorem ZEw {t:Tr} {p:Nat} {e:Ev} (h:NewEv t p e) {z:Nat×Nat}:¬Dir (EB t p e) (p,(nA t p).length+1) z:=by
 have hp:=h.hp
 rintro (⟨_,h2⟩|⟨h1,h2⟩)
 ·simp only at h2
  rw[aL hp,ap,dw]at h2;omega
 ·rw[GL hp]at h1 h2
  rw[SJ h (.inr rfl),if_neg oM]at h2
  have hz:=PJ h2
  obtain⟨k1,k2⟩:=UF h2
  obtain⟨_,y,hy⟩:=h.v.paired.recv hz k1
  obtain⟨k3,k4⟩:=UF hy
  exact h.snd h1 y (PJ hy) k3 (k4.trans k2)
theorem tp_dir {t:Tr} {p:Nat} {e:Ev} (h:NewEv t p e) {x z:Nat×Nat} (hx:x∈ids t) (hd:Dir (EB t p e) x z):Dir t x z∨z=(p,(nA t p).length+1):=by
 have hp:=h.hp
 rcases hd with ⟨h1,h2⟩|⟨h1,h2⟩
 ·by_cases hq:p=x.1
  ·obtain⟨q,i⟩:=x
   simp only at hq h1 h2
   subst hq
   rw[aL hp,ap,dw]at h2
   rcases bp i (nA t p).length with h3|h3
   ·exact .inl (.inl ⟨h1,h3⟩)
   ·exact .inr (by rw[h1,show i=(nA t p).length by omega])
  ·rw[AQ hq]at h2
   exact .inl (.inl ⟨h1,h2⟩)
 ·rw[QK hp hx]at h1 h2
  rw[SJ h (.inr rfl)]at h2
  split at h2
  ·exact .inr (jd h2).symm
  ·exact .inl (.inr ⟨h1,h2⟩)
theorem ZFU {t:Tr} {x z:Nat×Nat} (hx:x∈ids t) (hd:Dir t x z):z∈ids t:=by
 rcases hd with ⟨h1,h2⟩|⟨_,h2⟩
 ·obtain⟨q,i⟩:=x
  have:=(AC.1 hx).1
  rw[h1]
  exact yE.2 ⟨this,h2⟩
 ·exact PJ h2
theorem tp_hb {t:Tr} {p:Nat} {e:Ev} (h:NewEv t p e) {x z:Nat×Nat} (hx:x∈ids t) (hh:Hb (EB t p e) x z):(z∈ids t∧Hb t x z)∨z=(p,(nA t p).length+1):=by
 induction hh with
 |one hd =>
   rcases tp_dir h hx hd with hd|hd
   ·exact .inl ⟨ZFU hx hd,.one hd⟩
   ·exact .inr hd
 |more _ hd ih =>
   rcases ih with ⟨h1,h2⟩|h1
   ·rcases tp_dir h h1 hd with hd|hd
    ·exact .inl ⟨ZFU h1 hd,.more h2 hd⟩
    ·exact .inr hd
   ·rw[h1]at hd
    exact absurd hd (ZEw h)
theorem tp_no {t:Tr} {p:Nat} {e:Ev} (h:NewEv t p e) {x z:Nat×Nat} (hx:x=(p,(nA t p).length+1)) (hh:Hb (EB t p e) x z):False:=by
 induction hh with
 |one hd=>rw[hx]at hd;exact ZEw h hd
 |more _ _ ih=>exact ih
theorem ZD5 {t:Tr} {p:Nat} {e:Ev} (q:Nat):((EB t p e).getD q dfPr).name=(t.getD q dfPr).name∧((EB t p e).getD q dfPr).vars=(t.getD q dfPr).vars:=by
 by_cases hq:p=q
 ·subst hq
  by_cases hp:p<t.length
  ·rw[YN hp];exact⟨rfl,rfl⟩
  ·rw[au,cg (by rw[jI];omega),au,cg oM];exact⟨rfl,rfl⟩
 ·rw[WO hq];exact⟨rfl,rfl⟩
theorem ZJP {t:Tr} {p:Nat} {e:Ev}:(EB t p e).map (·.name)=t.map (·.name):=by
 apply ea
 intro j
 rw[an,an]
 by_cases hj:p=j
 ·subst hj
  by_cases hp:p<t.length
  ·rw[kT e hp,ah hp];rfl
  ·rw[cg (by rw[jI];omega),cg oM]
 ·rw[yT e hj]
theorem ZG6 {t:Tr} {p:Nat} {e:Ev} (h:NewEv t p e) {q:Nat} (hq:q<t.length):CC (EB t p e) q=0:=by
 have h0:=h.v.head q hq
 obtain⟨e1,e2⟩:=ZD5 (t:=t) (p:=p) (e:=e) q
 have ha:((EB t p e).take q).any (fun y=>y.name.toList==(t.getD q dfPr).name.toList)=(t.take q).any (fun y=>y.name.toList==(t.getD q dfPr).name.toList):=by
  have:=fun (l:Tr)=>show (l.take q).any (fun y=>y.name.toList==(t.getD q dfPr).name.toList)=((l.map (·.name)).take q).any (fun y=>y.toList==(t.getD q dfPr).name.toList) by rw[←gh,List.any_map];rfl
  rw[this,this,ZJP]
 have hl:¬64<((EB t p e).getD q dfPr).evs.length:=by
  have h64:¬64<(t.getD q dfPr).evs.length:=by
   have:=yK hq h0
   rw[YA hq];omega
  by_cases hc:p=q
  ·subst hc
   rw[YN h.hp,ap,dw]
   have:=h.room;omega
  ·rw[WO hc];exact h64
 unfold CC at h0⊢
 rw[e1,e2,ha,if_neg hl]
 split at h0
 ·exact absurd h0 kE
 rename_i c1
 rw[if_neg c1]
 split at h0
 ·exact absurd h0 kE
 rename_i c2
 rw[if_neg c2]
 split at h0
 ·rename_i c3;exact absurd h0 c3
 rename_i c3
 rw[if_neg c3]
theorem E8 {t:Tr} {p:Nat} {e:Ev} (h:NewEv t p e):Vok (EB t p e):=by
 have hp:=h.hp
 refine⟨by rw[jI];exact h.v.lo,by rw[jI];exact h.v.hi,fun q hq=>ZG6 h (by rw[←jI (p:=p) (e:=e)];exact hq),fun x hx=>ZG7 h hx,fun x hx=>ZG5 h hx,fun x hx hh=>?_⟩
 rcases (eL hp).1 hx with hx|hx
 ·rcases tp_hb h hx hh with h1|h1
  ·exact h.v.acyc x hx h1.2
  ·exact ZJO (h1▸hx)
 ·exact tp_no h hx hh
theorem dO {α:Type} {l:List α} {x d:α} {p c:Nat} (hp:p≤l.length) (i:Nat) :
  (l.take p++List.replicate c x++l.drop p).getD i d=if i<p then l.getD i d else if i<p+c then x else l.getD (i-c) d:=by
 have h1:(l.take p).length=p:=by rw[bg];omega
 have h2:(List.replicate c x).length=c:=ia
 simp only[au]
 by_cases ha:i<p
 ·rw[if_pos ha,aw (by rw[ap];omega),aw oM,de,if_pos ha]
 ·rw[if_neg ha]
  by_cases hb:i<p+c
  ·rw[if_pos hb,aw (by rw[ap];omega),aq oM,h1,gr,if_pos oM];rfl
  ·rw[if_neg hb,aq (by rw[ap];omega),ap,h1,h2,dp]
   congr 2;omega
theorem II {α:Type} {l:List α} {x:α} {p c:Nat} (hp:p≤l.length):(l.take p++List.replicate c x++l.drop p).length=l.length+c:=by
 simp only[ap,bg,ia,co];omega
theorem i3 {l:List Int} {a:Int}:(∀j,j<leN l a→l.getD j 0≤a)∧(leN l a<l.length→a<l.getD (leN l a) 0):=by
 unfold leN
 induction l with
 |nil=>simp
 |cons x l ih =>
   by_cases hx:x≤a
   ·rw[List.takeWhile_cons_of_pos (by simpa using hx)]
    refine⟨fun j hj=>?_,fun h=>?_⟩
    ·cases j with
     |zero=>exact hx
     |succ j=>simp only[List.getD_cons_succ];exact ih.1 j (by simpa using hj)
    ·simp only[ej,List.getD_cons_succ]
     exact ih.2 (by simpa using h)
   ·rw[List.takeWhile_cons_of_neg (by simpa using hx)]
    refine⟨fun j hj=>by simp at hj,fun _=>by simp;omega⟩
theorem NwV.ins {n:Nw} (h:NwV n) {m:Ms} (hm:msB m=true) {a:Int} (ha:0≤a∧a≤1099512627776) {c:Nat} (hc:n.l.length+c≤1000):NwV (KT n m a c):=by
 have hp:=XR (l:=n.tm) (a:=a)
 have hp2:leN n.tm a≤n.l.length:=by rw[h.len];exact hp
 have hs:=i3 (l:=n.tm) (a:=a)
 refine⟨h.now,?_,?_,?_,?_,?_,?_,?_⟩
 ·show (n.l.take _++_++n.l.drop _).length=(n.tm.take _++_++n.tm.drop _).length
  rw[II hp2,II hp,h.len]
 ·show (n.l.take _++_++n.l.drop _).length≤1000
  rw[II hp2];omega
 ·show (n.fates.drop 1).length≤1000
  have:=h.fl;rw[co];omega
 ·intro f hf
  exact h.fates f (ey hf)
 ·intro x hx
  change x∈n.l.take _++_++n.l.drop _ at hx
  rw[bu,bu]at hx
  rcases hx with (hx|hx)|hx
  ·exact h.ms x (ec hx)
  ·rw[(ma.1 hx).2];exact hm
  ·exact h.ms x (ey hx)
 ·intro x hx
  change x∈n.tm.take _++_++n.tm.drop _ at hx
  rw[bu,bu]at hx
  rcases hx with (hx|hx)|hx
  ·exact h.tm x (ec hx)
  ·rw[(ma.1 hx).2];exact ha
  ·exact h.tm x (ey hx)
 ·intro i hi
  change i+1<(n.tm.take _++_++n.tm.drop _).length at hi
  rw[II hp]at hi
  show (n.tm.take _++_++n.tm.drop _).getD i 0≤(n.tm.take _++_++n.tm.drop _).getD (i+1) 0
  rw[dO hp,dO hp]
  have key:=h.mono
  have so:=h.sorted
  by_cases h1:i+1<leN n.tm a
  ·rw[if_pos h1,if_pos oM];exact key i oM
  ·rw[if_neg h1]
   by_cases h2:i<leN n.tm a
   ·rw[if_pos h2]
    have e1:=hs.1 i h2
    by_cases h3:i+1<leN n.tm a+c
    ·rw[if_pos h3];exact e1
    ·rw[if_neg h3]
     have:c=0:=by omega
     subst this
     have:i+1<n.tm.length:=by omega
     exact key i this
   ·rw[if_neg h2]
    by_cases h3:i+1<leN n.tm a+c
    ·rw[if_pos h3,if_pos oM];exact im _
    ·rw[if_neg h3]
     by_cases h4:i<leN n.tm a+c
     ·rw[if_pos h4]
      have e:i+1-c=leN n.tm a:=by omega
      rw[e]
      have:=hs.2 oM
      omega
     ·rw[if_neg h4]
      have e:i+1-c=i-c+1:=by omega
      rw[e]
      exact key (i-c) oM
theorem fO {α:Type} {l:List α} {d:α} {k:Nat} (i:Nat):(l.take k++l.drop (k+1)).getD i d=if k<l.length∧k≤i then l.getD (i+1) d else l.getD i d:=by
 simp only[au]
 by_cases hk:k<l.length
 ·have h1:(l.take k).length=k:=by rw[bg];omega
  by_cases hi:k≤i
  ·rw[if_pos ⟨hk,hi⟩,aq oM,h1,dp]
   congr 2;omega
  ·rw[if_neg (fun h=>hi h.2),aw oM,de,if_pos oM]
 ·rw[if_neg (fun h=>hk h.1),bo oM,kh oM,ct]
theorem SI {α:Type} {l:List α} {k:Nat} (hk:k<l.length):(l.take k++l.drop (k+1)).length=l.length-1:=by
 simp only[ap,bg,co];omega
theorem NwV.out {n:Nw} (h:NwV n) {k:Nat} (hk:k<n.l.length):NwV (woN n k):=by
 have hk2:k<n.tm.length:=by rw[←h.len];exact hk
 refine⟨h.now,?_,?_,h.fl,h.fates,?_,?_,?_⟩
 ·show (n.l.take k++n.l.drop (k+1)).length=(n.tm.take k++n.tm.drop (k+1)).length
  rw[SI hk,SI hk2,h.len]
 ·show (n.l.take k++n.l.drop (k+1)).length≤1000
  have:=h.l;rw[SI hk];omega
 ·intro x hx
  rcases bu.1 (show x∈n.l.take k++n.l.drop (k+1) from hx) with hx|hx
  ·exact h.ms x (ec hx)
  ·exact h.ms x (ey hx)
 ·intro x hx
  rcases bu.1 (show x∈n.tm.take k++n.tm.drop (k+1) from hx) with hx|hx
  ·exact h.tm x (ec hx)
  ·exact h.tm x (ey hx)
 ·intro i hi
  change i+1<(n.tm.take k++n.tm.drop (k+1)).length at hi
  rw[SI hk2]at hi
  show (n.tm.take k++n.tm.drop (k+1)).getD i 0≤(n.tm.take k++n.tm.drop (k+1)).getD (i+1) 0
  rw[fO,fO]
  by_cases h1:k≤i
  ·rw[if_pos ⟨hk2,h1⟩,if_pos ⟨hk2,by omega⟩];exact h.mono (i+1) oM
  ·rw[if_neg (fun h=>h1 h.2)]
   by_cases h2:k≤i+1
   ·rw[if_pos ⟨hk2,h2⟩];exact h.sorted i (i+2) oM oM
   ·rw[if_neg (fun h=>h2 h.2)];exact h.mono i oM
theorem NwV.at {n:Nw} (h:NwV n) {t:Int} (ht:0≤t∧t≤1099511627776):NwV {n with now:=t}:=⟨ht,h.len,h.l,h.fl,h.fates,h.ms,h.tm,h.mono⟩
structure Sc where
 n:Nw
 sent:List Ms
 due:List Int
 copies:List Int
 got:List Int
 last:Int→Int→Int
def tK (l:List Ms) (k:Int):Nat:=(l.filter fun m=>decide (m.nu=k)).length
structure ScOk (fs:List (Int×Int)) (s:Sc):Prop where
 v:NwV s.n
 few:s.n.l.length≤3*s.sent.length
 ld:s.due.length=s.sent.length
 lc:s.copies.length=s.sent.length
 lg:s.got.length=s.sent.length
 fates:s.n.fates=fs.drop s.sent.length
 num:∀k,k<s.sent.length→(s.sent.getD k dfMs).nu=k
 own:∀i,i<s.n.l.length→∃k,k<s.sent.length∧s.n.l.getD i dfMs=s.sent.getD k dfMs∧s.due.getD k 0≤s.n.tm.getD i 0
 cnt:∀k,k<s.sent.length→(tK s.n.l k:Int)+s.got.getD k 0=s.copies.getD k 0
 ord:s.n.fifo=true→∀i j,i<j→j<s.n.l.length→(s.n.l.getD i dfMs).fr=(s.n.l.getD j dfMs).fr→(s.n.l.getD i dfMs).to=(s.n.l.getD j dfMs).to→(s.n.l.getD i dfMs).nu≤(s.n.l.getD j dfMs).nu
 lst:s.n.fifo=true→∀i,i<s.n.l.length→s.last (s.n.l.getD i dfMs).fr (s.n.l.getD i dfMs).to≤(s.n.l.getD i dfMs).nu
 lub:∀x y,s.last x y≤s.sent.length
 rng:∀k,k<s.sent.length→0≤s.got.getD k 0∧s.copies.getD k 0≤3
theorem zN (a c:List Ms) (k:Int):tK (a++c) k=tK a k+tK c k:=by unfold tK;rw[gv,ap]
theorem ZHa (l:List Ms) (x:Ms) (p c:Nat) (k:Int):tK (l.take p++List.replicate c x++l.drop p) k=tK l k+(if x.nu=k then c else 0):=by
 have h:tK l k=tK (l.take p) k+tK (l.drop p) k:=by rw[←zN,iz]
 have h2:tK (List.replicate c x) k=if x.nu=k then c else 0:=by
  unfold tK
  rw[List.filter_replicate]
  by_cases hx:x.nu=k<;>simp[hx]
 rw[zN,zN,h,h2];omega
theorem ZE3 {l:List Ms} {k:Int} (h:∀i,i<l.length→(l.getD i dfMs).nu≠k):tK l k=0:=by
 unfold tK
 rw[List.length_eq_zero_iff,List.filter_eq_nil_iff]
 intro m hm
 obtain⟨i,hi,rfl⟩:=cu hm
 have:=h i hi
 rw[YA hi]at this
 simpa using this
theorem MF {α:Type} {l r:List α} {d:α} {k:Nat} (h:k<l.length):(l++r).getD k d=l.getD k d:=by
 simp only[au];rw[aw h]
theorem mH {α:Type} {l:List α} {x d:α}:(l++[x]).getD l.length d=x:=by
 simp only[au];rw[aq (ai _)];simp
theorem rW {n:Nw} {m:Ms} (hf:n.fifo=true):∀i j,j<i→(n.l.getD j dfMs).fr=m.fr→(n.l.getD j dfMs).to=m.to→n.tm.getD j 0≤xE n m i
 |0,_,h,_,_=>by omega
 |i+1,j,h,h1,h2=>by
   simp only[xE]
   by_cases hj:j=i
   ·subst hj;rw[if_pos ⟨hf,h1,h2⟩];omega
   ·have:=rW hf i j oM h1 h2
    split<;>omega
theorem ScOk.send {fs:List (Int×Int)} {s:Sc} (h:ScOk fs s) {m:Ms} (hm:msB m=true) (hn:m.nu=s.sent.length) (h60:s.sent.length<60) :
  sdE s.n m=0∧ScOk fs ⟨sdR s.n m,s.sent++[m],s.due++[s.n.now+(s.n.fates.headD (1,0)).2],s.copies++[(s.n.fates.headD (1,0)).1],s.got++[0],s.last⟩:=by
 have hd:=UN h.v
 have ha:=dL h.v (m:=m) s.n.l.length (ai _)
 have ZIH:=h.v.now
 have ZNR:=h.few
 obtain⟨a,hA⟩:∃a,gE s.n m=a:=⟨_,rfl⟩
 change s.n.now≤gE s.n m∧gE s.n m≤_ at ha
 rw[hA]at ha
 obtain⟨c,hC⟩:∃c:Nat,(s.n.fates.headD (1,0)).1=(c:Int):=⟨(s.n.fates.headD (1,0)).1.toNat,by omega⟩
 have kY:c≤3:=by omega
 have he:sdE s.n m=0:=by
  unfold sdE wR
  rw[hA,hC,if_neg oM,if_neg oM]
 have hr:sdR s.n m=KT s.n m a c:=by
  unfold sdR wR
  rw[if_pos he,hA,hC,ca]
 refine⟨he,?_⟩
 rw[hr,hC]
 obtain⟨p,hp⟩:∃p,leN s.n.tm a=p:=⟨_,rfl⟩
 have hs:=i3 (l:=s.n.tm) (a:=a)
 have LJ:=XR (l:=s.n.tm) (a:=a)
 rw[hp]at hs LJ
 have ZMA:p≤s.n.l.length:=by rw[h.v.len];exact LJ
 have el:(KT s.n m a c).l=s.n.l.take p++List.replicate c m++s.n.l.drop p:=by rw[←hp];rfl
 have et:(KT s.n m a c).tm=s.n.tm.take p++List.replicate c a++s.n.tm.drop p:=by rw[←hp];rfl
 have ef:(KT s.n m a c).fifo=s.n.fifo:=rfl
 have g:=fun i=>dO (l:=s.n.l) (x:=m) (d:=dfMs) (c:=c) ZMA i
 have gt:=fun i=>dO (l:=s.n.tm) (x:=a) (d:=0) (c:=c) LJ i
 have ll:(KT s.n m a c).l.length=s.n.l.length+c:=by rw[el,II ZMA]
 have late:∀j,p≤j→j<s.n.l.length→a<s.n.tm.getD j 0:=fun j h1 h2=>by
  have hjt:j<s.n.tm.length:=by rw[←h.v.len];exact h2
  have:=hs.2 oM
  have:=h.v.sorted p j h1 hjt
  omega
 have old:∀i,i<s.n.l.length→(s.n.l.getD i dfMs).nu<s.sent.length:=fun i hi=>by
  obtain⟨k,h1,h2,_⟩:=h.own i hi
  rw[h2,h.num k h1];omega
 refine⟨h.v.ins hm oM oM,?_,?_,?_,?_,?_,?_,?_,?_,?_,?_,?_,?_⟩
 ·show (KT s.n m a c).l.length≤3*(s.sent++[m]).length
  rw[ll,ap,dw];omega
 ·simp[h.ld]
 ·simp[h.lc]
 ·simp[h.lg]
 ·show s.n.fates.drop 1=fs.drop (s.sent++[m]).length
  rw[h.fates,List.drop_drop,ap,dw]
 ·intro k hk
  simp only[ap,dw]at hk
  by_cases h1:k<s.sent.length
  ·simp only[MF h1];exact h.num k h1
  ·obtain rfl:k=s.sent.length:=by omega
   simp only[mH];exact hn
 ·intro i hi
  simp only at hi⊢
  rw[ll]at hi
  rw[el,et,g,gt]
  by_cases h1:i<p
  ·rw[if_pos h1,if_pos h1]
   obtain⟨k,k1,k2,k3⟩:=h.own i oM
   exact⟨k,by simp;omega,by rw[MF k1];exact k2,by rw[MF (by rw[h.ld];exact k1)];exact k3⟩
  ·rw[if_neg h1,if_neg h1]
   by_cases h2:i<p+c
   ·rw[if_pos h2,if_pos h2]
    refine⟨s.sent.length,by simp,by rw[mH],?_⟩
    rw[←h.ld,mH,←hA]
    exact dW (n:=s.n) (m:=m) _
   ·rw[if_neg h2,if_neg h2]
    obtain⟨k,k1,k2,k3⟩:=h.own (i-c) oM
    exact⟨k,by simp;omega,by rw[MF k1];exact k2,by rw[MF (by rw[h.ld];exact k1)];exact k3⟩
 ·intro k hk
  simp only[ap,dw]at hk⊢
  rw[el,ZHa]
  by_cases h1:k<s.sent.length
  ·rw[if_neg (by rw[hn];omega),MF (by rw[h.lg];exact h1),MF (by rw[h.lc];exact h1)]
   exact h.cnt k h1
  ·obtain rfl:k=s.sent.length:=by omega
   rw[if_pos hn,ZE3 (fun i hi=>by have:=old i hi;omega)]
   have e1:(s.got++[0]).getD s.sent.length 0=0:=by rw[←h.lg,mH]
   have e2:(s.copies++[(c:Int)]).getD s.sent.length 0=c:=by rw[←h.lc,mH]
   rw[e1,e2];omega
 ·intro hf i j J5 hj
  simp only at hf hj⊢
  rw[ll]at hj
  rw[el,g,g]
  by_cases i1:i<p
  ·rw[if_pos i1]
   by_cases j1:j<p
   ·rw[if_pos j1];exact h.ord hf i j J5 oM
   ·rw[if_neg j1]
    by_cases j2:j<p+c
    ·rw[if_pos j2];intro _ _;have:=old i oM;omega
    ·rw[if_neg j2];exact h.ord hf i (j-c) oM oM
  ·rw[if_neg i1,if_neg (show ¬j<p by omega)]
   by_cases i2:i<p+c
   ·rw[if_pos i2]
    by_cases j2:j<p+c
    ·rw[if_pos j2];intro _ _;exact im _
    ·rw[if_neg j2]
     intro e1 e2
     have:=late (j-c) oM oM
     have:=rW (n:=s.n) (m:=m) hf s.n.l.length (j-c) oM e1.symm e2.symm
     change _≤gE s.n m at this
     omega
   ·rw[if_neg i2,if_neg (show ¬j<p+c by omega)]
    exact h.ord hf (i-c) (j-c) oM oM
 ·intro hf i hi
  simp only at hf hi⊢
  rw[ll]at hi
  rw[el,g]
  by_cases i1:i<p
  ·rw[if_pos i1];exact h.lst hf i oM
  ·rw[if_neg i1]
   by_cases i2:i<p+c
   ·rw[if_pos i2,hn];exact h.lub _ _
   ·rw[if_neg i2];exact h.lst hf (i-c) oM
 ·intro x y
  have:=h.lub x y
  simp only[ap,dw];omega
 ·intro k hk
  simp only[ap,dw]at hk⊢
  by_cases h1:k<s.sent.length
  ·rw[MF (by rw[h.lg];exact h1),MF (by rw[h.lc];exact h1)]
   exact h.rng k h1
  ·obtain rfl:k=s.sent.length:=by omega
   have e1:(s.got++[0]).getD s.sent.length 0=0:=by rw[←h.lg,mH]
   have e2:(s.copies++[(c:Int)]).getD s.sent.length 0=c:=by rw[←h.lc,mH]
   rw[e1,e2];omega
theorem ZBA {l:List Ms} {k:Nat} (hk:k<l.length) (x:Int):tK (l.take k++l.drop (k+1)) x+(if (l.getD k dfMs).nu=x then 1 else 0)=tK l x:=by
 have h:l=l.take k++([l.getD k dfMs]++l.drop (k+1)):=by
  rw[YA hk,List.singleton_append,←List.drop_eq_getElem_cons hk,iz]
 have h2:tK [l.getD k dfMs] x=if (l.getD k dfMs).nu=x then 1 else 0:=by
  obtain⟨z,hz⟩:∃z,l.getD k dfMs=z:=⟨_,rfl⟩
  rw[hz]
  unfold tK
  by_cases hx:z.nu=x<;>simp[hx]
 have h3:tK l x=tK (l.take k) x+(tK [l.getD k dfMs] x+tK (l.drop (k+1)) x):=by
  conv=>lhs;rw[h]
  rw[zN,zN]
 rw[zN,h3,h2];omega
theorem J1 {α:Type} {l:List α} {q k:Nat} {x d:α} (hq:q<l.length):(l.set q x).getD k d=if k=q then x else l.getD k d:=by
 simp only[au]
 by_cases h:k=q
 ·subst h;rw[if_pos rfl,ay hq];rfl
 ·rw[if_neg h,bl (fun e=>h e.symm)]
theorem ScOk.recv {fs:List (Int×Int)} {s:Sc} (h:ScOk fs s) {to:Int} {k:Nat} (hk:k<s.n.l.length) (ha:arB s.n to k=true) (h0:∀j,j<k→arB s.n to j=false) :
  ∃q,q<s.sent.length∧s.n.l.getD k dfMs=s.sent.getD q dfMs∧(s.n.l.getD k dfMs).nu=q∧(s.n.l.getD k dfMs).to=to∧s.due.getD q 0≤s.n.now ∧
   (s.n.fifo=true→s.last (s.n.l.getD k dfMs).fr (s.n.l.getD k dfMs).to≤q)∧s.got.getD q 0+1≤s.copies.getD q 0 ∧
   ScOk fs ⟨woN s.n k,s.sent,s.due,s.copies,s.got.set q (s.got.getD q 0+1),fun x y=>if x=(s.n.l.getD k dfMs).fr∧y=(s.n.l.getD k dfMs).to then q else s.last x y⟩:=by
 obtain⟨q,q1,q2,q3⟩:=h.own k hk
 unfold arB at ha
 simp only[ar,bf]at ha
 obtain⟨a1,a2⟩:=ha
 have hkt:k<s.n.tm.length:=by rw[←h.v.len];exact hk
 have hnu:(s.n.l.getD k dfMs).nu=q:=by rw[q2];exact h.num q q1
 have hqg:q<s.got.length:=by rw[h.lg];exact q1
 have nX:=ZBA hk (q:Int)
 rw[if_pos hnu]at nX
 have hcq:=h.cnt q q1
 refine⟨q,q1,q2,hnu,a1,by omega,fun hf=>by have:=h.lst hf k hk;rw[hnu]at this;exact this,by omega,?_⟩
 have g:=fun i=>fO (l:=s.n.l) (d:=dfMs) (k:=k) i
 have gt:=fun i=>fO (l:=s.n.tm) (d:=0) (k:=k) i
 have ll:(woN s.n k).l.length=s.n.l.length-1:=SI hk
 have el:(woN s.n k).l=s.n.l.take k++s.n.l.drop (k+1):=rfl
 have et:(woN s.n k).tm=s.n.tm.take k++s.n.tm.drop (k+1):=rfl
 obtain⟨σ,hσ⟩:∃σ:Nat→Nat,∀i,σ i=if k≤i then i+1 else i:=⟨_,fun _=>rfl⟩
 have gl:∀i,(woN s.n k).l.getD i dfMs=s.n.l.getD (σ i) dfMs:=fun i=>by
  rw[el,g,hσ]
  by_cases hi:k≤i
  ·rw[if_pos ⟨hk,hi⟩,if_pos hi]
  ·rw[if_neg (fun h=>hi h.2),if_neg hi]
 have gm:∀i,(woN s.n k).tm.getD i 0=s.n.tm.getD (σ i) 0:=fun i=>by
  rw[et,gt,hσ]
  by_cases hi:k≤i
  ·rw[if_pos ⟨hkt,hi⟩,if_pos hi]
  ·rw[if_neg (fun h=>hi h.2),if_neg hi]
 have sl:∀i,i<s.n.l.length-1→σ i<s.n.l.length∧σ i≠k:=fun i hi=>by
  rw[hσ];split<;>omega
 have sm:∀i j,i<j→σ i<σ j:=fun i j J5=>by
  rw[hσ,hσ];split<;>split<;>omega
 refine⟨h.v.out hk,?_,h.ld,h.lc,by simp[h.lg],h.fates,h.num,?_,?_,?_,?_,?_,?_⟩
 ·show (woN s.n k).l.length≤3*s.sent.length
  have:=h.few;rw[ll];omega
 ·intro i hi
  simp only at hi⊢
  rw[ll]at hi
  rw[gl,gm]
  exact h.own (σ i) (sl i hi).1
 ·intro x hx
  simp only at hx⊢
  rw[el,J1 hqg]
  have:=ZBA hk (x:Int)
  have hcx:=h.cnt x hx
  by_cases hxq:x=q
  ·subst hxq;rw[if_pos rfl];omega
  ·rw[if_neg hxq]
   rw[if_neg (by rw[hnu];omega)]at this
   omega
 ·intro hf i j J5 hj
  simp only at hf hj⊢
  rw[ll]at hj
  rw[gl,gl]
  exact h.ord hf (σ i) (σ j) (sm i j J5) (sl j hj).1
 ·intro hf i hi
  simp only at hf hi⊢
  rw[ll]at hi
  rw[gl]
  by_cases hc:(s.n.l.getD (σ i) dfMs).fr=(s.n.l.getD k dfMs).fr∧(s.n.l.getD (σ i) dfMs).to=(s.n.l.getD k dfMs).to
  ·rw[if_pos hc]
   have hgt:k<σ i:=by
    rcases bp k (σ i) with h1|h1
    ·exact h1
    ·exfalso
     have h2:σ i<k:=by have:=(sl i hi).2;omega
     have h3:=h0 (σ i) h2
     have h4:=h.v.sorted (σ i) k oM hkt
     unfold arB at h3
     rw[ae (show (s.n.l.getD (σ i) dfMs).to=to by rw[hc.2];exact a1),ae (show s.n.tm.getD (σ i) 0≤s.n.now by omega)]at h3
     cases h3
   have:=h.ord hf k (σ i) hgt (sl i hi).1 hc.1.symm hc.2.symm
   rw[hnu]at this
   exact this
  ·rw[if_neg hc]
   exact h.lst hf (σ i) (sl i hi).1
 ·intro x y
  simp only
  split
  ·omega
  ·exact h.lub x y
 ·intro x hx
  simp only at hx⊢
  rw[J1 hqg]
  have:=h.rng x hx
  have:=h.rng q q1
  split<;>omega
theorem ScOk.at {fs:List (Int×Int)} {s:Sc} (h:ScOk fs s) {t:Int} (ht:0≤t∧t≤1099511627776):ScOk fs {s with n:={s.n with now:=t}}:=
 ⟨h.v.at ht,h.few,h.ld,h.lc,h.lg,h.fates,h.num,h.own,h.cnt,h.ord,h.lst,h.lub,h.rng⟩
theorem ScOk.done {fs:List (Int×Int)} {s:Sc} (h:ScOk fs s) (h0:s.n.l=[]):s.got=s.copies:=by
 apply ea
 intro k
 by_cases hk:k<s.sent.length
 ·have:=h.cnt k hk
  rw[h0]at this
  have e:tK [] (k:Int)=0:=rfl
  rw[e]at this
  rw[ah (by rw[h.lg];exact hk),ah (by rw[h.lc];exact hk)]
  rw[YA (by rw[h.lg];exact hk),YA (by rw[h.lc];exact hk)]at this
  congr 1;omega
 ·rw[cg (by rw[h.lg];omega),cg (by rw[h.lc];omega)]
theorem ScOk.start {fs:List (Int×Int)} (fifo:Bool) (h:∀f∈fs,ftB f=true) (hl:fs.length≤1000):ScOk fs ⟨⟨0,fifo,[],[],fs⟩,[],[],[],[],fun _ _=>0⟩:=
 ⟨⟨⟨(by decide:(0:Int)≤0),(by decide:(0:Int)≤1099511627776)⟩,rfl,by simp,hl,h,by simp,by simp,by simp⟩,by simp,rfl,rfl,rfl,rfl,by simp,by simp,by simp,by simp,by simp,by simp,by simp⟩
structure WdV (w:Wd):Prop where
 sv:FF w.sv=true
 now:0≤w.now∧w.now≤1000000000
 net:NwV w.net
 nnow:w.net.now=w.now
 tr:Vok w.tr
 len:w.tr.length=w.sv.length
 fit:∀p,p<w.tr.length→dI (w.tr.getD p dfPr) (w.sv.getD p dfSv) w.now=true
 snt:∀x∈ids w.tr,(uA w.tr x).kind=2→(uA w.tr x).msg<w.sent
 cnt:(cSd w.tr w.tr.length:Int)=w.sent
 msg:∀m∈w.net.l,mgB w.tr m=true
theorem WdV.of {w:Wd} (h:wdB w=true):WdV w:=by
 unfold wdB at h
 simp only[ar,bf]at h
 obtain⟨h1,h2,h3,h4,h5,h6,h7,h8,h9⟩:=h
 unfold inZ at h2
 simp only[ar,bf]at h2
 have hp:∀p,p<w.tr.length→prB w p=true:=fun p hp=>bn.1 h7 p (ba.2 hp)
 unfold prB at hp
 refine⟨h1,h2,VG.1 h3,h4,vok h5,h6,fun p hl=>(ar _ _▸hp p hl).1,fun x hx hk=>?_,h8,fun m hm=>bn.1 h9 m hm⟩
 obtain⟨q,i⟩:=x
 obtain⟨i,rfl⟩:∃k,i=k+1:=⟨i-1,by have:=lG hx;simp only at this;omega⟩
 obtain⟨g1,g2⟩:=yE.1 hx
 have:=(ar _ _▸hp q g1).2
 have:=bn.1 this i (ba.2 g2)
 unfold sOk at this
 change (((nA w.tr q).getD i PI).kind)=2 at hk
 rw[hk]at this
 show ((nA w.tr q).getD i PI).msg<w.sent
 simpa using this
theorem WdV.to {w:Wd} (h:WdV w):wdB w=true:=by
 have h7:(List.range w.tr.length).all (prB w)=true:=by
  rw[bn]
  intro p hp
  have hp:=ba.1 hp
  unfold prB
  rw[h.fit p hp,ib,bn]
  intro i hi
  have hi:=ba.1 hi
  unfold sOk
  by_cases hk:((nA w.tr p).getD i PI).kind=2
  ·have:=h.snt (p,i+1) (yE.2 ⟨hp,hi⟩) hk
   have e:((nA w.tr p).getD i PI).msg<w.sent:=this
   rw[ae e,Bool.or_true]
  ·rw[dr.2 hk];rfl
 have h2:inZ w.now 0 1000000000=true:=by unfold inZ;simp;exact h.now
 unfold wdB
 rw[h.sv,h2,VG.2 h.net,ae h.nnow,EI h.tr,ae h.len,h7,ae h.cnt,bn.2 h.msg];rfl
structure SvV (s:Sv) (p n:Int):Prop where
 name:eD s.name=true
 cl:1≤s.code.length∧s.code.length≤100
 vl:s.vars.length≤8
 pc:0≤s.pc∧s.pc≤s.code.length
 rt:JJ s=true
 vs:∀v∈s.vars,vlB v=true
 ins:∀x∈s.code,JE s.vars.length s.code.length p n x=true
theorem ZAD {s:Sv} {p n:Int}:sv1 s p n=true↔SvV s p n:=by
 unfold sv1 inZ
 simp only[ar,bf,bn]
 constructor
 ·rintro⟨h1,h2,h3,h4,h5,h6,h7⟩
  exact⟨h1,by omega,h3,h4,h5,h6,h7⟩
 ·rintro⟨h1,h2,h3,h4,h5,h6,h7⟩
  exact⟨h1,by omega,h3,h4,h5,h6,h7⟩
theorem IH {l:List Sv} (h:FF l=true) {p:Nat} (hp:p<l.length):SvV (l.getD p dfSv) p l.length∧∀q,q<p→(l.getD q dfSv).name≠(l.getD p dfSv).name:=by
 unfold FF at h
 rw[ar]at h
 have:=bn.1 h.2 p (ba.2 hp)
 unfold svB at this
 rw[ar]at this
 refine⟨ZAD.1 this.1,fun q hq he=>?_⟩
 have ET:q<l.length:=by omega
 have hm:l.getD q dfSv∈l.take p:=by
  rw[YA ET]
  exact ek.2 ⟨q,by rw[de,if_pos hq,ah ET]⟩
 have:=bn.1 this.2 _ hm
 rw[he,TK]at this
 cases this
theorem ZJR {l:List Sv} (hl:1≤l.length∧l.length≤8) (h:∀p,p<l.length→SvV (l.getD p dfSv) p l.length∧∀q,q<p→(l.getD q dfSv).name≠(l.getD p dfSv).name):FF l=true:=by
 unfold FF
 rw[ar]
 refine⟨by unfold inZ;simp only[bf];omega,bn.2 fun p hp=>?_⟩
 have hp:=ba.1 hp
 obtain⟨h1,h2⟩:=h p hp
 unfold svB
 rw[ar]
 refine⟨ZAD.2 h1,bn.2 fun x hx=>?_⟩
 obtain⟨q,hq⟩:=ek.1 hx
 rw[de]at hq
 split at hq
 ·rename_i hqp
  have:=h2 q hqp
  rw[au,hq,fu]at this
  cases hb:x.name==(l.getD p dfSv).name with
  |false=>rfl
  |true=>exact absurd (MT hb) this
 ·cases hq
theorem LP {l:List Sv} (h:FF l=true):1≤l.length∧l.length≤8:=by
 unfold FF inZ at h
 simp only[ar,bf]at h
 omega
theorem ZG9 {l:List Sv} (h:FF l=true) {p:Nat} (hp:p<l.length) {c:Int} {v:List Int} (hc:0≤c∧c≤(l.getD p dfSv).code.length) (hv:v.length=(l.getD p dfSv).vars.length) (bU:∀x∈v,vlB x=true) :
  FF (l.set p {l.getD p dfSv with pc:=c,vars:=v})=true:=by
 have hn:=LP h
 have g:∀q,(l.set p {l.getD p dfSv with pc:=c,vars:=v}).getD q dfSv=if p=q then {l.getD p dfSv with pc:=c,vars:=v} else l.getD q dfSv:=fun q=>by
  split
  ·rename_i e;subst e
   rw[au,ay hp];rfl
  ·rename_i e
   rw[au,bl e,←au]
 have gn:∀q,((l.set p {l.getD p dfSv with pc:=c,vars:=v}).getD q dfSv).name=(l.getD q dfSv).name:=fun q=>by
  rw[g];split
  ·rename_i e;subst e;rfl
  ·rfl
 refine ZJR (by rw[dh];exact hn) (fun q hq=>?_)
 rw[dh]at hq⊢
 obtain⟨h1,h2⟩:=IH h hq
 refine⟨?_,fun r hr=>by rw[gn,gn];exact h2 r hr⟩
 rw[g];split
 ·rename_i e;subst e
  exact⟨h1.name,h1.cl,by show v.length≤8;rw[hv];exact h1.vl,hc,h1.rt,bU,by show ∀x∈(l.getD p dfSv).code,JE v.length _ _ _ x=true;rw[hv];exact h1.ins⟩
 ·exact h1
theorem ZAE {p:Pr} {e:Ev}:∀k,k≤p.evs.length→stV {p with evs:=p.evs++[e]} k=stV p k
 |0,_=>rfl
 |k+1,h=>by
   have ih:=ZAE (p:=p) (e:=e) k oM
   simp only[stV]
   rw[ih,au,aw oM,←au]
theorem ZET {p:Pr} {e:Ev}:rM {p with evs:=p.evs++[e]}=apE (rM p) e:=by
 unfold rM
 show stV {p with evs:=p.evs++[e]} (p.evs++[e]).length=_
 rw[ap,dw]
 simp only[stV]
 rw[ZAE _ (ai _),au,aq (ai _),dy];rfl
theorem ZAd {l:List Ev} {e:Ev}:∀k,k≤l.length→nSd (l++[e]) k=nSd l k
 |0,_=>rfl
 |k+1,h=>by
   have ih:=ZAd (l:=l) (e:=e) k oM
   simp only[nSd]
   rw[ih,au,aw oM,←au]
theorem ZEB {l:List Ev} {e:Ev}:nSd (l++[e]) (l++[e]).length=nSd l l.length+if e.kind=2 then 1 else 0:=by
 rw[ap,dw]
 simp only[nSd]
 rw[ZAd _ (ai _),au,aq (ai _),dy]
 simp only[kz,fu]
 split<;>omega
theorem ZBB {t:Tr} {p:Nat} {e:Ev} (hp:p<t.length):∀k,k≤t.length→cSd (EB t p e) k=cSd t k+if p<k∧e.kind=2 then 1 else 0
 |0,_=>by simp[cSd]
 |k+1,h=>by
   have ih:=ZBB (e:=e) hp k oM
   simp only[cSd]
   rw[ih]
   by_cases hk:p=k
   ·subst hk
    rw[aL hp,ZEB,if_neg oM]
    by_cases h2:e.kind=2
    ·rw[if_pos h2,if_pos ⟨by omega,h2⟩];omega
    ·rw[if_neg h2,if_neg (fun h=>h2 h.2)];omega
   ·rw[AQ hk]
    by_cases h2:p<k∧e.kind=2
    ·rw[if_pos h2,if_pos ⟨by omega,h2.2⟩];omega
    ·rw[if_neg h2,if_neg (fun h=>h2 ⟨by omega,h.2⟩)];omega
structure PutOk (w:Wd) (p:Nat) (s:Sv) (e:Ev) (n:Nw) (sn:Int):Prop where
 hp:p<w.sv.length
 sv:∃c v,s={w.sv.getD p dfSv with pc:=c,vars:=v}∧(0≤c∧c≤(w.sv.getD p dfSv).code.length)∧v.length=(w.sv.getD p dfSv).vars.length∧(∀x∈v,vlB x=true)∧apE (w.sv.getD p dfSv).vars e=v
 room:(nA w.tr p).length<64
 form:JB w.tr.length p e=true
 al:e.asg.length≤8
 af:sB (gJ (w.sv.getD p dfSv).vars.length e.asg) e.asg.length=0
 snd:e.kind=2→e.msg=w.sent
 rcv:e.kind=3→(∀x∈ids w.tr,(uA w.tr x).kind=3→(uA w.tr x).msg≠e.msg)∧sendsB w.tr e.peer.toNat e.msg p=true
 net:NwV n
 now:n.now=w.now
 sent:sn=if e.kind=2 then w.sent+1 else w.sent
 msg:∀m∈n.l,mgB w.tr m=true∨(e.kind=2∧m.body.length=1∧m.nu=w.sent∧m.fr=p∧m.to=e.peer)
def ZCm (w:Wd) (p:Nat) (e:Ev):Ev:={e with time:=CH (w.sv.getD p dfSv) w.now}
theorem m9 {s:Sv} (hr:JJ s=true) {now:Int} (hn:0≤now∧now≤1000000000):CH s now=s.off+now*s.rate / 1000∧0≤CH s now∧CH s now≤1099511627776:=by
 have hk:eH s now=true:=by
  unfold eH inZ;rw[hr];simp;exact hn
 obtain⟨h1,h2,h3,h4,h5⟩:=l9 hk
 unfold CH
 rw[if_pos hk]
 refine⟨rfl,?_,?_⟩<;>omega
theorem PutOk.ev {w:Wd} (hw:WdV w) {p:Nat} {s:Sv} {e:Ev} {n:Nw} {sn:Int} (h:PutOk w p s e n sn):NewEv w.tr p (ZCm w p e):=by
 have hp:p<w.tr.length:=by rw[hw.len];exact h.hp
 have hf:=hw.fit p hp
 unfold dI at hf
 simp only[ar,bf]at hf
 obtain⟨_,f2,_,_,f5⟩:=hf
 have hs:=(IH hw.sv h.hp).1
 have hc:=m9 hs.rt hw.now
 refine⟨hw.tr,hp,h.room,h.form,?_,fun i hi=>?_,h.al,?_,fun hk x hx hxk=>?_,h.rcv⟩
 ·unfold inB ZCm;simp;exact hc.2
 ·unfold CU at f5
  have qP:(w.tr.getD p dfPr).evs=nA w.tr p:=rfl
  rw[qP,hi]at f5
  simp only[bf,fd]at f5
  rcases f5 with f5|f5
  ·omega
  ·exact f5
 ·rw[f2];exact h.af
 ·have:=hw.snt x hx hxk
  have h2:=h.snd hk
  show _≠e.msg
  omega
theorem ZJ9 {t:Tr} {p:Nat} {e:Ev} (h:NewEv t p e) {m:Ms} (hm:mgB t m=true):mgB (EB t p e) m=true:=by
 unfold mgB at hm⊢
 simp only[ar,bf]at hm
 obtain⟨h1,h2,h3,h4⟩:=hm
 obtain⟨q,i,hq,hpl,hi⟩:=mO h2
 have hv:=EI h.v
 have hv2:=EI (E8 h)
 rw[uL hv]at hq
 have hf:TC t 2 m.nu=some (q,i+1):=by
  cases hc:TC t 2 m.nu with
  |none =>
    have:DB t 2 m.nu=(0,0):=by unfold DB jA;show (TC t 2 m.nu).getD (0,0)=_;rw[hc];rfl
    rw[this]at hq
    have:=congrArg Prod.snd hq;simp only at this;omega
  |some x=>have:=(YC hc).1;rw[show jA t (ids t) 2 m.nu=DB t 2 m.nu from rfl,hq]at this;rw[this]
 have hx:=PJ hf
 obtain⟨k1,k2⟩:=UF hf
 have hf2:TC (EB t p e) 2 m.nu=some (q,i+1):=by
  rw[SJ h (.inl rfl),if_neg (fun hc=>h.fresh (.inl rfl) hc.1 hx k1 (k2.trans hc.2.symm))];exact hf
 have e2:QC (EB t p e) 2 m.nu=(q,i+1):=by rw[uL hv2];exact (YC hf2).1
 have e1:QC t 2 m.nu=(q,i+1):=by rw[uL hv];exact hq
 rw[e1]at h3 h4
 rw[e2,QK h.hp hx,ae h1,ae h3,ae h4];rfl
theorem ZJa {t:Tr} {p:Nat} {e:Ev} (h:NewEv t p e) (hk:e.kind=2) {m:Ms} (h1:m.body.length=1) (h2:m.nu=e.msg) (h3:m.fr=p) (h4:m.to=e.peer):mgB (EB t p e) m=true:=by
 have hf2:TC (EB t p e) 2 m.nu=some (p,(nA t p).length+1):=by
  rw[SJ h (.inl rfl),if_pos ⟨hk,h2.symm⟩]
 have e2:QC (EB t p e) 2 m.nu=(p,(nA t p).length+1):=by rw[uL (EI (E8 h))];exact (YC hf2).1
 unfold mgB
 rw[e2,GL h.hp,ae h1,ae h3.symm,ae h4.symm];rfl
def ZDQ (w:Wd) (p:Nat) (s:Sv) (e:Ev) (n:Nw) (sn:Int):Wd:={MG w p s e with net:=n,sent:=sn}
theorem PutOk.tr {w:Wd} {p:Nat} {s:Sv} {e:Ev} {n:Nw} {sn:Int} (h:PutOk w p s e n sn):(ZDQ w p s e n sn).tr=EB w.tr p (ZCm w p e):=by
 obtain⟨c,v,rfl,_⟩:=h.sv
 rfl
theorem PutOk.valid {w:Wd} (hw:WdV w) {p:Nat} {s:Sv} {e:Ev} {n:Nw} {sn:Int} (h:PutOk w p s e n sn):WdV (ZDQ w p s e n sn):=by
 have he:=h.ev hw
 have ht:=h.tr
 have hp:=he.hp
 obtain⟨c,v,hs,hc,bU,wO,hap⟩:=h.sv
 have UU:(ZDQ w p s e n sn).sv=w.sv.set p s:=rfl
 refine⟨?_,hw.now,h.net,h.now,?_,?_,fun q hq=>?_,fun x hx hk=>?_,?_,fun m hm=>?_⟩
 ·rw[UU,hs];exact ZG9 hw.sv h.hp hc bU wO
 ·rw[ht];exact E8 he
 ·rw[ht,jI,UU,dh];exact hw.len
 ·rw[ht,jI]at hq
  have hf:=hw.fit q hq
  rw[ht,UU]
  show dI _ _ w.now=true
  by_cases hpq:p=q
  ·subst hpq
   rw[YN hp,au (l:=w.sv.set p s),ay h.hp,fu]
   unfold dI at hf⊢
   simp only[ar,bf]at hf⊢
   obtain⟨f1,f2,f3,f4,f5⟩:=hf
   rw[hs]
   refine⟨f1,?_,?_,?_,?_⟩
   ·show (w.tr.getD p dfPr).vars.length=v.length
    rw[bU];exact f2
   ·show fY _ v.length=true
    rw[bU];exact f3
   ·have:rM {w.tr.getD p dfPr with evs:=(w.tr.getD p dfPr).evs++[ZCm w p e]}=v:=by
     rw[ZET,f4];exact hap
    exact this
   ·unfold CU
    simp only[bf]
    refine .inr ?_
    show (List.getD (nA w.tr p++[ZCm w p e]) ((nA w.tr p++[ZCm w p e]).length-1) PI).time≤_
    rw[ap,dw,fd,au,aq (ai _),dy]
    exact im _
  ·rw[WO hpq,au (l:=w.sv.set p s),bl hpq,←au]
   exact hf
 ·have S0:=h.sent
  show (uA (ZDQ w p s e n sn).tr x).msg<sn
  rw[ht]at hx hk⊢
  rcases (eL hp).1 hx with hx|hx
  ·rw[QK hp hx]at hk⊢
   have:=hw.snt x hx hk
   split at S0<;>omega
  ·rw[hx,GL hp]at hk⊢
   have hk:e.kind=2:=hk
   have:=h.snd hk
   rw[if_pos hk]at S0
   show e.msg<sn
   omega
 ·rw[ht,jI,ZBB hp _ (ai _)]
  have S0:=h.sent
  have hc:=hw.cnt
  show _=sn
  have hk:(ZCm w p e).kind=e.kind:=rfl
  rw[hk,S0]
  by_cases h2:e.kind=2
  ·rw[if_pos ⟨hp,h2⟩,if_pos h2];omega
  ·rw[if_neg (fun h=>h2 h.2),if_neg h2];omega
 ·rw[ht]
  rcases h.msg m hm with h1|⟨h1,h2,h3,h4,h5⟩
  ·exact ZJ9 he h1
  ·exact ZJa he h1 h2 (by rw[h3];exact (h.snd h1).symm) h4 h5
def m7:Ms:=⟨0,1,7,[]⟩
def m8:Ms:=⟨0,1,8,[]⟩
theorem r9 {n:Nw} {to:Int} (h:0≤fiR n to):∃k:Nat,fiR n to=k∧k<n.l.length∧arB n to k=true∧∀j,j<k→arB n to j=false:=by
 unfold fiR pY at *
 cases hf:(List.range n.l.length).find? (arB n to) with
 |none=>rw[hf]at h;cases h
 |some k =>
   refine⟨k,rfl,ba.1 (fk hf),ge hf,fun j hj=>?_⟩
   obtain⟨as1,bs1,h1,h2⟩:=List.find?_eq_some_iff_append.1 hf |>.2
   have hjr:(List.range n.l.length)[j]? = some j:=jm (by have:=ba.1 (fk hf);omega)
   have IB:as1.length=k:=by
    have h3:(List.range n.l.length)[as1.length]? = some k:=by rw[h1];simp
    have h4:=(am.1 h3).1
    rw[jo]at h4
    rw[jm h4]at h3
    exact jd h3
   rw[h1,aw oM]at hjr
   have:=h2 j (ci hjr)
   simpa using this
theorem pX {n:Nw} {to:Int}:∀i,(∀j,j<i→arB n to j=false)→wtN n to i=0
 |0,_=>rfl
 |i+1,h=>by
   simp only[wtN]
   rw[h i oM,pX i (fun j hj=>h j oM)];rfl
theorem ZAr {n:Nw} {to:Int} (h:fiR n to<0):∀j,j<n.l.length→arB n to j=false:=by
 intro j hj
 cases hc:arB n to j with
 |false=>rfl
 |true =>
   exfalso
   unfold fiR pY at h
   cases hf:(List.range n.l.length).find? (arB n to) with
   |none =>
     have:=db.1 hf j (ba.2 hj)
     rw[hc]at this;exact this rfl
   |some k=>rw[hf]at h;simp only at h;omega
theorem asg1 {nv i:Nat} (hi:i<nv) {v:Int} (hv:vlB v=true):sB (gJ nv [⟨i,v⟩]) 1=0:=by
 have hb:QL v=true:=by
  unfold vlB at hv;unfold QL
  simpa using hv
 have zE:inB ((i:Nat):Int) 0 ((nv:Int)-1)=true:=by
  unfold inB;simp;omega
 simp only[sB,if_true]
 unfold gJ
 simp only[List.getD_cons_zero,hb,zE,kj,List.any_nil]
 rfl
theorem gY {l:List Int} {i:Nat} {v:Int} (h:∀x∈l,vlB x=true) (hv:vlB v=true):∀x∈l.set i v,vlB x=true:=fun x hx=>by
 rcases List.mem_or_eq_of_mem_set hx with h1|h1
 ·exact h x h1
 ·rw[h1];exact hv
theorem V9 {w:Wd} (hw:WdV w) {p:Nat} (hp:p<w.sv.length) (zC:(nA w.tr p).length<64) {c:Int} {v:List Int} {a:List Asg} (hc:0≤c∧c≤(w.sv.getD p dfSv).code.length) (hv:v.length=(w.sv.getD p dfSv).vars.length) (wO:∀x∈v,vlB x=true)
  (al:a.length≤8) (af:sB (gJ (w.sv.getD p dfSv).vars.length a) a.length=0) (hap:apE (w.sv.getD p dfSv).vars ⟨1,0,0,0,a⟩=v) {n:Nw} (hn:NwV n) (j0:n.now=w.now) (hm:∀m∈n.l,m∈w.net.l) :
  PutOk w p {w.sv.getD p dfSv with pc:=c,vars:=v} ⟨1,0,0,0,a⟩ n w.sent:=
 ⟨hp,⟨c,v,rfl,hc,hv,wO,hap⟩,zC,rfl,al,af,fun h=>absurd (show (1:Int)=2 from h) kE,fun h=>absurd (show (1:Int)=3 from h) kE,hn,j0,rfl,fun m h=>.inl (hw.msg m (hm m h))⟩
theorem Z7 {t:Tr} {k m:Int} (h:¬(DB t k m).2>0):∀x∈ids t,(uA t x).kind=k→(uA t x).msg≠m:=fun x hx hk hm=>by
 cases hf:TC t k m with
 |none =>
   have:=db.1 hf x hx
   rw[hk,hm]at this;simp at this
 |some y =>
   obtain⟨h1,h2,_⟩:=YC hf
   rw[show jA t (ids t) k m=DB t k m from rfl]at h1
   rw[h1]at h;exact h h2
theorem NX {t:Tr} (hv:Vok t) {m:Ms} (hm:mgB t m=true):m.body.length=1∧∃q i,m.fr=(q:Nat)∧(q,i+1)∈ids t∧(uA t (q,i+1)).kind=2∧(uA t (q,i+1)).msg=m.nu∧(uA t (q,i+1)).peer=m.to:=by
 unfold mgB at hm
 simp only[ar,bf]at hm
 obtain⟨h1,h2,h3,h4⟩:=hm
 obtain⟨q,i,hq,hpl,hi⟩:=mO h2
 rw[hq]at h3 h4
 rw[uL (EI hv)]at hq
 refine⟨h1,q,i,h3.symm,?_⟩
 have hf:TC t 2 m.nu=some (q,i+1):=by
  cases hc:TC t 2 m.nu with
  |none =>
    have:DB t 2 m.nu=(0,0):=by unfold DB jA;show (TC t 2 m.nu).getD (0,0)=_;rw[hc];rfl
    rw[this]at hq
    have:=congrArg Prod.snd hq;simp only at this;omega
  |some x=>have:=(YC hc).1;rw[show jA t (ids t) 2 m.nu=DB t 2 m.nu from rfl,hq]at this;rw[this]
 exact⟨PJ hf,(UF hf).1,(UF hf).2,h4⟩
theorem ZEs {n:Nw} {k:Nat} {m:Ms} (h:m∈(woN n k).l):m∈n.l:=by
 change m∈n.l.take k++n.l.drop (k+1) at h
 rcases bu.1 h with h|h
 ·exact ec h
 ·exact ey h
theorem ins_mem {n:Nw} {m x:Ms} {a:Int} {c:Nat} (h:x∈(KT n m a c).l):x∈n.l∨x=m:=by
 change x∈n.l.take _++_++n.l.drop _ at h
 rw[bu,bu]at h
 rcases h with (h|h)|h
 ·exact .inl (ec h)
 ·exact .inr (ma.1 h).2
 ·exact .inl (ey h)
theorem DT {w:Wd} {p:Nat} (h:rF w p=true):zI (w.sv.getD p dfSv)=false∧(nA w.tr p).length<64∧(LO (w.sv.getD p dfSv)=4→0<fH w.net p)∧(LO (w.sv.getD p dfSv)=3→w.sent≤199):=by
 unfold rF at h
 rw[ar]at h
 obtain⟨h1,h2⟩:=h
 rw[ko,km]at h1
 refine⟨h1.1,by have:=fx h1.2;omega,fun h4=>?_,fun h3=>?_⟩
 ·rw[if_pos h4]at h2;exact gg h2
 ·rw[if_neg oM,if_pos h3]at h2;exact gg h2
theorem O9 {n:Nw} {to:Int} (h:0<fH n to):0≤fiR n to:=by
 rcases Int.lt_or_le (fiR n to) 0 with h1|h1
 ·exfalso
  unfold fH at h
  split at h
  ·rw[pX _ (ZAr h1)]at h;omega
  ·omega
 ·exact h1
theorem ZJU {w:Wd} (hw:WdV w) {p:Nat} (hp:p<w.sv.length) (zC:(nA w.tr p).length<64) {x:In} (hx:0≤x.a∧x.a<(w.sv.getD p dfSv).vars.length) (qI:0≤(w.sv.getD p dfSv).pc∧(w.sv.getD p dfSv).pc<(w.sv.getD p dfSv).code.length)
  (hb:fiR w.net p<0→0≤x.b∧x.b<(w.sv.getD p dfSv).code.length):∃s e n sn,MO w p (w.sv.getD p dfSv) x=ZDQ w p s e n sn∧PutOk w p s e n sn:=by
 obtain⟨s,hs⟩:∃s,w.sv.getD p dfSv=s:=⟨_,rfl⟩
 have UU:=(IH hw.sv hp).1
 rw[hs]at UU hx qI hb⊢
 unfold MO
 by_cases h1:fiR w.net p<0
 ·rw[if_pos h1]
  have:=hb h1
  have e:({s with pc:=x.b}:Sv)={s with pc:=x.b,vars:=s.vars}:=rfl
  exact⟨_,_,w.net,w.sent,rfl,by
   have:=V9 hw hp zC (c:=x.b) (v:=s.vars) (a:=[]) (by rw[hs];omega) (by rw[hs]) UU.vs kS rfl (by rw[hs];rfl) hw.net hw.nnow (fun m h=>h)
   rw[hs]at this;exact this⟩
 rw[if_neg h1]
 obtain⟨k,hk,OK,hka,_⟩:=r9 (n:=w.net) (to:=p) oM
 rw[hk,ca]
 obtain⟨m,hm⟩:∃m,w.net.l.getD k dfMs=m:=⟨_,rfl⟩
 have F4:m∈w.net.l:=by rw[←hm,YA OK];exact ak OK
 unfold arB at hka
 simp only[ar,bf]at hka
 rw[hm]at hka⊢
 have VP:=hw.net.out OK
 by_cases h2:(DB w.tr 3 m.nu).2>0
 ·rw[if_pos h2]
  exact⟨_,_,woN w.net k,w.sent,rfl,by
   have:=V9 hw hp zC (c:=s.pc) (v:=s.vars) (a:=[]) (by rw[hs];omega) (by rw[hs]) UU.vs kS rfl (by rw[hs];rfl) VP hw.nnow (fun m h=>ZEs h)
   rw[hs]at this;exact this⟩
 rw[if_neg h2]
 obtain⟨xJ,q,i,hq,hqi,hk2,hmn,hpe⟩:=NX hw.tr (hw.msg m F4)
 have hms:=hw.net.ms m F4
 unfold msB ptB at hms
 simp only[ar,bf,bn]at hms
 obtain⟨m1,m2,m3,m4,m5,m6⟩:=hms
 obtain⟨j,hj⟩:∃j:Nat,x.a=j:=⟨x.a.toNat,by omega⟩
 have hql:=(yE.1 hqi).1
 have wO:vlB (m.body.getD 0 0)=true:=by rw[YA oM];exact m6 _ (ak _)
 rw[hj,ca]
 refine⟨_,_,woN w.net k,w.sent,rfl,⟨hp,⟨s.pc+1,s.vars.set j (m.body.getD 0 0),by rw[hs];rfl,by rw[hs];omega,by rw[hs];simp,gY UU.vs wO,by rw[hs];rfl⟩,zC,?_,by simp[CJ],by rw[hs];exact asg1 oM wO,fun h=>absurd (show (3:Int)=2 from h) kE,fun _=>⟨Z7 h2,?_⟩,VP,hw.nnow,rfl,fun m h=>.inl (hw.msg m (ZEs h))⟩⟩
 ·unfold JB CJ inB
  simp only[show ((3:Int)==1)=false from rfl,show ((3:Int)==2)=false from rfl,show ((3:Int)==3)=true from rfl,Bool.or_true,if_true,dt,if_false]
  have:(m.fr != (p:Int))=true:=by simp;omega
  rw[this]
  simp;omega
 ·unfold sendsB CJ
  simp only
  rw[hq,ca,fj]
  refine⟨uA w.tr (q,i+1),ZEW hqi,?_⟩
  rw[hk2,hmn,hpe,hka.1];simp
theorem ZIL {w:Wd} (hw:WdV w) {p:Nat} (hp:p<w.sv.length) (hen:rF w p=true) (mR:(stW w p).2=0):∃s e n sn,(stW w p).1=ZDQ w p s e n sn∧PutOk w p s e n sn:=by
 obtain⟨he,zC,h4,h3⟩:=DT hen
 have UU:=(IH hw.sv hp).1
 unfold stW at mR⊢
 obtain⟨s,hs⟩:∃s,w.sv.getD p dfSv=s:=⟨_,rfl⟩
 have hL:=fun {c v a} hc hv wO al af hap=>V9 hw hp zC (c:=c) (v:=v) (a:=a) hc hv wO al af hap hw.net hw.nnow (fun m h=>h)
 have hR:=fun {x} hx qI hb=>ZJU hw hp zC (x:=x) hx qI hb
 rw[hs]at UU he h4 h3 mR hL hR⊢
 unfold zI at he
 rw[km]at he
 have qI:0≤s.pc∧s.pc<s.code.length:=by have:=UU.pc;have:=fx he.1;omega
 obtain⟨x,hx⟩:∃x,s.code.getD s.pc.toNat fN=x:=⟨_,rfl⟩
 have hox:LO s=x.op:=by unfold LO;rw[hx]
 have h8:x.op≠8:=by have:=fx he.2;rw[hx]at this;exact this
 have zE:JE s.vars.length s.code.length p w.sv.length x=true:=UU.ins x (by rw[←hx,YA oM];exact ak _)
 rw[hox]at h4 h3
 rw[hx]at mR⊢
 have TI:0≤s.pc+1∧s.pc+1≤s.code.length:=by omega
 have noA:∀c:Int,0≤c∧c≤s.code.length→PutOk w p {s with pc:=c} dfEv54 w.net w.sent:=fun c hc=>hL (a:=[]) hc rfl UU.vs kS rfl rfl
 unfold JE inZ at zE
 unfold stI at mR⊢
 by_cases o1:x.op=1
 ·rw[if_pos o1]at mR⊢
  rw[if_pos (.inl o1)]at zE
  simp only[ar,bf]at zE
  obtain⟨j,hj⟩:∃j:Nat,x.a=j:=⟨x.a.toNat,by omega⟩
  rw[hj,ca]
  exact⟨_,_,w.net,w.sent,rfl,hL TI kS (gY UU.vs zE.2) kS (asg1 oM zE.2) rfl⟩
 rw[if_neg o1]at mR⊢
 by_cases o2:x.op=2
 ·rw[if_pos o2]at mR⊢
  rw[if_pos (.inr o2)]at zE
  simp only[ar,bf]at zE
  obtain⟨j,hj⟩:∃j:Nat,x.a=j:=⟨x.a.toNat,by omega⟩
  rw[hj,ca]at mR⊢
  by_cases hq:vlB (s.vars.getD j 0+x.b)=true
  ·rw[if_pos hq]
   exact⟨_,_,w.net,w.sent,rfl,hL TI kS (gY UU.vs hq) kS (asg1 oM hq) rfl⟩
  ·rw[if_neg hq]at mR;cases mR
 rw[if_neg o2]at mR⊢
 rw[if_neg oM]at zE
 by_cases o6:x.op=6
 ·rw[if_pos o6]at mR⊢
  rw[if_neg oM,if_neg oM,if_neg oM,if_pos o6]at zE
  simp only[ar,bf]at zE
  obtain⟨j,hj⟩:∃j:Nat,x.b=j:=⟨x.b.toNat,by omega⟩
  have wG:j<s.vars.length:=by omega
  rw[hj,ca]at mR⊢
  by_cases h0:0<s.vars.getD j 0
  ·rw[if_pos h0]
   have hq:vlB (s.vars.getD j 0-1)=true:=by
    have:=UU.vs (s.vars.getD j 0) (by rw[YA wG];exact ak wG)
    unfold vlB at this⊢
    simp only[bf]at this⊢
    omega
   exact⟨_,_,w.net,w.sent,rfl,hL (c:=x.a) oM kS (gY UU.vs hq) kS (asg1 wG hq) rfl⟩
  ·rw[if_neg h0]
   exact⟨_,_,w.net,w.sent,rfl,noA _ TI⟩
 rw[if_neg o6]at mR⊢
 by_cases o3:x.op=3
 ·rw[if_pos o3]at mR⊢
  rw[if_pos o3]at zE
  simp only[ar,bf]at zE
  obtain⟨j,hj⟩:∃j:Nat,x.a=j:=⟨x.a.toNat,by omega⟩
  obtain⟨m,hm⟩:∃m,jH w p s x=m:=⟨_,rfl⟩
  have hmd:m=⟨p,x.b,w.sent,[s.vars.getD j 0]⟩:=by rw[←hm];unfold jH;rw[hj,ca]
  rw[hm]at mR⊢
  have hp8:=(LP hw.sv).2
  have hs0:0≤w.sent:=by have:=hw.cnt;omega
  have OH:=h3 o3
  have hms:msB m=true:=by
   have:=UU.vs (s.vars.getD j 0) (by rw[YA oM];exact ak _)
   rw[hmd]
   unfold msB ptB
   simp only[List.all_cons,List.all_nil,this,Bool.and_true,dw,ar,bf]
   refine⟨by omega,by omega,by omega,by omega,by omega⟩
  by_cases hz:sdE w.net m=0
  ·rw[if_pos hz]
   have hN:sdR w.net m=KT w.net m (gE w.net m) (wR w.net).toNat:=by unfold sdR;rw[if_pos hz]
   have hvN:NwV (sdR w.net m):=by
    rw[hN]
    unfold sdE at hz
    split at hz
    ·cases hz
    rename_i z1
    split at hz
    ·cases hz
    rename_i z2
    have h0:=(UN hw.net).1
    have ht:=dL hw.net (m:=m) w.net.l.length (ai _)
    have hn0:=hw.net.now
    refine hw.net.ins hms ⟨?_,?_⟩ ?_
    ·unfold gE;omega
    ·omega
    ·unfold wR at z2⊢;omega
   refine⟨_,_,sdR w.net m,w.sent+1,rfl,⟨hp,⟨s.pc+1,s.vars,by rw[hs],by rw[hs];exact TI,by rw[hs],UU.vs,by rw[hs];rfl⟩,zC,?_,by simp,rfl,fun _=>rfl,fun h=>absurd (show (2:Int)=3 from h) kE,hvN,?_,rfl,fun y hy=>?_⟩⟩
   ·have hl:=hw.len
    unfold JB inB
    simp only[show ((2:Int)==1)=false from rfl,show ((2:Int)==2)=true from rfl,ka,if_true,dt,if_false]
    have:(x.b != (p:Int))=true:=by simp;omega
    rw[this]
    simp;omega
   ·rw[hN];exact hw.nnow
   ·rw[hN]at hy
    rcases ins_mem hy with hy|hy
    ·exact .inl (hw.msg y hy)
    ·rw[hy,hmd];exact .inr ⟨rfl,rfl,rfl,rfl,rfl⟩
  ·rw[if_neg hz]at mR;exact absurd mR hz
 rw[if_neg o3]at mR⊢
 rw[if_neg o3]at zE
 by_cases o45:x.op=4∨x.op=5
 ·rw[if_pos o45]at mR⊢
  have hxa:0≤x.a∧x.a<s.vars.length:=by
   rcases o45 with o|o<;>simp[o]at zE<;>omega
  refine hR hxa qI (fun hf=>?_)
  rcases o45 with o|o
  ·have:=O9 (h4 o);omega
  ·simp[o]at zE;omega
 rw[if_neg o45]
 exact⟨_,_,w.net,w.sent,rfl,noA _ TI⟩
theorem xO {w:Wd} (hw:WdV w) {p:Nat} (hp:p<w.sv.length) (hen:rF w p=true) (mR:(stW w p).2=0):WdV (stW w p).1:=by
 obtain⟨s,e,n,sn,h1,h2⟩:=ZIL hw hp hen mR
 rw[h1];exact h2.valid hw
def tkW (w:Wd) (by_:Int):Wd:={w with now:=w.now+by_,net:={w.net with now:=w.now+by_}}
theorem ZE5 {s:Sv} (hr:JJ s=true) {a b:Int} (ha:0≤a) (hab:a≤b) (hb:b≤1000000000):CH s a≤CH s b:=by
 rw[(m9 hr ⟨ha,by omega⟩).1,(m9 hr ⟨by omega,hb⟩).1]
 have h1:a*s.rate≤b*s.rate:=Int.mul_le_mul_of_nonneg_right hab (by unfold JJ inZ at hr;simp only[ar,bf]at hr;omega)
 have:=Int.ediv_le_ediv (c:=1000) oM h1
 omega
theorem Z1 {w:Wd} (hw:WdV w) {k:Int} (hk:0≤k∧w.now+k≤1000000000):WdV (tkW w k):=by
 have hn:=hw.now
 refine⟨hw.sv,⟨by show 0≤w.now+k;omega,hk.2⟩,hw.net.at oM,rfl,hw.tr,hw.len,fun p hp=>?_,hw.snt,hw.cnt,hw.msg⟩
 have hf:=hw.fit p hp
 change dI (w.tr.getD p dfPr) (w.sv.getD p dfSv) (w.now+k)=true
 have hs:=(IH hw.sv (p:=p) (by rw[←hw.len];exact hp)).1
 have hc:=ZE5 hs.rt hn.1 (show w.now≤w.now+k by omega) hk.2
 unfold dI CU at hf⊢
 simp only[ar,bf]at hf⊢
 obtain⟨f1,f2,f3,f4,f5⟩:=hf
 refine⟨f1,f2,f3,f4,?_⟩
 rcases f5 with f5|f5
 ·exact .inl f5
 ·exact .inr oM
theorem ZIK {l:List Sv} (h:FF l=true):SvsS l:=by
 have hn:=LP h
 refine⟨by omega,fun s hs=>?_⟩
 obtain⟨p,hp,rfl⟩:=cu hs
 have hv:=(IH h hp).1
 rw[YA hp]at hv
 have h1:=bS hv.name
 have h2:=hv.cl
 have h3:=hv.vl
 exact⟨by omega,by omega,by omega⟩
theorem WdV.small {w:Wd} (h:WdV w):Small w.tr:=h.tr.small
theorem WdV.nm {w:Wd} (h:WdV w):Nm w.tr:=h.tr.nm
theorem WdV.svS {w:Wd} (h:WdV w):SvsS w.sv:=ZIK h.sv
theorem WdV.evl {w:Wd} (h:WdV w) {p:Nat} (hp:p<w.tr.length):(w.tr.getD p dfPr).evs.length≤64:=by
 rw[YA hp];exact yK hp (h.tr.head p hp)
theorem WdV.sent {w:Wd} (h:WdV w):0≤w.sent∧w.sent≤512:=by
 have hc:=h.cnt
 have:=sY (t:=w.tr) (fun x hx=>by
  obtain⟨p,hp,rfl⟩:=cu hx
  exact yK hp (h.tr.head p hp)) w.tr.length (ai _)
 have:=h.tr.hi
 omega
theorem ZEr {n:Nw} {to:Int} {j:Nat}:∀{i:Nat},j<i→arB n to j=true→0<wtN n to i
 |0,h,_=>by omega
 |i+1,h,ha=>by
   simp only[wtN]
   by_cases hj:j<i
   ·have:=ZEr hj ha
    split<;>omega
   ·obtain rfl:j=i:=by omega
    rw[if_pos ha];omega
theorem ZAs {w:Wd} (hw:WdV w) {p:Nat} (hp:p<w.sv.length) (he:rF w p=true):∃k:Nat,(w.sv.getD p dfSv).pc=k∧k<(w.sv.getD p dfSv).code.length∧(w.sv.getD p dfSv).code.getD (w.sv.getD p dfSv).pc.toNat fN=(w.sv.getD p dfSv).code.getD k fN∧LO (w.sv.getD p dfSv)≠8∧JE (w.sv.getD p dfSv).vars.length (w.sv.getD p dfSv).code.length p w.sv.length ((w.sv.getD p dfSv).code.getD k fN)=true:=by
 have hs:=(IH hw.sv hp).1
 obtain⟨h1,_⟩:=DT he
 unfold zI at h1
 rw[km]at h1
 have h2:=fx h1.1
 have qI:=hs.pc
 obtain⟨k,hk⟩:∃k:Nat,(w.sv.getD p dfSv).pc=k:=⟨(w.sv.getD p dfSv).pc.toNat,by omega⟩
 have OK:k<(w.sv.getD p dfSv).code.length:=by omega
 refine⟨k,hk,OK,by rw[hk,ca],fun h=>fx h1.2 h,?_⟩
 rw[YA OK]
 exact hs.ins _ (ak OK)
def a_mstp:AFunc:=({c:=_}:CF Tryz.prog 63).c
theorem ZC0:qA Tryz.prog 63=some a_mstp:=by kernel_rfl

noncomputable def stM (w:Wd) (p:Nat):Wd:=if (stW w p).2=0 then (stW w p).1 else pcW w p ((w.sv.getD p dfSv).pc+1)
theorem QU {w:Wd} {p:Nat} (hp:p<w.sv.length) {s:Sv} (hs:w.sv.getD p dfSv=s) {kd pe ms:Int} {i:Nat} {v c:Int}:pcW (asW w p ⟨kd,pe,ms,0,[]⟩ i v) p c=MG w p (Sv.put {s with pc:=c} i v) (CJ kd pe ms i v):=by
 unfold pcW asW
 simp only
 have hg:(w.sv.set p ((w.sv.getD p dfSv).put i v)).getD p dfSv=s.put i v:=by
  rw[au,ay hp,hs];rfl
 rw[hg,ix]
 unfold MG evW CJ
 rw[hs];rfl
theorem JR {w:Wd} {p:Nat} {s:Sv} (hs:w.sv.getD p dfSv=s) {e:Ev} {c:Int}:pcW (evW w p e) p c=MG w p {s with pc:=c} e:=by
 unfold pcW MG evW
 simp only
 rw[hs];rfl
theorem ZBk (f:Nat→Row) (w:Wd) (p q n:Nat) (hn:q+5≤n) (hw:WdV w) (hp:p<w.sv.length) (hen:rF w p=true) (b l:List Row) (hb:b=kB n (mvF f w p q)) :
  QA Tryz.prog 63 [.ptr (q+4) 0 0 0,.v (.int .i64 p)] b l (fun r b' l'=>r=.v (.int .i64 (stW w p).2)∧b'=kB n (mvF f (stM w p) p q)∧l'=l):=by
 refine XA ZC0 rfl kE ?_
 intro B g hB hR hE hA;simp only[zA]at hA
 rw[hb]at hB
 obtain⟨m,f',hm0,M8,rH⟩:=Z5 hn hB
 clear hB
 subst M8
 rw[RA]at hR
 have YJ:p<w.tr.length:=by rw[hw.len];exact hp
 have hS:=hw.small
 have hN:=hw.nm
 have hsl8:=(LP hw.sv).2
 have ZLw:=hw.tr.hi
 have aU:w.sv.length≤1000000:=by omega
 have HU:w.tr.length≤1000000:=by omega
 have XJ:(w.tr.getD p dfPr).evs.length≤1000000:=by have:=hw.evl YJ;omega
 have UU:=(IH hw.sv hp).1
 obtain⟨k,hk,OK,hki,h8,zE⟩:=ZAs hw hp hen
 obtain⟨_,zC,h4,h3⟩:=DT hen
 have hvn:=VG.2 hw.net
 have S0:=hw.sent
 have hpo:ptB p=true:=by unfold ptB;simp;omega
 have cAs:=fun k pe ms i hi bU v=>fun l=>XW f' w p q m oM hp YJ aU HU XJ k pe ms i hi bU v (kB m (mvF f' w p q)) l rfl
 have cEv:=fun k pe ms=>fun l=>nP f' w p q m oM hp YJ aU HU XJ k pe ms (kB m (mvF f' w p q)) l rfl
 have cSn:=fun x i US hi bU hm=>fun l=>ZBl f' w p q m oM hp YJ aU HU XJ x i US hi bU oM hvn hm (kB m (mvF f' w p q)) l rfl
 have cRc:=fun x i US hi bU k hk mg MY v H4 wO=>fun l=>ZBm f' w p q m oM hp YJ hS hN aU x i US hi bU hvn hpo k hk mg MY v H4 wO (kB m (mvF f' w p q)) l rfl
 have ZF:stW w p=stI w p (w.sv.getD p dfSv) ((w.sv.getD p dfSv).code.getD (w.sv.getD p dfSv).pc.toNat fN):=rfl
 have hM:stM w p=if (stW w p).2=0 then (stW w p).1 else pcW w p ((w.sv.getD p dfSv).pc+1):=rfl
 have hop:LO (w.sv.getD p dfSv)=((w.sv.getD p dfSv).code.getD (w.sv.getD p dfSv).pc.toNat fN).op:=rfl
 rw[hop,hki]at h8 h4 h3
 rw[hki]at ZF
 obtain⟨s,hs⟩:∃s,w.sv.getD p dfSv=s:=⟨_,rfl⟩
 rw[hs]at UU hk OK h8 zE h4 h3 ZF hM cAs cSn cRc
 obtain⟨x,hx⟩:∃x,s.code.getD k fN=x:=⟨_,rfl⟩
 rw[hx]at h8 zE h4 h3 ZF
 have QI:=fI OK
 rw[YA OK]at hx
 rw[hx]at QI
 have hsc:=UU.cl
 have hsvl:=UU.vl
 obtain⟨SV,E9⟩:∃SV,LG w p (q+1)=SV:=⟨_,rfl⟩
 obtain⟨F,hF⟩:∃F,mvF f' w p q=F:=⟨_,rfl⟩
 obtain⟨DU,gS,f0,f1,f4⟩:=sE hp YJ hF hs E9
 have gk:∀{j:Nat} {f:Nat→Row} {L:List Row},j<5→hget (kB m f) L (q+j)=some (f (q+j)):=fun hj=>DH oM
 have kn:∀{j:Nat} {f:Nat→Row} {r:Row},j<5→iE (kB m f) (q+j) r=kB m (rUp f (q+j) r):=fun hj=>vK oM
 have kl:∀{j:Nat} {f:Nat→Row} {r:Row} {L:List Row},j<5→GE (kB m f) L (q+j) r=L:=fun hj=>jK oM
 have gk0:∀{f:Nat→Row} {L:List Row},hget (kB m f) L q=some (f q):=DH oM
 have kn0:∀{f:Nat→Row} {r:Row},iE (kB m f) q r=kB m (rUp f q r):=vK oM
 have kl0:∀{f:Nat→Row} {r:Row} {L:List Row},GE (kB m f) L q r=L:=jK oM
 have AT:IntKind.i64.wrap (((k:Nat):Int)+1)=((k+1:Nat):Int):=by rw[pA oM oM];omega
 have hk1:((k+1:Nat):Int)=s.pc+1:=by omega
 rw[hF]at cAs cEv cSn cRc hR⊢
 have hRw:∀w',gA m (kB m (mvF f' w' p q)):=fun w'=>by rw[←hF]at hR;exact RU oM hR
 have nm1:IntKind.i64.wrap (-1)=-1:=rfl
 by_cases o1:x.op=1
 ·unfold JE at zE
  rw[if_pos (.inl o1)]at zE
  unfold inZ at zE
  simp only[ar,bf]at zE
  obtain⟨i,hi⟩:∃i:Nat,x.a=i:=⟨x.a.toNat,by omega⟩
  have vO:i<s.vars.length:=by omega
  have cA:=cAs 1 0 0 i vO oM x.b
  rw[if_pos zE.2,if_pos zE.2]at cA
  have hI:stI w p s x=(MG w p (Sv.put {s with pc:=s.pc+1} i x.b) (CJ 1 0 0 i x.b),0):=by unfold stI;rw[if_pos o1,hi,ca]
  rw[hI]at ZF
  have d1:(x.op==1)=true:=by rw[o1];rfl
  simp (disch:=first|decide|omega) only[a_mstp,hA,gk,gk0,f0,f1,f4,gS,DU,hk,QI,AT,kn,kl,kn0,kl0,mA,dB,hi,d1,go_sem]
  refine QA.nxt (EE _ _) ?_
  simp (disch:=first|decide|omega) only[hA,gk,gk0,f0,f1,f4,gS,DU,hk,QI,AT,kn,kl,kn0,kl0,mA,dB,hi,d1,go_sem]
  refine QA.nxt (cA _) ?_
  obtain⟨w1,LE⟩:∃w1,asW w p ⟨1,0,0,0,[]⟩ i x.b=w1:=⟨_,rfl⟩
  rw[LE]
  have e1:w1.sv.length=w.sv.length:=by rw[←LE];first|rfl|exact dh
  have e2:w1.tr.length=w.tr.length:=by rw[←LE];first|rfl|exact tF
  have OH:w1.sv.getD p dfSv=s.put i x.b:=by rw[←LE];first|exact hs|(show (w.sv.set p _).getD p dfSv=_;rw[au,ay hp,hs];rfl)
  obtain⟨SV1,sH⟩:∃SV1,LG w1 p (q+1)=SV1:=⟨_,rfl⟩
  obtain⟨F1,uM⟩:∃F1,mvF f' w1 p q=F1:=⟨_,rfl⟩
  obtain⟨lR,gS1,g0,g1,g4⟩:=sE (by rw[e1];exact hp) (by rw[e2];exact YJ) uM OH sH
  have qI:=pL (f':=f') (q:=q) (c:=((k+1:Nat):Int)) (show p<w1.sv.length by rw[e1];exact hp) OH
  rw[sH,uM]at qI
  rw[e1]at lR g0 qI
  rw[uM]
  simp (disch:=first|decide|omega) only[hA,gk,gk0,g0,g1,g4,lR,gS1,hk,AT,kn,kl,kn0,kl0,mA,dB,hi,go_sem]
  rw[qI]
  have IG:stM w p=pcW w1 p (((k+1:Nat):Int)):=by rw[hk1,hM,ZF,if_pos rfl,←LE];exact (QU hp hs).symm
  have RJ:(stW w p).2=0:=by rw[ZF]
  rw[RJ,IG]
  exact FC (xs:=[.v (.int .i64 0)]) (.inr rfl) kR kO (by rw[RA];exact hRw _) hb (rH _) ⟨rfl,rfl,rfl⟩
 by_cases o2:x.op=2
 ·unfold JE at zE
  rw[if_pos (.inr o2)]at zE
  unfold inZ at zE
  have hxb:-1073741824≤x.b∧x.b≤1073741824:=by
   rw[ar]at zE
   have:=zE.2;unfold vlB at this;simpa using this
  simp only[ar,bf]at zE
  obtain⟨i,hi⟩:∃i:Nat,x.a=i:=⟨x.a.toNat,by omega⟩
  have vO:i<s.vars.length:=by omega
  have IU:=IC vO
  obtain⟨u,huu⟩:∃u,s.vars.getD i 0=u:=⟨_,rfl⟩
  have hub:-1073741824≤u∧u≤1073741824:=by
   have:=UU.vs u (by rw[←huu,YA vO];exact ak vO)
   unfold vlB at this
   simpa using this
  rw[huu]at IU
  have I8:IntKind.i64.wrap (u+x.b)=u+x.b:=pA oM oM
  obtain⟨v,wO⟩:∃v,u+x.b=v:=⟨_,rfl⟩
  rw[wO]at I8
  have cA:=cAs 1 0 0 i vO oM v
  have d1:(x.op==1)=false:=by rw[o2];rfl
  have d2:(x.op==2)=true:=by rw[o2];rfl
  cases hq:vlB v
  ·rw[hq,if_neg kS,if_neg kS]at cA
   have hI:stI w p s x=(wd0,9):=by unfold stI;rw[if_neg o1,if_pos o2,hi,ca,huu,wO,if_neg (by rw[hq];simp)]
   rw[hI]at ZF
   rw[hF]at cA
   simp (disch:=first|decide|omega) only[a_mstp,hA,gk,gk0,f0,f1,f4,gS,DU,hk,QI,AT,kn,kl,kn0,kl0,mA,dB,hi,IU,wO,I8,d1,d2,go_sem]
   refine QA.nxt (EE _ _) ?_
   simp (disch:=first|decide|omega) only[hA,gk,gk0,f0,f1,f4,gS,DU,hk,QI,AT,kn,kl,kn0,kl0,mA,dB,hi,IU,wO,I8,d1,d2,go_sem]
   refine QA.nxt (cA _) ?_
   have qI:=pL (f':=f') (q:=q) (c:=((k+1:Nat):Int)) hp hs
   rw[E9,hF]at qI
   simp (disch:=first|decide|omega) only[hA,gk,gk0,f0,f1,f4,gS,DU,hk,QI,AT,kn,kl,kn0,kl0,mA,dB,hi,go_sem]
   rw[qI]
   have IG:stM w p=pcW w p (((k+1:Nat):Int)):=by rw[hk1,hM,ZF,if_neg kE]
   have RJ:(stW w p).2=9:=by rw[ZF]
   rw[RJ,IG]
   exact FC (xs:=[.v (.int .i64 9)]) (.inr rfl) kR kO (by rw[RA];exact hRw _) hb (rH _) ⟨rfl,rfl,rfl⟩
  ·rw[hq,if_pos rfl,if_pos rfl]at cA
   have hI:stI w p s x=(MG w p (Sv.put {s with pc:=s.pc+1} i v) (CJ 1 0 0 i v),0):=by unfold stI;rw[if_neg o1,if_pos o2,hi,ca,huu,wO,if_pos hq]
   rw[hI]at ZF
   simp (disch:=first|decide|omega) only[a_mstp,hA,gk,gk0,f0,f1,f4,gS,DU,hk,QI,AT,kn,kl,kn0,kl0,mA,dB,hi,IU,wO,I8,d1,d2,go_sem]
   refine QA.nxt (EE _ _) ?_
   simp (disch:=first|decide|omega) only[hA,gk,gk0,f0,f1,f4,gS,DU,hk,QI,AT,kn,kl,kn0,kl0,mA,dB,hi,IU,wO,I8,d1,d2,go_sem]
   refine QA.nxt (cA _) ?_
   obtain⟨w1,LE⟩:∃w1,asW w p ⟨1,0,0,0,[]⟩ i v=w1:=⟨_,rfl⟩
   rw[LE]
   have e1:w1.sv.length=w.sv.length:=by rw[←LE];first|rfl|exact dh
   have e2:w1.tr.length=w.tr.length:=by rw[←LE];first|rfl|exact tF
   have OH:w1.sv.getD p dfSv=s.put i v:=by rw[←LE];first|exact hs|(show (w.sv.set p _).getD p dfSv=_;rw[au,ay hp,hs];rfl)
   obtain⟨SV1,sH⟩:∃SV1,LG w1 p (q+1)=SV1:=⟨_,rfl⟩
   obtain⟨F1,uM⟩:∃F1,mvF f' w1 p q=F1:=⟨_,rfl⟩
   obtain⟨lR,gS1,g0,g1,g4⟩:=sE (by rw[e1];exact hp) (by rw[e2];exact YJ) uM OH sH
   have qI:=pL (f':=f') (q:=q) (c:=((k+1:Nat):Int)) (show p<w1.sv.length by rw[e1];exact hp) OH
   rw[sH,uM]at qI
   rw[e1]at lR g0 qI
   rw[uM]
   simp (disch:=first|decide|omega) only[hA,gk,gk0,g0,g1,g4,lR,gS1,hk,AT,kn,kl,kn0,kl0,mA,dB,hi,go_sem]
   rw[qI]
   have IG:stM w p=pcW w1 p (((k+1:Nat):Int)):=by rw[hk1,hM,ZF,if_pos rfl,←LE];exact (QU hp hs).symm
   have RJ:(stW w p).2=0:=by rw[ZF]
   rw[RJ,IG]
   exact FC (xs:=[.v (.int .i64 0)]) (.inr rfl) kR kO (by rw[RA];exact hRw _) hb (rH _) ⟨rfl,rfl,rfl⟩
 by_cases o7:x.op=7
 ·have hI:stI w p s x=(MG w p {s with pc:=s.pc+1} dfEv54,0):=by unfold stI;rw[if_neg oM,if_neg oM,if_neg oM,if_neg oM,if_neg oM]
  rw[hI]at ZF
  have cE:=cEv 1 0 0
  have d1:(x.op==1)=false:=by rw[o7];rfl
  have d2:(x.op==2)=false:=by rw[o7];rfl
  have d7:(x.op==7)=true:=by rw[o7];rfl
  simp (disch:=first|decide|omega) only[a_mstp,hA,gk,gk0,f0,f1,f4,gS,DU,hk,QI,AT,kn,kl,kn0,kl0,mA,dB,d1,d2,d7,go_sem]
  refine QA.nxt (EE _ _) ?_
  simp (disch:=first|decide|omega) only[hA,gk,gk0,f0,f1,f4,gS,DU,hk,QI,AT,kn,kl,kn0,kl0,mA,dB,d1,d2,d7,go_sem]
  refine QA.nxt (cE _) ?_
  obtain⟨w1,LE⟩:∃w1,evW w p ⟨1,0,0,0,[]⟩=w1:=⟨_,rfl⟩
  rw[LE]
  have e1:w1.sv.length=w.sv.length:=by rw[←LE];first|rfl|exact dh
  have e2:w1.tr.length=w.tr.length:=by rw[←LE];first|rfl|exact tF
  have OH:w1.sv.getD p dfSv=s:=by rw[←LE];first|exact hs|(show (w.sv.set p _).getD p dfSv=_;rw[au,ay hp,hs];rfl)
  obtain⟨SV1,sH⟩:∃SV1,LG w1 p (q+1)=SV1:=⟨_,rfl⟩
  obtain⟨F1,uM⟩:∃F1,mvF f' w1 p q=F1:=⟨_,rfl⟩
  obtain⟨lR,gS1,g0,g1,g4⟩:=sE (by rw[e1];exact hp) (by rw[e2];exact YJ) uM OH sH
  have qI:=pL (f':=f') (q:=q) (c:=((k+1:Nat):Int)) (show p<w1.sv.length by rw[e1];exact hp) OH
  rw[sH,uM]at qI
  rw[e1]at lR g0 qI
  rw[uM]
  simp (disch:=first|decide|omega) only[hA,gk,gk0,g0,g1,g4,lR,gS1,hk,AT,kn,kl,kn0,kl0,mA,dB,go_sem]
  rw[qI]
  have IG:stM w p=pcW w1 p (((k+1:Nat):Int)):=by rw[hk1,hM,ZF,if_pos rfl,←LE];exact (JR hs).symm
  have RJ:(stW w p).2=0:=by rw[ZF]
  rw[RJ,IG]
  exact FC (xs:=[.v (.int .i64 0)]) (.inr rfl) kR kO (by rw[RA];exact hRw _) hb (rH _) ⟨rfl,rfl,rfl⟩
 by_cases o6:x.op=6
 ·unfold JE at zE
  rw[if_neg oM,if_neg oM,if_neg oM,if_neg oM,if_pos o6]at zE
  unfold inZ at zE
  simp only[ar,bf]at zE
  obtain⟨i,hi⟩:∃i:Nat,x.b=i:=⟨x.b.toNat,by omega⟩
  have vO:i<s.vars.length:=by omega
  have IU:=IC vO
  obtain⟨v,wO⟩:∃v,s.vars.getD i 0=v:=⟨_,rfl⟩
  have hvb:-1073741824≤v∧v≤1073741824:=by
   have:=UU.vs v (by rw[←wO,YA vO];exact ak vO)
   unfold vlB at this
   simpa using this
  rw[wO]at IU
  have hwv:IntKind.i64.wrap (v-1)=v-1:=pA oM oM
  have d1:(x.op==1)=false:=by rw[o6];rfl
  have d2:(x.op==2)=false:=by rw[o6];rfl
  have d7:(x.op==7)=false:=by rw[o6];rfl
  have d6:(x.op==6)=true:=by rw[o6];rfl
  by_cases h0:0<v
  ·have e0:decide (v>0)=true:=ae oM
   have e1:decide (0<v)=true:=e0
   have hq:vlB (v-1)=true:=by unfold vlB;simp;omega
   have cA:=cAs 1 0 0 i vO oM (v-1)
   rw[if_pos hq,if_pos hq]at cA
   have hI:stI w p s x=(MG w p (Sv.put {s with pc:=x.a} i (v-1)) (CJ 1 0 0 i (v-1)),0):=by unfold stI;rw[if_neg o1,if_neg o2,if_pos o6,hi,ca,wO,if_pos h0]
   rw[hI]at ZF
   simp (disch:=first|decide|omega) only[a_mstp,hA,gk,gk0,f0,f1,f4,gS,DU,hk,QI,AT,kn,kl,kn0,kl0,mA,dB,hi,IU,hwv,e0,e1,d1,d2,d7,d6,go_sem]
   refine QA.nxt (EE _ _) ?_
   simp (disch:=first|decide|omega) only[hA,gk,gk0,f0,f1,f4,gS,DU,hk,QI,AT,kn,kl,kn0,kl0,mA,dB,hi,IU,hwv,e0,e1,d1,d2,d7,d6,go_sem]
   clear e0 e1
   refine QA.nxt (cA _) ?_
   obtain⟨w1,LE⟩:∃w1,asW w p ⟨1,0,0,0,[]⟩ i (v-1)=w1:=⟨_,rfl⟩
   rw[LE]
   have e1:w1.sv.length=w.sv.length:=by rw[←LE];first|rfl|exact dh
   have e2:w1.tr.length=w.tr.length:=by rw[←LE];first|rfl|exact tF
   have OH:w1.sv.getD p dfSv=s.put i (v-1):=by rw[←LE];first|exact hs|(show (w.sv.set p _).getD p dfSv=_;rw[au,ay hp,hs];rfl)
   obtain⟨SV1,sH⟩:∃SV1,LG w1 p (q+1)=SV1:=⟨_,rfl⟩
   obtain⟨F1,uM⟩:∃F1,mvF f' w1 p q=F1:=⟨_,rfl⟩
   obtain⟨lR,gS1,g0,g1,g4⟩:=sE (by rw[e1];exact hp) (by rw[e2];exact YJ) uM OH sH
   have qI:=pL (f':=f') (q:=q) (c:=x.a) (show p<w1.sv.length by rw[e1];exact hp) OH
   rw[sH,uM]at qI
   rw[e1]at lR g0 qI
   rw[uM]
   simp (disch:=first|decide|omega) only[hA,gk,gk0,g0,g1,g4,lR,gS1,hk,AT,kn,kl,kn0,kl0,mA,dB,hi,go_sem]
   rw[qI]
   have IG:stM w p=pcW w1 p (x.a):=by rw[hM,ZF,if_pos rfl,←LE];exact (QU hp hs).symm
   have RJ:(stW w p).2=0:=by rw[ZF]
   rw[RJ,IG]
   exact FC (xs:=[.v (.int .i64 0)]) (.inr rfl) kR kO (by rw[RA];exact hRw _) hb (rH _) ⟨rfl,rfl,rfl⟩
  ·have e0:decide (v>0)=false:=ag oM
   have e1:decide (0<v)=false:=e0
   have hI:stI w p s x=(MG w p {s with pc:=s.pc+1} dfEv54,0):=by unfold stI;rw[if_neg o1,if_neg o2,if_pos o6,hi,ca,wO,if_neg h0]
   rw[hI]at ZF
   have cE:=cEv 1 0 0
   simp (disch:=first|decide|omega) only[a_mstp,hA,gk,gk0,f0,f1,f4,gS,DU,hk,QI,AT,kn,kl,kn0,kl0,mA,dB,hi,IU,e0,e1,d1,d2,d7,d6,go_sem]
   clear e0 e1
   refine QA.nxt (EE _ _) ?_
   simp (disch:=first|decide|omega) only[hA,gk,gk0,f0,f1,f4,gS,DU,hk,QI,AT,kn,kl,kn0,kl0,mA,dB,hi,d1,d2,d7,d6,go_sem]
   refine QA.nxt (cE _) ?_
   obtain⟨w1,LE⟩:∃w1,evW w p ⟨1,0,0,0,[]⟩=w1:=⟨_,rfl⟩
   rw[LE]
   have e1:w1.sv.length=w.sv.length:=by rw[←LE];first|rfl|exact dh
   have e2:w1.tr.length=w.tr.length:=by rw[←LE];first|rfl|exact tF
   have OH:w1.sv.getD p dfSv=s:=by rw[←LE];first|exact hs|(show (w.sv.set p _).getD p dfSv=_;rw[au,ay hp,hs];rfl)
   obtain⟨SV1,sH⟩:∃SV1,LG w1 p (q+1)=SV1:=⟨_,rfl⟩
   obtain⟨F1,uM⟩:∃F1,mvF f' w1 p q=F1:=⟨_,rfl⟩
   obtain⟨lR,gS1,g0,g1,g4⟩:=sE (by rw[e1];exact hp) (by rw[e2];exact YJ) uM OH sH
   have qI:=pL (f':=f') (q:=q) (c:=((k+1:Nat):Int)) (show p<w1.sv.length by rw[e1];exact hp) OH
   rw[sH,uM]at qI
   rw[e1]at lR g0 qI
   rw[uM]
   simp (disch:=first|decide|omega) only[hA,gk,gk0,g0,g1,g4,lR,gS1,hk,AT,kn,kl,kn0,kl0,mA,dB,go_sem]
   rw[qI]
   have IG:stM w p=pcW w1 p (((k+1:Nat):Int)):=by rw[hk1,hM,ZF,if_pos rfl,←LE];exact (JR hs).symm
   have RJ:(stW w p).2=0:=by rw[ZF]
   rw[RJ,IG]
   exact FC (xs:=[.v (.int .i64 0)]) (.inr rfl) kR kO (by rw[RA];exact hRw _) hb (rH _) ⟨rfl,rfl,rfl⟩
 by_cases o3:x.op=3
 ·unfold JE at zE
  rw[if_neg oM,if_pos o3]at zE
  unfold inZ at zE
  simp only[ar,bf]at zE
  obtain⟨i,hi⟩:∃i:Nat,x.a=i:=⟨x.a.toNat,by omega⟩
  have vO:i<s.vars.length:=by omega
  have hms:msB (jH w p s x)=true:=by
   have:=UU.vs (s.vars.getD i 0) (by rw[YA vO];exact ak _)
   have hs3:=h3 o3
   unfold jH msB ptB
   rw[hi,ca]
   simp only[List.all_cons,List.all_nil,this,Bool.and_true,dw,ar,bf]
   exact⟨by omega,by omega,by omega,by omega,by omega⟩
  have cS:=cSn x i hi vO oM hms
  rw[hi]at cS
  have d1:(x.op==1)=false:=by rw[o3];rfl
  have d2:(x.op==2)=false:=by rw[o3];rfl
  have d7:(x.op==7)=false:=by rw[o3];rfl
  have d6:(x.op==6)=false:=by rw[o3];rfl
  have d3:(x.op==3)=true:=by rw[o3];rfl
  by_cases hz:sdE w.net (jH w p s x)=0
  ·rw[if_pos hz,hz]at cS
   have hI:stI w p s x=({MG w p {s with pc:=s.pc+1} ⟨2,x.b,w.sent,0,[]⟩ with net:=sdR w.net (jH w p s x),sent:=w.sent+1},0):=by unfold stI;rw[if_neg o1,if_neg o2,if_neg o6,if_pos o3,if_pos hz]
   rw[hI]at ZF
   simp (disch:=first|decide|omega) only[a_mstp,hA,gk,gk0,f0,f1,f4,gS,DU,hk,QI,AT,kn,kl,kn0,kl0,mA,dB,hi,d1,d2,d7,d6,d3,go_sem]
   refine QA.nxt (cS _) ?_
   obtain⟨w1,LE⟩:∃w1,evW {w with net:=sdR w.net (jH w p s x),sent:=w.sent+1} p ⟨2,x.b,w.sent,0,[]⟩=w1:=⟨_,rfl⟩
   rw[LE]
   have e1:w1.sv.length=w.sv.length:=by rw[←LE];first|rfl|exact dh
   have e2:w1.tr.length=w.tr.length:=by rw[←LE];first|rfl|exact tF
   have OH:w1.sv.getD p dfSv=s:=by rw[←LE];first|exact hs|(show (w.sv.set p _).getD p dfSv=_;rw[au,ay hp,hs];rfl)
   obtain⟨SV1,sH⟩:∃SV1,LG w1 p (q+1)=SV1:=⟨_,rfl⟩
   obtain⟨F1,uM⟩:∃F1,mvF f' w1 p q=F1:=⟨_,rfl⟩
   obtain⟨lR,gS1,g0,g1,g4⟩:=sE (by rw[e1];exact hp) (by rw[e2];exact YJ) uM OH sH
   have qI:=pL (f':=f') (q:=q) (c:=((k+1:Nat):Int)) (show p<w1.sv.length by rw[e1];exact hp) OH
   rw[sH,uM]at qI
   rw[e1]at lR g0 qI
   rw[uM]
   simp (disch:=first|decide|omega) only[hA,gk,gk0,g0,g1,g4,lR,gS1,hk,AT,kn,kl,kn0,kl0,mA,dB,go_sem]
   rw[qI]
   have IG:stM w p=pcW w1 p (((k+1:Nat):Int)):=by rw[hk1,hM,ZF,if_pos rfl,←LE];exact (JR (w:={w with net:=sdR w.net (jH w p s x),sent:=w.sent+1}) hs).symm
   have RJ:(stW w p).2=0:=by rw[ZF]
   rw[RJ,IG]
   exact FC (xs:=[.v (.int .i64 0)]) (.inr rfl) kR kO (by rw[RA];exact hRw _) hb (rH _) ⟨rfl,rfl,rfl⟩
  ·rw[if_neg hz]at cS
   obtain⟨er,her⟩:∃er,sdE w.net (jH w p s x)=er:=⟨_,rfl⟩
   have hI:stI w p s x=(wd0,er):=by unfold stI;rw[if_neg o1,if_neg o2,if_neg o6,if_pos o3,if_neg hz,her]
   rw[hI]at ZF
   rw[her]at cS hz
   rw[hF]at cS
   simp (disch:=first|decide|omega) only[a_mstp,hA,gk,gk0,f0,f1,f4,gS,DU,hk,QI,AT,kn,kl,kn0,kl0,mA,dB,hi,d1,d2,d7,d6,d3,go_sem]
   refine QA.nxt (cS _) ?_
   have qI:=pL (f':=f') (q:=q) (c:=((k+1:Nat):Int)) hp hs
   rw[E9,hF]at qI
   simp (disch:=first|decide|omega) only[hA,gk,gk0,f0,f1,f4,gS,DU,hk,QI,AT,kn,kl,kn0,kl0,mA,dB,go_sem]
   rw[qI]
   have IG:stM w p=pcW w p (((k+1:Nat):Int)):=by rw[hk1,hM,ZF,if_neg hz]
   have RJ:(stW w p).2=er:=by rw[ZF]
   rw[RJ,IG]
   exact FC (xs:=[.v (.int .i64 er)]) (.inr rfl) kR kO (by rw[RA];exact hRw _) hb (rH _) ⟨rfl,rfl,rfl⟩
 have o45:x.op=4∨x.op=5:=by
  unfold JE at zE
  rw[if_neg oM,if_neg o3]at zE
  by_cases o4:x.op=4
  ·exact .inl o4
  ·rw[if_neg o4]at zE
   by_cases o5:x.op=5
   ·exact .inr o5
   ·rw[if_neg o5,if_neg o6]at zE
    simp at zE;omega
 have hxa:0≤x.a∧x.a<s.vars.length:=by
  unfold JE inZ at zE
  rcases o45 with o|o<;>simp[o]at zE<;>omega
 obtain⟨i,hi⟩:∃i:Nat,x.a=i:=⟨x.a.toNat,by omega⟩
 have vO:i<s.vars.length:=by omega
 have hI:stI w p s x=(MO w p s x,0):=by unfold stI;rw[if_neg o1,if_neg o2,if_neg o6,if_neg o3,if_pos o45]
 rw[hI]at ZF
 have d1:(x.op==1)=false:=dr.2 o1
 have d2:(x.op==2)=false:=dr.2 o2
 have d7:(x.op==7)=false:=dr.2 o7
 have d6:(x.op==6)=false:=dr.2 o6
 have d3:(x.op==3)=false:=dr.2 o3
 have cW:=fun b l=>IS w.net p b l
 simp only[eNw,bj,cd]at cW
 by_cases hf:fiR w.net p<0
 ·have o5:x.op=5:=by
   rcases o45 with o|o
   ·have:=O9 (h4 o);omega
   ·exact o
  have d5:(x.op==5)=true:=by rw[o5];rfl
  have N8:fH w.net p=0:=by unfold fH;rw[if_pos ⟨hvn,hpo⟩,pX _ (ZAr hf)]
  have n0:(((0:Nat):Int)==0)=true:=rfl
  rw[N8]at cW
  have hR2:MO w p s x=MG w p {s with pc:=x.b} dfEv54:=by unfold MO;rw[if_pos hf]
  rw[hR2]at ZF
  have cE:=cEv 1 0 0
  simp (disch:=first|decide|omega) only[a_mstp,hA,gk,gk0,f0,f1,f4,gS,DU,hk,QI,AT,kn,kl,kn0,kl0,mA,dB,hi,d1,d2,d7,d6,d3,d5,go_sem]
  refine QA.nxt (cW _ _) ?_
  simp (disch:=first|decide|omega) only[hA,gk,gk0,f0,f1,f4,gS,DU,hk,QI,AT,kn,kl,kn0,kl0,mA,dB,hi,n0,d5,go_sem]
  refine QA.nxt (EE _ _) ?_
  simp (disch:=first|decide|omega) only[hA,gk,gk0,f0,f1,f4,gS,DU,hk,QI,AT,kn,kl,kn0,kl0,mA,dB,hi,go_sem]
  refine QA.nxt (cE _) ?_
  obtain⟨w1,LE⟩:∃w1,evW w p ⟨1,0,0,0,[]⟩=w1:=⟨_,rfl⟩
  rw[LE]
  have e1:w1.sv.length=w.sv.length:=by rw[←LE];first|rfl|exact dh
  have e2:w1.tr.length=w.tr.length:=by rw[←LE];first|rfl|exact tF
  have OH:w1.sv.getD p dfSv=s:=by rw[←LE];first|exact hs|(show (w.sv.set p _).getD p dfSv=_;rw[au,ay hp,hs];rfl)
  obtain⟨SV1,sH⟩:∃SV1,LG w1 p (q+1)=SV1:=⟨_,rfl⟩
  obtain⟨F1,uM⟩:∃F1,mvF f' w1 p q=F1:=⟨_,rfl⟩
  obtain⟨lR,gS1,g0,g1,g4⟩:=sE (by rw[e1];exact hp) (by rw[e2];exact YJ) uM OH sH
  have qI:=pL (f':=f') (q:=q) (c:=x.b) (show p<w1.sv.length by rw[e1];exact hp) OH
  rw[sH,uM]at qI
  rw[e1]at lR g0 qI
  rw[uM]
  simp (disch:=first|decide|omega) only[hA,gk,gk0,g0,g1,g4,lR,gS1,hk,AT,kn,kl,kn0,kl0,mA,dB,go_sem]
  rw[qI]
  have IG:stM w p=pcW w1 p (x.b):=by rw[hM,ZF,if_pos rfl,←LE];exact (JR hs).symm
  have RJ:(stW w p).2=0:=by rw[ZF]
  rw[RJ,IG]
  exact FC (xs:=[.v (.int .i64 0)]) (.inr rfl) kR kO (by rw[RA];exact hRw _) hb (rH _) ⟨rfl,rfl,rfl⟩
 obtain⟨j,hj,wG,hja,hjf⟩:=r9 (n:=w.net) (to:=p) oM
 obtain⟨mg,MY⟩:∃mg,w.net.l.getD j dfMs=mg:=⟨_,rfl⟩
 have F4:mg∈w.net.l:=by rw[←MY,YA wG];exact ak wG
 obtain⟨xJ,_⟩:=NX hw.tr (hw.msg mg F4)
 obtain⟨v,hbv⟩:∃v,mg.body=[v]:=List.length_eq_one_iff.1 xJ
 have wO:vlB v=true:=by
  have:=hw.net.ms mg F4
  unfold msB at this
  simp only[ar,bn]at this
  exact this.2.2.2.2.2 v (by rw[hbv];simp)
 have cR:=cRc x i hi vO oM j hj mg MY v hbv wO
 rw[hi]at cR
 have LE:0<fH w.net p:=by
  unfold fH
  rw[if_pos ⟨hvn,hpo⟩]
  exact ZEr wG hja
 have n0:((fH w.net p:Int)==0)=false:=dr.2 oM
 have hRv:MO w p s x=if (DB w.tr 3 mg.nu).2>0 then {MG w p s dfEv54 with net:=woN w.net j} else {MG w p (Sv.put {s with pc:=s.pc+1} i v) (CJ 3 mg.fr mg.nu i v) with net:=woN w.net j}:=by
  unfold MO
  rw[if_neg hf,hj,ca,MY,hi,ca,hbv];rfl
 rw[←uL (EI hw.tr)]at hRv
 rw[hRv]at ZF
 clear hjf
 by_cases ha:0<(QC w.tr 3 mg.nu).2
 ·rw[if_pos ha,ae ha]at cR
  rw[if_pos (show (QC w.tr 3 mg.nu).2>0 from ha)]at ZF
  rcases o45 with o4|o5
  ·have d5:(x.op==5)=false:=by rw[o4];rfl
   simp (disch:=first|decide|omega) only[a_mstp,hA,gk,gk0,f0,f1,f4,gS,DU,hk,QI,AT,kn,kl,kn0,kl0,mA,dB,hi,d1,d2,d7,d6,d3,d5,go_sem]
   clear LE n0
   refine QA.nxt (cR _) ?_
   obtain⟨w1,LE⟩:∃w1,evW {w with net:=woN w.net j} p ⟨1,0,0,0,[]⟩=w1:=⟨_,rfl⟩
   rw[LE]
   have e1:w1.sv.length=w.sv.length:=by rw[←LE];first|rfl|exact dh
   have e2:w1.tr.length=w.tr.length:=by rw[←LE];first|rfl|exact tF
   have OH:w1.sv.getD p dfSv=s:=by rw[←LE];first|exact hs|(show (w.sv.set p _).getD p dfSv=_;rw[au,ay hp,hs];rfl)
   obtain⟨SV1,sH⟩:∃SV1,LG w1 p (q+1)=SV1:=⟨_,rfl⟩
   obtain⟨F1,uM⟩:∃F1,mvF f' w1 p q=F1:=⟨_,rfl⟩
   obtain⟨lR,gS1,g0,g1,g4⟩:=sE (by rw[e1];exact hp) (by rw[e2];exact YJ) uM OH sH
   have qI:=pL (f':=f') (q:=q) (c:=((k:Nat):Int)) (show p<w1.sv.length by rw[e1];exact hp) OH
   rw[sH,uM]at qI
   rw[e1]at lR g0 qI
   rw[uM]
   simp (disch:=first|decide|omega) only[hA,gk,gk0,g0,g1,g4,lR,gS1,hk,AT,kn,kl,kn0,kl0,mA,dB,go_sem]
   rw[qI]
   have IG:stM w p=pcW w1 p (((k:Nat):Int)):=by rw[←hk,hM,ZF,if_pos rfl,←LE];exact (JR (w:={w with net:=woN w.net j}) hs).symm
   have RJ:(stW w p).2=0:=by rw[ZF]
   rw[RJ,IG]
   exact FC (xs:=[.v (.int .i64 0)]) (.inr rfl) kR kO (by rw[RA];exact hRw _) hb (rH _) ⟨rfl,rfl,rfl⟩

  ·have d5:(x.op==5)=true:=by rw[o5];rfl
   simp (disch:=first|decide|omega) only[a_mstp,hA,gk,gk0,f0,f1,f4,gS,DU,hk,QI,AT,kn,kl,kn0,kl0,mA,dB,hi,d1,d2,d7,d6,d3,d5,go_sem]
   refine QA.nxt (cW _ _) ?_
   simp (disch:=first|decide|omega) only[hA,gk,gk0,f0,f1,f4,gS,DU,hk,QI,AT,kn,kl,kn0,kl0,mA,dB,hi,n0,d5,go_sem]
   clear LE n0
   refine QA.nxt (cR _) ?_
   obtain⟨w1,LE⟩:∃w1,evW {w with net:=woN w.net j} p ⟨1,0,0,0,[]⟩=w1:=⟨_,rfl⟩
   rw[LE]
   have e1:w1.sv.length=w.sv.length:=by rw[←LE];first|rfl|exact dh
   have e2:w1.tr.length=w.tr.length:=by rw[←LE];first|rfl|exact tF
   have OH:w1.sv.getD p dfSv=s:=by rw[←LE];first|exact hs|(show (w.sv.set p _).getD p dfSv=_;rw[au,ay hp,hs];rfl)
   obtain⟨SV1,sH⟩:∃SV1,LG w1 p (q+1)=SV1:=⟨_,rfl⟩
   obtain⟨F1,uM⟩:∃F1,mvF f' w1 p q=F1:=⟨_,rfl⟩
   obtain⟨lR,gS1,g0,g1,g4⟩:=sE (by rw[e1];exact hp) (by rw[e2];exact YJ) uM OH sH
   have qI:=pL (f':=f') (q:=q) (c:=((k:Nat):Int)) (show p<w1.sv.length by rw[e1];exact hp) OH
   rw[sH,uM]at qI
   rw[e1]at lR g0 qI
   rw[uM]
   simp (disch:=first|decide|omega) only[hA,gk,gk0,g0,g1,g4,lR,gS1,hk,AT,kn,kl,kn0,kl0,mA,dB,go_sem]
   rw[qI]
   have IG:stM w p=pcW w1 p (((k:Nat):Int)):=by rw[←hk,hM,ZF,if_pos rfl,←LE];exact (JR (w:={w with net:=woN w.net j}) hs).symm
   have RJ:(stW w p).2=0:=by rw[ZF]
   rw[RJ,IG]
   exact FC (xs:=[.v (.int .i64 0)]) (.inr rfl) kR kO (by rw[RA];exact hRw _) hb (rH _) ⟨rfl,rfl,rfl⟩
 ·rw[if_neg ha,ag ha]at cR
  rw[if_neg (show ¬(QC w.tr 3 mg.nu).2>0 from ha)]at ZF
  rcases o45 with o4|o5
  ·have d5:(x.op==5)=false:=by rw[o4];rfl
   simp (disch:=first|decide|omega) only[a_mstp,hA,gk,gk0,f0,f1,f4,gS,DU,hk,QI,AT,kn,kl,kn0,kl0,mA,dB,hi,d1,d2,d7,d6,d3,d5,go_sem]
   clear LE n0
   refine QA.nxt (cR _) ?_
   obtain⟨w1,LE⟩:∃w1,asW {w with net:=woN w.net j} p ⟨3,mg.fr,mg.nu,0,[]⟩ i v=w1:=⟨_,rfl⟩
   rw[LE]
   have e1:w1.sv.length=w.sv.length:=by rw[←LE];first|rfl|exact dh
   have e2:w1.tr.length=w.tr.length:=by rw[←LE];first|rfl|exact tF
   have OH:w1.sv.getD p dfSv=s.put i v:=by rw[←LE];first|exact hs|(show (w.sv.set p _).getD p dfSv=_;rw[au,ay hp,hs];rfl)
   obtain⟨SV1,sH⟩:∃SV1,LG w1 p (q+1)=SV1:=⟨_,rfl⟩
   obtain⟨F1,uM⟩:∃F1,mvF f' w1 p q=F1:=⟨_,rfl⟩
   obtain⟨lR,gS1,g0,g1,g4⟩:=sE (by rw[e1];exact hp) (by rw[e2];exact YJ) uM OH sH
   have qI:=pL (f':=f') (q:=q) (c:=((k+1:Nat):Int)) (show p<w1.sv.length by rw[e1];exact hp) OH
   rw[sH,uM]at qI
   rw[e1]at lR g0 qI
   rw[uM]
   simp (disch:=first|decide|omega) only[hA,gk,gk0,g0,g1,g4,lR,gS1,hk,AT,kn,kl,kn0,kl0,mA,dB,hi,go_sem]
   rw[qI]
   have IG:stM w p=pcW w1 p (((k+1:Nat):Int)):=by rw[hk1,hM,ZF,if_pos rfl,←LE];exact (QU (w:={w with net:=woN w.net j}) hp hs).symm
   have RJ:(stW w p).2=0:=by rw[ZF]
   rw[RJ,IG]
   exact FC (xs:=[.v (.int .i64 0)]) (.inr rfl) kR kO (by rw[RA];exact hRw _) hb (rH _) ⟨rfl,rfl,rfl⟩

  ·have d5:(x.op==5)=true:=by rw[o5];rfl
   simp (disch:=first|decide|omega) only[a_mstp,hA,gk,gk0,f0,f1,f4,gS,DU,hk,QI,AT,kn,kl,kn0,kl0,mA,dB,hi,d1,d2,d7,d6,d3,d5,go_sem]
   refine QA.nxt (cW _ _) ?_
   simp (disch:=first|decide|omega) only[hA,gk,gk0,f0,f1,f4,gS,DU,hk,QI,AT,kn,kl,kn0,kl0,mA,dB,hi,n0,d5,go_sem]
   clear LE n0
   refine QA.nxt (cR _) ?_
   obtain⟨w1,LE⟩:∃w1,asW {w with net:=woN w.net j} p ⟨3,mg.fr,mg.nu,0,[]⟩ i v=w1:=⟨_,rfl⟩
   rw[LE]
   have e1:w1.sv.length=w.sv.length:=by rw[←LE];first|rfl|exact dh
   have e2:w1.tr.length=w.tr.length:=by rw[←LE];first|rfl|exact tF
   have OH:w1.sv.getD p dfSv=s.put i v:=by rw[←LE];first|exact hs|(show (w.sv.set p _).getD p dfSv=_;rw[au,ay hp,hs];rfl)
   obtain⟨SV1,sH⟩:∃SV1,LG w1 p (q+1)=SV1:=⟨_,rfl⟩
   obtain⟨F1,uM⟩:∃F1,mvF f' w1 p q=F1:=⟨_,rfl⟩
   obtain⟨lR,gS1,g0,g1,g4⟩:=sE (by rw[e1];exact hp) (by rw[e2];exact YJ) uM OH sH
   have qI:=pL (f':=f') (q:=q) (c:=((k+1:Nat):Int)) (show p<w1.sv.length by rw[e1];exact hp) OH
   rw[sH,uM]at qI
   rw[e1]at lR g0 qI
   rw[uM]
   simp (disch:=first|decide|omega) only[hA,gk,gk0,g0,g1,g4,lR,gS1,hk,AT,kn,kl,kn0,kl0,mA,dB,hi,go_sem]
   rw[qI]
   have IG:stM w p=pcW w1 p (((k+1:Nat):Int)):=by rw[hk1,hM,ZF,if_pos rfl,←LE];exact (QU (w:={w with net:=woN w.net j}) hp hs).symm
   have RJ:(stW w p).2=0:=by rw[ZF]
   rw[RJ,IG]
   exact FC (xs:=[.v (.int .i64 0)]) (.inr rfl) kR kO (by rw[RA];exact hRw _) hb (rH _) ⟨rfl,rfl,rfl⟩
def a_rCpL:AFunc:=({c:=_}:CF Tryz.prog 129).c
theorem ZCV:qA Tryz.prog 129=some a_rCpL:=by kernel_rfl
def ZA3:List (Nat×Nat):=[(6,106)]
def ZA2:List (Nat×Nat):=[(8,8),(27,51)]
def ZA1:List (Nat×Nat):=[(9,12),(52,100)]
def ZA0:List (Nat×Nat):=[(12,12),(78,94)]

theorem pO {m id ver sz:Nat} {rows:List (List IV)} {x:AV} (h:AVlt m x) (hm:m≤id):ZE id ver sz rows x=x:=by
 cases h with
 |sl i v o n hi=>simp only[ZE];rw[if_neg oM]
 |_=>rfl
theorem ZAm {m id ver sz:Nat} {rows:List (List IV)} {x:AV} (h:AVlt m x) (hm:m≤id):frz id ver sz rows x=x:=by
 cases h with
 |agg cs hc =>
   simp only[frz]
   congr 1
   rw[ja (fun c nX=>pO (hc c nX) hm),kp]
 |tup cs hc =>
   simp only[frz]
   congr 1
   rw[ja (fun c nX=>pO (hc c nX) hm),kp]
 |sl i v o n hi=>exact pO (.sl i v o n hi) hm
 |_=>rfl
theorem lF.frzX {f:Nat→AV} {m id ver sz:Nat} {rows:List (List IV)} (hm:m≤id):∀{ov:List (Nat×AV)},lF f ov→bH m ov→lF (fun n=>frz id ver sz rows (f n)) ov
 |[],_,_=>trivial
 |(n,x)::r,h,ho=>⟨by show Go.Proofs.YtmaokjojbjdpoaaGreatDoor.frz id ver sz rows (f n)=x;rw[h.1];exact ZAm ho.1 hm,lF.frzX hm h.2 ho.2⟩
theorem ZAt {m id ver sz:Nat} {rows:List (List IV)} (hm:m≤id) {els:List (List AV)} (h:∀r∈els,∀c∈r,AVlt m c):els.map (·.map (ZE id ver sz rows))=els:=by
 rw[ja (g:=fun r=>r) (fun r hr=>by rw[ja (fun c hc=>pO (h r hr c hc) hm),kp]),kp]
theorem gT {m id ver sz:Nat} {rows:List (List IV)} {h:List Row} (hh:gA m h) (hm:m≤id):h.map (DE (ZE id ver sz rows))=h:=by
 refine lm kS (fun i h1 h2=>?_)
 rw[jc]
 cases hr:h[i] with
 |dead v=>rfl
 |live v s els =>
   have:=hh i v s els (by rw[ah h2,hr])
   unfold DE
   simp only
   rw[ZAt hm this]
theorem ZAA {id ver sz:Nat} {rows r:List (List IV)}:(vs r).map (List.map (ZE id ver sz rows))=vs r:=by
 simp[vs,ZE,Function.comp_def]
theorem VA.kfz {N:Nat} {p:List (Nat×Nat)} {ov:List (Nat×AV)} {f g:Nat→AV} {b l l2 l':List Row} {k i ver sz:Nat} {rows:List (List IV)} (hi:l[i]? = some (.live ver sz (vs rows))) (he:gF p f=g) (h:lF f ov) (hl:(l.set i (.dead ver)).map (DE (ZE (b.length+i) ver sz rows))=l2) (hE:KLt (b.length+k) g) (hki:k≤i) (ho:bH (b.length+i) ov)
  (hw:∀f',gF p f'=g→lF f' ov→VA (kOf N f') b l2 (kOf N (kOv ov g)) b l'):VA (kOf N f) b l (kOf N (kOv ov g)) b l':=by
 have h2:=VA.freezeR (e:=kOf N f) (b:=b) hi
 have h3:(kOf N f).map (frz (b.length+i) ver sz rows)=kOf N (fun n=>frz (b.length+i) ver sz rows (f n)):=by unfold kOf;rw[List.map_map];rfl
 rw[h3,hl]at h2
 refine h2.trans (hw _ ?_ (h.frzX (m:=b.length+i) (ai _) ho))
 rw[←he]
 funext n
 unfold gF
 split
 ·rfl
 ·rename_i hn
  have hf:f n=g n:=by rw[←he];unfold gF;rw[if_neg hn]
  show frz (b.length+i) ver sz rows (f n)=f n
  rw[hf]
  exact ZAm (m:=b.length+k) (id:=b.length+i) (hE n) oM
theorem VA.nilcellP {e:List AV} {b P X:List Row} {m ver z k j sz:Nat} {els:List (List AV)} {row:List AV} (hi:X[m]? = some (.live ver z els)) (hk:els[k]? = some row) (hj:row[j]? = some (.v .zsl)) :
  VA e b (P++X) e b (P++(X.set m (.live ver z (els.set k (row.set j (.sl (b.length+(P.length+X.length)) 0 0 0))))++[.live 0 sz []])):=by
 have:=VA.nilcell (e:=e) (b:=b) (l:=P++X) (i:=P.length+m) (sz:=sz) (by rw[vJ];exact hi) hk hj
 rw[RH,ap,bc]at this
 exact this
theorem gA.appd {m:Nat} {h k:List Row} (h1:gA m h) (h2:gA m k):gA m (h++k):=fun id ver sz els hr row JD c hc=>by
 by_cases hid:id<h.length
 ·rw[aw hid]at hr;exact h1 id ver sz els hr row JD c hc
 ·rw[aq oM]at hr;exact h2 _ ver sz els hr row JD c hc
theorem gA.fl {m n:Nat} {C:Nat→Row} (h:∀i,i<n→∀ver sz els,C i=.live ver sz els→∀row∈els,∀c∈row,AVlt m c):gA m (fl n C):=fun id ver sz els hr row JD c hc=>by
 by_cases hid:id<n
 ·rw[CB hid]at hr;exact h id hid ver sz els (jd hr) row JD c hc
 ·rw[UH oM]at hr;cases hr
theorem VA.kroundP {N:Nat} {p:List (Nat×Nat)} {ov:List (Nat×AV)} {f g:Nat→AV} {b P X X1 junk:List Row} {k:Nat} (pR:gA (b.length+P.length) P) (he:gF p f=g) (h:lF f ov) (hl:X=X1++junk) (hE:KLt (b.length+k) g) (hk:k≤P.length+X1.length) (ho:bH (b.length+(P.length+X1.length)) ov) (hb:gA b.length b) (h1:gA (b.length+(P.length+X1.length)) X1) :
  VA (kOf N f) b (P++X) (kOf N (kOv ov g)) b (P++X1):=by
 have bO:(P++X1).length=P.length+X1.length:=ap
 exact VA.kround (p:=p) (k:=k) (junk:=junk) he h (by rw[hl,bc]) hE (by rw[bO];exact hk) (by rw[bO];exact ho) hb (by rw[bO];exact (pR.mono oM).appd h1)
theorem VA.kroundFP {N:Nat} {p:List (Nat×Nat)} {ov:List (Nat×AV)} {f g:Nat→AV} {b P X X1 junk:List Row} {k m ver sz:Nat} {rows:List (List IV)} (pR:gA (b.length+P.length) P) (hi:X[m]? = some (.live ver sz (vs rows))) (he:gF p f=g) (h:lF f ov) (hl:(X.set m (.dead ver)).map (DE (ZE (b.length+(P.length+m)) ver sz rows))=X1++junk) (hE:KLt (b.length+k) g) (hk:k≤P.length+X1.length) (hm:X1.length≤m) (ho:bH (b.length+(P.length+X1.length)) ov) (hb:gA b.length b) (h1:gA (b.length+(P.length+X1.length)) X1)
  (ho2:bH (b.length+(P.length+m)) ov):VA (kOf N f) b (P++X) (kOf N (kOv ov g)) b (P++X1):=by
 refine VA.kfz (i:=P.length+m) (k:=k) (by rw[vJ];exact hi) he h rfl hE oM ho2 (fun f' he' h'=>?_)
 rw[RH,bh,gT pR oM]
 exact VA.kroundP pR he' h' hl hE hk ho hb h1
def prA (t:Tr) (k:Nat):Pr:=t.getD k dfPr
def cpE (t:Tr) (p:Nat):Row:=.live (prA t p).evs.length 5 (vs ((prA t p).evs.map eEv))
def cpC (t:Tr) (base o:Nat) (p:Nat):List AV:=[.v (.str (prA t p).name),.v (.isl 2 ((prA t p).vars.map eVr)),.sl (base+(o+p)) (prA t p).evs.length 0 (prA t p).evs.length]
def cpH (t:Tr) (B k:Nat):List Row:=.live 0 1 [[.v (.isl 3 (t.map ePr))]]::.live 0 1 [[.v .zsl]]::.live 0 1 [[.sl (B+3) k 0 k]]::.live k 3 (fl k (cpC t B 4))::fl k (cpE t)
def cpR (t:Tr) (base:Nat):List Row:=.live t.length 3 (fl t.length (cpC t base 1))::fl t.length (cpE t)
def UJ (t:Tr):List Int:=t.map fun p=>(p.evs.length:Int)
theorem ZJo {t:Tr} {B k:Nat}:gA (B+(4+k)) (cpH t B k):=by
 unfold cpH
 refine SC.2 ⟨by simp[qR],SC.2 ⟨by simp[qR],SC.2 ⟨by simp[NO];omega,SC.2 ⟨fun row JD c hc=>?_,gA.fl (fun i hi ver sz els he row JD c hc=>?_)⟩⟩⟩⟩
 ·obtain⟨p,hp,rfl⟩:=cr.1 JD
  have hp:=ba.1 hp
  unfold cpC at hc
  simp only[cz,ie,or_false]at hc
  rcases hc with rfl|rfl|rfl
  ·exact .v _
  ·exact .v _
  ·exact .sl _ _ _ _ oM
 ·unfold cpE at he
  cases he
  exact cJ.2 trivial row JD c hc
theorem ZJn {N:Nat} {p:List (Nat×Nat)} {f g:Nat→AV} {B P:List Row} {t:Tr} {k:Nat} {nm:ByteArray} {xs:List Vr} {ys:List Ev} {x0 x3:Row} {s:Nat} (hnm:(prA t k).name=nm) (R8:(prA t k).vars=xs) (hys:(prA t k).evs=ys) (hP:P=cpH t B.length k)
  (he:gF p f=g) (h:lF f [(s,.v (.int .i64 ((k+1:Nat):Int)))]) (hE:KLt (B.length+4) g) (hR:gA B.length B) :
  VA (kOf N f) B (((P++[x0,.live xs.length 2 (vs (xs.map eVr)),.live ys.length 5 (vs (ys.map eEv)),x3]).set 3 (.live (k+1) 3 (fl k (cpC t B.length 4)++[[.v (.str nm),.sl (B.length+(P.length+1)) xs.length 0 xs.length,.sl (B.length+(P.length+2)) ys.length 0 ys.length]]))).set 2 (.live 0 1 [[.sl (B.length+3) (k+1) 0 (k+1)]]))
   (kOf N (kOv [(s,.v (.int .i64 ((k+1:Nat):Int)))] g)) B (cpH t B.length (k+1)):=by
 have hPl:P.length=4+k:=by rw[hP];simp[cpH,xA];omega
 obtain⟨els,xN⟩:∃els,els=fl k (cpC t B.length 4):=⟨_,rfl⟩
 have hlq:((P++[x0,.live xs.length 2 (vs (xs.map eVr)),.live ys.length 5 (vs (ys.map eEv)),x3]).set 3 (.live (k+1) 3 (fl k (cpC t B.length 4)++[[.v (.str nm),.sl (B.length+(P.length+1)) xs.length 0 xs.length,.sl (B.length+(P.length+2)) ys.length 0 ys.length]]))).set 2 (.live 0 1 [[.sl (B.length+3) (k+1) 0 (k+1)]])
   = ((zTA t)::.live 0 1 [[.v .zsl]]::.live 0 1 [[.sl (B.length+3) (k+1) 0 (k+1)]]::.live (k+1) 3 (els++[[.v (.str nm),.sl (B.length+(P.length+1)) xs.length 0 xs.length,.sl (B.length+(P.length+2)) ys.length 0 ys.length]])::fl k (cpE t))++[x0,.live xs.length 2 (vs (xs.map eVr)),.live ys.length 5 (vs (ys.map eEv)),x3]:=by
  rw[jf _ _ oM,jf _ _ (by rw[dh];omega),xN]
  congr 1
  generalize P.length=q
  rw[hP];rfl
 rw[hlq]
 have hql:(((zTA t)::.live 0 1 [[.v .zsl]]::.live 0 1 [[.sl (B.length+3) (k+1) 0 (k+1)]]::.live (k+1) 3 (els++[[.v (.str nm),.sl (B.length+(P.length+1)) xs.length 0 xs.length,.sl (B.length+(P.length+2)) ys.length 0 ys.length]])::fl k (cpE t)):List Row).length=P.length:=by rw[hPl];simp[xA];omega
 generalize hQ:((zTA t)::.live 0 1 [[.v .zsl]]::.live 0 1 [[.sl (B.length+3) (k+1) 0 (k+1)]]::.live (k+1) 3 (els++[[.v (.str nm),.sl (B.length+(P.length+1)) xs.length 0 xs.length,.sl (B.length+(P.length+2)) ys.length 0 ys.length]])::fl k (cpE t):List Row)=Q at hql⊢
 have ZLR:∀r∈els,∀c∈r,AVlt (B.length+(4+k)) c:=fun r hr c hc=>by
  rw[xN]at hr
  obtain⟨q,hq,rfl⟩:=cr.1 hr
  have hq:=ba.1 hq
  unfold cpC at hc
  simp only[cz,ie,or_false]at hc
  rcases hc with rfl|rfl|rfl
  ·exact .v _
  ·exact .v _
  ·exact .sl _ _ _ _ oM
 refine VA.kfz (p:=p) (i:=P.length+1) (ver:=xs.length) (sz:=2) (rows:=xs.map eVr) (k:=4) (by rw[←hql,vJ];rfl) he h rfl hE oM kV (fun f' he' h'=>?_)
 have pK:∀X:List Row,(Q++X).set (P.length+1) (.dead xs.length)=Q++X.set 1 (.dead xs.length):=fun X=>by rw[←hql];exact RH
 rw[pK,bh]
 have hh:ZE (B.length+(P.length+1)) xs.length 2 (xs.map eVr) (.sl (B.length+(P.length+1)) xs.length 0 xs.length)=.v (.isl 2 (xs.map eVr)):=lM kS
 have hn1:ZE (B.length+(P.length+1)) xs.length 2 (xs.map eVr) (.sl (B.length+(P.length+2)) ys.length 0 ys.length)=.sl (B.length+(P.length+2)) ys.length 0 ys.length:=by simp only[ZE];rw[if_neg oM]
 have eW:ZE (B.length+(P.length+1)) xs.length 2 (xs.map eVr) (.sl (B.length+3) (k+1) 0 (k+1))=.sl (B.length+3) (k+1) 0 (k+1):=by simp only[ZE];rw[if_neg oM]
 have F9:gA (B.length+0) (fl k (cpE t)):=gA.fl (fun i hi ver sz els he row JD c hc=>by
  unfold cpE at he
  cases he
  exact cJ.2 trivial row JD c hc)
 have hQm:Q.map (DE (ZE (B.length+(P.length+1)) xs.length 2 (xs.map eVr)))=(zTA t)::.live 0 1 [[.v .zsl]]::.live 0 1 [[.sl (B.length+3) (k+1) 0 (k+1)]]::.live (k+1) 3 (els++[[.v (.str nm),.v (.isl 2 (xs.map eVr)),.sl (B.length+(P.length+2)) ys.length 0 ys.length]])::fl k (cpE t):=by
  rw[←hQ]
  simp only[bj,cd,DE,bh,hh,hn1,eW]
  rw[gT F9 oM,ZAt (m:=B.length+(4+k)) oM ZLR]
  simp only[ZE]
 rw[hQm]
 clear hQm hlq pK
 obtain⟨σ,s1,s2⟩:∃σ:Nat→Nat,(∀j,j<4+k→σ j=j)∧(∀j,4+k≤j→σ j=j+2):=⟨fun j=>if j<4+k then j else j+2,fun j h=>if_pos h,fun j h=>if_neg oM⟩
 refine VA.kren (p:=p) (k:=4) (m:=k+5) (by simp[cpH,xA]) σ he' h' hE oM (fun j hj=>s1 j oM) kV hR (fun a c _ _ h=>?_) (fun j r' h=>?_)
 ·by_cases ha:a<4+k<;>by_cases hc:c<4+k
  ·rw[s1 a ha,s1 c hc]at h;exact h
  ·rw[s1 a ha,s2 c oM]at h;omega
  ·rw[s2 a oM,s1 c hc]at h;omega
  ·rw[s2 a oM,s2 c oM]at h;omega
 ·match j,h with
  |0,h=>rw[s1 0 oM];cases h;exact⟨_,rfl,RnR.rnK (k:=4) (fun j hj=>s1 j oM) oM kL⟩
  |1,h=>rw[s1 1 oM];cases h;exact⟨_,rfl,RnR.rnK (k:=4) (fun j hj=>s1 j oM) oM kL⟩
  |2,h=>rw[s1 2 oM];cases h;exact⟨_,rfl,RnR.rnK (k:=4) (fun j hj=>s1 j oM) oM kL⟩
  |3,h =>
    rw[s1 3 oM];cases h
    refine⟨_,rfl,rfl,rfl,by rw[ap,xN,xA,xA];rfl,fun i r r' h1 h2=>?_⟩
    by_cases hi:i<k
    ·rw[aw (by rw[xN,xA];exact hi),xN,CB hi]at h1
     rw[CB oM]at h2
     cases h1;cases h2
     exact .cons (.v _) (.cons (.v _) (.cons (Rn.slE (j:=4+i) (s1 _ oM) oM) .nil))
    ·obtain rfl:i=k:=by
      have:=(am.1 h2).1
      rw[xA]at this;omega
     rw[aq (by rw[xN,xA];exact ai _),xN,xA,dy]at h1
     rw[CB oM]at h2
     cases h1;cases h2
     unfold cpC
     rw[hnm,R8,hys]
     exact .cons (.v _) (.cons (.v _) (.cons (Rn.slE (j:=4+i) (by rw[s2 _ (ai _),hPl]) oM) .nil))
  |j+4,h =>
    have h:(fl (k+1) (cpE t))[j]? = some r':=h
    by_cases hj:j<k
    ·rw[s1 _ oM]
     rw[CB oM]at h;cases h
     exact⟨cpE t j,by simp only[da,fh];exact Q5 hj,RnR.plain⟩
    ·obtain rfl:j=k:=by
      have:=(am.1 h).1
      rw[xA]at this;omega
     rw[CB oM]at h;cases h
     rw[s2 _ oM]
     refine⟨cpE t j,?_,RnR.plain⟩
     simp only[da,fh]
     rw[MC]
     unfold cpE
     rw[hys]
     show some (Row.live ys.length 5 ((vs (ys.map eEv)).map (List.map _)))=_
     rw[ZAA]
theorem J6 (t:Tr) (hS:Small t) (b l:List Row):QA Tryz.prog 129 [.agg [.v (eT t)],.v (.isl 1 ((UJ t).map eI))] b l
  (fun r b' l'=>r=.agg [.sl (b.length+l.length) t.length 0 t.length]∧b'=b∧l'=l++cpR t (b.length+l.length)):=by
 refine XA ZCV rfl kE ?_
 intro B g hB hR hE hA;simp only[zA]at hA
 have H8:=hS.np
 simp (disch:=first|decide|omega) only[a_rCpL,hA,eT,go_sem]
 refine JA (ι:=Nat) ZA3 (fun i=>[(6,.v (.int .i64 i))]) 4 (fun i=>cpH t B.length i) (fun i=>i≤t.length) (fun i=>t.length-i) 0 (aj _) kM kA (fun e=>by
  have h:=VA.nilcell (e:=e) (b:=B) (l:=[(zTA t),.live 0 1 [[.v .zsl]],.live 0 1 [[.v .zsl]]]) (i:=2) (k:=0) (j:=0) (sz:=3) rfl rfl rfl
  exact h) ?_
 intro g1 qF TE sA k hk
 by_cases yA:k<t.length
 ·have qG:=hS.ne t[k] (ak yA)
  have hnv:=hS.nv t[k] (ak yA)
  have hna:=hS.na t[k] (ak yA)
  have hget:(t.map ePr)[k]? = some [.str t[k].name,.isl 2 (t[k].vars.map eVr),.isl 5 (t[k].evs.map eEv)]:=by rw[an,ah yA];rfl
  have hc:((UJ t).map eI)[k]? = some [.int .i64 (t[k].evs.length:Int)]:=by unfold UJ;rw[an,an,ah yA];rfl
  have G0:prA t k=t[k]:=YB dfPr t yA
  obtain⟨P,hP⟩:∃P,P=cpH t B.length k:=⟨_,rfl⟩
  have hPl:P.length=4+k:=by rw[hP];simp[cpH,xA];omega
  have pR:gA (B.length+P.length) P:=by rw[hPl,hP];exact ZJo
  have p0:∀R,(P++R)[0]? = some ((zTA t)):=fun R=>by rw[hP];rfl
  have p0':P[0]? = some ((zTA t)):=by rw[hP];rfl
  have p2:∀R,(P++R)[2]? = some (.live 0 1 [[.sl (B.length+3) k 0 k]]):=fun R=>by rw[hP];rfl
  have p3:∀R,(P++R)[3]? = some (.live k 3 (fl k (cpC t B.length 4))):=fun R=>by rw[hP];rfl
  have dk:decide ((k:Int)<(t.length:Int))=true:=ae oM
  generalize hvs:t[k].vars=xs at hget hnv
  generalize hes:t[k].evs=ys at hget qG hna hc
  generalize hnm:t[k].name=nm at hget
  change run _ _ _ _ _ (cpH t B.length k) _
  rw[←hP]
  simp (disch:=first|decide|omega) only[hA,sA,hget,hc,p0',dk,rL,vJ,kK,RH,cellsOf,go_sem]
  refine JA (ι:=Nat) ZA2 (fun j=>[(8,.v (.int .i64 j))]) (P.length+1) (fun j=>P++[.live 0 3 [[.v (.str nm),.sl (B.length+(P.length+1)) j 0 j,.v .zsl]],.live j 2 (vs ((xs.take j).map eVr))]) (fun j=>j≤xs.length) (fun j=>xs.length-j) 0 (aj _) kM kA (fun e=>by
   have h:=VA.nilcellP (e:=e) (b:=B) (P:=P) (X:=[.live 0 3 [[.v (.str nm),.v .zsl,.v .zsl]]]) (m:=0) (k:=0) (j:=1) (sz:=2) rfl rfl rfl
   exact h) ?_
  intro g2 RJ QO DD j hj
  by_cases lJ:j<xs.length
  ·have dj:decide ((j:Int)<(xs.length:Int))=true:=ae oM
   have hgj:(xs.map eVr)[j]? = some [.str xs[j].name,.int .i64 xs[j].init]:=by rw[an,ah lJ];rfl
   have XJ:min j xs.length=j:=by omega
   simp (disch:=first|decide|omega) only[hA,sA,DD,p0,hget,hgj,dj,XJ,rL,vJ,kK,RH,bg,RB,bq,bs,ez,fo,go_sem]
   refine⟨j+1,lJ,by simp only;omega,?_⟩
   have PY:List.take j (List.map eVr (List.take j xs))=(xs.take j).map eVr:=bo (by simp;omega)
   have hr:List.take j (List.map eVr (List.take j xs))++[[.str xs[j].name,.int .i64 xs[j].init]]=(xs.take (j+1)).map eVr:=by rw[PY];exact RM (f:=eVr) lJ
   rw[hr]
   exact VA.kroundP (p:=ZA2) (k:=P.length+1) pR kQ kA rfl RJ kS kV hR kL
  ·obtain rfl:j=xs.length:=by omega
   have dj:decide ((xs.length:Int)<(xs.length:Int))=false:=by simp
   simp (disch:=first|decide|omega) only[hA,sA,DD,p0,hget,dj,rL,vJ,aa,go_sem]
   rw[bo (ai xs.length)]
   refine JA (ι:=Nat) ZA1 (fun j=>[(9,.v (.int .i64 j))]) (P.length+2) (fun j=>P++[.live 0 3 [[.v (.str nm),.sl (B.length+(P.length+1)) xs.length 0 xs.length,.sl (B.length+(P.length+2)) j 0 j]],.live xs.length 2 (vs (xs.map eVr)),.live j 5 (vs ((ys.take j).map eEv))]) (fun j=>j≤ys.length) (fun j=>ys.length-j) 0 (aj _) kM kA (fun e=>by
    have h:=VA.nilcellP (e:=e) (b:=B) (P:=P) (X:=[.live 0 3 [[.v (.str nm),.sl (B.length+(P.length+1)) xs.length 0 xs.length,.v .zsl]],.live xs.length 2 (vs (xs.map eVr))]) (m:=0) (k:=0) (j:=2) (sz:=5) rfl rfl rfl
    exact h) ?_
   intro g3 bW xR QH j hj
   by_cases lJ:j<ys.length
   ·have dj:decide ((j:Int)<(ys.length:Int))=true:=ae oM
    have hja:=hna ys[j] (ak lJ)
    have hgj:(ys.map eEv)[j]? = some [.int .i64 ys[j].kind,.int .i64 ys[j].peer,.int .i64 ys[j].msg,.int .i64 ys[j].time,.isl 2 (ys[j].asg.map eAsg)]:=by rw[an,ah lJ];rfl
    have XJ:min j ys.length=j:=by omega
    simp (disch:=first|decide|omega) only[hA,sA,DD,QH,p0,hget,hc,hgj,dj,XJ,rL,vJ,kK,RH,bg,RB,bq,bs,ez,fo,go_sem]
    generalize qP:ys[j]=ev at hja
    refine JA (ι:=Nat) ZA0 (fun n=>[(12,.v (.int .i64 n))]) (P.length+5) (fun n=>P++[.live 0 3 [[.v (.str nm),.sl (B.length+(P.length+1)) xs.length 0 xs.length,.sl (B.length+(P.length+2)) j 0 j]],.live xs.length 2 (vs (xs.map eVr)),.live j 5 (vs ((ys.take j).map eEv)),
      .live 0 5 [(zEA ev)],
      .live 0 5 [[.v (.int .i64 ev.kind),.v (.int .i64 ev.peer),.v (.int .i64 ev.msg),.v (.int .i64 ev.time),.sl (B.length+(P.length+5)) n 0 n]],.live n 2 (vs ((ev.asg.take n).map eAsg))])
     (fun n=>n≤ev.asg.length) (fun n=>ev.asg.length-n) 0 (aj _) kM kA (fun e=>by
      have h:=VA.nilcellP (e:=e) (b:=B) (P:=P) (X:=[.live 0 3 [[.v (.str nm),.sl (B.length+(P.length+1)) xs.length 0 xs.length,.sl (B.length+(P.length+2)) j 0 j]],.live xs.length 2 (vs (xs.map eVr)),.live j 5 (vs ((ys.take j).map eEv)),
       .live 0 5 [(zEA ev)],
       .live 0 5 [[.v (.int .i64 ev.kind),.v (.int .i64 ev.peer),.v (.int .i64 ev.msg),.v (.int .i64 ev.time),.v .zsl]]]) (m:=4) (k:=0) (j:=4) (sz:=2) rfl rfl rfl
      exact h) ?_
    intro g4 hE4 ZK1 jR n hn
    by_cases hln:n<ev.asg.length
    ·have dn:decide ((n:Int)<(ev.asg.length:Int))=true:=ae oM
     have hgn:(ev.asg.map eAsg)[n]? = some [.int .i64 ev.asg[n].v,.int .i64 ev.asg[n].val]:=by rw[an,ah hln];rfl
     have HW:min n ev.asg.length=n:=by omega
     simp (disch:=first|decide|omega) only[hA,sA,DD,QH,jR,hgn,dn,HW,rL,vJ,kK,RH,bg,RB,bq,bs,ez,fo,go_sem]
     refine⟨n+1,hln,by simp only;omega,?_⟩
     have PY:List.take n (List.map eAsg (List.take n ev.asg))=(ev.asg.take n).map eAsg:=bo (by simp;omega)
     have hr:List.take n (List.map eAsg (List.take n ev.asg))++[[.int .i64 ev.asg[n].v,.int .i64 ev.asg[n].val]]=(ev.asg.take (n+1)).map eAsg:=by rw[PY];exact RM (f:=eAsg) hln
     rw[hr]
     exact VA.kroundP (p:=ZA0) (k:=P.length+5) pR kQ kA rfl hE4 kS kV hR kL
    ·obtain rfl:n=ev.asg.length:=by omega
     have dn:decide ((ev.asg.length:Int)<(ev.asg.length:Int))=false:=by simp
     rw[bo (ai ev.asg.length)]
     simp (disch:=first|decide|omega) only[hA,sA,DD,QH,jR,dn,XJ,rL,vJ,kK,RH,bg,RB,bq,bs,ez,fo,go_sem]
     refine⟨j+1,lJ,by simp only;omega,?_⟩
     have PY:List.take j (List.map eEv (List.take j ys))=(ys.take j).map eEv:=bo (by simp;omega)
     rw[PY]
     have hh:ZE (B.length+(P.length+5)) ev.asg.length 2 (ev.asg.map eAsg) (.sl (B.length+(P.length+5)) ev.asg.length 0 ev.asg.length)=.v (.isl 2 (ev.asg.map eAsg)):=lM kS
     have hn1:ZE (B.length+(P.length+5)) ev.asg.length 2 (ev.asg.map eAsg) (.sl (B.length+(P.length+1)) xs.length 0 xs.length)=.sl (B.length+(P.length+1)) xs.length 0 xs.length:=by simp only[ZE];rw[if_neg oM]
     have eW:ZE (B.length+(P.length+5)) ev.asg.length 2 (ev.asg.map eAsg) (.sl (B.length+(P.length+2)) (j+1) 0 (j+1))=.sl (B.length+(P.length+2)) (j+1) 0 (j+1):=by simp only[ZE];rw[if_neg oM]
     have hv:vs ((ys.take j).map eEv)++[(zEA ev)]=vs ((ys.take (j+1)).map eEv):=by
      rw[←RM (f:=eEv) lJ,qP]
      unfold vs
      rw[bh];rfl
     refine VA.kroundFP (junk:=[.live 0 5 [(zEA ev)],.live 0 5 [(zEA ev)],.dead ev.asg.length,.live 0 5 [(zEA ev)]]) (p:=ZA1) (k:=P.length+2) (m:=5) pR rfl kQ kA ?_ bW kS kS kV hR kL kV
     simp only[fo,ez,bj,cd,DE,bh,ZAA,hh,hn1,eW]
     simp only[ZE,hv]
     rfl
   ·obtain rfl:j=ys.length:=by omega
    have dj:decide ((ys.length:Int)<(ys.length:Int))=false:=by simp
    rw[bo (ai ys.length)]
    have ht:List.take k (fl k (cpC t B.length 4))=fl k (cpC t B.length 4):=bo (by rw[xA];exact ai _)
    have p23:∀R Y,((P++R).set 3 Y)[2]? = some (.live 0 1 [[.sl (B.length+3) k 0 k]]):=fun R Y=>by rw[bl oM];exact p2 R
    simp (disch:=first|decide|omega) only[hA,sA,DD,QH,p0,p2,p3,p23,ht,hc,dj,xA,rL,vJ,kK,RH,bg,RB,bq,bs,ez,fo,go_sem]
    refine⟨k+1,yA,by simp only;omega,?_⟩
    exact ZJn (p:=ZA3) (by rw[G0,hnm]) (by rw[G0,hvs]) (by rw[G0,hes]) hP kQ kA qF hR
 ·obtain rfl:k=t.length:=by omega
  have dk:decide ((t.length:Int)<(t.length:Int))=false:=by simp
  unfold cpH
  simp (disch:=first|decide|omega) only[hA,sA,dk,aa,go_sem]
  refine nH (.inr rfl) (xs:=[.agg [.sl (B.length+3) t.length 0 t.length]]) (y:=.agg [.sl B.length t.length 0 t.length]) (l':=cpR t B.length) kR (m:=t.length+1) (by simp[cpR,xA]) (fun j=>j+3) (fun i j _ _ h=>by omega) (fun j r' h=>?_) ?_ hR hB ⟨by rw[hB,ap],rfl,by rw[hB,ap]⟩
  ·match j,h with
   |0,h =>
     cases h
     refine⟨_,rfl,rfl,rfl,by rw[xA,xA],fun i r r' h1 h2=>?_⟩
     by_cases hi:i<t.length
     ·rw[CB hi]at h1 h2
      cases h1;cases h2
      exact .cons (.v _) (.cons (.v _) (.cons (Rn.slE (j:=1+i) oM oM) .nil))
     ·rw[UH oM]at h2;cases h2
   |j+1,h =>
     have h:(fl t.length (cpE t))[j]? = some r':=h
     have hj:j<t.length:=by
      have:=(am.1 h).1
      rw[xA]at this;omega
     rw[CB hj]at h
     cases h
     exact⟨cpE t j,by simp only[fh];exact CB hj,RnR.plain⟩
  ·rw[ER]
   exact Rn.aggL (.cons (Rn.slE (j:=0) rfl oM) .nil)
def a_wcop:AFunc:=({c:=_}:CF Tryz.prog 49).c
theorem ZCM:qA Tryz.prog 49=some a_wcop:=by kernel_rfl
def MR:List (Nat×Nat):=[(5,5),(22,40)]
def SR:List (Nat×Nat):=[(7,8),(10,10),(45,81)]
def JN:List (Nat×Nat):=[(10,10),(58,72)]

theorem KX (v:List In) (hn:v.length≤1000000) (b l:List Row):QA Tryz.prog 97 [.v (.isl 3 (v.map eIn))] b l (fun r b' l'=>r=.v (.isl 3 (v.map eIn))∧b'=b∧l'=l):=
 QA.deep (x:=.sl (b.length+l.length+0) 1 0 v.length) (Dv.slV (i:=0) rfl (by rw[aa])) (sZ v hn b l)
theorem UX (v:List Vr) (hn:v.length≤1000000) (b l:List Row):QA Tryz.prog 99 [.v (.isl 2 (v.map eVr))] b l (fun r b' l'=>r=.v (.isl 2 (v.map eVr))∧b'=b∧l'=l):=
 QA.deep (x:=.sl (b.length+l.length+0) 1 0 v.length) (Dv.slV (i:=0) rfl (by rw[aa])) (rZ v hn b l)
theorem eK (v:List Asg) (hn:v.length≤1000000) (b l:List Row):QA Tryz.prog 100 [.v (.isl 2 (v.map eAsg))] b l (fun r b' l'=>r=.v (.isl 2 (v.map eAsg))∧b'=b∧l'=l):=
 QA.deep (x:=.sl (b.length+l.length+0) 1 0 v.length) (Dv.slV (i:=0) rfl (by rw[aa])) (tZ v hn b l)
theorem VA.kroundG {N:Nat} {p:List (Nat×Nat)} {ov:List (Nat×AV)} {f g:Nat→AV} {b l l1 junk:List Row} {k i ver sz:Nat} {rows:List (List IV)} (hi:l[i]? = some (.live ver sz (vs rows))) (he:gF p f=g) (h:lF f ov) (hl:(l.set i (.dead ver)).map (DE (ZE (b.length+i) ver sz rows))=l1++junk) (hE:KLt (b.length+k) g) (hk:k≤l1.length) (hki:l1.length≤i) (ho:bH (b.length+l1.length) ov) (hb:gA b.length b) (h1:gA (b.length+l1.length) l1)
  (ho2:bH (b.length+i) ov):VA (kOf N f) b l (kOf N (kOv ov g)) b l1:=
 VA.kfz (k:=k) hi he h hl hE oM ho2 (fun f' he' h'=>VA.kround (p:=p) (k:=k) (junk:=junk) he' h' rfl hE hk ho hb h1)
def cvS (w:Wd) (p id i:Nat):List (List AV):=(LG w p id).take i
def cvP (w:Wd) (p id i:Nat):List (List AV):=(FO w p id).take i
theorem ZAw {w:Wd} {p id i:Nat} (h:i≤w.sv.length):(cvS w p id i).length=i:=by unfold cvS;rw[bg,TF];omega
theorem ZAx {w:Wd} {p id i:Nat} (h:i≤w.tr.length):(cvP w p id i).length=i:=by unfold cvP;rw[bg,LH];omega
theorem ZJl {w:Wd} {p id i:Nat} (h:i≤w.sv.length):(cvS w p id i).take i=cvS w p id i:=bo (by rw[ZAw h];omega)
theorem ZJm {w:Wd} {p id i:Nat} (h:i≤w.tr.length):(cvP w p id i).take i=cvP w p id i:=bo (by rw[ZAx h];omega)
theorem cvS_p {w:Wd} {p id:Nat} (h:p<w.sv.length):cvS w p id p++[svL (w.sv.getD p dfSv) id]=cvS w p id (p+1):=by
 unfold cvS;rw[gb,CN h];rfl
theorem ZIR {w:Wd} {p id i:Nat} (h:i<w.sv.length) (hn:p≠i):cvS w p id i++[(eSv (w.sv.getD i dfSv)).map .v]=cvS w p id (i+1):=by
 unfold cvS;rw[gb,q9 h hn];rfl
theorem cvP_p {w:Wd} {p id:Nat} (h:p<w.tr.length):cvP w p id p++[prL (w.tr.getD p dfPr) id]=cvP w p id (p+1):=by
 unfold cvP;rw[gb,dY h];rfl
theorem ZIS {w:Wd} {p id i:Nat} (h:i<w.tr.length) (hn:p≠i):cvP w p id i++[(ePr (w.tr.getD i dfPr)).map .v]=cvP w p id (i+1):=by
 unfold cvP;rw[gb,j9 h hn];rfl
theorem ZH9 {w:Wd} {p id i m:Nat} (h:i≤p):∀row∈cvS w p id i,∀c∈row,AVlt m c:=fun row hr=>by
 unfold cvS LG at hr
 rw[List.take_set_of_le h]at hr
 exact (cJ.2 trivial) row (ec hr)
theorem YY {w:Wd} {p id i m:Nat} (h:i≤p):∀row∈cvP w p id i,∀c∈row,AVlt m c:=fun row hr=>by
 unfold cvP FO at hr
 rw[List.take_set_of_le h]at hr
 exact (cJ.2 trivial) row (ec hr)
theorem ZFV {w:Wd} {p id i m:Nat} (h:id<m):∀row∈cvS w p id i,∀c∈row,AVlt m c:=fun row hr=>DX h row (ec hr)
theorem p9 {w:Wd} {p id i m:Nat} (h:id<m):∀row∈cvP w p id i,∀c∈row,AVlt m c:=fun row hr=>ZAe h row (ec hr)
theorem eM {m id ver sz:Nat} {rows:List (List IV)} {els:List (List AV)} (h:∀row∈els,∀c∈row,AVlt m c) (hm:m≤id):els.map (fun r=>r.map (ZE id ver sz rows))=els:=by
 have:=gT (m:=m) (id:=id) (ver:=ver) (sz:=sz) (rows:=rows) (h:=[.live 0 0 els]) (SC.2 ⟨h,nE⟩) hm
 simpa [DE] using this
theorem ZAl {m id ver sz v z:Nat} {rows:List (List IV)} {els:List (List AV)} {r:List AV} (h:∀row∈els,∀c∈row,AVlt m c) (hm:m≤id):DE (ZE id ver sz rows) (.live v z (els++[r]))=.live v z (els++[r.map (ZE id ver sz rows)]):=by
 unfold DE
 simp only[bh,bj,cd]
 rw[eM h hm]

def cp1 (B:List Row) (w:Wd) (p i:Nat):List Row:=if p<i then [.live 0 6 [[.v (.str (w.sv.getD p dfSv).name),.v (.isl 3 ((w.sv.getD p dfSv).code.map eIn)),.v (.int .i64 (w.sv.getD p dfSv).pc),.sl (B.length+5) 1 0 (w.sv.getD p dfSv).vars.length,.v (.int .i64 (w.sv.getD p dfSv).off),.v (.int .i64 (w.sv.getD p dfSv).rate)]],.live 1 1 (vs ((w.sv.getD p dfSv).vars.map eI))] else []
def cp2 (B:List Row) (w:Wd) (p i:Nat):List Row:=if p<i then [.live 0 3 [[.v (.str (w.tr.getD p dfPr).name),.v (.isl 2 ((w.tr.getD p dfPr).vars.map eVr)),.sl (B.length+8) (w.tr.getD p dfPr).evs.length 0 (w.tr.getD p dfPr).evs.length]],.live (w.tr.getD p dfPr).evs.length 5 (vs ((w.tr.getD p dfPr).evs.map eEv))] else []
abbrev zSB (x:Sv) (B:List Row):List AV:=[.v (.str x.name),.v (.isl 3 (x.code.map eIn)),.v (.int .i64 x.pc),.sl (B.length+5) 1 0 x.vars.length,.v (.int .i64 x.off),.v (.int .i64 x.rate)]
abbrev zZA:List AV:=[.v .zsl,.v (.int .i64 0),.v (.bool false),.v .zsl,.v .zsl,.v .zsl,.v (.int .i64 0),.v (.int .i64 0),.v .zsl]
theorem bQ (w:Wd) (tL:SvsS w.sv) (hS:Small w.tr) (hN:NwS w.net) (p:Nat) (hp:p<w.sv.length) (YJ:p<w.tr.length) (b l:List Row) :
  QA Tryz.prog 49 [.agg ((eWd w).map .v)] b l (fun r b' l'=>r=.agg (mvC w (b.length+l.length))∧b'=b∧l'=l++ZFx w p (b.length+l.length)):=by
 refine XA ZCM rfl kE ?_
 intro B g hB hR hE hA;simp only[zA]at hA
 have nL:(eWd w).map AV.v=(zWA w):=rfl
 rw[nL]at hA
 have aU:=tL.len
 have HU:=hS.np
 have cN:=fun b l=>ZBH w.net hN b l
 simp only[eNw,bj,cd]at cN
 have c10:cp1 B w p 0=[]:=if_neg oM
 have c20:cp2 B w p 0=[]:=if_neg oM
 have s0:cvS w p (B.length+5) 0=[]:=rfl
 have p0:cvP w p (B.length+8) 0=[]:=rfl
 simp (disch:=first|decide|omega) only[a_wcop,hA,cellsOf,go_sem]
 refine QA.nxt (cN _ _) ?_
 simp (disch:=first|decide|omega) only[hA,aa,go_sem]
 refine JA (ι:=Nat) MR (fun i=>[(22,.v (.int .i64 i))]) 3 (fun i=>[.live 0 9 [(zWA w)],.live 0 9 [zZA],.live 0 9 [[.sl (B.length+3) i 0 i,.v (.int .i64 w.net.now),.v (.bool w.net.fifo),.v (.isl 4 (w.net.l.map eMs)),.v (.isl 1 (w.net.tm.map eI)),.v (.isl 2 (w.net.fates.map eFt)),.v (.int .i64 w.now),.v (.int .i64 w.sent),.v .zsl]],.live i 6 (cvS w p (B.length+5) i)]++cp1 B w p i)
  (fun i=>i≤w.sv.length) (fun i=>w.sv.length-i) 0 (aj _) kM kA (fun e=>by
   rw[c10,s0]
   exact VA.nilcell (e:=e) (b:=B) (l:=[.live 0 9 [(zWA w)],.live 0 9 [zZA],.live 0 9 [[.v .zsl,.v (.int .i64 w.net.now),.v (.bool w.net.fifo),.v (.isl 4 (w.net.l.map eMs)),.v (.isl 1 (w.net.tm.map eI)),.v (.isl 2 (w.net.fates.map eFt)),.v (.int .i64 w.now),.v (.int .i64 w.sent),.v .zsl]]]) (i:=2) (k:=0) (j:=0) (sz:=6) rfl rfl rfl) ?_
 intro g1 qF TE sA i hi
 by_cases yA:i<w.sv.length
 ·have sL:=fG yA
  have I0:=tL.all w.sv[i] (ak yA)
  have hsc:=I0.code
  have ZK2:=I0.vars
  have fJ:w.sv.getD i dfSv=w.sv[i]:=YA yA
  obtain⟨s,hs⟩:∃s,w.sv[i]=s:=⟨_,rfl⟩
  rw[hs]at sL hsc ZK2 fJ
  have cC:=fun b l=>KX s.code hsc b l
  have cVv:=fun b l=>qO s.vars ZK2 b l
  have cVl:=fun b l=>pI s.vars ZK2 b l
  have tl:=ZAw (w:=w) (p:=p) (id:=B.length+5) hi
  have tk:=ZJl (w:=w) (p:=p) (id:=B.length+5) hi
  rcases lw i p with hlp|hep|zJ
  ·have c1:cp1 B w p i=[]:=if_neg oM
   have c2:cp1 B w p (i+1)=[]:=if_neg oM
   have sn:cvS w p (B.length+5) i++[(zSA s)]=cvS w p (B.length+5) (i+1):=by have:=ZIR (w:=w) (p:=p) (id:=B.length+5) yA oM;rw[fJ]at this;exact this
   have lt1:∀m,(∀row∈cvS w p (B.length+5) (i+1),∀c∈row,AVlt m c):=fun m=>ZH9 oM
   rw[c1]
   simp (disch:=first|decide|omega) only[hA,sA,sL,tl,tk,bq,bs,reduceCtorEq,dB,go_sem]
   refine QA.nxt (cC _ _) ?_
   simp (disch:=first|decide|omega) only[hA,sA,sL,tl,tk,bq,bs,reduceCtorEq,dB,go_sem]
   refine QA.nxt (cVv _ _) ?_
   simp (disch:=first|decide|omega) only[hA,sA,sL,tl,tk,bq,bs,reduceCtorEq,dB,go_sem]
   rw[sn]
   refine⟨i+1,yA,by simp only;omega,?_⟩
   simp only
   rw[c2]
   have h0:=lt1 (B.length+4)
   exact VA.kround (p:=MR) (k:=3) (junk:=[_,_]) kQ kA rfl qF kS kV hR (by simp (disch:=omega) only[eq_true h0,lts.down,Nat.reduceLT,Nat.reduceAdd])
  ·have ZK3:=hep.symm
   subst ZK3
   have c1:cp1 B w p p=[]:=if_neg oM
   have c2:cp1 B w p (p+1)=[.live 0 6 [(zSB (w.sv.getD p dfSv) B)],.live 1 1 (vs ((w.sv.getD p dfSv).vars.map eI))]:=if_pos oM
   rw[fJ]at c2
   have sn:cvS w p (B.length+5) p++[(zSB s B)]=cvS w p (B.length+5) (p+1):=by have:=cvS_p (w:=w) (p:=p) (id:=B.length+5) yA;rw[fJ]at this;exact this
   have lt1:∀m,B.length+6≤m→(∀row∈cvS w p (B.length+5) (p+1),∀c∈row,AVlt m c):=fun m h=>ZFV oM
   rw[c1]
   simp (disch:=first|decide|omega) only[hA,sA,sL,tl,tk,bq,bs,reduceCtorEq,dB,go_sem]
   refine QA.nxt (cC _ _) ?_
   simp (disch:=first|decide|omega) only[hA,sA,sL,tl,tk,bq,bs,reduceCtorEq,dB,go_sem]
   refine QA.nxt (cVl _ _) ?_
   simp (disch:=first|decide|omega) only[hA,sA,sL,tl,tk,bq,bs,reduceCtorEq,dB,go_sem]
   rw[sn]
   refine⟨p+1,yA,by simp only;omega,?_⟩
   simp only
   rw[c2]
   have h0:=lt1 (B.length+6) oM
   exact VA.kround (p:=MR) (k:=3) (junk:=[_]) kQ kA rfl qF kS kV hR (by simp (disch:=omega) only[eq_true h0,lts.down,Nat.reduceLT,Nat.reduceAdd])
  ·have c1:cp1 B w p i=[.live 0 6 [(zSB (w.sv.getD p dfSv) B)],.live 1 1 (vs ((w.sv.getD p dfSv).vars.map eI))]:=if_pos oM
   have c2:cp1 B w p (i+1)=[.live 0 6 [(zSB (w.sv.getD p dfSv) B)],.live 1 1 (vs ((w.sv.getD p dfSv).vars.map eI))]:=if_pos oM
   have sn:cvS w p (B.length+5) i++[(zSA s)]=cvS w p (B.length+5) (i+1):=by have:=ZIR (w:=w) (p:=p) (id:=B.length+5) yA oM;rw[fJ]at this;exact this
   have lt1:∀m,B.length+6≤m→(∀row∈cvS w p (B.length+5) (i+1),∀c∈row,AVlt m c):=fun m h=>ZFV oM
   rw[c1]
   simp (disch:=first|decide|omega) only[hA,sA,sL,tl,tk,bq,bs,reduceCtorEq,dB,go_sem]
   refine QA.nxt (cC _ _) ?_
   simp (disch:=first|decide|omega) only[hA,sA,sL,tl,tk,bq,bs,reduceCtorEq,dB,go_sem]
   refine QA.nxt (cVv _ _) ?_
   simp (disch:=first|decide|omega) only[hA,sA,sL,tl,tk,bq,bs,reduceCtorEq,dB,go_sem]
   rw[sn]
   refine⟨i+1,yA,by simp only;omega,?_⟩
   simp only
   rw[c2]
   have h0:=lt1 (B.length+6) oM
   exact VA.kround (p:=MR) (k:=3) (junk:=[_,_]) kQ kA rfl qF kS kV hR (by simp (disch:=omega) only[eq_true h0,lts.down,Nat.reduceLT,Nat.reduceAdd])
 obtain rfl:i=w.sv.length:=by omega
 have c1:cp1 B w p w.sv.length=[.live 0 6 [(zSB (w.sv.getD p dfSv) B)],.live 1 1 (vs ((w.sv.getD p dfSv).vars.map eI))]:=if_pos oM
 have tS:cvS w p (B.length+5) w.sv.length=LG w p (B.length+5):=bo (by rw[TF];omega)
 rw[c1,tS]
 obtain⟨SV,E9⟩:∃SV,LG w p (B.length+5)=SV:=⟨_,rfl⟩
 have ZDX:∀m,B.length+6≤m→(∀row∈SV,∀c∈row,AVlt m c):=fun m h=>by rw[←E9];exact DX oM
 rw[E9]
 obtain⟨s,hs⟩:∃s,w.sv.getD p dfSv=s:=⟨_,rfl⟩
 simp (disch:=first|decide|omega) only[hA,sA,aa,go_sem]
 refine JA (ι:=Nat) SR (fun i=>[(45,.v (.int .i64 i))]) 6 (fun i=>[.live 0 9 [(zWA w)],.live 0 9 [zZA],.live 0 9 [[.sl (B.length+3) w.sv.length 0 w.sv.length,.v (.int .i64 w.net.now),.v (.bool w.net.fifo),.v (.isl 4 (w.net.l.map eMs)),.v (.isl 1 (w.net.tm.map eI)),.v (.isl 2 (w.net.fates.map eFt)),.v (.int .i64 w.now),.v (.int .i64 w.sent),.sl (B.length+6) i 0 i]],.live w.sv.length 6 SV,.live 0 6 [(zSB (w.sv.getD p dfSv) B)],.live 1 1 (vs ((w.sv.getD p dfSv).vars.map eI)),.live i 3 (cvP w p (B.length+8) i)]++cp2 B w p i)
  (fun i=>i≤w.tr.length) (fun i=>w.tr.length-i) 0 (aj _) kM kA (fun e=>by
   rw[c20,p0]
   exact VA.nilcell (e:=e) (b:=B) (l:=[.live 0 9 [(zWA w)],.live 0 9 [zZA],.live 0 9 [[.sl (B.length+3) w.sv.length 0 w.sv.length,.v (.int .i64 w.net.now),.v (.bool w.net.fifo),.v (.isl 4 (w.net.l.map eMs)),.v (.isl 1 (w.net.tm.map eI)),.v (.isl 2 (w.net.fates.map eFt)),.v (.int .i64 w.now),.v (.int .i64 w.sent),.v .zsl]],.live w.sv.length 6 SV,.live 0 6 [(zSB (w.sv.getD p dfSv) B)],.live 1 1 (vs ((w.sv.getD p dfSv).vars.map eI))]) (i:=2) (k:=0) (j:=8) (sz:=3) rfl rfl rfl) ?_
 intro g2 RJ QO DD i hi
 by_cases yA:i<w.tr.length
 ·have hgr:=lI yA
  have qG:=hS.ne w.tr[i] (ak yA)
  have hnv:=hS.nv w.tr[i] (ak yA)
  have hna:=hS.na w.tr[i] (ak yA)
  have fJ:w.tr.getD i dfPr=w.tr[i]:=YA yA
  obtain⟨x,hx⟩:∃x,w.tr[i]=x:=⟨_,rfl⟩
  rw[hx]at hgr qG hnv hna fJ
  have cV:=fun b l=>UX x.vars hnv b l
  have tl:=ZAx (w:=w) (p:=p) (id:=B.length+8) hi
  have tk:=ZJm (w:=w) (p:=p) (id:=B.length+8) hi
  have hxe:x.evs.take x.evs.length=x.evs:=io
  rcases lw i p with hlp|hep|zJ
  ·have c1:cp2 B w p i=[]:=if_neg oM
   have c2:cp2 B w p (i+1)=[]:=if_neg oM
   have lt1:∀m,(∀row∈cvP w p (B.length+8) (i+1),∀c∈row,AVlt m c):=fun m=>YY oM
   have lt0:∀m,(∀row∈cvP w p (B.length+8) i,∀c∈row,AVlt m c):=fun m=>YY oM
   have sn:cvP w p (B.length+8) i++[[.v (.str x.name),.v (.isl 2 (x.vars.map eVr)),.v (.isl 5 (x.evs.map eEv))]]=cvP w p (B.length+8) (i+1):=by have:=ZIS (w:=w) (p:=p) (id:=B.length+8) yA oM;rw[fJ]at this;exact this
   rw[c1]
   simp (disch:=first|decide|omega) only[hA,sA,DD,hgr,tl,tk,bq,bs,reduceCtorEq,dB,go_sem]
   refine QA.nxt (cV _ _) ?_
   simp (disch:=first|decide|omega) only[hA,sA,DD,hgr,tl,tk,bq,bs,reduceCtorEq,dB,go_sem]
   refine JA (ι:=Nat) JN (fun j=>[(58,.v (.int .i64 j))]) 8 (fun j=>[.live 0 9 [(zWA w)],.live 0 9 [zZA],.live 0 9 [[.sl (B.length+3) w.sv.length 0 w.sv.length,.v (.int .i64 w.net.now),.v (.bool w.net.fifo),.v (.isl 4 (w.net.l.map eMs)),.v (.isl 1 (w.net.tm.map eI)),.v (.isl 2 (w.net.fates.map eFt)),.v (.int .i64 w.now),.v (.int .i64 w.sent),.sl (B.length+6) i 0 i]],.live w.sv.length 6 SV,.live 0 6 [(zSB (w.sv.getD p dfSv) B)],.live 1 1 (vs ((w.sv.getD p dfSv).vars.map eI)),.live i 3 (cvP w p (B.length+8) i),.live 0 3 [[.v (.str x.name),.v (.isl 2 (x.vars.map eVr)),.sl (B.length+8) j 0 j]],.live j 5 (vs ((x.evs.take j).map eEv))]) (fun j=>j≤x.evs.length) (fun j=>x.evs.length-j) 0 (aj _) kM kA (fun e=>VA.nilcell (e:=e) (b:=B) (l:=[.live 0 9 [(zWA w)],.live 0 9 [zZA],.live 0 9 [[.sl (B.length+3) w.sv.length 0 w.sv.length,.v (.int .i64 w.net.now),.v (.bool w.net.fifo),.v (.isl 4 (w.net.l.map eMs)),.v (.isl 1 (w.net.tm.map eI)),.v (.isl 2 (w.net.fates.map eFt)),.v (.int .i64 w.now),.v (.int .i64 w.sent),.sl (B.length+6) i 0 i]],.live w.sv.length 6 SV,.live 0 6 [(zSB (w.sv.getD p dfSv) B)],.live 1 1 (vs ((w.sv.getD p dfSv).vars.map eI)),.live i 3 (cvP w p (B.length+8) i),.live 0 3 [[.v (.str x.name),.v (.isl 2 (x.vars.map eVr)),.v .zsl]]]) (i:=7) (k:=0) (j:=2) (sz:=5) rfl rfl rfl) ?_
   intro g3 bW xR QH j hj
   by_cases lJ:j<x.evs.length
   ·have yH:=zH lJ
    have hja:=hna x.evs[j] (ak lJ)
    have cA:=fun b l=>eK x.evs[j].asg hja b l
    have vl:((x.evs.take j).map eEv).length=j:=by rw[aa,bg];omega
    have vt:List.take j (vs ((x.evs.take j).map eEv))=vs ((x.evs.take j).map eEv):=bo (by rw[SB,vl];omega)
    have vt2:List.take j ((x.evs.take j).map eEv)=(x.evs.take j).map eEv:=bo (by rw[vl];omega)
    have S0:(x.evs.take j).map eEv++[[.int .i64 x.evs[j].kind,.int .i64 x.evs[j].peer,.int .i64 x.evs[j].msg,.int .i64 x.evs[j].time,.isl 2 (x.evs[j].asg.map eAsg)]]=(x.evs.take (j+1)).map eEv:=by rw[gb,ah lJ,bh];rfl
    simp (disch:=first|decide|omega) only[hA,sA,DD,QH,yH,vl,vt,vt2,bq,bs,reduceCtorEq,dB,go_sem]
    refine QA.nxt (cA _ _) ?_
    simp (disch:=first|decide|omega) only[hA,sA,DD,QH,yH,vl,vt,vt2,bq,bs,reduceCtorEq,dB,go_sem]
    rw[S0]
    refine⟨j+1,lJ,by simp only;omega,?_⟩
    have h1:=ZDX (B.length+9) oM
    have h0:=lt0 (B.length+9)
    exact VA.kround (p:=JN) (k:=8) (junk:=[_,_]) kQ kA rfl bW kS kV hR (by simp (disch:=omega) only[eq_true h0,eq_true h1,lts.down,Nat.reduceLT,Nat.reduceAdd])
   obtain rfl:j=x.evs.length:=by omega
   rw[hxe]
   simp (disch:=first|decide|omega) only[hA,sA,DD,QH,tl,tk,bq,bs,reduceCtorEq,dB,go_sem]
   refine⟨i+1,yA,by simp only;omega,?_⟩
   simp only
   rw[c2,←sn]
   have h0:=lt1 (B.length+7)
   rw[←sn]at h0
   have h1:=ZDX (B.length+7) oM
   refine VA.kroundG (i:=8) (ver:=x.evs.length) (sz:=5) (rows:=x.evs.map eEv) (junk:=[.live 0 3 [[.v (.str x.name),.v (.isl 2 (x.vars.map eVr)),.v (.isl 5 (x.evs.map eEv))]],.dead x.evs.length,.live 0 3 [[.v (.str x.name),.v (.isl 2 (x.vars.map eVr)),.v (.isl 5 (x.evs.map eEv))]]]) (p:=SR) (k:=6) rfl kQ kA ?_ RJ kS kS kV hR (by simp (disch:=omega) only[eq_true h0,eq_true h1,lts.down,Nat.reduceLT,Nat.reduceAdd]) kV
   have hz:∀(a c d:Nat),a≠B.length+8→ZE (B.length+8) x.evs.length 5 (x.evs.map eEv) (.sl a c 0 d)=.sl a c 0 d:=fun a c d h=>by simp[ZE,h]
   have hy:ZE (B.length+8) x.evs.length 5 (x.evs.map eEv) (.sl (B.length+8) x.evs.length 0 x.evs.length)=.v (.isl 5 (x.evs.map eEv)):=lM (by rw[aa])
   have hv:∀y:IV,ZE (B.length+8) x.evs.length 5 (x.evs.map eEv) (.v y)=.v y:=fun _=>rfl
   have hSf:=eM (ver:=x.evs.length) (sz:=5) (rows:=x.evs.map eEv) h1 (show B.length+7≤B.length+8 by omega)
   have hPf:=ZAl (ver:=x.evs.length) (sz:=5) (rows:=x.evs.map eEv) (v:=i+1) (z:=3) (r:=[.v (.str x.name),.v (.isl 2 (x.vars.map eVr)),.sl (B.length+8) x.evs.length 0 x.evs.length]) (lt0 (B.length+7)) (show B.length+7≤B.length+8 by omega)
   have hV:∀r:List (List IV),(vs r).map (fun y=>y.map (ZE (B.length+8) x.evs.length 5 (x.evs.map eEv)))=vs r:=fun r=>eM (m:=0) (cJ.2 trivial) (aj _)
   have ZGU:=hPf
   unfold DE at hPf
   simp only[bj,cd,hz,hy,hv]at ZGU
   simp only[da,ee,fo,ez,bj,cd,ZGU]
   unfold DE
   simp (disch:=omega) only[bj,cd,hz,hy,hv,hSf,hV]
  ·have ZK3:=hep.symm
   subst ZK3
   have c1:cp2 B w p p=[]:=if_neg oM
   have c2:cp2 B w p (p+1)=[.live 0 3 [[.v (.str (w.tr.getD p dfPr).name),.v (.isl 2 ((w.tr.getD p dfPr).vars.map eVr)),.sl (B.length+8) (w.tr.getD p dfPr).evs.length 0 (w.tr.getD p dfPr).evs.length]],.live (w.tr.getD p dfPr).evs.length 5 (vs ((w.tr.getD p dfPr).evs.map eEv))]:=if_pos oM
   rw[fJ]at c2
   have lt1:∀m,B.length+9≤m→(∀row∈cvP w p (B.length+8) (p+1),∀c∈row,AVlt m c):=fun m h=>p9 oM
   have lt0:∀m,(∀row∈cvP w p (B.length+8) p,∀c∈row,AVlt m c):=fun m=>YY oM
   have sn:cvP w p (B.length+8) p++[[.v (.str x.name),.v (.isl 2 (x.vars.map eVr)),.sl (B.length+8) x.evs.length 0 x.evs.length]]=cvP w p (B.length+8) (p+1):=by have:=cvP_p (w:=w) (p:=p) (id:=B.length+8) yA;rw[fJ]at this;exact this
   rw[c1]
   simp (disch:=first|decide|omega) only[hA,sA,DD,hgr,tl,tk,bq,bs,reduceCtorEq,dB,go_sem]
   refine QA.nxt (cV _ _) ?_
   simp (disch:=first|decide|omega) only[hA,sA,DD,hgr,tl,tk,bq,bs,reduceCtorEq,dB,go_sem]
   refine JA (ι:=Nat) JN (fun j=>[(58,.v (.int .i64 j))]) 8 (fun j=>[.live 0 9 [(zWA w)],.live 0 9 [zZA],.live 0 9 [[.sl (B.length+3) w.sv.length 0 w.sv.length,.v (.int .i64 w.net.now),.v (.bool w.net.fifo),.v (.isl 4 (w.net.l.map eMs)),.v (.isl 1 (w.net.tm.map eI)),.v (.isl 2 (w.net.fates.map eFt)),.v (.int .i64 w.now),.v (.int .i64 w.sent),.sl (B.length+6) p 0 p]],.live w.sv.length 6 SV,.live 0 6 [(zSB (w.sv.getD p dfSv) B)],.live 1 1 (vs ((w.sv.getD p dfSv).vars.map eI)),.live p 3 (cvP w p (B.length+8) p),.live 0 3 [[.v (.str x.name),.v (.isl 2 (x.vars.map eVr)),.sl (B.length+8) j 0 j]],.live j 5 (vs ((x.evs.take j).map eEv))]) (fun j=>j≤x.evs.length) (fun j=>x.evs.length-j) 0 (aj _) kM kA (fun e=>VA.nilcell (e:=e) (b:=B) (l:=[.live 0 9 [(zWA w)],.live 0 9 [zZA],.live 0 9 [[.sl (B.length+3) w.sv.length 0 w.sv.length,.v (.int .i64 w.net.now),.v (.bool w.net.fifo),.v (.isl 4 (w.net.l.map eMs)),.v (.isl 1 (w.net.tm.map eI)),.v (.isl 2 (w.net.fates.map eFt)),.v (.int .i64 w.now),.v (.int .i64 w.sent),.sl (B.length+6) p 0 p]],.live w.sv.length 6 SV,.live 0 6 [(zSB (w.sv.getD p dfSv) B)],.live 1 1 (vs ((w.sv.getD p dfSv).vars.map eI)),.live p 3 (cvP w p (B.length+8) p),.live 0 3 [[.v (.str x.name),.v (.isl 2 (x.vars.map eVr)),.v .zsl]]]) (i:=7) (k:=0) (j:=2) (sz:=5) rfl rfl rfl) ?_
   intro g3 bW xR QH j hj
   by_cases lJ:j<x.evs.length
   ·have yH:=zH lJ
    have hja:=hna x.evs[j] (ak lJ)
    have cA:=fun b l=>eK x.evs[j].asg hja b l
    have vl:((x.evs.take j).map eEv).length=j:=by rw[aa,bg];omega
    have vt:List.take j (vs ((x.evs.take j).map eEv))=vs ((x.evs.take j).map eEv):=bo (by rw[SB,vl];omega)
    have vt2:List.take j ((x.evs.take j).map eEv)=(x.evs.take j).map eEv:=bo (by rw[vl];omega)
    have S0:(x.evs.take j).map eEv++[[.int .i64 x.evs[j].kind,.int .i64 x.evs[j].peer,.int .i64 x.evs[j].msg,.int .i64 x.evs[j].time,.isl 2 (x.evs[j].asg.map eAsg)]]=(x.evs.take (j+1)).map eEv:=by rw[gb,ah lJ,bh];rfl
    simp (disch:=first|decide|omega) only[hA,sA,DD,QH,yH,vl,vt,vt2,bq,bs,reduceCtorEq,dB,go_sem]
    refine QA.nxt (cA _ _) ?_
    simp (disch:=first|decide|omega) only[hA,sA,DD,QH,yH,vl,vt,vt2,bq,bs,reduceCtorEq,dB,go_sem]
    rw[S0]
    refine⟨j+1,lJ,by simp only;omega,?_⟩
    have h1:=ZDX (B.length+9) oM
    have h0:=lt0 (B.length+9)
    exact VA.kround (p:=JN) (k:=8) (junk:=[_,_]) kQ kA rfl bW kS kV hR (by simp (disch:=omega) only[eq_true h0,eq_true h1,lts.down,Nat.reduceLT,Nat.reduceAdd])
   obtain rfl:j=x.evs.length:=by omega
   rw[hxe]
   simp (disch:=first|decide|omega) only[hA,sA,DD,QH,tl,tk,bq,bs,reduceCtorEq,dB,go_sem]
   refine⟨p+1,yA,by simp only;omega,?_⟩
   simp only
   rw[c2,sn]
   have h0:=lt1 (B.length+9) oM
   have h1:=ZDX (B.length+9) oM
   exact VA.kround (p:=SR) (k:=6) (junk:=[_]) kQ kA rfl RJ kS kV hR (by simp (disch:=omega) only[eq_true h0,eq_true h1,lts.down,Nat.reduceLT,Nat.reduceAdd])
  ·have c1:cp2 B w p i=[.live 0 3 [[.v (.str (w.tr.getD p dfPr).name),.v (.isl 2 ((w.tr.getD p dfPr).vars.map eVr)),.sl (B.length+8) (w.tr.getD p dfPr).evs.length 0 (w.tr.getD p dfPr).evs.length]],.live (w.tr.getD p dfPr).evs.length 5 (vs ((w.tr.getD p dfPr).evs.map eEv))]:=if_pos oM
   have c2:cp2 B w p (i+1)=[.live 0 3 [[.v (.str (w.tr.getD p dfPr).name),.v (.isl 2 ((w.tr.getD p dfPr).vars.map eVr)),.sl (B.length+8) (w.tr.getD p dfPr).evs.length 0 (w.tr.getD p dfPr).evs.length]],.live (w.tr.getD p dfPr).evs.length 5 (vs ((w.tr.getD p dfPr).evs.map eEv))]:=if_pos oM
   have lt1:∀m,B.length+9≤m→(∀row∈cvP w p (B.length+8) (i+1),∀c∈row,AVlt m c):=fun m h=>p9 oM
   have lt0:∀m,B.length+9≤m→(∀row∈cvP w p (B.length+8) i,∀c∈row,AVlt m c):=fun m h=>p9 oM
   have sn:cvP w p (B.length+8) i++[[.v (.str x.name),.v (.isl 2 (x.vars.map eVr)),.v (.isl 5 (x.evs.map eEv))]]=cvP w p (B.length+8) (i+1):=by have:=ZIS (w:=w) (p:=p) (id:=B.length+8) yA oM;rw[fJ]at this;exact this
   rw[c1]
   simp (disch:=first|decide|omega) only[hA,sA,DD,hgr,tl,tk,bq,bs,reduceCtorEq,dB,go_sem]
   refine QA.nxt (cV _ _) ?_
   simp (disch:=first|decide|omega) only[hA,sA,DD,hgr,tl,tk,bq,bs,reduceCtorEq,dB,go_sem]
   refine JA (ι:=Nat) JN (fun j=>[(58,.v (.int .i64 j))]) 10 (fun j=>[.live 0 9 [(zWA w)],.live 0 9 [zZA],.live 0 9 [[.sl (B.length+3) w.sv.length 0 w.sv.length,.v (.int .i64 w.net.now),.v (.bool w.net.fifo),.v (.isl 4 (w.net.l.map eMs)),.v (.isl 1 (w.net.tm.map eI)),.v (.isl 2 (w.net.fates.map eFt)),.v (.int .i64 w.now),.v (.int .i64 w.sent),.sl (B.length+6) i 0 i]],.live w.sv.length 6 SV,.live 0 6 [(zSB (w.sv.getD p dfSv) B)],.live 1 1 (vs ((w.sv.getD p dfSv).vars.map eI)),.live i 3 (cvP w p (B.length+8) i),.live 0 3 [[.v (.str (w.tr.getD p dfPr).name),.v (.isl 2 ((w.tr.getD p dfPr).vars.map eVr)),.sl (B.length+8) (w.tr.getD p dfPr).evs.length 0 (w.tr.getD p dfPr).evs.length]],.live (w.tr.getD p dfPr).evs.length 5 (vs ((w.tr.getD p dfPr).evs.map eEv)),.live 0 3 [[.v (.str x.name),.v (.isl 2 (x.vars.map eVr)),.sl (B.length+10) j 0 j]],.live j 5 (vs ((x.evs.take j).map eEv))]) (fun j=>j≤x.evs.length) (fun j=>x.evs.length-j) 0 (aj _) kM kA (fun e=>VA.nilcell (e:=e) (b:=B) (l:=[.live 0 9 [(zWA w)],.live 0 9 [zZA],.live 0 9 [[.sl (B.length+3) w.sv.length 0 w.sv.length,.v (.int .i64 w.net.now),.v (.bool w.net.fifo),.v (.isl 4 (w.net.l.map eMs)),.v (.isl 1 (w.net.tm.map eI)),.v (.isl 2 (w.net.fates.map eFt)),.v (.int .i64 w.now),.v (.int .i64 w.sent),.sl (B.length+6) i 0 i]],.live w.sv.length 6 SV,.live 0 6 [(zSB (w.sv.getD p dfSv) B)],.live 1 1 (vs ((w.sv.getD p dfSv).vars.map eI)),.live i 3 (cvP w p (B.length+8) i),.live 0 3 [[.v (.str (w.tr.getD p dfPr).name),.v (.isl 2 ((w.tr.getD p dfPr).vars.map eVr)),.sl (B.length+8) (w.tr.getD p dfPr).evs.length 0 (w.tr.getD p dfPr).evs.length]],.live (w.tr.getD p dfPr).evs.length 5 (vs ((w.tr.getD p dfPr).evs.map eEv)),.live 0 3 [[.v (.str x.name),.v (.isl 2 (x.vars.map eVr)),.v .zsl]]]) (i:=9) (k:=0) (j:=2) (sz:=5) rfl rfl rfl) ?_
   intro g3 bW xR QH j hj
   by_cases lJ:j<x.evs.length
   ·have yH:=zH lJ
    have hja:=hna x.evs[j] (ak lJ)
    have cA:=fun b l=>eK x.evs[j].asg hja b l
    have vl:((x.evs.take j).map eEv).length=j:=by rw[aa,bg];omega
    have vt:List.take j (vs ((x.evs.take j).map eEv))=vs ((x.evs.take j).map eEv):=bo (by rw[SB,vl];omega)
    have vt2:List.take j ((x.evs.take j).map eEv)=(x.evs.take j).map eEv:=bo (by rw[vl];omega)
    have S0:(x.evs.take j).map eEv++[[.int .i64 x.evs[j].kind,.int .i64 x.evs[j].peer,.int .i64 x.evs[j].msg,.int .i64 x.evs[j].time,.isl 2 (x.evs[j].asg.map eAsg)]]=(x.evs.take (j+1)).map eEv:=by rw[gb,ah lJ,bh];rfl
    simp (disch:=first|decide|omega) only[hA,sA,DD,QH,yH,vl,vt,vt2,bq,bs,reduceCtorEq,dB,go_sem]
    refine QA.nxt (cA _ _) ?_
    simp (disch:=first|decide|omega) only[hA,sA,DD,QH,yH,vl,vt,vt2,bq,bs,reduceCtorEq,dB,go_sem]
    rw[S0]
    refine⟨j+1,lJ,by simp only;omega,?_⟩
    have h1:=ZDX (B.length+11) oM
    have h0:=lt0 (B.length+11) oM
    exact VA.kround (p:=JN) (k:=10) (junk:=[_,_]) kQ kA rfl bW kS kV hR (by simp (disch:=omega) only[eq_true h0,eq_true h1,lts.down,Nat.reduceLT,Nat.reduceAdd])
   obtain rfl:j=x.evs.length:=by omega
   rw[hxe]
   simp (disch:=first|decide|omega) only[hA,sA,DD,QH,tl,tk,bq,bs,reduceCtorEq,dB,go_sem]
   refine⟨i+1,yA,by simp only;omega,?_⟩
   simp only
   rw[c2,←sn]
   have h0:=lt1 (B.length+9) oM
   rw[←sn]at h0
   have h1:=ZDX (B.length+9) oM
   refine VA.kroundG (i:=10) (ver:=x.evs.length) (sz:=5) (rows:=x.evs.map eEv) (junk:=[.live 0 3 [[.v (.str x.name),.v (.isl 2 (x.vars.map eVr)),.v (.isl 5 (x.evs.map eEv))]],.dead x.evs.length,.live 0 3 [[.v (.str x.name),.v (.isl 2 (x.vars.map eVr)),.v (.isl 5 (x.evs.map eEv))]]]) (p:=SR) (k:=6) rfl kQ kA ?_ RJ kS kS kV hR (by simp (disch:=omega) only[eq_true h0,eq_true h1,lts.down,Nat.reduceLT,Nat.reduceAdd]) kV
   have hz:∀(a c d:Nat),a≠B.length+10→ZE (B.length+10) x.evs.length 5 (x.evs.map eEv) (.sl a c 0 d)=.sl a c 0 d:=fun a c d h=>by simp[ZE,h]
   have hy:ZE (B.length+10) x.evs.length 5 (x.evs.map eEv) (.sl (B.length+10) x.evs.length 0 x.evs.length)=.v (.isl 5 (x.evs.map eEv)):=lM (by rw[aa])
   have hv:∀y:IV,ZE (B.length+10) x.evs.length 5 (x.evs.map eEv) (.v y)=.v y:=fun _=>rfl
   have hSf:=eM (ver:=x.evs.length) (sz:=5) (rows:=x.evs.map eEv) h1 (show B.length+9≤B.length+10 by omega)
   have hPf:=ZAl (ver:=x.evs.length) (sz:=5) (rows:=x.evs.map eEv) (v:=i+1) (z:=3) (r:=[.v (.str x.name),.v (.isl 2 (x.vars.map eVr)),.sl (B.length+10) x.evs.length 0 x.evs.length]) (lt0 (B.length+9) oM) (show B.length+9≤B.length+10 by omega)
   have hV:∀r:List (List IV),(vs r).map (fun y=>y.map (ZE (B.length+10) x.evs.length 5 (x.evs.map eEv)))=vs r:=fun r=>eM (m:=0) (cJ.2 trivial) (aj _)
   have ZGU:=hPf
   unfold DE at hPf
   simp only[bj,cd,hz,hy,hv]at ZGU
   simp only[da,ee,fo,ez,bj,cd,ZGU]
   unfold DE
   simp (disch:=omega) only[bj,cd,hz,hy,hv,hSf,hV]
 obtain rfl:i=w.tr.length:=by omega
 have c2:cp2 B w p w.tr.length=[.live 0 3 [[.v (.str (w.tr.getD p dfPr).name),.v (.isl 2 ((w.tr.getD p dfPr).vars.map eVr)),.sl (B.length+8) (w.tr.getD p dfPr).evs.length 0 (w.tr.getD p dfPr).evs.length]],.live (w.tr.getD p dfPr).evs.length 5 (vs ((w.tr.getD p dfPr).evs.map eEv))]:=if_pos oM
 have tP:cvP w p (B.length+8) w.tr.length=FO w p (B.length+8):=bo (by rw[LH];omega)
 rw[c2,tP]
 simp (disch:=first|decide|omega) only[hA,sA,DD,aa,go_sem]
 refine nH (.inr rfl) (xs:=[.agg [.sl (B.length+3) w.sv.length 0 w.sv.length,.v (.int .i64 w.net.now),.v (.bool w.net.fifo),.v (.isl 4 (w.net.l.map eMs)),.v (.isl 1 (w.net.tm.map eI)),.v (.isl 2 (w.net.fates.map eFt)),.v (.int .i64 w.now),.v (.int .i64 w.sent),.sl (B.length+6) w.tr.length 0 w.tr.length]]) (y:=.agg (mvC w B.length)) (l':=ZFx w p B.length) kR (m:=4) rfl (fun j=>match j with|0=>3|1=>5|2=>6|_=>8) (fun a c ha hc h=>?_) (fun j r' h=>?_) ?_ hR hB ⟨by rw[hB,ap],rfl,by rw[hB,ap]⟩
 ·obtain rfl|rfl|rfl|rfl:a=0∨a=1∨a=2∨a=3:=oM<;>(obtain rfl|rfl|rfl|rfl:c=0∨c=1∨c=2∨c=3:=oM)<;>first|rfl|(simp at h)
 ·match j,h with
  |0,h =>
    cases h
    refine⟨.live w.sv.length 6 SV,rfl,rfl,rfl,by rw[←E9,TF,TF],fun k r r' h1 h2=>?_⟩
    rw[←E9]at h1
    have hk:k<w.sv.length:=by
     have:=(am.1 h1).1
     rwa [TF]at this
    by_cases G0:p=k
    ·subst G0
     rw[CN hp]at h1 h2
     cases h1;cases h2
     exact .cons (.v _) (.cons (.v _) (.cons (.v _) (.cons (Rn.slE (j:=1) rfl oM) (.cons (.v _) (.cons (.v _) .nil)))))
    ·rw[q9 hk G0]at h1 h2
     cases h1;cases h2
     exact RnL.plain
  |1,h=>cases h;exact⟨_,rfl,RnR.plain⟩
  |2,h =>
    cases h
    refine⟨.live w.tr.length 3 (FO w p (B.length+8)),rfl,rfl,rfl,by rw[LH,LH],fun k r r' h1 h2=>?_⟩
    have hk:k<w.tr.length:=by
     have:=(am.1 h1).1
     rwa [LH]at this
    by_cases G0:p=k
    ·subst G0
     rw[dY YJ]at h1 h2
     cases h1;cases h2
     exact .cons (.v _) (.cons (.v _) (.cons (Rn.slE (j:=3) rfl oM) .nil))
    ·rw[j9 hk G0]at h1 h2
     cases h1;cases h2
     exact RnL.plain
  |3,h=>cases h;exact⟨_,rfl,RnR.plain⟩
  |j+4,h=>cases h
 ·rw[ER]
  exact Rn.aggL (.cons (Rn.slE (j:=0) rfl oM) (.cons (.v _) (.cons (.v _) (.cons (.v _) (.cons (.v _) (.cons (.v _) (.cons (.v _) (.cons (.v _) (.cons (Rn.slE (j:=2) rfl oM) .nil)))))))))
def a_wStep:AFunc:=({c:=_}:CF Tryz.prog 21).c
theorem D7:qA Tryz.prog 21=some a_wStep:=by kernel_rfl
def a_wTick:AFunc:=({c:=_}:CF Tryz.prog 11).c
theorem I7:qA Tryz.prog 11=some a_wTick:=by kernel_rfl

theorem QA.split {P:Program} {f:Nat} {args:List AV} {b l X1 X2:List Row} {x:AV} (hl:X1.length=b.length) (h:QA P f args (b++l) [] (fun r b' l'=>r=x∧b'=X1++X2∧l'=[])):QA P f args b l (fun r b' l'=>r=x∧b'=X1∧l'=X2):=by
 refine⟨h.1,fun F L w us s hr=>Calls.mono (h.2 F L w us (by rw[ct];exact s) hr) ?_⟩
 rintro en w' ⟨v,x',b',l',F',L',h1,h2,h3,h4,h5,rfl,rfl,rfl⟩
 rw[ct]at h3
 rw[ct,ct]at h4
 exact⟨v,_,X1,X2,F',L',h1,h2,h3,h4,hl,rfl,rfl,rfl⟩
theorem ZJ7 {B P:List Row} {w:Wd} {p q:Nat} (hq:q=B.length+P.length):∃f n,q+5≤n∧∀w':Wd,B++(P++[lW w' p q,OU w' p,bY w' p q,mW w' p,eY w' q])=kB n (mvF f w' p q):=by
 obtain⟨n0,f,hn,hBf,_⟩:=ZIQ (B++P)
 rw[ap,←hq]at hn
 subst hn
 refine⟨f,n0+5,ai _,fun w'=>?_⟩
 rw[←bc,hBf]
 apply ea
 intro j
 by_cases hj:j<n0
 ·rw[aw (by rw[RA];exact hj),xH hj,xH oM,ZV (.inl hj)]
 ·rw[aq (by rw[RA];omega),RA]
  by_cases hj5:j<n0+5
  ·rw[xH hj5]
   obtain rfl|rfl|rfl|rfl|rfl:j=n0∨j=n0+1∨j=n0+2∨j=n0+3∨j=n0+4:=by omega
   ·rw[dy,YV];rfl
   ·rw[cj,fW];rfl
   ·rw[cj,GY];rfl
   ·rw[cj,aY];rfl
   ·rw[cj,QV];rfl
  ·rw[cg (by simp;omega),cg (by rw[RA];omega)]
theorem ZEE (w:Wd) (q:Nat):mvC w q=[.sl q w.sv.length 0 w.sv.length,.v (.int .i64 w.net.now),.v (.bool w.net.fifo),.v (.isl 4 (w.net.l.map eMs)),.v (.isl 1 (w.net.tm.map eI)),.v (.isl 2 (w.net.fates.map eFt)),.v (.int .i64 w.now),.v (.int .i64 w.sent),.sl (q+2) w.tr.length 0 w.tr.length]:=rfl
theorem ZBj (w:Wd) (p q:Nat):ZFx w p q=[lW w p q,OU w p,bY w p q,mW w p]:=rfl
theorem TA (w:Wd):(eWd w).map AV.v=(zWA w):=rfl
theorem pE {n:Nat} {l:List Row} (e:Int):Dv n l (.tup [.agg zZA,.v (.int .i64 e)]) (.tup [.agg ((eWd wd0).map .v),.v (.int .i64 e)]):=
 Dv.tupL (.cons (Dv.aggL (.cons (.z 6) (.cons (.v _) (.cons (.v _) (.cons (.z 4) (.cons (.z 1) (.cons (.z 2) (.cons (.v _) (.cons (.v _) (.cons (.z 3) .nil)))))))))) (.cons (.v _) .nil))
noncomputable def PL (w:Wd) (p:Int):Wd×Int:=if wdB w=true then (if p<0∨(w.sv.length:Int)≤p then (wd0,2) else if rF w p.toNat=true then stW w p.toNat else (wd0,6)) else (wd0,1)
theorem ZEy {w:Wd} {p:Nat} (h:(stW w p).2≠0):(stW w p).1=wd0:=by
 unfold stW stI at h⊢
 split at h<;>rename_i h1
 ·exact absurd rfl h
 rw[if_neg h1]
 split at h<;>rename_i h2
 ·rw[if_pos h2]
  split at h<;>rename_i h3
  ·exact absurd rfl h
  ·rw[if_neg h3]
 rw[if_neg h2]
 split at h<;>rename_i h4
 ·split at h<;>exact absurd rfl h
 rw[if_neg h4]
 split at h<;>rename_i h5
 ·rw[if_pos h5]
  split at h<;>rename_i h6
  ·exact absurd rfl h
  ·rw[if_neg h6]
 rw[if_neg h5]
 split at h<;>exact absurd rfl h
theorem fK (w:Wd) (tL:SvsS w.sv) (hS:Small w.tr) (hN:NwS w.net) (h0:0<w.sv.length) (h1:0<w.tr.length) (b l:List Row) :
  QA Tryz.prog 49 [.agg ((eWd w).map .v)] b l (fun r b' l'=>r=.agg ((eWd w).map .v)∧b'=b∧l'=l):=
 QA.deep (N:=ZFx w 0 (b.length+l.length)) (by have:=ZF9 (n:=b.length+l.length) (i:=0) (l:=ZFx w 0 (b.length+l.length)) h0 h1 rfl rfl rfl rfl;exact this) (bQ w tL hS hN 0 h0 h1 b l)
theorem l5 (w:Wd) (hS:Sm w.tr) (hN:Nm w.tr) (tL:SvsS w.sv) (N0:NwS w.net) (p:Int) (b l:List Row):QA Tryz.prog 21 [.agg ((eWd w).map .v),.v (.int .i64 p)] b l (fun r b' l'=>r=.tup [.agg ((eWd (PL w p).1).map .v),.v (.int .i64 (PL w p).2)]∧b'=b∧l'=l):=by
 refine XA D7 rfl kE ?_
 intro B g hB hR hE hA;simp only[zA]at hA
 have cV:=fun b l=>aH w hS hN tL N0 b l
 rw[TA]at hA cV
 have aU:=tL.len
 simp (disch:=first|decide|omega) only[a_wStep,hA,cellsOf,go_sem]
 refine QA.nxt (cV _ _) ?_
 cases t1:wdB w
 ·have hr:PL w p=(wd0,1):=by unfold PL;rw[if_neg (by rw[t1];simp)]
  rw[hr]
  simp (disch:=first|decide|omega) only[hA,cellsOf,go_sem]
  exact iA (.inr rfl) (xs:=[.agg zZA,.v (.int .i64 1)]) kR (pE 1) hR hB ⟨rfl,rfl,rfl⟩
 have hw:=WdV.of t1
 by_cases h1:p<0
 ·have d1:decide (p<0)=true:=ae h1
  have hr:PL w p=(wd0,2):=by unfold PL;rw[if_pos t1,if_pos (.inl h1)]
  rw[hr]
  simp (disch:=first|decide|omega) only[hA,d1,cellsOf,go_sem]
  exact iA (.inr rfl) (xs:=[.agg zZA,.v (.int .i64 2)]) kR (pE 2) hR hB ⟨rfl,rfl,rfl⟩
 have d1:decide (p<0)=false:=ag h1
 obtain⟨k,rfl⟩:∃k:Nat,p=k:=⟨p.toNat,by omega⟩
 by_cases h2:w.sv.length≤k
 ·have d2:decide ((k:Int)≥(w.sv.length:Int))=true:=ae oM
  have d2':decide ((w.sv.length:Int)≤(k:Int))=true:=d2
  have hr:PL w k=(wd0,2):=by unfold PL;rw[if_pos t1,if_pos (.inr oM)]
  rw[hr]
  simp (disch:=first|decide|omega) only[hA,d1,d2,d2',aa,go_sem]
  exact iA (.inr rfl) (xs:=[.agg zZA,.v (.int .i64 2)]) kR (pE 2) hR hB ⟨rfl,rfl,rfl⟩
 have d2:decide ((k:Int)≥(w.sv.length:Int))=false:=ag oM
 have d2':decide ((w.sv.length:Int)≤(k:Int))=false:=d2
 have OK:k<w.sv.length:=by omega
 have hkt:k<w.tr.length:=by rw[hw.len];exact OK
 have cE:=fun b l=>jS w tL hw.small hw.sv hw.len k OK b l
 rw[TA]at cE
 simp (disch:=first|decide|omega) only[hA,d1,d2,d2',aa,go_sem]
 refine QA.nxt (cE _ _) ?_
 cases t2:rF w k
 ·have hr:PL w k=(wd0,6):=by unfold PL;rw[if_pos t1,if_neg oM,ca,if_neg (by rw[t2];simp)]
  rw[hr]
  simp (disch:=first|decide|omega) only[hA,cellsOf,go_sem]
  exact iA (.inr rfl) (xs:=[.agg zZA,.v (.int .i64 6)]) kR (pE 6) hR hB ⟨rfl,rfl,rfl⟩
 have hr:PL w k=stW w k:=by unfold PL;rw[if_pos t1,if_neg oM,ca,if_pos t2]
 rw[hr]
 have cC:=fun b l=>bQ w tL hw.small N0 k OK hkt b l
 rw[TA]at cC
 simp only[ZEE,ZBj]at cC
 simp (disch:=first|decide|omega) only[hA,aa,go_sem]
 refine QA.nxt (cC _ _) ?_
 simp (disch:=first|decide|omega) only[hA,aa,go_sem]
 obtain⟨f,n,hn,EF⟩:=ZJ7 (B:=B) (P:=[.live 0 9 [(zWA w)],.live 0 9 [zZA]]) (w:=w) (p:=k) (q:=B.length+2) rfl
 have cS:=QA.split (l:=[.live 0 9 [(zWA w)],.live 0 9 [zZA]]++[lW w k (B.length+2),OU w k,bY w k (B.length+2),mW w k,eY w (B.length+2)]) (b:=B) rfl (by
  have:=ZBk f w k (B.length+2) n hn hw OK t2 (B++([.live 0 9 [(zWA w)],.live 0 9 [zZA]]++[lW w k (B.length+2),OU w k,bY w k (B.length+2),mW w k,eY w (B.length+2)])) [] (EF w)
  rw[←EF]at this
  exact this)
 refine QA.nxt cS ?_
 by_cases he:(stW w k).2=0
 ·have e0:((stW w k).2 != 0)=false:=by rw[he];rfl
  have hM:stM w k=(stW w k).1:=by unfold stM;rw[if_pos he]
  obtain⟨s',ev,n',sn',h3,h4⟩:=ZIL hw OK t2 he
  have bO:k<(stW w k).1.sv.length:=by rw[h3];show k<(w.sv.set k s').length;rw[dh];exact OK
  have cU:k<(stW w k).1.tr.length:=by rw[h3,h4.tr,jI];exact hkt
  obtain⟨W,hW⟩:∃W,(stW w k).1=W:=⟨_,rfl⟩
  rw[hM,hW]
  rw[hW]at bO cU
  rw[he]
  have m4:eY W (B.length+2)=.live 0 9 [[.sl (B.length+2) W.sv.length 0 W.sv.length,.v (.int .i64 W.net.now),.v (.bool W.net.fifo),.v (.isl 4 (W.net.l.map eMs)),.v (.isl 1 (W.net.tm.map eI)),.v (.isl 2 (W.net.fates.map eFt)),.v (.int .i64 W.now),.v (.int .i64 W.sent),.sl (B.length+4) W.tr.length 0 W.tr.length]]:=rfl
  have n0:((0:Int) != 0)=false:=rfl
  simp (disch:=first|decide|omega) only[hA,e0,n0,m4,aa,go_sem]
  exact iA (.inr rfl) (xs:=[.agg [.sl (B.length+2) W.sv.length 0 W.sv.length,.v (.int .i64 W.net.now),.v (.bool W.net.fifo),.v (.isl 4 (W.net.l.map eMs)),.v (.isl 1 (W.net.tm.map eI)),.v (.isl 2 (W.net.fates.map eFt)),.v (.int .i64 W.now),.v (.int .i64 W.sent),.sl (B.length+4) W.tr.length 0 W.tr.length],.v (.int .i64 0)]) kR (Dv.tupL (.cons (ZF9 (i:=2) bO cU rfl rfl rfl rfl) (.cons (.v _) .nil))) hR hB ⟨rfl,rfl,rfl⟩
 ·have e0:((stW w k).2 != 0)=true:=bne_iff_ne.2 he
  rw[ZEy he]
  obtain⟨er,her⟩:∃er,(stW w k).2=er:=⟨_,rfl⟩
  rw[her]at e0⊢
  obtain⟨W,hW⟩:∃W,stM w k=W:=⟨_,rfl⟩
  rw[hW]
  simp (disch:=first|decide|omega) only[hA,e0,aa,go_sem]
  exact iA (.inr rfl) (xs:=[.agg zZA,.v (.int .i64 er)]) kR (pE er) hR hB ⟨rfl,rfl,rfl⟩
noncomputable def aJ (w:Wd) (k:Int):Wd×Int:=if wdB w=true then (if (0≤k∧k≤1000000)∧w.now+k≤1000000000 then (tkW w k,0) else (wd0,2)) else (wd0,1)
theorem vS (w:Wd) (hS:Sm w.tr) (hN:Nm w.tr) (tL:SvsS w.sv) (N0:NwS w.net) (k:Int) (b l:List Row):QA Tryz.prog 11 [.agg ((eWd w).map .v),.v (.int .i64 k)] b l (fun r b' l'=>r=.tup [.agg ((eWd (aJ w k).1).map .v),.v (.int .i64 (aJ w k).2)]∧b'=b∧l'=l):=by
 refine XA I7 rfl kE ?_
 intro B g hB hR hE hA;simp only[zA]at hA
 have cV:=fun b l=>aH w hS hN tL N0 b l
 rw[TA]at hA cV
 have aU:=tL.len
 simp (disch:=first|decide|omega) only[a_wTick,hA,cellsOf,go_sem]
 refine QA.nxt (cV _ _) ?_
 cases t1:wdB w
 ·have hr:aJ w k=(wd0,1):=by unfold aJ;rw[if_neg (by rw[t1];simp)]
  rw[hr]
  simp (disch:=first|decide|omega) only[hA,cellsOf,go_sem]
  exact iA (.inr rfl) (xs:=[.agg zZA,.v (.int .i64 1)]) kR (pE 1) hR hB ⟨rfl,rfl,rfl⟩
 have hw:=WdV.of t1
 have ZIH:=hw.now
 simp (disch:=first|decide|omega) only[hA,cellsOf,go_sem]
 refine QA.nxt (QD _ _ _ _ _) ?_
 cases t2:inZ k 0 1000000
 ·have hr:aJ w k=(wd0,2):=by
   unfold inZ at t2
   have:=fx t2
   unfold aJ;rw[if_pos t1,if_neg (fun h=>this h.1)]
  rw[hr]
  simp (disch:=first|decide|omega) only[hA,cellsOf,go_sem]
  exact iA (.inr rfl) (xs:=[.agg zZA,.v (.int .i64 2)]) kR (pE 2) hR hB ⟨rfl,rfl,rfl⟩
 unfold inZ at t2
 have h2:=gg t2
 have I8:IntKind.i64.wrap (w.now+k)=w.now+k:=pA oM oM
 by_cases h3:w.now+k≤1000000000
 case neg =>
  have d3:decide (w.now+k>1000000000)=true:=ae oM
  have d3':decide (1000000000<w.now+k)=true:=d3
  have hr:aJ w k=(wd0,2):=by unfold aJ;rw[if_pos t1,if_neg (fun h=>h3 h.2)]
  rw[hr]
  simp (disch:=first|decide|omega) only[hA,I8,d3,d3',cellsOf,go_sem]
  exact iA (.inr rfl) (xs:=[.agg zZA,.v (.int .i64 2)]) kR (pE 2) hR hB ⟨rfl,rfl,rfl⟩
 have d3:decide (w.now+k>1000000000)=false:=ag oM
 have d3':decide (1000000000<w.now+k)=false:=d3
 have hr:aJ w k=(tkW w k,0):=by unfold aJ;rw[if_pos t1,if_pos ⟨h2,h3⟩]
 rw[hr]
 have cC:=fun b l=>fK w tL hw.small N0 (by have:=(LP hw.sv).1;omega) hw.tr.lo b l
 rw[TA]at cC
 have cG:=fun b l=>ZEC w.net (w.now+k) b l
 have G4:goE w.net (w.now+k)=0:=by
  unfold goE;rw[if_pos (VG.2 hw.net),if_neg oM,if_neg (by have:=hw.nnow;omega)]
 have hgn:goN w.net (w.now+k)={w.net with now:=w.now+k}:=by unfold goN;rw[if_pos G4]
 rw[G4,hgn]at cG
 simp only[eNw,nwA,bj,cd]at cG
 have n0:((0:Int) != 0)=false:=rfl
 simp (disch:=first|decide|omega) only[hA,I8,d3,d3',cellsOf,go_sem]
 refine QA.nxt (cC _ _) ?_
 simp (disch:=first|decide|omega) only[hA,I8,cellsOf,go_sem]
 refine QA.nxt (cG _ _) ?_
 simp (disch:=first|decide|omega) only[hA,n0,cellsOf,go_sem]
 rw[TA]
 exact ZA (xs:=[.agg [.v (.isl 6 (w.sv.map eSv)),.v (.int .i64 (w.now+k)),.v (.bool w.net.fifo),.v (.isl 4 (w.net.l.map eMs)),.v (.isl 1 (w.net.tm.map eI)),.v (.isl 2 (w.net.fates.map eFt)),.v (.int .i64 (w.now+k)),.v (.int .i64 w.sent),.v (.isl 3 (w.tr.map ePr))],.v (.int .i64 0)])
def a_wNewW:AFunc:=({c:=_}:CF Tryz.prog 33).c
theorem R7:qA Tryz.prog 33=some a_wNewW:=by kernel_rfl
def P1:List (Nat×Nat):=[(8,8),(37,54)]
def a_wNewW1:AFunc:=({c:=_}:CF Tryz.prog 82).c
theorem GZ:qA Tryz.prog 82=some a_wNewW1:=by kernel_rfl

def npr (s:Sv):Pr:=⟨s.name,nN s.vars,[]⟩
def R9 (l:List Sv) (n:Nw):Wd:=⟨l,n,0,0,l.map npr⟩
theorem ZAa {l:List Sv} {i:Nat} (h:i<l.length):(l.map npr).getD i dfPr=npr l[i]:=by
 rw[au,an,ah h];rfl
def AO (l:List Sv) (n:Nw):Wd×Int:=if FF l=true∧nwB n=true then (if n.now≠0∨0<n.l.length∨l.any (fun s=>s.pc != 0)=true then (wd0,6) else (R9 l n,0)) else (wd0,1)
theorem FY (s:Sv) (b l:List Row):QA Tryz.prog 82 [.agg ((eSv s).map .v)] b l (fun r b' l'=>r=.v (.bool (s.pc != 0))∧b'=b∧l'=l):=by
 refine XA GZ rfl kE ?_
 intro B g hB hR hE hA;simp only[zA]at hA
 simp (disch:=first|decide|omega) only[a_wNewW1,hA,eSv,cellsOf,go_sem]
 exact ZA (xs:=[.v (.bool (s.pc != 0))])
def nprZ (s:Sv):List IV:=[.str s.name,.isl 2 ((nN s.vars).map eVr),.zsl]
theorem ZBd {l:List Sv} {i:Nat} (h:i<l.length):(l.take i).map nprZ++[[.str l[i].name,.isl 2 ((nN l[i].vars).map eVr),.zsl]]=(l.take (i+1)).map nprZ:=by
 rw[gb,ah h,bh];rfl
theorem ZHL (l:List Sv):IVle (.isl 3 (l.map nprZ)) (.isl 3 ((l.map npr).map ePr)):=by
 refine .isl _ _ _ kS (fun k row row' h1 h2=>?_) (fun k row row' j a a' h1 h2 h3 h4=>?_)
 ·rw[an]at h1 h2
  rw[an]at h2
  cases hk:l[k]? with
  |none=>rw[hk]at h1;cases h1
  |some s=>rw[hk]at h1 h2;cases h1;cases h2;rfl
 ·rw[an]at h1 h2
  rw[an]at h2
  cases hk:l[k]? with
  |none=>rw[hk]at h1;cases h1
  |some s =>
    rw[hk]at h1 h2;cases h1;cases h2
    match j,h3,h4 with
    |0,h3,h4=>cases h3;cases h4;exact .refl _
    |1,h3,h4=>cases h3;cases h4;exact .refl _
    |2,h3,h4=>cases h3;cases h4;exact .zsl 5
    |j+3,h3,h4=>cases h3
theorem y7 {l:List Sv} {p:Sv→Bool}:((List.range l.length).any fun j=>p (l.getD j dfSv))=l.any p:=bG
theorem G5 (L:List Sv) (hL:SvsS L) (n:Nw) (N0:NwS n) (b l:List Row):QA Tryz.prog 33 [.v (.isl 6 (L.map eSv)),.agg ((eNw n).map .v)] b l (fun r b' l'=>r=.tup [.agg ((eWd (AO L n).1).map .v),.v (.int .i64 (AO L n).2)]∧b'=b∧l'=l):=by
 refine XA R7 rfl kE ?_
 intro B g hB hR hE hA;simp only[zA]at hA
 have heN:(eNw n).map AV.v=(zNA n):=rfl
 have cV:=fun b l=>xG n b l
 rw[heN]at hA cV
 have hLl:=hL.len
 have NY:=N0.l
 simp (disch:=first|decide|omega) only[a_wNewW,hA,cellsOf,go_sem]
 refine QA.nxt (FL L hL _ _) ?_
 cases t1:FF L
 ·have hr:AO L n=(wd0,1):=by unfold AO;rw[if_neg (fun h=>by rw[t1]at h;cases h.1)]
  rw[hr]
  simp (disch:=first|decide|omega) only[hA,cellsOf,go_sem]
  exact iA (.inr rfl) (xs:=[.agg zZA,.v (.int .i64 1)]) kR (pE 1) hR hB ⟨rfl,rfl,rfl⟩
 simp (disch:=first|decide|omega) only[hA,cellsOf,go_sem]
 refine QA.nxt (cV _ _) ?_
 cases t2:nwB n
 ·have hr:AO L n=(wd0,1):=by unfold AO;rw[if_neg (fun h=>by rw[t2]at h;cases h.2)]
  rw[hr]
  simp (disch:=first|decide|omega) only[hA,cellsOf,go_sem]
  exact iA (.inr rfl) (xs:=[.agg zZA,.v (.int .i64 1)]) kR (pE 1) hR hB ⟨rfl,rfl,rfl⟩
 by_cases h3:n.now=0
 case neg =>
  have d3:(n.now != 0)=true:=bne_iff_ne.2 h3
  have hr:AO L n=(wd0,6):=by unfold AO;rw[if_pos ⟨t1,t2⟩,if_pos (.inl h3)]
  rw[hr]
  simp (disch:=first|decide|omega) only[hA,d3,cellsOf,go_sem]
  exact iA (.inr rfl) (xs:=[.agg zZA,.v (.int .i64 6)]) kR (pE 6) hR hB ⟨rfl,rfl,rfl⟩
 have d3:(n.now != 0)=false:=by rw[h3];rfl
 by_cases h4:0<n.l.length
 ·have d4:decide ((n.l.length:Int)>0)=true:=ae oM
  have d4':decide ((0:Int)<(n.l.length:Int))=true:=d4
  have hr:AO L n=(wd0,6):=by unfold AO;rw[if_pos ⟨t1,t2⟩,if_pos (.inr (.inl h4))]
  rw[hr]
  simp (disch:=first|decide|omega) only[hA,d3,d4,d4',aa,go_sem]
  exact iA (.inr rfl) (xs:=[.agg zZA,.v (.int .i64 6)]) kR (pE 6) hR hB ⟨rfl,rfl,rfl⟩
 have d4:decide ((n.l.length:Int)>0)=false:=ag oM
 have d4':decide ((0:Int)<(n.l.length:Int))=false:=d4
 have cC:=fun B0 l0=>qD LK MK (L.map eSv) 82 [] (fun j=>(L.getD j dfSv).pc != 0) QS (by rw[aa];exact hLl) B0 l0 (fun j row hj=>by
  have wG:j<L.length:=by have:=(am.1 hj).1;rwa [aa]at this
  rw[an,ah wG]at hj
  cases hj
  simp only[YA wG]
  exact FY _ _ _)
 rw[aa,y7 (p:=fun s=>s.pc != 0)]at cC
 simp (disch:=first|decide|omega) only[hA,d3,d4,d4',aa,go_sem]
 refine QA.nxt (cC _ _) ?_
 cases t5:L.any (fun s=>s.pc != 0)
 case true =>
  have hr:AO L n=(wd0,6):=by unfold AO;rw[if_pos ⟨t1,t2⟩,if_pos (.inr (.inr t5))]
  rw[hr]
  simp (disch:=first|decide|omega) only[hA,aa,go_sem]
  exact iA (.inr rfl) (xs:=[.agg zZA,.v (.int .i64 6)]) kR (pE 6) hR hB ⟨rfl,rfl,rfl⟩
 have hr:AO L n=(R9 L n,0):=by unfold AO;rw[if_pos ⟨t1,t2⟩,if_neg (fun h=>by
  rcases h with h|h|h
  ·exact h h3
  ·exact h4 h
  ·rw[t5]at h;cases h)]
 rw[hr]
 have hn:=LP t1
 have h8:=ZEx t1
 simp (disch:=first|decide|omega) only[hA,aa,go_sem]
 refine JA (ι:=Nat) P1 (fun i=>[(37,.v (.int .i64 i))]) 3 (fun i=>[.live 0 5 [(zNA n)],.live 0 9 [zZA],.live 0 9 [[.v (.isl 6 (L.map eSv)),.v (.int .i64 n.now),.v (.bool n.fifo),.v (.isl 4 (n.l.map eMs)),.v (.isl 1 (n.tm.map eI)),.v (.isl 2 (n.fates.map eFt)),.v (.int .i64 0),.v (.int .i64 0),.sl (B.length+3) i 0 i]],.live i 3 (vs ((L.take i).map nprZ))])
  (fun i=>i≤L.length) (fun i=>L.length-i) 0 (aj _) kM kA (fun e=>VA.nilcell (e:=e) (b:=B) (l:=[.live 0 5 [(zNA n)],.live 0 9 [zZA],.live 0 9 [[.v (.isl 6 (L.map eSv)),.v (.int .i64 n.now),.v (.bool n.fifo),.v (.isl 4 (n.l.map eMs)),.v (.isl 1 (n.tm.map eI)),.v (.isl 2 (n.fates.map eFt)),.v (.int .i64 0),.v (.int .i64 0),.v .zsl]]]) (i:=2) (k:=0) (j:=8) (sz:=3) rfl rfl rfl) ?_
 intro g1 qF TE sA i hi
 have vl:((L.take i).map nprZ).length=i:=by rw[aa,bg];omega
 have vt:List.take i ((L.take i).map nprZ)=(L.take i).map nprZ:=bo (by rw[vl];omega)
 by_cases yA:i<L.length
 ·have QI:=fG yA
  have cP:=fun b l=>zS L[i].vars (h8 i yA) b l
  have S0:=ZBd yA
  obtain⟨Y,hY⟩:∃Y,(L.take i).map nprZ=Y:=⟨_,rfl⟩
  rw[hY]at vl vt S0⊢
  simp (disch:=first|decide|omega) only[hA,sA,QI,vl,vt,aa,go_sem]
  refine QA.nxt (cP _ _) ?_
  simp (disch:=first|decide|omega) only[hA,sA,QI,vl,vt,dB,go_sem]
  rw[S0]
  refine⟨i+1,yA,by simp only;omega,?_⟩
  exact VA.kround (p:=P1) (k:=3) kQ kA rfl qF kS kV hR kL
 ·obtain rfl:i=L.length:=by omega
  have HU:L.take L.length=L:=io
  have LJ:=ZHL L
  rw[HU]at vl⊢
  have cC:∀b l,QA Tryz.prog 49 [.agg [.v (.isl 6 (L.map eSv)),.v (.int .i64 n.now),.v (.bool n.fifo),.v (.isl 4 (n.l.map eMs)),.v (.isl 1 (n.tm.map eI)),.v (.isl 2 (n.fates.map eFt)),.v (.int .i64 0),.v (.int .i64 0),.v (.isl 3 (L.map nprZ))]] b l (fun r b' l'=>r=.agg ((eWd (R9 L n)).map .v)∧b'=b∧l'=l):=fun b l=>by
   have hS:Small (R9 L n).tr:=by
    refine⟨by show (L.map npr).length≤_;rw[aa];omega,fun x hx=>?_,fun x hx=>?_,fun x hx=>?_⟩
    all_goals
     obtain⟨s,hs,rfl⟩:=cr.1 hx
     obtain⟨p,hp,rfl⟩:=cu hs
     have:=h8 p hp
     simp[npr,tI]
    omega
   refine (fK (R9 L n) hL hS N0 (by show 0<L.length;omega) (by show 0<(L.map npr).length;rw[aa];omega) b l).le rfl (fun i x y hx hy=>?_)
   match i,hx,hy with
   |0,hx,hy =>
     cases hx;cases hy
     rw[TA]
     refine .agg _ _ rfl (fun j u v hu hv=>?_)
     match j,hu,hv with
     |0,hu,hv=>cases hu;cases hv;exact .refl _
     |1,hu,hv=>cases hu;cases hv;exact .refl _
     |2,hu,hv=>cases hu;cases hv;exact .refl _
     |3,hu,hv=>cases hu;cases hv;exact .refl _
     |4,hu,hv=>cases hu;cases hv;exact .refl _
     |5,hu,hv=>cases hu;cases hv;exact .refl _
     |6,hu,hv=>cases hu;cases hv;exact .refl _
     |7,hu,hv=>cases hu;cases hv;exact .refl _
     |8,hu,hv=>cases hu;cases hv;exact .v _ _ LJ
  obtain⟨Y,hY⟩:∃Y,L.map nprZ=Y:=⟨_,rfl⟩
  rw[hY]at vl cC⊢
  obtain⟨W,hW⟩:∃W,R9 L n=W:=⟨_,rfl⟩
  rw[hW]at cC⊢
  rw[TA]at cC⊢
  simp (disch:=first|decide|omega) only[hA,sA,aa,go_sem]
  refine QA.frzB (i:=3) (ver:=L.length) (sz:=3) (rows:=Y) (args':=[.agg [.v (.isl 6 (L.map eSv)),.v (.int .i64 n.now),.v (.bool n.fifo),.v (.isl 4 (n.l.map eMs)),.v (.isl 1 (n.tm.map eI)),.v (.isl 2 (n.fates.map eFt)),.v (.int .i64 0),.v (.int .i64 0),.v (.isl 3 Y)]]) rfl (by simp[frz,ZE,vl];rw[←vl,io]) ?_
  refine QA.nxt (cC _ _) ?_
  simp (disch:=first|decide|omega) only[hA,sA,aa,go_sem]
  exact ZA (xs:=[.agg (zWA W),.v (.int .i64 0)])
theorem Dv.repR {F:Nat→Prop} {L:LMap} {n:Nat} {l:List Row} {w:World} (hs:∀i ver sz els,l[i]? = some (.live ver sz els)→∃q,L (n+i) ver=some q∧tR w F L sz els q) {x y:AV} (h:Dv n l x y):∀v,RepA w F L x v→RepA w (FD F L n l) L y v:=by
 have mono:∀{x:AV} {v:Value},RepA w F L x v→RepA w (FD F L n l) L x v:=fun hx=>hx.mono (fun _ h=>.inl h) (fun _ _=>rfl) (fun _ _ _ h=>h)
 induction h with
 |v x=>exact fun v hv=>mono hv
 |z sz =>
   intro v hv
   cases hv.vI
   exact .v _ _ (.isl0 _ _ _ (aj _))
 |sl i ver off len sz els rows hi LJ hl h1 h2 ih =>
   intro v hv
   obtain⟨q,k1,k2⟩:=hs _ _ _ _ hi
   refine .v _ _ ?_
   cases hv with
   |sl _ _ _ _ blk o z cap hL g1 g2 =>
     rw[k1]at hL;cases hL
     obtain⟨q1,q2,q3,cur,T,q4,q5,q6,q7⟩:=k2
     subst q1
     have jG:∀(k:Nat) (row:List IV) (j:Nat) (c:IV),rows[k]? = some row→row[j]? = some c→∃u,w.cell? ⟨blk,o+off*z+k*z+j,none⟩=some u∧RepI w (FD F L n l) c u:=by
      intro k row j c hk hj
      have OK:=(am.1 hk).1
      have wG:=(am.1 hj).1
      have hr:els[off+k]? = some els[off+k]:=ah oM
      have hlr:=h1 k _ row hr hk
      have ha:els[off+k][j]? = some els[off+k][j]:=ah oM
      obtain⟨_,u,g3,g4⟩:=q7 (off+k) _ j _ hr ha
      refine⟨u,?_,(ih k _ row j _ c hr hk ha hj u g4).vI⟩
      rw[bx]at g3
      simp only[World.cell?,q4]
      rw[←g3]
      simp[cw]
     have:=RepI.isl (w:=w) (F:=FD F L n l) rows blk (o+off*z) z (cap-off) (fun k j=>(w.cell? ⟨blk,o+off*z+k*z+j,none⟩).getD undef) (.inr ⟨i,ver,z,els,_,hi,k1,rfl⟩) oM oM
      (fun k row hk=>by
       have OK:=(am.1 hk).1
       have hr:els[off+k]? = some els[off+k]:=ah oM
       rw[←h1 k _ row hr hk]
       exact q6 _ _ hr)
      (fun k row j c hk hj=>by
       obtain⟨u,g3,_⟩:=jG k row j c hk hj
       rw[g3];rfl)
      (fun k row j c hk hj=>by
       obtain⟨u,g3,g4⟩:=jG k row j c hk hj
       rw[g3];exact g4)
     rw[hl]at this
     exact this
   |slz =>
     have:rows=[]:=cq hl
     rw[this];exact .isl0 _ _ _ oM
   |sln =>
     have:rows=[]:=cq hl
     rw[this];exact .isl0 _ _ _ oM
 |agg cs ds hl _ ih =>
   intro v hv
   obtain⟨us,rfl,hu⟩:=hv.aggL
   refine GA.agg ⟨by rw[←hl];exact hu.1,fun j d u hd hju=>?_⟩
   have wG:=(am.1 hd).1
   have hc:cs[j]? = some cs[j]:=ah oM
   exact ih j _ d hc hd u (hu.2 j _ u hc hju)
 |tup cs ds hl _ ih =>
   intro v hv
   obtain⟨us,rfl,hu⟩:=hv.tupL
   refine GA.tup ⟨by rw[←hl];exact hu.1,fun j d u hd hju=>?_⟩
   have wG:=(am.1 hd).1
   have hc:cs[j]? = some cs[j]:=ah oM
   exact ih j _ d hc hd u (hu.2 j _ u hc hju)

theorem QA.deepMid {P:Program} {f:Nat} {args args':List AV} {b l1 N l2:List Row} {Q:AV→List Row→List Row→Prop} (hl:args.length=args'.length)
  (hd:∀(i:Nat) (x y:AV),args[i]? = some x→args'[i]? = some y→Dv (b.length+l1.length) N x y) (h:QA P f args' b (l1++(N.map WF++l2)) Q):QA P f args b (l1++(N++l2)) Q:=by
 refine⟨h.1,fun F L w us s hr=>?_⟩
 obtain⟨n,hn⟩:∃n,n=b.length+l1.length:=⟨_,rfl⟩
 rw[←hn]at hd
 have e1:∀X:List Row,∀j,j<n→(b++(l1++(X++l2)))[j]? = (b++l1)[j]?:=fun X j hj=>by
  rw[←bc,aw (by rw[ap];omega)]
 have e2:∀X:List Row,∀j,j<X.length→(b++(l1++(X++l2)))[n+j]? = X[j]?:=fun X j hj=>by
  rw[←bc,aq (by rw[ap];omega),ap,←hn,cj,aw hj]
 have e3:∀X:List Row,∀j,(b++(l1++(X++l2)))[n+X.length+j]? = l2[j]?:=fun X j=>by
  rw[←bc,aq (by rw[ap];omega),ap,←hn,cw,cj,aq oM,cj]
 have sp:∀j,j<n∨(∃i,i<N.length∧j=n+i)∨∃i,j=n+N.length+i:=fun j=>by
  by_cases h1:j<n
  ·exact .inl h1
  ·by_cases h2:j<n+N.length
   ·exact .inr (.inl ⟨j-n,by omega,by omega⟩)
   ·exact .inr (.inr ⟨j-(n+N.length),by omega⟩)
 have hml:(N.map WF).length=N.length:=aa _
 have e2d:∀i,i<N.length→∃r,N[i]? = some r∧(b++(l1++(N++l2)))[n+i]? = some r∧(b++(l1++(N.map WF++l2)))[n+i]? = some (WF r):=fun i hi=>by
  refine⟨N[i],ah hi,by rw[e2 _ _ hi,ah hi],?_⟩
  rw[e2 _ _ (by rw[hml];exact hi),an,ah hi];rfl
 have e3d:∀j,(b++(l1++(N.map WF++l2)))[n+N.length+j]? = l2[j]?:=fun j=>by
  have:=e3 (N.map WF) j
  rw[hml]at this;exact this
 have gH:∀{j v z:Nat} {els:List (List AV)},(b++(l1++(N.map WF++l2)))[j]? = some (.live v z els)→(∀i,i<N.length→j≠n+i)∧(b++(l1++(N++l2)))[j]? = some (.live v z els):=fun {j v z els} hj=>by
  rcases sp j with h1|⟨i,hi,rfl⟩|⟨i,rfl⟩
  ·rw[e1 _ _ h1]at hj⊢;exact⟨fun i _=>by omega,hj⟩
  ·obtain⟨r,_,_,h4⟩:=e2d i hi
   rw[h4]at hj;cases hj
  ·rw[e3d]at hj;rw[e3];exact⟨fun i _=>by omega,hj⟩
 have zE:∀{i ver sz els},N[i]? = some (.live ver sz els)→i<N.length∧(b++(l1++(N++l2)))[n+i]? = some (.live ver sz els):=fun {i ver sz els} hi=>by
  have:=(am.1 hi).1
  exact⟨this,by rw[e2 _ _ this];exact hi⟩
 have EF:∀k,DC L (b++(l1++(N.map WF++l2))) k→DC L (b++(l1++(N++l2))) k:=by
  rintro k ⟨j,v,z,els,q,h1,h2,h3⟩
  exact⟨j,v,z,els,q,(gH h1).2,h2,h3⟩
 have s1:Sim (FD F L n N) L (b++(l1++(N.map WF++l2))) w:=by
  refine⟨fun j v z els hj=>?_,fun j v q hq=>?_,fun j j' v v' z z' e1 e2 bb q1 q2 h1 h2=>s.apart j j' v v' z z' e1 e2 bb q1 q2 (gH h1).2 (gH h2).2,fun k hk=>?_,s.glob.mono (fun _ h=>.inl h) (fun _ _=>rfl)⟩
  ·obtain⟨q,g1,g2⟩:=s.row j v z els (gH hj).2
   exact⟨q,g1,g2.mono (fun _ _=>rfl) (fun _ _ h=>h.mono (fun _ h=>.inl h) (fun _ _=>rfl) (fun _ _ _ h=>h))⟩
  ·obtain⟨r,h1,h2⟩:=s.born j v q hq
   rcases sp j with h3|⟨i,hi,rfl⟩|⟨i,rfl⟩
   ·exact⟨r,by rw[e1 _ _ h3]at h1⊢;exact h1,h2⟩
   ·obtain⟨r',_,h4,h5⟩:=e2d i hi
    rw[h4]at h1;cases h1
    exact⟨WF r,h5,h2⟩
   ·exact⟨r,by rw[e3]at h1;rw[e3d];exact h1,h2⟩
  ·rcases hk with hk|⟨i,ver,sz,els,q,h1,h2,h3⟩
   ·exact⟨(s.imm k hk).1,fun ho=>(s.imm k hk).2 (EF k ho)⟩
   ·obtain⟨hi,h1⟩:=zE h1
    obtain⟨q',g1,g2⟩:=s.row _ _ _ _ h1
    rw[h2]at g1;cases g1
    refine⟨g2.lt h3,?_⟩
    rintro⟨j,v,z,els',q2,k1,k2,k3⟩
    obtain⟨hj,k4⟩:=gH k1
    exact hj i hi (s.apart j (n+i) v ver z sz els' els k q2 q k4 h1 k2 h2 k3 h3)
 have aW:GA w (FD F L n N) L args' us.toList:=⟨by rw[←hl];exact hr.1,fun j y v hy hv=>by
  have M9:=(am.1 hy).1
  have hx:args[j]? = some args[j]:=ah oM
  exact (hd j _ y hx hy).repR (fun i ver sz els hi=>s.row _ _ _ _ (zE hi).2) v (hr.2 j _ v hx hv)⟩
 refine Calls.mono (h.2 _ L w us s1 aW) ?_
 rintro en w' ⟨v,x,b',l',F2,L2,h1,h2,h3,h4,h5,h6⟩
 have IB:(b++(l1++(N.map WF++l2))).length=(b++(l1++(N++l2))).length:=by simp
 have st:Step (b++(l1++(N++l2))).length F L (b++(l1++(N++l2))) w (FD F L n N) L (b++(l1++(N.map WF++l2))) w:=by
  refine⟨fun _ h=>.inl h,fun _ _ _ _ h=>h,rfl,rfl,rfl,ai _,fun _ _ _=>rfl,fun k _ ho=>EF k ho,fun id hid v hv=>?_,fun k hk hf=>?_⟩
  ·rcases sp id with h3|⟨i,hi,rfl⟩|⟨i,rfl⟩
   ·rw[e1 _ _ h3]at hv⊢;exact hv
   ·obtain⟨r,_,h4,h5⟩:=e2d i hi
    rw[h4]at hv;cases hv
    exact h5
   ·rw[e3]at hv;rw[e3d];exact hv
  ·rcases hf with hf|⟨i,ver,sz,els,q,h1,h2,h3⟩
   ·exact .inl hf
   ·exact .inr ⟨_,_,_,_,_,(zE h1).2,h2,h3⟩
 exact⟨v,x,b',l',F2,L2,h1,h2,h3,st.trans (IB▸h4),h5,h6⟩
def a_rLensO:AFunc:=({c:=_}:CF Tryz.prog 36).c
theorem EZ:qA Tryz.prog 36=some a_rLensO:=by kernel_rfl
def eV:List (Nat×Nat):=[(3,21)]

theorem Z6 (t:Tr) (hS:Small t) (b l:List Row):QA Tryz.prog 36 [.agg [.v (eT t)]] b l (fun r b' l'=>r=.v (.isl 1 ((UJ t).map eI))∧b'=b∧l'=l):=by
 refine XA EZ rfl kE ?_
 intro B g hB hR hE hA;simp only[zA]at hA
 have H8:=hS.np
 have hll:(UJ t).length=t.length:=aa _
 simp (disch:=first|decide|omega) only[a_rLensO,hA,eT,go_sem]
 refine QF (ι:=Nat) 3 1 eV (fun i=>[(3,.sl (B.length+1) i 0 i),(4,.v (.int .i64 i))]) 2 (fun i=>[(zTA t),.live i 1 (vs (((UJ t).take i).map eI))])
  (fun i=>i≤t.length) (fun i=>t.length-i) 0 (aj _) (by simp (disch:=decide) only[hA,go_sem]) kE rfl kM kA (fun e=>by simpa [vs] using VA.refl _ _ _) ?_
 intro g1 qF TE sA i hi
 by_cases yA:i<t.length
 ·have hget:(t.map ePr)[i]? = some [.str t[i].name,.isl 2 (t[i].vars.map eVr),.isl 5 (t[i].evs.map eEv)]:=by rw[an,ah yA];rfl
  have dk:decide ((i:Int)<(t.length:Int))=true:=ae oM
  have XJ:min i (UJ t).length=i:=by omega
  have PY:List.take i (List.map eI (List.take i (UJ t)))=((UJ t).take i).map eI:=bo (by simp;omega)
  have hr:((UJ t).take i).map eI++[[.int .i64 (t[i].evs.length:Int)]]=((UJ t).take (i+1)).map eI:=by
   rw[←RM (f:=eI) (show i<(UJ t).length by omega)]
   unfold UJ
   rw[jc];rfl
  simp (disch:=first|decide|omega) only[hA,sA,hget,dk,XJ,PY,hr,bg,RB,bq,bs,ez,go_sem]
  refine⟨i+1,yA,by simp only;omega,?_⟩
  exact VA.kround (p:=eV) (k:=2) kQ kA rfl qF kS kV hR kL
 ·obtain rfl:i=t.length:=by omega
  have dk:decide ((t.length:Int)<(t.length:Int))=false:=by simp
  simp (disch:=first|decide|omega) only[hA,sA,dk,aa,go_sem]
  have htk:(UJ t).take t.length=UJ t:=bo oM
  rw[htk]
  exact mP (i:=1) (ver:=t.length) (sz:=1) (n:=t.length) (rows:=(UJ t).map eI) (.inr rfl) kR rfl (by simp;omega) hR hB ⟨rfl,rfl,rfl⟩
theorem QA.nxtF {P:Program} {f:Nat} {args:List AV} {b l B' L':List Row} {x:AV} {K:AV→List Row→List Row→Prop} (h:QA P f args b l (fun r b' l'=>r=x∧b'=B'∧l'=L')) (k:∀l2,l2=L'→K x B' l2):QA P f args b l K:=QA.nxt h (k _ rfl)
def a_r54put:AFunc:=({c:=_}:CF Tryz.prog 76).c
theorem AZ:qA Tryz.prog 76=some a_r54put:=by kernel_rfl

theorem YM (w:Wd) (hS:Small w.tr) (tL:SvsS w.sv) (p:Nat) (hp:p<w.sv.length) (YJ:p<w.tr.length) (IB:w.sv.length=w.tr.length) (s:Sv) (e:Ev) (b l:List Row) :
  QA Tryz.prog 76 [.agg ((eWd w).map .v),.v (.int .i64 p),.agg ((eSv s).map .v),.agg (zEA e)] b l (fun r b' l'=>r=.agg ((eWd (MG w p s e)).map .v)∧b'=b∧l'=l):=by
 refine XA AZ rfl kE ?_
 intro B g hB hR hE hA;simp only[zA]at hA
 have nL:(eWd w).map AV.v=(zWA w):=rfl
 have heS:(eSv s).map AV.v=(zSA s):=rfl
 rw[nL,heS]at hA
 have aU:=tL.len
 have cL:=fun b l=>Z6 w.tr hS b l
 have cC:=fun b l=>J6 w.tr hS b l
 simp only[eT]at cL cC
 have cK:=fun b l=>rN (.str s.name) (.isl 3 (s.code.map eIn)) (.int .i64 s.pc) (.isl 1 (s.vars.map eI)) s w.now b l
 obtain⟨rows,hr⟩:∃rows,w.sv.map eSv=rows:=⟨_,rfl⟩
 have nR:rows.length=w.sv.length:=by rw[←hr,aa]
 have hri:∀h:p<rows.length,rows[p]'h=eSv w.sv[p]:=fun h=>by subst hr;rw[jc]
 have hrs:∀a0 a1 a2 a3 a4 a5:AV,((((((((eSv w.sv[p]).map AV.v).set 0 a0).set 1 a1).set 2 a2).set 3 a3).set 4 a4).set 5 a5)=[a0,a1,a2,a3,a4,a5]:=fun _ _ _ _ _ _=>rfl
 have hlS:(eSv w.sv[p]).length=6:=rfl
 have pK:(vs rows).set p (zSA s)=vs ((w.sv.set p s).map eSv):=by
  rw[←hr,fa];unfold vs;rw[fa];rfl
 have ZNW:((w.sv.set p s).map eSv).length=w.sv.length:=by simp
 unfold zWA at hA;rw[hr]at hA
 simp (disch:=first|decide|omega) only[a_r54put,hA,nR,hri,hlS,hrs,pK,dB,go_sem]
 refine QA.nxt (cK _ _) ?_
 simp (disch:=first|decide|omega) only[hA,cellsOf,go_sem]
 refine QA.nxt (cL _ _) ?_
 simp (disch:=first|decide|omega) only[hA,cellsOf,go_sem]
 refine QA.nxtF (cC _ _) (fun l2 cU=>?_)
 obtain⟨x,hx⟩:∃x,w.tr[p]=x:=⟨_,rfl⟩
 have hpa:prA w.tr p=x:=by rw[←hx];exact YB dfPr w.tr YJ
 obtain⟨EV,hEV⟩:∃EV,EV=fl w.tr.length (cpE w.tr):=⟨_,rfl⟩
 obtain⟨PC,hPC⟩:∃PC,PC=fl w.tr.length (cpC w.tr (B.length+6) 1):=⟨_,rfl⟩
 have hPl:PC.length=w.tr.length:=by rw[hPC,xA]
 have hEl:EV.length=w.tr.length:=by rw[hEV,xA]
 have hPg:PC[p]? = some [.v (.str x.name),.v (.isl 2 (x.vars.map eVr)),.sl (B.length+(7+p)) x.evs.length 0 x.evs.length]:=by
  rw[hPC,CB YJ];unfold cpC;rw[hpa,show B.length+6+(1+p)=B.length+(7+p) by omega]
 have hEg:EV[p]? = some (.live x.evs.length 5 (vs (x.evs.map eEv))):=by
  rw[hEV,CB YJ];unfold cpE;rw[hpa]
 have hl3:l2=.live 0 9 [[.v (.isl 6 rows),.v (.int .i64 w.net.now),.v (.bool w.net.fifo),.v (.isl 4 (w.net.l.map eMs)),.v (.isl 1 (w.net.tm.map eI)),.v (.isl 2 (w.net.fates.map eFt)),.v (.int .i64 w.now),.v (.int .i64 w.sent),.v (.isl 3 (w.tr.map ePr))]]::.live 0 6 [(zSA s)]::.live 0 5 [[.v (.int .i64 e.kind),.v (.int .i64 e.peer),.v (.int .i64 e.msg),.v (.int .i64 (CH s w.now)),.v (.isl 2 (e.asg.map eAsg))]]::.live 0 9 [zZA]::.live 0 9 [[.sl (B.length+5) 1 0 w.sv.length,.v (.int .i64 w.net.now),.v (.bool w.net.fifo),.v (.isl 4 (w.net.l.map eMs)),.v (.isl 1 (w.net.tm.map eI)),.v (.isl 2 (w.net.fates.map eFt)),.v (.int .i64 w.now),.v (.int .i64 w.sent),.v (.isl 3 (w.tr.map ePr))]]::.live 1 6 (vs ((w.sv.set p s).map eSv))::.live w.tr.length 3 PC::EV:=by rw[hPC,hEV];exact cU
 rw[hl3]
 clear cU hl3
 have g7:∀(a0 a1 a2 a3 a4 a5 a6:Row) (L:List Row),(a0::a1::a2::a3::a4::a5::a6::L)[7+p]? = L[p]?:=fun _ _ _ _ _ _ _ _=>by rw[show 7+p=p+7 by omega];rfl
 have g7':∀(q:Nat) (a0 a1 a2 a3 a4 a5 a6:Row) (L:List Row),(a0::a1::a2::a3::a4::a5::a6::L)[7+q]? = L[q]?:=fun q _ _ _ _ _ _ _ _=>by rw[show 7+q=q+7 by omega];rfl
 have s7:∀(a0 a1 a2 a3 a4 a5 a6:Row) (L:List Row) (Y:Row),(a0::a1::a2::a3::a4::a5::a6::L).set (7+p) Y=a0::a1::a2::a3::a4::a5::a6::L.set p Y:=fun _ _ _ _ _ _ _ _ _=>by rw[show 7+p=p+7 by omega];rfl
 have hEa:∀R:Row,(EV++[R])[w.tr.length]? = some R:=fun R=>by rw[aq oM,hEl,dy];rfl
 have hEp:∀R:List Row,(EV++R)[p]? = some (.live x.evs.length 5 (vs (x.evs.map eEv))):=fun R=>by rw[aw oM];exact hEg
 have hye:(x.evs.map eEv).length=x.evs.length:=aa _
 have htk:List.take x.evs.length (vs (x.evs.map eEv))=vs (x.evs.map eEv):=bo (by rw[SB,hye];omega)
 have qG:=hS.ne x (by rw[←hx];exact ak YJ)
 have HU:=hS.np
 simp (disch:=first|decide|omega) only[hA,hPg,hEg,g7,s7,hEa,hEp,hPl,hEl,hye,htk,SB,dB,go_sem]
 refine iA (.inr rfl) (xs:=[.agg [.sl (B.length+5) 1 0 w.sv.length,.v (.int .i64 w.net.now),.v (.bool w.net.fifo),.v (.isl 4 (w.net.l.map eMs)),.v (.isl 1 (w.net.tm.map eI)),.v (.isl 2 (w.net.fates.map eFt)),.v (.int .i64 w.now),.v (.int .i64 w.sent),.sl (B.length+6) w.tr.length 0 w.tr.length]]) kR ?_ hR hB ⟨rfl,rfl,rfl⟩
 have e1:(eWd (MG w p s e)).map AV.v=[.v (.isl 6 ((w.sv.set p s).map eSv)),.v (.int .i64 w.net.now),.v (.bool w.net.fifo),.v (.isl 4 (w.net.l.map eMs)),.v (.isl 1 (w.net.tm.map eI)),.v (.isl 2 (w.net.fates.map eFt)),.v (.int .i64 w.now),.v (.int .i64 w.sent),.v (.isl 3 ((EB w.tr p {e with time:=CH s w.now}).map ePr))]:=rfl
 rw[e1]
 refine Dv.aggL (.cons (Dv.slV (i:=5) rfl (by rw[ZNW])) (.cons (.v _) (.cons (.v _) (.cons (.v _) (.cons (.v _) (.cons (.v _) (.cons (.v _) (.cons (.v _) (.cons ?_ .nil)))))))))
 refine Dv.slR (i:=6) rfl (by rw[dh,hPl];omega) (by rw[aa];unfold EB;simp) (fun q r row h1 h2=>?_)
 rw[cn]at h1
 rw[an]at h2
 have hql:q<w.tr.length:=by
  have:=(am.1 h1).1
  rw[dh,hPl]at this;exact this
 by_cases hq:q=p
 ·subst hq
  rw[ay oM]at h1
  rw[kT _ YJ,hx]at h2
  cases h1;cases h2
  refine DvR.cons (.v _) (DvR.cons (.v _) (DvR.cons (Dv.slV (i:=7+q) (rows:=(x.evs++[{e with time:=CH s w.now}]).map eEv) ?_ kS) DvR.nil))
  rw[g7',ay (by rw[ap,hEl];omega),bh]
  rfl
 ·rw[bl (Ne.symm hq),hPC,CB hql]at h1
  rw[yT _ (Ne.symm hq),ah hql]at h2
  cases h1;cases h2
  have hpq:prA w.tr q=w.tr[q]:=YB dfPr w.tr hql
  unfold cpC
  rw[hpq,show B.length+6+(1+q)=B.length+(7+q) by omega]
  refine DvR.cons (.v _) (DvR.cons (.v _) (DvR.cons (Dv.slV (i:=7+q) (rows:=w.tr[q].evs.map eEv) ?_ kS) DvR.nil))
  rw[g7',bl (Ne.symm hq),aw oM,hEV,CB hql]
  unfold cpE
  rw[hpq]
def a_r54recv:AFunc:=({c:=_}:CF Tryz.prog 77).c
theorem gX:qA Tryz.prog 77=some a_r54recv:=by kernel_rfl

theorem VO (w:Wd) (hS:Small w.tr) (tL:SvsS w.sv) (p:Nat) (hp:p<w.sv.length) (YJ:p<w.tr.length) (IB:w.sv.length=w.tr.length) (s:Sv) (k pe ms:Int) (b l:List Row) :
  QA Tryz.prog 76 [.agg ((eWd w).map .v),.v (.int .i64 p),.agg ((eSv s).map .v),.agg [.v (.int .i64 k),.v (.int .i64 pe),.v (.int .i64 ms),.v (.int .i64 0),.v .zsl]] b l (fun r b' l'=>r=.agg ((eWd (MG w p s ⟨k,pe,ms,0,[]⟩)).map .v)∧b'=b∧l'=l):=by
 refine (YM w hS tL p hp YJ IB s ⟨k,pe,ms,0,[]⟩ b l).le rfl (fun i x y hx hy=>?_)
 match i,hx,hy with
 |0,hx,hy=>cases hx;cases hy;exact .refl _
 |1,hx,hy=>cases hx;cases hy;exact .refl _
 |2,hx,hy=>cases hx;cases hy;exact .refl _
 |3,hx,hy =>
   cases hx;cases hy
   refine .agg _ _ rfl (fun j u v hu hv=>?_)
   match j,hu,hv with
   |0,hu,hv=>cases hu;cases hv;exact .refl _
   |1,hu,hv=>cases hu;cases hv;exact .refl _
   |2,hu,hv=>cases hu;cases hv;exact .refl _
   |3,hu,hv=>cases hu;cases hv;exact .refl _
   |4,hu,hv=>cases hu;cases hv;exact .v _ _ (.zsl 2)
theorem AW (w:Wd) (hS:Small w.tr) (hN:Nm w.tr) (tL:SvsS w.sv) (hv:NwV w.net) (p:Nat) (hp:p<w.sv.length) (YJ:p<w.tr.length) (IB:w.sv.length=w.tr.length) (qI:D9 w.sv[p]) (x:In) (hx:0≤x.a∧x.a<w.sv[p].vars.length) (hb:∀m∈w.net.l,0<m.body.length) (b l:List Row) :
  QA Tryz.prog 77 [.agg ((eWd w).map .v),.v (.int .i64 p),.agg [.v (.int .i64 x.op),.v (.int .i64 x.a),.v (.int .i64 x.b)]] b l (fun r b' l'=>r=.tup [.agg ((eWd (MO w p w.sv[p] x)).map .v),.v (.int .i64 0)]∧b'=b∧l'=l):=by
 refine XA gX rfl kE ?_
 intro B g hB hR hE hA;simp only[zA]at hA
 obtain⟨s,hs⟩:∃s,w.sv[p]=s:=⟨_,rfl⟩
 have sL:=fG hp
 have I0:=tL.all w.sv[p] (ak hp)
 rw[hs]at sL hx qI I0⊢
 have hsc:=I0.code
 obtain⟨hp0,hp1⟩:=qI
 have aU:=tL.len
 have nL:∀w:Wd,(eWd w).map AV.v=(zWA w):=fun _=>rfl
 have heS:∀s:Sv,(eSv s).map AV.v=(zSA s):=fun _=>rfl
 have cF:=fun b l=>qZ w.net p (by have:=hv.l;omega) hv.len b l
 have cP0:=fun s k pe ms b l=>VO w hS tL p hp YJ IB s k pe ms b l
 simp only[nL,heS]at cP0
 rw[nL]at hA
 simp (disch:=first|decide|omega) only[a_r54recv,hA,sL,aa,go_sem]
 refine QA.nxt (cF _ _) ?_
 by_cases h1:fiR w.net p<0
 ·have d1:decide (fiR w.net p<0)=true:=ae h1
  obtain⟨W,hW⟩:∃W,MG w p {s with pc:=x.b} ⟨1,0,0,0,[]⟩=W:=⟨_,rfl⟩
  have hr:MO w p s x=W:=by unfold MO;rw[if_pos h1,←hW];rfl
  have cP:=cP0 {s with pc:=x.b} 1 0 0
  rw[hW]at cP
  simp (disch:=first|decide|omega) only[hA,d1,cellsOf,go_sem]
  refine QA.nxt (cP _ _) ?_
  simp (disch:=first|decide|omega) only[hA,cellsOf,go_sem]
  rw[hr,nL]
  exact ZA (xs:=[.agg (zWA W),.v (.int .i64 0)])
 obtain⟨k,hk,OK,_,_⟩:=r9 (n:=w.net) (to:=p) oM
 have NY:=hv.l
 obtain⟨m,hm⟩:∃m,w.net.l[k]=m:=⟨_,rfl⟩
 have hgm:(w.net.l.map eMs)[k]? = some [.int .i64 m.fr,.int .i64 m.to,.int .i64 m.nu,.isl 1 (m.body.map eI)]:=by rw[an,ah OK,hm];rfl
 have hmd:w.net.l.getD (fiR w.net p).toNat dfMs=m:=by rw[hk,ca,YA OK,hm]
 have d1:decide (((k:Nat):Int)<0)=false:=ag oM
 have cFd:=fun b l=>lS w.tr hS hN 3 m.nu b l
 simp only[eT,idA]at cFd
 obtain⟨z,hz⟩:∃z,DB w.tr 3 m.nu=z:=⟨_,rfl⟩
 rw[hz]at cFd
 have cW:=fun b l=>jU w.net hv k OK b l
 simp only[eNw,nwA,bj,cd]at cW
 obtain⟨n2,eW⟩:∃n2,woN w.net k=n2:=⟨_,rfl⟩
 rw[eW]at cW
 rw[hk]
 by_cases h2:0<z.2
 ·have d2:decide ((z.2:Int)>0)=true:=ae oM
  have d3:decide ((0:Int)<(z.2:Int))=true:=d2
  obtain⟨W,hW⟩:∃W,MG w p s ⟨1,0,0,0,[]⟩=W:=⟨_,rfl⟩
  have hr:MO w p s x={W with net:=n2}:=by unfold MO;rw[if_neg h1,hmd,hz,if_pos h2,hk,ca,eW,←hW];rfl
  have cP:=cP0 s 1 0 0
  rw[hW]at cP
  simp (disch:=first|decide|omega) only[hA,d1,hgm,aa,go_sem]
  refine QA.nxt (cFd _ _) ?_
  simp (disch:=first|decide|omega) only[hA,d2,d3,cellsOf,go_sem]
  refine QA.nxt (cP _ _) ?_
  simp (disch:=first|decide|omega) only[hA,cellsOf,go_sem]
  refine QA.nxt (cW _ _) ?_
  simp (disch:=first|decide|omega) only[hA,cellsOf,go_sem]
  rw[hr,nL]
  exact ZA (xs:=[.agg [.v (.isl 6 (W.sv.map eSv)),.v (.int .i64 n2.now),.v (.bool n2.fifo),.v (.isl 4 (n2.l.map eMs)),.v (.isl 1 (n2.tm.map eI)),.v (.isl 2 (n2.fates.map eFt)),.v (.int .i64 W.now),.v (.int .i64 W.sent),.v (.isl 3 (W.tr.map ePr))],.v (.int .i64 0)])
 have d2:decide ((z.2:Int)>0)=false:=ag oM
 have d3:decide ((0:Int)<(z.2:Int))=false:=d2
 obtain⟨i,hi⟩:∃i:Nat,x.a=i:=⟨x.a.toNat,by omega⟩
 have vO:i<s.vars.length:=by omega
 have hmb:0<m.body.length:=hb m (by rw[←hm];exact ak OK)
 obtain⟨v,wO⟩:∃v,m.body.getD 0 0=v:=⟨_,rfl⟩
 have hgb:=IC hmb
 rw[wO]at hgb
 obtain⟨bd,H4⟩:∃bd,m.body.map eI=bd:=⟨_,rfl⟩
 rw[H4]at hgb hgm
 have hbl:bd.length=m.body.length:=by rw[←H4,aa]
 have P9:Int.toNat 0=0:=rfl
 have ZK4:∀h:0<bd.length,bd[0]'h=[.int .i64 v]:=fun h=>by
  rw[ah h,ji]at hgb;exact hgb
 have ZMB:∀h:Int.toNat 0<bd.length,bd[Int.toNat 0]'h=[.int .i64 v]:=fun h=>ZK4 h
 have lR:SvS {s with pc:=s.pc+1}:=⟨I0.name,I0.code,I0.vars⟩
 have cA:=fun b l=>SG {s with pc:=s.pc+1} lR 3 i vO v b l
 obtain⟨s2,aO⟩:∃s2,Sv.put {s with pc:=s.pc+1} i v=s2:=⟨_,rfl⟩
 rw[aO]at cA
 simp only[heS]at cA
 obtain⟨W,hW⟩:∃W,MG w p s2 (CJ 3 m.fr m.nu i v)=W:=⟨_,rfl⟩
 have cP:∀b l,QA Tryz.prog 76 [.agg ((eWd w).map .v),.v (.int .i64 p),.agg ((eSv s2).map .v),.agg [.v (.int .i64 3),.v (.int .i64 m.fr),.v (.int .i64 m.nu),.v (.int .i64 0),.v (.isl 2 [[.int .i64 i,.int .i64 v]])]] b l (fun r b' l'=>r=.agg ((eWd W).map .v)∧b'=b∧l'=l):=fun b l=>by
  rw[←hW]
  exact YM w hS tL p hp YJ IB s2 (CJ 3 m.fr m.nu i v) b l
 simp only[nL,heS]at cP
 have hr:MO w p s x={W with net:=n2}:=by
  unfold MO
  rw[if_neg h1,hmd,hz,if_neg h2,hk,ca,eW,hi,ca,wO,aO,hW]
 simp (disch:=first|decide|omega) only[hA,d1,hgm,aa,go_sem]
 refine QA.nxt (cFd _ _) ?_
 simp (disch:=first|decide|omega) only[hA,d2,d3,hi,hgb,ZK4,ZMB,hbl,P9,aa,go_sem]
 refine QA.nxt (cA _ _) ?_
 simp (disch:=first|decide|omega) only[hA,hi,hgb,ZK4,ZMB,hbl,P9,cellsOf,go_sem]
 refine QA.nxt (cP _ _) ?_
 simp (disch:=first|decide|omega) only[hA,cellsOf,go_sem]
 refine QA.nxt (cW _ _) ?_
 simp (disch:=first|decide|omega) only[hA,cellsOf,go_sem]
 rw[hr,nL]
 exact ZA (xs:=[.agg [.v (.isl 6 (W.sv.map eSv)),.v (.int .i64 n2.now),.v (.bool n2.fifo),.v (.isl 4 (n2.l.map eMs)),.v (.isl 1 (n2.tm.map eI)),.v (.isl 2 (n2.fates.map eFt)),.v (.int .i64 W.now),.v (.int .i64 W.sent),.v (.isl 3 (W.tr.map ePr))],.v (.int .i64 0)])
set_option maxHeartbeats 16000000
set_option maxRecDepth 100000
def a_r54Step:AFunc:=({c:=_}:CF Tryz.prog 27).c
theorem iX:qA Tryz.prog 27=some a_r54Step:=by kernel_rfl

theorem QX (w:Wd) (hS:Small w.tr) (hN:Nm w.tr) (tL:SvsS w.sv) (hv:NwV w.net) (p:Nat) (hp:p<w.sv.length) (YJ:p<w.tr.length) (IB:w.sv.length=w.tr.length) (qI:D9 w.sv[p]) (k:Nat) (hk:w.sv[p].pc=k) (OK:k<w.sv[p].code.length) (x:In) (hx:w.sv[p].code[k]=x) (zE:JE w.sv[p].vars.length w.sv[p].code.length p w.sv.length x=true) (hb:∀m∈w.net.l,0<m.body.length) (bU:∀v∈w.sv[p].vars,vlB v=true) (S0:0≤w.sent∧w.sent≤1000) (b l:List Row) :
  QA Tryz.prog 27 [.agg ((eWd w).map .v),.v (.int .i64 p)] b l (fun r b' l'=>r=.tup [.agg ((eWd (stI w p w.sv[p] x).1).map .v),.v (.int .i64 (stI w p w.sv[p] x).2)]∧b'=b∧l'=l):=by
 refine XA iX rfl kE ?_
 intro B g hB hR hE hA;simp only[zA]at hA
 obtain⟨s,hs⟩:∃s,w.sv[p]=s:=⟨_,rfl⟩
 have sL:=fG hp
 have I0:=tL.all w.sv[p] (ak hp)
 have cR:=fun ha=>AW w hS hN tL hv p hp YJ IB qI x ha hb
 simp only[hs]at bU sL I0 qI hk OK hx zE cR⊢
 have aU:=tL.len
 have hsc:=I0.code
 have QI:=fI OK
 rw[hx]at QI
 have nL:∀w:Wd,(eWd w).map AV.v=(zWA w):=fun _=>rfl
 have heS:∀s:Sv,(eSv s).map AV.v=(zSA s):=fun _=>rfl
 have cP0:=fun s k pe ms b l=>VO w hS tL p hp YJ IB s k pe ms b l
 have cP:=fun s e b l=>YM w hS tL p hp YJ IB s e b l
 simp only[nL,heS]at cP0 cP cR
 rw[nL]at hA
 have hk1:((k:Nat):Int)+1=((k+1:Nat):Int):=by omega
 have lR:∀c:Int,SvS {s with pc:=c}:=fun c=>⟨I0.name,I0.code,I0.vars⟩
 by_cases o1:x.op=1
 ·have d1:(x.op==1)=true:=by simpa using o1
  unfold JE at zE
  rw[if_pos (.inl o1)]at zE
  unfold inZ at zE
  simp only[ar,bf]at zE
  obtain⟨i,hi⟩:∃i:Nat,x.a=i:=⟨x.a.toNat,by omega⟩
  have vO:i<s.vars.length:=by omega
  have cA:=fun b l=>SG {s with pc:=s.pc+1} (lR _) 1 i vO x.b b l
  obtain⟨s2,aO⟩:∃s2,Sv.put {s with pc:=s.pc+1} i x.b=s2:=⟨_,rfl⟩
  rw[aO]at cA
  simp only[heS]at cA
  obtain⟨W,hW⟩:∃W,MG w p s2 (CJ 1 0 0 i x.b)=W:=⟨_,rfl⟩
  have cP1:=cP s2 (CJ 1 0 0 i x.b)
  rw[hW]at cP1
  simp only[CJ,eAsg,bj,cd]at cP1
  have hr:stI w p s x=(W,0):=by unfold stI;rw[if_pos o1,hi,ca,aO,hW]
  rw[hk]at cA
  simp (disch:=first|decide|omega) only[a_r54Step,hA,sL,hk,QI,hi,d1,aa,go_sem]
  refine QA.nxt (cA _ _) ?_
  simp (disch:=first|decide|omega) only[hA,cellsOf,go_sem]
  refine QA.nxt (cP1 _ _) ?_
  simp (disch:=first|decide|omega) only[hA,cellsOf,go_sem]
  rw[hr,nL]
  exact ZA (xs:=[.agg (zWA W),.v (.int .i64 0)])
 have d1:(x.op==1)=false:=by simpa using o1
 by_cases o4:x.op=4∨x.op=5
 ·have d2:(x.op==2)=false:=by simp;omega
  have d3:(x.op==3)=false:=by simp;omega
  have d6:(x.op==6)=false:=by simp;omega
  have ha:0≤x.a∧x.a<s.vars.length:=by
   unfold JE at zE
   rcases o4 with o|o<;>simp[o,inZ]at zE<;>omega
  have cR1:=fun b l=>cR ha b l
  obtain⟨W,hW⟩:∃W,MO w p s x=W:=⟨_,rfl⟩
  rw[hW]at cR1
  have hr:stI w p s x=(W,0):=by unfold stI;rw[if_neg o1,if_neg oM,if_neg oM,if_neg oM,if_pos o4,hW]
  by_cases o44:x.op=4
  ·have d4:(x.op==4)=true:=by simpa using o44
   simp (disch:=first|decide|omega) only[a_r54Step,hA,sL,hk,QI,d1,d2,d3,d4,d6,aa,go_sem]
   refine QA.nxt (cR1 _ _) ?_
   simp (disch:=first|decide|omega) only[hA,cellsOf,go_sem]
   rw[hr,nL]
   exact ZA (xs:=[.agg (zWA W),.v (.int .i64 0)])
  ·have d4:(x.op==4)=false:=by simpa using o44
   have d5:(x.op==5)=true:=by simp;omega
   simp (disch:=first|decide|omega) only[a_r54Step,hA,sL,hk,QI,d1,d2,d3,d4,d5,d6,aa,go_sem]
   refine QA.nxt (cR1 _ _) ?_
   simp (disch:=first|decide|omega) only[hA,cellsOf,go_sem]
   rw[hr,nL]
   exact ZA (xs:=[.agg (zWA W),.v (.int .i64 0)])
 by_cases o7:x.op≠2∧x.op≠3∧x.op≠6
 ·have d2:(x.op==2)=false:=by simp;omega
  have d3:(x.op==3)=false:=by simp;omega
  have d6:(x.op==6)=false:=by simp;omega
  have d4:(x.op==4)=false:=by simp;omega
  have d5:(x.op==5)=false:=by simp;omega
  obtain⟨W,hW⟩:∃W,MG w p {s with pc:=s.pc+1} ⟨1,0,0,0,[]⟩=W:=⟨_,rfl⟩
  have cP1:=cP0 {s with pc:=s.pc+1} 1 0 0
  rw[hW]at cP1
  have hr:stI w p s x=(W,0):=by unfold stI;rw[if_neg o1,if_neg oM,if_neg oM,if_neg oM,if_neg o4,←hW];rfl
  simp only[hk]at cP1
  simp (disch:=first|decide|omega) only[a_r54Step,hA,sL,hk,QI,d1,d2,d3,d4,d5,d6,aa,go_sem]
  refine QA.nxt (cP1 _ _) ?_
  simp (disch:=first|decide|omega) only[hA,cellsOf,go_sem]
  rw[hr,nL]
  exact ZA (xs:=[.agg (zWA W),.v (.int .i64 0)])
 by_cases o6:x.op=6
 ·have d2:(x.op==2)=false:=by simp;omega
  have d6:(x.op==6)=true:=by simpa using o6
  unfold JE at zE
  rw[if_neg oM,if_neg oM,if_neg oM,if_neg oM,if_pos o6]at zE
  unfold inZ at zE
  simp only[ar,bf]at zE
  obtain⟨i,hi⟩:∃i:Nat,x.b=i:=⟨x.b.toNat,by omega⟩
  have vO:i<s.vars.length:=by omega
  have IU:=IC vO
  obtain⟨v,wO⟩:∃v,s.vars.getD i 0=v:=⟨_,rfl⟩
  have hvb:-1073741824≤v∧v≤1073741824:=by
   have:=bU s.vars[i] (ak vO)
   rw[←YA (d:=0) vO,wO]at this
   unfold vlB at this
   simpa using this
  rw[wO]at IU
  by_cases h0:0<v
  ·have e0:decide (v>0)=true:=ae oM
   have e1:decide (0<v)=true:=e0
   have cA:=fun b l=>SG {s with pc:=s.pc+1} (lR _) 1 i vO (v-1) b l
   obtain⟨s2,aO⟩:∃s2,Sv.put {s with pc:=x.a} i (v-1)=s2:=⟨_,rfl⟩
   obtain⟨W,hW⟩:∃W,MG w p s2 (CJ 1 0 0 i (v-1))=W:=⟨_,rfl⟩
   have cP1:=cP s2 (CJ 1 0 0 i (v-1))
   rw[hW]at cP1
   simp only[CJ,eAsg,bj,cd]at cP1
   have hr:stI w p s x=(W,0):=by unfold stI;rw[if_neg o1,if_neg oM,if_pos o6,hi,ca,wO,if_pos h0,aO,hW]
   have hsp:∀c:Int,Sv.put {s with pc:=c} i (v-1)={s2 with pc:=c}:=fun c=>by rw[←aO];rfl
   have hsa:s2.pc=x.a:=by rw[←aO];rfl
   simp only[hsp,heS,hk]at cA
   simp only[zSA,hsa]at cP1
   simp (disch:=first|decide|omega) only[a_r54Step,hA,sL,hk,QI,hi,IU,d1,d2,d6,e0,e1,aa,go_sem]
   refine QA.nxt (cA _ _) ?_
   simp (disch:=first|decide|omega) only[hA,cellsOf,go_sem]
   refine QA.nxt (cP1 _ _) ?_
   simp (disch:=first|decide|omega) only[hA,cellsOf,go_sem]
   rw[hr,nL]
   exact ZA (xs:=[.agg (zWA W),.v (.int .i64 0)])
  ·have e0:decide (v>0)=false:=ag oM
   have e1:decide (0<v)=false:=e0
   obtain⟨W,hW⟩:∃W,MG w p {s with pc:=s.pc+1} ⟨1,0,0,0,[]⟩=W:=⟨_,rfl⟩
   have cP1:=cP0 {s with pc:=s.pc+1} 1 0 0
   rw[hW]at cP1
   have hr:stI w p s x=(W,0):=by unfold stI;rw[if_neg o1,if_neg oM,if_pos o6,hi,ca,wO,if_neg h0,←hW];rfl
   simp only[hk]at cP1
   simp (disch:=first|decide|omega) only[a_r54Step,hA,sL,hk,QI,hi,IU,d1,d2,d6,e0,e1,aa,go_sem]
   refine QA.nxt (cP1 _ _) ?_
   simp (disch:=first|decide|omega) only[hA,cellsOf,go_sem]
   rw[hr,nL]
   exact ZA (xs:=[.agg (zWA W),.v (.int .i64 0)])
 have d6:(x.op==6)=false:=by simpa using o6
 by_cases o2:x.op=2
 ·have d2:(x.op==2)=true:=by simpa using o2
  unfold JE at zE
  rw[if_pos (.inr o2)]at zE
  unfold inZ vlB at zE
  simp only[ar,bf]at zE
  obtain⟨i,hi⟩:∃i:Nat,x.a=i:=⟨x.a.toNat,by omega⟩
  have vO:i<s.vars.length:=by omega
  have IU:=IC vO
  obtain⟨u,huu⟩:∃u,s.vars.getD i 0=u:=⟨_,rfl⟩
  have hub:-1073741824≤u∧u≤1073741824:=by
   have:=bU s.vars[i] (ak vO)
   rw[←YA (d:=0) vO,huu]at this
   unfold vlB at this
   simpa using this
  rw[huu]at IU
  have hxb:-1073741824≤x.b∧x.b≤1073741824:=by omega
  have I8:IntKind.i64.wrap (u+x.b)=u+x.b:=pA oM oM
  obtain⟨v,wO⟩:∃v,u+x.b=v:=⟨_,rfl⟩
  rw[wO]at I8
  have cB:=fun b l=>rJ v b l
  cases hq:vlB v
  ·have hr:stI w p s x=(wd0,9):=by unfold stI;rw[if_neg o1,if_pos o2,hi,ca,huu,wO,if_neg (by rw[hq];simp)]
   rw[hq]at cB
   simp (disch:=first|decide|omega) only[a_r54Step,hA,sL,hk,QI,hi,IU,d1,d2,wO,I8,aa,go_sem]
   refine QA.nxt (cB _ _) ?_
   simp (disch:=first|decide|omega) only[hA,cellsOf,go_sem]
   rw[hr]
   refine iA (.inr rfl) (xs:=[.agg zZA,.v (.int .i64 9)]) kR ?_ hR hB ⟨rfl,rfl,rfl⟩
   exact Dv.tupL (.cons (Dv.aggL (.cons (.z 6) (.cons (.v _) (.cons (.v _) (.cons (.z 4) (.cons (.z 1) (.cons (.z 2) (.cons (.v _) (.cons (.v _) (.cons (.z 3) .nil)))))))))) (.cons (.v _) .nil))
  ·have cA:=fun b l=>SG {s with pc:=s.pc+1} (lR _) 1 i vO v b l
   obtain⟨s2,aO⟩:∃s2,Sv.put {s with pc:=s.pc+1} i v=s2:=⟨_,rfl⟩
   rw[aO]at cA
   simp only[heS,hk]at cA
   obtain⟨W,hW⟩:∃W,MG w p s2 (CJ 1 0 0 i v)=W:=⟨_,rfl⟩
   have cP1:=cP s2 (CJ 1 0 0 i v)
   rw[hW]at cP1
   simp only[CJ,eAsg,bj,cd]at cP1
   have hr:stI w p s x=(W,0):=by unfold stI;rw[if_neg o1,if_pos o2,hi,ca,huu,wO,if_pos hq,aO,hW]
   rw[hq]at cB
   simp (disch:=first|decide|omega) only[a_r54Step,hA,sL,hk,QI,hi,IU,d1,d2,wO,I8,aa,go_sem]
   refine QA.nxt (cB _ _) ?_
   simp (disch:=first|decide|omega) only[hA,cellsOf,go_sem]
   refine QA.nxt (cA _ _) ?_
   simp (disch:=first|decide|omega) only[hA,cellsOf,go_sem]
   refine QA.nxt (cP1 _ _) ?_
   simp (disch:=first|decide|omega) only[hA,cellsOf,go_sem]
   rw[hr,nL]
   exact ZA (xs:=[.agg (zWA W),.v (.int .i64 0)])
 have d2:(x.op==2)=false:=by simpa using o2
 have o3:x.op=3:=by omega
 have d3:(x.op==3)=true:=by simpa using o3
 unfold JE at zE
 rw[if_neg oM,if_pos o3]at zE
 unfold inZ at zE
 simp only[ar,bf]at zE
 obtain⟨i,hi⟩:∃i:Nat,x.a=i:=⟨x.a.toNat,by omega⟩
 have vO:i<s.vars.length:=by omega
 have IU:=IC vO
 obtain⟨u,huu⟩:∃u,s.vars.getD i 0=u:=⟨_,rfl⟩
 rw[huu]at IU
 obtain⟨m,hm⟩:∃m:Ms,m=⟨p,x.b,w.sent,[u]⟩:=⟨_,rfl⟩
 have hms:jH w p s x=m:=by unfold jH;rw[hi,ca,huu,hm]
 have cS:∀b l,QA Tryz.prog 75 [.agg ((eNw w.net).map .v),.agg [.v (.int .i64 p),.v (.int .i64 x.b),.v (.int .i64 w.sent),.v (.isl 1 [[.int .i64 u]])]] b l (fun r b' l'=>r=.tup [nwA (sdR w.net m),.v (.int .i64 (sdE w.net m))]∧b'=b∧l'=l):=fun b l=>by
  have:=O5 w.net hv m (by rw[hm];simp) b l
  rw[hm]at this⊢
  exact this
 obtain⟨n2,eW⟩:∃n2,sdR w.net m=n2:=⟨_,rfl⟩
 obtain⟨er,her⟩:∃er,sdE w.net m=er:=⟨_,rfl⟩
 rw[eW,her]at cS
 simp only[eNw,nwA,bj,cd]at cS
 have yH:∀h:i<s.vars.length,eI (s.vars[i]'h)=[.int .i64 u]:=fun h=>by rw[←huu,YA h];rfl
 simp (disch:=first|decide|omega) only[a_r54Step,hA,sL,hk,QI,hi,IU,d1,d2,d3,d6,aa,go_sem]
 refine QA.frzB (i:=5) (ver:=0) (sz:=1) (rows:=[[.int .i64 u]]) (args':=[.agg [.v (.int .i64 w.net.now),.v (.bool w.net.fifo),.v (.isl 4 (w.net.l.map eMs)),.v (.isl 1 (w.net.tm.map eI)),.v (.isl 2 (w.net.fates.map eFt))],.agg [.v (.int .i64 p),.v (.int .i64 x.b),.v (.int .i64 w.sent),.v (.isl 1 [[.int .i64 u]])]]) rfl (by simp[frz,ZE]) ?_
 refine QA.nxt (cS _ _) ?_
 by_cases he:er=0
 ·have e0:(er != 0)=false:=by simpa using he
  obtain⟨W,hW⟩:∃W,MG w p {s with pc:=s.pc+1} ⟨2,x.b,w.sent,0,[]⟩=W:=⟨_,rfl⟩
  have cP1:=cP0 {s with pc:=s.pc+1} 2 x.b w.sent
  rw[hW]at cP1
  simp only[hk]at cP1
  have hWs:W.sent=w.sent:=by rw[←hW];rfl
  have hr:stI w p s x=({W with net:=n2,sent:=w.sent+1},0):=by
   unfold stI;rw[if_neg o1,if_neg o2,if_neg o6,if_pos o3,hms,her,if_pos he,eW,hW]
  simp (disch:=first|decide|omega) only[hA,e0,yH,hi,aa,go_sem]
  refine QA.nxt (cP1 _ _) ?_
  simp (disch:=first|decide|omega) only[hA,hWs,cellsOf,go_sem]
  rw[hr,nL]
  exact ZA (xs:=[.agg [.v (.isl 6 (W.sv.map eSv)),.v (.int .i64 n2.now),.v (.bool n2.fifo),.v (.isl 4 (n2.l.map eMs)),.v (.isl 1 (n2.tm.map eI)),.v (.isl 2 (n2.fates.map eFt)),.v (.int .i64 W.now),.v (.int .i64 (w.sent+1)),.v (.isl 3 (W.tr.map ePr))],.v (.int .i64 0)])
 ·have e0:(er != 0)=true:=by simpa using he
  have hr:stI w p s x=(wd0,er):=by
   unfold stI;rw[if_neg o1,if_neg o2,if_neg o6,if_pos o3,hms,her,if_neg he]
  simp (disch:=first|decide|omega) only[hA,e0,yH,hi,aa,go_sem]
  rw[hr]
  refine iA (.inr rfl) (xs:=[.agg zZA,.v (.int .i64 er)]) kR ?_ hR hB ⟨rfl,rfl,rfl⟩
  exact Dv.tupL (.cons (Dv.aggL (.cons (.z 6) (.cons (.v _) (.cons (.v _) (.cons (.z 4) (.cons (.z 1) (.cons (.z 2) (.cons (.v _) (.cons (.v _) (.cons (.z 3) .nil)))))))))) (.cons (.v _) .nil))
def a_rTick:AFunc:=({c:=_}:CF Tryz.prog 15).c
theorem M7:qA Tryz.prog 15=some a_rTick:=by kernel_rfl
def a_rRun:AFunc:=({c:=_}:CF Tryz.prog 17).c
theorem ZCR:qA Tryz.prog 17=some a_rRun:=by kernel_rfl
def eX:List (Nat×Nat):=[(5,11),(16,63)]
def a_wRun:AFunc:=({c:=_}:CF Tryz.prog 12).c
theorem ZCN:qA Tryz.prog 12=some a_wRun:=by kernel_rfl
def ZAN:List (Nat×Nat):=[(5,5),(7,8),(21,44)]

theorem A9 {n:Nat} {l:List Row} (e:Bool):Dv n l (.tup [.agg zZA,.v (.bool e)]) (.tup [.agg ((eWd wd0).map .v),.v (.bool e)]):=
 Dv.tupL (.cons (Dv.aggL (.cons (.z 6) (.cons (.v _) (.cons (.v _) (.cons (.z 4) (.cons (.z 1) (.cons (.z 2) (.cons (.v _) (.cons (.v _) (.cons (.z 3) .nil)))))))))) (.cons (.v _) .nil))
def mY (w:Wd) (k:Int):Bool:=decide ((0≤k∧k≤1000000)∧w.now+k≤1000000000)
theorem mS (w:Wd) (hn:0≤w.now∧w.now≤1000000000) (k:Int) (b l:List Row):QA Tryz.prog 15 [.agg ((eWd w).map .v),.v (.int .i64 k)] b l (fun r b' l'=>r=.tup [.agg ((eWd (if mY w k=true then tkW w k else wd0)).map .v),.v (.bool (mY w k))]∧b'=b∧l'=l):=by
 refine XA M7 rfl kE ?_
 intro B g hB hR hE hA;simp only[zA]at hA
 rw[TA]at hA
 simp (disch:=first|decide|omega) only[a_rTick,hA,cellsOf,go_sem]
 refine QA.nxt (LB _ _ _ _ _) ?_
 cases t2:inZ k 0 1000000
 ·have hr:mY w k=false:=by
   unfold inZ at t2
   have:=fx t2
   unfold mY;exact ag (fun h=>this h.1)
  rw[hr,if_neg kS]
  simp (disch:=first|decide|omega) only[hA,cellsOf,go_sem]
  exact iA (.inr rfl) (xs:=[.agg zZA,.v (.bool false)]) kR (A9 false) hR hB ⟨rfl,rfl,rfl⟩
 unfold inZ at t2
 have h2:=gg t2
 have I8:IntKind.i64.wrap (w.now+k)=w.now+k:=pA oM oM
 by_cases h3:w.now+k≤1000000000
 case neg =>
  have d3:decide (w.now+k>1000000000)=true:=ae oM
  have d3':decide (1000000000<w.now+k)=true:=d3
  have hr:mY w k=false:=by unfold mY;exact ag (fun h=>h3 h.2)
  rw[hr,if_neg kS]
  simp (disch:=first|decide|omega) only[hA,I8,d3,d3',cellsOf,go_sem]
  exact iA (.inr rfl) (xs:=[.agg zZA,.v (.bool false)]) kR (A9 false) hR hB ⟨rfl,rfl,rfl⟩
 have d3:decide (w.now+k>1000000000)=false:=ag oM
 have d3':decide (1000000000<w.now+k)=false:=d3
 have hr:mY w k=true:=by unfold mY;exact ae ⟨h2,h3⟩
 rw[hr,if_pos rfl]
 simp (disch:=first|decide|omega) only[hA,I8,d3,d3',cellsOf,go_sem]
 rw[TA]
 exact ZA (xs:=[.agg [.v (.isl 6 (w.sv.map eSv)),.v (.int .i64 (w.now+k)),.v (.bool w.net.fifo),.v (.isl 4 (w.net.l.map eMs)),.v (.isl 1 (w.net.tm.map eI)),.v (.isl 2 (w.net.fates.map eFt)),.v (.int .i64 (w.now+k)),.v (.int .i64 w.sent),.v (.isl 3 (w.tr.map ePr))],.v (.bool true)])
theorem xU (w:Wd) (hw:WdV w) (p:Nat) (hp:p<w.sv.length) (hen:rF w p=true) (b l:List Row) :
  QA Tryz.prog 27 [.agg ((eWd w).map .v),.v (.int .i64 p)] b l (fun r b' l'=>r=.tup [.agg ((eWd (stW w p).1).map .v),.v (.int .i64 (stW w p).2)]∧b'=b∧l'=l):=by
 obtain⟨k,hk,OK,hki,h8,zE⟩:=ZAs hw hp hen
 have UU:=(IH hw.sv hp).1
 have ZF:stW w p=stI w p (w.sv.getD p dfSv) ((w.sv.getD p dfSv).code.getD (w.sv.getD p dfSv).pc.toNat fN):=rfl
 rw[hki]at ZF
 have hg:w.sv.getD p dfSv=w.sv[p]:=YA hp
 rw[hg]at hk OK zE UU ZF
 have YJ:p<w.tr.length:=by rw[hw.len];exact hp
 have S0:=hw.sent
 rw[ZF]
 exact QX w hw.small hw.nm hw.svS hw.net p hp YJ hw.len.symm UU.pc k hk OK (w.sv[p].code.getD k fN) (YA OK).symm zE (fun m hm=>by have:=(NX hw.tr (hw.msg m hm)).1;omega) UU.vs oM b l
noncomputable def kJ (w:Wd) (x:Int):Wd×Int:=if 0≤x then PL w x else aJ w (-x)
noncomputable def vN (w:Wd):List Int→Wd×Int
 |[]=>(w,0)
 |x::r=>if (kJ w x).2=0 then vN (kJ w x).1 r else (wd0,(kJ w x).2)
theorem dP {w:Wd} (hw:WdV w) {x:Int} (h:(kJ w x).2=0):WdV (kJ w x).1:=by
 unfold kJ at h⊢
 split at h<;>rename_i h1
 ·rw[if_pos h1]
  unfold PL at h⊢
  rw[if_pos hw.to]at h⊢
  split at h<;>rename_i h2
  ·cases h
  rw[if_neg h2]
  split at h<;>rename_i h3
  ·rw[if_pos h3]
   exact xO hw oM h3 h
  ·cases h
 ·rw[if_neg h1]
  unfold aJ at h⊢
  rw[if_pos hw.to]at h⊢
  split at h<;>rename_i h2
  ·rw[if_pos h2];exact Z1 hw ⟨h2.1.1,h2.2⟩
  ·cases h
theorem ZGs {w:Wd} {x:Int} (h:(kJ w x).2≠0):(kJ w x).1=wd0:=by
 unfold kJ at h⊢
 split at h<;>rename_i h1
 ·rw[if_pos h1]
  unfold PL at h⊢
  split at h<;>rename_i h2
  ·rw[if_pos h2]
   split at h<;>rename_i h3
   ·rw[if_pos h3]
   rw[if_neg h3]
   split at h<;>rename_i h4
   ·rw[if_pos h4];exact ZEy h
   ·rw[if_neg h4]
  ·rw[if_neg h2]
 ·rw[if_neg h1]
  unfold aJ at h⊢
  split at h<;>rename_i h2
  ·rw[if_pos h2]
   split at h<;>rename_i h3
   ·exact absurd rfl h
   ·rw[if_neg h3]
  ·rw[if_neg h2]
theorem ZG8 {w:Wd} {x:Int} (h0:x<0) (h1:-9223372036854775808≤x):aJ w (IntKind.i64.wrap (-x))=aJ w (-x):=by
 by_cases h:x=-9223372036854775808
 ·subst h
  have e1:IntKind.i64.wrap (-(-9223372036854775808))=-9223372036854775808:=by decide
  rw[e1]
  unfold aJ
  rw[if_neg (by omega:¬((0≤(-9223372036854775808:Int)∧(-9223372036854775808:Int)≤1000000)∧w.now+-9223372036854775808≤1000000000)),if_neg (by omega:¬((0≤(-(-9223372036854775808):Int)∧(-(-9223372036854775808):Int)≤1000000)∧w.now+-(-9223372036854775808)≤1000000000))]
 ·rw[pA oM oM]
theorem jW {α:Type} {l:List α} {i:Nat} (h:i<l.length):l.drop i=l[i]::l.drop (i+1):=List.drop_eq_getElem_cons h
noncomputable def iM (w:Wd) (order:List Int):Wd×Int:=if wdB w=true then (if 1000<order.length then (wd0,5) else vN w order) else (wd0,1)
theorem uV (w:Wd) (hS:Sm w.tr) (hN:Nm w.tr) (tL:SvsS w.sv) (N0:NwS w.net) (order:List Int) (hol:order.length≤1000000) (ho:∀x∈order,-9223372036854775808≤x) (b l:List Row):QA Tryz.prog 12 [.agg ((eWd w).map .v),.v (.isl 1 (order.map eI))] b l (fun r b' l'=>r=.tup [.agg ((eWd (iM w order).1).map .v),.v (.int .i64 (iM w order).2)]∧b'=b∧l'=l):=by
 refine XA ZCN rfl kE ?_
 intro B g hB hR hE hA;simp only[zA]at hA
 have cV:=fun b l=>aH w hS hN tL N0 b l
 rw[TA]at hA cV
 simp (disch:=first|decide|omega) only[a_wRun,hA,cellsOf,go_sem]
 refine QA.nxt (cV _ _) ?_
 cases t1:wdB w
 ·have hr:iM w order=(wd0,1):=by unfold iM;rw[if_neg (by rw[t1];simp)]
  rw[hr]
  simp (disch:=first|decide|omega) only[hA,cellsOf,go_sem]
  exact iA (.inr rfl) (xs:=[.agg zZA,.v (.int .i64 1)]) kR (pE 1) hR hB ⟨rfl,rfl,rfl⟩
 have hw:=WdV.of t1
 by_cases h2:1000<order.length
 ·have d2:decide ((order.length:Int)>1000)=true:=ae oM
  have d2':decide ((1000:Int)<(order.length:Int))=true:=d2
  have hr:iM w order=(wd0,5):=by unfold iM;rw[if_pos t1,if_pos h2]
  rw[hr]
  simp (disch:=first|decide|omega) only[hA,d2,d2',aa,go_sem]
  exact iA (.inr rfl) (xs:=[.agg zZA,.v (.int .i64 5)]) kR (pE 5) hR hB ⟨rfl,rfl,rfl⟩
 have d2:decide ((order.length:Int)>1000)=false:=ag oM
 have d2':decide ((1000:Int)<(order.length:Int))=false:=d2
 have hr:iM w order=vN w order:=by unfold iM;rw[if_pos t1,if_neg h2]
 rw[hr]
 have cC:=fun b l=>fK w tL hw.small N0 (by have:=(LP hw.sv).1;omega) hw.tr.lo b l
 rw[TA]at cC
 simp (disch:=first|decide|omega) only[hA,d2,d2',aa,go_sem]
 refine QA.nxt (cC _ _) ?_
 simp (disch:=first|decide|omega) only[hA,aa,go_sem]
 refine JA (ι:=Nat×Wd) ZAN (fun z=>[(21,.v (.int .i64 z.1))]) 2 (fun z=>[.live 0 9 [(eWd z.2).map .v],.live 0 9 [zZA]])
  (fun z=>z.1≤order.length∧WdV z.2∧vN w order=vN z.2 (order.drop z.1)) (fun z=>order.length-z.1) (0,w) ⟨aj _,hw,by rw[gu]⟩ kM kA kF ?_
 rintro g1 qF TE sA ⟨i,W⟩ ⟨hi,hW,nR⟩
 simp only at hi hW nR⊢
 by_cases yA:i<order.length
 ·have G4:=IC yA
  obtain⟨x,hx⟩:∃x,order[i]=x:=⟨_,rfl⟩
  rw[YA yA,hx]at G4
  have hxm:-9223372036854775808≤x:=by rw[←hx];exact ho _ (ak yA)
  rw[jW yA,hx]at nR
  rw[nR]
  rw[TA]
  obtain⟨y,hy⟩:∃y,kJ W x=y:=⟨_,rfl⟩
  have hrr:vN W (x::order.drop (i+1))=if y.2=0 then vN y.1 (order.drop (i+1)) else (wd0,y.2):=by show (if (kJ W x).2=0 then vN (kJ W x).1 _ else _)=_;rw[hy]
  have hye:y.2=0→WdV y.1:=fun h=>by rw[←hy]at h⊢;exact dP hW h
  have hy0:y.2≠0→y.1=wd0:=fun h=>by rw[←hy]at h⊢;exact ZGs h
  have cS:=fun b l=>l5 W hW.small.sm hW.nm hW.svS hW.net.s x b l
  have cT:=fun b l=>vS W hW.small.sm hW.nm hW.svS hW.net.s (IntKind.i64.wrap (0-x)) b l
  rw[TA]at cS cT
  by_cases h0:0≤x
  case' pos =>
   have d0:decide (x≥0)=true:=ae h0
   have d0':decide (0≤x)=true:=d0
   have hyo:PL W x=y:=by rw[←hy];unfold kJ;rw[if_pos h0]
   rw[hyo,TA]at cS
   simp (disch:=first|decide|omega) only[hA,sA,G4,d0,d0',aa,go_sem]
   refine QA.nxt (cS _ _) ?_
  case' neg =>
   have d0:decide (x≥0)=false:=ag h0
   have d0':decide (0≤x)=false:=d0
   have hyo:aJ W (IntKind.i64.wrap (0-x))=y:=by rw[Int.zero_sub,ZG8 oM hxm,←hy];unfold kJ;rw[if_neg h0]
   rw[hyo,TA]at cT
   simp (disch:=first|decide|omega) only[hA,sA,G4,d0,d0',aa,go_sem]
   refine QA.nxt (cT _ _) ?_
  all_goals
   by_cases he:y.2=0
   ·have e0:(y.2 != 0)=false:=by rw[he];rfl
    have ZK5:=hrr
    rw[if_pos he]at ZK5
    have hWy:=hye he
    rw[ZK5]
    simp (disch:=first|decide|omega) only[hA,sA,e0,aa,go_sem]
    refine⟨(i+1,y.1),⟨yA,hWy,by rw[←ZK5,←nR]⟩,by simp only;omega,?_⟩
    simp only[TA]
    exact VA.kround (p:=ZAN) (k:=2) kQ kA rfl qF kS kV hR kL
   ·have e0:(y.2 != 0)=true:=bne_iff_ne.2 he
    rw[if_neg he]at hrr
    rw[hrr]
    simp (disch:=first|decide|omega) only[hA,sA,e0,aa,go_sem]
    exact iA (.inr rfl) (xs:=[.agg zZA,.v (.int .i64 y.2)]) kR (pE y.2) hR hB ⟨rfl,rfl,rfl⟩
 ·obtain rfl:i=order.length:=by omega
  have hrn:vN w order=(W,0):=by rw[nR,List.drop_length];rfl
  rw[hrn,TA]
  simp (disch:=first|decide|omega) only[hA,sA,aa,go_sem]
  exact ZA (xs:=[.agg (zWA W),.v (.int .i64 0)])
theorem ZBV (w:Wd) (hw:WdV w) (order:List Int) (hol:order.length≤1000000) (ho:∀x∈order,-9223372036854775808≤x) (b l:List Row):QA Tryz.prog 17 [.agg ((eWd w).map .v),.v (.isl 1 (order.map eI))] b l (fun r b' l'=>r=.tup [.agg ((eWd (iM w order).1).map .v),.v (.int .i64 (iM w order).2)]∧b'=b∧l'=l):=by
 refine XA ZCR rfl kE ?_
 intro B g hB hR hE hA;simp only[zA]at hA
 rw[TA]at hA
 by_cases h2:1000<order.length
 ·have d2:decide ((order.length:Int)>1000)=true:=ae oM
  have d2':decide ((1000:Int)<(order.length:Int))=true:=d2
  have hr:iM w order=(wd0,5):=by unfold iM;rw[if_pos hw.to,if_pos h2]
  rw[hr]
  simp (disch:=first|decide|omega) only[a_rRun,hA,d2,d2',aa,go_sem]
  exact iA (.inr rfl) (xs:=[.agg zZA,.v (.int .i64 5)]) kR (pE 5) hR hB ⟨rfl,rfl,rfl⟩
 have d2:decide ((order.length:Int)>1000)=false:=ag oM
 have d2':decide ((1000:Int)<(order.length:Int))=false:=d2
 have hr:iM w order=vN w order:=by unfold iM;rw[if_pos hw.to,if_neg h2]
 rw[hr]
 simp (disch:=first|decide|omega) only[a_rRun,hA,d2,d2',aa,go_sem]
 refine JA (ι:=Nat×Wd) eX (fun z=>[(6,.v (.int .i64 z.1))]) 2 (fun z=>[.live 0 9 [(eWd z.2).map .v],.live 0 9 [zZA]])
  (fun z=>z.1≤order.length∧WdV z.2∧vN w order=vN z.2 (order.drop z.1)) (fun z=>order.length-z.1) (0,w) ⟨aj _,hw,by rw[gu]⟩ kM kA kF ?_
 rintro g1 qF TE sA ⟨i,W⟩ ⟨hi,hW,nR⟩
 simp only at hi hW nR⊢
 by_cases yA:i<order.length
 case neg =>
  obtain rfl:i=order.length:=by omega
  have hrn:vN w order=(W,0):=by rw[nR,List.drop_length];rfl
  rw[hrn,TA]
  simp (disch:=first|decide|omega) only[hA,sA,aa,go_sem]
  exact ZA (xs:=[.agg (zWA W),.v (.int .i64 0)])
 have G4:=IC yA
 obtain⟨x,hx⟩:∃x,order[i]=x:=⟨_,rfl⟩
 rw[YA yA,hx]at G4
 have hxm:-9223372036854775808≤x:=by rw[←hx];exact ho _ (ak yA)
 rw[jW yA,hx]at nR
 rw[nR]
 rw[TA]
 obtain⟨y,hy⟩:∃y,kJ W x=y:=⟨_,rfl⟩
 have hrr:vN W (x::order.drop (i+1))=if y.2=0 then vN y.1 (order.drop (i+1)) else (wd0,y.2):=by show (if (kJ W x).2=0 then vN (kJ W x).1 _ else _)=_;rw[hy]
 have hye:y.2=0→WdV y.1:=fun h=>by rw[←hy]at h⊢;exact dP hW h
 have hWn:=hW.now
 by_cases h0:x<0
 ·have d0:decide (x<0)=true:=ae h0
  have hyo:kJ W x=aJ W (-x):=by unfold kJ;rw[if_neg oM]
  by_cases h1:-1000000≤x
  case neg =>
   have d1:decide (x≥-1000000)=false:=ag h1
   have d1':decide (-1000000≤x)=false:=d1
   have hy2:y=(wd0,2):=by rw[←hy,hyo];unfold aJ;rw[if_pos hW.to,if_neg oM]
   rw[hrr,hy2,if_neg kE]
   simp (disch:=first|decide|omega) only[hA,sA,G4,d0,d1,d1',aa,go_sem]
   exact iA (.inr rfl) (xs:=[.agg zZA,.v (.int .i64 2)]) kR (pE 2) hR hB ⟨rfl,rfl,rfl⟩
  have d1:decide (x≥-1000000)=true:=ae h1
  have d1':decide (-1000000≤x)=true:=d1
  have N8:IntKind.i64.wrap (0-x)=-x:=by rw[pA oM oM];omega
  have cT:=fun b l=>mS W hWn (-x) b l
  cases mR:mY W (-x)
  ·have hn:¬((0≤-x∧-x≤1000000)∧W.now+-x≤1000000000):=fx mR
   have hy2:y=(wd0,2):=by rw[←hy,hyo];unfold aJ;rw[if_pos hW.to,if_neg hn]
   rw[mR,if_neg kS,TA,TA]at cT
   rw[hrr,hy2,if_neg kE]
   simp (disch:=first|decide|omega) only[hA,sA,G4,d0,d1,d1',N8,aa,go_sem]
   refine QA.nxt (cT _ _) ?_
   simp (disch:=first|decide|omega) only[hA,sA,aa,go_sem]
   exact iA (.inr rfl) (xs:=[.agg zZA,.v (.int .i64 2)]) kR (pE 2) hR hB ⟨rfl,rfl,rfl⟩
  ·have hn:(0≤-x∧-x≤1000000)∧W.now+-x≤1000000000:=gg mR
   have hy2:y=(tkW W (-x),0):=by rw[←hy,hyo];unfold aJ;rw[if_pos hW.to,if_pos hn]
   rw[mR,if_pos rfl,TA]at cT
   obtain⟨W2,ZL⟩:∃W2,tkW W (-x)=W2:=⟨_,rfl⟩
   rw[ZL]at cT hy2
   rw[hy2,if_pos rfl]at hrr
   have hWy:=hye (by rw[hy2])
   rw[hy2]at hWy
   rw[TA W2]at cT
   rw[hrr]
   simp (disch:=first|decide|omega) only[hA,sA,G4,d0,d1,d1',N8,aa,go_sem]
   refine QA.nxt (cT _ _) ?_
   simp (disch:=first|decide|omega) only[hA,sA,aa,go_sem]
   refine⟨(i+1,W2),⟨yA,hWy,by rw[←hrr,←nR]⟩,by simp only;omega,?_⟩
   simp only[TA]
   exact VA.kround (p:=eX) (k:=2) kQ kA rfl qF kS kV hR kL
 have d0:decide (x<0)=false:=ag h0
 obtain⟨k,rfl⟩:∃k:Nat,x=k:=⟨x.toNat,by omega⟩
 have hyo:kJ W k=PL W k:=by unfold kJ;rw[if_pos oM]
 by_cases h1:W.sv.length≤k
 ·have d1:decide ((k:Int)≥(W.sv.length:Int))=true:=ae oM
  have d1':decide ((W.sv.length:Int)≤(k:Int))=true:=d1
  have hy2:y=(wd0,2):=by rw[←hy,hyo];unfold PL;rw[if_pos hW.to,if_pos (.inr oM)]
  rw[hrr,hy2,if_neg kE]
  simp (disch:=first|decide|omega) only[hA,sA,G4,d0,d1,d1',aa,go_sem]
  exact iA (.inr rfl) (xs:=[.agg zZA,.v (.int .i64 2)]) kR (pE 2) hR hB ⟨rfl,rfl,rfl⟩
 have d1:decide ((k:Int)≥(W.sv.length:Int))=false:=ag oM
 have d1':decide ((W.sv.length:Int)≤(k:Int))=false:=d1
 have OK:k<W.sv.length:=by omega
 have hs8:=(LP hW.sv).2
 have NY:=hW.net.l
 have cE:=fun b l=>ZX W hW.svS hW.small hW.sv hW.len oM (VG.2 hW.net) k OK (by unfold ptB;simp;omega) b l
 rw[TA]at cE
 cases t2:rF W k
 ·have hy2:y=(wd0,6):=by rw[←hy,hyo];unfold PL;rw[if_pos hW.to,if_neg oM,ca,if_neg (by rw[t2];simp)]
  rw[t2]at cE
  rw[hrr,hy2,if_neg kE]
  simp (disch:=first|decide|omega) only[hA,sA,G4,d0,d1,d1',aa,go_sem]
  refine QA.nxt (cE _ _) ?_
  simp (disch:=first|decide|omega) only[hA,sA,aa,go_sem]
  exact iA (.inr rfl) (xs:=[.agg zZA,.v (.int .i64 6)]) kR (pE 6) hR hB ⟨rfl,rfl,rfl⟩
 rw[t2]at cE
 have hy2:stW W k=y:=by rw[←hy,hyo];unfold PL;rw[if_pos hW.to,if_neg oM,ca,if_pos t2]
 have cS:=fun b l=>xU W hW k OK t2 b l
 rw[hy2,TA,TA]at cS
 simp (disch:=first|decide|omega) only[hA,sA,G4,d0,d1,d1',aa,go_sem]
 refine QA.nxt (cE _ _) ?_
 simp (disch:=first|decide|omega) only[hA,sA,aa,go_sem]
 refine QA.nxt (cS _ _) ?_
 by_cases he:y.2=0
 ·have e0:(y.2 != 0)=false:=by rw[he];rfl
  rw[if_pos he]at hrr
  have hWy:=hye he
  rw[hrr]
  simp (disch:=first|decide|omega) only[hA,sA,e0,aa,go_sem]
  refine⟨(i+1,y.1),⟨yA,hWy,by rw[←hrr,←nR]⟩,by simp only;omega,?_⟩
  simp only[TA]
  exact VA.kround (p:=eX) (k:=2) kQ kA rfl qF kS kV hR kL
 ·have e0:(y.2 != 0)=true:=bne_iff_ne.2 he
  rw[if_neg he]at hrr
  rw[hrr]
  simp (disch:=first|decide|omega) only[hA,sA,e0,aa,go_sem]
  exact iA (.inr rfl) (xs:=[.agg zZA,.v (.int .i64 y.2)]) kR (pE y.2) hR hB ⟨rfl,rfl,rfl⟩
end Go.Proofs.YtmaokjojbjdpoaaGreatDoor
