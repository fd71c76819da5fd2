/- Texts of one proof, laid together: X2, OE, BV, X3, X6, OF, X4, X7, RW, NT, TR, TX. No condition. -/
import Derived.Test.YtmaokjojbjdpoaaGreatDoorQA9
import Derived.Test.YtmaokjojbjdpoaaGreatDoorQA5
import Derived.Test.YtmaokjojbjdpoaaGreatDoorQA6
import Derived.Test.YtmaokjojbjdpoaaGreatDoorQA2
import Derived.Test.YtmaokjojbjdpoaaGreatDoorQA7
import Derived.Test.YtmaokjojbjdpoaaGreatDoorQA8
import Derived.Test.YtmaokjojbjdpoaaGreatDoorQA3
import Derived.Test.YtmaokjojbjdpoaaGreatDoorProg
import Derived.KernelRfl
set_option linter.unusedSimpArgs false
set_option maxHeartbeats 16000000
set_option maxRecDepth 20000
namespace Go.Proofs.YtmaokjojbjdpoaaGreatDoor
set_option maxHeartbeats 16000000
set_option maxRecDepth 100000
set_option linter.unusedVariables false
set_option linter.unusedSimpArgs false
attribute [local go_sem ↓] vC YB kC xC zD lB yC qD wC dD SA mB jC RA pB qC CA aB nC JB TA uC fB eB zB bB qB OB sB jD iC vD yD nE iD pE mE GB LB
attribute [local go_sem] VB MA CD jB EA sE xD gD wD GK IK uD dC rC sC CC nA QC FA ZC LA UB aop SE LD aD IC GD eC ID fJ SF dF amm AE fC IB qF bD rF comma LC DF lJ IF GF XJ zF VF UE ZJ eqC eqF tG cellsOf xB YC CB UF mI rd rdI fE mk tD AV.cell List.all_cons List.all_nil Bool.and_true Bool.true_and Bool.and_self List.length_cons List.length_nil List.length_append Nat.reduceAdd Nat.reduceSub Nat.reduceMul Nat.zero_add Nat.add_zero List.cons_append List.nil_append List.append_assoc List.append_nil List.getElem?_cons_zero List.getElem?_cons_succ List.getElem?_nil List.set_cons_zero List.set_cons_succ List.drop_zero List.drop_succ_cons List.take_zero List.take_succ_cons List.take_nil List.drop_nil List.map_cons List.map_nil Option.map_some if_true if_false Bool.false_eq_true and_self true_and and_true Nat.reduceLeDiff Nat.reduceLT Nat.le_refl Nat.reduceEqDiff ite_true ite_false beq_self_eq_true beq_true beq_false Bool.not_true Bool.not_false Bool.true_beq Bool.false_beq rE MB wB JD KD zC KC UC VC UD VD dE dA eK YK bK fK kG vG wG yG geI gtI gG decide_true decide_false room List.getElem?_map List.length_map List.length_take Int.toNat_natCast Nat.min_def Nat.min_self kD EC DD tB lD EF zA List.getElem_cons_zero List.getElem_cons_succ
attribute [local go_sem] NN mS vM NO jM TO GA NG
def a_mstp:AFunc:=({c:=_}:CF Tryz.prog 63).c
theorem ZBH:jA Tryz.prog 63=some a_mstp:=by kernel_rfl

noncomputable def stM (w:Wd) (p:Nat):Wd:=if (stW w p).2=0 then (stW w p).1 else pcW w p ((w.sv.getD p dfSv).pc+1)
theorem OS {w:Wd} {p:Nat} (hp:p<w.sv.length) {s:Sv} (hs:w.sv.getD p dfSv=s) {kd pe ms:Int} {i:Nat} {v c:Int}:pcW (asW w p ⟨kd,pe,ms,0,[]⟩ i v) p c=aF w p (Sv.put {s with pc:=c} i v) (yO kd pe ms i v):=by
 unfold pcW asW
 simp only
 have hg:(w.sv.set p ((w.sv.getD p dfSv).put i v)).getD p dfSv=s.put i v:=by
  rw[ap,ay hp,hs];rfl
 rw[hg,iu]
 unfold aF evW yO
 rw[hs];rfl
theorem vQ {w:Wd} {p:Nat} {s:Sv} (hs:w.sv.getD p dfSv=s) {e:Ev} {c:Int}:pcW (evW w p e) p c=aF w p {s with pc:=c} e:=by
 unfold pcW aF evW
 simp only
 rw[hs];rfl
theorem ZA3 (f:Nat→Row) (w:Wd) (p q n:Nat) (hn:q+5≤n) (hw:WdV w) (hp:p<w.sv.length) (hen:SD w p=true) (b l:List Row) (hb:b=kB n (mvF f w p q)) :
  QA Tryz.prog 63 [.ptr (q+4) 0 0 0,.v (.int .i64 p)] b l (fun r b' l'=>r=.v (.int .i64 (stW w p).2)∧b'=kB n (mvF f (stM w p) p q)∧l'=l):=by
 refine XA ZBH rfl kE ?_
 intro B g hB hR hE hA;simp only[zA]at hA
 rw[hb]at hB
 obtain⟨m,f',hm0,n6,KH⟩:=G1 hn hB
 clear hB
 subst n6
 rw[GA]at hR
 have SL:p<w.tr.length:=by rw[hw.len];exact hp
 have hS:=hw.small
 have hN:=hw.nm
 have hsl8:=(aN hw.sv).2
 have ZK1:=hw.tr.hi
 have JX:w.sv.length≤1000000:=by omega
 have dW:w.tr.length≤1000000:=by omega
 have mJ:(w.tr.getD p dfPr).evs.length≤1000000:=by have:=hw.evl SL;omega
 have rV:=(jI hw.sv hp).1
 obtain⟨k,hk,GN,hki,h8,GE⟩:=ZGP hw hp hen
 obtain⟨_,JC,h4,h3⟩:=DS hen
 have hvn:=MF.2 hw.net
 have S1:=hw.sent
 have hpo:ptB p=true:=by unfold ptB;simp;omega
 have cAs:=fun k pe ms i hi kW v=>fun l=>RU f' w p q m oM hp SL JX dW mJ k pe ms i hi kW v (kB m (mvF f' w p q)) l rfl
 have cEv:=fun k pe ms=>fun l=>RO f' w p q m oM hp SL JX dW mJ k pe ms (kB m (mvF f' w p q)) l rfl
 have cSn:=fun x i KR hi kW hm=>fun l=>ZA4 f' w p q m oM hp SL JX dW mJ x i KR hi kW oM hvn hm (kB m (mvF f' w p q)) l rfl
 have cRc:=fun x i KR hi kW k hk mg P7 v hbd kU=>fun l=>ZA5 f' w p q m oM hp SL hS hN JX x i KR hi kW hvn hpo k hk mg P7 v hbd kU (kB m (mvF f' w p q)) l rfl
 have pG:stW w p=stI w p (w.sv.getD p dfSv) ((w.sv.getD p dfSv).code.getD (w.sv.getD p dfSv).pc.toNat dN):=rfl
 have hM:stM w p=if (stW w p).2=0 then (stW w p).1 else pcW w p ((w.sv.getD p dfSv).pc+1):=rfl
 have hop:QJ (w.sv.getD p dfSv)=((w.sv.getD p dfSv).code.getD (w.sv.getD p dfSv).pc.toNat dN).op:=rfl
 rw[hop,hki]at h8 h4 h3
 rw[hki]at pG
 obtain⟨s,hs⟩:∃s,w.sv.getD p dfSv=s:=⟨_,rfl⟩
 rw[hs]at rV hk GN h8 GE h4 h3 pG hM cAs cSn cRc
 obtain⟨x,hx⟩:∃x,s.code.getD k dN=x:=⟨_,rfl⟩
 rw[hx]at h8 GE h4 h3 pG
 have CI:=gI GN
 rw[YA GN]at hx
 rw[hx]at CI
 have hsc:=rV.cl
 have hsvl:=rV.vl
 obtain⟨SV,M7⟩:∃SV,bG w p (q+1)=SV:=⟨_,rfl⟩
 obtain⟨F,hF⟩:∃F,mvF f' w p q=F:=⟨_,rfl⟩
 obtain⟨fT,gS,f0,f1,f4⟩:=gE hp SL hF hs M7
 have gk:∀{j:Nat} {f:Nat→Row} {L:List Row},j<5→hget (kB m f) L (q+j)=some (f (q+j)):=fun hj=>pH oM
 have kn:∀{j:Nat} {f:Nat→Row} {r:Row},j<5→vE (kB m f) (q+j) r=kB m (rUp f (q+j) r):=fun hj=>MJ oM
 have kl:∀{j:Nat} {f:Nat→Row} {r:Row} {L:List Row},j<5→lE (kB m f) L (q+j) r=L:=fun hj=>PJ oM
 have gk0:∀{f:Nat→Row} {L:List Row},hget (kB m f) L q=some (f q):=pH oM
 have kn0:∀{f:Nat→Row} {r:Row},vE (kB m f) q r=kB m (rUp f q r):=MJ oM
 have kl0:∀{f:Nat→Row} {r:Row} {L:List Row},lE (kB m f) L q r=L:=PJ oM
 have ES:IntKind.i64.wrap (((k:Nat):Int)+1)=((k+1:Nat):Int):=by rw[dA oM oM];omega
 have hk1:((k+1:Nat):Int)=s.pc+1:=by omega
 rw[hF]at cAs cEv cSn cRc hR⊢
 have hRw:∀w',tA m (kB m (mvF f' w' p q)):=fun w'=>by rw[←hF]at hR;exact aT oM hR
 have nm1:IntKind.i64.wrap (-1)=-1:=rfl
 by_cases o1:x.op=1
 ·unfold iE at GE
  rw[if_pos (.inl o1)]at GE
  unfold inZ at GE
  simp only[au,bc]at GE
  obtain⟨i,hi⟩:∃i:Nat,x.a=i:=⟨x.a.toNat,by omega⟩
  have yW:i<s.vars.length:=by omega
  have cA:=cAs 1 0 0 i yW oM x.b
  rw[if_pos GE.2,if_pos GE.2]at cA
  have hI:stI w p s x=(aF w p (Sv.put {s with pc:=s.pc+1} i x.b) (yO 1 0 0 i x.b),0):=by unfold stI;rw[if_pos o1,hi,cj]
  rw[hI]at pG
  have d1:(x.op==1)=true:=by rw[o1];rfl
  simp (disch:=first|decide|omega) only[a_mstp,hA,gk,gk0,f0,f1,f4,gS,fT,hk,CI,ES,kn,kl,kn0,kl0,sA,iB,hi,d1,go_sem]
  refine QA.nxt (DE _ _) ?_
  simp (disch:=first|decide|omega) only[hA,gk,gk0,f0,f1,f4,gS,fT,hk,CI,ES,kn,kl,kn0,kl0,sA,iB,hi,d1,go_sem]
  refine QA.nxt (cA _) ?_
  obtain⟨w1,IE⟩:∃w1,asW w p ⟨1,0,0,0,[]⟩ i x.b=w1:=⟨_,rfl⟩
  rw[IE]
  have e1:w1.sv.length=w.sv.length:=by rw[←IE];first|rfl|exact dj
  have e2:w1.tr.length=w.tr.length:=by rw[←IE];first|rfl|exact jF
  have LH:w1.sv.getD p dfSv=s.put i x.b:=by rw[←IE];first|exact hs|(show (w.sv.set p _).getD p dfSv=_;rw[ap,ay hp,hs];rfl)
  obtain⟨SV1,qH⟩:∃SV1,bG w1 p (q+1)=SV1:=⟨_,rfl⟩
  obtain⟨F1,EL⟩:∃F1,mvF f' w1 p q=F1:=⟨_,rfl⟩
  obtain⟨wU,gS1,g0,g1,g4⟩:=gE (by rw[e1];exact hp) (by rw[e2];exact SL) EL LH qH
  have uI:=AK (f':=f') (q:=q) (c:=((k+1:Nat):Int)) (show p<w1.sv.length by rw[e1];exact hp) LH
  rw[qH,EL]at uI
  rw[e1]at wU g0 uI
  rw[EL]
  simp (disch:=first|decide|omega) only[hA,gk,gk0,g0,g1,g4,wU,gS1,hk,ES,kn,kl,kn0,kl0,sA,iB,hi,go_sem]
  rw[uI]
  have zH:stM w p=pcW w1 p (((k+1:Nat):Int)):=by rw[hk1,hM,pG,if_pos rfl,←IE];exact (OS hp hs).symm
  have AJ:(stW w p).2=0:=by rw[pG]
  rw[AJ,zH]
  exact DC (xs:=[.v (.int .i64 0)]) (.inr rfl) kR kO (by rw[GA];exact hRw _) hb (KH _) ⟨rfl,rfl,rfl⟩
 by_cases o2:x.op=2
 ·unfold iE at GE
  rw[if_pos (.inr o2)]at GE
  unfold inZ at GE
  have hxb:-1073741824≤x.b∧x.b≤1073741824:=by
   rw[au]at GE
   have:=GE.2;unfold vlB at this;simpa using this
  simp only[au,bc]at GE
  obtain⟨i,hi⟩:∃i:Nat,x.a=i:=⟨x.a.toNat,by omega⟩
  have yW:i<s.vars.length:=by omega
  have p6:=tE yW
  obtain⟨u,huu⟩:∃u,s.vars.getD i 0=u:=⟨_,rfl⟩
  have hub:-1073741824≤u∧u≤1073741824:=by
   have:=rV.vs u (by rw[←huu,YA yW];exact am yW)
   unfold vlB at this
   simpa using this
  rw[huu]at p6
  have hwr:IntKind.i64.wrap (u+x.b)=u+x.b:=dA oM oM
  obtain⟨v,kU⟩:∃v,u+x.b=v:=⟨_,rfl⟩
  rw[kU]at hwr
  have cA:=cAs 1 0 0 i yW oM v
  have d1:(x.op==1)=false:=by rw[o2];rfl
  have d2:(x.op==2)=true:=by rw[o2];rfl
  cases hq:vlB v
  ·rw[hq,if_neg kS,if_neg kS]at cA
   have hI:stI w p s x=(wd0,9):=by unfold stI;rw[if_neg o1,if_pos o2,hi,cj,huu,kU,if_neg (by rw[hq];simp)]
   rw[hI]at pG
   rw[hF]at cA
   simp (disch:=first|decide|omega) only[a_mstp,hA,gk,gk0,f0,f1,f4,gS,fT,hk,CI,ES,kn,kl,kn0,kl0,sA,iB,hi,p6,kU,hwr,d1,d2,go_sem]
   refine QA.nxt (DE _ _) ?_
   simp (disch:=first|decide|omega) only[hA,gk,gk0,f0,f1,f4,gS,fT,hk,CI,ES,kn,kl,kn0,kl0,sA,iB,hi,p6,kU,hwr,d1,d2,go_sem]
   refine QA.nxt (cA _) ?_
   have uI:=AK (f':=f') (q:=q) (c:=((k+1:Nat):Int)) hp hs
   rw[M7,hF]at uI
   simp (disch:=first|decide|omega) only[hA,gk,gk0,f0,f1,f4,gS,fT,hk,CI,ES,kn,kl,kn0,kl0,sA,iB,hi,go_sem]
   rw[uI]
   have zH:stM w p=pcW w p (((k+1:Nat):Int)):=by rw[hk1,hM,pG,if_neg kE]
   have AJ:(stW w p).2=9:=by rw[pG]
   rw[AJ,zH]
   exact DC (xs:=[.v (.int .i64 9)]) (.inr rfl) kR kO (by rw[GA];exact hRw _) hb (KH _) ⟨rfl,rfl,rfl⟩
  ·rw[hq,if_pos rfl,if_pos rfl]at cA
   have hI:stI w p s x=(aF w p (Sv.put {s with pc:=s.pc+1} i v) (yO 1 0 0 i v),0):=by unfold stI;rw[if_neg o1,if_pos o2,hi,cj,huu,kU,if_pos hq]
   rw[hI]at pG
   simp (disch:=first|decide|omega) only[a_mstp,hA,gk,gk0,f0,f1,f4,gS,fT,hk,CI,ES,kn,kl,kn0,kl0,sA,iB,hi,p6,kU,hwr,d1,d2,go_sem]
   refine QA.nxt (DE _ _) ?_
   simp (disch:=first|decide|omega) only[hA,gk,gk0,f0,f1,f4,gS,fT,hk,CI,ES,kn,kl,kn0,kl0,sA,iB,hi,p6,kU,hwr,d1,d2,go_sem]
   refine QA.nxt (cA _) ?_
   obtain⟨w1,IE⟩:∃w1,asW w p ⟨1,0,0,0,[]⟩ i v=w1:=⟨_,rfl⟩
   rw[IE]
   have e1:w1.sv.length=w.sv.length:=by rw[←IE];first|rfl|exact dj
   have e2:w1.tr.length=w.tr.length:=by rw[←IE];first|rfl|exact jF
   have LH:w1.sv.getD p dfSv=s.put i v:=by rw[←IE];first|exact hs|(show (w.sv.set p _).getD p dfSv=_;rw[ap,ay hp,hs];rfl)
   obtain⟨SV1,qH⟩:∃SV1,bG w1 p (q+1)=SV1:=⟨_,rfl⟩
   obtain⟨F1,EL⟩:∃F1,mvF f' w1 p q=F1:=⟨_,rfl⟩
   obtain⟨wU,gS1,g0,g1,g4⟩:=gE (by rw[e1];exact hp) (by rw[e2];exact SL) EL LH qH
   have uI:=AK (f':=f') (q:=q) (c:=((k+1:Nat):Int)) (show p<w1.sv.length by rw[e1];exact hp) LH
   rw[qH,EL]at uI
   rw[e1]at wU g0 uI
   rw[EL]
   simp (disch:=first|decide|omega) only[hA,gk,gk0,g0,g1,g4,wU,gS1,hk,ES,kn,kl,kn0,kl0,sA,iB,hi,go_sem]
   rw[uI]
   have zH:stM w p=pcW w1 p (((k+1:Nat):Int)):=by rw[hk1,hM,pG,if_pos rfl,←IE];exact (OS hp hs).symm
   have AJ:(stW w p).2=0:=by rw[pG]
   rw[AJ,zH]
   exact DC (xs:=[.v (.int .i64 0)]) (.inr rfl) kR kO (by rw[GA];exact hRw _) hb (KH _) ⟨rfl,rfl,rfl⟩
 by_cases o7:x.op=7
 ·have hI:stI w p s x=(aF w p {s with pc:=s.pc+1} dfEv54,0):=by unfold stI;rw[if_neg oM,if_neg oM,if_neg oM,if_neg oM,if_neg oM]
  rw[hI]at pG
  have cE:=cEv 1 0 0
  have d1:(x.op==1)=false:=by rw[o7];rfl
  have d2:(x.op==2)=false:=by rw[o7];rfl
  have d7:(x.op==7)=true:=by rw[o7];rfl
  simp (disch:=first|decide|omega) only[a_mstp,hA,gk,gk0,f0,f1,f4,gS,fT,hk,CI,ES,kn,kl,kn0,kl0,sA,iB,d1,d2,d7,go_sem]
  refine QA.nxt (DE _ _) ?_
  simp (disch:=first|decide|omega) only[hA,gk,gk0,f0,f1,f4,gS,fT,hk,CI,ES,kn,kl,kn0,kl0,sA,iB,d1,d2,d7,go_sem]
  refine QA.nxt (cE _) ?_
  obtain⟨w1,IE⟩:∃w1,evW w p ⟨1,0,0,0,[]⟩=w1:=⟨_,rfl⟩
  rw[IE]
  have e1:w1.sv.length=w.sv.length:=by rw[←IE];first|rfl|exact dj
  have e2:w1.tr.length=w.tr.length:=by rw[←IE];first|rfl|exact jF
  have LH:w1.sv.getD p dfSv=s:=by rw[←IE];first|exact hs|(show (w.sv.set p _).getD p dfSv=_;rw[ap,ay hp,hs];rfl)
  obtain⟨SV1,qH⟩:∃SV1,bG w1 p (q+1)=SV1:=⟨_,rfl⟩
  obtain⟨F1,EL⟩:∃F1,mvF f' w1 p q=F1:=⟨_,rfl⟩
  obtain⟨wU,gS1,g0,g1,g4⟩:=gE (by rw[e1];exact hp) (by rw[e2];exact SL) EL LH qH
  have uI:=AK (f':=f') (q:=q) (c:=((k+1:Nat):Int)) (show p<w1.sv.length by rw[e1];exact hp) LH
  rw[qH,EL]at uI
  rw[e1]at wU g0 uI
  rw[EL]
  simp (disch:=first|decide|omega) only[hA,gk,gk0,g0,g1,g4,wU,gS1,hk,ES,kn,kl,kn0,kl0,sA,iB,go_sem]
  rw[uI]
  have zH:stM w p=pcW w1 p (((k+1:Nat):Int)):=by rw[hk1,hM,pG,if_pos rfl,←IE];exact (vQ hs).symm
  have AJ:(stW w p).2=0:=by rw[pG]
  rw[AJ,zH]
  exact DC (xs:=[.v (.int .i64 0)]) (.inr rfl) kR kO (by rw[GA];exact hRw _) hb (KH _) ⟨rfl,rfl,rfl⟩
 by_cases o6:x.op=6
 ·unfold iE at GE
  rw[if_neg oM,if_neg oM,if_neg oM,if_neg oM,if_pos o6]at GE
  unfold inZ at GE
  simp only[au,bc]at GE
  obtain⟨i,hi⟩:∃i:Nat,x.b=i:=⟨x.b.toNat,by omega⟩
  have yW:i<s.vars.length:=by omega
  have p6:=tE yW
  obtain⟨v,kU⟩:∃v,s.vars.getD i 0=v:=⟨_,rfl⟩
  have hvb:-1073741824≤v∧v≤1073741824:=by
   have:=rV.vs v (by rw[←kU,YA yW];exact am yW)
   unfold vlB at this
   simpa using this
  rw[kU]at p6
  have hwv:IntKind.i64.wrap (v-1)=v-1:=dA oM oM
  have d1:(x.op==1)=false:=by rw[o6];rfl
  have d2:(x.op==2)=false:=by rw[o6];rfl
  have d7:(x.op==7)=false:=by rw[o6];rfl
  have d6:(x.op==6)=true:=by rw[o6];rfl
  by_cases h0:0<v
  ·have e0:decide (v>0)=true:=ae oM
   have e1:decide (0<v)=true:=e0
   have hq:vlB (v-1)=true:=by unfold vlB;simp;omega
   have cA:=cAs 1 0 0 i yW oM (v-1)
   rw[if_pos hq,if_pos hq]at cA
   have hI:stI w p s x=(aF w p (Sv.put {s with pc:=x.a} i (v-1)) (yO 1 0 0 i (v-1)),0):=by unfold stI;rw[if_neg o1,if_neg o2,if_pos o6,hi,cj,kU,if_pos h0]
   rw[hI]at pG
   simp (disch:=first|decide|omega) only[a_mstp,hA,gk,gk0,f0,f1,f4,gS,fT,hk,CI,ES,kn,kl,kn0,kl0,sA,iB,hi,p6,hwv,e0,e1,d1,d2,d7,d6,go_sem]
   refine QA.nxt (DE _ _) ?_
   simp (disch:=first|decide|omega) only[hA,gk,gk0,f0,f1,f4,gS,fT,hk,CI,ES,kn,kl,kn0,kl0,sA,iB,hi,p6,hwv,e0,e1,d1,d2,d7,d6,go_sem]
   clear e0 e1
   refine QA.nxt (cA _) ?_
   obtain⟨w1,IE⟩:∃w1,asW w p ⟨1,0,0,0,[]⟩ i (v-1)=w1:=⟨_,rfl⟩
   rw[IE]
   have e1:w1.sv.length=w.sv.length:=by rw[←IE];first|rfl|exact dj
   have e2:w1.tr.length=w.tr.length:=by rw[←IE];first|rfl|exact jF
   have LH:w1.sv.getD p dfSv=s.put i (v-1):=by rw[←IE];first|exact hs|(show (w.sv.set p _).getD p dfSv=_;rw[ap,ay hp,hs];rfl)
   obtain⟨SV1,qH⟩:∃SV1,bG w1 p (q+1)=SV1:=⟨_,rfl⟩
   obtain⟨F1,EL⟩:∃F1,mvF f' w1 p q=F1:=⟨_,rfl⟩
   obtain⟨wU,gS1,g0,g1,g4⟩:=gE (by rw[e1];exact hp) (by rw[e2];exact SL) EL LH qH
   have uI:=AK (f':=f') (q:=q) (c:=x.a) (show p<w1.sv.length by rw[e1];exact hp) LH
   rw[qH,EL]at uI
   rw[e1]at wU g0 uI
   rw[EL]
   simp (disch:=first|decide|omega) only[hA,gk,gk0,g0,g1,g4,wU,gS1,hk,ES,kn,kl,kn0,kl0,sA,iB,hi,go_sem]
   rw[uI]
   have zH:stM w p=pcW w1 p (x.a):=by rw[hM,pG,if_pos rfl,←IE];exact (OS hp hs).symm
   have AJ:(stW w p).2=0:=by rw[pG]
   rw[AJ,zH]
   exact DC (xs:=[.v (.int .i64 0)]) (.inr rfl) kR kO (by rw[GA];exact hRw _) hb (KH _) ⟨rfl,rfl,rfl⟩
  ·have e0:decide (v>0)=false:=ag oM
   have e1:decide (0<v)=false:=e0
   have hI:stI w p s x=(aF w p {s with pc:=s.pc+1} dfEv54,0):=by unfold stI;rw[if_neg o1,if_neg o2,if_pos o6,hi,cj,kU,if_neg h0]
   rw[hI]at pG
   have cE:=cEv 1 0 0
   simp (disch:=first|decide|omega) only[a_mstp,hA,gk,gk0,f0,f1,f4,gS,fT,hk,CI,ES,kn,kl,kn0,kl0,sA,iB,hi,p6,e0,e1,d1,d2,d7,d6,go_sem]
   clear e0 e1
   refine QA.nxt (DE _ _) ?_
   simp (disch:=first|decide|omega) only[hA,gk,gk0,f0,f1,f4,gS,fT,hk,CI,ES,kn,kl,kn0,kl0,sA,iB,hi,d1,d2,d7,d6,go_sem]
   refine QA.nxt (cE _) ?_
   obtain⟨w1,IE⟩:∃w1,evW w p ⟨1,0,0,0,[]⟩=w1:=⟨_,rfl⟩
   rw[IE]
   have e1:w1.sv.length=w.sv.length:=by rw[←IE];first|rfl|exact dj
   have e2:w1.tr.length=w.tr.length:=by rw[←IE];first|rfl|exact jF
   have LH:w1.sv.getD p dfSv=s:=by rw[←IE];first|exact hs|(show (w.sv.set p _).getD p dfSv=_;rw[ap,ay hp,hs];rfl)
   obtain⟨SV1,qH⟩:∃SV1,bG w1 p (q+1)=SV1:=⟨_,rfl⟩
   obtain⟨F1,EL⟩:∃F1,mvF f' w1 p q=F1:=⟨_,rfl⟩
   obtain⟨wU,gS1,g0,g1,g4⟩:=gE (by rw[e1];exact hp) (by rw[e2];exact SL) EL LH qH
   have uI:=AK (f':=f') (q:=q) (c:=((k+1:Nat):Int)) (show p<w1.sv.length by rw[e1];exact hp) LH
   rw[qH,EL]at uI
   rw[e1]at wU g0 uI
   rw[EL]
   simp (disch:=first|decide|omega) only[hA,gk,gk0,g0,g1,g4,wU,gS1,hk,ES,kn,kl,kn0,kl0,sA,iB,go_sem]
   rw[uI]
   have zH:stM w p=pcW w1 p (((k+1:Nat):Int)):=by rw[hk1,hM,pG,if_pos rfl,←IE];exact (vQ hs).symm
   have AJ:(stW w p).2=0:=by rw[pG]
   rw[AJ,zH]
   exact DC (xs:=[.v (.int .i64 0)]) (.inr rfl) kR kO (by rw[GA];exact hRw _) hb (KH _) ⟨rfl,rfl,rfl⟩
 by_cases o3:x.op=3
 ·unfold iE at GE
  rw[if_neg oM,if_pos o3]at GE
  unfold inZ at GE
  simp only[au,bc]at GE
  obtain⟨i,hi⟩:∃i:Nat,x.a=i:=⟨x.a.toNat,by omega⟩
  have yW:i<s.vars.length:=by omega
  have hms:msB (DH w p s x)=true:=by
   have:=rV.vs (s.vars.getD i 0) (by rw[YA yW];exact am _)
   have hs3:=h3 o3
   unfold DH msB ptB
   rw[hi,cj]
   simp only[List.all_cons,List.all_nil,this,Bool.and_true,dp,au,bc]
   exact⟨by omega,by omega,by omega,by omega,by omega⟩
  have cS:=cSn x i hi yW oM hms
  rw[hi]at cS
  have d1:(x.op==1)=false:=by rw[o3];rfl
  have d2:(x.op==2)=false:=by rw[o3];rfl
  have d7:(x.op==7)=false:=by rw[o3];rfl
  have d6:(x.op==6)=false:=by rw[o3];rfl
  have d3:(x.op==3)=true:=by rw[o3];rfl
  by_cases hz:sdE w.net (DH w p s x)=0
  ·rw[if_pos hz,hz]at cS
   have hI:stI w p s x=({aF w p {s with pc:=s.pc+1} ⟨2,x.b,w.sent,0,[]⟩ with net:=sdR w.net (DH w p s x),sent:=w.sent+1},0):=by unfold stI;rw[if_neg o1,if_neg o2,if_neg o6,if_pos o3,if_pos hz]
   rw[hI]at pG
   simp (disch:=first|decide|omega) only[a_mstp,hA,gk,gk0,f0,f1,f4,gS,fT,hk,CI,ES,kn,kl,kn0,kl0,sA,iB,hi,d1,d2,d7,d6,d3,go_sem]
   refine QA.nxt (cS _) ?_
   obtain⟨w1,IE⟩:∃w1,evW {w with net:=sdR w.net (DH w p s x),sent:=w.sent+1} p ⟨2,x.b,w.sent,0,[]⟩=w1:=⟨_,rfl⟩
   rw[IE]
   have e1:w1.sv.length=w.sv.length:=by rw[←IE];first|rfl|exact dj
   have e2:w1.tr.length=w.tr.length:=by rw[←IE];first|rfl|exact jF
   have LH:w1.sv.getD p dfSv=s:=by rw[←IE];first|exact hs|(show (w.sv.set p _).getD p dfSv=_;rw[ap,ay hp,hs];rfl)
   obtain⟨SV1,qH⟩:∃SV1,bG w1 p (q+1)=SV1:=⟨_,rfl⟩
   obtain⟨F1,EL⟩:∃F1,mvF f' w1 p q=F1:=⟨_,rfl⟩
   obtain⟨wU,gS1,g0,g1,g4⟩:=gE (by rw[e1];exact hp) (by rw[e2];exact SL) EL LH qH
   have uI:=AK (f':=f') (q:=q) (c:=((k+1:Nat):Int)) (show p<w1.sv.length by rw[e1];exact hp) LH
   rw[qH,EL]at uI
   rw[e1]at wU g0 uI
   rw[EL]
   simp (disch:=first|decide|omega) only[hA,gk,gk0,g0,g1,g4,wU,gS1,hk,ES,kn,kl,kn0,kl0,sA,iB,go_sem]
   rw[uI]
   have zH:stM w p=pcW w1 p (((k+1:Nat):Int)):=by rw[hk1,hM,pG,if_pos rfl,←IE];exact (vQ (w:={w with net:=sdR w.net (DH w p s x),sent:=w.sent+1}) hs).symm
   have AJ:(stW w p).2=0:=by rw[pG]
   rw[AJ,zH]
   exact DC (xs:=[.v (.int .i64 0)]) (.inr rfl) kR kO (by rw[GA];exact hRw _) hb (KH _) ⟨rfl,rfl,rfl⟩
  ·rw[if_neg hz]at cS
   obtain⟨er,her⟩:∃er,sdE w.net (DH w p s x)=er:=⟨_,rfl⟩
   have hI:stI w p s x=(wd0,er):=by unfold stI;rw[if_neg o1,if_neg o2,if_neg o6,if_pos o3,if_neg hz,her]
   rw[hI]at pG
   rw[her]at cS hz
   rw[hF]at cS
   simp (disch:=first|decide|omega) only[a_mstp,hA,gk,gk0,f0,f1,f4,gS,fT,hk,CI,ES,kn,kl,kn0,kl0,sA,iB,hi,d1,d2,d7,d6,d3,go_sem]
   refine QA.nxt (cS _) ?_
   have uI:=AK (f':=f') (q:=q) (c:=((k+1:Nat):Int)) hp hs
   rw[M7,hF]at uI
   simp (disch:=first|decide|omega) only[hA,gk,gk0,f0,f1,f4,gS,fT,hk,CI,ES,kn,kl,kn0,kl0,sA,iB,go_sem]
   rw[uI]
   have zH:stM w p=pcW w p (((k+1:Nat):Int)):=by rw[hk1,hM,pG,if_neg hz]
   have AJ:(stW w p).2=er:=by rw[pG]
   rw[AJ,zH]
   exact DC (xs:=[.v (.int .i64 er)]) (.inr rfl) kR kO (by rw[GA];exact hRw _) hb (KH _) ⟨rfl,rfl,rfl⟩
 have o45:x.op=4∨x.op=5:=by
  unfold iE at GE
  rw[if_neg oM,if_neg o3]at GE
  by_cases o4:x.op=4
  ·exact .inl o4
  ·rw[if_neg o4]at GE
   by_cases o5:x.op=5
   ·exact .inr o5
   ·rw[if_neg o5,if_neg o6]at GE
    simp at GE;omega
 have hxa:0≤x.a∧x.a<s.vars.length:=by
  unfold iE inZ at GE
  rcases o45 with o|o<;>simp[o]at GE<;>omega
 obtain⟨i,hi⟩:∃i:Nat,x.a=i:=⟨x.a.toNat,by omega⟩
 have yW:i<s.vars.length:=by omega
 have hI:stI w p s x=(G7 w p s x,0):=by unfold stI;rw[if_neg o1,if_neg o2,if_neg o6,if_neg o3,if_pos o45]
 rw[hI]at pG
 have d1:(x.op==1)=false:=dy.2 o1
 have d2:(x.op==2)=false:=dy.2 o2
 have d7:(x.op==7)=false:=dy.2 o7
 have d6:(x.op==6)=false:=dy.2 o6
 have d3:(x.op==3)=false:=dy.2 o3
 have cW:=fun b l=>eR w.net p b l
 simp only[eNw,bl,cd]at cW
 by_cases hf:fiR w.net p<0
 ·have o5:x.op=5:=by
   rcases o45 with o|o
   ·have:=F7 (h4 o);omega
   ·exact o
  have d5:(x.op==5)=true:=by rw[o5];rfl
  have hw0:uH w.net p=0:=by unfold uH;rw[if_pos ⟨hvn,hpo⟩,rW _ (x9 hf)]
  have n0:(((0:Nat):Int)==0)=true:=rfl
  rw[hw0]at cW
  have hR2:G7 w p s x=aF w p {s with pc:=x.b} dfEv54:=by unfold G7;rw[if_pos hf]
  rw[hR2]at pG
  have cE:=cEv 1 0 0
  simp (disch:=first|decide|omega) only[a_mstp,hA,gk,gk0,f0,f1,f4,gS,fT,hk,CI,ES,kn,kl,kn0,kl0,sA,iB,hi,d1,d2,d7,d6,d3,d5,go_sem]
  refine QA.nxt (cW _ _) ?_
  simp (disch:=first|decide|omega) only[hA,gk,gk0,f0,f1,f4,gS,fT,hk,CI,ES,kn,kl,kn0,kl0,sA,iB,hi,n0,d5,go_sem]
  refine QA.nxt (DE _ _) ?_
  simp (disch:=first|decide|omega) only[hA,gk,gk0,f0,f1,f4,gS,fT,hk,CI,ES,kn,kl,kn0,kl0,sA,iB,hi,go_sem]
  refine QA.nxt (cE _) ?_
  obtain⟨w1,IE⟩:∃w1,evW w p ⟨1,0,0,0,[]⟩=w1:=⟨_,rfl⟩
  rw[IE]
  have e1:w1.sv.length=w.sv.length:=by rw[←IE];first|rfl|exact dj
  have e2:w1.tr.length=w.tr.length:=by rw[←IE];first|rfl|exact jF
  have LH:w1.sv.getD p dfSv=s:=by rw[←IE];first|exact hs|(show (w.sv.set p _).getD p dfSv=_;rw[ap,ay hp,hs];rfl)
  obtain⟨SV1,qH⟩:∃SV1,bG w1 p (q+1)=SV1:=⟨_,rfl⟩
  obtain⟨F1,EL⟩:∃F1,mvF f' w1 p q=F1:=⟨_,rfl⟩
  obtain⟨wU,gS1,g0,g1,g4⟩:=gE (by rw[e1];exact hp) (by rw[e2];exact SL) EL LH qH
  have uI:=AK (f':=f') (q:=q) (c:=x.b) (show p<w1.sv.length by rw[e1];exact hp) LH
  rw[qH,EL]at uI
  rw[e1]at wU g0 uI
  rw[EL]
  simp (disch:=first|decide|omega) only[hA,gk,gk0,g0,g1,g4,wU,gS1,hk,ES,kn,kl,kn0,kl0,sA,iB,go_sem]
  rw[uI]
  have zH:stM w p=pcW w1 p (x.b):=by rw[hM,pG,if_pos rfl,←IE];exact (vQ hs).symm
  have AJ:(stW w p).2=0:=by rw[pG]
  rw[AJ,zH]
  exact DC (xs:=[.v (.int .i64 0)]) (.inr rfl) kR kO (by rw[GA];exact hRw _) hb (KH _) ⟨rfl,rfl,rfl⟩
 obtain⟨j,hj,rG,hja,hjf⟩:=ZEE (n:=w.net) (to:=p) oM
 obtain⟨mg,P7⟩:∃mg,w.net.l.getD j dfMs=mg:=⟨_,rfl⟩
 have Y1:mg∈w.net.l:=by rw[←P7,YA rG];exact am rG
 obtain⟨JJ,_⟩:=Z9 hw.tr (hw.msg mg Y1)
 obtain⟨v,hbv⟩:∃v,mg.body=[v]:=List.length_eq_one_iff.1 JJ
 have kU:vlB v=true:=by
  have:=hw.net.ms mg Y1
  unfold msB at this
  simp only[au,bg]at this
  exact this.2.2.2.2.2 v (by rw[hbv];simp)
 have cR:=cRc x i hi yW oM j hj mg P7 v hbv kU
 rw[hi]at cR
 have IE:0<uH w.net p:=by
  unfold uH
  rw[if_pos ⟨hvn,hpo⟩]
  exact ZDc rG hja
 have n0:((uH w.net p:Int)==0)=false:=dy.2 oM
 have hRv:G7 w p s x=if (DB w.tr 3 mg.nu).2>0 then {aF w p s dfEv54 with net:=woN w.net j} else {aF w p (Sv.put {s with pc:=s.pc+1} i v) (yO 3 mg.fr mg.nu i v) with net:=woN w.net j}:=by
  unfold G7
  rw[if_neg hf,hj,cj,P7,hi,cj,hbv];rfl
 rw[←MK (bI hw.tr)]at hRv
 rw[hRv]at pG
 clear hjf
 by_cases ha:0<(EB w.tr 3 mg.nu).2
 ·rw[if_pos ha,ae ha]at cR
  rw[if_pos (show (EB w.tr 3 mg.nu).2>0 from ha)]at pG
  rcases o45 with o4|o5
  ·have d5:(x.op==5)=false:=by rw[o4];rfl
   simp (disch:=first|decide|omega) only[a_mstp,hA,gk,gk0,f0,f1,f4,gS,fT,hk,CI,ES,kn,kl,kn0,kl0,sA,iB,hi,d1,d2,d7,d6,d3,d5,go_sem]
   clear IE n0
   refine QA.nxt (cR _) ?_
   obtain⟨w1,IE⟩:∃w1,evW {w with net:=woN w.net j} p ⟨1,0,0,0,[]⟩=w1:=⟨_,rfl⟩
   rw[IE]
   have e1:w1.sv.length=w.sv.length:=by rw[←IE];first|rfl|exact dj
   have e2:w1.tr.length=w.tr.length:=by rw[←IE];first|rfl|exact jF
   have LH:w1.sv.getD p dfSv=s:=by rw[←IE];first|exact hs|(show (w.sv.set p _).getD p dfSv=_;rw[ap,ay hp,hs];rfl)
   obtain⟨SV1,qH⟩:∃SV1,bG w1 p (q+1)=SV1:=⟨_,rfl⟩
   obtain⟨F1,EL⟩:∃F1,mvF f' w1 p q=F1:=⟨_,rfl⟩
   obtain⟨wU,gS1,g0,g1,g4⟩:=gE (by rw[e1];exact hp) (by rw[e2];exact SL) EL LH qH
   have uI:=AK (f':=f') (q:=q) (c:=((k:Nat):Int)) (show p<w1.sv.length by rw[e1];exact hp) LH
   rw[qH,EL]at uI
   rw[e1]at wU g0 uI
   rw[EL]
   simp (disch:=first|decide|omega) only[hA,gk,gk0,g0,g1,g4,wU,gS1,hk,ES,kn,kl,kn0,kl0,sA,iB,go_sem]
   rw[uI]
   have zH:stM w p=pcW w1 p (((k:Nat):Int)):=by rw[←hk,hM,pG,if_pos rfl,←IE];exact (vQ (w:={w with net:=woN w.net j}) hs).symm
   have AJ:(stW w p).2=0:=by rw[pG]
   rw[AJ,zH]
   exact DC (xs:=[.v (.int .i64 0)]) (.inr rfl) kR kO (by rw[GA];exact hRw _) hb (KH _) ⟨rfl,rfl,rfl⟩

  ·have d5:(x.op==5)=true:=by rw[o5];rfl
   simp (disch:=first|decide|omega) only[a_mstp,hA,gk,gk0,f0,f1,f4,gS,fT,hk,CI,ES,kn,kl,kn0,kl0,sA,iB,hi,d1,d2,d7,d6,d3,d5,go_sem]
   refine QA.nxt (cW _ _) ?_
   simp (disch:=first|decide|omega) only[hA,gk,gk0,f0,f1,f4,gS,fT,hk,CI,ES,kn,kl,kn0,kl0,sA,iB,hi,n0,d5,go_sem]
   clear IE n0
   refine QA.nxt (cR _) ?_
   obtain⟨w1,IE⟩:∃w1,evW {w with net:=woN w.net j} p ⟨1,0,0,0,[]⟩=w1:=⟨_,rfl⟩
   rw[IE]
   have e1:w1.sv.length=w.sv.length:=by rw[←IE];first|rfl|exact dj
   have e2:w1.tr.length=w.tr.length:=by rw[←IE];first|rfl|exact jF
   have LH:w1.sv.getD p dfSv=s:=by rw[←IE];first|exact hs|(show (w.sv.set p _).getD p dfSv=_;rw[ap,ay hp,hs];rfl)
   obtain⟨SV1,qH⟩:∃SV1,bG w1 p (q+1)=SV1:=⟨_,rfl⟩
   obtain⟨F1,EL⟩:∃F1,mvF f' w1 p q=F1:=⟨_,rfl⟩
   obtain⟨wU,gS1,g0,g1,g4⟩:=gE (by rw[e1];exact hp) (by rw[e2];exact SL) EL LH qH
   have uI:=AK (f':=f') (q:=q) (c:=((k:Nat):Int)) (show p<w1.sv.length by rw[e1];exact hp) LH
   rw[qH,EL]at uI
   rw[e1]at wU g0 uI
   rw[EL]
   simp (disch:=first|decide|omega) only[hA,gk,gk0,g0,g1,g4,wU,gS1,hk,ES,kn,kl,kn0,kl0,sA,iB,go_sem]
   rw[uI]
   have zH:stM w p=pcW w1 p (((k:Nat):Int)):=by rw[←hk,hM,pG,if_pos rfl,←IE];exact (vQ (w:={w with net:=woN w.net j}) hs).symm
   have AJ:(stW w p).2=0:=by rw[pG]
   rw[AJ,zH]
   exact DC (xs:=[.v (.int .i64 0)]) (.inr rfl) kR kO (by rw[GA];exact hRw _) hb (KH _) ⟨rfl,rfl,rfl⟩
 ·rw[if_neg ha,ag ha]at cR
  rw[if_neg (show ¬(EB w.tr 3 mg.nu).2>0 from ha)]at pG
  rcases o45 with o4|o5
  ·have d5:(x.op==5)=false:=by rw[o4];rfl
   simp (disch:=first|decide|omega) only[a_mstp,hA,gk,gk0,f0,f1,f4,gS,fT,hk,CI,ES,kn,kl,kn0,kl0,sA,iB,hi,d1,d2,d7,d6,d3,d5,go_sem]
   clear IE n0
   refine QA.nxt (cR _) ?_
   obtain⟨w1,IE⟩:∃w1,asW {w with net:=woN w.net j} p ⟨3,mg.fr,mg.nu,0,[]⟩ i v=w1:=⟨_,rfl⟩
   rw[IE]
   have e1:w1.sv.length=w.sv.length:=by rw[←IE];first|rfl|exact dj
   have e2:w1.tr.length=w.tr.length:=by rw[←IE];first|rfl|exact jF
   have LH:w1.sv.getD p dfSv=s.put i v:=by rw[←IE];first|exact hs|(show (w.sv.set p _).getD p dfSv=_;rw[ap,ay hp,hs];rfl)
   obtain⟨SV1,qH⟩:∃SV1,bG w1 p (q+1)=SV1:=⟨_,rfl⟩
   obtain⟨F1,EL⟩:∃F1,mvF f' w1 p q=F1:=⟨_,rfl⟩
   obtain⟨wU,gS1,g0,g1,g4⟩:=gE (by rw[e1];exact hp) (by rw[e2];exact SL) EL LH qH
   have uI:=AK (f':=f') (q:=q) (c:=((k+1:Nat):Int)) (show p<w1.sv.length by rw[e1];exact hp) LH
   rw[qH,EL]at uI
   rw[e1]at wU g0 uI
   rw[EL]
   simp (disch:=first|decide|omega) only[hA,gk,gk0,g0,g1,g4,wU,gS1,hk,ES,kn,kl,kn0,kl0,sA,iB,hi,go_sem]
   rw[uI]
   have zH:stM w p=pcW w1 p (((k+1:Nat):Int)):=by rw[hk1,hM,pG,if_pos rfl,←IE];exact (OS (w:={w with net:=woN w.net j}) hp hs).symm
   have AJ:(stW w p).2=0:=by rw[pG]
   rw[AJ,zH]
   exact DC (xs:=[.v (.int .i64 0)]) (.inr rfl) kR kO (by rw[GA];exact hRw _) hb (KH _) ⟨rfl,rfl,rfl⟩

  ·have d5:(x.op==5)=true:=by rw[o5];rfl
   simp (disch:=first|decide|omega) only[a_mstp,hA,gk,gk0,f0,f1,f4,gS,fT,hk,CI,ES,kn,kl,kn0,kl0,sA,iB,hi,d1,d2,d7,d6,d3,d5,go_sem]
   refine QA.nxt (cW _ _) ?_
   simp (disch:=first|decide|omega) only[hA,gk,gk0,f0,f1,f4,gS,fT,hk,CI,ES,kn,kl,kn0,kl0,sA,iB,hi,n0,d5,go_sem]
   clear IE n0
   refine QA.nxt (cR _) ?_
   obtain⟨w1,IE⟩:∃w1,asW {w with net:=woN w.net j} p ⟨3,mg.fr,mg.nu,0,[]⟩ i v=w1:=⟨_,rfl⟩
   rw[IE]
   have e1:w1.sv.length=w.sv.length:=by rw[←IE];first|rfl|exact dj
   have e2:w1.tr.length=w.tr.length:=by rw[←IE];first|rfl|exact jF
   have LH:w1.sv.getD p dfSv=s.put i v:=by rw[←IE];first|exact hs|(show (w.sv.set p _).getD p dfSv=_;rw[ap,ay hp,hs];rfl)
   obtain⟨SV1,qH⟩:∃SV1,bG w1 p (q+1)=SV1:=⟨_,rfl⟩
   obtain⟨F1,EL⟩:∃F1,mvF f' w1 p q=F1:=⟨_,rfl⟩
   obtain⟨wU,gS1,g0,g1,g4⟩:=gE (by rw[e1];exact hp) (by rw[e2];exact SL) EL LH qH
   have uI:=AK (f':=f') (q:=q) (c:=((k+1:Nat):Int)) (show p<w1.sv.length by rw[e1];exact hp) LH
   rw[qH,EL]at uI
   rw[e1]at wU g0 uI
   rw[EL]
   simp (disch:=first|decide|omega) only[hA,gk,gk0,g0,g1,g4,wU,gS1,hk,ES,kn,kl,kn0,kl0,sA,iB,hi,go_sem]
   rw[uI]
   have zH:stM w p=pcW w1 p (((k+1:Nat):Int)):=by rw[hk1,hM,pG,if_pos rfl,←IE];exact (OS (w:={w with net:=woN w.net j}) hp hs).symm
   have AJ:(stW w p).2=0:=by rw[pG]
   rw[AJ,zH]
   exact DC (xs:=[.v (.int .i64 0)]) (.inr rfl) kR kO (by rw[GA];exact hRw _) hb (KH _) ⟨rfl,rfl,rfl⟩
theorem MN {m id ver sz:Nat} {rows:List (List IV)} {x:AV} (h:AVlt m x) (hm:m≤id):YF id ver sz rows x=x:=by
 cases h with
 |sl i v o n hi=>simp only[YF];rw[if_neg oM]
 |_=>rfl
theorem q9 {m id ver sz:Nat} {rows:List (List IV)} {x:AV} (h:AVlt m x) (hm:m≤id):frz id ver sz rows x=x:=by
 cases h with
 |agg cs hc =>
   simp only[frz]
   congr 1
   rw[iy (fun c iW=>MN (hc c iW) hm),kg]
 |tup cs hc =>
   simp only[frz]
   congr 1
   rw[iy (fun c iW=>MN (hc c iW) hm),kg]
 |sl i v o n hi=>exact MN (.sl i v o n hi) hm
 |_=>rfl
theorem EF.frzX {f:Nat→AV} {m id ver sz:Nat} {rows:List (List IV)} (hm:m≤id):∀{ov:List (Nat×AV)},EF f ov→EI m ov→EF (fun n=>frz id ver sz rows (f n)) ov
 |[],_,_=>trivial
 |(n,x)::r,h,ho=>⟨by show Go.Proofs.YtmaokjojbjdpoaaGreatDoor.frz id ver sz rows (f n)=x;rw[h.1];exact q9 ho.1 hm,EF.frzX hm h.2 ho.2⟩
theorem ZGQ {m id ver sz:Nat} {rows:List (List IV)} (hm:m≤id) {els:List (List AV)} (h:∀r∈els,∀c∈r,AVlt m c):els.map (·.map (YF id ver sz rows))=els:=by
 rw[iy (g:=fun r=>r) (fun r hr=>by rw[iy (fun c hc=>MN (h r hr c hc) hm),kg]),kg]
theorem ZCZ {m id ver sz:Nat} {rows:List (List IV)} {h:List Row} (hh:tA m h) (hm:m≤id):h.map (TF (YF id ver sz rows))=h:=by
 refine lh kS (fun i h1 h2=>?_)
 rw[lk]
 cases hr:h[i] with
 |dead v=>rfl
 |live v s els =>
   have:=hh i v s els (by rw[ah h2,hr])
   unfold TF
   simp only
   rw[ZGQ hm this]
theorem KA.kfz {N:Nat} {p:List (Nat×Nat)} {ov:List (Nat×AV)} {f g:Nat→AV} {b l l2 l':List Row} {k i ver sz:Nat} {rows:List (List IV)} (hi:l[i]? = some (.live ver sz (vs rows))) (he:pF p f=g) (h:EF f ov) (hl:(l.set i (.dead ver)).map (TF (YF (b.length+i) ver sz rows))=l2) (hE:KLt (b.length+k) g) (hki:k≤i) (ho:EI (b.length+i) ov)
  (hw:∀f',pF p f'=g→EF f' ov→KA (kOf N f') b l2 (kOf N (kOv ov g)) b l'):KA (kOf N f) b l (kOf N (kOv ov g)) b l':=by
 have h2:=KA.freezeR (e:=kOf N f) (b:=b) hi
 have h3:(kOf N f).map (frz (b.length+i) ver sz rows)=kOf N (fun n=>frz (b.length+i) ver sz rows (f n)):=by unfold kOf;rw[List.map_map];rfl
 rw[h3,hl]at h2
 refine h2.trans (hw _ ?_ (h.frzX (m:=b.length+i) (ai _) ho))
 rw[←he]
 funext n
 unfold pF
 split
 ·rfl
 ·rename_i hn
  have hf:f n=g n:=by rw[←he];unfold pF;rw[if_neg hn]
  show frz (b.length+i) ver sz rows (f n)=f n
  rw[hf]
  exact q9 (m:=b.length+k) (id:=b.length+i) (hE n) oM
theorem tA.fl {m n:Nat} {C:Nat→Row} (h:∀i,i<n→∀ver sz els,C i=.live ver sz els→∀row∈els,∀c∈row,AVlt m c):tA m (fl n C):=fun id ver sz els hr row sD c hc=>by
 by_cases hid:id<n
 ·rw[eD hid]at hr;exact h id hid ver sz els (ja hr) row sD c hc
 ·rw[mH oM]at hr;cases hr
def a_wcop:AFunc:=({c:=_}:CF Tryz.prog 49).c
theorem ZAv:jA Tryz.prog 49=some a_wcop:=by kernel_rfl
def NQ:List (Nat×Nat):=[(5,5),(22,40)]
def TQ:List (Nat×Nat):=[(7,8),(10,10),(45,81)]
def mM:List (Nat×Nat):=[(10,10),(58,72)]

theorem ZW (v:List In) (hn:v.length≤1000000) (b l:List Row):QA Tryz.prog 97 [.v (.isl 3 (v.map eIn))] b l (fun r b' l'=>r=.v (.isl 3 (v.map eIn))∧b'=b∧l'=l):=
 QA.deep (x:=.sl (b.length+l.length+0) 1 0 v.length) (Dv.slV (i:=0) rfl (by rw[aa])) (jY v hn b l)
theorem OV (v:List Vr) (hn:v.length≤1000000) (b l:List Row):QA Tryz.prog 99 [.v (.isl 2 (v.map eVr))] b l (fun r b' l'=>r=.v (.isl 2 (v.map eVr))∧b'=b∧l'=l):=
 QA.deep (x:=.sl (b.length+l.length+0) 1 0 v.length) (Dv.slV (i:=0) rfl (by rw[aa])) (qY v hn b l)
theorem jK (v:List Asg) (hn:v.length≤1000000) (b l:List Row):QA Tryz.prog 100 [.v (.isl 2 (v.map uL))] b l (fun r b' l'=>r=.v (.isl 2 (v.map uL))∧b'=b∧l'=l):=
 QA.deep (x:=.sl (b.length+l.length+0) 1 0 v.length) (Dv.slV (i:=0) rfl (by rw[aa])) (vY v hn b l)
theorem KA.kroundG {N:Nat} {p:List (Nat×Nat)} {ov:List (Nat×AV)} {f g:Nat→AV} {b l l1 junk:List Row} {k i ver sz:Nat} {rows:List (List IV)} (hi:l[i]? = some (.live ver sz (vs rows))) (he:pF p f=g) (h:EF f ov) (hl:(l.set i (.dead ver)).map (TF (YF (b.length+i) ver sz rows))=l1++junk) (hE:KLt (b.length+k) g) (hk:k≤l1.length) (hki:l1.length≤i) (ho:EI (b.length+l1.length) ov) (hb:tA b.length b) (h1:tA (b.length+l1.length) l1)
  (ho2:EI (b.length+i) ov):KA (kOf N f) b l (kOf N (kOv ov g)) b l1:=
 KA.kfz (k:=k) hi he h hl hE oM ho2 (fun f' he' h'=>KA.kround (p:=p) (k:=k) (junk:=junk) he' h' rfl hE hk ho hb h1)
def cvS (w:Wd) (p id i:Nat):List (List AV):=(bG w p id).take i
def cvP (w:Wd) (p id i:Nat):List (List AV):=(zO w p id).take i
theorem s9 {w:Wd} {p id i:Nat} (h:i≤w.sv.length):(cvS w p id i).length=i:=by unfold cvS;rw[cf,lF];omega
theorem t9 {w:Wd} {p id i:Nat} (h:i≤w.tr.length):(cvP w p id i).length=i:=by unfold cvP;rw[cf,aH];omega
theorem ZI1 {w:Wd} {p id i:Nat} (h:i≤w.sv.length):(cvS w p id i).take i=cvS w p id i:=cr (by rw[s9 h];omega)
theorem ZI2 {w:Wd} {p id i:Nat} (h:i≤w.tr.length):(cvP w p id i).take i=cvP w p id i:=cr (by rw[t9 h];omega)
theorem cvS_p {w:Wd} {p id:Nat} (h:p<w.sv.length):cvS w p id p++[svL (w.sv.getD p dfSv) id]=cvS w p id (p+1):=by
 unfold cvS;rw[fw,xN h];rfl
theorem ZHB {w:Wd} {p id i:Nat} (h:i<w.sv.length) (hn:p≠i):cvS w p id i++[(eSv (w.sv.getD i dfSv)).map .v]=cvS w p id (i+1):=by
 unfold cvS;rw[fw,A6 h hn];rfl
theorem cvP_p {w:Wd} {p id:Nat} (h:p<w.tr.length):cvP w p id p++[prL (w.tr.getD p dfPr) id]=cvP w p id (p+1):=by
 unfold cvP;rw[fw,yX h];rfl
theorem ZHC {w:Wd} {p id i:Nat} (h:i<w.tr.length) (hn:p≠i):cvP w p id i++[(ePr (w.tr.getD i dfPr)).map .v]=cvP w p id (i+1):=by
 unfold cvP;rw[fw,O6 h hn];rfl
theorem ZGT {w:Wd} {p id i m:Nat} (h:i≤p):∀row∈cvS w p id i,∀c∈row,AVlt m c:=fun row hr=>by
 unfold cvS bG at hr
 rw[List.take_set_of_le h]at hr
 exact (CK.2 trivial) row (dt hr)
theorem PW {w:Wd} {p id i m:Nat} (h:i≤p):∀row∈cvP w p id i,∀c∈row,AVlt m c:=fun row hr=>by
 unfold cvP zO at hr
 rw[List.take_set_of_le h]at hr
 exact (CK.2 trivial) row (dt hr)
theorem ZEG {w:Wd} {p id i m:Nat} (h:id<m):∀row∈cvS w p id i,∀c∈row,AVlt m c:=fun row hr=>fW h row (dt hr)
theorem j7 {w:Wd} {p id i m:Nat} (h:id<m):∀row∈cvP w p id i,∀c∈row,AVlt m c:=fun row hr=>O8 h row (dt hr)
theorem JM {m id ver sz:Nat} {rows:List (List IV)} {els:List (List AV)} (h:∀row∈els,∀c∈row,AVlt m c) (hm:m≤id):els.map (fun r=>r.map (YF id ver sz rows))=els:=by
 have:=ZCZ (m:=m) (id:=id) (ver:=ver) (sz:=sz) (rows:=rows) (h:=[.live 0 0 els]) (qE.2 ⟨h,uE⟩) hm
 simpa [TF] using this
theorem z9 {m id ver sz v z:Nat} {rows:List (List IV)} {els:List (List AV)} {r:List AV} (h:∀row∈els,∀c∈row,AVlt m c) (hm:m≤id):TF (YF id ver sz rows) (.live v z (els++[r]))=.live v z (els++[r.map (YF id ver sz rows)]):=by
 unfold TF
 simp only[bq,bl,cd]
 rw[JM h hm]

def cp1 (B:List Row) (w:Wd) (p i:Nat):List Row:=if p<i then [.live 0 6 [[.v (.str (w.sv.getD p dfSv).name),.v (.isl 3 ((w.sv.getD p dfSv).code.map eIn)),.v (.int .i64 (w.sv.getD p dfSv).pc),.sl (B.length+5) 1 0 (w.sv.getD p dfSv).vars.length,.v (.int .i64 (w.sv.getD p dfSv).off),.v (.int .i64 (w.sv.getD p dfSv).rate)]],.live 1 1 (vs ((w.sv.getD p dfSv).vars.map eI))] else []
def cp2 (B:List Row) (w:Wd) (p i:Nat):List Row:=if p<i then [.live 0 3 [[.v (.str (w.tr.getD p dfPr).name),.v (.isl 2 ((w.tr.getD p dfPr).vars.map eVr)),.sl (B.length+8) (w.tr.getD p dfPr).evs.length 0 (w.tr.getD p dfPr).evs.length]],.live (w.tr.getD p dfPr).evs.length 5 (vs ((w.tr.getD p dfPr).evs.map eEv))] else []
abbrev zSB (x:Sv) (B:List Row):List AV:=[.v (.str x.name),.v (.isl 3 (x.code.map eIn)),.v (.int .i64 x.pc),.sl (B.length+5) 1 0 x.vars.length,.v (.int .i64 x.off),.v (.int .i64 x.rate)]
abbrev zZA:List AV:=[.v .zsl,.v (.int .i64 0),.v (.bool false),.v .zsl,.v .zsl,.v .zsl,.v (.int .i64 0),.v (.int .i64 0),.v .zsl]
theorem GP (w:Wd) (qN:SvsS w.sv) (hS:Small w.tr) (hN:NwS w.net) (p:Nat) (hp:p<w.sv.length) (SL:p<w.tr.length) (b l:List Row) :
  QA Tryz.prog 49 [.agg ((eWd w).map .v)] b l (fun r b' l'=>r=.agg (mvC w (b.length+l.length))∧b'=b∧l'=l++ZEg w p (b.length+l.length)):=by
 refine XA ZAv rfl kE ?_
 intro B g hB hR hE hA;simp only[zA]at hA
 have iQ:(eWd w).map AV.v=(zWA w):=rfl
 rw[iQ]at hA
 have JX:=qN.len
 have dW:=hS.np
 have cN:=fun b l=>I9 w.net hN b l
 simp only[eNw,bl,cd]at cN
 have c10:cp1 B w p 0=[]:=if_neg oM
 have c20:cp2 B w p 0=[]:=if_neg oM
 have s0:cvS w p (B.length+5) 0=[]:=rfl
 have p0:cvP w p (B.length+8) 0=[]:=rfl
 simp (disch:=first|decide|omega) only[a_wcop,hA,cellsOf,go_sem]
 refine QA.nxt (cN _ _) ?_
 simp (disch:=first|decide|omega) only[hA,aa,go_sem]
 refine JA (ι:=Nat) NQ (fun i=>[(22,.v (.int .i64 i))]) 3 (fun i=>[.live 0 9 [(zWA w)],.live 0 9 [zZA],.live 0 9 [[.sl (B.length+3) i 0 i,.v (.int .i64 w.net.now),.v (.bool w.net.fifo),.v (.isl 4 (w.net.l.map eMs)),.v (.isl 1 (w.net.tm.map eI)),.v (.isl 2 (w.net.fates.map eFt)),.v (.int .i64 w.now),.v (.int .i64 w.sent),.v .zsl]],.live i 6 (cvS w p (B.length+5) i)]++cp1 B w p i)
  (fun i=>i≤w.sv.length) (fun i=>w.sv.length-i) 0 (aj _) kM kA (fun e=>by
   rw[c10,s0]
   exact KA.nilcell (e:=e) (b:=B) (l:=[.live 0 9 [(zWA w)],.live 0 9 [zZA],.live 0 9 [[.v .zsl,.v (.int .i64 w.net.now),.v (.bool w.net.fifo),.v (.isl 4 (w.net.l.map eMs)),.v (.isl 1 (w.net.tm.map eI)),.v (.isl 2 (w.net.fates.map eFt)),.v (.int .i64 w.now),.v (.int .i64 w.sent),.v .zsl]]]) (i:=2) (k:=0) (j:=0) (sz:=6) rfl rfl rfl) ?_
 intro g1 UG mF rA i hi
 by_cases yA:i<w.sv.length
 ·have FM:=CG yA
  have hSs:=qN.all w.sv[i] (am yA)
  have hsc:=hSs.code
  have ZJE:=hSs.vars
  have kJ:w.sv.getD i dfSv=w.sv[i]:=YA yA
  obtain⟨s,hs⟩:∃s,w.sv[i]=s:=⟨_,rfl⟩
  rw[hs]at FM hsc ZJE kJ
  have cC:=fun b l=>ZW s.code hsc b l
  have cVv:=fun b l=>eN s.vars ZJE b l
  have cVl:=fun b l=>qI s.vars ZJE b l
  have tl:=s9 (w:=w) (p:=p) (id:=B.length+5) hi
  have tk:=ZI1 (w:=w) (p:=p) (id:=B.length+5) hi
  rcases lq i p with hlp|hep|BI
  ·have c1:cp1 B w p i=[]:=if_neg oM
   have c2:cp1 B w p (i+1)=[]:=if_neg oM
   have sn:cvS w p (B.length+5) i++[(zSA s)]=cvS w p (B.length+5) (i+1):=by have:=ZHB (w:=w) (p:=p) (id:=B.length+5) yA oM;rw[kJ]at this;exact this
   have lt1:∀m,(∀row∈cvS w p (B.length+5) (i+1),∀c∈row,AVlt m c):=fun m=>ZGT oM
   rw[c1]
   simp (disch:=first|decide|omega) only[hA,rA,FM,tl,tk,bx,ca,reduceCtorEq,iB,go_sem]
   refine QA.nxt (cC _ _) ?_
   simp (disch:=first|decide|omega) only[hA,rA,FM,tl,tk,bx,ca,reduceCtorEq,iB,go_sem]
   refine QA.nxt (cVv _ _) ?_
   simp (disch:=first|decide|omega) only[hA,rA,FM,tl,tk,bx,ca,reduceCtorEq,iB,go_sem]
   rw[sn]
   refine⟨i+1,yA,by simp only;omega,?_⟩
   simp only
   rw[c2]
   have h0:=lt1 (B.length+4)
   exact KA.kround (p:=NQ) (k:=3) (junk:=[_,_]) kQ kA rfl UG kS kV hR (by simp (disch:=omega) only[eq_true h0,lts.down,Nat.reduceLT,Nat.reduceAdd])
  ·have ZJF:=hep.symm
   subst ZJF
   have c1:cp1 B w p p=[]:=if_neg oM
   have c2:cp1 B w p (p+1)=[.live 0 6 [(zSB (w.sv.getD p dfSv) B)],.live 1 1 (vs ((w.sv.getD p dfSv).vars.map eI))]:=if_pos oM
   rw[kJ]at c2
   have sn:cvS w p (B.length+5) p++[(zSB s B)]=cvS w p (B.length+5) (p+1):=by have:=cvS_p (w:=w) (p:=p) (id:=B.length+5) yA;rw[kJ]at this;exact this
   have lt1:∀m,B.length+6≤m→(∀row∈cvS w p (B.length+5) (p+1),∀c∈row,AVlt m c):=fun m h=>ZEG oM
   rw[c1]
   simp (disch:=first|decide|omega) only[hA,rA,FM,tl,tk,bx,ca,reduceCtorEq,iB,go_sem]
   refine QA.nxt (cC _ _) ?_
   simp (disch:=first|decide|omega) only[hA,rA,FM,tl,tk,bx,ca,reduceCtorEq,iB,go_sem]
   refine QA.nxt (cVl _ _) ?_
   simp (disch:=first|decide|omega) only[hA,rA,FM,tl,tk,bx,ca,reduceCtorEq,iB,go_sem]
   rw[sn]
   refine⟨p+1,yA,by simp only;omega,?_⟩
   simp only
   rw[c2]
   have h0:=lt1 (B.length+6) oM
   exact KA.kround (p:=NQ) (k:=3) (junk:=[_]) kQ kA rfl UG kS kV hR (by simp (disch:=omega) only[eq_true h0,lts.down,Nat.reduceLT,Nat.reduceAdd])
  ·have c1:cp1 B w p i=[.live 0 6 [(zSB (w.sv.getD p dfSv) B)],.live 1 1 (vs ((w.sv.getD p dfSv).vars.map eI))]:=if_pos oM
   have c2:cp1 B w p (i+1)=[.live 0 6 [(zSB (w.sv.getD p dfSv) B)],.live 1 1 (vs ((w.sv.getD p dfSv).vars.map eI))]:=if_pos oM
   have sn:cvS w p (B.length+5) i++[(zSA s)]=cvS w p (B.length+5) (i+1):=by have:=ZHB (w:=w) (p:=p) (id:=B.length+5) yA oM;rw[kJ]at this;exact this
   have lt1:∀m,B.length+6≤m→(∀row∈cvS w p (B.length+5) (i+1),∀c∈row,AVlt m c):=fun m h=>ZEG oM
   rw[c1]
   simp (disch:=first|decide|omega) only[hA,rA,FM,tl,tk,bx,ca,reduceCtorEq,iB,go_sem]
   refine QA.nxt (cC _ _) ?_
   simp (disch:=first|decide|omega) only[hA,rA,FM,tl,tk,bx,ca,reduceCtorEq,iB,go_sem]
   refine QA.nxt (cVv _ _) ?_
   simp (disch:=first|decide|omega) only[hA,rA,FM,tl,tk,bx,ca,reduceCtorEq,iB,go_sem]
   rw[sn]
   refine⟨i+1,yA,by simp only;omega,?_⟩
   simp only
   rw[c2]
   have h0:=lt1 (B.length+6) oM
   exact KA.kround (p:=NQ) (k:=3) (junk:=[_,_]) kQ kA rfl UG kS kV hR (by simp (disch:=omega) only[eq_true h0,lts.down,Nat.reduceLT,Nat.reduceAdd])
 obtain rfl:i=w.sv.length:=by omega
 have c1:cp1 B w p w.sv.length=[.live 0 6 [(zSB (w.sv.getD p dfSv) B)],.live 1 1 (vs ((w.sv.getD p dfSv).vars.map eI))]:=if_pos oM
 have tS:cvS w p (B.length+5) w.sv.length=bG w p (B.length+5):=cr (by rw[lF];omega)
 rw[c1,tS]
 obtain⟨SV,M7⟩:∃SV,bG w p (B.length+5)=SV:=⟨_,rfl⟩
 have ZCH:∀m,B.length+6≤m→(∀row∈SV,∀c∈row,AVlt m c):=fun m h=>by rw[←M7];exact fW oM
 rw[M7]
 obtain⟨s,hs⟩:∃s,w.sv.getD p dfSv=s:=⟨_,rfl⟩
 simp (disch:=first|decide|omega) only[hA,rA,aa,go_sem]
 refine JA (ι:=Nat) TQ (fun i=>[(45,.v (.int .i64 i))]) 6 (fun i=>[.live 0 9 [(zWA w)],.live 0 9 [zZA],.live 0 9 [[.sl (B.length+3) w.sv.length 0 w.sv.length,.v (.int .i64 w.net.now),.v (.bool w.net.fifo),.v (.isl 4 (w.net.l.map eMs)),.v (.isl 1 (w.net.tm.map eI)),.v (.isl 2 (w.net.fates.map eFt)),.v (.int .i64 w.now),.v (.int .i64 w.sent),.sl (B.length+6) i 0 i]],.live w.sv.length 6 SV,.live 0 6 [(zSB (w.sv.getD p dfSv) B)],.live 1 1 (vs ((w.sv.getD p dfSv).vars.map eI)),.live i 3 (cvP w p (B.length+8) i)]++cp2 B w p i)
  (fun i=>i≤w.tr.length) (fun i=>w.tr.length-i) 0 (aj _) kM kA (fun e=>by
   rw[c20,p0]
   exact KA.nilcell (e:=e) (b:=B) (l:=[.live 0 9 [(zWA w)],.live 0 9 [zZA],.live 0 9 [[.sl (B.length+3) w.sv.length 0 w.sv.length,.v (.int .i64 w.net.now),.v (.bool w.net.fifo),.v (.isl 4 (w.net.l.map eMs)),.v (.isl 1 (w.net.tm.map eI)),.v (.isl 2 (w.net.fates.map eFt)),.v (.int .i64 w.now),.v (.int .i64 w.sent),.v .zsl]],.live w.sv.length 6 SV,.live 0 6 [(zSB (w.sv.getD p dfSv) B)],.live 1 1 (vs ((w.sv.getD p dfSv).vars.map eI))]) (i:=2) (k:=0) (j:=8) (sz:=3) rfl rfl rfl) ?_
 intro g2 AJ OP VE i hi
 by_cases yA:i<w.tr.length
 ·have hgr:=wI yA
  have VG:=hS.ne w.tr[i] (am yA)
  have hnv:=hS.nv w.tr[i] (am yA)
  have hna:=hS.na w.tr[i] (am yA)
  have kJ:w.tr.getD i dfPr=w.tr[i]:=YA yA
  obtain⟨x,hx⟩:∃x,w.tr[i]=x:=⟨_,rfl⟩
  rw[hx]at hgr VG hnv hna kJ
  have cV:=fun b l=>OV x.vars hnv b l
  have tl:=t9 (w:=w) (p:=p) (id:=B.length+8) hi
  have tk:=ZI2 (w:=w) (p:=p) (id:=B.length+8) hi
  have hxe:x.evs.take x.evs.length=x.evs:=ik
  rcases lq i p with hlp|hep|BI
  ·have c1:cp2 B w p i=[]:=if_neg oM
   have c2:cp2 B w p (i+1)=[]:=if_neg oM
   have lt1:∀m,(∀row∈cvP w p (B.length+8) (i+1),∀c∈row,AVlt m c):=fun m=>PW oM
   have lt0:∀m,(∀row∈cvP w p (B.length+8) i,∀c∈row,AVlt m c):=fun m=>PW oM
   have sn:cvP w p (B.length+8) i++[[.v (.str x.name),.v (.isl 2 (x.vars.map eVr)),.v (.isl 5 (x.evs.map eEv))]]=cvP w p (B.length+8) (i+1):=by have:=ZHC (w:=w) (p:=p) (id:=B.length+8) yA oM;rw[kJ]at this;exact this
   rw[c1]
   simp (disch:=first|decide|omega) only[hA,rA,VE,hgr,tl,tk,bx,ca,reduceCtorEq,iB,go_sem]
   refine QA.nxt (cV _ _) ?_
   simp (disch:=first|decide|omega) only[hA,rA,VE,hgr,tl,tk,bx,ca,reduceCtorEq,iB,go_sem]
   refine JA (ι:=Nat) mM (fun j=>[(58,.v (.int .i64 j))]) 8 (fun j=>[.live 0 9 [(zWA w)],.live 0 9 [zZA],.live 0 9 [[.sl (B.length+3) w.sv.length 0 w.sv.length,.v (.int .i64 w.net.now),.v (.bool w.net.fifo),.v (.isl 4 (w.net.l.map eMs)),.v (.isl 1 (w.net.tm.map eI)),.v (.isl 2 (w.net.fates.map eFt)),.v (.int .i64 w.now),.v (.int .i64 w.sent),.sl (B.length+6) i 0 i]],.live w.sv.length 6 SV,.live 0 6 [(zSB (w.sv.getD p dfSv) B)],.live 1 1 (vs ((w.sv.getD p dfSv).vars.map eI)),.live i 3 (cvP w p (B.length+8) i),.live 0 3 [[.v (.str x.name),.v (.isl 2 (x.vars.map eVr)),.sl (B.length+8) j 0 j]],.live j 5 (vs ((x.evs.take j).map eEv))]) (fun j=>j≤x.evs.length) (fun j=>x.evs.length-j) 0 (aj _) kM kA (fun e=>KA.nilcell (e:=e) (b:=B) (l:=[.live 0 9 [(zWA w)],.live 0 9 [zZA],.live 0 9 [[.sl (B.length+3) w.sv.length 0 w.sv.length,.v (.int .i64 w.net.now),.v (.bool w.net.fifo),.v (.isl 4 (w.net.l.map eMs)),.v (.isl 1 (w.net.tm.map eI)),.v (.isl 2 (w.net.fates.map eFt)),.v (.int .i64 w.now),.v (.int .i64 w.sent),.sl (B.length+6) i 0 i]],.live w.sv.length 6 SV,.live 0 6 [(zSB (w.sv.getD p dfSv) B)],.live 1 1 (vs ((w.sv.getD p dfSv).vars.map eI)),.live i 3 (cvP w p (B.length+8) i),.live 0 3 [[.v (.str x.name),.v (.isl 2 (x.vars.map eVr)),.v .zsl]]]) (i:=7) (k:=0) (j:=2) (sz:=5) rfl rfl rfl) ?_
   intro g3 FY UU dH j hj
   by_cases mK:j<x.evs.length
   ·have xH:=AG mK
    have hja:=hna x.evs[j] (am mK)
    have cA:=fun b l=>jK x.evs[j].asg hja b l
    have vl:((x.evs.take j).map eEv).length=j:=by rw[aa,cf];omega
    have vt:List.take j (vs ((x.evs.take j).map eEv))=vs ((x.evs.take j).map eEv):=cr (by rw[MB,vl];omega)
    have vt2:List.take j ((x.evs.take j).map eEv)=(x.evs.take j).map eEv:=cr (by rw[vl];omega)
    have S1:(x.evs.take j).map eEv++[[.int .i64 x.evs[j].kind,.int .i64 x.evs[j].peer,.int .i64 x.evs[j].msg,.int .i64 x.evs[j].time,.isl 2 (x.evs[j].asg.map uL)]]=(x.evs.take (j+1)).map eEv:=by rw[fw,ah mK,bq];rfl
    simp (disch:=first|decide|omega) only[hA,rA,VE,dH,xH,vl,vt,vt2,bx,ca,reduceCtorEq,iB,go_sem]
    refine QA.nxt (cA _ _) ?_
    simp (disch:=first|decide|omega) only[hA,rA,VE,dH,xH,vl,vt,vt2,bx,ca,reduceCtorEq,iB,go_sem]
    rw[S1]
    refine⟨j+1,mK,by simp only;omega,?_⟩
    have h1:=ZCH (B.length+9) oM
    have h0:=lt0 (B.length+9)
    exact KA.kround (p:=mM) (k:=8) (junk:=[_,_]) kQ kA rfl FY kS kV hR (by simp (disch:=omega) only[eq_true h0,eq_true h1,lts.down,Nat.reduceLT,Nat.reduceAdd])
   obtain rfl:j=x.evs.length:=by omega
   rw[hxe]
   simp (disch:=first|decide|omega) only[hA,rA,VE,dH,tl,tk,bx,ca,reduceCtorEq,iB,go_sem]
   refine⟨i+1,yA,by simp only;omega,?_⟩
   simp only
   rw[c2,←sn]
   have h0:=lt1 (B.length+7)
   rw[←sn]at h0
   have h1:=ZCH (B.length+7) oM
   refine KA.kroundG (i:=8) (ver:=x.evs.length) (sz:=5) (rows:=x.evs.map eEv) (junk:=[.live 0 3 [[.v (.str x.name),.v (.isl 2 (x.vars.map eVr)),.v (.isl 5 (x.evs.map eEv))]],.dead x.evs.length,.live 0 3 [[.v (.str x.name),.v (.isl 2 (x.vars.map eVr)),.v (.isl 5 (x.evs.map eEv))]]]) (p:=TQ) (k:=6) rfl kQ kA ?_ AJ kS kS kV hR (by simp (disch:=omega) only[eq_true h0,eq_true h1,lts.down,Nat.reduceLT,Nat.reduceAdd]) kV
   have hz:∀(a c d:Nat),a≠B.length+8→YF (B.length+8) x.evs.length 5 (x.evs.map eEv) (.sl a c 0 d)=.sl a c 0 d:=fun a c d h=>by simp[YF,h]
   have hy:YF (B.length+8) x.evs.length 5 (x.evs.map eEv) (.sl (B.length+8) x.evs.length 0 x.evs.length)=.v (.isl 5 (x.evs.map eEv)):=lS (by rw[aa])
   have hv:∀y:IV,YF (B.length+8) x.evs.length 5 (x.evs.map eEv) (.v y)=.v y:=fun _=>rfl
   have hSf:=JM (ver:=x.evs.length) (sz:=5) (rows:=x.evs.map eEv) h1 (show B.length+7≤B.length+8 by omega)
   have hPf:=z9 (ver:=x.evs.length) (sz:=5) (rows:=x.evs.map eEv) (v:=i+1) (z:=3) (r:=[.v (.str x.name),.v (.isl 2 (x.vars.map eVr)),.sl (B.length+8) x.evs.length 0 x.evs.length]) (lt0 (B.length+7)) (show B.length+7≤B.length+8 by omega)
   have hV:∀r:List (List IV),(vs r).map (fun y=>y.map (YF (B.length+8) x.evs.length 5 (x.evs.map eEv)))=vs r:=fun r=>JM (m:=0) (CK.2 trivial) (aj _)
   have ZFC:=hPf
   unfold TF at hPf
   simp only[bl,cd,hz,hy,hv]at ZFC
   simp only[da,dw,gv,gh,bl,cd,ZFC]
   unfold TF
   simp (disch:=omega) only[bl,cd,hz,hy,hv,hSf,hV]
  ·have ZJF:=hep.symm
   subst ZJF
   have c1:cp2 B w p p=[]:=if_neg oM
   have c2:cp2 B w p (p+1)=[.live 0 3 [[.v (.str (w.tr.getD p dfPr).name),.v (.isl 2 ((w.tr.getD p dfPr).vars.map eVr)),.sl (B.length+8) (w.tr.getD p dfPr).evs.length 0 (w.tr.getD p dfPr).evs.length]],.live (w.tr.getD p dfPr).evs.length 5 (vs ((w.tr.getD p dfPr).evs.map eEv))]:=if_pos oM
   rw[kJ]at c2
   have lt1:∀m,B.length+9≤m→(∀row∈cvP w p (B.length+8) (p+1),∀c∈row,AVlt m c):=fun m h=>j7 oM
   have lt0:∀m,(∀row∈cvP w p (B.length+8) p,∀c∈row,AVlt m c):=fun m=>PW oM
   have sn:cvP w p (B.length+8) p++[[.v (.str x.name),.v (.isl 2 (x.vars.map eVr)),.sl (B.length+8) x.evs.length 0 x.evs.length]]=cvP w p (B.length+8) (p+1):=by have:=cvP_p (w:=w) (p:=p) (id:=B.length+8) yA;rw[kJ]at this;exact this
   rw[c1]
   simp (disch:=first|decide|omega) only[hA,rA,VE,hgr,tl,tk,bx,ca,reduceCtorEq,iB,go_sem]
   refine QA.nxt (cV _ _) ?_
   simp (disch:=first|decide|omega) only[hA,rA,VE,hgr,tl,tk,bx,ca,reduceCtorEq,iB,go_sem]
   refine JA (ι:=Nat) mM (fun j=>[(58,.v (.int .i64 j))]) 8 (fun j=>[.live 0 9 [(zWA w)],.live 0 9 [zZA],.live 0 9 [[.sl (B.length+3) w.sv.length 0 w.sv.length,.v (.int .i64 w.net.now),.v (.bool w.net.fifo),.v (.isl 4 (w.net.l.map eMs)),.v (.isl 1 (w.net.tm.map eI)),.v (.isl 2 (w.net.fates.map eFt)),.v (.int .i64 w.now),.v (.int .i64 w.sent),.sl (B.length+6) p 0 p]],.live w.sv.length 6 SV,.live 0 6 [(zSB (w.sv.getD p dfSv) B)],.live 1 1 (vs ((w.sv.getD p dfSv).vars.map eI)),.live p 3 (cvP w p (B.length+8) p),.live 0 3 [[.v (.str x.name),.v (.isl 2 (x.vars.map eVr)),.sl (B.length+8) j 0 j]],.live j 5 (vs ((x.evs.take j).map eEv))]) (fun j=>j≤x.evs.length) (fun j=>x.evs.length-j) 0 (aj _) kM kA (fun e=>KA.nilcell (e:=e) (b:=B) (l:=[.live 0 9 [(zWA w)],.live 0 9 [zZA],.live 0 9 [[.sl (B.length+3) w.sv.length 0 w.sv.length,.v (.int .i64 w.net.now),.v (.bool w.net.fifo),.v (.isl 4 (w.net.l.map eMs)),.v (.isl 1 (w.net.tm.map eI)),.v (.isl 2 (w.net.fates.map eFt)),.v (.int .i64 w.now),.v (.int .i64 w.sent),.sl (B.length+6) p 0 p]],.live w.sv.length 6 SV,.live 0 6 [(zSB (w.sv.getD p dfSv) B)],.live 1 1 (vs ((w.sv.getD p dfSv).vars.map eI)),.live p 3 (cvP w p (B.length+8) p),.live 0 3 [[.v (.str x.name),.v (.isl 2 (x.vars.map eVr)),.v .zsl]]]) (i:=7) (k:=0) (j:=2) (sz:=5) rfl rfl rfl) ?_
   intro g3 FY UU dH j hj
   by_cases mK:j<x.evs.length
   ·have xH:=AG mK
    have hja:=hna x.evs[j] (am mK)
    have cA:=fun b l=>jK x.evs[j].asg hja b l
    have vl:((x.evs.take j).map eEv).length=j:=by rw[aa,cf];omega
    have vt:List.take j (vs ((x.evs.take j).map eEv))=vs ((x.evs.take j).map eEv):=cr (by rw[MB,vl];omega)
    have vt2:List.take j ((x.evs.take j).map eEv)=(x.evs.take j).map eEv:=cr (by rw[vl];omega)
    have S1:(x.evs.take j).map eEv++[[.int .i64 x.evs[j].kind,.int .i64 x.evs[j].peer,.int .i64 x.evs[j].msg,.int .i64 x.evs[j].time,.isl 2 (x.evs[j].asg.map uL)]]=(x.evs.take (j+1)).map eEv:=by rw[fw,ah mK,bq];rfl
    simp (disch:=first|decide|omega) only[hA,rA,VE,dH,xH,vl,vt,vt2,bx,ca,reduceCtorEq,iB,go_sem]
    refine QA.nxt (cA _ _) ?_
    simp (disch:=first|decide|omega) only[hA,rA,VE,dH,xH,vl,vt,vt2,bx,ca,reduceCtorEq,iB,go_sem]
    rw[S1]
    refine⟨j+1,mK,by simp only;omega,?_⟩
    have h1:=ZCH (B.length+9) oM
    have h0:=lt0 (B.length+9)
    exact KA.kround (p:=mM) (k:=8) (junk:=[_,_]) kQ kA rfl FY kS kV hR (by simp (disch:=omega) only[eq_true h0,eq_true h1,lts.down,Nat.reduceLT,Nat.reduceAdd])
   obtain rfl:j=x.evs.length:=by omega
   rw[hxe]
   simp (disch:=first|decide|omega) only[hA,rA,VE,dH,tl,tk,bx,ca,reduceCtorEq,iB,go_sem]
   refine⟨p+1,yA,by simp only;omega,?_⟩
   simp only
   rw[c2,sn]
   have h0:=lt1 (B.length+9) oM
   have h1:=ZCH (B.length+9) oM
   exact KA.kround (p:=TQ) (k:=6) (junk:=[_]) kQ kA rfl AJ kS kV hR (by simp (disch:=omega) only[eq_true h0,eq_true h1,lts.down,Nat.reduceLT,Nat.reduceAdd])
  ·have c1:cp2 B w p i=[.live 0 3 [[.v (.str (w.tr.getD p dfPr).name),.v (.isl 2 ((w.tr.getD p dfPr).vars.map eVr)),.sl (B.length+8) (w.tr.getD p dfPr).evs.length 0 (w.tr.getD p dfPr).evs.length]],.live (w.tr.getD p dfPr).evs.length 5 (vs ((w.tr.getD p dfPr).evs.map eEv))]:=if_pos oM
   have c2:cp2 B w p (i+1)=[.live 0 3 [[.v (.str (w.tr.getD p dfPr).name),.v (.isl 2 ((w.tr.getD p dfPr).vars.map eVr)),.sl (B.length+8) (w.tr.getD p dfPr).evs.length 0 (w.tr.getD p dfPr).evs.length]],.live (w.tr.getD p dfPr).evs.length 5 (vs ((w.tr.getD p dfPr).evs.map eEv))]:=if_pos oM
   have lt1:∀m,B.length+9≤m→(∀row∈cvP w p (B.length+8) (i+1),∀c∈row,AVlt m c):=fun m h=>j7 oM
   have lt0:∀m,B.length+9≤m→(∀row∈cvP w p (B.length+8) i,∀c∈row,AVlt m c):=fun m h=>j7 oM
   have sn:cvP w p (B.length+8) i++[[.v (.str x.name),.v (.isl 2 (x.vars.map eVr)),.v (.isl 5 (x.evs.map eEv))]]=cvP w p (B.length+8) (i+1):=by have:=ZHC (w:=w) (p:=p) (id:=B.length+8) yA oM;rw[kJ]at this;exact this
   rw[c1]
   simp (disch:=first|decide|omega) only[hA,rA,VE,hgr,tl,tk,bx,ca,reduceCtorEq,iB,go_sem]
   refine QA.nxt (cV _ _) ?_
   simp (disch:=first|decide|omega) only[hA,rA,VE,hgr,tl,tk,bx,ca,reduceCtorEq,iB,go_sem]
   refine JA (ι:=Nat) mM (fun j=>[(58,.v (.int .i64 j))]) 10 (fun j=>[.live 0 9 [(zWA w)],.live 0 9 [zZA],.live 0 9 [[.sl (B.length+3) w.sv.length 0 w.sv.length,.v (.int .i64 w.net.now),.v (.bool w.net.fifo),.v (.isl 4 (w.net.l.map eMs)),.v (.isl 1 (w.net.tm.map eI)),.v (.isl 2 (w.net.fates.map eFt)),.v (.int .i64 w.now),.v (.int .i64 w.sent),.sl (B.length+6) i 0 i]],.live w.sv.length 6 SV,.live 0 6 [(zSB (w.sv.getD p dfSv) B)],.live 1 1 (vs ((w.sv.getD p dfSv).vars.map eI)),.live i 3 (cvP w p (B.length+8) i),.live 0 3 [[.v (.str (w.tr.getD p dfPr).name),.v (.isl 2 ((w.tr.getD p dfPr).vars.map eVr)),.sl (B.length+8) (w.tr.getD p dfPr).evs.length 0 (w.tr.getD p dfPr).evs.length]],.live (w.tr.getD p dfPr).evs.length 5 (vs ((w.tr.getD p dfPr).evs.map eEv)),.live 0 3 [[.v (.str x.name),.v (.isl 2 (x.vars.map eVr)),.sl (B.length+10) j 0 j]],.live j 5 (vs ((x.evs.take j).map eEv))]) (fun j=>j≤x.evs.length) (fun j=>x.evs.length-j) 0 (aj _) kM kA (fun e=>KA.nilcell (e:=e) (b:=B) (l:=[.live 0 9 [(zWA w)],.live 0 9 [zZA],.live 0 9 [[.sl (B.length+3) w.sv.length 0 w.sv.length,.v (.int .i64 w.net.now),.v (.bool w.net.fifo),.v (.isl 4 (w.net.l.map eMs)),.v (.isl 1 (w.net.tm.map eI)),.v (.isl 2 (w.net.fates.map eFt)),.v (.int .i64 w.now),.v (.int .i64 w.sent),.sl (B.length+6) i 0 i]],.live w.sv.length 6 SV,.live 0 6 [(zSB (w.sv.getD p dfSv) B)],.live 1 1 (vs ((w.sv.getD p dfSv).vars.map eI)),.live i 3 (cvP w p (B.length+8) i),.live 0 3 [[.v (.str (w.tr.getD p dfPr).name),.v (.isl 2 ((w.tr.getD p dfPr).vars.map eVr)),.sl (B.length+8) (w.tr.getD p dfPr).evs.length 0 (w.tr.getD p dfPr).evs.length]],.live (w.tr.getD p dfPr).evs.length 5 (vs ((w.tr.getD p dfPr).evs.map eEv)),.live 0 3 [[.v (.str x.name),.v (.isl 2 (x.vars.map eVr)),.v .zsl]]]) (i:=9) (k:=0) (j:=2) (sz:=5) rfl rfl rfl) ?_
   intro g3 FY UU dH j hj
   by_cases mK:j<x.evs.length
   ·have xH:=AG mK
    have hja:=hna x.evs[j] (am mK)
    have cA:=fun b l=>jK x.evs[j].asg hja b l
    have vl:((x.evs.take j).map eEv).length=j:=by rw[aa,cf];omega
    have vt:List.take j (vs ((x.evs.take j).map eEv))=vs ((x.evs.take j).map eEv):=cr (by rw[MB,vl];omega)
    have vt2:List.take j ((x.evs.take j).map eEv)=(x.evs.take j).map eEv:=cr (by rw[vl];omega)
    have S1:(x.evs.take j).map eEv++[[.int .i64 x.evs[j].kind,.int .i64 x.evs[j].peer,.int .i64 x.evs[j].msg,.int .i64 x.evs[j].time,.isl 2 (x.evs[j].asg.map uL)]]=(x.evs.take (j+1)).map eEv:=by rw[fw,ah mK,bq];rfl
    simp (disch:=first|decide|omega) only[hA,rA,VE,dH,xH,vl,vt,vt2,bx,ca,reduceCtorEq,iB,go_sem]
    refine QA.nxt (cA _ _) ?_
    simp (disch:=first|decide|omega) only[hA,rA,VE,dH,xH,vl,vt,vt2,bx,ca,reduceCtorEq,iB,go_sem]
    rw[S1]
    refine⟨j+1,mK,by simp only;omega,?_⟩
    have h1:=ZCH (B.length+11) oM
    have h0:=lt0 (B.length+11) oM
    exact KA.kround (p:=mM) (k:=10) (junk:=[_,_]) kQ kA rfl FY kS kV hR (by simp (disch:=omega) only[eq_true h0,eq_true h1,lts.down,Nat.reduceLT,Nat.reduceAdd])
   obtain rfl:j=x.evs.length:=by omega
   rw[hxe]
   simp (disch:=first|decide|omega) only[hA,rA,VE,dH,tl,tk,bx,ca,reduceCtorEq,iB,go_sem]
   refine⟨i+1,yA,by simp only;omega,?_⟩
   simp only
   rw[c2,←sn]
   have h0:=lt1 (B.length+9) oM
   rw[←sn]at h0
   have h1:=ZCH (B.length+9) oM
   refine KA.kroundG (i:=10) (ver:=x.evs.length) (sz:=5) (rows:=x.evs.map eEv) (junk:=[.live 0 3 [[.v (.str x.name),.v (.isl 2 (x.vars.map eVr)),.v (.isl 5 (x.evs.map eEv))]],.dead x.evs.length,.live 0 3 [[.v (.str x.name),.v (.isl 2 (x.vars.map eVr)),.v (.isl 5 (x.evs.map eEv))]]]) (p:=TQ) (k:=6) rfl kQ kA ?_ AJ kS kS kV hR (by simp (disch:=omega) only[eq_true h0,eq_true h1,lts.down,Nat.reduceLT,Nat.reduceAdd]) kV
   have hz:∀(a c d:Nat),a≠B.length+10→YF (B.length+10) x.evs.length 5 (x.evs.map eEv) (.sl a c 0 d)=.sl a c 0 d:=fun a c d h=>by simp[YF,h]
   have hy:YF (B.length+10) x.evs.length 5 (x.evs.map eEv) (.sl (B.length+10) x.evs.length 0 x.evs.length)=.v (.isl 5 (x.evs.map eEv)):=lS (by rw[aa])
   have hv:∀y:IV,YF (B.length+10) x.evs.length 5 (x.evs.map eEv) (.v y)=.v y:=fun _=>rfl
   have hSf:=JM (ver:=x.evs.length) (sz:=5) (rows:=x.evs.map eEv) h1 (show B.length+9≤B.length+10 by omega)
   have hPf:=z9 (ver:=x.evs.length) (sz:=5) (rows:=x.evs.map eEv) (v:=i+1) (z:=3) (r:=[.v (.str x.name),.v (.isl 2 (x.vars.map eVr)),.sl (B.length+10) x.evs.length 0 x.evs.length]) (lt0 (B.length+9) oM) (show B.length+9≤B.length+10 by omega)
   have hV:∀r:List (List IV),(vs r).map (fun y=>y.map (YF (B.length+10) x.evs.length 5 (x.evs.map eEv)))=vs r:=fun r=>JM (m:=0) (CK.2 trivial) (aj _)
   have ZFC:=hPf
   unfold TF at hPf
   simp only[bl,cd,hz,hy,hv]at ZFC
   simp only[da,dw,gv,gh,bl,cd,ZFC]
   unfold TF
   simp (disch:=omega) only[bl,cd,hz,hy,hv,hSf,hV]
 obtain rfl:i=w.tr.length:=by omega
 have c2:cp2 B w p w.tr.length=[.live 0 3 [[.v (.str (w.tr.getD p dfPr).name),.v (.isl 2 ((w.tr.getD p dfPr).vars.map eVr)),.sl (B.length+8) (w.tr.getD p dfPr).evs.length 0 (w.tr.getD p dfPr).evs.length]],.live (w.tr.getD p dfPr).evs.length 5 (vs ((w.tr.getD p dfPr).evs.map eEv))]:=if_pos oM
 have tP:cvP w p (B.length+8) w.tr.length=zO w p (B.length+8):=cr (by rw[aH];omega)
 rw[c2,tP]
 simp (disch:=first|decide|omega) only[hA,rA,VE,aa,go_sem]
 refine UI (.inr rfl) (xs:=[.agg [.sl (B.length+3) w.sv.length 0 w.sv.length,.v (.int .i64 w.net.now),.v (.bool w.net.fifo),.v (.isl 4 (w.net.l.map eMs)),.v (.isl 1 (w.net.tm.map eI)),.v (.isl 2 (w.net.fates.map eFt)),.v (.int .i64 w.now),.v (.int .i64 w.sent),.sl (B.length+6) w.tr.length 0 w.tr.length]]) (y:=.agg (mvC w B.length)) (l':=ZEg w p B.length) kR (m:=4) rfl (fun j=>match j with|0=>3|1=>5|2=>6|_=>8) (fun a c ha hc h=>?_) (fun j r' h=>?_) ?_ hR hB ⟨by rw[hB,aq],rfl,by rw[hB,aq]⟩
 ·obtain rfl|rfl|rfl|rfl:a=0∨a=1∨a=2∨a=3:=oM<;>(obtain rfl|rfl|rfl|rfl:c=0∨c=1∨c=2∨c=3:=oM)<;>first|rfl|(simp at h)
 ·match j,h with
  |0,h =>
    cases h
    refine⟨.live w.sv.length 6 SV,rfl,rfl,rfl,by rw[←M7,lF,lF],fun k r r' h1 h2=>?_⟩
    rw[←M7]at h1
    have hk:k<w.sv.length:=by
     have:=(ak.1 h1).1
     rwa [lF]at this
    by_cases i6:p=k
    ·subst i6
     rw[xN hp]at h1 h2
     cases h1;cases h2
     exact .cons (.v _) (.cons (.v _) (.cons (.v _) (.cons (Rn.slE (j:=1) rfl oM) (.cons (.v _) (.cons (.v _) .nil)))))
    ·rw[A6 hk i6]at h1 h2
     cases h1;cases h2
     exact RnL.plain
  |1,h=>cases h;exact⟨_,rfl,RnR.plain⟩
  |2,h =>
    cases h
    refine⟨.live w.tr.length 3 (zO w p (B.length+8)),rfl,rfl,rfl,by rw[aH,aH],fun k r r' h1 h2=>?_⟩
    have hk:k<w.tr.length:=by
     have:=(ak.1 h1).1
     rwa [aH]at this
    by_cases i6:p=k
    ·subst i6
     rw[yX SL]at h1 h2
     cases h1;cases h2
     exact .cons (.v _) (.cons (.v _) (.cons (Rn.slE (j:=3) rfl oM) .nil))
    ·rw[O6 hk i6]at h1 h2
     cases h1;cases h2
     exact RnL.plain
  |3,h=>cases h;exact⟨_,rfl,RnR.plain⟩
  |j+4,h=>cases h
 ·rw[lW]
  exact Rn.aggL (.cons (Rn.slE (j:=0) rfl oM) (.cons (.v _) (.cons (.v _) (.cons (.v _) (.cons (.v _) (.cons (.v _) (.cons (.v _) (.cons (.v _) (.cons (Rn.slE (j:=2) rfl oM) .nil)))))))))
def a_wStep:AFunc:=({c:=_}:CF Tryz.prog 21).c
theorem s5:jA Tryz.prog 21=some a_wStep:=by kernel_rfl
def a_wTick:AFunc:=({c:=_}:CF Tryz.prog 11).c
theorem i5:jA Tryz.prog 11=some a_wTick:=by kernel_rfl

theorem QA.split {P:Program} {f:Nat} {args:List AV} {b l X1 X2:List Row} {x:AV} (hl:X1.length=b.length) (h:QA P f args (b++l) [] (fun r b' l'=>r=x∧b'=X1++X2∧l'=[])):QA P f args b l (fun r b' l'=>r=x∧b'=X1∧l'=X2):=by
 refine⟨h.1,fun F L w us s hr=>Calls.mono (h.2 F L w us (by rw[db];exact s) hr) ?_⟩
 rintro en w' ⟨v,x',b',l',F',L',h1,h2,h3,h4,h5,rfl,rfl,rfl⟩
 rw[db]at h3
 rw[db,db]at h4
 exact⟨v,_,X1,X2,F',L',h1,h2,h3,h4,hl,rfl,rfl,rfl⟩
theorem ZIM {B P:List Row} {w:Wd} {p q:Nat} (hq:q=B.length+P.length):∃f n,q+5≤n∧∀w':Wd,B++(P++[xV w' p q,FT w' p,sX w' p q,gV w' p,rX w' q])=kB n (mvF f w' p q):=by
 obtain⟨n0,f,hn,hBf,_⟩:=ZHA (B++P)
 rw[aq,←hq]at hn
 subst hn
 refine⟨f,n0+5,ai _,fun w'=>?_⟩
 rw[←bh,hBf]
 apply dr
 intro j
 by_cases hj:j<n0
 ·rw[aw (by rw[GA];exact hj),XH hj,XH oM,ET (.inl hj)]
 ·rw[ar (by rw[GA];omega),GA]
  by_cases hj5:j<n0+5
  ·rw[XH hj5]
   obtain rfl|rfl|rfl|rfl|rfl:j=n0∨j=n0+1∨j=n0+2∨j=n0+3∨j=n0+4:=by omega
   ·rw[eh,OT];rfl
   ·rw[ci,uV];rfl
   ·rw[ci,nX];rfl
   ·rw[ci,tX];rfl
   ·rw[ci,AT];rfl
  ·rw[bu (by simp;omega),bu (by rw[GA];omega)]
theorem ZCp (w:Wd) (q:Nat):mvC w q=[.sl q w.sv.length 0 w.sv.length,.v (.int .i64 w.net.now),.v (.bool w.net.fifo),.v (.isl 4 (w.net.l.map eMs)),.v (.isl 1 (w.net.tm.map eI)),.v (.isl 2 (w.net.fates.map eFt)),.v (.int .i64 w.now),.v (.int .i64 w.sent),.sl (q+2) w.tr.length 0 w.tr.length]:=rfl
theorem ZA2 (w:Wd) (p q:Nat):ZEg w p q=[xV w p q,FT w p,sX w p q,gV w p]:=rfl
theorem tC (w:Wd):(eWd w).map AV.v=(zWA w):=rfl
theorem KG {n:Nat} {l:List Row} (e:Int):Dv n l (.tup [.agg zZA,.v (.int .i64 e)]) (.tup [.agg ((eWd wd0).map .v),.v (.int .i64 e)]):=
 Dv.tupL (.cons (Dv.aggL (.cons (.z 6) (.cons (.v _) (.cons (.v _) (.cons (.z 4) (.cons (.z 1) (.cons (.z 2) (.cons (.v _) (.cons (.v _) (.cons (.z 3) .nil)))))))))) (.cons (.v _) .nil))
noncomputable def EM (w:Wd) (p:Int):Wd×Int:=if wdB w=true then (if p<0∨(w.sv.length:Int)≤p then (wd0,2) else if SD w p.toNat=true then stW w p.toNat else (wd0,6)) else (wd0,1)
theorem ZDj {w:Wd} {p:Nat} (h:(stW w p).2≠0):(stW w p).1=wd0:=by
 unfold stW stI at h⊢
 split at h<;>rename_i h1
 ·exact absurd rfl h
 rw[if_neg h1]
 split at h<;>rename_i h2
 ·rw[if_pos h2]
  split at h<;>rename_i h3
  ·exact absurd rfl h
  ·rw[if_neg h3]
 rw[if_neg h2]
 split at h<;>rename_i h4
 ·split at h<;>exact absurd rfl h
 rw[if_neg h4]
 split at h<;>rename_i h5
 ·rw[if_pos h5]
  split at h<;>rename_i h6
  ·exact absurd rfl h
  ·rw[if_neg h6]
 rw[if_neg h5]
 split at h<;>exact absurd rfl h
theorem qK (w:Wd) (qN:SvsS w.sv) (hS:Small w.tr) (hN:NwS w.net) (h0:0<w.sv.length) (h1:0<w.tr.length) (b l:List Row) :
  QA Tryz.prog 49 [.agg ((eWd w).map .v)] b l (fun r b' l'=>r=.agg ((eWd w).map .v)∧b'=b∧l'=l):=
 QA.deep (N:=ZEg w 0 (b.length+l.length)) (by have:=ZEU (n:=b.length+l.length) (i:=0) (l:=ZEg w 0 (b.length+l.length)) h0 h1 rfl rfl rfl rfl;exact this) (GP w qN hS hN 0 h0 h1 b l)
theorem U2 (w:Wd) (hS:Sm w.tr) (hN:Nm w.tr) (qN:SvsS w.sv) (EY:NwS w.net) (p:Int) (b l:List Row):QA Tryz.prog 21 [.agg ((eWd w).map .v),.v (.int .i64 p)] b l (fun r b' l'=>r=.tup [.agg ((eWd (EM w p).1).map .v),.v (.int .i64 (EM w p).2)]∧b'=b∧l'=l):=by
 refine XA s5 rfl kE ?_
 intro B g hB hR hE hA;simp only[zA]at hA
 have cV:=fun b l=>rH w hS hN qN EY b l
 rw[tC]at hA cV
 have JX:=qN.len
 simp (disch:=first|decide|omega) only[a_wStep,hA,cellsOf,go_sem]
 refine QA.nxt (cV _ _) ?_
 cases t1:wdB w
 ·have hr:EM w p=(wd0,1):=by unfold EM;rw[if_neg (by rw[t1];simp)]
  rw[hr]
  simp (disch:=first|decide|omega) only[hA,cellsOf,go_sem]
  exact dB (.inr rfl) (xs:=[.agg zZA,.v (.int .i64 1)]) kR (KG 1) hR hB ⟨rfl,rfl,rfl⟩
 have hw:=WdV.of t1
 by_cases h1:p<0
 ·have d1:decide (p<0)=true:=ae h1
  have hr:EM w p=(wd0,2):=by unfold EM;rw[if_pos t1,if_pos (.inl h1)]
  rw[hr]
  simp (disch:=first|decide|omega) only[hA,d1,cellsOf,go_sem]
  exact dB (.inr rfl) (xs:=[.agg zZA,.v (.int .i64 2)]) kR (KG 2) hR hB ⟨rfl,rfl,rfl⟩
 have d1:decide (p<0)=false:=ag h1
 obtain⟨k,rfl⟩:∃k:Nat,p=k:=⟨p.toNat,by omega⟩
 by_cases h2:w.sv.length≤k
 ·have d2:decide ((k:Int)≥(w.sv.length:Int))=true:=ae oM
  have d2':decide ((w.sv.length:Int)≤(k:Int))=true:=d2
  have hr:EM w k=(wd0,2):=by unfold EM;rw[if_pos t1,if_pos (.inr oM)]
  rw[hr]
  simp (disch:=first|decide|omega) only[hA,d1,d2,d2',aa,go_sem]
  exact dB (.inr rfl) (xs:=[.agg zZA,.v (.int .i64 2)]) kR (KG 2) hR hB ⟨rfl,rfl,rfl⟩
 have d2:decide ((k:Int)≥(w.sv.length:Int))=false:=ag oM
 have d2':decide ((w.sv.length:Int)≤(k:Int))=false:=d2
 have GN:k<w.sv.length:=by omega
 have hkt:k<w.tr.length:=by rw[hw.len];exact GN
 have cE:=fun b l=>vR w qN hw.small hw.sv hw.len k GN b l
 rw[tC]at cE
 simp (disch:=first|decide|omega) only[hA,d1,d2,d2',aa,go_sem]
 refine QA.nxt (cE _ _) ?_
 cases t2:SD w k
 ·have hr:EM w k=(wd0,6):=by unfold EM;rw[if_pos t1,if_neg oM,cj,if_neg (by rw[t2];simp)]
  rw[hr]
  simp (disch:=first|decide|omega) only[hA,cellsOf,go_sem]
  exact dB (.inr rfl) (xs:=[.agg zZA,.v (.int .i64 6)]) kR (KG 6) hR hB ⟨rfl,rfl,rfl⟩
 have hr:EM w k=stW w k:=by unfold EM;rw[if_pos t1,if_neg oM,cj,if_pos t2]
 rw[hr]
 have cC:=fun b l=>GP w qN hw.small EY k GN hkt b l
 rw[tC]at cC
 simp only[ZCp,ZA2]at cC
 simp (disch:=first|decide|omega) only[hA,aa,go_sem]
 refine QA.nxt (cC _ _) ?_
 simp (disch:=first|decide|omega) only[hA,aa,go_sem]
 obtain⟨f,n,hn,WF⟩:=ZIM (B:=B) (P:=[.live 0 9 [(zWA w)],.live 0 9 [zZA]]) (w:=w) (p:=k) (q:=B.length+2) rfl
 have cS:=QA.split (l:=[.live 0 9 [(zWA w)],.live 0 9 [zZA]]++[xV w k (B.length+2),FT w k,sX w k (B.length+2),gV w k,rX w (B.length+2)]) (b:=B) rfl (by
  have:=ZA3 f w k (B.length+2) n hn hw GN t2 (B++([.live 0 9 [(zWA w)],.live 0 9 [zZA]]++[xV w k (B.length+2),FT w k,sX w k (B.length+2),gV w k,rX w (B.length+2)])) [] (WF w)
  rw[←WF]at this
  exact this)
 refine QA.nxt cS ?_
 by_cases he:(stW w k).2=0
 ·have e0:((stW w k).2 != 0)=false:=by rw[he];rfl
  have hM:stM w k=(stW w k).1:=by unfold stM;rw[if_pos he]
  obtain⟨s',ev,n',sn',h3,h4⟩:=ZGv hw GN t2 he
  have ZQ:k<(stW w k).1.sv.length:=by rw[h3];show k<(w.sv.set k s').length;rw[dj];exact GN
  have iV:k<(stW w k).1.tr.length:=by rw[h3,h4.tr,FH];exact hkt
  obtain⟨W,hW⟩:∃W,(stW w k).1=W:=⟨_,rfl⟩
  rw[hM,hW]
  rw[hW]at ZQ iV
  rw[he]
  have m4:rX W (B.length+2)=.live 0 9 [[.sl (B.length+2) W.sv.length 0 W.sv.length,.v (.int .i64 W.net.now),.v (.bool W.net.fifo),.v (.isl 4 (W.net.l.map eMs)),.v (.isl 1 (W.net.tm.map eI)),.v (.isl 2 (W.net.fates.map eFt)),.v (.int .i64 W.now),.v (.int .i64 W.sent),.sl (B.length+4) W.tr.length 0 W.tr.length]]:=rfl
  have n0:((0:Int) != 0)=false:=rfl
  simp (disch:=first|decide|omega) only[hA,e0,n0,m4,aa,go_sem]
  exact dB (.inr rfl) (xs:=[.agg [.sl (B.length+2) W.sv.length 0 W.sv.length,.v (.int .i64 W.net.now),.v (.bool W.net.fifo),.v (.isl 4 (W.net.l.map eMs)),.v (.isl 1 (W.net.tm.map eI)),.v (.isl 2 (W.net.fates.map eFt)),.v (.int .i64 W.now),.v (.int .i64 W.sent),.sl (B.length+4) W.tr.length 0 W.tr.length],.v (.int .i64 0)]) kR (Dv.tupL (.cons (ZEU (i:=2) ZQ iV rfl rfl rfl rfl) (.cons (.v _) .nil))) hR hB ⟨rfl,rfl,rfl⟩
 ·have e0:((stW w k).2 != 0)=true:=bne_iff_ne.2 he
  rw[ZDj he]
  obtain⟨er,her⟩:∃er,(stW w k).2=er:=⟨_,rfl⟩
  rw[her]at e0⊢
  obtain⟨W,hW⟩:∃W,stM w k=W:=⟨_,rfl⟩
  rw[hW]
  simp (disch:=first|decide|omega) only[hA,e0,aa,go_sem]
  exact dB (.inr rfl) (xs:=[.agg zZA,.v (.int .i64 er)]) kR (KG er) hR hB ⟨rfl,rfl,rfl⟩
noncomputable def iN (w:Wd) (k:Int):Wd×Int:=if wdB w=true then (if (0≤k∧k≤1000000)∧w.now+k≤1000000000 then (tkW w k,0) else (wd0,2)) else (wd0,1)
theorem V2 (w:Wd) (hS:Sm w.tr) (hN:Nm w.tr) (qN:SvsS w.sv) (EY:NwS w.net) (k:Int) (b l:List Row):QA Tryz.prog 11 [.agg ((eWd w).map .v),.v (.int .i64 k)] b l (fun r b' l'=>r=.tup [.agg ((eWd (iN w k).1).map .v),.v (.int .i64 (iN w k).2)]∧b'=b∧l'=l):=by
 refine XA i5 rfl kE ?_
 intro B g hB hR hE hA;simp only[zA]at hA
 have cV:=fun b l=>rH w hS hN qN EY b l
 rw[tC]at hA cV
 have JX:=qN.len
 simp (disch:=first|decide|omega) only[a_wTick,hA,cellsOf,go_sem]
 refine QA.nxt (cV _ _) ?_
 cases t1:wdB w
 ·have hr:iN w k=(wd0,1):=by unfold iN;rw[if_neg (by rw[t1];simp)]
  rw[hr]
  simp (disch:=first|decide|omega) only[hA,cellsOf,go_sem]
  exact dB (.inr rfl) (xs:=[.agg zZA,.v (.int .i64 1)]) kR (KG 1) hR hB ⟨rfl,rfl,rfl⟩
 have hw:=WdV.of t1
 have ZKX:=hw.now
 simp (disch:=first|decide|omega) only[hA,cellsOf,go_sem]
 refine QA.nxt (FC _ _ _ _ _) ?_
 cases t2:inZ k 0 1000000
 ·have hr:iN w k=(wd0,2):=by
   unfold inZ at t2
   have:=gu t2
   unfold iN;rw[if_pos t1,if_neg (fun h=>this h.1)]
  rw[hr]
  simp (disch:=first|decide|omega) only[hA,cellsOf,go_sem]
  exact dB (.inr rfl) (xs:=[.agg zZA,.v (.int .i64 2)]) kR (KG 2) hR hB ⟨rfl,rfl,rfl⟩
 unfold inZ at t2
 have h2:=il t2
 have hwr:IntKind.i64.wrap (w.now+k)=w.now+k:=dA oM oM
 by_cases h3:w.now+k≤1000000000
 case neg =>
  have d3:decide (w.now+k>1000000000)=true:=ae oM
  have d3':decide (1000000000<w.now+k)=true:=d3
  have hr:iN w k=(wd0,2):=by unfold iN;rw[if_pos t1,if_neg (fun h=>h3 h.2)]
  rw[hr]
  simp (disch:=first|decide|omega) only[hA,hwr,d3,d3',cellsOf,go_sem]
  exact dB (.inr rfl) (xs:=[.agg zZA,.v (.int .i64 2)]) kR (KG 2) hR hB ⟨rfl,rfl,rfl⟩
 have d3:decide (w.now+k>1000000000)=false:=ag oM
 have d3':decide (1000000000<w.now+k)=false:=d3
 have hr:iN w k=(tkW w k,0):=by unfold iN;rw[if_pos t1,if_pos ⟨h2,h3⟩]
 rw[hr]
 have cC:=fun b l=>qK w qN hw.small EY (by have:=(aN hw.sv).1;omega) hw.tr.lo b l
 rw[tC]at cC
 have cG:=fun b l=>ZCn w.net (w.now+k) b l
 have hgo:goE w.net (w.now+k)=0:=by
  unfold goE;rw[if_pos (MF.2 hw.net),if_neg oM,if_neg (by have:=hw.nnow;omega)]
 have hgn:goN w.net (w.now+k)={w.net with now:=w.now+k}:=by unfold goN;rw[if_pos hgo]
 rw[hgo,hgn]at cG
 simp only[eNw,nwA,bl,cd]at cG
 have n0:((0:Int) != 0)=false:=rfl
 simp (disch:=first|decide|omega) only[hA,hwr,d3,d3',cellsOf,go_sem]
 refine QA.nxt (cC _ _) ?_
 simp (disch:=first|decide|omega) only[hA,hwr,cellsOf,go_sem]
 refine QA.nxt (cG _ _) ?_
 simp (disch:=first|decide|omega) only[hA,n0,cellsOf,go_sem]
 rw[tC]
 exact ZA (xs:=[.agg [.v (.isl 6 (w.sv.map eSv)),.v (.int .i64 (w.now+k)),.v (.bool w.net.fifo),.v (.isl 4 (w.net.l.map eMs)),.v (.isl 1 (w.net.tm.map eI)),.v (.isl 2 (w.net.fates.map eFt)),.v (.int .i64 (w.now+k)),.v (.int .i64 w.sent),.v (.isl 3 (w.tr.map ePr))],.v (.int .i64 0)])
def a_wNewW:AFunc:=({c:=_}:CF Tryz.prog 33).c
theorem n5:jA Tryz.prog 33=some a_wNewW:=by kernel_rfl
def kZ:List (Nat×Nat):=[(8,8),(37,54)]
def a_wNewW1:AFunc:=({c:=_}:CF Tryz.prog 82).c
theorem dY:jA Tryz.prog 82=some a_wNewW1:=by kernel_rfl

def npr (s:Sv):Pr:=⟨s.name,NM s.vars,[]⟩
def I7 (l:List Sv) (n:Nw):Wd:=⟨l,n,0,0,l.map npr⟩
theorem F8 {l:List Sv} {i:Nat} (h:i<l.length):(l.map npr).getD i dfPr=npr l[i]:=by
 rw[ap,an,ah h];rfl
def vO (l:List Sv) (n:Nw):Wd×Int:=if bF l=true∧nwB n=true then (if n.now≠0∨0<n.l.length∨l.any (fun s=>s.pc != 0)=true then (wd0,6) else (I7 l n,0)) else (wd0,1)
theorem bX (s:Sv) (b l:List Row):QA Tryz.prog 82 [.agg ((eSv s).map .v)] b l (fun r b' l'=>r=.v (.bool (s.pc != 0))∧b'=b∧l'=l):=by
 refine XA dY rfl kE ?_
 intro B g hB hR hE hA;simp only[zA]at hA
 simp (disch:=first|decide|omega) only[a_wNewW1,hA,eSv,cellsOf,go_sem]
 exact ZA (xs:=[.v (.bool (s.pc != 0))])
def nprZ (s:Sv):List IV:=[.str s.name,.isl 2 ((NM s.vars).map eVr),.zsl]
theorem ZAW {l:List Sv} {i:Nat} (h:i<l.length):(l.take i).map nprZ++[[.str l[i].name,.isl 2 ((NM l[i].vars).map eVr),.zsl]]=(l.take (i+1)).map nprZ:=by
 rw[fw,ah h,bq];rfl
theorem ZFs (l:List Sv):IVle (.isl 3 (l.map nprZ)) (.isl 3 ((l.map npr).map ePr)):=by
 refine .isl _ _ _ kS (fun k row row' h1 h2=>?_) (fun k row row' j a a' h1 h2 h3 h4=>?_)
 ·rw[an]at h1 h2
  rw[an]at h2
  cases hk:l[k]? with
  |none=>rw[hk]at h1;cases h1
  |some s=>rw[hk]at h1 h2;cases h1;cases h2;rfl
 ·rw[an]at h1 h2
  rw[an]at h2
  cases hk:l[k]? with
  |none=>rw[hk]at h1;cases h1
  |some s =>
    rw[hk]at h1 h2;cases h1;cases h2
    match j,h3,h4 with
    |0,h3,h4=>cases h3;cases h4;exact .refl _
    |1,h3,h4=>cases h3;cases h4;exact .refl _
    |2,h3,h4=>cases h3;cases h4;exact .zsl 5
    |j+3,h3,h4=>cases h3
theorem Q5 {l:List Sv} {p:Sv→Bool}:((List.range l.length).any fun j=>p (l.getD j dfSv))=l.any p:=sG
theorem G2 (L:List Sv) (hL:SvsS L) (n:Nw) (EY:NwS n) (b l:List Row):QA Tryz.prog 33 [.v (.isl 6 (L.map eSv)),.agg ((eNw n).map .v)] b l (fun r b' l'=>r=.tup [.agg ((eWd (vO L n).1).map .v),.v (.int .i64 (vO L n).2)]∧b'=b∧l'=l):=by
 refine XA n5 rfl kE ?_
 intro B g hB hR hE hA;simp only[zA]at hA
 have heN:(eNw n).map AV.v=(zNA n):=rfl
 have cV:=fun b l=>qG n b l
 rw[heN]at hA cV
 have hLl:=hL.len
 have I0:=EY.l
 simp (disch:=first|decide|omega) only[a_wNewW,hA,cellsOf,go_sem]
 refine QA.nxt (dL L hL _ _) ?_
 cases t1:bF L
 ·have hr:vO L n=(wd0,1):=by unfold vO;rw[if_neg (fun h=>by rw[t1]at h;cases h.1)]
  rw[hr]
  simp (disch:=first|decide|omega) only[hA,cellsOf,go_sem]
  exact dB (.inr rfl) (xs:=[.agg zZA,.v (.int .i64 1)]) kR (KG 1) hR hB ⟨rfl,rfl,rfl⟩
 simp (disch:=first|decide|omega) only[hA,cellsOf,go_sem]
 refine QA.nxt (cV _ _) ?_
 cases t2:nwB n
 ·have hr:vO L n=(wd0,1):=by unfold vO;rw[if_neg (fun h=>by rw[t2]at h;cases h.2)]
  rw[hr]
  simp (disch:=first|decide|omega) only[hA,cellsOf,go_sem]
  exact dB (.inr rfl) (xs:=[.agg zZA,.v (.int .i64 1)]) kR (KG 1) hR hB ⟨rfl,rfl,rfl⟩
 by_cases h3:n.now=0
 case neg =>
  have d3:(n.now != 0)=true:=bne_iff_ne.2 h3
  have hr:vO L n=(wd0,6):=by unfold vO;rw[if_pos ⟨t1,t2⟩,if_pos (.inl h3)]
  rw[hr]
  simp (disch:=first|decide|omega) only[hA,d3,cellsOf,go_sem]
  exact dB (.inr rfl) (xs:=[.agg zZA,.v (.int .i64 6)]) kR (KG 6) hR hB ⟨rfl,rfl,rfl⟩
 have d3:(n.now != 0)=false:=by rw[h3];rfl
 by_cases h4:0<n.l.length
 ·have d4:decide ((n.l.length:Int)>0)=true:=ae oM
  have d4':decide ((0:Int)<(n.l.length:Int))=true:=d4
  have hr:vO L n=(wd0,6):=by unfold vO;rw[if_pos ⟨t1,t2⟩,if_pos (.inr (.inl h4))]
  rw[hr]
  simp (disch:=first|decide|omega) only[hA,d3,d4,d4',aa,go_sem]
  exact dB (.inr rfl) (xs:=[.agg zZA,.v (.int .i64 6)]) kR (KG 6) hR hB ⟨rfl,rfl,rfl⟩
 have d4:decide ((n.l.length:Int)>0)=false:=ag oM
 have d4':decide ((0:Int)<(n.l.length:Int))=false:=d4
 have cC:=fun B0 l0=>YD sK rK (L.map eSv) 82 [] (fun j=>(L.getD j dfSv).pc != 0) ZR (by rw[aa];exact hLl) B0 l0 (fun j row hj=>by
  have rG:j<L.length:=by have:=(ak.1 hj).1;rwa [aa]at this
  rw[an,ah rG]at hj
  cases hj
  simp only[YA rG]
  exact bX _ _ _)
 rw[aa,Q5 (p:=fun s=>s.pc != 0)]at cC
 simp (disch:=first|decide|omega) only[hA,d3,d4,d4',aa,go_sem]
 refine QA.nxt (cC _ _) ?_
 cases t5:L.any (fun s=>s.pc != 0)
 case true =>
  have hr:vO L n=(wd0,6):=by unfold vO;rw[if_pos ⟨t1,t2⟩,if_pos (.inr (.inr t5))]
  rw[hr]
  simp (disch:=first|decide|omega) only[hA,aa,go_sem]
  exact dB (.inr rfl) (xs:=[.agg zZA,.v (.int .i64 6)]) kR (KG 6) hR hB ⟨rfl,rfl,rfl⟩
 have hr:vO L n=(I7 L n,0):=by unfold vO;rw[if_pos ⟨t1,t2⟩,if_neg (fun h=>by
  rcases h with h|h|h
  ·exact h h3
  ·exact h4 h
  ·rw[t5]at h;cases h)]
 rw[hr]
 have hn:=aN t1
 have h8:=ZDi t1
 simp (disch:=first|decide|omega) only[hA,aa,go_sem]
 refine JA (ι:=Nat) kZ (fun i=>[(37,.v (.int .i64 i))]) 3 (fun i=>[.live 0 5 [(zNA n)],.live 0 9 [zZA],.live 0 9 [[.v (.isl 6 (L.map eSv)),.v (.int .i64 n.now),.v (.bool n.fifo),.v (.isl 4 (n.l.map eMs)),.v (.isl 1 (n.tm.map eI)),.v (.isl 2 (n.fates.map eFt)),.v (.int .i64 0),.v (.int .i64 0),.sl (B.length+3) i 0 i]],.live i 3 (vs ((L.take i).map nprZ))])
  (fun i=>i≤L.length) (fun i=>L.length-i) 0 (aj _) kM kA (fun e=>KA.nilcell (e:=e) (b:=B) (l:=[.live 0 5 [(zNA n)],.live 0 9 [zZA],.live 0 9 [[.v (.isl 6 (L.map eSv)),.v (.int .i64 n.now),.v (.bool n.fifo),.v (.isl 4 (n.l.map eMs)),.v (.isl 1 (n.tm.map eI)),.v (.isl 2 (n.fates.map eFt)),.v (.int .i64 0),.v (.int .i64 0),.v .zsl]]]) (i:=2) (k:=0) (j:=8) (sz:=3) rfl rfl rfl) ?_
 intro g1 UG mF rA i hi
 have vl:((L.take i).map nprZ).length=i:=by rw[aa,cf];omega
 have vt:List.take i ((L.take i).map nprZ)=(L.take i).map nprZ:=cr (by rw[vl];omega)
 by_cases yA:i<L.length
 ·have CI:=CG yA
  have cP:=fun b l=>qR L[i].vars (h8 i yA) b l
  have S1:=ZAW yA
  obtain⟨Y,hY⟩:∃Y,(L.take i).map nprZ=Y:=⟨_,rfl⟩
  rw[hY]at vl vt S1⊢
  simp (disch:=first|decide|omega) only[hA,rA,CI,vl,vt,aa,go_sem]
  refine QA.nxt (cP _ _) ?_
  simp (disch:=first|decide|omega) only[hA,rA,CI,vl,vt,iB,go_sem]
  rw[S1]
  refine⟨i+1,yA,by simp only;omega,?_⟩
  exact KA.kround (p:=kZ) (k:=3) kQ kA rfl UG kS kV hR kL
 ·obtain rfl:i=L.length:=by omega
  have dW:L.take L.length=L:=ik
  have CJ:=ZFs L
  rw[dW]at vl⊢
  have cC:∀b l,QA Tryz.prog 49 [.agg [.v (.isl 6 (L.map eSv)),.v (.int .i64 n.now),.v (.bool n.fifo),.v (.isl 4 (n.l.map eMs)),.v (.isl 1 (n.tm.map eI)),.v (.isl 2 (n.fates.map eFt)),.v (.int .i64 0),.v (.int .i64 0),.v (.isl 3 (L.map nprZ))]] b l (fun r b' l'=>r=.agg ((eWd (I7 L n)).map .v)∧b'=b∧l'=l):=fun b l=>by
   have hS:Small (I7 L n).tr:=by
    refine⟨by show (L.map npr).length≤_;rw[aa];omega,fun x hx=>?_,fun x hx=>?_,fun x hx=>?_⟩
    all_goals
     obtain⟨s,hs,rfl⟩:=cq.1 hx
     obtain⟨p,hp,rfl⟩:=cn hs
     have:=h8 p hp
     simp[npr,VI]
    omega
   refine (qK (I7 L n) hL hS EY (by show 0<L.length;omega) (by show 0<(L.map npr).length;rw[aa];omega) b l).le rfl (fun i x y hx hy=>?_)
   match i,hx,hy with
   |0,hx,hy =>
     cases hx;cases hy
     rw[tC]
     refine .agg _ _ rfl (fun j u v hu hv=>?_)
     match j,hu,hv with
     |0,hu,hv=>cases hu;cases hv;exact .refl _
     |1,hu,hv=>cases hu;cases hv;exact .refl _
     |2,hu,hv=>cases hu;cases hv;exact .refl _
     |3,hu,hv=>cases hu;cases hv;exact .refl _
     |4,hu,hv=>cases hu;cases hv;exact .refl _
     |5,hu,hv=>cases hu;cases hv;exact .refl _
     |6,hu,hv=>cases hu;cases hv;exact .refl _
     |7,hu,hv=>cases hu;cases hv;exact .refl _
     |8,hu,hv=>cases hu;cases hv;exact .v _ _ CJ
  obtain⟨Y,hY⟩:∃Y,L.map nprZ=Y:=⟨_,rfl⟩
  rw[hY]at vl cC⊢
  obtain⟨W,hW⟩:∃W,I7 L n=W:=⟨_,rfl⟩
  rw[hW]at cC⊢
  rw[tC]at cC⊢
  simp (disch:=first|decide|omega) only[hA,rA,aa,go_sem]
  refine QA.frzB (i:=3) (ver:=L.length) (sz:=3) (rows:=Y) (args':=[.agg [.v (.isl 6 (L.map eSv)),.v (.int .i64 n.now),.v (.bool n.fifo),.v (.isl 4 (n.l.map eMs)),.v (.isl 1 (n.tm.map eI)),.v (.isl 2 (n.fates.map eFt)),.v (.int .i64 0),.v (.int .i64 0),.v (.isl 3 Y)]]) rfl (by simp[frz,YF,vl];rw[←vl,ik]) ?_
  refine QA.nxt (cC _ _) ?_
  simp (disch:=first|decide|omega) only[hA,rA,aa,go_sem]
  exact ZA (xs:=[.agg (zWA W),.v (.int .i64 0)])
theorem Dv.repR {F:Nat→Prop} {L:LMap} {n:Nat} {l:List Row} {w:World} (hs:∀i ver sz els,l[i]? = some (.live ver sz els)→∃q,L (n+i) ver=some q∧lQ w F L sz els q) {x y:AV} (h:Dv n l x y):∀v,RepA w F L x v→RepA w (FD F L n l) L y v:=by
 have mono:∀{x:AV} {v:Value},RepA w F L x v→RepA w (FD F L n l) L x v:=fun hx=>hx.mono (fun _ h=>.inl h) (fun _ _=>rfl) (fun _ _ _ h=>h)
 induction h with
 |v x=>exact fun v hv=>mono hv
 |z sz =>
   intro v hv
   cases hv.vI
   exact .v _ _ (.isl0 _ _ _ (aj _))
 |sl i ver off len sz els rows hi CJ hl h1 h2 ih =>
   intro v hv
   obtain⟨q,k1,k2⟩:=hs _ _ _ _ hi
   refine .v _ _ ?_
   cases hv with
   |sl _ _ _ _ blk o z cap hL g1 g2 =>
     rw[k1]at hL;cases hL
     obtain⟨q1,q2,q3,cur,T,q4,q5,q6,q7⟩:=k2
     subst q1
     have QG:∀(k:Nat) (row:List IV) (j:Nat) (c:IV),rows[k]? = some row→row[j]? = some c→∃u,w.cell? ⟨blk,o+off*z+k*z+j,none⟩=some u∧RepI w (FD F L n l) c u:=by
      intro k row j c hk hj
      have GN:=(ak.1 hk).1
      have rG:=(ak.1 hj).1
      have hr:els[off+k]? = some els[off+k]:=ah oM
      have hlr:=h1 k _ row hr hk
      have ha:els[off+k][j]? = some els[off+k][j]:=ah oM
      obtain⟨_,u,g3,g4⟩:=q7 (off+k) _ j _ hr ha
      refine⟨u,?_,(ih k _ row j _ c hr hk ha hj u g4).vI⟩
      rw[bp]at g3
      simp only[World.cell?,q4]
      rw[←g3]
      simp[ct]
     have:=RepI.isl (w:=w) (F:=FD F L n l) rows blk (o+off*z) z (cap-off) (fun k j=>(w.cell? ⟨blk,o+off*z+k*z+j,none⟩).getD undef) (.inr ⟨i,ver,z,els,_,hi,k1,rfl⟩) oM oM
      (fun k row hk=>by
       have GN:=(ak.1 hk).1
       have hr:els[off+k]? = some els[off+k]:=ah oM
       rw[←h1 k _ row hr hk]
       exact q6 _ _ hr)
      (fun k row j c hk hj=>by
       obtain⟨u,g3,_⟩:=QG k row j c hk hj
       rw[g3];rfl)
      (fun k row j c hk hj=>by
       obtain⟨u,g3,g4⟩:=QG k row j c hk hj
       rw[g3];exact g4)
     rw[hl]at this
     exact this
   |slz =>
     have:rows=[]:=co hl
     rw[this];exact .isl0 _ _ _ oM
   |sln =>
     have:rows=[]:=co hl
     rw[this];exact .isl0 _ _ _ oM
 |agg cs ds hl _ ih =>
   intro v hv
   obtain⟨us,rfl,hu⟩:=hv.aggL
   refine bA.agg ⟨by rw[←hl];exact hu.1,fun j d u hd hju=>?_⟩
   have rG:=(ak.1 hd).1
   have hc:cs[j]? = some cs[j]:=ah oM
   exact ih j _ d hc hd u (hu.2 j _ u hc hju)
 |tup cs ds hl _ ih =>
   intro v hv
   obtain⟨us,rfl,hu⟩:=hv.tupL
   refine bA.tup ⟨by rw[←hl];exact hu.1,fun j d u hd hju=>?_⟩
   have rG:=(ak.1 hd).1
   have hc:cs[j]? = some cs[j]:=ah oM
   exact ih j _ d hc hd u (hu.2 j _ u hc hju)

theorem QA.deepMid {P:Program} {f:Nat} {args args':List AV} {b l1 N l2:List Row} {Q:AV→List Row→List Row→Prop} (hl:args.length=args'.length)
  (hd:∀(i:Nat) (x y:AV),args[i]? = some x→args'[i]? = some y→Dv (b.length+l1.length) N x y) (h:QA P f args' b (l1++(N.map iF++l2)) Q):QA P f args b (l1++(N++l2)) Q:=by
 refine⟨h.1,fun F L w us s hr=>?_⟩
 obtain⟨n,hn⟩:∃n,n=b.length+l1.length:=⟨_,rfl⟩
 rw[←hn]at hd
 have e1:∀X:List Row,∀j,j<n→(b++(l1++(X++l2)))[j]? = (b++l1)[j]?:=fun X j hj=>by
  rw[←bh,aw (by rw[aq];omega)]
 have e2:∀X:List Row,∀j,j<X.length→(b++(l1++(X++l2)))[n+j]? = X[j]?:=fun X j hj=>by
  rw[←bh,ar (by rw[aq];omega),aq,←hn,ci,aw hj]
 have e3:∀X:List Row,∀j,(b++(l1++(X++l2)))[n+X.length+j]? = l2[j]?:=fun X j=>by
  rw[←bh,ar (by rw[aq];omega),aq,←hn,ct,ci,ar oM,ci]
 have sp:∀j,j<n∨(∃i,i<N.length∧j=n+i)∨∃i,j=n+N.length+i:=fun j=>by
  by_cases h1:j<n
  ·exact .inl h1
  ·by_cases h2:j<n+N.length
   ·exact .inr (.inl ⟨j-n,by omega,by omega⟩)
   ·exact .inr (.inr ⟨j-(n+N.length),by omega⟩)
 have hml:(N.map iF).length=N.length:=aa _
 have e2d:∀i,i<N.length→∃r,N[i]? = some r∧(b++(l1++(N++l2)))[n+i]? = some r∧(b++(l1++(N.map iF++l2)))[n+i]? = some (iF r):=fun i hi=>by
  refine⟨N[i],ah hi,by rw[e2 _ _ hi,ah hi],?_⟩
  rw[e2 _ _ (by rw[hml];exact hi),an,ah hi];rfl
 have e3d:∀j,(b++(l1++(N.map iF++l2)))[n+N.length+j]? = l2[j]?:=fun j=>by
  have:=e3 (N.map iF) j
  rw[hml]at this;exact this
 have gH:∀{j v z:Nat} {els:List (List AV)},(b++(l1++(N.map iF++l2)))[j]? = some (.live v z els)→(∀i,i<N.length→j≠n+i)∧(b++(l1++(N++l2)))[j]? = some (.live v z els):=fun {j v z els} hj=>by
  rcases sp j with h1|⟨i,hi,rfl⟩|⟨i,rfl⟩
  ·rw[e1 _ _ h1]at hj⊢;exact⟨fun i _=>by omega,hj⟩
  ·obtain⟨r,_,_,h4⟩:=e2d i hi
   rw[h4]at hj;cases hj
  ·rw[e3d]at hj;rw[e3];exact⟨fun i _=>by omega,hj⟩
 have GE:∀{i ver sz els},N[i]? = some (.live ver sz els)→i<N.length∧(b++(l1++(N++l2)))[n+i]? = some (.live ver sz els):=fun {i ver sz els} hi=>by
  have:=(ak.1 hi).1
  exact⟨this,by rw[e2 _ _ this];exact hi⟩
 have WF:∀k,bC L (b++(l1++(N.map iF++l2))) k→bC L (b++(l1++(N++l2))) k:=by
  rintro k ⟨j,v,z,els,q,h1,h2,h3⟩
  exact⟨j,v,z,els,q,(gH h1).2,h2,h3⟩
 have s1:Sim (FD F L n N) L (b++(l1++(N.map iF++l2))) w:=by
  refine⟨fun j v z els hj=>?_,fun j v q hq=>?_,fun j j' v v' z z' e1 e2 bb q1 q2 h1 h2=>s.apart j j' v v' z z' e1 e2 bb q1 q2 (gH h1).2 (gH h2).2,fun k hk=>?_,s.glob.mono (fun _ h=>.inl h) (fun _ _=>rfl)⟩
  ·obtain⟨q,g1,g2⟩:=s.row j v z els (gH hj).2
   exact⟨q,g1,g2.mono (fun _ _=>rfl) (fun _ _ h=>h.mono (fun _ h=>.inl h) (fun _ _=>rfl) (fun _ _ _ h=>h))⟩
  ·obtain⟨r,h1,h2⟩:=s.born j v q hq
   rcases sp j with h3|⟨i,hi,rfl⟩|⟨i,rfl⟩
   ·exact⟨r,by rw[e1 _ _ h3]at h1⊢;exact h1,h2⟩
   ·obtain⟨r',_,h4,h5⟩:=e2d i hi
    rw[h4]at h1;cases h1
    exact⟨iF r,h5,h2⟩
   ·exact⟨r,by rw[e3]at h1;rw[e3d];exact h1,h2⟩
  ·rcases hk with hk|⟨i,ver,sz,els,q,h1,h2,h3⟩
   ·exact⟨(s.imm k hk).1,fun ho=>(s.imm k hk).2 (WF k ho)⟩
   ·obtain⟨hi,h1⟩:=GE h1
    obtain⟨q',g1,g2⟩:=s.row _ _ _ _ h1
    rw[h2]at g1;cases g1
    refine⟨g2.lt h3,?_⟩
    rintro⟨j,v,z,els',q2,k1,k2,k3⟩
    obtain⟨hj,k4⟩:=gH k1
    exact hj i hi (s.apart j (n+i) v ver z sz els' els k q2 q k4 h1 k2 h2 k3 h3)
 have sV:bA w (FD F L n N) L args' us.toList:=⟨by rw[←hl];exact hr.1,fun j y v hy hv=>by
  have S7:=(ak.1 hy).1
  have hx:args[j]? = some args[j]:=ah oM
  exact (hd j _ y hx hy).repR (fun i ver sz els hi=>s.row _ _ _ _ (GE hi).2) v (hr.2 j _ v hx hv)⟩
 refine Calls.mono (h.2 _ L w us s1 sV) ?_
 rintro en w' ⟨v,x,b',l',F2,L2,h1,h2,h3,h4,h5,h6⟩
 have pC:(b++(l1++(N.map iF++l2))).length=(b++(l1++(N++l2))).length:=by simp
 have st:Step (b++(l1++(N++l2))).length F L (b++(l1++(N++l2))) w (FD F L n N) L (b++(l1++(N.map iF++l2))) w:=by
  refine⟨fun _ h=>.inl h,fun _ _ _ _ h=>h,rfl,rfl,rfl,ai _,fun _ _ _=>rfl,fun k _ ho=>WF k ho,fun id hid v hv=>?_,fun k hk hf=>?_⟩
  ·rcases sp id with h3|⟨i,hi,rfl⟩|⟨i,rfl⟩
   ·rw[e1 _ _ h3]at hv⊢;exact hv
   ·obtain⟨r,_,h4,h5⟩:=e2d i hi
    rw[h4]at hv;cases hv
    exact h5
   ·rw[e3]at hv;rw[e3d];exact hv
  ·rcases hf with hf|⟨i,ver,sz,els,q,h1,h2,h3⟩
   ·exact .inl hf
   ·exact .inr ⟨_,_,_,_,_,(GE h1).2,h2,h3⟩
 exact⟨v,x,b',l',F2,L2,h1,h2,h3,st.trans (pC▸h4),h5,h6⟩
def a_wRun:AFunc:=({c:=_}:CF Tryz.prog 12).c
theorem ZAw:jA Tryz.prog 12=some a_wRun:=by kernel_rfl
def j8:List (Nat×Nat):=[(5,5),(7,8),(21,44)]

noncomputable def yL (w:Wd) (x:Int):Wd×Int:=if 0≤x then EM w x else iN w (-x)
noncomputable def zS (w:Wd):List Int→Wd×Int
 |[]=>(w,0)
 |x::r=>if (yL w x).2=0 then zS (yL w x).1 r else (wd0,(yL w x).2)
theorem WO {w:Wd} (hw:WdV w) {x:Int} (h:(yL w x).2=0):WdV (yL w x).1:=by
 unfold yL at h⊢
 split at h<;>rename_i h1
 ·rw[if_pos h1]
  unfold EM at h⊢
  rw[if_pos hw.to]at h⊢
  split at h<;>rename_i h2
  ·cases h
  rw[if_neg h2]
  split at h<;>rename_i h3
  ·rw[if_pos h3]
   exact IN hw oM h3 h
  ·cases h
 ·rw[if_neg h1]
  unfold iN at h⊢
  rw[if_pos hw.to]at h⊢
  split at h<;>rename_i h2
  ·rw[if_pos h2];exact ZCP hw ⟨h2.1.1,h2.2⟩
  ·cases h
theorem ZF9 {w:Wd} {x:Int} (h:(yL w x).2≠0):(yL w x).1=wd0:=by
 unfold yL at h⊢
 split at h<;>rename_i h1
 ·rw[if_pos h1]
  unfold EM at h⊢
  split at h<;>rename_i h2
  ·rw[if_pos h2]
   split at h<;>rename_i h3
   ·rw[if_pos h3]
   rw[if_neg h3]
   split at h<;>rename_i h4
   ·rw[if_pos h4];exact ZDj h
   ·rw[if_neg h4]
  ·rw[if_neg h2]
 ·rw[if_neg h1]
  unfold iN at h⊢
  split at h<;>rename_i h2
  ·rw[if_pos h2]
   split at h<;>rename_i h3
   ·exact absurd rfl h
   ·rw[if_neg h3]
  ·rw[if_neg h2]
theorem ZFQ {w:Wd} {x:Int} (h0:x<0) (h1:-9223372036854775808≤x):iN w (IntKind.i64.wrap (-x))=iN w (-x):=by
 by_cases h:x=-9223372036854775808
 ·subst h
  have e1:IntKind.i64.wrap (-(-9223372036854775808))=-9223372036854775808:=by decide
  rw[e1]
  unfold iN
  rw[if_neg (by omega:¬((0≤(-9223372036854775808:Int)∧(-9223372036854775808:Int)≤1000000)∧w.now+-9223372036854775808≤1000000000)),if_neg (by omega:¬((0≤(-(-9223372036854775808):Int)∧(-(-9223372036854775808):Int)≤1000000)∧w.now+-(-9223372036854775808)≤1000000000))]
 ·rw[dA oM oM]
theorem ZAi {α:Type} {l:List α} {i:Nat} (h:i<l.length):l.drop i=l[i]::l.drop (i+1):=List.drop_eq_getElem_cons h
noncomputable def runW (w:Wd) (order:List Int):Wd×Int:=if wdB w=true then (if 1000<order.length then (wd0,5) else zS w order) else (wd0,1)
theorem pO (w:Wd) (hS:Sm w.tr) (hN:Nm w.tr) (qN:SvsS w.sv) (EY:NwS w.net) (order:List Int) (hol:order.length≤1000000) (ho:∀x∈order,-9223372036854775808≤x) (b l:List Row):QA Tryz.prog 12 [.agg ((eWd w).map .v),.v (.isl 1 (order.map eI))] b l (fun r b' l'=>r=.tup [.agg ((eWd (runW w order).1).map .v),.v (.int .i64 (runW w order).2)]∧b'=b∧l'=l):=by
 refine XA ZAw rfl kE ?_
 intro B g hB hR hE hA;simp only[zA]at hA
 have cV:=fun b l=>rH w hS hN qN EY b l
 rw[tC]at hA cV
 simp (disch:=first|decide|omega) only[a_wRun,hA,cellsOf,go_sem]
 refine QA.nxt (cV _ _) ?_
 cases t1:wdB w
 ·have hr:runW w order=(wd0,1):=by unfold runW;rw[if_neg (by rw[t1];simp)]
  rw[hr]
  simp (disch:=first|decide|omega) only[hA,cellsOf,go_sem]
  exact dB (.inr rfl) (xs:=[.agg zZA,.v (.int .i64 1)]) kR (KG 1) hR hB ⟨rfl,rfl,rfl⟩
 have hw:=WdV.of t1
 by_cases h2:1000<order.length
 ·have d2:decide ((order.length:Int)>1000)=true:=ae oM
  have d2':decide ((1000:Int)<(order.length:Int))=true:=d2
  have hr:runW w order=(wd0,5):=by unfold runW;rw[if_pos t1,if_pos h2]
  rw[hr]
  simp (disch:=first|decide|omega) only[hA,d2,d2',aa,go_sem]
  exact dB (.inr rfl) (xs:=[.agg zZA,.v (.int .i64 5)]) kR (KG 5) hR hB ⟨rfl,rfl,rfl⟩
 have d2:decide ((order.length:Int)>1000)=false:=ag oM
 have d2':decide ((1000:Int)<(order.length:Int))=false:=d2
 have hr:runW w order=zS w order:=by unfold runW;rw[if_pos t1,if_neg h2]
 rw[hr]
 have cC:=fun b l=>qK w qN hw.small EY (by have:=(aN hw.sv).1;omega) hw.tr.lo b l
 rw[tC]at cC
 simp (disch:=first|decide|omega) only[hA,d2,d2',aa,go_sem]
 refine QA.nxt (cC _ _) ?_
 simp (disch:=first|decide|omega) only[hA,aa,go_sem]
 refine JA (ι:=Nat×Wd) j8 (fun z=>[(21,.v (.int .i64 z.1))]) 2 (fun z=>[.live 0 9 [(eWd z.2).map .v],.live 0 9 [zZA]])
  (fun z=>z.1≤order.length∧WdV z.2∧zS w order=zS z.2 (order.drop z.1)) (fun z=>order.length-z.1) (0,w) ⟨aj _,hw,by rw[gz]⟩ kM kA kF ?_
 rintro g1 UG mF rA ⟨i,W⟩ ⟨hi,hW,MY⟩
 simp only at hi hW MY⊢
 by_cases yA:i<order.length
 ·have hgo:=tE yA
  obtain⟨x,hx⟩:∃x,order[i]=x:=⟨_,rfl⟩
  rw[YA yA,hx]at hgo
  have hxm:-9223372036854775808≤x:=by rw[←hx];exact ho _ (am yA)
  rw[ZAi yA,hx]at MY
  rw[MY]
  rw[tC]
  obtain⟨y,hy⟩:∃y,yL W x=y:=⟨_,rfl⟩
  have hrr:zS W (x::order.drop (i+1))=if y.2=0 then zS y.1 (order.drop (i+1)) else (wd0,y.2):=by show (if (yL W x).2=0 then zS (yL W x).1 _ else _)=_;rw[hy]
  have hye:y.2=0→WdV y.1:=fun h=>by rw[←hy]at h⊢;exact WO hW h
  have hy0:y.2≠0→y.1=wd0:=fun h=>by rw[←hy]at h⊢;exact ZF9 h
  have cS:=fun b l=>U2 W hW.small.sm hW.nm hW.svS hW.net.s x b l
  have cT:=fun b l=>V2 W hW.small.sm hW.nm hW.svS hW.net.s (IntKind.i64.wrap (0-x)) b l
  rw[tC]at cS cT
  by_cases h0:0≤x
  case' pos =>
   have d0:decide (x≥0)=true:=ae h0
   have d0':decide (0≤x)=true:=d0
   have hyo:EM W x=y:=by rw[←hy];unfold yL;rw[if_pos h0]
   rw[hyo,tC]at cS
   simp (disch:=first|decide|omega) only[hA,rA,hgo,d0,d0',aa,go_sem]
   refine QA.nxt (cS _ _) ?_
  case' neg =>
   have d0:decide (x≥0)=false:=ag h0
   have d0':decide (0≤x)=false:=d0
   have hyo:iN W (IntKind.i64.wrap (0-x))=y:=by rw[Int.zero_sub,ZFQ oM hxm,←hy];unfold yL;rw[if_neg h0]
   rw[hyo,tC]at cT
   simp (disch:=first|decide|omega) only[hA,rA,hgo,d0,d0',aa,go_sem]
   refine QA.nxt (cT _ _) ?_
  all_goals
   by_cases he:y.2=0
   ·have e0:(y.2 != 0)=false:=by rw[he];rfl
    have ZJG:=hrr
    rw[if_pos he]at ZJG
    have hWy:=hye he
    rw[ZJG]
    simp (disch:=first|decide|omega) only[hA,rA,e0,aa,go_sem]
    refine⟨(i+1,y.1),⟨yA,hWy,by rw[←ZJG,←MY]⟩,by simp only;omega,?_⟩
    simp only[tC]
    exact KA.kround (p:=j8) (k:=2) kQ kA rfl UG kS kV hR kL
   ·have e0:(y.2 != 0)=true:=bne_iff_ne.2 he
    rw[if_neg he]at hrr
    rw[hrr]
    simp (disch:=first|decide|omega) only[hA,rA,e0,aa,go_sem]
    exact dB (.inr rfl) (xs:=[.agg zZA,.v (.int .i64 y.2)]) kR (KG y.2) hR hB ⟨rfl,rfl,rfl⟩
 ·obtain rfl:i=order.length:=by omega
  have hrn:zS w order=(W,0):=by rw[MY,List.drop_length];rfl
  rw[hrn,tC]
  simp (disch:=first|decide|omega) only[hA,rA,aa,go_sem]
  exact ZA (xs:=[.agg (zWA W),.v (.int .i64 0)])
def a_awk54:AFunc:=⟨0,76,[.tmp 0],(.seq (.region [⟨some 0,.mv (.c (.v (.bool false))),none⟩]) (.seq (.region [⟨some 8,.build [(.v (.int .i64 0)),(.v (.int .i64 0)),(.v (.int .i64 0))] [(0,1,(.c (.v (.int .i64 3)))),(1,1,(.c (.v (.int .i64 0)))),(2,1,(.c (.v (.int .i64 1))))],none⟩,⟨some 9,.build [(.v (.int .i64 0)),(.v (.int .i64 0)),(.v (.int .i64 0))] [(0,1,(.c (.v (.int .i64 8))))],none⟩,⟨some 10,.bslice 3 [(.v (.int .i64 0)),(.v (.int .i64 0)),(.v (.int .i64 0))] 2 [(0,(.t 8)),(1,(.t 9))],none⟩,⟨some 11,.bslice 1 [(.v (.int .i64 0))] 1 [(0,(.c (.v (.int .i64 5))))],none⟩,⟨some 12,.build [(.v (.str ⟨#[]⟩)),(.v .zsl),(.v (.int .i64 0)),(.v .zsl),(.v (.int .i64 0)),(.v (.int .i64 0))] [(0,1,(.c (.v (.str ⟨#[97]⟩)))),(1,1,(.t 10)),(3,1,(.t 11)),(5,1,(.c (.v (.int .i64 1000))))],none⟩,⟨some 13,.build [(.v (.int .i64 0)),(.v (.int .i64 0)),(.v (.int .i64 0))] [(0,1,(.c (.v (.int .i64 4))))],none⟩,⟨some 14,.build [(.v (.int .i64 0)),(.v (.int .i64 0)),(.v (.int .i64 0))] [(0,1,(.c (.v (.int .i64 2)))),(1,1,(.c (.v (.int .i64 0)))),(2,1,(.c (.v (.int .i64 1))))],none⟩,⟨some 15,.bslice 3 [(.v (.int .i64 0)),(.v (.int .i64 0)),(.v (.int .i64 0))] 2 [(0,(.t 13)),(1,(.t 14))],none⟩,⟨some 16,.bslice 1 [(.v (.int .i64 0))] 1 [(0,(.c (.v (.int .i64 0))))],none⟩,⟨some 17,.build [(.v (.str ⟨#[]⟩)),(.v .zsl),(.v (.int .i64 0)),(.v .zsl),(.v (.int .i64 0)),(.v (.int .i64 0))] [(0,1,(.c (.v (.str ⟨#[98]⟩)))),(1,1,(.t 15)),(3,1,(.t 16)),(5,1,(.c (.v (.int .i64 1000))))],none⟩,⟨some 18,.bslice 6 [(.v (.str ⟨#[]⟩)),(.v .zsl),(.v (.int .i64 0)),(.v .zsl),(.v (.int .i64 0)),(.v (.int .i64 0))] 2 [(0,(.t 12)),(1,(.t 17))],none⟩,VMx 1 18]) (.seq (.region [VMx 20 1,⟨some 21,.build [(.v (.int .i64 0)),(.v (.bool false)),(.v .zsl),(.v .zsl),(.v .zsl)] [],none⟩,⟨some 22,.call (.c (.fn 33 [])) [(.t 20),(.t 21)],none⟩,VMx 19 22,⟨some 23,.extract 0 (.t 19),none⟩,⟨some 24,.extract 1 (.t 19),none⟩,⟨some 2,.alloc [(.v .zsl),(.v (.int .i64 0)),(.v (.bool false)),(.v .zsl),(.v .zsl),(.v .zsl),(.v (.int .i64 0)),(.v (.int .i64 0)),(.v .zsl)],none⟩,⟨none,.store 9 (.t 2) (.t 23),none⟩,VMx 3 24]) (.seq (.region [⟨some 26,.load (some 9) (.t 2),none⟩,⟨some 27,.call (.c (.fn 20 [])) [(.t 26)],none⟩,VMx 25 27,⟨some 28,.extract 0 (.t 25),none⟩,⟨some 29,.extract 1 (.t 25),none⟩,VMx 4 28,VMx 5 29]) (.seq (.region [⟨some 31,.load (some 9) (.t 2),none⟩,⟨some 32,.bslice 1 [(.v (.int .i64 0))] 3 [(0,(.c (.v (.int .i64 0)))),(1,(.c (.v (.int .i64 1)))),(2,(.c (.v (.int .i64 1))))],none⟩,⟨some 33,.call (.c (.fn 12 [])) [(.t 31),(.t 32)],none⟩,VMx 30 33,⟨some 34,.extract 0 (.t 30),none⟩,⟨some 35,.extract 1 (.t 30),none⟩,⟨some 6,.alloc [(.v .zsl),(.v (.int .i64 0)),(.v (.bool false)),(.v .zsl),(.v .zsl),(.v .zsl),(.v (.int .i64 0)),(.v (.int .i64 0)),(.v .zsl)],none⟩,⟨none,.store 9 (.t 6) (.t 34),none⟩,VMx 7 35]) (.seq (.region [VMx 36 3,⟨some 37,.bin .eql (.t 36) (.c (.v (.int .i64 0))),none⟩,VMx 38 37,VMx 39 5 (some (38,true)),⟨some 40,.bin .eql (.t 39) (.c (.v (.int .i64 0))),some (38,true)⟩,⟨some 41,.pick (.t 38) (.t 40) (.c (.v (.bool false))),none⟩,VMx 42 41,VMx 43 4 (some (42,true)),⟨some 44,.bslice 1 [(.v (.int .i64 0))] 1 [(0,(.c (.v (.int .i64 0))))],some (42,true)⟩,⟨some 45,.call (.c (.fn 24 [])) [(.t 43),(.t 44)],some (42,true)⟩,⟨some 46,.pick (.t 42) (.t 45) (.c (.v (.bool false))),none⟩,VMx 47 46,VMx 48 7 (some (47,true)),⟨some 49,.bin .eql (.t 48) (.c (.v (.int .i64 0))),some (47,true)⟩,⟨some 50,.pick (.t 47) (.t 49) (.c (.v (.bool false))),none⟩,VMx 51 50,⟨some 52,.load (some 9) (.t 6),some (51,true)⟩,⟨some 53,.call (.c (.fn 23 [])) [(.t 52)],some (51,true)⟩,⟨some 54,.pick (.t 51) (.t 53) (.c (.v (.bool false))),none⟩,VMx 55 54,VFx 56 0 6 (some (55,true)),VLx 57 56 (some (55,true)),VEx 58 57 (some (55,true)),⟨some 59,.bin .eql (.t 58) (.c (.v (.int .i64 2))),some (55,true)⟩,⟨some 60,.pick (.t 55) (.t 59) (.c (.v (.bool false))),none⟩,VMx 61 60,VFx 62 0 6 (some (61,true)),VLx 63 62 (some (61,true)),⟨some 64,.iaddr 6 (.t 63) (.c (.v (.int .i64 1))),some (61,true)⟩,VFx 65 3 64 (some (61,true)),VLx 66 65 (some (61,true)),⟨some 67,.bslice 1 [(.v (.int .i64 0))] 1 [(0,(.c (.v (.int .i64 6))))],some (61,true)⟩,⟨some 68,.call (.c (.fn 24 [])) [(.t 66),(.t 67)],some (61,true)⟩,⟨some 69,.pick (.t 61) (.t 68) (.c (.v (.bool false))),none⟩,VMx 70 69,VFx 71 8 6 (some (70,true)),⟨some 72,.load (some 1) (.t 71),some (70,true)⟩,⟨some 73,.call (.c (.fn 39 [])) [(.t 72)],some (70,true)⟩,⟨some 74,.bin .eql (.t 73) (.c (.v (.int .i64 3))),some (70,true)⟩,⟨some 75,.pick (.t 70) (.t 74) (.c (.v (.bool false))),none⟩,VMx 0 75]) .ret))))))⟩
theorem z6:jA Tryz.prog 9=some a_awk54:=by kernel_rfl

theorem E8 {l:List Sv} (p:Nat):iA (l.map npr) p=[]:=by
 unfold iA
 rw[ap,an]
 cases l[p]? <;> rfl
theorem FQ {l:List Sv} (x:Nat×Nat):x∉ids (l.map npr):=fun hx=>by
 obtain⟨p,i⟩:=x
 obtain⟨i,rfl⟩:∃k,i=k+1:=⟨i-1,by have:=dG hx;simp only at this;omega⟩
 have:=(KE.1 hx).2
 rw[E8]at this
 exact absurd this kS
theorem ZCK:∀i:Fin 8,nD (OG i)=true:=by decide
theorem ZCL:∀i j:Fin 8,j<i→(OG j==OG i)=false:=by decide
theorem ZHk {v:Int} (h:vlB v=true):lK v=true:=by
 unfold vlB at h;unfold lK
 simpa using h
theorem ZCk {l:List Sv} (h:bF l=true) {p:Nat} (hp:p<l.length):SC (l.map npr) p=0:=by
 obtain⟨hv,hd⟩:=jI h hp
 have hg:l.getD p dfSv=l[p]:=YA hp
 rw[hg]at hv
 unfold SC
 rw[F8 hp]
 have c1:((l.map npr).take p).any (fun y=>y.name.toList==(npr l[p]).name.toList)=false:=by
  rw[fu]
  intro y hy hc
  obtain⟨q,hq⟩:=ek.1 hy
  rw[cz]at hq
  split at hq
  ·rename_i hqp
   rw[an,ah oM]at hq
   cases hq
   rw[←beq_toListBytes]at hc
   have:=hd q hqp
   rw[hg,YA oM]at this
   exact this (PS hc)
  ·cases hq
 have c3:uB (aM (npr l[p]).vars) (npr l[p]).vars.length=0:=by
  rw[GG]
  intro i hi
  have hi:i<l[p].vars.length:=by rw[←VI (l:=l[p].vars)];exact hi
  have h8:=hv.vl
  have CI:∀j,j<l[p].vars.length→(npr l[p]).vars.getD j qO=wVr l[p].vars j:=fun j hj=>j9 hj
  unfold aM
  rw[CI i hi]
  have a1:nD (wVr l[p].vars i).name=true:=ZCK ⟨i,by omega⟩
  have a2:((npr l[p]).vars.take i).any (fun y=>y.name.toList==(wVr l[p].vars i).name.toList)=false:=by
   rw[fu]
   intro y hy hc
   obtain⟨q,hq⟩:=ek.1 hy
   rw[cz]at hq
   split at hq
   ·rename_i hqi
    have e:=CI q oM
    rw[ap,hq,fk]at e
    rw[e,←beq_toListBytes]at hc
    have:=ZCL ⟨i,by omega⟩ ⟨q,by omega⟩ hqi
    have JR:(OG q==OG i)=true:=hc
    rw[JR]at this;cases this
   ·cases hq
  have a3:lK (wVr l[p].vars i).init=true:=ZHk (by show vlB (l[p].vars.getD i 0)=true;rw[YA hi];exact hv.vs _ (am hi))
  rw[a1,a2,a3];rfl
 have c0:nD (npr l[p]).name=true:=hv.name
 have c2:¬8<(npr l[p]).vars.length:=by
  have:=hv.vl
  show ¬8<(NM l[p].vars).length
  rw[VI];omega
 rw[c0,c1,c3]
 simp only[it,Bool.or_false,dn,if_false,ne_eq,not_true_eq_false]
 rw[if_neg c2]
 rfl
theorem ZFq {l:List Sv} (h:bF l=true):Vok (l.map npr):=by
 have hn:=aN h
 exact⟨by rw[aa];omega,by rw[aa];omega,fun p hp=>ZCk h (by rwa [aa]at hp),fun x hx=>absurd hx (FQ x),fun x hx=>absurd hx (FQ x),fun x hx=>absurd hx (FQ x)⟩
theorem J2 (v:List Int):(NM v).map (·.init)=v:=by
 apply dr
 intro i
 rw[an]
 by_cases hi:i<v.length
 ·unfold NM
  rw[eD hi,ah hi]
  show some (v.getD i 0)=_
  rw[YA hi]
 ·rw[bu (by rw[VI];omega),bu oM];rfl
theorem ZFr (s:Sv) (now:Int):QI (npr s) s now=true:=by
 unfold QI
 have h1:((npr s).name==s.name)=true:=iK _
 have h2:(npr s).vars.length=s.vars.length:=VI
 have h3:dX (npr s) s.vars.length=true:=by
  unfold dX
  rw[bg]
  intro i hi
  have e:(npr s).vars.getD i qO=wVr s.vars i:=j9 (ba.1 hi)
  rw[e];exact iK _
 have h4:AL (npr s)=s.vars:=J2 s.vars
 have h5:MT (npr s) (nH s now)=true:=by unfold MT;exact ae (.inl rfl)
 rw[h1,ae h2,h3,ae h4,h5];rfl
theorem C8 {l:List Sv}:∀k,cSd (l.map npr) k=0
 |0=>rfl
 |k+1=>by
   simp only[cSd]
   rw[C8 k,E8];rfl
theorem ZAZ {l:List Sv} {n:Nw} (h:bF l=true) (hn:NwV n) (h0:n.now=0) (hl:n.l=[]):WdV (I7 l n):=by
 refine⟨h,⟨ij _,by show (0:Int)≤1000000000;decide⟩,hn,h0,ZFq h,by show (l.map npr).length=l.length;rw[aa],fun p hp=>?_,fun x hx=>absurd hx (FQ x),?_,fun m hm=>?_⟩
 ·have hp:p<l.length:=by rw[←aa (f:=npr)];exact hp
  show QI ((l.map npr).getD p dfPr) (l.getD p dfSv) 0=true
  rw[F8 hp,YA hp]
  exact ZFr _ _
 ·show ((cSd (l.map npr) _:Nat):Int)=0
  rw[C8];rfl
 ·have hm:m∈n.l:=hm
  rw[hl]at hm;cases hm
def awL:List Sv:=[⟨⟨#[97]⟩,[⟨3,0,1⟩,⟨8,0,0⟩],0,[5],0,1000⟩,⟨⟨#[98]⟩,[⟨4,0,0⟩,⟨2,0,1⟩],0,[0],0,1000⟩]
theorem i7:bF awL=true:=by kernel_rfl
theorem E6:nwB nw0=true:=by kernel_rfl
noncomputable def aw0:Wd:=I7 awL nw0
noncomputable def aw1:Wd:=(stW aw0 0).1
noncomputable def aw2:Wd:=(stW aw1 1).1
noncomputable def aw3:Wd:=(stW aw2 1).1
theorem PL:WdV aw0:=ZAZ i7 (MF.1 E6) rfl rfl
theorem ZHO:SD aw0 0=true:=by kernel_rfl
theorem ZHN:(stW aw0 0).2=0:=by kernel_rfl
theorem aw0_l:xL aw0 2=[0]:=by kernel_rfl
theorem ZHJ:WdV aw1:=IN PL (by show 0<2;omega) ZHO ZHN
theorem ZHL:aw1.sv.length=2:=by kernel_rfl
theorem ZHM:SD aw1 1=true:=by kernel_rfl
theorem ZHK:(stW aw1 1).2=0:=by kernel_rfl
theorem ZHF:WdV aw2:=IN ZHJ (by rw[ZHL];omega) ZHM ZHK
theorem ZHH:aw2.sv.length=2:=by kernel_rfl
theorem ZHI:SD aw2 1=true:=by kernel_rfl
theorem ZHG:(stW aw2 1).2=0:=by kernel_rfl
theorem mQ:WdV aw3:=IN ZHF (by rw[ZHH];omega) ZHI ZHG
theorem aw3_n:aw3.sv.length=2:=by kernel_rfl
theorem aw3_x:aw3.sv.all UH=true:=by kernel_rfl
theorem ZHE:(ids aw3.tr).length=3:=by kernel_rfl
theorem aw3_r:(aw3.sv.map eSv)[1]? = some [.str ⟨#[98]⟩,.isl 3 [[.int .i64 4,.int .i64 0,.int .i64 0],[.int .i64 2,.int .i64 0,.int .i64 1]],.int .i64 2,.isl 1 [[.int .i64 6]],.int .i64 0,.int .i64 1000]:=by kernel_rfl
theorem N6 {w:Wd} (hw:WdV w) {p:Nat} (hp:p<w.sv.length) (he:SD w p=true):yL w p=stW w p:=by
 unfold yL
 rw[if_pos oM]
 unfold EM
 rw[if_pos hw.to,if_neg oM,cj,if_pos he]
theorem ZI3:runW aw0 [0,1,1]=(aw3,0):=by
 have h0:yL aw0 0=stW aw0 0:=N6 (p:=0) PL (by show 0<2;omega) ZHO
 have h1:yL aw1 1=stW aw1 1:=N6 (p:=1) ZHJ (by rw[ZHL];omega) ZHM
 have h2:yL aw2 1=stW aw2 1:=N6 (p:=1) ZHF (by rw[ZHH];omega) ZHI
 unfold runW
 rw[if_pos PL.to,if_neg kE]
 have e1:(stW aw0 0).1=aw1:=rfl
 have e2:(stW aw1 1).1=aw2:=rfl
 have e3:(stW aw2 1).1=aw3:=rfl
 simp only[zS]
 rw[h0,if_pos ZHN,e1,h1,if_pos ZHK,e2,h2,if_pos ZHG,e3]
theorem yK (b l:List Row):QA Tryz.prog 9 [] b l (fun r b' l'=>r=.v (.bool true)∧b'=b∧l'=l):=by
 refine XA z6 rfl kE ?_
 intro B g hB hR hE hA;simp only[zA]at hA
 have cN:∀b l,QA Tryz.prog 33 [.v (.isl 6 (awL.map eSv)),.agg [.v (.int .i64 0),.v (.bool false),.v .zsl,.v .zsl,.v .zsl]] b l (fun r b' l'=>r=.tup [.agg ((eWd aw0).map .v),.v (.int .i64 0)]∧b'=b∧l'=l):=fun b l=>by
  have hb:vO awL nw0=(aw0,0):=by
   unfold vO
   rw[if_pos ⟨i7,E6⟩,if_neg (by rintro (h|h|h);exact h rfl;exact absurd h kE;exact absurd h kE)];rfl
  have:=G2 awL (ZGu i7) nw0 (MF.1 E6).s b l
  rw[hb]at this
  refine this.le rfl (fun i x y hx hy=>?_)
  match i,hx,hy with
  |0,hx,hy=>cases hx;cases hy;exact .refl _
  |1,hx,hy =>
    cases hx;cases hy
    refine .agg _ _ rfl (fun j u v hu hv=>?_)
    match j,hu,hv with
    |0,hu,hv=>cases hu;cases hv;exact .refl _
    |1,hu,hv=>cases hu;cases hv;exact .refl _
    |2,hu,hv=>cases hu;cases hv;exact .v _ _ (.zsl 4)
    |3,hu,hv=>cases hu;cases hv;exact .v _ _ (.zsl 1)
    |4,hu,hv=>cases hu;cases hv;exact .v _ _ (.zsl 2)
 have cE:=fun b l=>HX aw0 PL.small PL.nm PL.svS PL.net.s PL.to b l
 have hq:BP aw0 aw0.sv.length=[[.int .i64 0]]:=by
  show (xL aw0 2).map _=_
  rw[aw0_l];rfl
 rw[hq]at cE
 have cR:=fun b l=>pO aw0 PL.small.sm PL.nm PL.svS PL.net.s [0,1,1] kS kS b l
 rw[ZI3]at cR
 have cD:=fun b l=>aX aw3 mQ.small.sm mQ.nm mQ.svS mQ.net.s b l
 have hd:ZEm aw3=true:=by unfold ZEm;rw[mQ.to,aw3_x];rfl
 rw[hd]at cD
 have cC:=fun b l=>E4 aw3.tr mQ.small mQ.nm b l (by rw[ZHE];omega)
 have hc:sM aw3.tr=3:=by unfold sM;rw[if_pos (bI mQ.tr),ZHE]
 rw[hc]at cC
 simp only[eT]at cC
 have q0:∀b l,QA Tryz.prog 24 [.v (.isl 1 [[.int .i64 0]]),.v (.isl 1 [[.int .i64 0]])] b l (fun r b' l'=>r=.v (.bool true)∧b'=b∧l'=l):=fun b l=>IS [0] [0] kS b l
 have q6:∀b l,QA Tryz.prog 24 [.v (.isl 1 [[.int .i64 6]]),.v (.isl 1 [[.int .i64 6]])] b l (fun r b' l'=>r=.v (.bool true)∧b'=b∧l'=l):=fun b l=>IS [6] [6] kS b l
 have g1:=aw3_r
 have n3:=aw3_n
 obtain⟨W,hW⟩:∃W,aw0=W:=⟨_,rfl⟩
 obtain⟨V,hV⟩:∃V,aw3=V:=⟨_,rfl⟩
 rw[hW]at cN cE cR
 rw[hV]at cR cD cC g1 n3
 simp only[tC]at cN cE cR cD
 have b1:((0:Int)==0)=true:=rfl
 have b2:((3:Int)==3)=true:=rfl
 have b3:(((3:Nat):Int)==3)=true:=rfl
 have b4:(((2:Nat):Int)==2)=true:=rfl
 have b5:((2:Int)==2)=true:=rfl
 have t1:Int.toNat 1=1:=rfl
 simp (disch:=first|decide|omega) only[a_awk54,hA,iB,bx,ca,gh,gv,go_sem]
 refine QA.deepMid (l1:=[]) (l2:=[]) (N:=[.live 0 3 [[.v (.int .i64 3),.v (.int .i64 0),.v (.int .i64 1)],[.v (.int .i64 8),.v (.int .i64 0),.v (.int .i64 0)]],.live 0 1 [[.v (.int .i64 5)]],.live 0 3 [[.v (.int .i64 4),.v (.int .i64 0),.v (.int .i64 0)],[.v (.int .i64 2),.v (.int .i64 0),.v (.int .i64 1)]],.live 0 1 [[.v (.int .i64 0)]],.live 0 6 [[.v (.str ⟨#[97]⟩),.sl B.length 0 0 2,.v (.int .i64 0),.sl (B.length+1) 0 0 1,.v (.int .i64 0),.v (.int .i64 1000)],[.v (.str ⟨#[98]⟩),.sl (B.length+2) 0 0 2,.v (.int .i64 0),.sl (B.length+3) 0 0 1,.v (.int .i64 0),.v (.int .i64 1000)]]]) (args':=[.v (.isl 6 (awL.map eSv)),.agg [.v (.int .i64 0),.v (.bool false),.v .zsl,.v .zsl,.v .zsl]]) rfl (fun i x y hx hy=>?_) ?_
 ·match i,hx,hy with
  |0,hx,hy =>
    cases hx;cases hy
    refine Dv.slR (i:=4) rfl kS rfl (fun k r row h1 h2=>?_)
    match k,h1,h2 with
    |0,h1,h2=>cases h1;cases h2;exact DvR.cons (.v _) (DvR.cons (Dv.slV (i:=0) (rows:=[[.int .i64 3,.int .i64 0,.int .i64 1],[.int .i64 8,.int .i64 0,.int .i64 0]]) rfl rfl) (DvR.cons (.v _) (DvR.cons (Dv.slV (i:=1) (rows:=[[.int .i64 5]]) rfl rfl) (DvR.cons (.v _) (DvR.cons (.v _) DvR.nil)))))
    |1,h1,h2=>cases h1;cases h2;exact DvR.cons (.v _) (DvR.cons (Dv.slV (i:=2) (rows:=[[.int .i64 4,.int .i64 0,.int .i64 0],[.int .i64 2,.int .i64 0,.int .i64 1]]) rfl rfl) (DvR.cons (.v _) (DvR.cons (Dv.slV (i:=3) (rows:=[[.int .i64 0]]) rfl rfl) (DvR.cons (.v _) (DvR.cons (.v _) DvR.nil)))))
  |1,hx,hy=>cases hx;cases hy;exact Dv.aggL (.cons (.v _) (.cons (.v _) (.cons (.v _) (.cons (.v _) (.cons (.v _) .nil)))))
 refine QA.nxt (cN _ _) ?_
 simp (disch:=first|decide|omega) only[hA,iF,iB,go_sem]
 refine QA.nxt (cE _ _) ?_
 simp (disch:=first|decide|omega) only[hA,iF,iB,bx,ca,gh,gv,go_sem]
 refine QA.frzB (i:=6) (ver:=0) (sz:=1) (rows:=[[.int .i64 0],[.int .i64 1],[.int .i64 1]]) (args':=[.agg (zWA W),.v (.isl 1 ([0,1,1].map eI))]) rfl (by simp[frz,YF,eI]) ?_
 refine QA.nxt (cR _ _) ?_
 simp (disch:=first|decide|omega) only[hA,b1,iF,iB,bx,ca,gh,gv,go_sem]
 refine QA.frzB (i:=8) (ver:=0) (sz:=1) (rows:=[[.int .i64 0]]) (args':=[.v (.isl 1 [[.int .i64 0]]),.v (.isl 1 [[.int .i64 0]])]) rfl (by simp[frz,YF]) ?_
 refine QA.nxt (q0 _ _) ?_
 simp (disch:=first|decide|omega) only[hA,b1,iB,go_sem]
 refine QA.nxt (cD _ _) ?_
 simp (disch:=first|decide|omega) only[hA,b1,b4,b5,n3,t1,g1,iB,bx,ca,gh,gv,go_sem]
 refine QA.frzB (i:=9) (ver:=0) (sz:=1) (rows:=[[.int .i64 6]]) (args':=[.v (.isl 1 [[.int .i64 6]]),.v (.isl 1 [[.int .i64 6]])]) rfl (by simp[frz,YF]) ?_
 refine QA.nxt (q6 _ _) ?_
 simp (disch:=first|decide|omega) only[hA,b1,b4,b5,n3,t1,g1,iB,go_sem]
 refine QA.nxt (cC _ _) ?_
 simp (disch:=first|decide|omega) only[hA,b1,b2,b3,go_sem]
 exact ZA (xs:=[.v (.bool true)])
open Go.RowKit Go.ChangeShapes Go.WideShapes Go.Deep

def RIs (w:World) (F:Nat→Prop) (row:List IV) (cs:List Value):Prop:=row.length=cs.length∧∀(j:Nat) (a:IV) (v:Value),row[j]? = some a→cs[j]? = some v→RepI w F a v
theorem RIs.nil {w:World} {F:Nat→Prop}:RIs w F [] []:=⟨rfl,fun j a v h=>by simp at h⟩
theorem RIs.one {w:World} {F:Nat→Prop} {a:IV} {v:Value} (h:RepI w F a v):RIs w F [a] [v]:=by
 refine⟨rfl,fun j x u hx hu=>?_⟩
 cases j with
 |zero=>simp at hx hu;subst hx;subst hu;exact h
 |succ j=>simp at hx
theorem RIs.append {w:World} {F:Nat→Prop} {r s:List IV} {cs ds:List Value} (h:RIs w F r cs) (k:RIs w F s ds):RIs w F (r++s) (cs++ds):=by
 refine⟨by simp[h.1,k.1],fun j a v ha hv=>?_⟩
 by_cases hj:j<r.length
 ·rw[aw hj]at ha
  rw[aw (by rw[←h.1];exact hj)]at hv
  exact h.2 j a v ha hv
 ·rw[ar oM]at ha
  rw[ar (by rw[←h.1];omega),←h.1]at hv
  exact k.2 _ a v ha hv
theorem RIs.repL {w:World} {F:Nat→Prop} {L:LMap} {r:List IV} {cs:List Value} (h:RIs w F r cs):bA w F L (r.map .v) cs:=by
 refine⟨by simpa using h.1,fun j x v hx hv=>?_⟩
 rw[an]at hx
 cases hq:r[j]? with
 |none=>simp[hq]at hx
 |some y=>simp[hq]at hx;subst hx;exact .v _ _ (h.2 j y v hq hv)

def Low (w:World):Nat→Prop:=fun b=>b<w.heap.size

def TR {α:Type} (P:Program) (t:TypeId) (n:Nat) (enc:α→List IV) (good:α→Prop):Prop:=
 ∀(H:Type) (en:TypeId×Value→H) (w:World) (base:Nat) (spare:Nat→Bool) (held:Bool) (fuel:Nat) (cs:List Value) (x:DataW H×List MemPlace),cs.length=n→DataW.trod en P w base spare held fuel t cs=some x →
  ∃y,good y∧RIs w (Low w) (enc y) cs

section
variable {P:Program} {α β:Type}
theorem TR.map {t:TypeId} {n:Nat} {enc:α→List IV} {good:α→Prop} (h:TR P t n enc good) {enc':β→List IV} {good':β→Prop} (f:α→β) (he:∀y,enc' (f y)=enc y) (hg:∀y,good y→good' (f y)):TR P t n enc' good':=by
 intro H en w base spare held fuel cs x hl hx
 obtain⟨y,g,r⟩:=h H en w base spare held fuel cs x hl hx
 exact⟨f y,hg y g,by rw[he];exact r⟩
theorem UX {t:TypeId} {k:IntKind} (ht:P.underlying t=some (.int k)):TR P t 1 (fun n:Int=>[.int k n]) (fun n=>(Lit.int k n).wf=true):=by
 intro H en w base spare held fuel cs x hl hx
 obtain⟨n,rfl,_,hw⟩:=DataW.trod_int ht hx
 exact⟨n,hw,RIs.one (.int _ _)⟩
theorem ZFL {t:TypeId} (ht:P.underlying t=some .bool):TR P t 1 (fun b:Bool=>[.bool b]) (fun _=>True):=by
 intro H en w base spare held fuel cs x hl hx
 obtain⟨n,rfl,_⟩:=DataW.trod_bool ht hx
 exact⟨n,trivial,RIs.one (.bool _)⟩
theorem xU {t:TypeId} (ht:P.underlying t=some .string):TR P t 1 (fun s:ByteArray=>[.str s]) (fun s=>s.size≤maxLen):=by
 intro H en w base spare held fuel cs x hl hx
 obtain⟨n,rfl,_,hm⟩:=DataW.trod_string ht hx
 exact⟨n,hm,RIs.one (.str _)⟩
theorem TG {t e:TypeId} {n:Nat} {enc:α→List IV} {good:α→Prop} (h:TR P e n enc good) (ht:P.underlying t=some (.slice e)) (hC:P.cellsOf e=n) (h0:0<n) :
  TR P t 1 (fun ys:List α=>[.isl n (ys.map enc)]) (fun ys=>ys.length≤maxLen∧∀y∈ys,good y):=by
 intro H en w base spare held fuel cs x hl hx
 rcases open_slice ht hx with ⟨hv,_⟩|⟨a,len,cap,m,f,D,Pl,hv,hb,hll,hm,hmm,_,mJ⟩
 ·subst hv
  exact⟨[],⟨by simp[maxLen],fun y hy=>by simp at hy⟩,RIs.one (.isl0 _ _ _ (by simp[maxLen]))⟩
 ·subst hv
  have CJ:len≤m:=by rw[hmm];split<;>omega
  have key:∀i,i<len→∃y,(good y∧∃b off,a=⟨b,off,none⟩∧(enc y).length=n∧∀(j:Nat) (c:IV),(enc y)[j]? = some c→∃v,w.cell? ⟨b,off+i*n+j,none⟩=some v∧RepI w (Low w) c v):=by
   intro i hi
   obtain⟨cs',hc,ht'⟩:=mJ i oM
   rw[hC]at hc
   obtain⟨_,FL,hat⟩:=World.cells?_some hc
   obtain⟨cs0,hc0,_⟩:=mJ 0 oM
   rw[hC]at hc0
   obtain⟨_,hcl0,ZLp⟩:=World.cells?_some hc0
   have h00:=ZLp 0 h0
   have e00:(a.add (0*n)).add 0=a:=by simp[Addr.add]
   rw[e00,ah (show 0<cs0.length by omega)]at h00
   have hsp:=L9 h00
   obtain⟨b,off,sp⟩:=a
   simp only at hsp
   subst hsp
   obtain⟨y,hg,hy⟩:=h H en w base spare held f cs' (D i,Pl i) FL ht'
   refine⟨y,hg,b,off,rfl,by rw[hy.1,FL],fun j c hj=>?_⟩
   have rG:j<cs'.length:=by rw[←hy.1];exact (ak.1 hj).1
   have:=hat j oM
   have e1:((⟨b,off,none⟩:Addr).add (i*n)).add j=⟨b,off+i*n+j,none⟩:=by
    unfold Addr.add
    by_cases h1:i*n=0<;>by_cases h2:j=0<;>simp[h1,h2]
   rw[e1,ah rG]at this
   exact⟨_,this,hy.2 j c _ hj (ah rG)⟩
  obtain⟨xs,hxl,e9⟩:=Q9 len key
  subst hxl
  refine⟨xs,⟨by omega,fun y hy=>?_⟩,RIs.one ?_⟩
  ·obtain⟨i,hi⟩:=ek.1 hy
   exact (e9 i y hi).1
  ·by_cases Q1:0<xs.length
   ·obtain⟨_,b,off,ha,_⟩:=e9 0 xs[0] (ah Q1)
    subst ha
    have nM:∀(k:Nat) (row:List IV),(xs.map enc)[k]? = some row→row.length=n∧∀(j:Nat) (c:IV),row[j]? = some c→∃v,w.cell? ⟨b,off+k*n+j,none⟩=some v∧RepI w (Low w) c v:=by
     intro k row hk
     rw[an]at hk
     cases hq:xs[k]? with
     |none=>rw[hq]at hk;cases hk
     |some y =>
       rw[hq]at hk;cases hk
       obtain⟨_,b',off',hh,h1,h2⟩:=e9 k y hq
       injection hh with g1 g2
       subst g1;subst g2
       exact⟨h1,h2⟩
    have ZLq:Low w b:=by
     obtain⟨r1,r2⟩:=nM 0 (enc xs[0]) (by rw[an,ah Q1];rfl)
     obtain⟨v,hv,_⟩:=r2 0 (enc xs[0])[0] (ah oM)
     exact KB hv
    have:=RepI.isl (w:=w) (F:=Low w) (xs.map enc) b off n cap (fun k j=>(w.cell? ⟨b,off+k*n+j,none⟩).getD undef) ZLq (by simpa using hll) hm (fun k row hk=>(nM k row hk).1)
     (fun k row j c hk hj=>by
      obtain⟨v,hv,_⟩:=(nM k row hk).2 j c hj
      rw[hv];rfl)
     (fun k row j c hk hj=>by
      obtain⟨v,hv,hr⟩:=(nM k row hk).2 j c hj
      rw[hv];exact hr)
    rw[aa]at this
    exact this
   ·have:xs=[]:=co oM
    subst this
    exact .isl0 _ _ _ hm

def TRF (P:Program) (fs:List Field) (o n:Nat) (enc:α→List IV) (good:α→Prop):Prop:=
 ∀(H:Type) (en:TypeId×Value→H) (w:World) (base:Nat) (spare:Nat→Bool) (held:Bool) (fuel:Nat) (cs:List Value),cs.length=o+n→(∀f∈fs,∃x,DataW.trod en P w base spare held fuel f.type ((cs.drop f.offset).take (P.cellsOf f.type))=some x) →
  ∃y,good y∧RIs w (Low w) (enc y) (cs.drop o)
theorem FG {o:Nat}:TRF P [] o 0 (fun _:Unit=>[]) (fun _=>True):=by
 intro H en w base spare held fuel cs hl _
 refine⟨(),trivial,?_⟩
 rw[li oM]
 exact RIs.nil
theorem lA {f:Field} {fs:List Field} {o n m:Nat} {enc:α→List IV} {good:α→Prop} {enc':β→List IV} {good':β→Prop} (h:TR P f.type n enc good) (hC:P.cellsOf f.type=n) (ho:f.offset=o) (k:TRF P fs (o+n) m enc' good') :
  TRF P (f::fs) o (n+m) (fun y:α×β=>enc y.1++enc' y.2) (fun y=>good y.1∧good' y.2):=by
 intro H en w base spare held fuel cs hl hfs
 obtain⟨x,hx⟩:=hfs f kS
 rw[ho,hC]at hx
 obtain⟨y,hg,hy⟩:=h H en w base spare held fuel _ x (by simp;omega) hx
 obtain⟨z,hg',hz⟩:=k H en w base spare held fuel cs oM (fun f hf=>hfs f (by simp[hf]))
 refine⟨(y,z),⟨hg,hg'⟩,?_⟩
 have:cs.drop o=(cs.drop o).take n++cs.drop (o+n):=by rw[←List.drop_drop,ix]
 rw[this]
 exact hy.append hz
theorem bE {t:TypeId} {fs:Array Field} {n:Nat} {enc:α→List IV} {good:α→Prop} (ht:P.underlying t=some (.struct fs)) (h:TRF P fs.toList 0 n enc good):TR P t n enc good:=by
 intro H en w base spare held fuel cs x hl hx
 obtain⟨xs,m,_,_,_,pC,hf⟩:=DataW.trod_struct ht hx
 obtain⟨y,hg,hy⟩:=h H en w base spare held m cs oM (fun f hm=>by
  obtain⟨i,hi⟩:=ek.1 hm
  have hi':fs[i]? = some f:=by simpa using hi
  have yA:i<xs.length:=by rw[pC];exact (bo.1 hi').1
  exact⟨_,(hf i f hi').trans (ah yA)⟩)
 exact⟨y,hg,by simpa using hy⟩
theorem TR.one {t:TypeId} {enc:α→IV} {good:α→Prop} (h:TR P t 1 (fun y=>[enc y]) good) {H:Type} {en:TypeId×Value→H} {w:World} {v:Value} {d:DataW H} {p:List MemPlace} {base:Nat} {spare:Nat→Bool} {held:Bool}
  (hv:v.cells=#[v]) (hT:DataW.Trod en P w base spare held t v d p):∃y,good y∧RepI w (Low w) (enc y) v:=by
 obtain⟨fuel,hf⟩:=hT
 rw[hv]at hf
 obtain⟨y,hg,hy⟩:=h H en w base spare held fuel [v] (d,p) rfl hf
 exact⟨y,hg,hy.2 0 _ _ rfl rfl⟩
theorem TR.agg {t:TypeId} {n:Nat} {enc:α→List IV} {good:α→Prop} (h:TR P t n enc good) {fs:Array Field} (hs:P.underlying t=some (.struct fs)) (hC:P.cellsOf t=n) {H:Type} {en:TypeId×Value→H} {w:World} {v:Value} {d:DataW H} {p:List MemPlace} {base b0:Nat} {r:Reach} {spare:Nat→Bool} {held:Bool}
  (hv:Value.okWide P w r b0 t v) (hT:DataW.Trod en P w base spare held t v d p):∃y,good y∧RepA w (Low w) (fun _ _=>none) (.agg ((enc y).map .v)) v:=by
 obtain⟨cs,rfl,zN⟩:=okWide_struct hs hv
 obtain⟨fuel,hf⟩:=hT
 obtain⟨y,hg,hy⟩:=h H en w base spare held fuel _ (d,p) (by simpa [Value.cells] using zN.trans hC) hf
 exact⟨y,hg,bA.agg hy.repL⟩
end
end Go.Proofs.YtmaokjojbjdpoaaGreatDoor
namespace Go.Proofs.YtmaokjojbjdpoaaGreatDoor
open Go.RowKit
set_option linter.unusedVariables false
theorem gJ:TR Tryz.prog 3 1 (fun n:Int=>[.int .i64 n]) (fun n=>(Lit.int .i64 n).wf=true):=UX Tryz.underlying3
theorem trn_b:TR Tryz.prog 4 1 (fun n:Bool=>[.bool n]) (fun _=>True):=ZFL Tryz.underlying4
theorem yS:TR Tryz.prog 24 1 (fun c:List Int=>[.isl 1 (c.map eI)]) (fun c=>c.length≤maxLen):=(TG gJ Tryz.underlying24 (by kernel_rfl) kE).map id (fun _=>rfl) (fun _ h=>h.1)
theorem ZFK:TR Tryz.prog 92 2 eFt (fun _=>True):=
 (bE Tryz.underlying92 (lA gJ (by kernel_rfl) rfl (lA gJ (by kernel_rfl) rfl FG))).map (fun y=>(y.1,y.2.1)) (fun _=>rfl) (fun _ _=>trivial)
theorem ZCN:TR Tryz.prog 25 1 (fun l:List (Int×Int)=>[.isl 2 (l.map eFt)]) (fun l=>l.length≤maxLen):=
 (TG ZFK Tryz.underlying25 (by kernel_rfl) kE).map id (fun _=>rfl) (fun _ h=>h.1)
theorem ZHp:TR Tryz.prog 106 4 eMs (fun m=>m.body.length≤maxLen):=
 (bE Tryz.underlying106 (lA gJ (by kernel_rfl) rfl (lA gJ (by kernel_rfl) rfl (lA gJ (by kernel_rfl) rfl (lA yS (by kernel_rfl) rfl FG))))).map
  (fun y=>⟨y.1,y.2.1,y.2.2.1,y.2.2.2.1⟩) (fun _=>rfl) (fun _ h=>h.2.2.2.1)
theorem ZFI:TR Tryz.prog 23 1 (fun l:List Ms=>[.isl 4 (l.map eMs)]) (fun l=>l.length≤maxLen∧∀m∈l,m.body.length≤maxLen):=
 TG ZHp Tryz.underlying23 (by kernel_rfl) kE
theorem ZHo:TR Tryz.prog 27 5 eNw (fun n=>(Lit.int .i64 n.now).wf=true∧n.l.length≤maxLen∧n.tm.length≤maxLen∧n.fates.length≤maxLen):=
 (bE Tryz.underlying27 (lA gJ (by kernel_rfl) rfl (lA trn_b (by kernel_rfl) rfl (lA ZFI (by kernel_rfl) rfl (lA yS (by kernel_rfl) rfl (lA ZCN (by kernel_rfl) rfl FG)))))).map
  (fun y=>⟨y.1,y.2.1,y.2.2.1,y.2.2.2.1,y.2.2.2.2.1⟩) (fun _=>rfl) (fun _ h=>⟨h.1,h.2.2.1.1,h.2.2.2.1,h.2.2.2.2.1⟩)
theorem ZB3:TR Tryz.prog 3 1 (fun n:Int=>[.int .i64 n]) (fun n=>(Lit.int .i64 n).wf=true):=UX Tryz.underlying3
theorem tr_s:TR Tryz.prog 9 1 (fun s:ByteArray=>[.str s]) (fun s=>s.size≤maxLen):=xU Tryz.underlying9
theorem ZHs:TR Tryz.prog 75 2 uL (fun _=>True):=
 (bE Tryz.underlying75 (lA ZB3 (by kernel_rfl) rfl (lA ZB3 (by kernel_rfl) rfl FG))).map (fun y=>⟨y.1,y.2.1⟩) (fun _=>rfl) (fun _ _=>trivial)
theorem ZFM:TR Tryz.prog 66 1 (fun l:List Asg=>[.isl 2 (l.map uL)]) (fun l=>l.length≤maxLen):=
 (TG ZHs Tryz.underlying66 (by kernel_rfl) kE).map id (fun _=>rfl) (fun _ h=>h.1)
theorem tr_ev:TR Tryz.prog 68 5 eEv (fun _=>True):=
 (bE Tryz.underlying68 (lA ZB3 (by kernel_rfl) rfl (lA ZB3 (by kernel_rfl) rfl (lA ZB3 (by kernel_rfl) rfl (lA ZB3 (by kernel_rfl) rfl (lA ZFM (by kernel_rfl) rfl FG)))))).map
  (fun y=>⟨y.1,y.2.1,y.2.2.1,y.2.2.2.1,y.2.2.2.2.1⟩) (fun _=>rfl) (fun _ _=>trivial)
theorem ZHr:TR Tryz.prog 63 1 (fun l:List Ev=>[.isl 5 (l.map eEv)]) (fun l=>l.length≤maxLen):=
 (TG tr_ev Tryz.underlying63 (by kernel_rfl) kE).map id (fun _=>rfl) (fun _ h=>h.1)
theorem ZHm:TR Tryz.prog 99 2 eVr (fun v=>v.name.size≤maxLen):=
 (bE Tryz.underlying99 (lA tr_s (by kernel_rfl) rfl (lA ZB3 (by kernel_rfl) rfl FG))).map (fun y=>⟨y.1,y.2.1⟩) (fun _=>rfl) (fun _ h=>h.1)
theorem ZFG:TR Tryz.prog 62 1 (fun l:List Vr=>[.isl 2 (l.map eVr)]) (fun l=>l.length≤maxLen∧∀v∈l,v.name.size≤maxLen):=
 TG ZHm Tryz.underlying62 (by kernel_rfl) kE
def OkPr (p:Pr):Prop:=(p.name.size≤maxLen∧∀v∈p.vars,v.name.size≤maxLen)∧p.vars.length≤maxLen∧p.evs.length≤maxLen
theorem ZFH:TR Tryz.prog 65 3 ePr OkPr:=
 (bE Tryz.underlying65 (lA tr_s (by kernel_rfl) rfl (lA ZFG (by kernel_rfl) rfl (lA ZHr (by kernel_rfl) rfl FG)))).map
  (fun y=>⟨y.1,y.2.1,y.2.2.1⟩) (fun _=>rfl) (fun _ h=>⟨⟨h.1,h.2.1.2⟩,h.2.1.1,h.2.2.1⟩)
def OkTr (t:Tr):Prop:=t.length≤maxLen∧∀p∈t,OkPr p
theorem ZCM:TR Tryz.prog 30 1 (fun t:Tr=>[eT t]) OkTr:=
 (bE Tryz.underlying30 (lA (TG ZFH Tryz.underlying28 (by kernel_rfl) kE) (by kernel_rfl) rfl FG)).map (fun y=>y.1) (fun _=>rfl) (fun _ h=>h.1)
theorem OkTr.nm {t:Tr} (h:OkTr t):Nm t:=fun p hp=>(h.2 p hp).1
theorem DU:maxLen=9223372036854775807:=by decide
theorem trx_s:TR Tryz.prog 9 1 (fun s:ByteArray=>[.str s]) (fun s=>s.size≤maxLen):=xU Tryz.underlying9
theorem ZHq:TR Tryz.prog 50 3 eIn (fun _=>True):=
 (bE Tryz.underlying50 (lA gJ (by kernel_rfl) rfl (lA gJ (by kernel_rfl) rfl (lA gJ (by kernel_rfl) rfl FG)))).map (fun y=>⟨y.1,y.2.1,y.2.2.1⟩) (fun _=>rfl) (fun _ _=>trivial)
theorem ZFJ:TR Tryz.prog 46 1 (fun l:List In=>[.isl 3 (l.map eIn)]) (fun l=>l.length≤maxLen):=
 (TG ZHq Tryz.underlying46 (by kernel_rfl) kE).map id (fun _=>rfl) (fun _ h=>h.1)
def OkSv (s:Sv):Prop:=s.name.size≤maxLen∧s.code.length≤maxLen∧s.vars.length≤maxLen
theorem tr_sv:TR Tryz.prog 48 6 eSv OkSv:=
 (bE Tryz.underlying48 (lA trx_s (by kernel_rfl) rfl (lA ZFJ (by kernel_rfl) rfl (lA gJ (by kernel_rfl) rfl (lA yS (by kernel_rfl) rfl (lA gJ (by kernel_rfl) rfl (lA gJ (by kernel_rfl) rfl FG))))))).map
  (fun y=>⟨y.1,y.2.1,y.2.2.1,y.2.2.2.1,y.2.2.2.2.1,y.2.2.2.2.2.1⟩) (fun _=>rfl) (fun _ h=>⟨h.1,h.2.1,h.2.2.2.1⟩)
theorem ZHn:TR Tryz.prog 22 1 (fun l:List Sv=>[.isl 6 (l.map eSv)]) (fun l=>l.length≤maxLen∧∀s∈l,OkSv s):=
 TG tr_sv Tryz.underlying22 (by kernel_rfl) kE
def OkWd (w:Wd):Prop:=((w.sv.length≤maxLen∧∀s∈w.sv,OkSv s)∧(w.net.l.length≤maxLen∧w.net.tm.length≤maxLen∧w.net.fates.length≤maxLen))∧OkTr w.tr
theorem tr_wd:TR Tryz.prog 32 9 eWd OkWd:=
 (bE Tryz.underlying32 (lA ZHn (by kernel_rfl) rfl (lA ZHo (by kernel_rfl) rfl (lA gJ (by kernel_rfl) rfl (lA gJ (by kernel_rfl) rfl (lA ZCM (by kernel_rfl) rfl FG)))))).map
  (fun y=>⟨y.1,y.2.1,y.2.2.1,y.2.2.2.1,y.2.2.2.2.1⟩) (fun _=>rfl) (fun _ h=>⟨⟨h.1,h.2.1.2⟩,h.2.2.2.2.1⟩)
theorem OkWd.nm {w:Wd} (h:OkWd w):Nm w.tr:=h.2.nm
theorem OkWd.tl {w:Wd} (h:OkWd w):w.tr.length≤9223372036854775807:=by have:=h.2.1;rwa [DU]at this
theorem OkWd.ev {w:Wd} (h:OkWd w):∀x∈w.tr,x.evs.length≤9223372036854775807:=fun x hx=>by have:=(h.2.2 x hx).2.2;rwa [DU]at this
end Go.Proofs.YtmaokjojbjdpoaaGreatDoor
