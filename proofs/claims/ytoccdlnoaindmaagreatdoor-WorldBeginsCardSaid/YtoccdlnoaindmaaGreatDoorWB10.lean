/- Texts of one proof, laid together: X2, OE, BV, X3, X6, OF, X4, X7, RW, NT, TR, TX. No condition. -/
import Derived.Test.YtoccdlnoaindmaaGreatDoorWB9
import Derived.Test.YtoccdlnoaindmaaGreatDoorWB5
import Derived.Test.YtoccdlnoaindmaaGreatDoorWB6
import Derived.Test.YtoccdlnoaindmaaGreatDoorWB2
import Derived.Test.YtoccdlnoaindmaaGreatDoorWB7
import Derived.Test.YtoccdlnoaindmaaGreatDoorWB8
import Derived.Test.YtoccdlnoaindmaaGreatDoorWB3
import Derived.Test.YtoccdlnoaindmaaGreatDoorProg
import Derived.KernelRfl
set_option maxHeartbeats 16000000
set_option maxRecDepth 20000
namespace Go.Proofs.YtoccdlnoaindmaaGreatDoor
set_option maxHeartbeats 16000000
set_option maxRecDepth 100000
set_option linter.unusedVariables false
set_option linter.unusedSimpArgs false
attribute [local go_sem ↓] aB EA IB RB tC yB GB nC DB IC pA vB bB nA jB eB aA iB EB CA mA SB wB xB QB uB XB pB qB pC TB mC lC sD GC tD nD gC rC
attribute [local go_sem] AA lA gD YB bA rD bC eC fC QI XI aC MB LB FB uC uA lB eA mB fA ZB aop YE jD ZD VC QD OB XD pH GE tE amm vE AB rB dE OC nE comma RC aE nH bE eE YH iE xE kD XH eqC eqF rF cellsOf YA aD lD uE PG rd rdI TD mk MC AV.cell List.all_cons List.all_nil Bool.and_true Bool.true_and Bool.and_self List.length_cons List.length_nil List.length_append Nat.reduceAdd Nat.reduceSub Nat.reduceMul Nat.zero_add Nat.add_zero List.cons_append List.nil_append List.append_assoc List.append_nil List.getElem?_cons_zero List.getElem?_cons_succ List.getElem?_nil List.set_cons_zero List.set_cons_succ List.drop_zero List.drop_succ_cons List.take_zero List.take_succ_cons List.take_nil List.drop_nil List.map_cons List.map_nil Option.map_some if_true if_false Bool.false_eq_true and_self true_and and_true Nat.reduceLeDiff Nat.reduceLT Nat.le_refl Nat.reduceEqDiff ite_true ite_false beq_self_eq_true beq_true beq_false Bool.not_true Bool.not_false Bool.true_beq Bool.false_beq XE XC sB JD KD jC qC zC KC UD VD QE VB QJ DI XJ ZJ eF lF bF fF geI gtI aF decide_true decide_false room List.getElem?_map List.length_map List.length_take Int.toNat_natCast Nat.min_def Nat.min_self fD dD VE QC ED ZG xA List.getElem_cons_zero List.getElem_cons_succ
attribute [local go_sem] UN AQ dL AN iL CN JB rG
def a_mstp:AFunc:=({c:=_}:CF Tryz.prog 86).c
theorem N7:dA Tryz.prog 86=some a_mstp:=by kernel_rfl

noncomputable def stM (w:Wd) (p:Nat):Wd:=if (stW w p).2=0 then (stW w p).1 else pcW w p ((w.sv.getD p dfSv).pc+1)
theorem uR {w:Wd} {p:Nat} (hp:p<w.sv.length) {s:Sv} (hs:w.sv.getD p dfSv=s) {kd pe ms:Int} {i:Nat} {v c:Int}:pcW (asW w p ⟨kd,pe,ms,0,[]⟩ i v) p c=mJ w p (Sv.put {s with pc:=c} i v) (SQ kd pe ms i v):=by
 unfold pcW asW
 simp only
 have hg:(w.sv.set p ((w.sv.getD p dfSv).put i v)).getD p dfSv=s.put i v:=by
  rw[List.getD_eq_getElem?_getD,List.getElem?_set_self hp,hs];rfl
 rw[hg,List.set_set]
 unfold mJ evW SQ
 rw[hs];rfl
theorem JP {w:Wd} {p:Nat} {s:Sv} (hs:w.sv.getD p dfSv=s) {e:Ev} {c:Int}:pcW (evW w p e) p c=mJ w p {s with pc:=c} e:=by
 unfold pcW mJ evW
 simp only
 rw[hs];rfl
theorem p6 (f:Nat→Row) (w:Wd) (p q n:Nat) (hn:q+5≤n) (hw:WdV w) (hp:p<w.sv.length) (hen:uG w p=true) (b l:List Row) (hb:b=kB n (mvF f w p q)) :
  QA Tryz.prog 86 [.ptr (q+4) 0 0 0,.v (.int .i64 p)] b l (fun r b' l'=>r=.v (.int .i64 (stW w p).2)∧b'=kB n (mvF f (stM w p) p q)∧l'=l):=by
 refine VA N7 rfl (by decide) ?_
 intro B g hB hR hE hA;simp only[xA]at hA
 rw[hb]at hB
 obtain⟨m,f',hm0,S0,MG⟩:=JY hn hB
 clear hB
 subst S0
 rw[JB]at hR
 have vM:p<w.tr.length:=by rw[hw.len];exact hp
 have hS:=hw.small
 have hN:=hw.nm
 have hsl8:=(JO hw.sv).2
 have ZIU:=hw.tr.hi
 have eW:w.sv.length≤1000000:=by omega
 have xU:w.tr.length≤1000000:=by omega
 have bJ:(w.tr.getD p dfPr).evs.length≤1000000:=by have:=hw.evl vM;omega
 have pT:=(TH hw.sv hp).1
 obtain⟨k,hk,qP,hki,h8,ME⟩:=ZDN hw hp hen
 obtain⟨_,dC,h4,h3⟩:=KR hen
 have hvn:=VG.2 hw.net
 have DX:=hw.sent
 have hpo:ptB p=true:=by unfold ptB;simp;omega
 have cAs:=fun k pe ms i hi vU v=>fun l=>XT f' w p q m oM hp vM eW xU bJ k pe ms i hi vU v (kB m (mvF f' w p q)) l rfl
 have cEv:=fun k pe ms=>fun l=>EN f' w p q m oM hp vM eW xU bJ k pe ms (kB m (mvF f' w p q)) l rfl
 have cSn:=fun x i BP hi vU hm=>fun l=>c6 f' w p q m oM hp vM eW xU bJ x i BP hi vU oM hvn hm (kB m (mvF f' w p q)) l rfl
 have cRc:=fun x i BP hi vU k hk mg y9 v C8 lS=>fun l=>G6 f' w p q m oM hp vM hS hN eW x i BP hi vU hvn hpo k hk mg y9 v C8 lS (kB m (mvF f' w p q)) l rfl
 have UH:stW w p=stI w p (w.sv.getD p dfSv) ((w.sv.getD p dfSv).code.getD (w.sv.getD p dfSv).pc.toNat mN):=rfl
 have hM:stM w p=if (stW w p).2=0 then (stW w p).1 else pcW w p ((w.sv.getD p dfSv).pc+1):=rfl
 have hop:YS (w.sv.getD p dfSv)=((w.sv.getD p dfSv).code.getD (w.sv.getD p dfSv).pc.toNat mN).op:=rfl
 rw[hop,hki]at h8 h4 h3
 rw[hki]at UH
 obtain⟨s,hs⟩:∃s,w.sv.getD p dfSv=s:=⟨_,rfl⟩
 rw[hs]at pT hk qP h8 ME h4 h3 UH hM cAs cSn cRc
 obtain⟨x,hx⟩:∃x,s.code.getD k mN=x:=⟨_,rfl⟩
 rw[hx]at h8 ME h4 h3 UH
 have UK:=LL qP
 rw[KA qP]at hx
 rw[hx]at UK
 have hsc:=pT.cl
 have hsvl:=pT.vl
 obtain⟨SV,I2⟩:∃SV,yG w p (q+1)=SV:=⟨_,rfl⟩
 obtain⟨F,hF⟩:∃F,mvF f' w p q=F:=⟨_,rfl⟩
 obtain⟨MR,gS,f0,f1,f4⟩:=wE hp vM hF hs I2
 have gk:∀{j:Nat} {f:Nat→Row} {L:List Row},j<5→hget (kB m f) L (q+j)=some (f (q+j)):=fun hj=>JH oM
 have kn:∀{j:Nat} {f:Nat→Row} {r:Row},j<5→qE (kB m f) (q+j) r=kB m (rUp f (q+j) r):=fun hj=>uJ oM
 have kl:∀{j:Nat} {f:Nat→Row} {r:Row} {L:List Row},j<5→sE (kB m f) L (q+j) r=L:=fun hj=>xJ oM
 have gk0:∀{f:Nat→Row} {L:List Row},hget (kB m f) L q=some (f q):=JH oM
 have kn0:∀{f:Nat→Row} {r:Row},qE (kB m f) q r=kB m (rUp f q r):=uJ oM
 have kl0:∀{f:Nat→Row} {r:Row} {L:List Row},sE (kB m f) L q r=L:=xJ oM
 have wR:IntKind.i64.wrap (((k:Nat):Int)+1)=((k+1:Nat):Int):=by rw[VB oM oM];omega
 have hk1:((k+1:Nat):Int)=s.pc+1:=by omega
 rw[hF]at cAs cEv cSn cRc hR⊢
 have hRw:∀w',SA m (kB m (mvF f' w' p q)):=fun w'=>by rw[←hF]at hR;exact LR oM hR
 have nm1:IntKind.i64.wrap (-1)=-1:=rfl
 by_cases o1:x.op=1
 ·unfold rE at ME
  rw[if_pos (.inl o1)]at ME
  unfold inZ at ME
  simp only[Bool.and_eq_true,decide_eq_true_eq]at ME
  obtain⟨i,hi⟩:∃i:Nat,x.a=i:=⟨x.a.toNat,by omega⟩
  have jU:i<s.vars.length:=by omega
  have cA:=cAs 1 0 0 i jU oM x.b
  rw[if_pos ME.2,if_pos ME.2]at cA
  have hI:stI w p s x=(mJ w p (Sv.put {s with pc:=s.pc+1} i x.b) (SQ 1 0 0 i x.b),0):=by unfold stI;rw[if_pos o1,hi,Int.toNat_natCast]
  rw[hI]at UH
  have d1:(x.op==1)=true:=by rw[o1];rfl
  simp (disch:=first|decide|omega) only[a_mstp,hA,gk,gk0,f0,f1,f4,gS,MR,hk,UK,wR,YA,cellsOf,List.length_map,kn,kl,kn0,kl0,GA,iC,hi,d1,go_sem]
  refine QA.nxt (DE _ _) ?_
  simp (disch:=first|decide|omega) only[hA,gk,gk0,f0,f1,f4,gS,MR,hk,UK,wR,YA,cellsOf,List.length_map,kn,kl,kn0,kl0,GA,iC,hi,d1,go_sem]
  refine QA.nxt (cA _) ?_
  obtain⟨w1,IE⟩:∃w1,asW w p ⟨1,0,0,0,[]⟩ i x.b=w1:=⟨_,rfl⟩
  rw[IE]
  have e1:w1.sv.length=w.sv.length:=by rw[←IE];first|rfl|exact List.length_set
  have e2:w1.tr.length=w.tr.length:=by rw[←IE];first|rfl|exact UF
  have LH:w1.sv.getD p dfSv=s.put i x.b:=by rw[←IE];first|exact hs|(show (w.sv.set p _).getD p dfSv=_;rw[List.getD_eq_getElem?_getD,List.getElem?_set_self hp,hs];rfl)
  obtain⟨SV1,FG⟩:∃SV1,yG w1 p (q+1)=SV1:=⟨_,rfl⟩
  obtain⟨F1,AK⟩:∃F1,mvF f' w1 p q=F1:=⟨_,rfl⟩
  obtain⟨fS,gS1,g0,g1,g4⟩:=wE (by rw[e1];exact hp) (by rw[e2];exact vM) AK LH FG
  have VJ:=jK (f':=f') (q:=q) (c:=((k+1:Nat):Int)) (show p<w1.sv.length by rw[e1];exact hp) LH
  rw[FG,AK]at VJ
  rw[e1]at fS g0 VJ
  rw[AK]
  simp (disch:=first|decide|omega) only[hA,gk,gk0,g0,g1,g4,fS,gS1,hk,wR,YA,cellsOf,List.length_map,kn,kl,kn0,kl0,GA,iC,hi,go_sem]
  rw[VJ]
  have LG:stM w p=pcW w1 p (((k+1:Nat):Int)):=by rw[hk1,hM,UH,if_pos rfl,←IE];exact (uR hp hs).symm
  have CM:(stW w p).2=0:=by rw[UH]
  rw[CM,LG]
  exact CC (xs:=[.v (.int .i64 0)]) (.inr rfl) (by simp (disch:=first|decide|omega) only[JA,zA,go_sem,hA]) kO (by rw[JB];exact hRw _) hb (MG _) ⟨rfl,rfl,rfl⟩
 by_cases o2:x.op=2
 ·unfold rE at ME
  rw[if_pos (.inr o2)]at ME
  unfold inZ at ME
  have hxb:-1073741824≤x.b∧x.b≤1073741824:=by
   rw[Bool.and_eq_true]at ME
   have:=ME.2;unfold vlB at this;simpa using this
  simp only[Bool.and_eq_true,decide_eq_true_eq]at ME
  obtain⟨i,hi⟩:∃i:Nat,x.a=i:=⟨x.a.toNat,by omega⟩
  have jU:i<s.vars.length:=by omega
  have k9:=mE jU
  obtain⟨u,huu⟩:∃u,s.vars.getD i 0=u:=⟨_,rfl⟩
  have hub:-1073741824≤u∧u≤1073741824:=by
   have:=pT.vs u (by rw[←huu,KA jU];exact List.getElem_mem jU)
   unfold vlB at this
   simpa using this
  rw[huu]at k9
  have hwr:IntKind.i64.wrap (u+x.b)=u+x.b:=VB oM oM
  obtain⟨v,lS⟩:∃v,u+x.b=v:=⟨_,rfl⟩
  rw[lS]at hwr
  have cA:=cAs 1 0 0 i jU oM v
  have d1:(x.op==1)=false:=by rw[o2];rfl
  have d2:(x.op==2)=true:=by rw[o2];rfl
  cases hq:vlB v
  ·rw[hq,if_neg (by simp),if_neg (by simp)]at cA
   have hI:stI w p s x=(wd0,9):=by unfold stI;rw[if_neg o1,if_pos o2,hi,Int.toNat_natCast,huu,lS,if_neg (by rw[hq];simp)]
   rw[hI]at UH
   rw[hF]at cA
   simp (disch:=first|decide|omega) only[a_mstp,hA,gk,gk0,f0,f1,f4,gS,MR,hk,UK,wR,YA,cellsOf,List.length_map,kn,kl,kn0,kl0,GA,iC,hi,k9,lS,hwr,d1,d2,go_sem]
   refine QA.nxt (DE _ _) ?_
   simp (disch:=first|decide|omega) only[hA,gk,gk0,f0,f1,f4,gS,MR,hk,UK,wR,YA,cellsOf,List.length_map,kn,kl,kn0,kl0,GA,iC,hi,k9,lS,hwr,d1,d2,go_sem]
   refine QA.nxt (cA _) ?_
   have VJ:=jK (f':=f') (q:=q) (c:=((k+1:Nat):Int)) hp hs
   rw[I2,hF]at VJ
   simp (disch:=first|decide|omega) only[hA,gk,gk0,f0,f1,f4,gS,MR,hk,UK,wR,YA,cellsOf,List.length_map,kn,kl,kn0,kl0,GA,iC,hi,go_sem]
   rw[VJ]
   have LG:stM w p=pcW w p (((k+1:Nat):Int)):=by rw[hk1,hM,UH,if_neg (by decide)]
   have CM:(stW w p).2=9:=by rw[UH]
   rw[CM,LG]
   exact CC (xs:=[.v (.int .i64 9)]) (.inr rfl) (by simp (disch:=first|decide|omega) only[JA,zA,go_sem,hA]) kO (by rw[JB];exact hRw _) hb (MG _) ⟨rfl,rfl,rfl⟩
  ·rw[hq,if_pos rfl,if_pos rfl]at cA
   have hI:stI w p s x=(mJ w p (Sv.put {s with pc:=s.pc+1} i v) (SQ 1 0 0 i v),0):=by unfold stI;rw[if_neg o1,if_pos o2,hi,Int.toNat_natCast,huu,lS,if_pos hq]
   rw[hI]at UH
   simp (disch:=first|decide|omega) only[a_mstp,hA,gk,gk0,f0,f1,f4,gS,MR,hk,UK,wR,YA,cellsOf,List.length_map,kn,kl,kn0,kl0,GA,iC,hi,k9,lS,hwr,d1,d2,go_sem]
   refine QA.nxt (DE _ _) ?_
   simp (disch:=first|decide|omega) only[hA,gk,gk0,f0,f1,f4,gS,MR,hk,UK,wR,YA,cellsOf,List.length_map,kn,kl,kn0,kl0,GA,iC,hi,k9,lS,hwr,d1,d2,go_sem]
   refine QA.nxt (cA _) ?_
   obtain⟨w1,IE⟩:∃w1,asW w p ⟨1,0,0,0,[]⟩ i v=w1:=⟨_,rfl⟩
   rw[IE]
   have e1:w1.sv.length=w.sv.length:=by rw[←IE];first|rfl|exact List.length_set
   have e2:w1.tr.length=w.tr.length:=by rw[←IE];first|rfl|exact UF
   have LH:w1.sv.getD p dfSv=s.put i v:=by rw[←IE];first|exact hs|(show (w.sv.set p _).getD p dfSv=_;rw[List.getD_eq_getElem?_getD,List.getElem?_set_self hp,hs];rfl)
   obtain⟨SV1,FG⟩:∃SV1,yG w1 p (q+1)=SV1:=⟨_,rfl⟩
   obtain⟨F1,AK⟩:∃F1,mvF f' w1 p q=F1:=⟨_,rfl⟩
   obtain⟨fS,gS1,g0,g1,g4⟩:=wE (by rw[e1];exact hp) (by rw[e2];exact vM) AK LH FG
   have VJ:=jK (f':=f') (q:=q) (c:=((k+1:Nat):Int)) (show p<w1.sv.length by rw[e1];exact hp) LH
   rw[FG,AK]at VJ
   rw[e1]at fS g0 VJ
   rw[AK]
   simp (disch:=first|decide|omega) only[hA,gk,gk0,g0,g1,g4,fS,gS1,hk,wR,YA,cellsOf,List.length_map,kn,kl,kn0,kl0,GA,iC,hi,go_sem]
   rw[VJ]
   have LG:stM w p=pcW w1 p (((k+1:Nat):Int)):=by rw[hk1,hM,UH,if_pos rfl,←IE];exact (uR hp hs).symm
   have CM:(stW w p).2=0:=by rw[UH]
   rw[CM,LG]
   exact CC (xs:=[.v (.int .i64 0)]) (.inr rfl) (by simp (disch:=first|decide|omega) only[JA,zA,go_sem,hA]) kO (by rw[JB];exact hRw _) hb (MG _) ⟨rfl,rfl,rfl⟩
 by_cases o7:x.op=7
 ·have hI:stI w p s x=(mJ w p {s with pc:=s.pc+1} dfEv54,0):=by unfold stI;rw[if_neg oM,if_neg oM,if_neg oM,if_neg oM,if_neg oM]
  rw[hI]at UH
  have cE:=cEv 1 0 0
  have d1:(x.op==1)=false:=by rw[o7];rfl
  have d2:(x.op==2)=false:=by rw[o7];rfl
  have d7:(x.op==7)=true:=by rw[o7];rfl
  simp (disch:=first|decide|omega) only[a_mstp,hA,gk,gk0,f0,f1,f4,gS,MR,hk,UK,wR,YA,cellsOf,List.length_map,kn,kl,kn0,kl0,GA,iC,d1,d2,d7,go_sem]
  refine QA.nxt (DE _ _) ?_
  simp (disch:=first|decide|omega) only[hA,gk,gk0,f0,f1,f4,gS,MR,hk,UK,wR,YA,cellsOf,List.length_map,kn,kl,kn0,kl0,GA,iC,d1,d2,d7,go_sem]
  refine QA.nxt (cE _) ?_
  obtain⟨w1,IE⟩:∃w1,evW w p ⟨1,0,0,0,[]⟩=w1:=⟨_,rfl⟩
  rw[IE]
  have e1:w1.sv.length=w.sv.length:=by rw[←IE];first|rfl|exact List.length_set
  have e2:w1.tr.length=w.tr.length:=by rw[←IE];first|rfl|exact UF
  have LH:w1.sv.getD p dfSv=s:=by rw[←IE];first|exact hs|(show (w.sv.set p _).getD p dfSv=_;rw[List.getD_eq_getElem?_getD,List.getElem?_set_self hp,hs];rfl)
  obtain⟨SV1,FG⟩:∃SV1,yG w1 p (q+1)=SV1:=⟨_,rfl⟩
  obtain⟨F1,AK⟩:∃F1,mvF f' w1 p q=F1:=⟨_,rfl⟩
  obtain⟨fS,gS1,g0,g1,g4⟩:=wE (by rw[e1];exact hp) (by rw[e2];exact vM) AK LH FG
  have VJ:=jK (f':=f') (q:=q) (c:=((k+1:Nat):Int)) (show p<w1.sv.length by rw[e1];exact hp) LH
  rw[FG,AK]at VJ
  rw[e1]at fS g0 VJ
  rw[AK]
  simp (disch:=first|decide|omega) only[hA,gk,gk0,g0,g1,g4,fS,gS1,hk,wR,YA,cellsOf,List.length_map,kn,kl,kn0,kl0,GA,iC,go_sem]
  rw[VJ]
  have LG:stM w p=pcW w1 p (((k+1:Nat):Int)):=by rw[hk1,hM,UH,if_pos rfl,←IE];exact (JP hs).symm
  have CM:(stW w p).2=0:=by rw[UH]
  rw[CM,LG]
  exact CC (xs:=[.v (.int .i64 0)]) (.inr rfl) (by simp (disch:=first|decide|omega) only[JA,zA,go_sem,hA]) kO (by rw[JB];exact hRw _) hb (MG _) ⟨rfl,rfl,rfl⟩
 by_cases o6:x.op=6
 ·unfold rE at ME
  rw[if_neg oM,if_neg oM,if_neg oM,if_neg oM,if_pos o6]at ME
  unfold inZ at ME
  simp only[Bool.and_eq_true,decide_eq_true_eq]at ME
  obtain⟨i,hi⟩:∃i:Nat,x.b=i:=⟨x.b.toNat,by omega⟩
  have jU:i<s.vars.length:=by omega
  have k9:=mE jU
  obtain⟨v,lS⟩:∃v,s.vars.getD i 0=v:=⟨_,rfl⟩
  have hvb:-1073741824≤v∧v≤1073741824:=by
   have:=pT.vs v (by rw[←lS,KA jU];exact List.getElem_mem jU)
   unfold vlB at this
   simpa using this
  rw[lS]at k9
  have hwv:IntKind.i64.wrap (v-1)=v-1:=VB oM oM
  have d1:(x.op==1)=false:=by rw[o6];rfl
  have d2:(x.op==2)=false:=by rw[o6];rfl
  have d7:(x.op==7)=false:=by rw[o6];rfl
  have d6:(x.op==6)=true:=by rw[o6];rfl
  by_cases h0:0<v
  ·have e0:decide (v>0)=true:=decide_eq_true oM
   have e1:decide (0<v)=true:=e0
   have hq:vlB (v-1)=true:=by unfold vlB;simp;omega
   have cA:=cAs 1 0 0 i jU oM (v-1)
   rw[if_pos hq,if_pos hq]at cA
   have hI:stI w p s x=(mJ w p (Sv.put {s with pc:=x.a} i (v-1)) (SQ 1 0 0 i (v-1)),0):=by unfold stI;rw[if_neg o1,if_neg o2,if_pos o6,hi,Int.toNat_natCast,lS,if_pos h0]
   rw[hI]at UH
   simp (disch:=first|decide|omega) only[a_mstp,hA,gk,gk0,f0,f1,f4,gS,MR,hk,UK,wR,YA,cellsOf,List.length_map,kn,kl,kn0,kl0,GA,iC,hi,k9,hwv,e0,e1,d1,d2,d7,d6,go_sem]
   refine QA.nxt (DE _ _) ?_
   simp (disch:=first|decide|omega) only[hA,gk,gk0,f0,f1,f4,gS,MR,hk,UK,wR,YA,cellsOf,List.length_map,kn,kl,kn0,kl0,GA,iC,hi,k9,hwv,e0,e1,d1,d2,d7,d6,go_sem]
   clear e0 e1
   refine QA.nxt (cA _) ?_
   obtain⟨w1,IE⟩:∃w1,asW w p ⟨1,0,0,0,[]⟩ i (v-1)=w1:=⟨_,rfl⟩
   rw[IE]
   have e1:w1.sv.length=w.sv.length:=by rw[←IE];first|rfl|exact List.length_set
   have e2:w1.tr.length=w.tr.length:=by rw[←IE];first|rfl|exact UF
   have LH:w1.sv.getD p dfSv=s.put i (v-1):=by rw[←IE];first|exact hs|(show (w.sv.set p _).getD p dfSv=_;rw[List.getD_eq_getElem?_getD,List.getElem?_set_self hp,hs];rfl)
   obtain⟨SV1,FG⟩:∃SV1,yG w1 p (q+1)=SV1:=⟨_,rfl⟩
   obtain⟨F1,AK⟩:∃F1,mvF f' w1 p q=F1:=⟨_,rfl⟩
   obtain⟨fS,gS1,g0,g1,g4⟩:=wE (by rw[e1];exact hp) (by rw[e2];exact vM) AK LH FG
   have VJ:=jK (f':=f') (q:=q) (c:=x.a) (show p<w1.sv.length by rw[e1];exact hp) LH
   rw[FG,AK]at VJ
   rw[e1]at fS g0 VJ
   rw[AK]
   simp (disch:=first|decide|omega) only[hA,gk,gk0,g0,g1,g4,fS,gS1,hk,wR,YA,cellsOf,List.length_map,kn,kl,kn0,kl0,GA,iC,hi,go_sem]
   rw[VJ]
   have LG:stM w p=pcW w1 p (x.a):=by rw[hM,UH,if_pos rfl,←IE];exact (uR hp hs).symm
   have CM:(stW w p).2=0:=by rw[UH]
   rw[CM,LG]
   exact CC (xs:=[.v (.int .i64 0)]) (.inr rfl) (by simp (disch:=first|decide|omega) only[JA,zA,go_sem,hA]) kO (by rw[JB];exact hRw _) hb (MG _) ⟨rfl,rfl,rfl⟩
  ·have e0:decide (v>0)=false:=decide_eq_false oM
   have e1:decide (0<v)=false:=e0
   have hI:stI w p s x=(mJ w p {s with pc:=s.pc+1} dfEv54,0):=by unfold stI;rw[if_neg o1,if_neg o2,if_pos o6,hi,Int.toNat_natCast,lS,if_neg h0]
   rw[hI]at UH
   have cE:=cEv 1 0 0
   simp (disch:=first|decide|omega) only[a_mstp,hA,gk,gk0,f0,f1,f4,gS,MR,hk,UK,wR,YA,cellsOf,List.length_map,kn,kl,kn0,kl0,GA,iC,hi,k9,e0,e1,d1,d2,d7,d6,go_sem]
   clear e0 e1
   refine QA.nxt (DE _ _) ?_
   simp (disch:=first|decide|omega) only[hA,gk,gk0,f0,f1,f4,gS,MR,hk,UK,wR,YA,cellsOf,List.length_map,kn,kl,kn0,kl0,GA,iC,hi,d1,d2,d7,d6,go_sem]
   refine QA.nxt (cE _) ?_
   obtain⟨w1,IE⟩:∃w1,evW w p ⟨1,0,0,0,[]⟩=w1:=⟨_,rfl⟩
   rw[IE]
   have e1:w1.sv.length=w.sv.length:=by rw[←IE];first|rfl|exact List.length_set
   have e2:w1.tr.length=w.tr.length:=by rw[←IE];first|rfl|exact UF
   have LH:w1.sv.getD p dfSv=s:=by rw[←IE];first|exact hs|(show (w.sv.set p _).getD p dfSv=_;rw[List.getD_eq_getElem?_getD,List.getElem?_set_self hp,hs];rfl)
   obtain⟨SV1,FG⟩:∃SV1,yG w1 p (q+1)=SV1:=⟨_,rfl⟩
   obtain⟨F1,AK⟩:∃F1,mvF f' w1 p q=F1:=⟨_,rfl⟩
   obtain⟨fS,gS1,g0,g1,g4⟩:=wE (by rw[e1];exact hp) (by rw[e2];exact vM) AK LH FG
   have VJ:=jK (f':=f') (q:=q) (c:=((k+1:Nat):Int)) (show p<w1.sv.length by rw[e1];exact hp) LH
   rw[FG,AK]at VJ
   rw[e1]at fS g0 VJ
   rw[AK]
   simp (disch:=first|decide|omega) only[hA,gk,gk0,g0,g1,g4,fS,gS1,hk,wR,YA,cellsOf,List.length_map,kn,kl,kn0,kl0,GA,iC,go_sem]
   rw[VJ]
   have LG:stM w p=pcW w1 p (((k+1:Nat):Int)):=by rw[hk1,hM,UH,if_pos rfl,←IE];exact (JP hs).symm
   have CM:(stW w p).2=0:=by rw[UH]
   rw[CM,LG]
   exact CC (xs:=[.v (.int .i64 0)]) (.inr rfl) (by simp (disch:=first|decide|omega) only[JA,zA,go_sem,hA]) kO (by rw[JB];exact hRw _) hb (MG _) ⟨rfl,rfl,rfl⟩
 by_cases o3:x.op=3
 ·unfold rE at ME
  rw[if_neg oM,if_pos o3]at ME
  unfold inZ at ME
  simp only[Bool.and_eq_true,decide_eq_true_eq]at ME
  obtain⟨i,hi⟩:∃i:Nat,x.a=i:=⟨x.a.toNat,by omega⟩
  have jU:i<s.vars.length:=by omega
  have hms:msB (iH w p s x)=true:=by
   have:=pT.vs (s.vars.getD i 0) (by rw[KA jU];exact List.getElem_mem _)
   have hs3:=h3 o3
   unfold iH msB ptB
   rw[hi,Int.toNat_natCast]
   simp only[List.all_cons,List.all_nil,this,Bool.and_true,List.length_singleton,Bool.and_eq_true,decide_eq_true_eq]
   exact⟨by omega,by omega,by omega,by omega,by omega⟩
  have cS:=cSn x i hi jU oM hms
  rw[hi]at cS
  have d1:(x.op==1)=false:=by rw[o3];rfl
  have d2:(x.op==2)=false:=by rw[o3];rfl
  have d7:(x.op==7)=false:=by rw[o3];rfl
  have d6:(x.op==6)=false:=by rw[o3];rfl
  have d3:(x.op==3)=true:=by rw[o3];rfl
  by_cases hz:sdE w.net (iH w p s x)=0
  ·rw[if_pos hz,hz]at cS
   have hI:stI w p s x=({mJ w p {s with pc:=s.pc+1} ⟨2,x.b,w.sent,0,[]⟩ with net:=sdR w.net (iH w p s x),sent:=w.sent+1},0):=by unfold stI;rw[if_neg o1,if_neg o2,if_neg o6,if_pos o3,if_pos hz]
   rw[hI]at UH
   simp (disch:=first|decide|omega) only[a_mstp,hA,gk,gk0,f0,f1,f4,gS,MR,hk,UK,wR,YA,cellsOf,List.length_map,kn,kl,kn0,kl0,GA,iC,hi,d1,d2,d7,d6,d3,go_sem]
   refine QA.nxt (cS _) ?_
   obtain⟨w1,IE⟩:∃w1,evW {w with net:=sdR w.net (iH w p s x),sent:=w.sent+1} p ⟨2,x.b,w.sent,0,[]⟩=w1:=⟨_,rfl⟩
   rw[IE]
   have e1:w1.sv.length=w.sv.length:=by rw[←IE];first|rfl|exact List.length_set
   have e2:w1.tr.length=w.tr.length:=by rw[←IE];first|rfl|exact UF
   have LH:w1.sv.getD p dfSv=s:=by rw[←IE];first|exact hs|(show (w.sv.set p _).getD p dfSv=_;rw[List.getD_eq_getElem?_getD,List.getElem?_set_self hp,hs];rfl)
   obtain⟨SV1,FG⟩:∃SV1,yG w1 p (q+1)=SV1:=⟨_,rfl⟩
   obtain⟨F1,AK⟩:∃F1,mvF f' w1 p q=F1:=⟨_,rfl⟩
   obtain⟨fS,gS1,g0,g1,g4⟩:=wE (by rw[e1];exact hp) (by rw[e2];exact vM) AK LH FG
   have VJ:=jK (f':=f') (q:=q) (c:=((k+1:Nat):Int)) (show p<w1.sv.length by rw[e1];exact hp) LH
   rw[FG,AK]at VJ
   rw[e1]at fS g0 VJ
   rw[AK]
   simp (disch:=first|decide|omega) only[hA,gk,gk0,g0,g1,g4,fS,gS1,hk,wR,YA,cellsOf,List.length_map,kn,kl,kn0,kl0,GA,iC,go_sem]
   rw[VJ]
   have LG:stM w p=pcW w1 p (((k+1:Nat):Int)):=by rw[hk1,hM,UH,if_pos rfl,←IE];exact (JP (w:={w with net:=sdR w.net (iH w p s x),sent:=w.sent+1}) hs).symm
   have CM:(stW w p).2=0:=by rw[UH]
   rw[CM,LG]
   exact CC (xs:=[.v (.int .i64 0)]) (.inr rfl) (by simp (disch:=first|decide|omega) only[JA,zA,go_sem,hA]) kO (by rw[JB];exact hRw _) hb (MG _) ⟨rfl,rfl,rfl⟩
  ·rw[if_neg hz]at cS
   obtain⟨er,her⟩:∃er,sdE w.net (iH w p s x)=er:=⟨_,rfl⟩
   have hI:stI w p s x=(wd0,er):=by unfold stI;rw[if_neg o1,if_neg o2,if_neg o6,if_pos o3,if_neg hz,her]
   rw[hI]at UH
   rw[her]at cS hz
   rw[hF]at cS
   simp (disch:=first|decide|omega) only[a_mstp,hA,gk,gk0,f0,f1,f4,gS,MR,hk,UK,wR,YA,cellsOf,List.length_map,kn,kl,kn0,kl0,GA,iC,hi,d1,d2,d7,d6,d3,go_sem]
   refine QA.nxt (cS _) ?_
   have VJ:=jK (f':=f') (q:=q) (c:=((k+1:Nat):Int)) hp hs
   rw[I2,hF]at VJ
   simp (disch:=first|decide|omega) only[hA,gk,gk0,f0,f1,f4,gS,MR,hk,UK,wR,YA,cellsOf,List.length_map,kn,kl,kn0,kl0,GA,iC,go_sem]
   rw[VJ]
   have LG:stM w p=pcW w p (((k+1:Nat):Int)):=by rw[hk1,hM,UH,if_neg hz]
   have CM:(stW w p).2=er:=by rw[UH]
   rw[CM,LG]
   exact CC (xs:=[.v (.int .i64 er)]) (.inr rfl) (by simp (disch:=first|decide|omega) only[JA,zA,go_sem,hA]) kO (by rw[JB];exact hRw _) hb (MG _) ⟨rfl,rfl,rfl⟩
 have o45:x.op=4∨x.op=5:=by
  unfold rE at ME
  rw[if_neg oM,if_neg o3]at ME
  by_cases o4:x.op=4
  ·exact .inl o4
  ·rw[if_neg o4]at ME
   by_cases o5:x.op=5
   ·exact .inr o5
   ·rw[if_neg o5,if_neg o6]at ME
    simp at ME;omega
 have hxa:0≤x.a∧x.a<s.vars.length:=by
  unfold rE inZ at ME
  rcases o45 with o|o<;>simp[o]at ME<;>omega
 obtain⟨i,hi⟩:∃i:Nat,x.a=i:=⟨x.a.toNat,by omega⟩
 have jU:i<s.vars.length:=by omega
 have hI:stI w p s x=(V2 w p s x,0):=by unfold stI;rw[if_neg o1,if_neg o2,if_neg o6,if_neg o3,if_pos o45]
 rw[hI]at UH
 have d1:(x.op==1)=false:=beq_eq_false_iff_ne.2 o1
 have d2:(x.op==2)=false:=beq_eq_false_iff_ne.2 o2
 have d7:(x.op==7)=false:=beq_eq_false_iff_ne.2 o7
 have d6:(x.op==6)=false:=beq_eq_false_iff_ne.2 o6
 have d3:(x.op==3)=false:=beq_eq_false_iff_ne.2 o3
 have cW:=fun b l=>uQ w.net p b l
 simp only[eNw,List.map_cons,List.map_nil]at cW
 by_cases hf:fiR w.net p<0
 ·have o5:x.op=5:=by
   rcases o45 with o|o
   ·have:=S2 (h4 o);omega
   ·exact o
  have d5:(x.op==5)=true:=by rw[o5];rfl
  have j9:aI w.net p=0:=by unfold aI;rw[if_pos ⟨hvn,hpo⟩,uU _ (S4 hf)]
  have n0:(((0:Nat):Int)==0)=true:=rfl
  rw[j9]at cW
  have hR2:V2 w p s x=mJ w p {s with pc:=x.b} dfEv54:=by unfold V2;rw[if_pos hf]
  rw[hR2]at UH
  have cE:=cEv 1 0 0
  simp (disch:=first|decide|omega) only[a_mstp,hA,gk,gk0,f0,f1,f4,gS,MR,hk,UK,wR,YA,cellsOf,List.length_map,kn,kl,kn0,kl0,GA,iC,hi,d1,d2,d7,d6,d3,d5,go_sem]
  refine QA.nxt (cW _ _) ?_
  simp (disch:=first|decide|omega) only[hA,gk,gk0,f0,f1,f4,gS,MR,hk,UK,wR,YA,cellsOf,List.length_map,kn,kl,kn0,kl0,GA,iC,hi,n0,d5,go_sem]
  refine QA.nxt (DE _ _) ?_
  simp (disch:=first|decide|omega) only[hA,gk,gk0,f0,f1,f4,gS,MR,hk,UK,wR,YA,cellsOf,List.length_map,kn,kl,kn0,kl0,GA,iC,hi,go_sem]
  refine QA.nxt (cE _) ?_
  obtain⟨w1,IE⟩:∃w1,evW w p ⟨1,0,0,0,[]⟩=w1:=⟨_,rfl⟩
  rw[IE]
  have e1:w1.sv.length=w.sv.length:=by rw[←IE];first|rfl|exact List.length_set
  have e2:w1.tr.length=w.tr.length:=by rw[←IE];first|rfl|exact UF
  have LH:w1.sv.getD p dfSv=s:=by rw[←IE];first|exact hs|(show (w.sv.set p _).getD p dfSv=_;rw[List.getD_eq_getElem?_getD,List.getElem?_set_self hp,hs];rfl)
  obtain⟨SV1,FG⟩:∃SV1,yG w1 p (q+1)=SV1:=⟨_,rfl⟩
  obtain⟨F1,AK⟩:∃F1,mvF f' w1 p q=F1:=⟨_,rfl⟩
  obtain⟨fS,gS1,g0,g1,g4⟩:=wE (by rw[e1];exact hp) (by rw[e2];exact vM) AK LH FG
  have VJ:=jK (f':=f') (q:=q) (c:=x.b) (show p<w1.sv.length by rw[e1];exact hp) LH
  rw[FG,AK]at VJ
  rw[e1]at fS g0 VJ
  rw[AK]
  simp (disch:=first|decide|omega) only[hA,gk,gk0,g0,g1,g4,fS,gS1,hk,wR,YA,cellsOf,List.length_map,kn,kl,kn0,kl0,GA,iC,go_sem]
  rw[VJ]
  have LG:stM w p=pcW w1 p (x.b):=by rw[hM,UH,if_pos rfl,←IE];exact (JP hs).symm
  have CM:(stW w p).2=0:=by rw[UH]
  rw[CM,LG]
  exact CC (xs:=[.v (.int .i64 0)]) (.inr rfl) (by simp (disch:=first|decide|omega) only[JA,zA,go_sem,hA]) kO (by rw[JB];exact hRw _) hb (MG _) ⟨rfl,rfl,rfl⟩
 obtain⟨j,hj,FF,hja,hjf⟩:=ZBQ (n:=w.net) (to:=p) oM
 obtain⟨mg,y9⟩:∃mg,w.net.l.getD j dfMs=mg:=⟨_,rfl⟩
 have OX:mg∈w.net.l:=by rw[←y9,KA FF];exact List.getElem_mem FF
 obtain⟨YJ,_⟩:=Y4 hw.tr (hw.msg mg OX)
 obtain⟨v,hbv⟩:∃v,mg.body=[v]:=List.length_eq_one_iff.1 YJ
 have lS:vlB v=true:=by
  have:=hw.net.ms mg OX
  unfold msB at this
  simp only[Bool.and_eq_true,List.all_eq_true]at this
  exact this.2.2.2.2.2 v (by rw[hbv];simp)
 have cR:=cRc x i hi jU oM j hj mg y9 v hbv lS
 rw[hi]at cR
 have IE:0<aI w.net p:=by
  unfold aI
  rw[if_pos ⟨hvn,hpo⟩]
  exact ZAx FF hja
 have n0:((aI w.net p:Int)==0)=false:=beq_eq_false_iff_ne.2 oM
 have hRv:V2 w p s x=if (xG w.tr 3 mg.nu).2>0 then {mJ w p s dfEv54 with net:=woN w.net j} else {mJ w p (Sv.put {s with pc:=s.pc+1} i v) (SQ 3 mg.fr mg.nu i v) with net:=woN w.net j}:=by
  unfold V2
  rw[if_neg hf,hj,Int.toNat_natCast,y9,hi,Int.toNat_natCast,hbv];rfl
 rw[←TL (UI hw.tr)]at hRv
 rw[hRv]at UH
 clear hjf
 by_cases ha:0<(SC w.tr 3 mg.nu).2
 ·rw[if_pos ha,decide_eq_true ha]at cR
  rw[if_pos (show (SC w.tr 3 mg.nu).2>0 from ha)]at UH
  rcases o45 with o4|o5
  ·have d5:(x.op==5)=false:=by rw[o4];rfl
   simp (disch:=first|decide|omega) only[a_mstp,hA,gk,gk0,f0,f1,f4,gS,MR,hk,UK,wR,YA,cellsOf,List.length_map,kn,kl,kn0,kl0,GA,iC,hi,d1,d2,d7,d6,d3,d5,go_sem]
   clear IE n0
   refine QA.nxt (cR _) ?_
   obtain⟨w1,IE⟩:∃w1,evW {w with net:=woN w.net j} p ⟨1,0,0,0,[]⟩=w1:=⟨_,rfl⟩
   rw[IE]
   have e1:w1.sv.length=w.sv.length:=by rw[←IE];first|rfl|exact List.length_set
   have e2:w1.tr.length=w.tr.length:=by rw[←IE];first|rfl|exact UF
   have LH:w1.sv.getD p dfSv=s:=by rw[←IE];first|exact hs|(show (w.sv.set p _).getD p dfSv=_;rw[List.getD_eq_getElem?_getD,List.getElem?_set_self hp,hs];rfl)
   obtain⟨SV1,FG⟩:∃SV1,yG w1 p (q+1)=SV1:=⟨_,rfl⟩
   obtain⟨F1,AK⟩:∃F1,mvF f' w1 p q=F1:=⟨_,rfl⟩
   obtain⟨fS,gS1,g0,g1,g4⟩:=wE (by rw[e1];exact hp) (by rw[e2];exact vM) AK LH FG
   have VJ:=jK (f':=f') (q:=q) (c:=((k:Nat):Int)) (show p<w1.sv.length by rw[e1];exact hp) LH
   rw[FG,AK]at VJ
   rw[e1]at fS g0 VJ
   rw[AK]
   simp (disch:=first|decide|omega) only[hA,gk,gk0,g0,g1,g4,fS,gS1,hk,wR,YA,cellsOf,List.length_map,kn,kl,kn0,kl0,GA,iC,go_sem]
   rw[VJ]
   have LG:stM w p=pcW w1 p (((k:Nat):Int)):=by rw[←hk,hM,UH,if_pos rfl,←IE];exact (JP (w:={w with net:=woN w.net j}) hs).symm
   have CM:(stW w p).2=0:=by rw[UH]
   rw[CM,LG]
   exact CC (xs:=[.v (.int .i64 0)]) (.inr rfl) (by simp (disch:=first|decide|omega) only[JA,zA,go_sem,hA]) kO (by rw[JB];exact hRw _) hb (MG _) ⟨rfl,rfl,rfl⟩

  ·have d5:(x.op==5)=true:=by rw[o5];rfl
   simp (disch:=first|decide|omega) only[a_mstp,hA,gk,gk0,f0,f1,f4,gS,MR,hk,UK,wR,YA,cellsOf,List.length_map,kn,kl,kn0,kl0,GA,iC,hi,d1,d2,d7,d6,d3,d5,go_sem]
   refine QA.nxt (cW _ _) ?_
   simp (disch:=first|decide|omega) only[hA,gk,gk0,f0,f1,f4,gS,MR,hk,UK,wR,YA,cellsOf,List.length_map,kn,kl,kn0,kl0,GA,iC,hi,n0,d5,go_sem]
   clear IE n0
   refine QA.nxt (cR _) ?_
   obtain⟨w1,IE⟩:∃w1,evW {w with net:=woN w.net j} p ⟨1,0,0,0,[]⟩=w1:=⟨_,rfl⟩
   rw[IE]
   have e1:w1.sv.length=w.sv.length:=by rw[←IE];first|rfl|exact List.length_set
   have e2:w1.tr.length=w.tr.length:=by rw[←IE];first|rfl|exact UF
   have LH:w1.sv.getD p dfSv=s:=by rw[←IE];first|exact hs|(show (w.sv.set p _).getD p dfSv=_;rw[List.getD_eq_getElem?_getD,List.getElem?_set_self hp,hs];rfl)
   obtain⟨SV1,FG⟩:∃SV1,yG w1 p (q+1)=SV1:=⟨_,rfl⟩
   obtain⟨F1,AK⟩:∃F1,mvF f' w1 p q=F1:=⟨_,rfl⟩
   obtain⟨fS,gS1,g0,g1,g4⟩:=wE (by rw[e1];exact hp) (by rw[e2];exact vM) AK LH FG
   have VJ:=jK (f':=f') (q:=q) (c:=((k:Nat):Int)) (show p<w1.sv.length by rw[e1];exact hp) LH
   rw[FG,AK]at VJ
   rw[e1]at fS g0 VJ
   rw[AK]
   simp (disch:=first|decide|omega) only[hA,gk,gk0,g0,g1,g4,fS,gS1,hk,wR,YA,cellsOf,List.length_map,kn,kl,kn0,kl0,GA,iC,go_sem]
   rw[VJ]
   have LG:stM w p=pcW w1 p (((k:Nat):Int)):=by rw[←hk,hM,UH,if_pos rfl,←IE];exact (JP (w:={w with net:=woN w.net j}) hs).symm
   have CM:(stW w p).2=0:=by rw[UH]
   rw[CM,LG]
   exact CC (xs:=[.v (.int .i64 0)]) (.inr rfl) (by simp (disch:=first|decide|omega) only[JA,zA,go_sem,hA]) kO (by rw[JB];exact hRw _) hb (MG _) ⟨rfl,rfl,rfl⟩
 ·rw[if_neg ha,decide_eq_false ha]at cR
  rw[if_neg (show ¬(SC w.tr 3 mg.nu).2>0 from ha)]at UH
  rcases o45 with o4|o5
  ·have d5:(x.op==5)=false:=by rw[o4];rfl
   simp (disch:=first|decide|omega) only[a_mstp,hA,gk,gk0,f0,f1,f4,gS,MR,hk,UK,wR,YA,cellsOf,List.length_map,kn,kl,kn0,kl0,GA,iC,hi,d1,d2,d7,d6,d3,d5,go_sem]
   clear IE n0
   refine QA.nxt (cR _) ?_
   obtain⟨w1,IE⟩:∃w1,asW {w with net:=woN w.net j} p ⟨3,mg.fr,mg.nu,0,[]⟩ i v=w1:=⟨_,rfl⟩
   rw[IE]
   have e1:w1.sv.length=w.sv.length:=by rw[←IE];first|rfl|exact List.length_set
   have e2:w1.tr.length=w.tr.length:=by rw[←IE];first|rfl|exact UF
   have LH:w1.sv.getD p dfSv=s.put i v:=by rw[←IE];first|exact hs|(show (w.sv.set p _).getD p dfSv=_;rw[List.getD_eq_getElem?_getD,List.getElem?_set_self hp,hs];rfl)
   obtain⟨SV1,FG⟩:∃SV1,yG w1 p (q+1)=SV1:=⟨_,rfl⟩
   obtain⟨F1,AK⟩:∃F1,mvF f' w1 p q=F1:=⟨_,rfl⟩
   obtain⟨fS,gS1,g0,g1,g4⟩:=wE (by rw[e1];exact hp) (by rw[e2];exact vM) AK LH FG
   have VJ:=jK (f':=f') (q:=q) (c:=((k+1:Nat):Int)) (show p<w1.sv.length by rw[e1];exact hp) LH
   rw[FG,AK]at VJ
   rw[e1]at fS g0 VJ
   rw[AK]
   simp (disch:=first|decide|omega) only[hA,gk,gk0,g0,g1,g4,fS,gS1,hk,wR,YA,cellsOf,List.length_map,kn,kl,kn0,kl0,GA,iC,hi,go_sem]
   rw[VJ]
   have LG:stM w p=pcW w1 p (((k+1:Nat):Int)):=by rw[hk1,hM,UH,if_pos rfl,←IE];exact (uR (w:={w with net:=woN w.net j}) hp hs).symm
   have CM:(stW w p).2=0:=by rw[UH]
   rw[CM,LG]
   exact CC (xs:=[.v (.int .i64 0)]) (.inr rfl) (by simp (disch:=first|decide|omega) only[JA,zA,go_sem,hA]) kO (by rw[JB];exact hRw _) hb (MG _) ⟨rfl,rfl,rfl⟩

  ·have d5:(x.op==5)=true:=by rw[o5];rfl
   simp (disch:=first|decide|omega) only[a_mstp,hA,gk,gk0,f0,f1,f4,gS,MR,hk,UK,wR,YA,cellsOf,List.length_map,kn,kl,kn0,kl0,GA,iC,hi,d1,d2,d7,d6,d3,d5,go_sem]
   refine QA.nxt (cW _ _) ?_
   simp (disch:=first|decide|omega) only[hA,gk,gk0,f0,f1,f4,gS,MR,hk,UK,wR,YA,cellsOf,List.length_map,kn,kl,kn0,kl0,GA,iC,hi,n0,d5,go_sem]
   clear IE n0
   refine QA.nxt (cR _) ?_
   obtain⟨w1,IE⟩:∃w1,asW {w with net:=woN w.net j} p ⟨3,mg.fr,mg.nu,0,[]⟩ i v=w1:=⟨_,rfl⟩
   rw[IE]
   have e1:w1.sv.length=w.sv.length:=by rw[←IE];first|rfl|exact List.length_set
   have e2:w1.tr.length=w.tr.length:=by rw[←IE];first|rfl|exact UF
   have LH:w1.sv.getD p dfSv=s.put i v:=by rw[←IE];first|exact hs|(show (w.sv.set p _).getD p dfSv=_;rw[List.getD_eq_getElem?_getD,List.getElem?_set_self hp,hs];rfl)
   obtain⟨SV1,FG⟩:∃SV1,yG w1 p (q+1)=SV1:=⟨_,rfl⟩
   obtain⟨F1,AK⟩:∃F1,mvF f' w1 p q=F1:=⟨_,rfl⟩
   obtain⟨fS,gS1,g0,g1,g4⟩:=wE (by rw[e1];exact hp) (by rw[e2];exact vM) AK LH FG
   have VJ:=jK (f':=f') (q:=q) (c:=((k+1:Nat):Int)) (show p<w1.sv.length by rw[e1];exact hp) LH
   rw[FG,AK]at VJ
   rw[e1]at fS g0 VJ
   rw[AK]
   simp (disch:=first|decide|omega) only[hA,gk,gk0,g0,g1,g4,fS,gS1,hk,wR,YA,cellsOf,List.length_map,kn,kl,kn0,kl0,GA,iC,hi,go_sem]
   rw[VJ]
   have LG:stM w p=pcW w1 p (((k+1:Nat):Int)):=by rw[hk1,hM,UH,if_pos rfl,←IE];exact (uR (w:={w with net:=woN w.net j}) hp hs).symm
   have CM:(stW w p).2=0:=by rw[UH]
   rw[CM,LG]
   exact CC (xs:=[.v (.int .i64 0)]) (.inr rfl) (by simp (disch:=first|decide|omega) only[JA,zA,go_sem,hA]) kO (by rw[JB];exact hRw _) hb (MG _) ⟨rfl,rfl,rfl⟩
theorem qN {m id ver sz:Nat} {rows:List (List IV)} {x:AV} (h:AVlt m x) (hm:m≤id):dF id ver sz rows x=x:=by
 cases h with
 |sl i v o n hi=>simp only[dF];rw[if_neg oM]
 |_=>rfl
theorem G4 {m id ver sz:Nat} {rows:List (List IV)} {x:AV} (h:AVlt m x) (hm:m≤id):frz id ver sz rows x=x:=by
 cases h with
 |agg cs hc =>
   simp only[frz]
   congr 1
   rw[List.map_congr_left (fun c gU=>qN (hc c gU) hm),List.map_id']
 |tup cs hc =>
   simp only[frz]
   congr 1
   rw[List.map_congr_left (fun c gU=>qN (hc c gU) hm),List.map_id']
 |sl i v o n hi=>exact qN (.sl i v o n hi) hm
 |_=>rfl
theorem ZG.frzX {f:Nat→AV} {m id ver sz:Nat} {rows:List (List IV)} (hm:m≤id):∀{ov:List (Nat×AV)},ZG f ov→MK m ov→ZG (fun n=>frz id ver sz rows (f n)) ov
 |[],_,_=>trivial
 |(n,x)::r,h,ho=>⟨by show Go.Proofs.YtoccdlnoaindmaaGreatDoor.frz id ver sz rows (f n)=x;rw[h.1];exact G4 ho.1 hm,ZG.frzX hm h.2 ho.2⟩
theorem ZDO {m id ver sz:Nat} {rows:List (List IV)} (hm:m≤id) {els:List (List AV)} (h:∀r∈els,∀c∈r,AVlt m c):els.map (·.map (dF id ver sz rows))=els:=by
 rw[List.map_congr_left (g:=fun r=>r) (fun r hr=>by rw[List.map_congr_left (fun c hc=>qN (h r hr c hc) hm),List.map_id']),List.map_id']
theorem S9 {m id ver sz:Nat} {rows:List (List IV)} {h:List Row} (hh:SA m h) (hm:m≤id):h.map (WF (dF id ver sz rows))=h:=by
 refine List.ext_getElem (by simp) (fun i h1 h2=>?_)
 rw[List.getElem_map]
 cases hr:h[i] with
 |dead v=>rfl
 |live v s els =>
   have:=hh i v s els (by rw[List.getElem?_eq_getElem h2,hr])
   unfold WF
   simp only
   rw[ZDO hm this]
theorem qA.kfz {N:Nat} {p:List (Nat×Nat)} {ov:List (Nat×AV)} {f g:Nat→AV} {b l l2 l':List Row} {k i ver sz:Nat} {rows:List (List IV)} (hi:l[i]? = some (.live ver sz (vs rows))) (he:iF p f=g) (h:ZG f ov) (hl:(l.set i (.dead ver)).map (WF (dF (b.length+i) ver sz rows))=l2) (hE:KLt (b.length+k) g) (hki:k≤i) (ho:MK (b.length+i) ov)
  (hw:∀f',iF p f'=g→ZG f' ov→qA (kOf N f') b l2 (kOf N (kOv ov g)) b l'):qA (kOf N f) b l (kOf N (kOv ov g)) b l':=by
 have h2:=qA.freezeR (e:=kOf N f) (b:=b) hi
 have h3:(kOf N f).map (frz (b.length+i) ver sz rows)=kOf N (fun n=>frz (b.length+i) ver sz rows (f n)):=by unfold kOf;rw[List.map_map];rfl
 rw[h3,hl]at h2
 refine h2.trans (hw _ ?_ (h.frzX (m:=b.length+i) (Nat.le_refl _) ho))
 rw[←he]
 funext n
 unfold iF
 split
 ·rfl
 ·rename_i hn
  have hf:f n=g n:=by rw[←he];unfold iF;rw[if_neg hn]
  show frz (b.length+i) ver sz rows (f n)=f n
  rw[hf]
  exact G4 (m:=b.length+k) (id:=b.length+i) (hE n) oM
theorem SA.fl {m n:Nat} {C:Nat→Row} (h:∀i,i<n→∀ver sz els,C i=.live ver sz els→∀row∈els,∀c∈row,AVlt m c):SA m (fl n C):=fun id ver sz els hr row yE c hc=>by
 by_cases hid:id<n
 ·rw[VF hid]at hr;exact h id hid ver sz els (Option.some.inj hr) row yE c hc
 ·rw[YK oM]at hr;cases hr
def a_wcop:AFunc:=({c:=_}:CF Tryz.prog 59).c
theorem c7:dA Tryz.prog 59=some a_wcop:=by kernel_rfl
def bP:List (Nat×Nat):=[(5,5),(22,40)]
def eP:List (Nat×Nat):=[(7,8),(10,10),(45,81)]
def RL:List (Nat×Nat):=[(10,10),(58,72)]

theorem ZU (v:List In) (hn:v.length≤1000000) (b l:List Row):QA Tryz.prog 118 [.v (.isl 3 (v.map eIn))] b l (fun r b' l'=>r=.v (.isl 3 (v.map eIn))∧b'=b∧l'=l):=
 QA.deep (x:=.sl (b.length+l.length+0) 1 0 v.length) (Dv.slV (i:=0) rfl (by rw[List.length_map])) (YW v hn b l)
theorem OT (v:List Vr) (hn:v.length≤1000000) (b l:List Row):QA Tryz.prog 120 [.v (.isl 2 (v.map eVr))] b l (fun r b' l'=>r=.v (.isl 2 (v.map eVr))∧b'=b∧l'=l):=
 QA.deep (x:=.sl (b.length+l.length+0) 1 0 v.length) (Dv.slV (i:=0) rfl (by rw[List.length_map])) (XW v hn b l)
theorem DJ (v:List Asg) (hn:v.length≤1000000) (b l:List Row):QA Tryz.prog 121 [.v (.isl 2 (v.map ZM))] b l (fun r b' l'=>r=.v (.isl 2 (v.map ZM))∧b'=b∧l'=l):=
 QA.deep (x:=.sl (b.length+l.length+0) 1 0 v.length) (Dv.slV (i:=0) rfl (by rw[List.length_map])) (JW v hn b l)
theorem qA.kroundG {N:Nat} {p:List (Nat×Nat)} {ov:List (Nat×AV)} {f g:Nat→AV} {b l l1 junk:List Row} {k i ver sz:Nat} {rows:List (List IV)} (hi:l[i]? = some (.live ver sz (vs rows))) (he:iF p f=g) (h:ZG f ov) (hl:(l.set i (.dead ver)).map (WF (dF (b.length+i) ver sz rows))=l1++junk) (hE:KLt (b.length+k) g) (hk:k≤l1.length) (hki:l1.length≤i) (ho:MK (b.length+l1.length) ov) (hb:SA b.length b) (h1:SA (b.length+l1.length) l1)
  (U9:MK (b.length+i) ov):qA (kOf N f) b l (kOf N (kOv ov g)) b l1:=
 qA.kfz (k:=k) hi he h hl hE oM U9 (fun f' he' h'=>qA.kround (p:=p) (k:=k) (junk:=junk) he' h' rfl hE hk ho hb h1)
def cvS (w:Wd) (p id i:Nat):List (List AV):=(yG w p id).take i
def cvP (w:Wd) (p id i:Nat):List (List AV):=(pN w p id).take i
theorem F4 {w:Wd} {p id i:Nat} (h:i≤w.sv.length):(cvS w p id i).length=i:=by unfold cvS;rw[List.length_take,sF];omega
theorem E4 {w:Wd} {p id i:Nat} (h:i≤w.tr.length):(cvP w p id i).length=i:=by unfold cvP;rw[List.length_take,yH];omega
theorem ZFM {w:Wd} {p id i:Nat} (h:i≤w.sv.length):(cvS w p id i).take i=cvS w p id i:=List.take_of_length_le (by rw[F4 h];omega)
theorem ZFN {w:Wd} {p id i:Nat} (h:i≤w.tr.length):(cvP w p id i).take i=cvP w p id i:=List.take_of_length_le (by rw[E4 h];omega)
theorem cvS_p {w:Wd} {p id:Nat} (h:p<w.sv.length):cvS w p id p++[svL (w.sv.getD p dfSv) id]=cvS w p id (p+1):=by
 unfold cvS;rw[List.take_add_one,lM h];rfl
theorem ZDs {w:Wd} {p id i:Nat} (h:i<w.sv.length) (hn:p≠i):cvS w p id i++[(eSv (w.sv.getD i dfSv)).map .v]=cvS w p id (i+1):=by
 unfold cvS;rw[List.take_add_one,V1 h hn];rfl
theorem cvP_p {w:Wd} {p id:Nat} (h:p<w.tr.length):cvP w p id p++[prL (w.tr.getD p dfPr) id]=cvP w p id (p+1):=by
 unfold cvP;rw[List.take_add_one,OU h];rfl
theorem ZDt {w:Wd} {p id i:Nat} (h:i<w.tr.length) (hn:p≠i):cvP w p id i++[(ePr (w.tr.getD i dfPr)).map .v]=cvP w p id (i+1):=by
 unfold cvP;rw[List.take_add_one,U1 h hn];rfl
theorem ZDQ {w:Wd} {p id i m:Nat} (h:i≤p):∀row∈cvS w p id i,∀c∈row,AVlt m c:=fun row hr=>by
 unfold cvS yG at hr
 rw[List.take_set_of_le h]at hr
 exact (qK.2 trivial) row (List.mem_of_mem_take hr)
theorem aU {w:Wd} {p id i m:Nat} (h:i≤p):∀row∈cvP w p id i,∀c∈row,AVlt m c:=fun row hr=>by
 unfold cvP pN at hr
 rw[List.take_set_of_le h]at hr
 exact (qK.2 trivial) row (List.mem_of_mem_take hr)
theorem ZBS {w:Wd} {p id i m:Nat} (h:id<m):∀row∈cvS w p id i,∀c∈row,AVlt m c:=fun row hr=>rU h row (List.mem_of_mem_take hr)
theorem S1 {w:Wd} {p id i m:Nat} (h:id<m):∀row∈cvP w p id i,∀c∈row,AVlt m c:=fun row hr=>Q4 h row (List.mem_of_mem_take hr)
theorem KL {m id ver sz:Nat} {rows:List (List IV)} {els:List (List AV)} (h:∀row∈els,∀c∈row,AVlt m c) (hm:m≤id):els.map (fun r=>r.map (dF id ver sz rows))=els:=by
 have:=S9 (m:=m) (id:=id) (ver:=ver) (sz:=sz) (rows:=rows) (h:=[.live 0 0 els]) (UE.2 ⟨h,SE⟩) hm
 simpa [WF] using this
theorem s4 {m id ver sz v z:Nat} {rows:List (List IV)} {els:List (List AV)} {r:List AV} (h:∀row∈els,∀c∈row,AVlt m c) (hm:m≤id):WF (dF id ver sz rows) (.live v z (els++[r]))=.live v z (els++[r.map (dF id ver sz rows)]):=by
 unfold WF
 simp only[List.map_append,List.map_cons,List.map_nil]
 rw[KL h hm]

def cp1 (B:List Row) (w:Wd) (p i:Nat):List Row:=if p<i then [.live 0 6 [[.v (.str (w.sv.getD p dfSv).name),.v (.isl 3 ((w.sv.getD p dfSv).code.map eIn)),.v (.int .i64 (w.sv.getD p dfSv).pc),.sl (B.length+5) 1 0 (w.sv.getD p dfSv).vars.length,.v (.int .i64 (w.sv.getD p dfSv).off),.v (.int .i64 (w.sv.getD p dfSv).rate)]],.live 1 1 (vs ((w.sv.getD p dfSv).vars.map eI))] else []
def cp2 (B:List Row) (w:Wd) (p i:Nat):List Row:=if p<i then [.live 0 3 [[.v (.str (w.tr.getD p dfPr).name),.v (.isl 2 ((w.tr.getD p dfPr).vars.map eVr)),.sl (B.length+8) (w.tr.getD p dfPr).evs.length 0 (w.tr.getD p dfPr).evs.length]],.live (w.tr.getD p dfPr).evs.length 5 (vs ((w.tr.getD p dfPr).evs.map eEv))] else []
theorem cO (w:Wd) (tR:SvsS w.sv) (hS:Small w.tr) (hN:NwS w.net) (p:Nat) (hp:p<w.sv.length) (vM:p<w.tr.length) (b l:List Row) :
  QA Tryz.prog 59 [.agg ((eWd w).map .v)] b l (fun r b' l'=>r=.agg (mvC w (b.length+l.length))∧b'=b∧l'=l++ZBn w p (b.length+l.length)):=by
 refine VA c7 rfl (by decide) ?_
 intro B g hB hR hE hA;simp only[xA]at hA
 have bW:(eWd w).map AV.v=[.v (.isl 6 (w.sv.map eSv)),.v (.int .i64 w.net.now),.v (.bool w.net.fifo),.v (.isl 4 (w.net.l.map eMs)),.v (.isl 1 (w.net.tm.map eI)),.v (.isl 2 (w.net.fates.map eFt)),.v (.int .i64 w.now),.v (.int .i64 w.sent),.v (.isl 3 (w.tr.map ePr))]:=rfl
 rw[bW]at hA
 have eW:=tR.len
 have xU:=hS.np
 have cN:=fun b l=>z5 w.net hN b l
 simp only[eNw,List.map_cons,List.map_nil]at cN
 have c10:cp1 B w p 0=[]:=if_neg oM
 have c20:cp2 B w p 0=[]:=if_neg oM
 have s0:cvS w p (B.length+5) 0=[]:=rfl
 have p0:cvP w p (B.length+8) 0=[]:=rfl
 simp (disch:=first|decide|omega) only[a_wcop,hA,YA,cellsOf,go_sem]
 refine QA.nxt (cN _ _) ?_
 simp (disch:=first|decide|omega) only[hA,YA,cellsOf,List.length_map,go_sem]
 refine tA (ι:=Nat) bP (fun i=>[(22,.v (.int .i64 i))]) 3 (fun i=>[.live 0 9 [[.v (.isl 6 (w.sv.map eSv)),.v (.int .i64 w.net.now),.v (.bool w.net.fifo),.v (.isl 4 (w.net.l.map eMs)),.v (.isl 1 (w.net.tm.map eI)),.v (.isl 2 (w.net.fates.map eFt)),.v (.int .i64 w.now),.v (.int .i64 w.sent),.v (.isl 3 (w.tr.map ePr))]],.live 0 9 [[.v .zsl,.v (.int .i64 0),.v (.bool false),.v .zsl,.v .zsl,.v .zsl,.v (.int .i64 0),.v (.int .i64 0),.v .zsl]],.live 0 9 [[.sl (B.length+3) i 0 i,.v (.int .i64 w.net.now),.v (.bool w.net.fifo),.v (.isl 4 (w.net.l.map eMs)),.v (.isl 1 (w.net.tm.map eI)),.v (.isl 2 (w.net.fates.map eFt)),.v (.int .i64 w.now),.v (.int .i64 w.sent),.v .zsl]],.live i 6 (cvS w p (B.length+5) i)]++cp1 B w p i)
  (fun i=>i≤w.sv.length) (fun i=>w.sv.length-i) 0 (Nat.zero_le _) (by (repeat (first|exact hE.mono oM|refine KLt.up ?_ kL))) (by ((try simp (disch:=decide) only[hA,go_sem])<;>exact kH)) (fun e=>by
   rw[c10,s0]
   exact qA.nilcell (e:=e) (b:=B) (l:=[.live 0 9 [[.v (.isl 6 (w.sv.map eSv)),.v (.int .i64 w.net.now),.v (.bool w.net.fifo),.v (.isl 4 (w.net.l.map eMs)),.v (.isl 1 (w.net.tm.map eI)),.v (.isl 2 (w.net.fates.map eFt)),.v (.int .i64 w.now),.v (.int .i64 w.sent),.v (.isl 3 (w.tr.map ePr))]],.live 0 9 [[.v .zsl,.v (.int .i64 0),.v (.bool false),.v .zsl,.v .zsl,.v .zsl,.v (.int .i64 0),.v (.int .i64 0),.v .zsl]],.live 0 9 [[.v .zsl,.v (.int .i64 w.net.now),.v (.bool w.net.fifo),.v (.isl 4 (w.net.l.map eMs)),.v (.isl 1 (w.net.tm.map eI)),.v (.isl 2 (w.net.fates.map eFt)),.v (.int .i64 w.now),.v (.int .i64 w.sent),.v .zsl]]]) (i:=2) (k:=0) (j:=0) (sz:=6) rfl rfl rfl) ?_
 intro g1 mH wD KB i hi
 by_cases LA:i<w.sv.length
 ·have mS:=MH LA
  have hSs:=tR.all w.sv[i] (List.getElem_mem LA)
  have hsc:=hSs.code
  have ZFq:=hSs.vars
  have vP:w.sv.getD i dfSv=w.sv[i]:=KA LA
  obtain⟨s,hs⟩:∃s,w.sv[i]=s:=⟨_,rfl⟩
  rw[hs]at mS hsc ZFq vP
  have cC:=fun b l=>ZU s.code hsc b l
  have cVv:=fun b l=>PM s.vars ZFq b l
  have cVl:=fun b l=>SH s.vars ZFq b l
  have tl:=F4 (w:=w) (p:=p) (id:=B.length+5) hi
  have tk:=ZFM (w:=w) (p:=p) (id:=B.length+5) hi
  rcases Nat.lt_trichotomy i p with hlp|hep|J9
  ·have c1:cp1 B w p i=[]:=if_neg oM
   have c2:cp1 B w p (i+1)=[]:=if_neg oM
   have sn:cvS w p (B.length+5) i++[[.v (.str s.name),.v (.isl 3 (s.code.map eIn)),.v (.int .i64 s.pc),.v (.isl 1 (s.vars.map eI)),.v (.int .i64 s.off),.v (.int .i64 s.rate)]]=cvS w p (B.length+5) (i+1):=by have:=ZDs (w:=w) (p:=p) (id:=B.length+5) LA oM;rw[vP]at this;exact this
   have lt1:∀m,(∀row∈cvS w p (B.length+5) (i+1),∀c∈row,AVlt m c):=fun m=>ZDQ oM
   rw[c1]
   simp (disch:=first|decide|omega) only[hA,KB,mS,tl,tk,YA,cellsOf,List.length_map,List.replicate_succ,List.replicate_zero,reduceCtorEq,iC,go_sem]
   refine QA.nxt (cC _ _) ?_
   simp (disch:=first|decide|omega) only[hA,KB,mS,tl,tk,YA,cellsOf,List.length_map,List.replicate_succ,List.replicate_zero,reduceCtorEq,iC,go_sem]
   refine QA.nxt (cVv _ _) ?_
   simp (disch:=first|decide|omega) only[hA,KB,mS,tl,tk,YA,cellsOf,List.length_map,List.replicate_succ,List.replicate_zero,reduceCtorEq,iC,go_sem]
   rw[sn]
   refine⟨i+1,LA,by simp only;omega,?_⟩
   simp only
   rw[c2]
   have h0:=lt1 (B.length+4)
   exact qA.kround (p:=bP) (k:=3) (junk:=[_,_]) (by ((repeat refine (gA rfl).trans ?_);exact wD)) (by ((try simp (disch:=decide) only[hA,KB,go_sem])<;>exact kH)) rfl mH (by simp) kV hR (by simp (disch:=omega) only[eq_true h0,lts.down,Nat.reduceLT,Nat.reduceAdd])
  ·have ZFr:=hep.symm
   subst ZFr
   have c1:cp1 B w p p=[]:=if_neg oM
   have c2:cp1 B w p (p+1)=[.live 0 6 [[.v (.str (w.sv.getD p dfSv).name),.v (.isl 3 ((w.sv.getD p dfSv).code.map eIn)),.v (.int .i64 (w.sv.getD p dfSv).pc),.sl (B.length+5) 1 0 (w.sv.getD p dfSv).vars.length,.v (.int .i64 (w.sv.getD p dfSv).off),.v (.int .i64 (w.sv.getD p dfSv).rate)]],.live 1 1 (vs ((w.sv.getD p dfSv).vars.map eI))]:=if_pos oM
   rw[vP]at c2
   have sn:cvS w p (B.length+5) p++[[.v (.str s.name),.v (.isl 3 (s.code.map eIn)),.v (.int .i64 s.pc),.sl (B.length+5) 1 0 s.vars.length,.v (.int .i64 s.off),.v (.int .i64 s.rate)]]=cvS w p (B.length+5) (p+1):=by have:=cvS_p (w:=w) (p:=p) (id:=B.length+5) LA;rw[vP]at this;exact this
   have lt1:∀m,B.length+6≤m→(∀row∈cvS w p (B.length+5) (p+1),∀c∈row,AVlt m c):=fun m h=>ZBS oM
   rw[c1]
   simp (disch:=first|decide|omega) only[hA,KB,mS,tl,tk,YA,cellsOf,List.length_map,List.replicate_succ,List.replicate_zero,reduceCtorEq,iC,go_sem]
   refine QA.nxt (cC _ _) ?_
   simp (disch:=first|decide|omega) only[hA,KB,mS,tl,tk,YA,cellsOf,List.length_map,List.replicate_succ,List.replicate_zero,reduceCtorEq,iC,go_sem]
   refine QA.nxt (cVl _ _) ?_
   simp (disch:=first|decide|omega) only[hA,KB,mS,tl,tk,YA,cellsOf,List.length_map,List.replicate_succ,List.replicate_zero,reduceCtorEq,iC,go_sem]
   rw[sn]
   refine⟨p+1,LA,by simp only;omega,?_⟩
   simp only
   rw[c2]
   have h0:=lt1 (B.length+6) oM
   exact qA.kround (p:=bP) (k:=3) (junk:=[_]) (by ((repeat refine (gA rfl).trans ?_);exact wD)) (by ((try simp (disch:=decide) only[hA,KB,go_sem])<;>exact kH)) rfl mH (by simp) kV hR (by simp (disch:=omega) only[eq_true h0,lts.down,Nat.reduceLT,Nat.reduceAdd])
  ·have c1:cp1 B w p i=[.live 0 6 [[.v (.str (w.sv.getD p dfSv).name),.v (.isl 3 ((w.sv.getD p dfSv).code.map eIn)),.v (.int .i64 (w.sv.getD p dfSv).pc),.sl (B.length+5) 1 0 (w.sv.getD p dfSv).vars.length,.v (.int .i64 (w.sv.getD p dfSv).off),.v (.int .i64 (w.sv.getD p dfSv).rate)]],.live 1 1 (vs ((w.sv.getD p dfSv).vars.map eI))]:=if_pos oM
   have c2:cp1 B w p (i+1)=[.live 0 6 [[.v (.str (w.sv.getD p dfSv).name),.v (.isl 3 ((w.sv.getD p dfSv).code.map eIn)),.v (.int .i64 (w.sv.getD p dfSv).pc),.sl (B.length+5) 1 0 (w.sv.getD p dfSv).vars.length,.v (.int .i64 (w.sv.getD p dfSv).off),.v (.int .i64 (w.sv.getD p dfSv).rate)]],.live 1 1 (vs ((w.sv.getD p dfSv).vars.map eI))]:=if_pos oM
   have sn:cvS w p (B.length+5) i++[[.v (.str s.name),.v (.isl 3 (s.code.map eIn)),.v (.int .i64 s.pc),.v (.isl 1 (s.vars.map eI)),.v (.int .i64 s.off),.v (.int .i64 s.rate)]]=cvS w p (B.length+5) (i+1):=by have:=ZDs (w:=w) (p:=p) (id:=B.length+5) LA oM;rw[vP]at this;exact this
   have lt1:∀m,B.length+6≤m→(∀row∈cvS w p (B.length+5) (i+1),∀c∈row,AVlt m c):=fun m h=>ZBS oM
   rw[c1]
   simp (disch:=first|decide|omega) only[hA,KB,mS,tl,tk,YA,cellsOf,List.length_map,List.replicate_succ,List.replicate_zero,reduceCtorEq,iC,go_sem]
   refine QA.nxt (cC _ _) ?_
   simp (disch:=first|decide|omega) only[hA,KB,mS,tl,tk,YA,cellsOf,List.length_map,List.replicate_succ,List.replicate_zero,reduceCtorEq,iC,go_sem]
   refine QA.nxt (cVv _ _) ?_
   simp (disch:=first|decide|omega) only[hA,KB,mS,tl,tk,YA,cellsOf,List.length_map,List.replicate_succ,List.replicate_zero,reduceCtorEq,iC,go_sem]
   rw[sn]
   refine⟨i+1,LA,by simp only;omega,?_⟩
   simp only
   rw[c2]
   have h0:=lt1 (B.length+6) oM
   exact qA.kround (p:=bP) (k:=3) (junk:=[_,_]) (by ((repeat refine (gA rfl).trans ?_);exact wD)) (by ((try simp (disch:=decide) only[hA,KB,go_sem])<;>exact kH)) rfl mH (by simp) kV hR (by simp (disch:=omega) only[eq_true h0,lts.down,Nat.reduceLT,Nat.reduceAdd])
 obtain rfl:i=w.sv.length:=by omega
 have c1:cp1 B w p w.sv.length=[.live 0 6 [[.v (.str (w.sv.getD p dfSv).name),.v (.isl 3 ((w.sv.getD p dfSv).code.map eIn)),.v (.int .i64 (w.sv.getD p dfSv).pc),.sl (B.length+5) 1 0 (w.sv.getD p dfSv).vars.length,.v (.int .i64 (w.sv.getD p dfSv).off),.v (.int .i64 (w.sv.getD p dfSv).rate)]],.live 1 1 (vs ((w.sv.getD p dfSv).vars.map eI))]:=if_pos oM
 have tS:cvS w p (B.length+5) w.sv.length=yG w p (B.length+5):=List.take_of_length_le (by rw[sF];omega)
 rw[c1,tS]
 obtain⟨SV,I2⟩:∃SV,yG w p (B.length+5)=SV:=⟨_,rfl⟩
 have p9:∀m,B.length+6≤m→(∀row∈SV,∀c∈row,AVlt m c):=fun m h=>by rw[←I2];exact rU oM
 rw[I2]
 obtain⟨s,hs⟩:∃s,w.sv.getD p dfSv=s:=⟨_,rfl⟩
 simp (disch:=first|decide|omega) only[hA,KB,YA,cellsOf,List.length_map,go_sem]
 refine tA (ι:=Nat) eP (fun i=>[(45,.v (.int .i64 i))]) 6 (fun i=>[.live 0 9 [[.v (.isl 6 (w.sv.map eSv)),.v (.int .i64 w.net.now),.v (.bool w.net.fifo),.v (.isl 4 (w.net.l.map eMs)),.v (.isl 1 (w.net.tm.map eI)),.v (.isl 2 (w.net.fates.map eFt)),.v (.int .i64 w.now),.v (.int .i64 w.sent),.v (.isl 3 (w.tr.map ePr))]],.live 0 9 [[.v .zsl,.v (.int .i64 0),.v (.bool false),.v .zsl,.v .zsl,.v .zsl,.v (.int .i64 0),.v (.int .i64 0),.v .zsl]],.live 0 9 [[.sl (B.length+3) w.sv.length 0 w.sv.length,.v (.int .i64 w.net.now),.v (.bool w.net.fifo),.v (.isl 4 (w.net.l.map eMs)),.v (.isl 1 (w.net.tm.map eI)),.v (.isl 2 (w.net.fates.map eFt)),.v (.int .i64 w.now),.v (.int .i64 w.sent),.sl (B.length+6) i 0 i]],.live w.sv.length 6 SV,.live 0 6 [[.v (.str (w.sv.getD p dfSv).name),.v (.isl 3 ((w.sv.getD p dfSv).code.map eIn)),.v (.int .i64 (w.sv.getD p dfSv).pc),.sl (B.length+5) 1 0 (w.sv.getD p dfSv).vars.length,.v (.int .i64 (w.sv.getD p dfSv).off),.v (.int .i64 (w.sv.getD p dfSv).rate)]],.live 1 1 (vs ((w.sv.getD p dfSv).vars.map eI)),.live i 3 (cvP w p (B.length+8) i)]++cp2 B w p i)
  (fun i=>i≤w.tr.length) (fun i=>w.tr.length-i) 0 (Nat.zero_le _) (by (repeat (first|exact mH.mono oM|refine KLt.up ?_ kL))) (by ((try simp (disch:=decide) only[hA,KB,go_sem])<;>exact kH)) (fun e=>by
   rw[c20,p0]
   exact qA.nilcell (e:=e) (b:=B) (l:=[.live 0 9 [[.v (.isl 6 (w.sv.map eSv)),.v (.int .i64 w.net.now),.v (.bool w.net.fifo),.v (.isl 4 (w.net.l.map eMs)),.v (.isl 1 (w.net.tm.map eI)),.v (.isl 2 (w.net.fates.map eFt)),.v (.int .i64 w.now),.v (.int .i64 w.sent),.v (.isl 3 (w.tr.map ePr))]],.live 0 9 [[.v .zsl,.v (.int .i64 0),.v (.bool false),.v .zsl,.v .zsl,.v .zsl,.v (.int .i64 0),.v (.int .i64 0),.v .zsl]],.live 0 9 [[.sl (B.length+3) w.sv.length 0 w.sv.length,.v (.int .i64 w.net.now),.v (.bool w.net.fifo),.v (.isl 4 (w.net.l.map eMs)),.v (.isl 1 (w.net.tm.map eI)),.v (.isl 2 (w.net.fates.map eFt)),.v (.int .i64 w.now),.v (.int .i64 w.sent),.v .zsl]],.live w.sv.length 6 SV,.live 0 6 [[.v (.str (w.sv.getD p dfSv).name),.v (.isl 3 ((w.sv.getD p dfSv).code.map eIn)),.v (.int .i64 (w.sv.getD p dfSv).pc),.sl (B.length+5) 1 0 (w.sv.getD p dfSv).vars.length,.v (.int .i64 (w.sv.getD p dfSv).off),.v (.int .i64 (w.sv.getD p dfSv).rate)]],.live 1 1 (vs ((w.sv.getD p dfSv).vars.map eI))]) (i:=2) (k:=0) (j:=8) (sz:=3) rfl rfl rfl) ?_
 intro g2 CM bN IG i hi
 by_cases LA:i<w.tr.length
 ·have hgr:=PL LA
  have KH:=hS.ne w.tr[i] (List.getElem_mem LA)
  have hnv:=hS.nv w.tr[i] (List.getElem_mem LA)
  have hna:=hS.na w.tr[i] (List.getElem_mem LA)
  have vP:w.tr.getD i dfPr=w.tr[i]:=KA LA
  obtain⟨x,hx⟩:∃x,w.tr[i]=x:=⟨_,rfl⟩
  rw[hx]at hgr KH hnv hna vP
  have cV:=fun b l=>OT x.vars hnv b l
  have tl:=E4 (w:=w) (p:=p) (id:=B.length+8) hi
  have tk:=ZFN (w:=w) (p:=p) (id:=B.length+8) hi
  have hxe:x.evs.take x.evs.length=x.evs:=List.take_length
  rcases Nat.lt_trichotomy i p with hlp|hep|J9
  ·have c1:cp2 B w p i=[]:=if_neg oM
   have c2:cp2 B w p (i+1)=[]:=if_neg oM
   have lt1:∀m,(∀row∈cvP w p (B.length+8) (i+1),∀c∈row,AVlt m c):=fun m=>aU oM
   have lt0:∀m,(∀row∈cvP w p (B.length+8) i,∀c∈row,AVlt m c):=fun m=>aU oM
   have sn:cvP w p (B.length+8) i++[[.v (.str x.name),.v (.isl 2 (x.vars.map eVr)),.v (.isl 5 (x.evs.map eEv))]]=cvP w p (B.length+8) (i+1):=by have:=ZDt (w:=w) (p:=p) (id:=B.length+8) LA oM;rw[vP]at this;exact this
   rw[c1]
   simp (disch:=first|decide|omega) only[hA,KB,IG,hgr,tl,tk,YA,cellsOf,List.length_map,List.replicate_succ,List.replicate_zero,reduceCtorEq,iC,go_sem]
   refine QA.nxt (cV _ _) ?_
   simp (disch:=first|decide|omega) only[hA,KB,IG,hgr,tl,tk,YA,cellsOf,List.length_map,List.replicate_succ,List.replicate_zero,reduceCtorEq,iC,go_sem]
   refine tA (ι:=Nat) RL (fun j=>[(58,.v (.int .i64 j))]) 8 (fun j=>[.live 0 9 [[.v (.isl 6 (w.sv.map eSv)),.v (.int .i64 w.net.now),.v (.bool w.net.fifo),.v (.isl 4 (w.net.l.map eMs)),.v (.isl 1 (w.net.tm.map eI)),.v (.isl 2 (w.net.fates.map eFt)),.v (.int .i64 w.now),.v (.int .i64 w.sent),.v (.isl 3 (w.tr.map ePr))]],.live 0 9 [[.v .zsl,.v (.int .i64 0),.v (.bool false),.v .zsl,.v .zsl,.v .zsl,.v (.int .i64 0),.v (.int .i64 0),.v .zsl]],.live 0 9 [[.sl (B.length+3) w.sv.length 0 w.sv.length,.v (.int .i64 w.net.now),.v (.bool w.net.fifo),.v (.isl 4 (w.net.l.map eMs)),.v (.isl 1 (w.net.tm.map eI)),.v (.isl 2 (w.net.fates.map eFt)),.v (.int .i64 w.now),.v (.int .i64 w.sent),.sl (B.length+6) i 0 i]],.live w.sv.length 6 SV,.live 0 6 [[.v (.str (w.sv.getD p dfSv).name),.v (.isl 3 ((w.sv.getD p dfSv).code.map eIn)),.v (.int .i64 (w.sv.getD p dfSv).pc),.sl (B.length+5) 1 0 (w.sv.getD p dfSv).vars.length,.v (.int .i64 (w.sv.getD p dfSv).off),.v (.int .i64 (w.sv.getD p dfSv).rate)]],.live 1 1 (vs ((w.sv.getD p dfSv).vars.map eI)),.live i 3 (cvP w p (B.length+8) i),.live 0 3 [[.v (.str x.name),.v (.isl 2 (x.vars.map eVr)),.sl (B.length+8) j 0 j]],.live j 5 (vs ((x.evs.take j).map eEv))]) (fun j=>j≤x.evs.length) (fun j=>x.evs.length-j) 0 (Nat.zero_le _) (by (repeat (first|exact CM.mono oM|refine KLt.up ?_ kL))) (by ((try simp (disch:=decide) only[hA,KB,IG,go_sem])<;>exact kH)) (fun e=>qA.nilcell (e:=e) (b:=B) (l:=[.live 0 9 [[.v (.isl 6 (w.sv.map eSv)),.v (.int .i64 w.net.now),.v (.bool w.net.fifo),.v (.isl 4 (w.net.l.map eMs)),.v (.isl 1 (w.net.tm.map eI)),.v (.isl 2 (w.net.fates.map eFt)),.v (.int .i64 w.now),.v (.int .i64 w.sent),.v (.isl 3 (w.tr.map ePr))]],.live 0 9 [[.v .zsl,.v (.int .i64 0),.v (.bool false),.v .zsl,.v .zsl,.v .zsl,.v (.int .i64 0),.v (.int .i64 0),.v .zsl]],.live 0 9 [[.sl (B.length+3) w.sv.length 0 w.sv.length,.v (.int .i64 w.net.now),.v (.bool w.net.fifo),.v (.isl 4 (w.net.l.map eMs)),.v (.isl 1 (w.net.tm.map eI)),.v (.isl 2 (w.net.fates.map eFt)),.v (.int .i64 w.now),.v (.int .i64 w.sent),.sl (B.length+6) i 0 i]],.live w.sv.length 6 SV,.live 0 6 [[.v (.str (w.sv.getD p dfSv).name),.v (.isl 3 ((w.sv.getD p dfSv).code.map eIn)),.v (.int .i64 (w.sv.getD p dfSv).pc),.sl (B.length+5) 1 0 (w.sv.getD p dfSv).vars.length,.v (.int .i64 (w.sv.getD p dfSv).off),.v (.int .i64 (w.sv.getD p dfSv).rate)]],.live 1 1 (vs ((w.sv.getD p dfSv).vars.map eI)),.live i 3 (cvP w p (B.length+8) i),.live 0 3 [[.v (.str x.name),.v (.isl 2 (x.vars.map eVr)),.v .zsl]]]) (i:=7) (k:=0) (j:=2) (sz:=5) rfl rfl rfl) ?_
   intro g3 hE3 XY NO j hj
   by_cases VY:j<x.evs.length
   ·have CK:=VK VY
    have hja:=hna x.evs[j] (List.getElem_mem VY)
    have cA:=fun b l=>DJ x.evs[j].asg hja b l
    have vl:((x.evs.take j).map eEv).length=j:=by rw[List.length_map,List.length_take];omega
    have vt:List.take j (vs ((x.evs.take j).map eEv))=vs ((x.evs.take j).map eEv):=List.take_of_length_le (by rw[XC,vl];omega)
    have vt2:List.take j ((x.evs.take j).map eEv)=(x.evs.take j).map eEv:=List.take_of_length_le (by rw[vl];omega)
    have DX:(x.evs.take j).map eEv++[[.int .i64 x.evs[j].kind,.int .i64 x.evs[j].peer,.int .i64 x.evs[j].msg,.int .i64 x.evs[j].time,.isl 2 (x.evs[j].asg.map ZM)]]=(x.evs.take (j+1)).map eEv:=by rw[List.take_add_one,List.getElem?_eq_getElem VY,List.map_append];rfl
    simp (disch:=first|decide|omega) only[hA,KB,IG,NO,CK,vl,vt,vt2,YA,cellsOf,List.length_map,List.replicate_succ,List.replicate_zero,reduceCtorEq,iC,go_sem]
    refine QA.nxt (cA _ _) ?_
    simp (disch:=first|decide|omega) only[hA,KB,IG,NO,CK,vl,vt,vt2,YA,cellsOf,List.length_map,List.replicate_succ,List.replicate_zero,reduceCtorEq,iC,go_sem]
    rw[DX]
    refine⟨j+1,VY,by simp only;omega,?_⟩
    have h1:=p9 (B.length+9) oM
    have h0:=lt0 (B.length+9)
    exact qA.kround (p:=RL) (k:=8) (junk:=[_,_]) (by ((repeat refine (gA rfl).trans ?_);exact XY)) (by ((try simp (disch:=decide) only[hA,KB,IG,NO,go_sem])<;>exact kH)) rfl hE3 (by simp) kV hR (by simp (disch:=omega) only[eq_true h0,eq_true h1,lts.down,Nat.reduceLT,Nat.reduceAdd])
   obtain rfl:j=x.evs.length:=by omega
   rw[hxe]
   simp (disch:=first|decide|omega) only[hA,KB,IG,NO,tl,tk,YA,cellsOf,List.length_map,List.replicate_succ,List.replicate_zero,reduceCtorEq,iC,go_sem]
   refine⟨i+1,LA,by simp only;omega,?_⟩
   simp only
   rw[c2,←sn]
   have h0:=lt1 (B.length+7)
   rw[←sn]at h0
   have h1:=p9 (B.length+7) oM
   refine qA.kroundG (i:=8) (ver:=x.evs.length) (sz:=5) (rows:=x.evs.map eEv) (junk:=[.live 0 3 [[.v (.str x.name),.v (.isl 2 (x.vars.map eVr)),.v (.isl 5 (x.evs.map eEv))]],.dead x.evs.length,.live 0 3 [[.v (.str x.name),.v (.isl 2 (x.vars.map eVr)),.v (.isl 5 (x.evs.map eEv))]]]) (p:=eP) (k:=6) rfl (by ((repeat refine (gA rfl).trans ?_);refine (wJ NO (XK rfl)).trans ?_;(repeat refine (gA rfl).trans ?_);exact bN)) (by ((try simp (disch:=decide) only[hA,KB,IG,NO,go_sem])<;>exact kH)) ?_ CM (by simp) (by simp) kV hR (by simp (disch:=omega) only[eq_true h0,eq_true h1,lts.down,Nat.reduceLT,Nat.reduceAdd]) kV
   have hz:∀(a c d:Nat),a≠B.length+8→dF (B.length+8) x.evs.length 5 (x.evs.map eEv) (.sl a c 0 d)=.sl a c 0 d:=fun a c d h=>by simp[dF,h]
   have hy:dF (B.length+8) x.evs.length 5 (x.evs.map eEv) (.sl (B.length+8) x.evs.length 0 x.evs.length)=.v (.isl 5 (x.evs.map eEv)):=OQ (by rw[List.length_map])
   have hv:∀y:IV,dF (B.length+8) x.evs.length 5 (x.evs.map eEv) (.v y)=.v y:=fun _=>rfl
   have hSf:=KL (ver:=x.evs.length) (sz:=5) (rows:=x.evs.map eEv) h1 (show B.length+7≤B.length+8 by omega)
   have hPf:=s4 (ver:=x.evs.length) (sz:=5) (rows:=x.evs.map eEv) (v:=i+1) (z:=3) (r:=[.v (.str x.name),.v (.isl 2 (x.vars.map eVr)),.sl (B.length+8) x.evs.length 0 x.evs.length]) (lt0 (B.length+7)) (show B.length+7≤B.length+8 by omega)
   have hV:∀r:List (List IV),(vs r).map (fun y=>y.map (dF (B.length+8) x.evs.length 5 (x.evs.map eEv)))=vs r:=fun r=>KL (m:=0) (qK.2 trivial) (Nat.zero_le _)
   have ZCI:=hPf
   unfold WF at hPf
   simp only[List.map_cons,List.map_nil,hz,hy,hv]at ZCI
   simp only[List.cons_append,List.nil_append,List.set_cons_succ,List.set_cons_zero,List.map_cons,List.map_nil,ZCI]
   unfold WF
   simp (disch:=omega) only[List.map_cons,List.map_nil,hz,hy,hv,hSf,hV]
  ·have ZFr:=hep.symm
   subst ZFr
   have c1:cp2 B w p p=[]:=if_neg oM
   have c2:cp2 B w p (p+1)=[.live 0 3 [[.v (.str (w.tr.getD p dfPr).name),.v (.isl 2 ((w.tr.getD p dfPr).vars.map eVr)),.sl (B.length+8) (w.tr.getD p dfPr).evs.length 0 (w.tr.getD p dfPr).evs.length]],.live (w.tr.getD p dfPr).evs.length 5 (vs ((w.tr.getD p dfPr).evs.map eEv))]:=if_pos oM
   rw[vP]at c2
   have lt1:∀m,B.length+9≤m→(∀row∈cvP w p (B.length+8) (p+1),∀c∈row,AVlt m c):=fun m h=>S1 oM
   have lt0:∀m,(∀row∈cvP w p (B.length+8) p,∀c∈row,AVlt m c):=fun m=>aU oM
   have sn:cvP w p (B.length+8) p++[[.v (.str x.name),.v (.isl 2 (x.vars.map eVr)),.sl (B.length+8) x.evs.length 0 x.evs.length]]=cvP w p (B.length+8) (p+1):=by have:=cvP_p (w:=w) (p:=p) (id:=B.length+8) LA;rw[vP]at this;exact this
   rw[c1]
   simp (disch:=first|decide|omega) only[hA,KB,IG,hgr,tl,tk,YA,cellsOf,List.length_map,List.replicate_succ,List.replicate_zero,reduceCtorEq,iC,go_sem]
   refine QA.nxt (cV _ _) ?_
   simp (disch:=first|decide|omega) only[hA,KB,IG,hgr,tl,tk,YA,cellsOf,List.length_map,List.replicate_succ,List.replicate_zero,reduceCtorEq,iC,go_sem]
   refine tA (ι:=Nat) RL (fun j=>[(58,.v (.int .i64 j))]) 8 (fun j=>[.live 0 9 [[.v (.isl 6 (w.sv.map eSv)),.v (.int .i64 w.net.now),.v (.bool w.net.fifo),.v (.isl 4 (w.net.l.map eMs)),.v (.isl 1 (w.net.tm.map eI)),.v (.isl 2 (w.net.fates.map eFt)),.v (.int .i64 w.now),.v (.int .i64 w.sent),.v (.isl 3 (w.tr.map ePr))]],.live 0 9 [[.v .zsl,.v (.int .i64 0),.v (.bool false),.v .zsl,.v .zsl,.v .zsl,.v (.int .i64 0),.v (.int .i64 0),.v .zsl]],.live 0 9 [[.sl (B.length+3) w.sv.length 0 w.sv.length,.v (.int .i64 w.net.now),.v (.bool w.net.fifo),.v (.isl 4 (w.net.l.map eMs)),.v (.isl 1 (w.net.tm.map eI)),.v (.isl 2 (w.net.fates.map eFt)),.v (.int .i64 w.now),.v (.int .i64 w.sent),.sl (B.length+6) p 0 p]],.live w.sv.length 6 SV,.live 0 6 [[.v (.str (w.sv.getD p dfSv).name),.v (.isl 3 ((w.sv.getD p dfSv).code.map eIn)),.v (.int .i64 (w.sv.getD p dfSv).pc),.sl (B.length+5) 1 0 (w.sv.getD p dfSv).vars.length,.v (.int .i64 (w.sv.getD p dfSv).off),.v (.int .i64 (w.sv.getD p dfSv).rate)]],.live 1 1 (vs ((w.sv.getD p dfSv).vars.map eI)),.live p 3 (cvP w p (B.length+8) p),.live 0 3 [[.v (.str x.name),.v (.isl 2 (x.vars.map eVr)),.sl (B.length+8) j 0 j]],.live j 5 (vs ((x.evs.take j).map eEv))]) (fun j=>j≤x.evs.length) (fun j=>x.evs.length-j) 0 (Nat.zero_le _) (by (repeat (first|exact CM.mono oM|refine KLt.up ?_ kL))) (by ((try simp (disch:=decide) only[hA,KB,IG,go_sem])<;>exact kH)) (fun e=>qA.nilcell (e:=e) (b:=B) (l:=[.live 0 9 [[.v (.isl 6 (w.sv.map eSv)),.v (.int .i64 w.net.now),.v (.bool w.net.fifo),.v (.isl 4 (w.net.l.map eMs)),.v (.isl 1 (w.net.tm.map eI)),.v (.isl 2 (w.net.fates.map eFt)),.v (.int .i64 w.now),.v (.int .i64 w.sent),.v (.isl 3 (w.tr.map ePr))]],.live 0 9 [[.v .zsl,.v (.int .i64 0),.v (.bool false),.v .zsl,.v .zsl,.v .zsl,.v (.int .i64 0),.v (.int .i64 0),.v .zsl]],.live 0 9 [[.sl (B.length+3) w.sv.length 0 w.sv.length,.v (.int .i64 w.net.now),.v (.bool w.net.fifo),.v (.isl 4 (w.net.l.map eMs)),.v (.isl 1 (w.net.tm.map eI)),.v (.isl 2 (w.net.fates.map eFt)),.v (.int .i64 w.now),.v (.int .i64 w.sent),.sl (B.length+6) p 0 p]],.live w.sv.length 6 SV,.live 0 6 [[.v (.str (w.sv.getD p dfSv).name),.v (.isl 3 ((w.sv.getD p dfSv).code.map eIn)),.v (.int .i64 (w.sv.getD p dfSv).pc),.sl (B.length+5) 1 0 (w.sv.getD p dfSv).vars.length,.v (.int .i64 (w.sv.getD p dfSv).off),.v (.int .i64 (w.sv.getD p dfSv).rate)]],.live 1 1 (vs ((w.sv.getD p dfSv).vars.map eI)),.live p 3 (cvP w p (B.length+8) p),.live 0 3 [[.v (.str x.name),.v (.isl 2 (x.vars.map eVr)),.v .zsl]]]) (i:=7) (k:=0) (j:=2) (sz:=5) rfl rfl rfl) ?_
   intro g3 hE3 XY NO j hj
   by_cases VY:j<x.evs.length
   ·have CK:=VK VY
    have hja:=hna x.evs[j] (List.getElem_mem VY)
    have cA:=fun b l=>DJ x.evs[j].asg hja b l
    have vl:((x.evs.take j).map eEv).length=j:=by rw[List.length_map,List.length_take];omega
    have vt:List.take j (vs ((x.evs.take j).map eEv))=vs ((x.evs.take j).map eEv):=List.take_of_length_le (by rw[XC,vl];omega)
    have vt2:List.take j ((x.evs.take j).map eEv)=(x.evs.take j).map eEv:=List.take_of_length_le (by rw[vl];omega)
    have DX:(x.evs.take j).map eEv++[[.int .i64 x.evs[j].kind,.int .i64 x.evs[j].peer,.int .i64 x.evs[j].msg,.int .i64 x.evs[j].time,.isl 2 (x.evs[j].asg.map ZM)]]=(x.evs.take (j+1)).map eEv:=by rw[List.take_add_one,List.getElem?_eq_getElem VY,List.map_append];rfl
    simp (disch:=first|decide|omega) only[hA,KB,IG,NO,CK,vl,vt,vt2,YA,cellsOf,List.length_map,List.replicate_succ,List.replicate_zero,reduceCtorEq,iC,go_sem]
    refine QA.nxt (cA _ _) ?_
    simp (disch:=first|decide|omega) only[hA,KB,IG,NO,CK,vl,vt,vt2,YA,cellsOf,List.length_map,List.replicate_succ,List.replicate_zero,reduceCtorEq,iC,go_sem]
    rw[DX]
    refine⟨j+1,VY,by simp only;omega,?_⟩
    have h1:=p9 (B.length+9) oM
    have h0:=lt0 (B.length+9)
    exact qA.kround (p:=RL) (k:=8) (junk:=[_,_]) (by ((repeat refine (gA rfl).trans ?_);exact XY)) (by ((try simp (disch:=decide) only[hA,KB,IG,NO,go_sem])<;>exact kH)) rfl hE3 (by simp) kV hR (by simp (disch:=omega) only[eq_true h0,eq_true h1,lts.down,Nat.reduceLT,Nat.reduceAdd])
   obtain rfl:j=x.evs.length:=by omega
   rw[hxe]
   simp (disch:=first|decide|omega) only[hA,KB,IG,NO,tl,tk,YA,cellsOf,List.length_map,List.replicate_succ,List.replicate_zero,reduceCtorEq,iC,go_sem]
   refine⟨p+1,LA,by simp only;omega,?_⟩
   simp only
   rw[c2,sn]
   have h0:=lt1 (B.length+9) oM
   have h1:=p9 (B.length+9) oM
   exact qA.kround (p:=eP) (k:=6) (junk:=[_]) (by ((repeat refine (gA rfl).trans ?_);refine (wJ NO (XK rfl)).trans ?_;(repeat refine (gA rfl).trans ?_);exact bN)) (by ((try simp (disch:=decide) only[hA,KB,IG,NO,go_sem])<;>exact kH)) rfl CM (by simp) kV hR (by simp (disch:=omega) only[eq_true h0,eq_true h1,lts.down,Nat.reduceLT,Nat.reduceAdd])
  ·have c1:cp2 B w p i=[.live 0 3 [[.v (.str (w.tr.getD p dfPr).name),.v (.isl 2 ((w.tr.getD p dfPr).vars.map eVr)),.sl (B.length+8) (w.tr.getD p dfPr).evs.length 0 (w.tr.getD p dfPr).evs.length]],.live (w.tr.getD p dfPr).evs.length 5 (vs ((w.tr.getD p dfPr).evs.map eEv))]:=if_pos oM
   have c2:cp2 B w p (i+1)=[.live 0 3 [[.v (.str (w.tr.getD p dfPr).name),.v (.isl 2 ((w.tr.getD p dfPr).vars.map eVr)),.sl (B.length+8) (w.tr.getD p dfPr).evs.length 0 (w.tr.getD p dfPr).evs.length]],.live (w.tr.getD p dfPr).evs.length 5 (vs ((w.tr.getD p dfPr).evs.map eEv))]:=if_pos oM
   have lt1:∀m,B.length+9≤m→(∀row∈cvP w p (B.length+8) (i+1),∀c∈row,AVlt m c):=fun m h=>S1 oM
   have lt0:∀m,B.length+9≤m→(∀row∈cvP w p (B.length+8) i,∀c∈row,AVlt m c):=fun m h=>S1 oM
   have sn:cvP w p (B.length+8) i++[[.v (.str x.name),.v (.isl 2 (x.vars.map eVr)),.v (.isl 5 (x.evs.map eEv))]]=cvP w p (B.length+8) (i+1):=by have:=ZDt (w:=w) (p:=p) (id:=B.length+8) LA oM;rw[vP]at this;exact this
   rw[c1]
   simp (disch:=first|decide|omega) only[hA,KB,IG,hgr,tl,tk,YA,cellsOf,List.length_map,List.replicate_succ,List.replicate_zero,reduceCtorEq,iC,go_sem]
   refine QA.nxt (cV _ _) ?_
   simp (disch:=first|decide|omega) only[hA,KB,IG,hgr,tl,tk,YA,cellsOf,List.length_map,List.replicate_succ,List.replicate_zero,reduceCtorEq,iC,go_sem]
   refine tA (ι:=Nat) RL (fun j=>[(58,.v (.int .i64 j))]) 10 (fun j=>[.live 0 9 [[.v (.isl 6 (w.sv.map eSv)),.v (.int .i64 w.net.now),.v (.bool w.net.fifo),.v (.isl 4 (w.net.l.map eMs)),.v (.isl 1 (w.net.tm.map eI)),.v (.isl 2 (w.net.fates.map eFt)),.v (.int .i64 w.now),.v (.int .i64 w.sent),.v (.isl 3 (w.tr.map ePr))]],.live 0 9 [[.v .zsl,.v (.int .i64 0),.v (.bool false),.v .zsl,.v .zsl,.v .zsl,.v (.int .i64 0),.v (.int .i64 0),.v .zsl]],.live 0 9 [[.sl (B.length+3) w.sv.length 0 w.sv.length,.v (.int .i64 w.net.now),.v (.bool w.net.fifo),.v (.isl 4 (w.net.l.map eMs)),.v (.isl 1 (w.net.tm.map eI)),.v (.isl 2 (w.net.fates.map eFt)),.v (.int .i64 w.now),.v (.int .i64 w.sent),.sl (B.length+6) i 0 i]],.live w.sv.length 6 SV,.live 0 6 [[.v (.str (w.sv.getD p dfSv).name),.v (.isl 3 ((w.sv.getD p dfSv).code.map eIn)),.v (.int .i64 (w.sv.getD p dfSv).pc),.sl (B.length+5) 1 0 (w.sv.getD p dfSv).vars.length,.v (.int .i64 (w.sv.getD p dfSv).off),.v (.int .i64 (w.sv.getD p dfSv).rate)]],.live 1 1 (vs ((w.sv.getD p dfSv).vars.map eI)),.live i 3 (cvP w p (B.length+8) i),.live 0 3 [[.v (.str (w.tr.getD p dfPr).name),.v (.isl 2 ((w.tr.getD p dfPr).vars.map eVr)),.sl (B.length+8) (w.tr.getD p dfPr).evs.length 0 (w.tr.getD p dfPr).evs.length]],.live (w.tr.getD p dfPr).evs.length 5 (vs ((w.tr.getD p dfPr).evs.map eEv)),.live 0 3 [[.v (.str x.name),.v (.isl 2 (x.vars.map eVr)),.sl (B.length+10) j 0 j]],.live j 5 (vs ((x.evs.take j).map eEv))]) (fun j=>j≤x.evs.length) (fun j=>x.evs.length-j) 0 (Nat.zero_le _) (by (repeat (first|exact CM.mono oM|refine KLt.up ?_ kL))) (by ((try simp (disch:=decide) only[hA,KB,IG,go_sem])<;>exact kH)) (fun e=>qA.nilcell (e:=e) (b:=B) (l:=[.live 0 9 [[.v (.isl 6 (w.sv.map eSv)),.v (.int .i64 w.net.now),.v (.bool w.net.fifo),.v (.isl 4 (w.net.l.map eMs)),.v (.isl 1 (w.net.tm.map eI)),.v (.isl 2 (w.net.fates.map eFt)),.v (.int .i64 w.now),.v (.int .i64 w.sent),.v (.isl 3 (w.tr.map ePr))]],.live 0 9 [[.v .zsl,.v (.int .i64 0),.v (.bool false),.v .zsl,.v .zsl,.v .zsl,.v (.int .i64 0),.v (.int .i64 0),.v .zsl]],.live 0 9 [[.sl (B.length+3) w.sv.length 0 w.sv.length,.v (.int .i64 w.net.now),.v (.bool w.net.fifo),.v (.isl 4 (w.net.l.map eMs)),.v (.isl 1 (w.net.tm.map eI)),.v (.isl 2 (w.net.fates.map eFt)),.v (.int .i64 w.now),.v (.int .i64 w.sent),.sl (B.length+6) i 0 i]],.live w.sv.length 6 SV,.live 0 6 [[.v (.str (w.sv.getD p dfSv).name),.v (.isl 3 ((w.sv.getD p dfSv).code.map eIn)),.v (.int .i64 (w.sv.getD p dfSv).pc),.sl (B.length+5) 1 0 (w.sv.getD p dfSv).vars.length,.v (.int .i64 (w.sv.getD p dfSv).off),.v (.int .i64 (w.sv.getD p dfSv).rate)]],.live 1 1 (vs ((w.sv.getD p dfSv).vars.map eI)),.live i 3 (cvP w p (B.length+8) i),.live 0 3 [[.v (.str (w.tr.getD p dfPr).name),.v (.isl 2 ((w.tr.getD p dfPr).vars.map eVr)),.sl (B.length+8) (w.tr.getD p dfPr).evs.length 0 (w.tr.getD p dfPr).evs.length]],.live (w.tr.getD p dfPr).evs.length 5 (vs ((w.tr.getD p dfPr).evs.map eEv)),.live 0 3 [[.v (.str x.name),.v (.isl 2 (x.vars.map eVr)),.v .zsl]]]) (i:=9) (k:=0) (j:=2) (sz:=5) rfl rfl rfl) ?_
   intro g3 hE3 XY NO j hj
   by_cases VY:j<x.evs.length
   ·have CK:=VK VY
    have hja:=hna x.evs[j] (List.getElem_mem VY)
    have cA:=fun b l=>DJ x.evs[j].asg hja b l
    have vl:((x.evs.take j).map eEv).length=j:=by rw[List.length_map,List.length_take];omega
    have vt:List.take j (vs ((x.evs.take j).map eEv))=vs ((x.evs.take j).map eEv):=List.take_of_length_le (by rw[XC,vl];omega)
    have vt2:List.take j ((x.evs.take j).map eEv)=(x.evs.take j).map eEv:=List.take_of_length_le (by rw[vl];omega)
    have DX:(x.evs.take j).map eEv++[[.int .i64 x.evs[j].kind,.int .i64 x.evs[j].peer,.int .i64 x.evs[j].msg,.int .i64 x.evs[j].time,.isl 2 (x.evs[j].asg.map ZM)]]=(x.evs.take (j+1)).map eEv:=by rw[List.take_add_one,List.getElem?_eq_getElem VY,List.map_append];rfl
    simp (disch:=first|decide|omega) only[hA,KB,IG,NO,CK,vl,vt,vt2,YA,cellsOf,List.length_map,List.replicate_succ,List.replicate_zero,reduceCtorEq,iC,go_sem]
    refine QA.nxt (cA _ _) ?_
    simp (disch:=first|decide|omega) only[hA,KB,IG,NO,CK,vl,vt,vt2,YA,cellsOf,List.length_map,List.replicate_succ,List.replicate_zero,reduceCtorEq,iC,go_sem]
    rw[DX]
    refine⟨j+1,VY,by simp only;omega,?_⟩
    have h1:=p9 (B.length+11) oM
    have h0:=lt0 (B.length+11) oM
    exact qA.kround (p:=RL) (k:=10) (junk:=[_,_]) (by ((repeat refine (gA rfl).trans ?_);exact XY)) (by ((try simp (disch:=decide) only[hA,KB,IG,NO,go_sem])<;>exact kH)) rfl hE3 (by simp) kV hR (by simp (disch:=omega) only[eq_true h0,eq_true h1,lts.down,Nat.reduceLT,Nat.reduceAdd])
   obtain rfl:j=x.evs.length:=by omega
   rw[hxe]
   simp (disch:=first|decide|omega) only[hA,KB,IG,NO,tl,tk,YA,cellsOf,List.length_map,List.replicate_succ,List.replicate_zero,reduceCtorEq,iC,go_sem]
   refine⟨i+1,LA,by simp only;omega,?_⟩
   simp only
   rw[c2,←sn]
   have h0:=lt1 (B.length+9) oM
   rw[←sn]at h0
   have h1:=p9 (B.length+9) oM
   refine qA.kroundG (i:=10) (ver:=x.evs.length) (sz:=5) (rows:=x.evs.map eEv) (junk:=[.live 0 3 [[.v (.str x.name),.v (.isl 2 (x.vars.map eVr)),.v (.isl 5 (x.evs.map eEv))]],.dead x.evs.length,.live 0 3 [[.v (.str x.name),.v (.isl 2 (x.vars.map eVr)),.v (.isl 5 (x.evs.map eEv))]]]) (p:=eP) (k:=6) rfl (by ((repeat refine (gA rfl).trans ?_);refine (wJ NO (XK rfl)).trans ?_;(repeat refine (gA rfl).trans ?_);exact bN)) (by ((try simp (disch:=decide) only[hA,KB,IG,NO,go_sem])<;>exact kH)) ?_ CM (by simp) (by simp) kV hR (by simp (disch:=omega) only[eq_true h0,eq_true h1,lts.down,Nat.reduceLT,Nat.reduceAdd]) kV
   have hz:∀(a c d:Nat),a≠B.length+10→dF (B.length+10) x.evs.length 5 (x.evs.map eEv) (.sl a c 0 d)=.sl a c 0 d:=fun a c d h=>by simp[dF,h]
   have hy:dF (B.length+10) x.evs.length 5 (x.evs.map eEv) (.sl (B.length+10) x.evs.length 0 x.evs.length)=.v (.isl 5 (x.evs.map eEv)):=OQ (by rw[List.length_map])
   have hv:∀y:IV,dF (B.length+10) x.evs.length 5 (x.evs.map eEv) (.v y)=.v y:=fun _=>rfl
   have hSf:=KL (ver:=x.evs.length) (sz:=5) (rows:=x.evs.map eEv) h1 (show B.length+9≤B.length+10 by omega)
   have hPf:=s4 (ver:=x.evs.length) (sz:=5) (rows:=x.evs.map eEv) (v:=i+1) (z:=3) (r:=[.v (.str x.name),.v (.isl 2 (x.vars.map eVr)),.sl (B.length+10) x.evs.length 0 x.evs.length]) (lt0 (B.length+9) oM) (show B.length+9≤B.length+10 by omega)
   have hV:∀r:List (List IV),(vs r).map (fun y=>y.map (dF (B.length+10) x.evs.length 5 (x.evs.map eEv)))=vs r:=fun r=>KL (m:=0) (qK.2 trivial) (Nat.zero_le _)
   have ZCI:=hPf
   unfold WF at hPf
   simp only[List.map_cons,List.map_nil,hz,hy,hv]at ZCI
   simp only[List.cons_append,List.nil_append,List.set_cons_succ,List.set_cons_zero,List.map_cons,List.map_nil,ZCI]
   unfold WF
   simp (disch:=omega) only[List.map_cons,List.map_nil,hz,hy,hv,hSf,hV]
 obtain rfl:i=w.tr.length:=by omega
 have c2:cp2 B w p w.tr.length=[.live 0 3 [[.v (.str (w.tr.getD p dfPr).name),.v (.isl 2 ((w.tr.getD p dfPr).vars.map eVr)),.sl (B.length+8) (w.tr.getD p dfPr).evs.length 0 (w.tr.getD p dfPr).evs.length]],.live (w.tr.getD p dfPr).evs.length 5 (vs ((w.tr.getD p dfPr).evs.map eEv))]:=if_pos oM
 have tP:cvP w p (B.length+8) w.tr.length=pN w p (B.length+8):=List.take_of_length_le (by rw[yH];omega)
 rw[c2,tP]
 simp (disch:=first|decide|omega) only[hA,KB,IG,YA,cellsOf,List.length_map,go_sem]
 refine jJ (.inr rfl) (xs:=[.agg [.sl (B.length+3) w.sv.length 0 w.sv.length,.v (.int .i64 w.net.now),.v (.bool w.net.fifo),.v (.isl 4 (w.net.l.map eMs)),.v (.isl 1 (w.net.tm.map eI)),.v (.isl 2 (w.net.fates.map eFt)),.v (.int .i64 w.now),.v (.int .i64 w.sent),.sl (B.length+6) w.tr.length 0 w.tr.length]]) (y:=.agg (mvC w B.length)) (l':=ZBn w p B.length) (by simp (disch:=first|decide|omega) only[JA,zA,hA,KB,IG,go_sem]) (m:=4) rfl (fun j=>match j with|0=>3|1=>5|2=>6|_=>8) (fun a c ha hc h=>?_) (fun j r' h=>?_) ?_ hR hB ⟨by rw[hB,List.length_append],rfl,by rw[hB,List.length_append]⟩
 ·obtain rfl|rfl|rfl|rfl:a=0∨a=1∨a=2∨a=3:=oM<;>(obtain rfl|rfl|rfl|rfl:c=0∨c=1∨c=2∨c=3:=oM)<;>first|rfl|(simp at h)
 ·match j,h with
  |0,h =>
    cases h
    refine⟨.live w.sv.length 6 SV,rfl,rfl,rfl,by rw[←I2,sF,sF],fun k r r' h1 h2=>?_⟩
    rw[←I2]at h1
    have hk:k<w.sv.length:=by
     have:=(List.getElem?_eq_some_iff.1 h1).1
     rwa [sF]at this
    by_cases D0:p=k
    ·subst D0
     rw[lM hp]at h1 h2
     cases h1;cases h2
     exact .cons (.v _) (.cons (.v _) (.cons (.v _) (.cons (Rn.slE (j:=1) rfl oM) (.cons (.v _) (.cons (.v _) .nil)))))
    ·rw[V1 hk D0]at h1 h2
     cases h1;cases h2
     exact RnL.plain
  |1,h=>cases h;exact⟨_,rfl,RnR.plain⟩
  |2,h =>
    cases h
    refine⟨.live w.tr.length 3 (pN w p (B.length+8)),rfl,rfl,rfl,by rw[yH,yH],fun k r r' h1 h2=>?_⟩
    have hk:k<w.tr.length:=by
     have:=(List.getElem?_eq_some_iff.1 h1).1
     rwa [yH]at this
    by_cases D0:p=k
    ·subst D0
     rw[OU vM]at h1 h2
     cases h1;cases h2
     exact .cons (.v _) (.cons (.v _) (.cons (Rn.slE (j:=3) rfl oM) .nil))
    ·rw[U1 hk D0]at h1 h2
     cases h1;cases h2
     exact RnL.plain
  |3,h=>cases h;exact⟨_,rfl,RnR.plain⟩
  |j+4,h=>cases h
 ·rw[dU]
  exact Rn.aggL (.cons (Rn.slE (j:=0) rfl oM) (.cons (.v _) (.cons (.v _) (.cons (.v _) (.cons (.v _) (.cons (.v _) (.cons (.v _) (.cons (.v _) (.cons (Rn.slE (j:=2) rfl oM) .nil)))))))))
def a_wStep:AFunc:=({c:=_}:CF Tryz.prog 34).c
theorem aZ:dA Tryz.prog 34=some a_wStep:=by kernel_rfl
def a_wTick:AFunc:=({c:=_}:CF Tryz.prog 26).c
theorem bZ:dA Tryz.prog 26=some a_wTick:=by kernel_rfl

theorem QA.split {P:Program} {f:Nat} {args:List AV} {b l X1 X2:List Row} {x:AV} (hl:X1.length=b.length) (h:QA P f args (b++l) [] (fun r b' l'=>r=x∧b'=X1++X2∧l'=[])):QA P f args b l (fun r b' l'=>r=x∧b'=X1∧l'=X2):=by
 refine⟨h.1,fun F L w us s hr=>Calls.mono (h.2 F L w us (by rw[List.append_nil];exact s) hr) ?_⟩
 rintro en w' ⟨v,x',b',l',F',L',h1,h2,h3,h4,h5,rfl,rfl,rfl⟩
 rw[List.append_nil]at h3
 rw[List.append_nil,List.append_nil]at h4
 exact⟨v,_,X1,X2,F',L',h1,h2,h3,h4,hl,rfl,rfl,rfl⟩
theorem ZFA {B P:List Row} {w:Wd} {p q:Nat} (hq:q=B.length+P.length):∃f n,q+5≤n∧∀w':Wd,B++(P++[uT w' p q,JS w' p,jV w' p q,xT w' p,qV w' q])=kB n (mvF f w' p q):=by
 obtain⟨n0,f,hn,hBf,_⟩:=ZDr (B++P)
 rw[List.length_append,←hq]at hn
 subst hn
 refine⟨f,n0+5,Nat.le_refl _,fun w'=>?_⟩
 rw[←List.append_assoc,hBf]
 apply List.ext_getElem?
 intro j
 by_cases hj:j<n0
 ·rw[List.getElem?_append_left (by rw[JB];exact hj),RG hj,RG oM,US (.inl hj)]
 ·rw[List.getElem?_append_right (by rw[JB];omega),JB]
  by_cases hj5:j<n0+5
  ·rw[RG hj5]
   obtain rfl|rfl|rfl|rfl|rfl:j=n0∨j=n0+1∨j=n0+2∨j=n0+3∨j=n0+4:=by omega
   ·rw[Nat.sub_self,zS];rfl
   ·rw[Nat.add_sub_cancel_left,iT];rfl
   ·rw[Nat.add_sub_cancel_left,yV];rfl
   ·rw[Nat.add_sub_cancel_left,vV];rfl
   ·rw[Nat.add_sub_cancel_left,KS];rfl
  ·rw[List.getElem?_eq_none (by simp;omega),List.getElem?_eq_none (by rw[JB];omega)]
theorem ZAO (w:Wd) (q:Nat):mvC w q=[.sl q w.sv.length 0 w.sv.length,.v (.int .i64 w.net.now),.v (.bool w.net.fifo),.v (.isl 4 (w.net.l.map eMs)),.v (.isl 1 (w.net.tm.map eI)),.v (.isl 2 (w.net.fates.map eFt)),.v (.int .i64 w.now),.v (.int .i64 w.sent),.sl (q+2) w.tr.length 0 w.tr.length]:=rfl
theorem n6 (w:Wd) (p q:Nat):ZBn w p q=[uT w p q,JS w p,jV w p q,xT w p]:=rfl
theorem AC (w:Wd):(eWd w).map AV.v=[.v (.isl 6 (w.sv.map eSv)),.v (.int .i64 w.net.now),.v (.bool w.net.fifo),.v (.isl 4 (w.net.l.map eMs)),.v (.isl 1 (w.net.tm.map eI)),.v (.isl 2 (w.net.fates.map eFt)),.v (.int .i64 w.now),.v (.int .i64 w.sent),.v (.isl 3 (w.tr.map ePr))]:=rfl
theorem EF {n:Nat} {l:List Row} (e:Int):Dv n l (.tup [.agg [.v .zsl,.v (.int .i64 0),.v (.bool false),.v .zsl,.v .zsl,.v .zsl,.v (.int .i64 0),.v (.int .i64 0),.v .zsl],.v (.int .i64 e)]) (.tup [.agg ((eWd wd0).map .v),.v (.int .i64 e)]):=
 Dv.tupL (.cons (Dv.aggL (.cons (.z 6) (.cons (.v _) (.cons (.v _) (.cons (.z 4) (.cons (.z 1) (.cons (.z 2) (.cons (.v _) (.cons (.v _) (.cons (.z 3) .nil)))))))))) (.cons (.v _) .nil))
noncomputable def bM (w:Wd) (p:Int):Wd×Int:=if wdB w=true then (if p<0∨(w.sv.length:Int)≤p then (wd0,2) else if uG w p.toNat=true then stW w p.toNat else (wd0,6)) else (wd0,1)
theorem ZBD {w:Wd} {p:Nat} (h:(stW w p).2≠0):(stW w p).1=wd0:=by
 unfold stW stI at h⊢
 split at h<;>rename_i h1
 ·exact absurd rfl h
 rw[if_neg h1]
 split at h<;>rename_i h2
 ·rw[if_pos h2]
  split at h<;>rename_i h3
  ·exact absurd rfl h
  ·rw[if_neg h3]
 rw[if_neg h2]
 split at h<;>rename_i h4
 ·split at h<;>exact absurd rfl h
 rw[if_neg h4]
 split at h<;>rename_i h5
 ·rw[if_pos h5]
  split at h<;>rename_i h6
  ·exact absurd rfl h
  ·rw[if_neg h6]
 rw[if_neg h5]
 split at h<;>exact absurd rfl h
theorem IJ (w:Wd) (tR:SvsS w.sv) (hS:Small w.tr) (hN:NwS w.net) (h0:0<w.sv.length) (h1:0<w.tr.length) (b l:List Row) :
  QA Tryz.prog 59 [.agg ((eWd w).map .v)] b l (fun r b' l'=>r=.agg ((eWd w).map .v)∧b'=b∧l'=l):=
 QA.deep (N:=ZBn w 0 (b.length+l.length)) (by have:=ZB4 (n:=b.length+l.length) (i:=0) (l:=ZBn w 0 (b.length+l.length)) h0 h1 rfl rfl rfl rfl;exact this) (cO w tR hS hN 0 h0 h1 b l)
theorem xY (w:Wd) (hS:Sm w.tr) (hN:Nm w.tr) (tR:SvsS w.sv) (O8:NwS w.net) (p:Int) (b l:List Row):QA Tryz.prog 34 [.agg ((eWd w).map .v),.v (.int .i64 p)] b l (fun r b' l'=>r=.tup [.agg ((eWd (bM w p).1).map .v),.v (.int .i64 (bM w p).2)]∧b'=b∧l'=l):=by
 refine VA aZ rfl (by decide) ?_
 intro B g hB hR hE hA;simp only[xA]at hA
 have cV:=fun b l=>QG w hS hN tR O8 b l
 rw[AC]at hA cV
 have eW:=tR.len
 simp (disch:=first|decide|omega) only[a_wStep,hA,YA,cellsOf,go_sem]
 refine QA.nxt (cV _ _) ?_
 cases t1:wdB w
 ·have hr:bM w p=(wd0,1):=by unfold bM;rw[if_neg (by rw[t1];simp)]
  rw[hr]
  simp (disch:=first|decide|omega) only[hA,YA,cellsOf,go_sem]
  exact nB (.inr rfl) (xs:=[.agg [.v .zsl,.v (.int .i64 0),.v (.bool false),.v .zsl,.v .zsl,.v .zsl,.v (.int .i64 0),.v (.int .i64 0),.v .zsl],.v (.int .i64 1)]) (by simp (disch:=first|decide|omega) only[JA,zA,hA,go_sem]) (EF 1) hR hB ⟨rfl,rfl,rfl⟩
 have hw:=WdV.of t1
 by_cases h1:p<0
 ·have d1:decide (p<0)=true:=decide_eq_true h1
  have hr:bM w p=(wd0,2):=by unfold bM;rw[if_pos t1,if_pos (.inl h1)]
  rw[hr]
  simp (disch:=first|decide|omega) only[hA,d1,YA,cellsOf,go_sem]
  exact nB (.inr rfl) (xs:=[.agg [.v .zsl,.v (.int .i64 0),.v (.bool false),.v .zsl,.v .zsl,.v .zsl,.v (.int .i64 0),.v (.int .i64 0),.v .zsl],.v (.int .i64 2)]) (by simp (disch:=first|decide|omega) only[JA,zA,hA,go_sem]) (EF 2) hR hB ⟨rfl,rfl,rfl⟩
 have d1:decide (p<0)=false:=decide_eq_false h1
 obtain⟨k,rfl⟩:∃k:Nat,p=k:=⟨p.toNat,by omega⟩
 by_cases h2:w.sv.length≤k
 ·have d2:decide ((k:Int)≥(w.sv.length:Int))=true:=decide_eq_true oM
  have d2':decide ((w.sv.length:Int)≤(k:Int))=true:=d2
  have hr:bM w k=(wd0,2):=by unfold bM;rw[if_pos t1,if_pos (.inr oM)]
  rw[hr]
  simp (disch:=first|decide|omega) only[hA,d1,d2,d2',YA,cellsOf,List.length_map,go_sem]
  exact nB (.inr rfl) (xs:=[.agg [.v .zsl,.v (.int .i64 0),.v (.bool false),.v .zsl,.v .zsl,.v .zsl,.v (.int .i64 0),.v (.int .i64 0),.v .zsl],.v (.int .i64 2)]) (by simp (disch:=first|decide|omega) only[JA,zA,hA,go_sem]) (EF 2) hR hB ⟨rfl,rfl,rfl⟩
 have d2:decide ((k:Int)≥(w.sv.length:Int))=false:=decide_eq_false oM
 have d2':decide ((w.sv.length:Int)≤(k:Int))=false:=d2
 have qP:k<w.sv.length:=by omega
 have hkt:k<w.tr.length:=by rw[hw.len];exact qP
 have cE:=fun b l=>QQ w tR hw.small hw.sv hw.len k qP b l
 rw[AC]at cE
 simp (disch:=first|decide|omega) only[hA,d1,d2,d2',YA,cellsOf,List.length_map,go_sem]
 refine QA.nxt (cE _ _) ?_
 cases t2:uG w k
 ·have hr:bM w k=(wd0,6):=by unfold bM;rw[if_pos t1,if_neg oM,Int.toNat_natCast,if_neg (by rw[t2];simp)]
  rw[hr]
  simp (disch:=first|decide|omega) only[hA,YA,cellsOf,go_sem]
  exact nB (.inr rfl) (xs:=[.agg [.v .zsl,.v (.int .i64 0),.v (.bool false),.v .zsl,.v .zsl,.v .zsl,.v (.int .i64 0),.v (.int .i64 0),.v .zsl],.v (.int .i64 6)]) (by simp (disch:=first|decide|omega) only[JA,zA,hA,go_sem]) (EF 6) hR hB ⟨rfl,rfl,rfl⟩
 have hr:bM w k=stW w k:=by unfold bM;rw[if_pos t1,if_neg oM,Int.toNat_natCast,if_pos t2]
 rw[hr]
 have cC:=fun b l=>cO w tR hw.small O8 k qP hkt b l
 rw[AC]at cC
 simp only[ZAO,n6]at cC
 simp (disch:=first|decide|omega) only[hA,YA,cellsOf,List.length_map,go_sem]
 refine QA.nxt (cC _ _) ?_
 simp (disch:=first|decide|omega) only[hA,YA,cellsOf,List.length_map,go_sem]
 obtain⟨f,n,hn,mF⟩:=ZFA (B:=B) (P:=[.live 0 9 [[.v (.isl 6 (w.sv.map eSv)),.v (.int .i64 w.net.now),.v (.bool w.net.fifo),.v (.isl 4 (w.net.l.map eMs)),.v (.isl 1 (w.net.tm.map eI)),.v (.isl 2 (w.net.fates.map eFt)),.v (.int .i64 w.now),.v (.int .i64 w.sent),.v (.isl 3 (w.tr.map ePr))]],.live 0 9 [[.v .zsl,.v (.int .i64 0),.v (.bool false),.v .zsl,.v .zsl,.v .zsl,.v (.int .i64 0),.v (.int .i64 0),.v .zsl]]]) (w:=w) (p:=k) (q:=B.length+2) rfl
 have cS:=QA.split (l:=[.live 0 9 [[.v (.isl 6 (w.sv.map eSv)),.v (.int .i64 w.net.now),.v (.bool w.net.fifo),.v (.isl 4 (w.net.l.map eMs)),.v (.isl 1 (w.net.tm.map eI)),.v (.isl 2 (w.net.fates.map eFt)),.v (.int .i64 w.now),.v (.int .i64 w.sent),.v (.isl 3 (w.tr.map ePr))]],.live 0 9 [[.v .zsl,.v (.int .i64 0),.v (.bool false),.v .zsl,.v .zsl,.v .zsl,.v (.int .i64 0),.v (.int .i64 0),.v .zsl]]]++[uT w k (B.length+2),JS w k,jV w k (B.length+2),xT w k,qV w (B.length+2)]) (b:=B) rfl (by
  have:=p6 f w k (B.length+2) n hn hw qP t2 (B++([.live 0 9 [[.v (.isl 6 (w.sv.map eSv)),.v (.int .i64 w.net.now),.v (.bool w.net.fifo),.v (.isl 4 (w.net.l.map eMs)),.v (.isl 1 (w.net.tm.map eI)),.v (.isl 2 (w.net.fates.map eFt)),.v (.int .i64 w.now),.v (.int .i64 w.sent),.v (.isl 3 (w.tr.map ePr))]],.live 0 9 [[.v .zsl,.v (.int .i64 0),.v (.bool false),.v .zsl,.v .zsl,.v .zsl,.v (.int .i64 0),.v (.int .i64 0),.v .zsl]]]++[uT w k (B.length+2),JS w k,jV w k (B.length+2),xT w k,qV w (B.length+2)])) [] (mF w)
  rw[←mF]at this
  exact this)
 refine QA.nxt cS ?_
 by_cases he:(stW w k).2=0
 ·have e0:((stW w k).2 != 0)=false:=by rw[he];rfl
  have hM:stM w k=(stW w k).1:=by unfold stM;rw[if_pos he]
  obtain⟨s',ev,n',sn',h3,h4⟩:=ZDm hw qP t2 he
  have TO:k<(stW w k).1.sv.length:=by rw[h3];show k<(w.sv.set k s').length;rw[List.length_set];exact qP
  have nT:k<(stW w k).1.tr.length:=by rw[h3,h4.tr,lH];exact hkt
  obtain⟨W,hW⟩:∃W,(stW w k).1=W:=⟨_,rfl⟩
  rw[hM,hW]
  rw[hW]at TO nT
  rw[he]
  have m4:qV W (B.length+2)=.live 0 9 [[.sl (B.length+2) W.sv.length 0 W.sv.length,.v (.int .i64 W.net.now),.v (.bool W.net.fifo),.v (.isl 4 (W.net.l.map eMs)),.v (.isl 1 (W.net.tm.map eI)),.v (.isl 2 (W.net.fates.map eFt)),.v (.int .i64 W.now),.v (.int .i64 W.sent),.sl (B.length+4) W.tr.length 0 W.tr.length]]:=rfl
  have n0:((0:Int) != 0)=false:=rfl
  simp (disch:=first|decide|omega) only[hA,e0,n0,m4,YA,cellsOf,List.length_map,go_sem]
  exact nB (.inr rfl) (xs:=[.agg [.sl (B.length+2) W.sv.length 0 W.sv.length,.v (.int .i64 W.net.now),.v (.bool W.net.fifo),.v (.isl 4 (W.net.l.map eMs)),.v (.isl 1 (W.net.tm.map eI)),.v (.isl 2 (W.net.fates.map eFt)),.v (.int .i64 W.now),.v (.int .i64 W.sent),.sl (B.length+4) W.tr.length 0 W.tr.length],.v (.int .i64 0)]) (by simp (disch:=first|decide|omega) only[JA,zA,hA,go_sem]) (Dv.tupL (.cons (ZB4 (i:=2) TO nT rfl rfl rfl rfl) (.cons (.v _) .nil))) hR hB ⟨rfl,rfl,rfl⟩
 ·have e0:((stW w k).2 != 0)=true:=bne_iff_ne.2 he
  rw[ZBD he]
  obtain⟨er,her⟩:∃er,(stW w k).2=er:=⟨_,rfl⟩
  rw[her]at e0⊢
  obtain⟨W,hW⟩:∃W,stM w k=W:=⟨_,rfl⟩
  rw[hW]
  simp (disch:=first|decide|omega) only[hA,e0,YA,cellsOf,List.length_map,go_sem]
  exact nB (.inr rfl) (xs:=[.agg [.v .zsl,.v (.int .i64 0),.v (.bool false),.v .zsl,.v .zsl,.v .zsl,.v (.int .i64 0),.v (.int .i64 0),.v .zsl],.v (.int .i64 er)]) (by simp (disch:=first|decide|omega) only[JA,zA,hA,go_sem]) (EF er) hR hB ⟨rfl,rfl,rfl⟩
noncomputable def eM (w:Wd) (k:Int):Wd×Int:=if wdB w=true then (if (0≤k∧k≤1000000)∧w.now+k≤1000000000 then (tkW w k,0) else (wd0,2)) else (wd0,1)
theorem gY (w:Wd) (hS:Sm w.tr) (hN:Nm w.tr) (tR:SvsS w.sv) (O8:NwS w.net) (k:Int) (b l:List Row):QA Tryz.prog 26 [.agg ((eWd w).map .v),.v (.int .i64 k)] b l (fun r b' l'=>r=.tup [.agg ((eWd (eM w k).1).map .v),.v (.int .i64 (eM w k).2)]∧b'=b∧l'=l):=by
 refine VA bZ rfl (by decide) ?_
 intro B g hB hR hE hA;simp only[xA]at hA
 have cV:=fun b l=>QG w hS hN tR O8 b l
 rw[AC]at hA cV
 have eW:=tR.len
 simp (disch:=first|decide|omega) only[a_wTick,hA,YA,cellsOf,go_sem]
 refine QA.nxt (cV _ _) ?_
 cases t1:wdB w
 ·have hr:eM w k=(wd0,1):=by unfold eM;rw[if_neg (by rw[t1];simp)]
  rw[hr]
  simp (disch:=first|decide|omega) only[hA,YA,cellsOf,go_sem]
  exact nB (.inr rfl) (xs:=[.agg [.v .zsl,.v (.int .i64 0),.v (.bool false),.v .zsl,.v .zsl,.v .zsl,.v (.int .i64 0),.v (.int .i64 0),.v .zsl],.v (.int .i64 1)]) (by simp (disch:=first|decide|omega) only[JA,zA,hA,go_sem]) (EF 1) hR hB ⟨rfl,rfl,rfl⟩
 have hw:=WdV.of t1
 have ZHL:=hw.now
 simp (disch:=first|decide|omega) only[hA,YA,cellsOf,go_sem]
 refine QA.nxt (qD _ _ _ _ _) ?_
 cases t2:inZ k 0 1000000
 ·have hr:eM w k=(wd0,2):=by
   unfold inZ at t2
   have:=of_decide_eq_false t2
   unfold eM;rw[if_pos t1,if_neg (fun h=>this h.1)]
  rw[hr]
  simp (disch:=first|decide|omega) only[hA,YA,cellsOf,go_sem]
  exact nB (.inr rfl) (xs:=[.agg [.v .zsl,.v (.int .i64 0),.v (.bool false),.v .zsl,.v .zsl,.v .zsl,.v (.int .i64 0),.v (.int .i64 0),.v .zsl],.v (.int .i64 2)]) (by simp (disch:=first|decide|omega) only[JA,zA,hA,go_sem]) (EF 2) hR hB ⟨rfl,rfl,rfl⟩
 unfold inZ at t2
 have h2:=of_decide_eq_true t2
 have hwr:IntKind.i64.wrap (w.now+k)=w.now+k:=VB oM oM
 by_cases h3:w.now+k≤1000000000
 case neg =>
  have d3:decide (w.now+k>1000000000)=true:=decide_eq_true oM
  have d3':decide (1000000000<w.now+k)=true:=d3
  have hr:eM w k=(wd0,2):=by unfold eM;rw[if_pos t1,if_neg (fun h=>h3 h.2)]
  rw[hr]
  simp (disch:=first|decide|omega) only[hA,hwr,d3,d3',YA,cellsOf,go_sem]
  exact nB (.inr rfl) (xs:=[.agg [.v .zsl,.v (.int .i64 0),.v (.bool false),.v .zsl,.v .zsl,.v .zsl,.v (.int .i64 0),.v (.int .i64 0),.v .zsl],.v (.int .i64 2)]) (by simp (disch:=first|decide|omega) only[JA,zA,hA,go_sem]) (EF 2) hR hB ⟨rfl,rfl,rfl⟩
 have d3:decide (w.now+k>1000000000)=false:=decide_eq_false oM
 have d3':decide (1000000000<w.now+k)=false:=d3
 have hr:eM w k=(tkW w k,0):=by unfold eM;rw[if_pos t1,if_pos ⟨h2,h3⟩]
 rw[hr]
 have cC:=fun b l=>IJ w tR hw.small O8 (by have:=(JO hw.sv).1;omega) hw.tr.lo b l
 rw[AC]at cC
 have cG:=fun b l=>ZAM w.net (w.now+k) b l
 have hgo:goE w.net (w.now+k)=0:=by
  unfold goE;rw[if_pos (VG.2 hw.net),if_neg oM,if_neg (by have:=hw.nnow;omega)]
 have hgn:goN w.net (w.now+k)={w.net with now:=w.now+k}:=by unfold goN;rw[if_pos hgo]
 rw[hgo,hgn]at cG
 simp only[eNw,nwA,List.map_cons,List.map_nil]at cG
 have n0:((0:Int) != 0)=false:=rfl
 simp (disch:=first|decide|omega) only[hA,hwr,d3,d3',YA,cellsOf,go_sem]
 refine QA.nxt (cC _ _) ?_
 simp (disch:=first|decide|omega) only[hA,hwr,YA,cellsOf,go_sem]
 refine QA.nxt (cG _ _) ?_
 simp (disch:=first|decide|omega) only[hA,n0,YA,cellsOf,go_sem]
 rw[AC]
 exact ZA (xs:=[.agg [.v (.isl 6 (w.sv.map eSv)),.v (.int .i64 (w.now+k)),.v (.bool w.net.fifo),.v (.isl 4 (w.net.l.map eMs)),.v (.isl 1 (w.net.tm.map eI)),.v (.isl 2 (w.net.fates.map eFt)),.v (.int .i64 (w.now+k)),.v (.int .i64 w.sent),.v (.isl 3 (w.tr.map ePr))],.v (.int .i64 0)]) (.inr rfl) (by simp (disch:=first|decide|omega) only[JA,zA,go_sem,hA]) kO hR hB ⟨rfl,rfl,rfl⟩
def a_rNewW:AFunc:=({c:=_}:CF Tryz.prog 23).c
theorem NZ:dA Tryz.prog 23=some a_rNewW:=by kernel_rfl
def QX:List (Nat×Nat):=[(6,6),(12,29)]
def a_wNewW:AFunc:=({c:=_}:CF Tryz.prog 14).c
theorem GZ:dA Tryz.prog 14=some a_wNewW:=by kernel_rfl
def EW:List (Nat×Nat):=[(8,8),(37,54)]
def a_wNewW1:AFunc:=({c:=_}:CF Tryz.prog 57).c
theorem vW:dA Tryz.prog 57=some a_wNewW1:=by kernel_rfl

def npr (s:Sv):Pr:=⟨s.name,zK s.vars,[]⟩
def RO (l:List Sv) (n:Nw):Wd:=⟨l,n,0,0,l.map npr⟩
theorem E3 {l:List Sv} {i:Nat} (h:i<l.length):(l.map npr).getD i dfPr=npr l[i]:=by
 rw[List.getD_eq_getElem?_getD,List.getElem?_map,List.getElem?_eq_getElem h];rfl
theorem ZAI {l:List Sv} {i:Nat} (h:i<l.length):((l.take i).map npr).map ePr++[[.str l[i].name,.isl 2 ((zK l[i].vars).map eVr),.isl 5 []]]=((l.take (i+1)).map npr).map ePr:=by
 rw[List.take_add_one,List.getElem?_eq_getElem h,List.map_append,List.map_append];rfl
theorem bY (L:List Sv) (hL:L.length≤1000000) (h8:∀p (h:p<L.length),L[p].vars.length≤8) (h0:0<L.length) (n:Nw) (b l:List Row):QA Tryz.prog 23 [.v (.isl 6 (L.map eSv)),.agg ((eNw n).map .v)] b l (fun r b' l'=>r=.agg ((eWd (RO L n)).map .v)∧b'=b∧l'=l):=by
 refine VA NZ rfl (by decide) ?_
 intro B g hB hR hE hA;simp only[xA]at hA
 have heN:(eNw n).map AV.v=[.v (.int .i64 n.now),.v (.bool n.fifo),.v (.isl 4 (n.l.map eMs)),.v (.isl 1 (n.tm.map eI)),.v (.isl 2 (n.fates.map eFt))]:=rfl
 rw[heN]at hA
 obtain⟨rows,hr⟩:∃rows,L.map eSv=rows:=⟨_,rfl⟩
 have pS:rows.length=L.length:=by rw[←hr,List.length_map]
 have mS:∀i (h:i<L.length),rows[i]? = some [.str L[i].name,.isl 3 (L[i].code.map eIn),.int .i64 L[i].pc,.isl 1 (L[i].vars.map eI),.int .i64 L[i].off,.int .i64 L[i].rate]:=fun i h=>by rw[←hr];exact MH h
 rw[hr]at hA
 simp (disch:=first|decide|omega) only[a_rNewW,hA,pS,YA,cellsOf,List.length_map,iC,go_sem]
 refine tA (ι:=Nat) QX (fun i=>[(6,.v (.int .i64 i))]) 4 (fun i=>[.live 0 5 [[.v (.int .i64 n.now),.v (.bool n.fifo),.v (.isl 4 (n.l.map eMs)),.v (.isl 1 (n.tm.map eI)),.v (.isl 2 (n.fates.map eFt))]],.live 0 9 [[.v .zsl,.v (.int .i64 0),.v (.bool false),.v .zsl,.v .zsl,.v .zsl,.v (.int .i64 0),.v (.int .i64 0),.v .zsl]],.live 1 6 (vs rows),.live 0 9 [[.sl (B.length+2) 1 0 L.length,.v (.int .i64 n.now),.v (.bool n.fifo),.v (.isl 4 (n.l.map eMs)),.v (.isl 1 (n.tm.map eI)),.v (.isl 2 (n.fates.map eFt)),.v (.int .i64 0),.v (.int .i64 0),.sl (B.length+4) i 0 i]],.live i 3 (vs (((L.take i).map npr).map ePr))])
  (fun i=>i≤L.length) (fun i=>L.length-i) 0 (Nat.zero_le _) (by (repeat (first|exact hE.mono oM|refine KLt.up ?_ kL))) (by ((try simp (disch:=decide) only[hA,go_sem])<;>exact kH)) (fun e=>qA.nilcell (e:=e) (b:=B) (l:=[.live 0 5 [[.v (.int .i64 n.now),.v (.bool n.fifo),.v (.isl 4 (n.l.map eMs)),.v (.isl 1 (n.tm.map eI)),.v (.isl 2 (n.fates.map eFt))]],.live 0 9 [[.v .zsl,.v (.int .i64 0),.v (.bool false),.v .zsl,.v .zsl,.v .zsl,.v (.int .i64 0),.v (.int .i64 0),.v .zsl]],.live 1 6 (vs rows),.live 0 9 [[.sl (B.length+2) 1 0 L.length,.v (.int .i64 n.now),.v (.bool n.fifo),.v (.isl 4 (n.l.map eMs)),.v (.isl 1 (n.tm.map eI)),.v (.isl 2 (n.fates.map eFt)),.v (.int .i64 0),.v (.int .i64 0),.v .zsl]]]) (i:=3) (k:=0) (j:=8) (sz:=3) rfl rfl rfl) ?_
 intro g1 mH wD KB i hi
 have vl:(((L.take i).map npr).map ePr).length=i:=by rw[List.length_map,List.length_map,List.length_take];omega
 have vt:List.take i (((L.take i).map npr).map ePr)=((L.take i).map npr).map ePr:=List.take_of_length_le (by rw[vl];omega)
 by_cases LA:i<L.length
 ·have UK:=mS i LA
  have cP:=fun b l=>LT L[i] (h8 i LA) b l
  have DX:=ZAI LA
  obtain⟨Y,hY⟩:∃Y,((L.take i).map npr).map ePr=Y:=⟨_,rfl⟩
  rw[hY]at vl vt DX⊢
  simp (disch:=first|decide|omega) only[hA,KB,UK,pS,vl,vt,YA,cellsOf,List.length_map,go_sem]
  refine QA.nxt (cP _ _) ?_
  simp (disch:=first|decide|omega) only[hA,KB,UK,pS,vl,vt,YA,cellsOf,List.length_map,iC,go_sem]
  rw[DX]
  refine⟨i+1,LA,by simp only;omega,?_⟩
  exact qA.kround (p:=QX) (k:=4) (by ((repeat refine (gA rfl).trans ?_);exact wD)) (by ((try simp (disch:=decide) only[hA,KB,go_sem])<;>exact kH)) rfl mH (by simp) kV hR kL
 ·obtain rfl:i=L.length:=by omega
  have xU:L.take L.length=L:=List.take_length
  rw[xU]at vl⊢
  obtain⟨Y,hY⟩:∃Y,(L.map npr).map ePr=Y:=⟨_,rfl⟩
  rw[hY]at vl⊢
  simp (disch:=first|decide|omega) only[hA,KB,pS,YA,cellsOf,List.length_map,go_sem]
  refine nB (.inr rfl) (xs:=[.agg [.sl (B.length+2) 1 0 L.length,.v (.int .i64 n.now),.v (.bool n.fifo),.v (.isl 4 (n.l.map eMs)),.v (.isl 1 (n.tm.map eI)),.v (.isl 2 (n.fates.map eFt)),.v (.int .i64 0),.v (.int .i64 0),.sl (B.length+4) L.length 0 L.length]]) (by simp (disch:=first|decide|omega) only[JA,zA,hA,KB,go_sem]) ?_ hR hB ⟨rfl,rfl,rfl⟩
  rw[AC]
  unfold RO
  simp only
  rw[hr,hY]
  exact Dv.aggL (.cons (Dv.slV (i:=2) rfl pS.symm) (.cons (.v _) (.cons (.v _) (.cons (.v _) (.cons (.v _) (.cons (.v _) (.cons (.v _) (.cons (.v _) (.cons (Dv.slV (i:=4) rfl vl.symm) .nil)))))))))
def eJ (l:List Sv) (n:Nw):Wd×Int:=if GF l=true∧nwB n=true then (if n.now≠0∨0<n.l.length∨l.any (fun s=>s.pc != 0)=true then (wd0,6) else (RO l n,0)) else (wd0,1)
theorem rV (s:Sv) (b l:List Row):QA Tryz.prog 57 [.agg ((eSv s).map .v)] b l (fun r b' l'=>r=.v (.bool (s.pc != 0))∧b'=b∧l'=l):=by
 refine VA vW rfl (by decide) ?_
 intro B g hB hR hE hA;simp only[xA]at hA
 simp (disch:=first|decide|omega) only[a_wNewW1,hA,eSv,YA,cellsOf,go_sem]
 exact ZA (xs:=[.v (.bool (s.pc != 0))]) (.inr rfl) (by simp (disch:=first|decide|omega) only[JA,zA,go_sem,hA]) kO hR hB ⟨rfl,rfl,rfl⟩
def nprZ (s:Sv):List IV:=[.str s.name,.isl 2 ((zK s.vars).map eVr),.zsl]
theorem j6 {l:List Sv} {i:Nat} (h:i<l.length):(l.take i).map nprZ++[[.str l[i].name,.isl 2 ((zK l[i].vars).map eVr),.zsl]]=(l.take (i+1)).map nprZ:=by
 rw[List.take_add_one,List.getElem?_eq_getElem h,List.map_append];rfl
theorem ZCu (l:List Sv):IVle (.isl 3 (l.map nprZ)) (.isl 3 ((l.map npr).map ePr)):=by
 refine .isl _ _ _ (by simp) (fun k row row' h1 h2=>?_) (fun k row row' j a a' h1 h2 h3 h4=>?_)
 ·rw[List.getElem?_map]at h1 h2
  rw[List.getElem?_map]at h2
  cases hk:l[k]? with
  |none=>rw[hk]at h1;cases h1
  |some s=>rw[hk]at h1 h2;cases h1;cases h2;rfl
 ·rw[List.getElem?_map]at h1 h2
  rw[List.getElem?_map]at h2
  cases hk:l[k]? with
  |none=>rw[hk]at h1;cases h1
  |some s =>
    rw[hk]at h1 h2;cases h1;cases h2
    match j,h3,h4 with
    |0,h3,h4=>cases h3;cases h4;exact .refl _
    |1,h3,h4=>cases h3;cases h4;exact .refl _
    |2,h3,h4=>cases h3;cases h4;exact .zsl 5
    |j+3,h3,h4=>cases h3
theorem cQ {l:List Sv} {p:Sv→Bool}:((List.range l.length).any fun j=>p (l.getD j dfSv))=l.any p:=UG
theorem XQ (L:List Sv) (hL:SvsS L) (n:Nw) (O8:NwS n) (b l:List Row):QA Tryz.prog 14 [.v (.isl 6 (L.map eSv)),.agg ((eNw n).map .v)] b l (fun r b' l'=>r=.tup [.agg ((eWd (eJ L n).1).map .v),.v (.int .i64 (eJ L n).2)]∧b'=b∧l'=l):=by
 refine VA GZ rfl (by decide) ?_
 intro B g hB hR hE hA;simp only[xA]at hA
 have heN:(eNw n).map AV.v=[.v (.int .i64 n.now),.v (.bool n.fifo),.v (.isl 4 (n.l.map eMs)),.v (.isl 1 (n.tm.map eI)),.v (.isl 2 (n.fates.map eFt))]:=rfl
 have cV:=fun b l=>XG n b l
 rw[heN]at hA cV
 have hLl:=hL.len
 have F8:=O8.l
 simp (disch:=first|decide|omega) only[a_wNewW,hA,YA,cellsOf,go_sem]
 refine QA.nxt (sK L hL _ _) ?_
 cases t1:GF L
 ·have hr:eJ L n=(wd0,1):=by unfold eJ;rw[if_neg (fun h=>by rw[t1]at h;cases h.1)]
  rw[hr]
  simp (disch:=first|decide|omega) only[hA,YA,cellsOf,go_sem]
  exact nB (.inr rfl) (xs:=[.agg [.v .zsl,.v (.int .i64 0),.v (.bool false),.v .zsl,.v .zsl,.v .zsl,.v (.int .i64 0),.v (.int .i64 0),.v .zsl],.v (.int .i64 1)]) (by simp (disch:=first|decide|omega) only[JA,zA,hA,go_sem]) (EF 1) hR hB ⟨rfl,rfl,rfl⟩
 simp (disch:=first|decide|omega) only[hA,YA,cellsOf,go_sem]
 refine QA.nxt (cV _ _) ?_
 cases t2:nwB n
 ·have hr:eJ L n=(wd0,1):=by unfold eJ;rw[if_neg (fun h=>by rw[t2]at h;cases h.2)]
  rw[hr]
  simp (disch:=first|decide|omega) only[hA,YA,cellsOf,go_sem]
  exact nB (.inr rfl) (xs:=[.agg [.v .zsl,.v (.int .i64 0),.v (.bool false),.v .zsl,.v .zsl,.v .zsl,.v (.int .i64 0),.v (.int .i64 0),.v .zsl],.v (.int .i64 1)]) (by simp (disch:=first|decide|omega) only[JA,zA,hA,go_sem]) (EF 1) hR hB ⟨rfl,rfl,rfl⟩
 by_cases h3:n.now=0
 case neg =>
  have d3:(n.now != 0)=true:=bne_iff_ne.2 h3
  have hr:eJ L n=(wd0,6):=by unfold eJ;rw[if_pos ⟨t1,t2⟩,if_pos (.inl h3)]
  rw[hr]
  simp (disch:=first|decide|omega) only[hA,d3,YA,cellsOf,go_sem]
  exact nB (.inr rfl) (xs:=[.agg [.v .zsl,.v (.int .i64 0),.v (.bool false),.v .zsl,.v .zsl,.v .zsl,.v (.int .i64 0),.v (.int .i64 0),.v .zsl],.v (.int .i64 6)]) (by simp (disch:=first|decide|omega) only[JA,zA,hA,go_sem]) (EF 6) hR hB ⟨rfl,rfl,rfl⟩
 have d3:(n.now != 0)=false:=by rw[h3];rfl
 by_cases h4:0<n.l.length
 ·have d4:decide ((n.l.length:Int)>0)=true:=decide_eq_true oM
  have d4':decide ((0:Int)<(n.l.length:Int))=true:=d4
  have hr:eJ L n=(wd0,6):=by unfold eJ;rw[if_pos ⟨t1,t2⟩,if_pos (.inr (.inl h4))]
  rw[hr]
  simp (disch:=first|decide|omega) only[hA,d3,d4,d4',YA,cellsOf,List.length_map,go_sem]
  exact nB (.inr rfl) (xs:=[.agg [.v .zsl,.v (.int .i64 0),.v (.bool false),.v .zsl,.v .zsl,.v .zsl,.v (.int .i64 0),.v (.int .i64 0),.v .zsl],.v (.int .i64 6)]) (by simp (disch:=first|decide|omega) only[JA,zA,hA,go_sem]) (EF 6) hR hB ⟨rfl,rfl,rfl⟩
 have d4:decide ((n.l.length:Int)>0)=false:=decide_eq_false oM
 have d4':decide ((0:Int)<(n.l.length:Int))=false:=d4
 have cC:=fun B0 l0=>uD ZI OH (L.map eSv) 57 [] (fun j=>(L.getD j dfSv).pc != 0) sN (by rw[List.length_map];exact hLl) B0 l0 (fun j row hj=>by
  have FF:j<L.length:=by have:=(List.getElem?_eq_some_iff.1 hj).1;rwa [List.length_map]at this
  rw[List.getElem?_map,List.getElem?_eq_getElem FF]at hj
  cases hj
  simp only[KA FF]
  exact rV _ _ _)
 rw[List.length_map,cQ (p:=fun s=>s.pc != 0)]at cC
 simp (disch:=first|decide|omega) only[hA,d3,d4,d4',YA,cellsOf,List.length_map,go_sem]
 refine QA.nxt (cC _ _) ?_
 cases t5:L.any (fun s=>s.pc != 0)
 case true =>
  have hr:eJ L n=(wd0,6):=by unfold eJ;rw[if_pos ⟨t1,t2⟩,if_pos (.inr (.inr t5))]
  rw[hr]
  simp (disch:=first|decide|omega) only[hA,YA,cellsOf,List.length_map,go_sem]
  exact nB (.inr rfl) (xs:=[.agg [.v .zsl,.v (.int .i64 0),.v (.bool false),.v .zsl,.v .zsl,.v .zsl,.v (.int .i64 0),.v (.int .i64 0),.v .zsl],.v (.int .i64 6)]) (by simp (disch:=first|decide|omega) only[JA,zA,hA,go_sem]) (EF 6) hR hB ⟨rfl,rfl,rfl⟩
 have hr:eJ L n=(RO L n,0):=by unfold eJ;rw[if_pos ⟨t1,t2⟩,if_neg (fun h=>by
  rcases h with h|h|h
  ·exact h h3
  ·exact h4 h
  ·rw[t5]at h;cases h)]
 rw[hr]
 have hn:=JO t1
 have h8:=ZBC t1
 simp (disch:=first|decide|omega) only[hA,YA,cellsOf,List.length_map,go_sem]
 refine tA (ι:=Nat) EW (fun i=>[(37,.v (.int .i64 i))]) 3 (fun i=>[.live 0 5 [[.v (.int .i64 n.now),.v (.bool n.fifo),.v (.isl 4 (n.l.map eMs)),.v (.isl 1 (n.tm.map eI)),.v (.isl 2 (n.fates.map eFt))]],.live 0 9 [[.v .zsl,.v (.int .i64 0),.v (.bool false),.v .zsl,.v .zsl,.v .zsl,.v (.int .i64 0),.v (.int .i64 0),.v .zsl]],.live 0 9 [[.v (.isl 6 (L.map eSv)),.v (.int .i64 n.now),.v (.bool n.fifo),.v (.isl 4 (n.l.map eMs)),.v (.isl 1 (n.tm.map eI)),.v (.isl 2 (n.fates.map eFt)),.v (.int .i64 0),.v (.int .i64 0),.sl (B.length+3) i 0 i]],.live i 3 (vs ((L.take i).map nprZ))])
  (fun i=>i≤L.length) (fun i=>L.length-i) 0 (Nat.zero_le _) (by (repeat (first|exact hE.mono oM|refine KLt.up ?_ kL))) (by ((try simp (disch:=decide) only[hA,go_sem])<;>exact kH)) (fun e=>qA.nilcell (e:=e) (b:=B) (l:=[.live 0 5 [[.v (.int .i64 n.now),.v (.bool n.fifo),.v (.isl 4 (n.l.map eMs)),.v (.isl 1 (n.tm.map eI)),.v (.isl 2 (n.fates.map eFt))]],.live 0 9 [[.v .zsl,.v (.int .i64 0),.v (.bool false),.v .zsl,.v .zsl,.v .zsl,.v (.int .i64 0),.v (.int .i64 0),.v .zsl]],.live 0 9 [[.v (.isl 6 (L.map eSv)),.v (.int .i64 n.now),.v (.bool n.fifo),.v (.isl 4 (n.l.map eMs)),.v (.isl 1 (n.tm.map eI)),.v (.isl 2 (n.fates.map eFt)),.v (.int .i64 0),.v (.int .i64 0),.v .zsl]]]) (i:=2) (k:=0) (j:=8) (sz:=3) rfl rfl rfl) ?_
 intro g1 mH wD KB i hi
 have vl:((L.take i).map nprZ).length=i:=by rw[List.length_map,List.length_take];omega
 have vt:List.take i ((L.take i).map nprZ)=(L.take i).map nprZ:=List.take_of_length_le (by rw[vl];omega)
 by_cases LA:i<L.length
 ·have UK:=MH LA
  have cP:=fun b l=>OP L[i].vars (h8 i LA) b l
  have DX:=j6 LA
  obtain⟨Y,hY⟩:∃Y,(L.take i).map nprZ=Y:=⟨_,rfl⟩
  rw[hY]at vl vt DX⊢
  simp (disch:=first|decide|omega) only[hA,KB,UK,vl,vt,YA,cellsOf,List.length_map,go_sem]
  refine QA.nxt (cP _ _) ?_
  simp (disch:=first|decide|omega) only[hA,KB,UK,vl,vt,YA,cellsOf,List.length_map,iC,go_sem]
  rw[DX]
  refine⟨i+1,LA,by simp only;omega,?_⟩
  exact qA.kround (p:=EW) (k:=3) (by ((repeat refine (gA rfl).trans ?_);exact wD)) (by ((try simp (disch:=decide) only[hA,KB,go_sem])<;>exact kH)) rfl mH (by simp) kV hR kL
 ·obtain rfl:i=L.length:=by omega
  have xU:L.take L.length=L:=List.take_length
  have rK:=ZCu L
  rw[xU]at vl⊢
  have cC:∀b l,QA Tryz.prog 59 [.agg [.v (.isl 6 (L.map eSv)),.v (.int .i64 n.now),.v (.bool n.fifo),.v (.isl 4 (n.l.map eMs)),.v (.isl 1 (n.tm.map eI)),.v (.isl 2 (n.fates.map eFt)),.v (.int .i64 0),.v (.int .i64 0),.v (.isl 3 (L.map nprZ))]] b l (fun r b' l'=>r=.agg ((eWd (RO L n)).map .v)∧b'=b∧l'=l):=fun b l=>by
   have hS:Small (RO L n).tr:=by
    refine⟨by show (L.map npr).length≤_;rw[List.length_map];omega,fun x hx=>?_,fun x hx=>?_,fun x hx=>?_⟩
    all_goals
     obtain⟨s,hs,rfl⟩:=List.mem_map.1 hx
     obtain⟨p,hp,rfl⟩:=List.getElem_of_mem hs
     have:=h8 p hp
     simp[npr,DH]
    omega
   refine (IJ (RO L n) hL hS O8 (by show 0<L.length;omega) (by show 0<(L.map npr).length;rw[List.length_map];omega) b l).le rfl (fun i x y hx hy=>?_)
   match i,hx,hy with
   |0,hx,hy =>
     cases hx;cases hy
     rw[AC]
     refine .agg _ _ rfl (fun j u v hu hv=>?_)
     match j,hu,hv with
     |0,hu,hv=>cases hu;cases hv;exact .refl _
     |1,hu,hv=>cases hu;cases hv;exact .refl _
     |2,hu,hv=>cases hu;cases hv;exact .refl _
     |3,hu,hv=>cases hu;cases hv;exact .refl _
     |4,hu,hv=>cases hu;cases hv;exact .refl _
     |5,hu,hv=>cases hu;cases hv;exact .refl _
     |6,hu,hv=>cases hu;cases hv;exact .refl _
     |7,hu,hv=>cases hu;cases hv;exact .refl _
     |8,hu,hv=>cases hu;cases hv;exact .v _ _ rK
  obtain⟨Y,hY⟩:∃Y,L.map nprZ=Y:=⟨_,rfl⟩
  rw[hY]at vl cC⊢
  obtain⟨W,hW⟩:∃W,RO L n=W:=⟨_,rfl⟩
  rw[hW]at cC⊢
  rw[AC]at cC⊢
  simp (disch:=first|decide|omega) only[hA,KB,YA,cellsOf,List.length_map,go_sem]
  refine QA.frzB (i:=3) (ver:=L.length) (sz:=3) (rows:=Y) (args':=[.agg [.v (.isl 6 (L.map eSv)),.v (.int .i64 n.now),.v (.bool n.fifo),.v (.isl 4 (n.l.map eMs)),.v (.isl 1 (n.tm.map eI)),.v (.isl 2 (n.fates.map eFt)),.v (.int .i64 0),.v (.int .i64 0),.v (.isl 3 Y)]]) rfl (by simp[frz,dF,vl];rw[←vl,List.take_length]) ?_
  refine QA.nxt (cC _ _) ?_
  simp (disch:=first|decide|omega) only[hA,KB,YA,cellsOf,List.length_map,go_sem]
  exact ZA (xs:=[.agg [.v (.isl 6 (W.sv.map eSv)),.v (.int .i64 W.net.now),.v (.bool W.net.fifo),.v (.isl 4 (W.net.l.map eMs)),.v (.isl 1 (W.net.tm.map eI)),.v (.isl 2 (W.net.fates.map eFt)),.v (.int .i64 W.now),.v (.int .i64 W.sent),.v (.isl 3 (W.tr.map ePr))],.v (.int .i64 0)]) (.inr rfl) (by simp (disch:=first|decide|omega) only[JA,zA,go_sem,hA,KB]) kO hR hB ⟨rfl,rfl,rfl⟩
theorem Dv.repR {F:Nat→Prop} {L:LMap} {n:Nat} {l:List Row} {w:World} (hs:∀i ver sz els,l[i]? = some (.live ver sz els)→∃q,L (n+i) ver=some q∧dP w F L sz els q) {x y:AV} (h:Dv n l x y):∀v,RepA w F L x v→RepA w (FD F L n l) L y v:=by
 have mono:∀{x:AV} {v:Value},RepA w F L x v→RepA w (FD F L n l) L x v:=fun hx=>hx.mono (fun _ h=>.inl h) (fun _ _=>rfl) (fun _ _ _ h=>h)
 induction h with
 |v x=>exact fun v hv=>mono hv
 |z sz =>
   intro v hv
   cases hv.vI
   exact .v _ _ (.isl0 _ _ _ (Nat.zero_le _))
 |sl i ver off len sz els rows hi rK hl h1 h2 ih =>
   intro v hv
   obtain⟨q,k1,k2⟩:=hs _ _ _ _ hi
   refine .v _ _ ?_
   cases hv with
   |sl _ _ _ _ blk o z cap hL g1 g2 =>
     rw[k1]at hL;cases hL
     obtain⟨q1,q2,q3,cur,T,q4,q5,q6,q7⟩:=k2
     subst q1
     have SF:∀(k:Nat) (row:List IV) (j:Nat) (c:IV),rows[k]? = some row→row[j]? = some c→∃u,w.cell? ⟨blk,o+off*z+k*z+j,none⟩=some u∧RepI w (FD F L n l) c u:=by
      intro k row j c hk hj
      have qP:=(List.getElem?_eq_some_iff.1 hk).1
      have FF:=(List.getElem?_eq_some_iff.1 hj).1
      have hr:els[off+k]? = some els[off+k]:=List.getElem?_eq_getElem oM
      have hlr:=h1 k _ row hr hk
      have ha:els[off+k][j]? = some els[off+k][j]:=List.getElem?_eq_getElem oM
      obtain⟨_,u,g3,g4⟩:=q7 (off+k) _ j _ hr ha
      refine⟨u,?_,(ih k _ row j _ c hr hk ha hj u g4).vI⟩
      rw[Nat.add_mul]at g3
      simp only[World.cell?,q4]
      rw[←g3]
      simp[Nat.add_assoc]
     have:=RepI.isl (w:=w) (F:=FD F L n l) rows blk (o+off*z) z (cap-off) (fun k j=>(w.cell? ⟨blk,o+off*z+k*z+j,none⟩).getD undef) (.inr ⟨i,ver,z,els,_,hi,k1,rfl⟩) oM oM
      (fun k row hk=>by
       have qP:=(List.getElem?_eq_some_iff.1 hk).1
       have hr:els[off+k]? = some els[off+k]:=List.getElem?_eq_getElem oM
       rw[←h1 k _ row hr hk]
       exact q6 _ _ hr)
      (fun k row j c hk hj=>by
       obtain⟨u,g3,_⟩:=SF k row j c hk hj
       rw[g3];rfl)
      (fun k row j c hk hj=>by
       obtain⟨u,g3,g4⟩:=SF k row j c hk hj
       rw[g3];exact g4)
     rw[hl]at this
     exact this
   |slz =>
     have:rows=[]:=List.eq_nil_of_length_eq_zero hl
     rw[this];exact .isl0 _ _ _ oM
   |sln =>
     have:rows=[]:=List.eq_nil_of_length_eq_zero hl
     rw[this];exact .isl0 _ _ _ oM
 |agg cs ds hl _ ih =>
   intro v hv
   obtain⟨us,rfl,hu⟩:=hv.aggL
   refine MA.agg ⟨by rw[←hl];exact hu.1,fun j d u hd hju=>?_⟩
   have FF:=(List.getElem?_eq_some_iff.1 hd).1
   have hc:cs[j]? = some cs[j]:=List.getElem?_eq_getElem oM
   exact ih j _ d hc hd u (hu.2 j _ u hc hju)
 |tup cs ds hl _ ih =>
   intro v hv
   obtain⟨us,rfl,hu⟩:=hv.tupL
   refine MA.tup ⟨by rw[←hl];exact hu.1,fun j d u hd hju=>?_⟩
   have FF:=(List.getElem?_eq_some_iff.1 hd).1
   have hc:cs[j]? = some cs[j]:=List.getElem?_eq_getElem oM
   exact ih j _ d hc hd u (hu.2 j _ u hc hju)

theorem QA.deepMid {P:Program} {f:Nat} {args args':List AV} {b l1 N l2:List Row} {Q:AV→List Row→List Row→Prop} (hl:args.length=args'.length)
  (hd:∀(i:Nat) (x y:AV),args[i]? = some x→args'[i]? = some y→Dv (b.length+l1.length) N x y) (h:QA P f args' b (l1++(N.map wF++l2)) Q):QA P f args b (l1++(N++l2)) Q:=by
 refine⟨h.1,fun F L w us s hr=>?_⟩
 obtain⟨n,hn⟩:∃n,n=b.length+l1.length:=⟨_,rfl⟩
 rw[←hn]at hd
 have e1:∀X:List Row,∀j,j<n→(b++(l1++(X++l2)))[j]? = (b++l1)[j]?:=fun X j hj=>by
  rw[←List.append_assoc,List.getElem?_append_left (by rw[List.length_append];omega)]
 have e2:∀X:List Row,∀j,j<X.length→(b++(l1++(X++l2)))[n+j]? = X[j]?:=fun X j hj=>by
  rw[←List.append_assoc,List.getElem?_append_right (by rw[List.length_append];omega),List.length_append,←hn,Nat.add_sub_cancel_left,List.getElem?_append_left hj]
 have e3:∀X:List Row,∀j,(b++(l1++(X++l2)))[n+X.length+j]? = l2[j]?:=fun X j=>by
  rw[←List.append_assoc,List.getElem?_append_right (by rw[List.length_append];omega),List.length_append,←hn,Nat.add_assoc,Nat.add_sub_cancel_left,List.getElem?_append_right oM,Nat.add_sub_cancel_left]
 have sp:∀j,j<n∨(∃i,i<N.length∧j=n+i)∨∃i,j=n+N.length+i:=fun j=>by
  by_cases h1:j<n
  ·exact .inl h1
  ·by_cases h2:j<n+N.length
   ·exact .inr (.inl ⟨j-n,by omega,by omega⟩)
   ·exact .inr (.inr ⟨j-(n+N.length),by omega⟩)
 have hml:(N.map wF).length=N.length:=List.length_map _
 have e2d:∀i,i<N.length→∃r,N[i]? = some r∧(b++(l1++(N++l2)))[n+i]? = some r∧(b++(l1++(N.map wF++l2)))[n+i]? = some (wF r):=fun i hi=>by
  refine⟨N[i],List.getElem?_eq_getElem hi,by rw[e2 _ _ hi,List.getElem?_eq_getElem hi],?_⟩
  rw[e2 _ _ (by rw[hml];exact hi),List.getElem?_map,List.getElem?_eq_getElem hi];rfl
 have e3d:∀j,(b++(l1++(N.map wF++l2)))[n+N.length+j]? = l2[j]?:=fun j=>by
  have:=e3 (N.map wF) j
  rw[hml]at this;exact this
 have gH:∀{j v z:Nat} {els:List (List AV)},(b++(l1++(N.map wF++l2)))[j]? = some (.live v z els)→(∀i,i<N.length→j≠n+i)∧(b++(l1++(N++l2)))[j]? = some (.live v z els):=fun {j v z els} hj=>by
  rcases sp j with h1|⟨i,hi,rfl⟩|⟨i,rfl⟩
  ·rw[e1 _ _ h1]at hj⊢;exact⟨fun i _=>by omega,hj⟩
  ·obtain⟨r,_,_,h4⟩:=e2d i hi
   rw[h4]at hj;cases hj
  ·rw[e3d]at hj;rw[e3];exact⟨fun i _=>by omega,hj⟩
 have ME:∀{i ver sz els},N[i]? = some (.live ver sz els)→i<N.length∧(b++(l1++(N++l2)))[n+i]? = some (.live ver sz els):=fun {i ver sz els} hi=>by
  have:=(List.getElem?_eq_some_iff.1 hi).1
  exact⟨this,by rw[e2 _ _ this];exact hi⟩
 have mF:∀k,LC L (b++(l1++(N.map wF++l2))) k→LC L (b++(l1++(N++l2))) k:=by
  rintro k ⟨j,v,z,els,q,h1,h2,h3⟩
  exact⟨j,v,z,els,q,(gH h1).2,h2,h3⟩
 have s1:Sim (FD F L n N) L (b++(l1++(N.map wF++l2))) w:=by
  refine⟨fun j v z els hj=>?_,fun j v q hq=>?_,fun j j' v v' z z' e1 e2 bb q1 q2 h1 h2=>s.apart j j' v v' z z' e1 e2 bb q1 q2 (gH h1).2 (gH h2).2,fun k hk=>?_,s.glob.mono (fun _ h=>.inl h) (fun _ _=>rfl)⟩
  ·obtain⟨q,g1,g2⟩:=s.row j v z els (gH hj).2
   exact⟨q,g1,g2.mono (fun _ _=>rfl) (fun _ _ h=>h.mono (fun _ h=>.inl h) (fun _ _=>rfl) (fun _ _ _ h=>h))⟩
  ·obtain⟨r,h1,h2⟩:=s.born j v q hq
   rcases sp j with h3|⟨i,hi,rfl⟩|⟨i,rfl⟩
   ·exact⟨r,by rw[e1 _ _ h3]at h1⊢;exact h1,h2⟩
   ·obtain⟨r',_,h4,h5⟩:=e2d i hi
    rw[h4]at h1;cases h1
    exact⟨wF r,h5,h2⟩
   ·exact⟨r,by rw[e3]at h1;rw[e3d];exact h1,h2⟩
  ·rcases hk with hk|⟨i,ver,sz,els,q,h1,h2,h3⟩
   ·exact⟨(s.imm k hk).1,fun ho=>(s.imm k hk).2 (mF k ho)⟩
   ·obtain⟨hi,h1⟩:=ME h1
    obtain⟨q',g1,g2⟩:=s.row _ _ _ _ h1
    rw[h2]at g1;cases g1
    refine⟨g2.lt h3,?_⟩
    rintro⟨j,v,z,els',q2,k1,k2,k3⟩
    obtain⟨hj,k4⟩:=gH k1
    exact hj i hi (s.apart j (n+i) v ver z sz els' els k q2 q k4 h1 k2 h2 k3 h3)
 have mT:MA w (FD F L n N) L args' us.toList:=⟨by rw[←hl];exact hr.1,fun j y v hy hv=>by
  have hil:=(List.getElem?_eq_some_iff.1 hy).1
  have hx:args[j]? = some args[j]:=List.getElem?_eq_getElem oM
  exact (hd j _ y hx hy).repR (fun i ver sz els hi=>s.row _ _ _ _ (ME hi).2) v (hr.2 j _ v hx hv)⟩
 refine Calls.mono (h.2 _ L w us s1 mT) ?_
 rintro en w' ⟨v,x,b',l',F2,L2,h1,h2,h3,h4,h5,h6⟩
 have FC:(b++(l1++(N.map wF++l2))).length=(b++(l1++(N++l2))).length:=by simp
 have st:Step (b++(l1++(N++l2))).length F L (b++(l1++(N++l2))) w (FD F L n N) L (b++(l1++(N.map wF++l2))) w:=by
  refine⟨fun _ h=>.inl h,fun _ _ _ _ h=>h,rfl,rfl,rfl,Nat.le_refl _,fun _ _ _=>rfl,fun k _ ho=>mF k ho,fun id hid v hv=>?_,fun k hk hf=>?_⟩
  ·rcases sp id with h3|⟨i,hi,rfl⟩|⟨i,rfl⟩
   ·rw[e1 _ _ h3]at hv⊢;exact hv
   ·obtain⟨r,_,h4,h5⟩:=e2d i hi
    rw[h4]at hv;cases hv
    exact h5
   ·rw[e3]at hv;rw[e3d];exact hv
  ·rcases hf with hf|⟨i,ver,sz,els,q,h1,h2,h3⟩
   ·exact .inl hf
   ·exact .inr ⟨_,_,_,_,_,(ME h1).2,h2,h3⟩
 exact⟨v,x,b',l',F2,L2,h1,h2,h3,st.trans (FC▸h4),h5,h6⟩
def a_wRun:AFunc:=({c:=_}:CF Tryz.prog 27).c
theorem G7:dA Tryz.prog 27=some a_wRun:=by kernel_rfl
def G3:List (Nat×Nat):=[(5,5),(7,8),(21,44)]

noncomputable def AL (w:Wd) (x:Int):Wd×Int:=if 0≤x then bM w x else eM w (-x)
noncomputable def zV (w:Wd):List Int→Wd×Int
 |[]=>(w,0)
 |x::r=>if (AL w x).2=0 then zV (AL w x).1 r else (wd0,(AL w x).2)
theorem C5 {w:Wd} (hw:WdV w) {x:Int} (h:(AL w x).2=0):WdV (AL w x).1:=by
 unfold AL at h⊢
 split at h<;>rename_i h1
 ·rw[if_pos h1]
  unfold bM at h⊢
  rw[if_pos hw.to]at h⊢
  split at h<;>rename_i h2
  ·cases h
  rw[if_neg h2]
  split at h<;>rename_i h3
  ·rw[if_pos h3]
   exact AM hw oM h3 h
  ·cases h
 ·rw[if_neg h1]
  unfold eM at h⊢
  rw[if_pos hw.to]at h⊢
  split at h<;>rename_i h2
  ·rw[if_pos h2];exact G9 hw ⟨h2.1.1,h2.2⟩
  ·cases h
theorem ZCb {w:Wd} {x:Int} (h:(AL w x).2≠0):(AL w x).1=wd0:=by
 unfold AL at h⊢
 split at h<;>rename_i h1
 ·rw[if_pos h1]
  unfold bM at h⊢
  split at h<;>rename_i h2
  ·rw[if_pos h2]
   split at h<;>rename_i h3
   ·rw[if_pos h3]
   rw[if_neg h3]
   split at h<;>rename_i h4
   ·rw[if_pos h4];exact ZBD h
   ·rw[if_neg h4]
  ·rw[if_neg h2]
 ·rw[if_neg h1]
  unfold eM at h⊢
  split at h<;>rename_i h2
  ·rw[if_pos h2]
   split at h<;>rename_i h3
   ·exact absurd rfl h
   ·rw[if_neg h3]
  ·rw[if_neg h2]
theorem ZCT {w:Wd} {x:Int} (h0:x<0) (h1:-9223372036854775808≤x):eM w (IntKind.i64.wrap (-x))=eM w (-x):=by
 by_cases h:x=-9223372036854775808
 ·subst h
  have e1:IntKind.i64.wrap (-(-9223372036854775808))=-9223372036854775808:=by decide
  rw[e1]
  unfold eM
  rw[if_neg (by omega:¬((0≤(-9223372036854775808:Int)∧(-9223372036854775808:Int)≤1000000)∧w.now+-9223372036854775808≤1000000000)),if_neg (by omega:¬((0≤(-(-9223372036854775808):Int)∧(-(-9223372036854775808):Int)≤1000000)∧w.now+-(-9223372036854775808)≤1000000000))]
 ·rw[VB oM oM]
theorem Y7 {α:Type} {l:List α} {i:Nat} (h:i<l.length):l.drop i=l[i]::l.drop (i+1):=List.drop_eq_getElem_cons h
noncomputable def UV (w:Wd) (order:List Int):Wd×Int:=if wdB w=true then (if 1000<order.length then (wd0,5) else zV w order) else (wd0,1)
theorem i5 (w:Wd) (hS:Sm w.tr) (hN:Nm w.tr) (tR:SvsS w.sv) (O8:NwS w.net) (order:List Int) (hol:order.length≤1000000) (ho:∀x∈order,-9223372036854775808≤x) (b l:List Row):QA Tryz.prog 27 [.agg ((eWd w).map .v),.v (.isl 1 (order.map eI))] b l (fun r b' l'=>r=.tup [.agg ((eWd (UV w order).1).map .v),.v (.int .i64 (UV w order).2)]∧b'=b∧l'=l):=by
 refine VA G7 rfl (by decide) ?_
 intro B g hB hR hE hA;simp only[xA]at hA
 have cV:=fun b l=>QG w hS hN tR O8 b l
 rw[AC]at hA cV
 simp (disch:=first|decide|omega) only[a_wRun,hA,YA,cellsOf,go_sem]
 refine QA.nxt (cV _ _) ?_
 cases t1:wdB w
 ·have hr:UV w order=(wd0,1):=by unfold UV;rw[if_neg (by rw[t1];simp)]
  rw[hr]
  simp (disch:=first|decide|omega) only[hA,YA,cellsOf,go_sem]
  exact nB (.inr rfl) (xs:=[.agg [.v .zsl,.v (.int .i64 0),.v (.bool false),.v .zsl,.v .zsl,.v .zsl,.v (.int .i64 0),.v (.int .i64 0),.v .zsl],.v (.int .i64 1)]) (by simp (disch:=first|decide|omega) only[JA,zA,hA,go_sem]) (EF 1) hR hB ⟨rfl,rfl,rfl⟩
 have hw:=WdV.of t1
 by_cases h2:1000<order.length
 ·have d2:decide ((order.length:Int)>1000)=true:=decide_eq_true oM
  have d2':decide ((1000:Int)<(order.length:Int))=true:=d2
  have hr:UV w order=(wd0,5):=by unfold UV;rw[if_pos t1,if_pos h2]
  rw[hr]
  simp (disch:=first|decide|omega) only[hA,d2,d2',YA,cellsOf,List.length_map,go_sem]
  exact nB (.inr rfl) (xs:=[.agg [.v .zsl,.v (.int .i64 0),.v (.bool false),.v .zsl,.v .zsl,.v .zsl,.v (.int .i64 0),.v (.int .i64 0),.v .zsl],.v (.int .i64 5)]) (by simp (disch:=first|decide|omega) only[JA,zA,hA,go_sem]) (EF 5) hR hB ⟨rfl,rfl,rfl⟩
 have d2:decide ((order.length:Int)>1000)=false:=decide_eq_false oM
 have d2':decide ((1000:Int)<(order.length:Int))=false:=d2
 have hr:UV w order=zV w order:=by unfold UV;rw[if_pos t1,if_neg h2]
 rw[hr]
 have cC:=fun b l=>IJ w tR hw.small O8 (by have:=(JO hw.sv).1;omega) hw.tr.lo b l
 rw[AC]at cC
 simp (disch:=first|decide|omega) only[hA,d2,d2',YA,cellsOf,List.length_map,go_sem]
 refine QA.nxt (cC _ _) ?_
 simp (disch:=first|decide|omega) only[hA,YA,cellsOf,List.length_map,go_sem]
 refine tA (ι:=Nat×Wd) G3 (fun z=>[(21,.v (.int .i64 z.1))]) 2 (fun z=>[.live 0 9 [(eWd z.2).map .v],.live 0 9 [[.v .zsl,.v (.int .i64 0),.v (.bool false),.v .zsl,.v .zsl,.v .zsl,.v (.int .i64 0),.v (.int .i64 0),.v .zsl]]])
  (fun z=>z.1≤order.length∧WdV z.2∧zV w order=zV z.2 (order.drop z.1)) (fun z=>order.length-z.1) (0,w) ⟨Nat.zero_le _,hw,by rw[List.drop_zero]⟩ (by (repeat (first|exact hE.mono oM|refine KLt.up ?_ kL))) (by ((try simp (disch:=decide) only[hA,go_sem])<;>exact kH)) (fun e=>qA.refl _ _ _) ?_
 rintro g1 mH wD KB ⟨i,W⟩ ⟨hi,hW,pS⟩
 simp only at hi hW pS⊢
 by_cases LA:i<order.length
 ·have hgo:=mE LA
  obtain⟨x,hx⟩:∃x,order[i]=x:=⟨_,rfl⟩
  rw[KA LA,hx]at hgo
  have hxm:-9223372036854775808≤x:=by rw[←hx];exact ho _ (List.getElem_mem LA)
  rw[Y7 LA,hx]at pS
  rw[pS]
  rw[AC]
  obtain⟨y,hy⟩:∃y,AL W x=y:=⟨_,rfl⟩
  have hrr:zV W (x::order.drop (i+1))=if y.2=0 then zV y.1 (order.drop (i+1)) else (wd0,y.2):=by show (if (AL W x).2=0 then zV (AL W x).1 _ else _)=_;rw[hy]
  have hye:y.2=0→WdV y.1:=fun h=>by rw[←hy]at h⊢;exact C5 hW h
  have hy0:y.2≠0→y.1=wd0:=fun h=>by rw[←hy]at h⊢;exact ZCb h
  have cS:=fun b l=>xY W hW.small.sm hW.nm hW.svS hW.net.s x b l
  have cT:=fun b l=>gY W hW.small.sm hW.nm hW.svS hW.net.s (IntKind.i64.wrap (0-x)) b l
  rw[AC]at cS cT
  by_cases h0:0≤x
  case' pos =>
   have d0:decide (x≥0)=true:=decide_eq_true h0
   have d0':decide (0≤x)=true:=d0
   have hyo:bM W x=y:=by rw[←hy];unfold AL;rw[if_pos h0]
   rw[hyo,AC]at cS
   simp (disch:=first|decide|omega) only[hA,KB,hgo,d0,d0',YA,cellsOf,List.length_map,go_sem]
   refine QA.nxt (cS _ _) ?_
  case' neg =>
   have d0:decide (x≥0)=false:=decide_eq_false h0
   have d0':decide (0≤x)=false:=d0
   have hyo:eM W (IntKind.i64.wrap (0-x))=y:=by rw[Int.zero_sub,ZCT oM hxm,←hy];unfold AL;rw[if_neg h0]
   rw[hyo,AC]at cT
   simp (disch:=first|decide|omega) only[hA,KB,hgo,d0,d0',YA,cellsOf,List.length_map,go_sem]
   refine QA.nxt (cT _ _) ?_
  all_goals
   by_cases he:y.2=0
   ·have e0:(y.2 != 0)=false:=by rw[he];rfl
    have ZFs:=hrr
    rw[if_pos he]at ZFs
    have hWy:=hye he
    rw[ZFs]
    simp (disch:=first|decide|omega) only[hA,KB,e0,YA,cellsOf,List.length_map,go_sem]
    refine⟨(i+1,y.1),⟨LA,hWy,by rw[←ZFs,←pS]⟩,by simp only;omega,?_⟩
    simp only[AC]
    exact qA.kround (p:=G3) (k:=2) (by ((repeat refine (gA rfl).trans ?_);exact wD)) (by ((try simp (disch:=decide) only[hA,KB,go_sem])<;>exact kH)) rfl mH (by simp) kV hR kL
   ·have e0:(y.2 != 0)=true:=bne_iff_ne.2 he
    rw[if_neg he]at hrr
    rw[hrr]
    simp (disch:=first|decide|omega) only[hA,KB,e0,YA,cellsOf,List.length_map,go_sem]
    exact nB (.inr rfl) (xs:=[.agg [.v .zsl,.v (.int .i64 0),.v (.bool false),.v .zsl,.v .zsl,.v .zsl,.v (.int .i64 0),.v (.int .i64 0),.v .zsl],.v (.int .i64 y.2)]) (by simp (disch:=first|decide|omega) only[JA,zA,hA,KB,go_sem]) (EF y.2) hR hB ⟨rfl,rfl,rfl⟩
 ·obtain rfl:i=order.length:=by omega
  have hrn:zV w order=(W,0):=by rw[pS,List.drop_length];rfl
  rw[hrn,AC]
  simp (disch:=first|decide|omega) only[hA,KB,YA,cellsOf,List.length_map,go_sem]
  exact ZA (xs:=[.agg [.v (.isl 6 (W.sv.map eSv)),.v (.int .i64 W.net.now),.v (.bool W.net.fifo),.v (.isl 4 (W.net.l.map eMs)),.v (.isl 1 (W.net.tm.map eI)),.v (.isl 2 (W.net.fates.map eFt)),.v (.int .i64 W.now),.v (.int .i64 W.sent),.v (.isl 3 (W.tr.map ePr))],.v (.int .i64 0)]) (.inr rfl) (by simp (disch:=first|decide|omega) only[JA,zA,go_sem,hA,KB]) kO hR hB ⟨rfl,rfl,rfl⟩
def a_awk54:AFunc:=⟨0,76,[.tmp 0],(.seq (.region [⟨some 0,.mv (.c (.v (.bool false))),none⟩]) (.seq (.region [⟨some 8,.build [(.v (.int .i64 0)),(.v (.int .i64 0)),(.v (.int .i64 0))] [(0,1,(.c (.v (.int .i64 3)))),(1,1,(.c (.v (.int .i64 0)))),(2,1,(.c (.v (.int .i64 1))))],none⟩,⟨some 9,.build [(.v (.int .i64 0)),(.v (.int .i64 0)),(.v (.int .i64 0))] [(0,1,(.c (.v (.int .i64 8))))],none⟩,⟨some 10,.bslice 3 [(.v (.int .i64 0)),(.v (.int .i64 0)),(.v (.int .i64 0))] 2 [(0,(.t 8)),(1,(.t 9))],none⟩,⟨some 11,.bslice 1 [(.v (.int .i64 0))] 1 [(0,(.c (.v (.int .i64 5))))],none⟩,⟨some 12,.build [(.v (.str ⟨#[]⟩)),(.v .zsl),(.v (.int .i64 0)),(.v .zsl),(.v (.int .i64 0)),(.v (.int .i64 0))] [(0,1,(.c (.v (.str ⟨#[97]⟩)))),(1,1,(.t 10)),(3,1,(.t 11)),(5,1,(.c (.v (.int .i64 1000))))],none⟩,⟨some 13,.build [(.v (.int .i64 0)),(.v (.int .i64 0)),(.v (.int .i64 0))] [(0,1,(.c (.v (.int .i64 4))))],none⟩,⟨some 14,.build [(.v (.int .i64 0)),(.v (.int .i64 0)),(.v (.int .i64 0))] [(0,1,(.c (.v (.int .i64 2)))),(1,1,(.c (.v (.int .i64 0)))),(2,1,(.c (.v (.int .i64 1))))],none⟩,⟨some 15,.bslice 3 [(.v (.int .i64 0)),(.v (.int .i64 0)),(.v (.int .i64 0))] 2 [(0,(.t 13)),(1,(.t 14))],none⟩,⟨some 16,.bslice 1 [(.v (.int .i64 0))] 1 [(0,(.c (.v (.int .i64 0))))],none⟩,⟨some 17,.build [(.v (.str ⟨#[]⟩)),(.v .zsl),(.v (.int .i64 0)),(.v .zsl),(.v (.int .i64 0)),(.v (.int .i64 0))] [(0,1,(.c (.v (.str ⟨#[98]⟩)))),(1,1,(.t 15)),(3,1,(.t 16)),(5,1,(.c (.v (.int .i64 1000))))],none⟩,⟨some 18,.bslice 6 [(.v (.str ⟨#[]⟩)),(.v .zsl),(.v (.int .i64 0)),(.v .zsl),(.v (.int .i64 0)),(.v (.int .i64 0))] 2 [(0,(.t 12)),(1,(.t 17))],none⟩,⟨some 1,.mv (.t 18),none⟩]) (.seq (.region [⟨some 20,.mv (.t 1),none⟩,⟨some 21,.build [(.v (.int .i64 0)),(.v (.bool false)),(.v .zsl),(.v .zsl),(.v .zsl)] [],none⟩,⟨some 22,.call (.c (.fn 14 [])) [(.t 20),(.t 21)],none⟩,⟨some 19,.mv (.t 22),none⟩,⟨some 23,.extract 0 (.t 19),none⟩,⟨some 24,.extract 1 (.t 19),none⟩,⟨some 2,.alloc [(.v .zsl),(.v (.int .i64 0)),(.v (.bool false)),(.v .zsl),(.v .zsl),(.v .zsl),(.v (.int .i64 0)),(.v (.int .i64 0)),(.v .zsl)],none⟩,⟨none,.store 9 (.t 2) (.t 23),none⟩,⟨some 3,.mv (.t 24),none⟩]) (.seq (.region [⟨some 26,.load (some 9) (.t 2),none⟩,⟨some 27,.call (.c (.fn 33 [])) [(.t 26)],none⟩,⟨some 25,.mv (.t 27),none⟩,⟨some 28,.extract 0 (.t 25),none⟩,⟨some 29,.extract 1 (.t 25),none⟩,⟨some 4,.mv (.t 28),none⟩,⟨some 5,.mv (.t 29),none⟩]) (.seq (.region [⟨some 31,.load (some 9) (.t 2),none⟩,⟨some 32,.bslice 1 [(.v (.int .i64 0))] 3 [(0,(.c (.v (.int .i64 0)))),(1,(.c (.v (.int .i64 1)))),(2,(.c (.v (.int .i64 1))))],none⟩,⟨some 33,.call (.c (.fn 27 [])) [(.t 31),(.t 32)],none⟩,⟨some 30,.mv (.t 33),none⟩,⟨some 34,.extract 0 (.t 30),none⟩,⟨some 35,.extract 1 (.t 30),none⟩,⟨some 6,.alloc [(.v .zsl),(.v (.int .i64 0)),(.v (.bool false)),(.v .zsl),(.v .zsl),(.v .zsl),(.v (.int .i64 0)),(.v (.int .i64 0)),(.v .zsl)],none⟩,⟨none,.store 9 (.t 6) (.t 34),none⟩,⟨some 7,.mv (.t 35),none⟩]) (.seq (.region [⟨some 36,.mv (.t 3),none⟩,⟨some 37,.bin .eql (.t 36) (.c (.v (.int .i64 0))),none⟩,⟨some 38,.mv (.t 37),none⟩,⟨some 39,.mv (.t 5),some (38,true)⟩,⟨some 40,.bin .eql (.t 39) (.c (.v (.int .i64 0))),some (38,true)⟩,⟨some 41,.pick (.t 38) (.t 40) (.c (.v (.bool false))),none⟩,⟨some 42,.mv (.t 41),none⟩,⟨some 43,.mv (.t 4),some (42,true)⟩,⟨some 44,.bslice 1 [(.v (.int .i64 0))] 1 [(0,(.c (.v (.int .i64 0))))],some (42,true)⟩,⟨some 45,.call (.c (.fn 36 [])) [(.t 43),(.t 44)],some (42,true)⟩,⟨some 46,.pick (.t 42) (.t 45) (.c (.v (.bool false))),none⟩,⟨some 47,.mv (.t 46),none⟩,⟨some 48,.mv (.t 7),some (47,true)⟩,⟨some 49,.bin .eql (.t 48) (.c (.v (.int .i64 0))),some (47,true)⟩,⟨some 50,.pick (.t 47) (.t 49) (.c (.v (.bool false))),none⟩,⟨some 51,.mv (.t 50),none⟩,⟨some 52,.load (some 9) (.t 6),some (51,true)⟩,⟨some 53,.call (.c (.fn 35 [])) [(.t 52)],some (51,true)⟩,⟨some 54,.pick (.t 51) (.t 53) (.c (.v (.bool false))),none⟩,⟨some 55,.mv (.t 54),none⟩,⟨some 56,.faddr 0 (.t 6),some (55,true)⟩,⟨some 57,.load none (.t 56),some (55,true)⟩,⟨some 58,.len (.t 57),some (55,true)⟩,⟨some 59,.bin .eql (.t 58) (.c (.v (.int .i64 2))),some (55,true)⟩,⟨some 60,.pick (.t 55) (.t 59) (.c (.v (.bool false))),none⟩,⟨some 61,.mv (.t 60),none⟩,⟨some 62,.faddr 0 (.t 6),some (61,true)⟩,⟨some 63,.load none (.t 62),some (61,true)⟩,⟨some 64,.iaddr 6 (.t 63) (.c (.v (.int .i64 1))),some (61,true)⟩,⟨some 65,.faddr 3 (.t 64),some (61,true)⟩,⟨some 66,.load none (.t 65),some (61,true)⟩,⟨some 67,.bslice 1 [(.v (.int .i64 0))] 1 [(0,(.c (.v (.int .i64 6))))],some (61,true)⟩,⟨some 68,.call (.c (.fn 36 [])) [(.t 66),(.t 67)],some (61,true)⟩,⟨some 69,.pick (.t 61) (.t 68) (.c (.v (.bool false))),none⟩,⟨some 70,.mv (.t 69),none⟩,⟨some 71,.faddr 8 (.t 6),some (70,true)⟩,⟨some 72,.load (some 1) (.t 71),some (70,true)⟩,⟨some 73,.call (.c (.fn 47 [])) [(.t 72)],some (70,true)⟩,⟨some 74,.bin .eql (.t 73) (.c (.v (.int .i64 3))),some (70,true)⟩,⟨some 75,.pick (.t 70) (.t 74) (.c (.v (.bool false))),none⟩,⟨some 0,.mv (.t 75),none⟩]) .ret))))))⟩
theorem U0:dA Tryz.prog 11=some a_awk54:=by kernel_rfl

theorem C3 {l:List Sv} (p:Nat):DA (l.map npr) p=[]:=by
 unfold DA
 rw[List.getD_eq_getElem?_getD,List.getElem?_map]
 cases l[p]? <;> rfl
theorem GP {l:List Sv} (x:Nat×Nat):x∉ids (l.map npr):=fun hx=>by
 obtain⟨p,i⟩:=x
 obtain⟨i,rfl⟩:∃k,i=k+1:=⟨i-1,by have:=eG hx;simp only at this;omega⟩
 have:=(fE.1 hx).2
 rw[C3]at this
 exact absurd this (by simp)
theorem e9:∀i:Fin 8,pD (gI i)=true:=by decide
theorem c9:∀i j:Fin 8,j<i→(gI j==gI i)=false:=by decide
theorem ZEa {v:Int} (h:vlB v=true):fM v=true:=by
 unfold vlB at h;unfold fM
 simpa using h
theorem ZAJ {l:List Sv} (h:GF l=true) {p:Nat} (hp:p<l.length):bD (l.map npr) p=0:=by
 obtain⟨hv,hd⟩:=TH h hp
 have hg:l.getD p dfSv=l[p]:=KA hp
 rw[hg]at hv
 unfold bD
 rw[E3 hp]
 have c1:((l.map npr).take p).any (fun y=>y.name.toList==(npr l[p]).name.toList)=false:=by
  rw[List.any_eq_false]
  intro y hy hc
  obtain⟨q,hq⟩:=List.mem_iff_getElem?.1 hy
  rw[List.getElem?_take]at hq
  split at hq
  ·rename_i hqp
   rw[List.getElem?_map,List.getElem?_eq_getElem oM]at hq
   cases hq
   rw[←beq_toListBytes]at hc
   have:=hd q hqp
   rw[hg,KA oM]at this
   exact this (jR hc)
  ·cases hq
 have c3:vC (GO (npr l[p]).vars) (npr l[p]).vars.length=0:=by
  rw[wG]
  intro i hi
  have hi:i<l[p].vars.length:=by rw[←DH (l:=l[p].vars)];exact hi
  have h8:=hv.vl
  have UK:∀j,j<l[p].vars.length→(npr l[p]).vars.getD j rT=wVr l[p].vars j:=fun j hj=>H4 hj
  unfold GO
  rw[UK i hi]
  have a1:pD (wVr l[p].vars i).name=true:=e9 ⟨i,by omega⟩
  have a2:((npr l[p]).vars.take i).any (fun y=>y.name.toList==(wVr l[p].vars i).name.toList)=false:=by
   rw[List.any_eq_false]
   intro y hy hc
   obtain⟨q,hq⟩:=List.mem_iff_getElem?.1 hy
   rw[List.getElem?_take]at hq
   split at hq
   ·rename_i hqi
    have e:=UK q oM
    rw[List.getD_eq_getElem?_getD,hq,Option.getD_some]at e
    rw[e,←beq_toListBytes]at hc
    have:=c9 ⟨i,by omega⟩ ⟨q,by omega⟩ hqi
    have RR:(gI q==gI i)=true:=hc
    rw[RR]at this;cases this
   ·cases hq
  have a3:fM (wVr l[p].vars i).init=true:=ZEa (by show vlB (l[p].vars.getD i 0)=true;rw[KA hi];exact hv.vs _ (List.getElem_mem hi))
  rw[a1,a2,a3];rfl
 have c0:pD (npr l[p]).name=true:=hv.name
 have c2:¬8<(npr l[p]).vars.length:=by
  have:=hv.vl
  show ¬8<(zK l[p].vars).length
  rw[DH];omega
 rw[c0,c1,c3]
 simp only[Bool.not_true,Bool.or_false,Bool.false_eq_true,if_false,ne_eq,not_true_eq_false]
 rw[if_neg c2]
 rfl
theorem ZCs {l:List Sv} (h:GF l=true):Vok (l.map npr):=by
 have hn:=JO h
 exact⟨by rw[List.length_map];omega,by rw[List.length_map];omega,fun p hp=>ZAJ h (by rwa [List.length_map]at hp),fun x hx=>absurd hx (GP x),fun x hx=>absurd hx (GP x),fun x hx=>absurd hx (GP x)⟩
theorem wY (v:List Int):(zK v).map (·.init)=v:=by
 apply List.ext_getElem?
 intro i
 rw[List.getElem?_map]
 by_cases hi:i<v.length
 ·unfold zK
  rw[VF hi,List.getElem?_eq_getElem hi]
  show some (v.getD i 0)=_
  rw[KA hi]
 ·rw[List.getElem?_eq_none (by rw[DH];omega),List.getElem?_eq_none oM];rfl
theorem ZCt (s:Sv) (now:Int):OL (npr s) s now=true:=by
 unfold OL
 have h1:((npr s).name==s.name)=true:=FJ _
 have h2:(npr s).vars.length=s.vars.length:=DH
 have h3:n8 (npr s) s.vars.length=true:=by
  unfold n8
  rw[List.all_eq_true]
  intro i hi
  have e:(npr s).vars.getD i rT=wVr s.vars i:=H4 (List.mem_range.1 hi)
  rw[e];exact FJ _
 have h4:wV (npr s)=s.vars:=wY s.vars
 have h5:RX (npr s) (JI s now)=true:=by unfold RX;exact decide_eq_true (.inl rfl)
 rw[h1,decide_eq_true h2,h3,decide_eq_true h4,h5];rfl
theorem O3 {l:List Sv}:∀k,cSd (l.map npr) k=0
 |0=>rfl
 |k+1=>by
   simp only[cSd]
   rw[O3 k,C3];rfl
theorem CS {l:List Sv} {n:Nw} (h:GF l=true) (hn:NwV n) (h0:n.now=0) (hl:n.l=[]):WdV (RO l n):=by
 refine⟨h,⟨Int.le_refl _,by show (0:Int)≤1000000000;decide⟩,hn,h0,ZCs h,by show (l.map npr).length=l.length;rw[List.length_map],fun p hp=>?_,fun x hx=>absurd hx (GP x),?_,fun m hm=>?_⟩
 ·have hp:p<l.length:=by rw[←List.length_map (f:=npr)];exact hp
  show OL ((l.map npr).getD p dfPr) (l.getD p dfSv) 0=true
  rw[E3 hp,KA hp]
  exact ZCt _ _
 ·show ((cSd (l.map npr) _:Nat):Int)=0
  rw[O3];rfl
 ·have hm:m∈n.l:=hm
  rw[hl]at hm;cases hm
def awL:List Sv:=[⟨⟨#[97]⟩,[⟨3,0,1⟩,⟨8,0,0⟩],0,[5],0,1000⟩,⟨⟨#[98]⟩,[⟨4,0,0⟩,⟨2,0,1⟩],0,[0],0,1000⟩]
theorem C1:GF awL=true:=by kernel_rfl
theorem Q1:nwB nw0=true:=by kernel_rfl
noncomputable def aw0:Wd:=RO awL nw0
noncomputable def aw1:Wd:=(stW aw0 0).1
noncomputable def aw2:Wd:=(stW aw1 1).1
noncomputable def aw3:Wd:=(stW aw2 1).1
theorem NK:WdV aw0:=CS C1 (VG.1 Q1) rfl rfl
theorem ZEF:uG aw0 0=true:=by kernel_rfl
theorem ZEE:(stW aw0 0).2=0:=by kernel_rfl
theorem aw0_l:iK aw0 2=[0]:=by kernel_rfl
theorem ZEA:WdV aw1:=AM NK (by show 0<2;omega) ZEF ZEE
theorem ZEC:aw1.sv.length=2:=by kernel_rfl
theorem ZED:uG aw1 1=true:=by kernel_rfl
theorem ZEB:(stW aw1 1).2=0:=by kernel_rfl
theorem ZDw:WdV aw2:=AM ZEA (by rw[ZEC];omega) ZED ZEB
theorem ZDy:aw2.sv.length=2:=by kernel_rfl
theorem ZDz:uG aw2 1=true:=by kernel_rfl
theorem ZDx:(stW aw2 1).2=0:=by kernel_rfl
theorem iP:WdV aw3:=AM ZDw (by rw[ZDy];omega) ZDz ZDx
theorem aw3_n:aw3.sv.length=2:=by kernel_rfl
theorem aw3_x:aw3.sv.all ZL=true:=by kernel_rfl
theorem ZDv:(ids aw3.tr).length=3:=by kernel_rfl
theorem aw3_r:(aw3.sv.map eSv)[1]? = some [.str ⟨#[98]⟩,.isl 3 [[.int .i64 4,.int .i64 0,.int .i64 0],[.int .i64 2,.int .i64 0,.int .i64 1]],.int .i64 2,.isl 1 [[.int .i64 6]],.int .i64 0,.int .i64 1000]:=by kernel_rfl
theorem O0 {w:Wd} (hw:WdV w) {p:Nat} (hp:p<w.sv.length) (he:uG w p=true):AL w p=stW w p:=by
 unfold AL
 rw[if_pos oM]
 unfold bM
 rw[if_pos hw.to,if_neg oM,Int.toNat_natCast,if_pos he]
theorem ZFO:UV aw0 [0,1,1]=(aw3,0):=by
 have h0:AL aw0 0=stW aw0 0:=O0 (p:=0) NK (by show 0<2;omega) ZEF
 have h1:AL aw1 1=stW aw1 1:=O0 (p:=1) ZEA (by rw[ZEC];omega) ZED
 have h2:AL aw2 1=stW aw2 1:=O0 (p:=1) ZDw (by rw[ZDy];omega) ZDz
 unfold UV
 rw[if_pos NK.to,if_neg (by decide)]
 have e1:(stW aw0 0).1=aw1:=rfl
 have e2:(stW aw1 1).1=aw2:=rfl
 have e3:(stW aw2 1).1=aw3:=rfl
 simp only[zV]
 rw[h0,if_pos ZEE,e1,h1,if_pos ZEB,e2,h2,if_pos ZDx,e3]
theorem SJ (b l:List Row):QA Tryz.prog 11 [] b l (fun r b' l'=>r=.v (.bool true)∧b'=b∧l'=l):=by
 refine VA U0 rfl (by decide) ?_
 intro B g hB hR hE hA;simp only[xA]at hA
 have cN:∀b l,QA Tryz.prog 14 [.v (.isl 6 (awL.map eSv)),.agg [.v (.int .i64 0),.v (.bool false),.v .zsl,.v .zsl,.v .zsl]] b l (fun r b' l'=>r=.tup [.agg ((eWd aw0).map .v),.v (.int .i64 0)]∧b'=b∧l'=l):=fun b l=>by
  have hb:eJ awL nw0=(aw0,0):=by
   unfold eJ
   rw[if_pos ⟨C1,Q1⟩,if_neg (by rintro (h|h|h);exact h rfl;exact absurd h (by decide);exact absurd h (by decide))];rfl
  have:=XQ awL (ZDl C1) nw0 (VG.1 Q1).s b l
  rw[hb]at this
  refine this.le rfl (fun i x y hx hy=>?_)
  match i,hx,hy with
  |0,hx,hy=>cases hx;cases hy;exact .refl _
  |1,hx,hy =>
    cases hx;cases hy
    refine .agg _ _ rfl (fun j u v hu hv=>?_)
    match j,hu,hv with
    |0,hu,hv=>cases hu;cases hv;exact .refl _
    |1,hu,hv=>cases hu;cases hv;exact .refl _
    |2,hu,hv=>cases hu;cases hv;exact .v _ _ (.zsl 4)
    |3,hu,hv=>cases hu;cases hv;exact .v _ _ (.zsl 1)
    |4,hu,hv=>cases hu;cases hv;exact .v _ _ (.zsl 2)
 have cE:=fun b l=>tV aw0 NK.small NK.nm NK.svS NK.net.s NK.to b l
 have hq:SO aw0 aw0.sv.length=[[.int .i64 0]]:=by
  show (iK aw0 2).map _=_
  rw[aw0_l];rfl
 rw[hq]at cE
 have cR:=fun b l=>i5 aw0 NK.small.sm NK.nm NK.svS NK.net.s [0,1,1] (by simp) (by simp) b l
 rw[ZFO]at cR
 have cD:=fun b l=>sV aw3 iP.small.sm iP.nm iP.svS iP.net.s b l
 have hd:ZBt aw3=true:=by unfold ZBt;rw[iP.to,aw3_x];rfl
 rw[hd]at cD
 have cC:=fun b l=>iZ aw3.tr iP.small iP.nm b l (by rw[ZDv];omega)
 have hc:aL aw3.tr=3:=by unfold aL;rw[if_pos (UI iP.tr),ZDv]
 rw[hc]at cC
 simp only[eT]at cC
 have q0:∀b l,QA Tryz.prog 36 [.v (.isl 1 [[.int .i64 0]]),.v (.isl 1 [[.int .i64 0]])] b l (fun r b' l'=>r=.v (.bool true)∧b'=b∧l'=l):=fun b l=>UR [0] [0] (by simp) b l
 have q6:∀b l,QA Tryz.prog 36 [.v (.isl 1 [[.int .i64 6]]),.v (.isl 1 [[.int .i64 6]])] b l (fun r b' l'=>r=.v (.bool true)∧b'=b∧l'=l):=fun b l=>UR [6] [6] (by simp) b l
 have g1:=aw3_r
 have n3:=aw3_n
 obtain⟨W,hW⟩:∃W,aw0=W:=⟨_,rfl⟩
 obtain⟨V,hV⟩:∃V,aw3=V:=⟨_,rfl⟩
 rw[hW]at cN cE cR
 rw[hV]at cR cD cC g1 n3
 simp only[AC]at cN cE cR cD
 have b1:((0:Int)==0)=true:=rfl
 have b2:((3:Int)==3)=true:=rfl
 have b3:(((3:Nat):Int)==3)=true:=rfl
 have b4:(((2:Nat):Int)==2)=true:=rfl
 have b5:((2:Int)==2)=true:=rfl
 have t1:Int.toNat 1=1:=rfl
 simp (disch:=first|decide|omega) only[a_awk54,hA,YA,cellsOf,iC,List.replicate_succ,List.replicate_zero,List.set_cons_zero,List.set_cons_succ,go_sem]
 refine QA.deepMid (l1:=[]) (l2:=[]) (N:=[.live 0 3 [[.v (.int .i64 3),.v (.int .i64 0),.v (.int .i64 1)],[.v (.int .i64 8),.v (.int .i64 0),.v (.int .i64 0)]],.live 0 1 [[.v (.int .i64 5)]],.live 0 3 [[.v (.int .i64 4),.v (.int .i64 0),.v (.int .i64 0)],[.v (.int .i64 2),.v (.int .i64 0),.v (.int .i64 1)]],.live 0 1 [[.v (.int .i64 0)]],.live 0 6 [[.v (.str ⟨#[97]⟩),.sl B.length 0 0 2,.v (.int .i64 0),.sl (B.length+1) 0 0 1,.v (.int .i64 0),.v (.int .i64 1000)],[.v (.str ⟨#[98]⟩),.sl (B.length+2) 0 0 2,.v (.int .i64 0),.sl (B.length+3) 0 0 1,.v (.int .i64 0),.v (.int .i64 1000)]]]) (args':=[.v (.isl 6 (awL.map eSv)),.agg [.v (.int .i64 0),.v (.bool false),.v .zsl,.v .zsl,.v .zsl]]) rfl (fun i x y hx hy=>?_) ?_
 ·match i,hx,hy with
  |0,hx,hy =>
    cases hx;cases hy
    refine Dv.slR (i:=4) rfl (by simp) rfl (fun k r row h1 h2=>?_)
    match k,h1,h2 with
    |0,h1,h2=>cases h1;cases h2;exact DvR.cons (.v _) (DvR.cons (Dv.slV (i:=0) (rows:=[[.int .i64 3,.int .i64 0,.int .i64 1],[.int .i64 8,.int .i64 0,.int .i64 0]]) rfl rfl) (DvR.cons (.v _) (DvR.cons (Dv.slV (i:=1) (rows:=[[.int .i64 5]]) rfl rfl) (DvR.cons (.v _) (DvR.cons (.v _) DvR.nil)))))
    |1,h1,h2=>cases h1;cases h2;exact DvR.cons (.v _) (DvR.cons (Dv.slV (i:=2) (rows:=[[.int .i64 4,.int .i64 0,.int .i64 0],[.int .i64 2,.int .i64 0,.int .i64 1]]) rfl rfl) (DvR.cons (.v _) (DvR.cons (Dv.slV (i:=3) (rows:=[[.int .i64 0]]) rfl rfl) (DvR.cons (.v _) (DvR.cons (.v _) DvR.nil)))))
  |1,hx,hy=>cases hx;cases hy;exact Dv.aggL (.cons (.v _) (.cons (.v _) (.cons (.v _) (.cons (.v _) (.cons (.v _) .nil)))))
 refine QA.nxt (cN _ _) ?_
 simp (disch:=first|decide|omega) only[hA,wF,YA,cellsOf,iC,go_sem]
 refine QA.nxt (cE _ _) ?_
 simp (disch:=first|decide|omega) only[hA,wF,YA,cellsOf,iC,List.replicate_succ,List.replicate_zero,List.set_cons_zero,List.set_cons_succ,go_sem]
 refine QA.frzB (i:=6) (ver:=0) (sz:=1) (rows:=[[.int .i64 0],[.int .i64 1],[.int .i64 1]]) (args':=[.agg [.v (.isl 6 (W.sv.map eSv)),.v (.int .i64 W.net.now),.v (.bool W.net.fifo),.v (.isl 4 (W.net.l.map eMs)),.v (.isl 1 (W.net.tm.map eI)),.v (.isl 2 (W.net.fates.map eFt)),.v (.int .i64 W.now),.v (.int .i64 W.sent),.v (.isl 3 (W.tr.map ePr))],.v (.isl 1 ([0,1,1].map eI))]) rfl (by simp[frz,dF,eI]) ?_
 refine QA.nxt (cR _ _) ?_
 simp (disch:=first|decide|omega) only[hA,b1,wF,YA,cellsOf,iC,List.replicate_succ,List.replicate_zero,List.set_cons_zero,List.set_cons_succ,go_sem]
 refine QA.frzB (i:=8) (ver:=0) (sz:=1) (rows:=[[.int .i64 0]]) (args':=[.v (.isl 1 [[.int .i64 0]]),.v (.isl 1 [[.int .i64 0]])]) rfl (by simp[frz,dF]) ?_
 refine QA.nxt (q0 _ _) ?_
 simp (disch:=first|decide|omega) only[hA,b1,YA,cellsOf,iC,go_sem]
 refine QA.nxt (cD _ _) ?_
 simp (disch:=first|decide|omega) only[hA,b1,b4,b5,n3,t1,g1,YA,cellsOf,iC,List.length_map,List.replicate_succ,List.replicate_zero,List.set_cons_zero,List.set_cons_succ,go_sem]
 refine QA.frzB (i:=9) (ver:=0) (sz:=1) (rows:=[[.int .i64 6]]) (args':=[.v (.isl 1 [[.int .i64 6]]),.v (.isl 1 [[.int .i64 6]])]) rfl (by simp[frz,dF]) ?_
 refine QA.nxt (q6 _ _) ?_
 simp (disch:=first|decide|omega) only[hA,b1,b4,b5,n3,t1,g1,YA,cellsOf,iC,go_sem]
 refine QA.nxt (cC _ _) ?_
 simp (disch:=first|decide|omega) only[hA,b1,b2,b3,go_sem]
 exact ZA (xs:=[.v (.bool true)]) (.inr rfl) (by simp (disch:=first|decide|omega) only[JA,zA,go_sem,hA]) kO hR hB ⟨rfl,rfl,rfl⟩
open Go.RowKit Go.ChangeShapes Go.WideShapes Go.Deep

def RIs (w:World) (F:Nat→Prop) (row:List IV) (cs:List Value):Prop:=row.length=cs.length∧∀(j:Nat) (a:IV) (v:Value),row[j]? = some a→cs[j]? = some v→RepI w F a v
theorem RIs.nil {w:World} {F:Nat→Prop}:RIs w F [] []:=⟨rfl,fun j a v h=>by simp at h⟩
theorem RIs.one {w:World} {F:Nat→Prop} {a:IV} {v:Value} (h:RepI w F a v):RIs w F [a] [v]:=by
 refine⟨rfl,fun j x u hx hu=>?_⟩
 cases j with
 |zero=>simp at hx hu;subst hx;subst hu;exact h
 |succ j=>simp at hx
theorem RIs.append {w:World} {F:Nat→Prop} {r s:List IV} {cs ds:List Value} (h:RIs w F r cs) (k:RIs w F s ds):RIs w F (r++s) (cs++ds):=by
 refine⟨by simp[h.1,k.1],fun j a v ha hv=>?_⟩
 by_cases hj:j<r.length
 ·rw[List.getElem?_append_left hj]at ha
  rw[List.getElem?_append_left (by rw[←h.1];exact hj)]at hv
  exact h.2 j a v ha hv
 ·rw[List.getElem?_append_right oM]at ha
  rw[List.getElem?_append_right (by rw[←h.1];omega),←h.1]at hv
  exact k.2 _ a v ha hv
theorem RIs.repL {w:World} {F:Nat→Prop} {L:LMap} {r:List IV} {cs:List Value} (h:RIs w F r cs):MA w F L (r.map .v) cs:=by
 refine⟨by simpa using h.1,fun j x v hx hv=>?_⟩
 rw[List.getElem?_map]at hx
 cases hq:r[j]? with
 |none=>simp[hq]at hx
 |some y=>simp[hq]at hx;subst hx;exact .v _ _ (h.2 j y v hq hv)

def Low (w:World):Nat→Prop:=fun b=>b<w.heap.size

def TR {α:Type} (P:Program) (t:TypeId) (n:Nat) (enc:α→List IV) (good:α→Prop):Prop:=
 ∀(H:Type) (en:TypeId×Value→H) (w:World) (base:Nat) (spare:Nat→Bool) (held:Bool) (fuel:Nat) (cs:List Value) (x:DataW H×List MemPlace),cs.length=n→DataW.trod en P w base spare held fuel t cs=some x →
  ∃y,good y∧RIs w (Low w) (enc y) cs

section
variable {P:Program} {α β:Type}
theorem TR.map {t:TypeId} {n:Nat} {enc:α→List IV} {good:α→Prop} (h:TR P t n enc good) {enc':β→List IV} {good':β→Prop} (f:α→β) (he:∀y,enc' (f y)=enc y) (hg:∀y,good y→good' (f y)):TR P t n enc' good':=by
 intro H en w base spare held fuel cs x hl hx
 obtain⟨y,g,r⟩:=h H en w base spare held fuel cs x hl hx
 exact⟨f y,hg y g,by rw[he];exact r⟩
theorem ZEf {t:TypeId} {k:IntKind} (ht:P.underlying t=some (.int k)):TR P t 1 (fun n:Int=>[.int k n]) (fun n=>(Lit.int k n).wf=true):=by
 intro H en w base spare held fuel cs x hl hx
 obtain⟨n,rfl,_,hw⟩:=DataW.trod_int ht hx
 exact⟨n,hw,RIs.one (.int _ _)⟩
theorem ZCP {t:TypeId} (ht:P.underlying t=some .bool):TR P t 1 (fun b:Bool=>[.bool b]) (fun _=>True):=by
 intro H en w base spare held fuel cs x hl hx
 obtain⟨n,rfl,_⟩:=DataW.trod_bool ht hx
 exact⟨n,trivial,RIs.one (.bool _)⟩
theorem s5 {t:TypeId} (ht:P.underlying t=some .string):TR P t 1 (fun s:ByteArray=>[.str s]) (fun s=>s.size≤maxLen):=by
 intro H en w base spare held fuel cs x hl hx
 obtain⟨n,rfl,_,hm⟩:=DataW.trod_string ht hx
 exact⟨n,hm,RIs.one (.str _)⟩
theorem XL {t e:TypeId} {n:Nat} {enc:α→List IV} {good:α→Prop} (h:TR P e n enc good) (ht:P.underlying t=some (.slice e)) (hC:P.cellsOf e=n) (h0:0<n) :
  TR P t 1 (fun ys:List α=>[.isl n (ys.map enc)]) (fun ys=>ys.length≤maxLen∧∀y∈ys,good y):=by
 intro H en w base spare held fuel cs x hl hx
 rcases open_slice ht hx with ⟨hv,_⟩|⟨a,len,cap,m,f,D,Pl,hv,hb,hll,hm,hmm,_,bJ⟩
 ·subst hv
  exact⟨[],⟨by simp[maxLen],fun y hy=>by simp at hy⟩,RIs.one (.isl0 _ _ _ (by simp[maxLen]))⟩
 ·subst hv
  have rK:len≤m:=by rw[hmm];split<;>omega
  have key:∀i,i<len→∃y,(good y∧∃b off,a=⟨b,off,none⟩∧(enc y).length=n∧∀(j:Nat) (c:IV),(enc y)[j]? = some c→∃v,w.cell? ⟨b,off+i*n+j,none⟩=some v∧RepI w (Low w) c v):=by
   intro i hi
   obtain⟨cs',hc,ht'⟩:=bJ i oM
   rw[hC]at hc
   obtain⟨_,jO,hat⟩:=World.cells?_some hc
   obtain⟨cs0,hc0,_⟩:=bJ 0 oM
   rw[hC]at hc0
   obtain⟨_,hcl0,ZIW⟩:=World.cells?_some hc0
   have h00:=ZIW 0 h0
   have e00:(a.add (0*n)).add 0=a:=by simp[Addr.add]
   rw[e00,List.getElem?_eq_getElem (show 0<cs0.length by omega)]at h00
   have hsp:=p5 h00
   obtain⟨b,off,sp⟩:=a
   simp only at hsp
   subst hsp
   obtain⟨y,hg,hy⟩:=h H en w base spare held f cs' (D i,Pl i) jO ht'
   refine⟨y,hg,b,off,rfl,by rw[hy.1,jO],fun j c hj=>?_⟩
   have FF:j<cs'.length:=by rw[←hy.1];exact (List.getElem?_eq_some_iff.1 hj).1
   have:=hat j oM
   have e1:((⟨b,off,none⟩:Addr).add (i*n)).add j=⟨b,off+i*n+j,none⟩:=by
    unfold Addr.add
    by_cases h1:i*n=0<;>by_cases h2:j=0<;>simp[h1,h2]
   rw[e1,List.getElem?_eq_getElem FF]at this
   exact⟨_,this,hy.2 j c _ hj (List.getElem?_eq_getElem FF)⟩
  obtain⟨xs,hxl,Q9⟩:=J4 len key
  subst hxl
  refine⟨xs,⟨by omega,fun y hy=>?_⟩,RIs.one ?_⟩
  ·obtain⟨i,hi⟩:=List.mem_iff_getElem?.1 hy
   exact (Q9 i y hi).1
  ·by_cases AX:0<xs.length
   ·obtain⟨_,b,off,ha,_⟩:=Q9 0 xs[0] (List.getElem?_eq_getElem AX)
    subst ha
    have IL:∀(k:Nat) (row:List IV),(xs.map enc)[k]? = some row→row.length=n∧∀(j:Nat) (c:IV),row[j]? = some c→∃v,w.cell? ⟨b,off+k*n+j,none⟩=some v∧RepI w (Low w) c v:=by
     intro k row hk
     rw[List.getElem?_map]at hk
     cases hq:xs[k]? with
     |none=>rw[hq]at hk;cases hk
     |some y =>
       rw[hq]at hk;cases hk
       obtain⟨_,b',off',hh,h1,h2⟩:=Q9 k y hq
       injection hh with g1 g2
       subst g1;subst g2
       exact⟨h1,h2⟩
    have ZIX:Low w b:=by
     obtain⟨r1,r2⟩:=IL 0 (enc xs[0]) (by rw[List.getElem?_map,List.getElem?_eq_getElem AX];rfl)
     obtain⟨v,hv,_⟩:=r2 0 (enc xs[0])[0] (List.getElem?_eq_getElem oM)
     exact dB hv
    have:=RepI.isl (w:=w) (F:=Low w) (xs.map enc) b off n cap (fun k j=>(w.cell? ⟨b,off+k*n+j,none⟩).getD undef) ZIX (by simpa using hll) hm (fun k row hk=>(IL k row hk).1)
     (fun k row j c hk hj=>by
      obtain⟨v,hv,_⟩:=(IL k row hk).2 j c hj
      rw[hv];rfl)
     (fun k row j c hk hj=>by
      obtain⟨v,hv,hr⟩:=(IL k row hk).2 j c hj
      rw[hv];exact hr)
    rw[List.length_map]at this
    exact this
   ·have:xs=[]:=List.eq_nil_of_length_eq_zero oM
    subst this
    exact .isl0 _ _ _ hm

def TRF (P:Program) (fs:List Field) (o n:Nat) (enc:α→List IV) (good:α→Prop):Prop:=
 ∀(H:Type) (en:TypeId×Value→H) (w:World) (base:Nat) (spare:Nat→Bool) (held:Bool) (fuel:Nat) (cs:List Value),cs.length=o+n→(∀f∈fs,∃x,DataW.trod en P w base spare held fuel f.type ((cs.drop f.offset).take (P.cellsOf f.type))=some x) →
  ∃y,good y∧RIs w (Low w) (enc y) (cs.drop o)
theorem gN {o:Nat}:TRF P [] o 0 (fun _:Unit=>[]) (fun _=>True):=by
 intro H en w base spare held fuel cs hl _
 refine⟨(),trivial,?_⟩
 rw[List.drop_eq_nil_of_le oM]
 exact RIs.nil
theorem EC {f:Field} {fs:List Field} {o n m:Nat} {enc:α→List IV} {good:α→Prop} {enc':β→List IV} {good':β→Prop} (h:TR P f.type n enc good) (hC:P.cellsOf f.type=n) (ho:f.offset=o) (k:TRF P fs (o+n) m enc' good') :
  TRF P (f::fs) o (n+m) (fun y:α×β=>enc y.1++enc' y.2) (fun y=>good y.1∧good' y.2):=by
 intro H en w base spare held fuel cs hl hfs
 obtain⟨x,hx⟩:=hfs f (by simp)
 rw[ho,hC]at hx
 obtain⟨y,hg,hy⟩:=h H en w base spare held fuel _ x (by simp;omega) hx
 obtain⟨z,hg',hz⟩:=k H en w base spare held fuel cs oM (fun f hf=>hfs f (by simp[hf]))
 refine⟨(y,z),⟨hg,hg'⟩,?_⟩
 have:cs.drop o=(cs.drop o).take n++cs.drop (o+n):=by rw[←List.drop_drop,List.take_append_drop]
 rw[this]
 exact hy.append hz
theorem zJ {t:TypeId} {fs:Array Field} {n:Nat} {enc:α→List IV} {good:α→Prop} (ht:P.underlying t=some (.struct fs)) (h:TRF P fs.toList 0 n enc good):TR P t n enc good:=by
 intro H en w base spare held fuel cs x hl hx
 obtain⟨xs,m,_,_,_,FC,hf⟩:=DataW.trod_struct ht hx
 obtain⟨y,hg,hy⟩:=h H en w base spare held m cs oM (fun f hm=>by
  obtain⟨i,hi⟩:=List.mem_iff_getElem?.1 hm
  have hi':fs[i]? = some f:=by simpa using hi
  have LA:i<xs.length:=by rw[FC];exact (Array.getElem?_eq_some_iff.1 hi').1
  exact⟨_,(hf i f hi').trans (List.getElem?_eq_getElem LA)⟩)
 exact⟨y,hg,by simpa using hy⟩
theorem TR.one {t:TypeId} {enc:α→IV} {good:α→Prop} (h:TR P t 1 (fun y=>[enc y]) good) {H:Type} {en:TypeId×Value→H} {w:World} {v:Value} {d:DataW H} {p:List MemPlace} {base:Nat} {spare:Nat→Bool} {held:Bool}
  (hv:v.cells=#[v]) (hT:DataW.Trod en P w base spare held t v d p):∃y,good y∧RepI w (Low w) (enc y) v:=by
 obtain⟨fuel,hf⟩:=hT
 rw[hv]at hf
 obtain⟨y,hg,hy⟩:=h H en w base spare held fuel [v] (d,p) rfl hf
 exact⟨y,hg,hy.2 0 _ _ rfl rfl⟩
theorem TR.agg {t:TypeId} {n:Nat} {enc:α→List IV} {good:α→Prop} (h:TR P t n enc good) {fs:Array Field} (hs:P.underlying t=some (.struct fs)) (hC:P.cellsOf t=n) {H:Type} {en:TypeId×Value→H} {w:World} {v:Value} {d:DataW H} {p:List MemPlace} {base b0:Nat} {r:Reach} {spare:Nat→Bool} {held:Bool}
  (hv:Value.okWide P w r b0 t v) (hT:DataW.Trod en P w base spare held t v d p):∃y,good y∧RepA w (Low w) (fun _ _=>none) (.agg ((enc y).map .v)) v:=by
 obtain⟨cs,rfl,sM⟩:=okWide_struct hs hv
 obtain⟨fuel,hf⟩:=hT
 obtain⟨y,hg,hy⟩:=h H en w base spare held fuel _ (d,p) (by simpa [Value.cells] using sM.trans hC) hf
 exact⟨y,hg,MA.agg hy.repL⟩
end
end Go.Proofs.YtoccdlnoaindmaaGreatDoor
namespace Go.Proofs.YtoccdlnoaindmaaGreatDoor
open Go.RowKit
set_option linter.unusedVariables false
theorem sJ:TR Tryz.prog 3 1 (fun n:Int=>[.int .i64 n]) (fun n=>(Lit.int .i64 n).wf=true):=ZEf Tryz.underlying3
theorem trn_b:TR Tryz.prog 4 1 (fun n:Bool=>[.bool n]) (fun _=>True):=ZCP Tryz.underlying4
theorem PQ:TR Tryz.prog 24 1 (fun c:List Int=>[.isl 1 (c.map eI)]) (fun c=>c.length≤maxLen):=(XL sJ Tryz.underlying24 (by kernel_rfl) (by decide)).map id (fun _=>rfl) (fun _ h=>h.1)
theorem ZCO:TR Tryz.prog 100 2 eFt (fun _=>True):=
 (zJ Tryz.underlying100 (EC sJ (by kernel_rfl) rfl (EC sJ (by kernel_rfl) rfl gN))).map (fun y=>(y.1,y.2.1)) (fun _=>rfl) (fun _ _=>trivial)
theorem b9:TR Tryz.prog 25 1 (fun l:List (Int×Int)=>[.isl 2 (l.map eFt)]) (fun l=>l.length≤maxLen):=
 (XL ZCO Tryz.underlying25 (by kernel_rfl) (by decide)).map id (fun _=>rfl) (fun _ h=>h.1)
theorem ZEe:TR Tryz.prog 105 4 eMs (fun m=>m.body.length≤maxLen):=
 (zJ Tryz.underlying105 (EC sJ (by kernel_rfl) rfl (EC sJ (by kernel_rfl) rfl (EC sJ (by kernel_rfl) rfl (EC PQ (by kernel_rfl) rfl gN))))).map
  (fun y=>⟨y.1,y.2.1,y.2.2.1,y.2.2.2.1⟩) (fun _=>rfl) (fun _ h=>h.2.2.2.1)
theorem ZCM:TR Tryz.prog 23 1 (fun l:List Ms=>[.isl 4 (l.map eMs)]) (fun l=>l.length≤maxLen∧∀m∈l,m.body.length≤maxLen):=
 XL ZEe Tryz.underlying23 (by kernel_rfl) (by decide)
theorem ZEd:TR Tryz.prog 27 5 eNw (fun n=>(Lit.int .i64 n.now).wf=true∧n.l.length≤maxLen∧n.tm.length≤maxLen∧n.fates.length≤maxLen):=
 (zJ Tryz.underlying27 (EC sJ (by kernel_rfl) rfl (EC trn_b (by kernel_rfl) rfl (EC ZCM (by kernel_rfl) rfl (EC PQ (by kernel_rfl) rfl (EC b9 (by kernel_rfl) rfl gN)))))).map
  (fun y=>⟨y.1,y.2.1,y.2.2.1,y.2.2.2.1,y.2.2.2.2.1⟩) (fun _=>rfl) (fun _ h=>⟨h.1,h.2.2.1.1,h.2.2.2.1,h.2.2.2.2.1⟩)
def OkPr (p:Pr):Prop:=(p.name.size≤maxLen∧∀v∈p.vars,v.name.size≤maxLen)∧p.vars.length≤maxLen∧p.evs.length≤maxLen
def OkTr (t:Tr):Prop:=t.length≤maxLen∧∀p∈t,OkPr p
theorem OkTr.nm {t:Tr} (h:OkTr t):Nm t:=fun p hp=>(h.2 p hp).1
theorem QT:maxLen=9223372036854775807:=by decide
theorem trx_s:TR Tryz.prog 9 1 (fun s:ByteArray=>[.str s]) (fun s=>s.size≤maxLen):=s5 Tryz.underlying9
theorem ZEg:TR Tryz.prog 61 3 eIn (fun _=>True):=
 (zJ Tryz.underlying61 (EC sJ (by kernel_rfl) rfl (EC sJ (by kernel_rfl) rfl (EC sJ (by kernel_rfl) rfl gN)))).map (fun y=>⟨y.1,y.2.1,y.2.2.1⟩) (fun _=>rfl) (fun _ _=>trivial)
theorem ZCN:TR Tryz.prog 28 1 (fun l:List In=>[.isl 3 (l.map eIn)]) (fun l=>l.length≤maxLen):=
 (XL ZEg Tryz.underlying28 (by kernel_rfl) (by decide)).map id (fun _=>rfl) (fun _ h=>h.1)
def OkSv (s:Sv):Prop:=s.name.size≤maxLen∧s.code.length≤maxLen∧s.vars.length≤maxLen
theorem ZDj:TR Tryz.prog 30 6 eSv OkSv:=
 (zJ Tryz.underlying30 (EC trx_s (by kernel_rfl) rfl (EC ZCN (by kernel_rfl) rfl (EC sJ (by kernel_rfl) rfl (EC PQ (by kernel_rfl) rfl (EC sJ (by kernel_rfl) rfl (EC sJ (by kernel_rfl) rfl gN))))))).map
  (fun y=>⟨y.1,y.2.1,y.2.2.1,y.2.2.2.1,y.2.2.2.2.1,y.2.2.2.2.2.1⟩) (fun _=>rfl) (fun _ h=>⟨h.1,h.2.1,h.2.2.2.1⟩)
theorem ZEc:TR Tryz.prog 22 1 (fun l:List Sv=>[.isl 6 (l.map eSv)]) (fun l=>l.length≤maxLen∧∀s∈l,OkSv s):=
 XL ZDj Tryz.underlying22 (by kernel_rfl) (by decide)
def r9 (w:Wd):Prop:=((w.sv.length≤maxLen∧∀s∈w.sv,OkSv s)∧(w.net.l.length≤maxLen∧w.net.tm.length≤maxLen∧w.net.fates.length≤maxLen))∧OkTr w.tr
theorem r9.nm {w:Wd} (h:r9 w):Nm w.tr:=h.2.nm
theorem r9.tl {w:Wd} (h:r9 w):w.tr.length≤9223372036854775807:=by have:=h.2.1;rwa [QT]at this
theorem r9.ev {w:Wd} (h:r9 w):∀x∈w.tr,x.evs.length≤9223372036854775807:=fun x hx=>by have:=(h.2.2 x hx).2.2;rwa [QT]at this
end Go.Proofs.YtoccdlnoaindmaaGreatDoor
