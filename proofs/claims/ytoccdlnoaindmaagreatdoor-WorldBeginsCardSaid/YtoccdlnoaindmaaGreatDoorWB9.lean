/- Texts of one proof, laid together: BE, BF, BG, BH, BJ, BK, BM, BN, BU, BX, BY, BR, NP, BS, NS, NL, NU, NR, BT, X1. No condition. -/
import Derived.Test.YtoccdlnoaindmaaGreatDoorWB7
import Derived.Test.YtoccdlnoaindmaaGreatDoorWB8
import Derived.Test.YtoccdlnoaindmaaGreatDoorWB2
import Derived.Test.YtoccdlnoaindmaaGreatDoorWB4
import Derived.Test.YtoccdlnoaindmaaGreatDoorWB6
import Derived.Test.YtoccdlnoaindmaaGreatDoorWB5
import Derived.Test.YtoccdlnoaindmaaGreatDoorWB1
set_option maxHeartbeats 4000000
set_option maxRecDepth 20000
namespace Go.Proofs.YtoccdlnoaindmaaGreatDoor
set_option maxHeartbeats 16000000
set_option maxRecDepth 100000
set_option linter.unusedVariables false
set_option linter.unusedSimpArgs false
attribute [local go_sem ↓] aB EA IB RB tC yB GB nC DB IC pA vB bB nA jB eB aA iB EB CA mA SB wB xB QB uB XB pB qB pC TB mC lC sD GC tD nD gC rC
attribute [local go_sem] AA lA gD YB bA rD bC eC fC QI XI aC MB LB FB uC uA lB eA mB fA ZB aop YE jD ZD VC QD OB XD pH GE tE amm vE AB rB dE OC nE comma RC aE nH bE eE YH iE xE kD XH eqC eqF rF cellsOf YA aD lD uE PG rd rdI TD mk MC AV.cell List.all_cons List.all_nil Bool.and_true Bool.true_and Bool.and_self List.length_cons List.length_nil List.length_append Nat.reduceAdd Nat.reduceSub Nat.reduceMul Nat.zero_add Nat.add_zero List.cons_append List.nil_append List.append_assoc List.append_nil List.getElem?_cons_zero List.getElem?_cons_succ List.getElem?_nil List.set_cons_zero List.set_cons_succ List.drop_zero List.drop_succ_cons List.take_zero List.take_succ_cons List.take_nil List.drop_nil List.map_cons List.map_nil Option.map_some if_true if_false Bool.false_eq_true and_self true_and and_true Nat.reduceLeDiff Nat.reduceLT Nat.le_refl Nat.reduceEqDiff ite_true ite_false beq_self_eq_true beq_true beq_false Bool.not_true Bool.not_false Bool.true_beq Bool.false_beq XE XC sB JD KD jC qC zC KC UD VD QE VB QJ DI XJ ZJ eF lF bF fF geI gtI aF decide_true decide_false room List.getElem?_map List.length_map List.length_take Int.toNat_natCast Nat.min_def Nat.min_self fD dD VE QC ED ZG xA List.getElem_cons_zero List.getElem_cons_succ
theorem ZBC {l:List Sv} (t1:GF l=true):∀p (h:p<l.length),l[p].vars.length≤8:=fun p hp=>by
 unfold GF at t1
 rw[Bool.and_eq_true,List.all_eq_true]at t1
 have:=t1.2 p (List.mem_range.2 hp)
 unfold svB sv1 at this
 rw[KA hp]at this
 simp only[Bool.and_eq_true,decide_eq_true_eq]at this
 exact this.1.2.2.1
theorem TL {t:Tr} (h:pE t=true) (kd m:Int):SC t kd m=xG t kd m:=by unfold SC;rw[if_pos h]
def a_wended:AFunc:=({c:=_}:CF Tryz.prog 88).c
theorem zW:dA Tryz.prog 88=some a_wended:=by kernel_rfl
def a_wenab:AFunc:=({c:=_}:CF Tryz.prog 85).c
theorem eZ:dA Tryz.prog 85=some a_wenab:=by kernel_rfl
def a_wEnded1:AFunc:=({c:=_}:CF Tryz.prog 87).c
theorem VU:dA Tryz.prog 87=some a_wEnded1:=by kernel_rfl
def a_wEnded:AFunc:=({c:=_}:CF Tryz.prog 35).c
theorem kW:dA Tryz.prog 35=some a_wEnded:=by kernel_rfl

def ZL (s:Sv):Bool:=decide (s.pc=s.code.length)||decide ((s.code.getD s.pc.toNat mN).op=8)
def pcOk (s:Sv):Prop:=0≤s.pc∧s.pc≤s.code.length
theorem P3 {l:List Sv} (t1:GF l=true) {p:Nat} (hp:p<l.length):pcOk l[p]:=by
 unfold GF at t1
 rw[Bool.and_eq_true,List.all_eq_true]at t1
 have:=t1.2 p (List.mem_range.2 hp)
 unfold svB sv1 at this
 rw[KA hp]at this
 simp only[Bool.and_eq_true,decide_eq_true_eq]at this
 have h:=this.1.2.2.2.1
 unfold inZ at h
 simp only[Bool.and_eq_true,decide_eq_true_eq]at h
 exact h
theorem vO (s:Sv) (hS:SvS s) (VJ:pcOk s) (b l:List Row):QA Tryz.prog 88 [.agg ((eSv s).map .v)] b l (fun r b' l'=>r=.v (.bool (ZL s))∧b'=b∧l'=l):=by
 refine VA zW rfl (by decide) ?_
 intro B g hB hR hE hA;simp only[xA]at hA
 obtain⟨k,hk⟩:∃k:Nat,s.pc=k:=⟨s.pc.toNat,by have:=VJ.1;omega⟩
 have qP:k≤s.code.length:=by have:=VJ.2;omega
 have jO:=hS.code
 by_cases LA:k<s.code.length
 ·have UK:=LL LA
  have d1:((k:Int)==(s.code.length:Int))=false:=by simp;omega
  have hr:ZL s=(s.code[k].op==8):=by
   unfold ZL
   rw[hk,Int.toNat_natCast,KA LA,decide_eq_false oM]
   rw[Bool.false_or];rfl
  simp (disch:=first|decide|omega) only[a_wended,hA,eSv,hk,UK,d1,List.length_map,go_sem]
  exact ZA (xs:=[.v (.bool (s.code[k].op==8))]) (.inr rfl) (by simp (disch:=first|decide|omega) only[JA,zA,go_sem,hA]) kO hR hB ⟨by rw[hr];rfl,rfl,rfl⟩
 ·obtain rfl:k=s.code.length:=by omega
  have d1:((s.code.length:Int)==(s.code.length:Int))=true:=by simp
  have hr:ZL s=true:=by
   unfold ZL
   rw[hk,decide_eq_true rfl];rfl
  simp (disch:=first|decide|omega) only[a_wended,hA,eSv,hk,d1,List.length_map,go_sem]
  exact ZA (xs:=[.v (.bool true)]) (.inr rfl) (by simp (disch:=first|decide|omega) only[JA,zA,go_sem,hA]) kO hR hB ⟨by rw[hr];rfl,rfl,rfl⟩
def YS (s:Sv):Int:=(s.code.getD s.pc.toNat mN).op
def uG (w:Wd) (p:Nat):Bool:=!(ZL (w.sv.getD p dfSv)||decide (64≤(DA w.tr p).length))&&(if YS (w.sv.getD p dfSv)=4 then decide (0<aI w.net p) else if YS (w.sv.getD p dfSv)=3 then decide (w.sent≤199) else true)
theorem QQ (w:Wd) (tR:SvsS w.sv) (hS:Small w.tr) (h1:GF w.sv=true) (FC:w.tr.length=w.sv.length) (p:Nat) (hp:p<w.sv.length) (b l:List Row):QA Tryz.prog 85 [.agg ((eWd w).map .v),.v (.int .i64 p)] b l (fun r b' l'=>r=.v (.bool (uG w p))∧b'=b∧l'=l):=by
 refine VA eZ rfl (by decide) ?_
 intro B g hB hR hE hA;simp only[xA]at hA
 obtain⟨s,hs⟩:∃s,w.sv[p]=s:=⟨_,rfl⟩
 have vP:w.sv.getD p dfSv=s:=by rw[KA hp,hs]
 have hSs:=tR.all s (by rw[←hs];exact List.getElem_mem hp)
 have VJ:pcOk s:=by rw[←hs];exact P3 h1 hp
 have mS:=MH hp
 rw[hs]at mS
 have vM:p<w.tr.length:=by omega
 obtain⟨x,hx⟩:∃x,w.tr[p]=x:=⟨_,rfl⟩
 have J9:=PL vM
 rw[hx]at J9
 have hxe:DA w.tr p=x.evs:=by rw[LF vM,hx]
 have eW:=tR.len
 have xU:=hS.np
 have hxn:=hS.ne x (by rw[←hx];exact List.getElem_mem vM)
 have cE:=fun b l=>vO s hSs VJ b l
 have cW:=fun b l=>uQ w.net p b l
 simp only[eSv,eNw,List.map_cons,List.map_nil]at cE cW
 have hr:uG w p=(!(ZL s||decide (64≤x.evs.length))&&(if YS s=4 then decide (0<aI w.net p) else if YS s=3 then decide (w.sent≤199) else true)):=by unfold uG;rw[vP,hxe]
 rw[hr]
 simp (disch:=first|decide|omega) only[a_wenab,hA,eWd,mS,YA,cellsOf,List.length_map,go_sem]
 refine QA.nxt (cE _ _) ?_
 cases t1:ZL s
 case true =>
  simp (disch:=first|decide|omega) only[hA,go_sem]
  exact ZA (xs:=[.v (.bool false)]) (.inr rfl) (by simp (disch:=first|decide|omega) only[JA,zA,go_sem,hA]) kO hR hB ⟨rfl,rfl,rfl⟩
 by_cases t2:64≤x.evs.length
 case pos =>
  have d2:decide ((x.evs.length:Int)≥64)=true:=decide_eq_true oM
  have d2':decide ((64:Int)≤(x.evs.length:Int))=true:=d2
  simp (disch:=first|decide|omega) only[hA,J9,d2,d2',YA,cellsOf,List.length_map,go_sem]
  exact ZA (xs:=[.v (.bool false)]) (.inr rfl) (by simp (disch:=first|decide|omega) only[JA,zA,go_sem,hA]) kO hR hB ⟨rfl,rfl,rfl⟩
 have d2:decide ((x.evs.length:Int)≥64)=false:=decide_eq_false oM
 have d2':decide ((64:Int)≤(x.evs.length:Int))=false:=d2
 rw[decide_eq_false t2]
 obtain⟨k,hk⟩:∃k:Nat,s.pc=k:=⟨s.pc.toNat,by have:=VJ.1;omega⟩
 have qP:k<s.code.length:=by
  have:=VJ.2
  rcases Nat.lt_or_ge k s.code.length with h|h
  ·exact h
  ·have:ZL s=true:=by unfold ZL;rw[decide_eq_true oM];rfl
   rw[t1]at this;cases this
 have jO:=hSs.code
 have UK:=LL qP
 have ho:YS s=s.code[k].op:=by unfold YS;rw[hk,Int.toNat_natCast,KA qP]
 rw[ho]
 by_cases t3:s.code[k].op=4
 ·have d3:(s.code[k].op==4)=true:=by simpa using t3
  simp (disch:=first|decide|omega) only[hA,J9,hk,UK,d2,d2',d3,YA,cellsOf,List.length_map,go_sem]
  refine QA.nxt (cW _ _) ?_
  simp (disch:=first|decide|omega) only[hA,go_sem]
  exact ZA (xs:=[.v (.bool (decide ((0:Int)<((aI w.net p:Nat):Int))))]) (.inr rfl) (by simp (disch:=first|decide|omega) only[JA,zA,go_sem,hA]) kO hR hB ⟨by rw[if_pos t3];simp[one],rfl,rfl⟩
 have d3:(s.code[k].op==4)=false:=by simpa using t3
 by_cases t4:s.code[k].op=3
 ·have d4:(s.code[k].op==3)=true:=by simpa using t4
  simp (disch:=first|decide|omega) only[hA,J9,hk,UK,d2,d2',d3,d4,YA,cellsOf,List.length_map,go_sem]
  exact ZA (xs:=[.v (.bool (decide (w.sent≤199)))]) (.inr rfl) (by simp (disch:=first|decide|omega) only[JA,zA,go_sem,hA]) kO hR hB ⟨by rw[if_neg t3,if_pos t4];rfl,rfl,rfl⟩
 have d4:(s.code[k].op==3)=false:=by simpa using t4
 simp (disch:=first|decide|omega) only[hA,J9,hk,UK,d2,d2',d3,d4,YA,cellsOf,List.length_map,go_sem]
 exact ZA (xs:=[.v (.bool true)]) (.inr rfl) (by simp (disch:=first|decide|omega) only[JA,zA,go_sem,hA]) kO hR hB ⟨by rw[if_neg t3,if_neg t4];rfl,rfl,rfl⟩
def a_wEnabl:AFunc:=({c:=_}:CF Tryz.prog 33).c
theorem wW:dA Tryz.prog 33=some a_wEnabl:=by kernel_rfl
def TN:List (Nat×Nat):=[(4,5),(12,22)]

theorem TT (s:Sv) (hS:SvS s) (VJ:pcOk s) (b l:List Row):QA Tryz.prog 87 [.agg ((eSv s).map .v)] b l (fun r b' l'=>r=.v (.bool (!ZL s))∧b'=b∧l'=l):=by
 refine VA VU rfl (by decide) ?_
 intro B g hB hR hE hA;simp only[xA]at hA
 have cE:=fun b l=>vO s hS VJ b l
 simp only[eSv,List.map_cons,List.map_nil]at cE
 simp (disch:=first|decide|omega) only[a_wEnded1,hA,eSv,go_sem]
 refine QA.nxt (cE _ _) ?_
 simp (disch:=first|decide|omega) only[hA,go_sem]
 exact ZA (xs:=[.v (.bool (!ZL s))]) (.inr rfl) (by simp (disch:=first|decide|omega) only[JA,zA,go_sem,hA]) kO hR hB ⟨rfl,rfl,rfl⟩
noncomputable def ZBt (w:Wd):Bool:=wdB w&&w.sv.all ZL
theorem sV (w:Wd) (hS:Sm w.tr) (hN:Nm w.tr) (tR:SvsS w.sv) (O8:NwS w.net) (b l:List Row):QA Tryz.prog 35 [.agg ((eWd w).map .v)] b l (fun r b' l'=>r=.v (.bool (ZBt w))∧b'=b∧l'=l):=by
 refine VA kW rfl (by decide) ?_
 intro B g hB hR hE hA;simp only[xA]at hA
 have cV:=fun b l=>QG w hS hN tR O8 b l
 have bW:(eWd w).map AV.v=[.v (.isl 6 (w.sv.map eSv)),.v (.int .i64 w.net.now),.v (.bool w.net.fifo),.v (.isl 4 (w.net.l.map eMs)),.v (.isl 1 (w.net.tm.map eI)),.v (.isl 2 (w.net.fates.map eFt)),.v (.int .i64 w.now),.v (.int .i64 w.sent),.v (.isl 3 (w.tr.map ePr))]:=rfl
 rw[bW]at cV hA
 simp (disch:=first|decide|omega) only[a_wEnded,hA,YA,cellsOf,go_sem]
 refine QA.nxt (cV _ _) ?_
 cases t1:wdB w
 ·simp (disch:=first|decide|omega) only[hA,go_sem]
  exact ZA (xs:=[.v (.bool false)]) (.inr rfl) (by simp (disch:=first|decide|omega) only[JA,zA,go_sem,hA]) kO hR hB ⟨by unfold ZBt;rw[t1];rfl,rfl,rfl⟩
 have pT:GF w.sv=true:=by unfold wdB at t1;simp only[Bool.and_eq_true]at t1;exact t1.1
 have cC:=uD ZI OH (w.sv.map eSv) 87 [] (fun j=>!ZL (w.sv.getD j dfSv)) sN (by rw[List.length_map];exact tR.len) B [.live 0 9 [(eWd w).map .v]] (fun j row hj=>by
  have FF:j<w.sv.length:=by have:=(List.getElem?_eq_some_iff.1 hj).1;rwa [List.length_map]at this
  rw[List.getElem?_map,List.getElem?_eq_getElem FF]at hj
  cases hj
  simp only[KA FF]
  exact TT _ (tR.all _ (List.getElem_mem FF)) (P3 pT FF) _ _)
 rw[List.length_map,UG (p:=fun s=>!ZL s),qF,bW]at cC
 simp (disch:=first|decide|omega) only[hA,go_sem]
 refine QA.nxt cC ?_
 simp (disch:=first|decide|omega) only[hA,Bool.not_not,go_sem]
 exact ZA (xs:=[.v (.bool (w.sv.all ZL))]) (.inr rfl) (by simp (disch:=first|decide|omega) only[JA,zA,go_sem,hA]) kO hR hB ⟨by unfold ZBt;rw[t1];rfl,rfl,rfl⟩
noncomputable def iK (w:Wd) (k:Nat):List Nat:=(List.range k).filter (uG w)
noncomputable def SO (w:Wd) (k:Nat):List (List IV):=(iK w k).map fun n:Nat=>eI n
theorem ZDM (w:Wd) (k:Nat):(iK w k).length≤k:=by
 unfold iK
 have:=List.length_filter_le (uG w) (List.range k)
 rwa [List.length_range]at this
theorem pX {w:Wd} {k:Nat} (h:uG w k=true):iK w (k+1)=iK w k++[k]:=by
 unfold iK;rw[List.range_succ,List.filter_append,List.filter_cons,if_pos h,List.filter_nil]
theorem ZDL {w:Wd} {k:Nat} (h:uG w k=false):iK w (k+1)=iK w k:=by
 unfold iK;rw[List.range_succ,List.filter_append,List.filter_cons,if_neg (by rw[h];simp),List.filter_nil,List.append_nil]
theorem ZA8 (w:Wd) (k:Nat):(SO w k).length=(iK w k).length:=by unfold SO;rw[List.length_map]
theorem ZA7 {w:Wd} {k:Nat} (h:uG w k=true):SO w (k+1)=SO w k++[[.int .i64 (k:Nat)]]:=by
 unfold SO;rw[pX h,List.map_append];rfl
theorem y5 {w:Wd} (h:wdB w=true):GF w.sv=true∧pE w.tr=true∧w.tr.length=w.sv.length∧nwB w.net=true:=by
 unfold wdB at h
 simp only[Bool.and_eq_true,decide_eq_true_eq]at h
 exact⟨h.1,h.2.2.2.2.1,h.2.2.2.2.2.1,h.2.2.1⟩
theorem I9 {l:List Sv} (h:GF l=true):l.length≤8:=by
 unfold GF at h
 rw[Bool.and_eq_true]at h
 have:=h.1
 unfold inZ at this
 simp only[Bool.and_eq_true,decide_eq_true_eq]at this
 omega
theorem tV (w:Wd) (hS:Small w.tr) (hN:Nm w.tr) (tR:SvsS w.sv) (O8:NwS w.net) (hv:wdB w=true) (b l:List Row):QA Tryz.prog 33 [.agg ((eWd w).map .v)] b l (fun r b' l'=>r=.tup [.v (.isl 1 (SO w w.sv.length)),.v (.int .i64 0)]∧b'=b∧l'=l):=by
 obtain⟨q1,q2,q3,q4⟩:=y5 hv
 refine VA wW rfl (by decide) ?_
 intro B g hB hR hE hA;simp only[xA]at hA
 have cV:=fun b l=>QG w hS.sm hN tR O8 b l
 have bW:(eWd w).map AV.v=[.v (.isl 6 (w.sv.map eSv)),.v (.int .i64 w.net.now),.v (.bool w.net.fifo),.v (.isl 4 (w.net.l.map eMs)),.v (.isl 1 (w.net.tm.map eI)),.v (.isl 2 (w.net.fates.map eFt)),.v (.int .i64 w.now),.v (.int .i64 w.sent),.v (.isl 3 (w.tr.map ePr))]:=rfl
 rw[bW,hv]at cV
 rw[bW]at hA
 have hs8:=I9 q1
 have hm0:(iK w 0).length=0:=rfl
 have hq0:SO w 0=[]:=rfl
 simp (disch:=first|decide|omega) only[a_wEnabl,hA,YA,cellsOf,go_sem]
 refine QA.nxt (cV _ _) ?_
 simp (disch:=first|decide|omega) only[hA,List.length_map,go_sem]
 refine bI (ι:=Nat) 4 1 TN (fun k=>[(12,.v (.int .i64 k)),(4,.sl (B.length+1) (iK w k).length 0 (iK w k).length)]) 2 (fun k=>[.live 0 9 [(eWd w).map .v],.live (iK w k).length 1 (vs (SO w k))])
  (fun k=>k≤w.sv.length) (fun k=>w.sv.length-k) 0 (Nat.zero_le _) (by simp (disch:=decide) only[hA,go_sem]) (by decide) (by decide) (by (repeat (first|exact hE.mono oM|refine KLt.up ?_ kL))) (by ((try simp (disch:=decide) only[hA,hm0,hq0,go_sem])<;>exact kH)) (fun e=>qA.refl _ _ _) ?_
 intro g1 mH wD KB k hk
 rw[bW]
 have hml:=ZDM w k
 have vU:=ZA8 w k
 by_cases qP:k<w.sv.length
 ·have cE:=fun b l=>QQ w tR hS q1 q3 k qP b l
  rw[bW]at cE
  simp (disch:=first|decide|omega) only[hA,KB,List.length_map,go_sem]
  refine QA.nxt (cE _ _) ?_
  cases t2:uG w k
  ·have hn1:=ZDL t2
   have hn2:SO w (k+1)=SO w k:=by unfold SO;rw[hn1]
   simp (disch:=first|decide|omega) only[hA,KB,go_sem]
   refine⟨k+1,qP,by simp only;omega,?_⟩
   simp only[hn1,hn2,bW]
   exact qA.kround (p:=TN) (k:=2) (by ((repeat refine (gA rfl).trans ?_);exact wD)) (by ((try simp (disch:=decide) only[hA,KB,go_sem])<;>exact kH)) rfl mH (by simp) kV hR kL
  ·have DX:=ZA7 t2
   have hn1:=pX t2
   have eW:(iK w (k+1)).length=(iK w k).length+1:=by rw[hn1];simp
   have tk:List.take (iK w k).length (SO w k)=SO w k:=List.take_of_length_le oM
   simp (disch:=first|decide|omega) only[hA,KB,vU,tk,←DX,YA,cellsOf,List.replicate_succ,List.replicate_zero,reduceCtorEq,go_sem]
   rw[←eW]
   refine⟨k+1,qP,by simp only;omega,?_⟩
   simp only[bW]
   exact qA.kround (p:=TN) (k:=2) (by ((repeat refine (gA rfl).trans ?_);exact wD)) (by ((try simp (disch:=decide) only[hA,go_sem])<;>exact kH)) rfl mH (by simp) kV hR kL
 ·obtain rfl:k=w.sv.length:=by omega
  simp (disch:=first|decide|omega) only[hA,KB,List.length_map,go_sem]
  exact AY (i:=1) (ver:=(iK w w.sv.length).length) (sz:=1) (n:=(iK w w.sv.length).length) (rows:=SO w w.sv.length) (.inr rfl) (by simp (disch:=first|decide|omega) only[JA,zA,hA,KB,go_sem]) rfl (by rw[vU]) hR hB ⟨rfl,rfl,rfl⟩
def a_wLocal:AFunc:=({c:=_}:CF Tryz.prog 135).c
theorem yW:dA Tryz.prog 135=some a_wLocal:=by kernel_rfl

def Sv.put (s:Sv) (i:Nat) (v:Int):Sv:={s with vars:=s.vars.set i v}
theorem DE (b l:List Row):QA Tryz.prog 135 [] b l (fun r b' l'=>r=.agg [.v (.int .i64 1),.v (.int .i64 0),.v (.int .i64 0),.v (.int .i64 0),.v .zsl]∧b'=b∧l'=l):=by
 refine VA yW rfl (by decide) ?_
 intro B g hB hR hE hA;simp only[xA]at hA
 simp (disch:=first|decide|omega) only[a_wLocal,YA,cellsOf,go_sem]
 exact ZA (xs:=[.agg [.v (.int .i64 1),.v (.int .i64 0),.v (.int .i64 0),.v (.int .i64 0),.v .zsl]]) (.inr rfl) (by simp (disch:=first|decide|omega) only[JA,zA,go_sem,hE]) kO hR hB ⟨rfl,rfl,rfl⟩
def a_wmsg:AFunc:=({c:=_}:CF Tryz.prog 158).c
theorem p7:dA Tryz.prog 158=some a_wmsg:=by kernel_rfl
def a_wnet:AFunc:=({c:=_}:CF Tryz.prog 117).c
theorem n7:dA Tryz.prog 117=some a_wnet:=by kernel_rfl
def j3:List (Nat×Nat):=[(5,5),(19,30)]

theorem YW (v:List In) (hn:v.length≤1000000) (b l:List Row):QA Tryz.prog 118 [.v (.isl 3 (v.map eIn))] b l (fun r b' l'=>r=.sl (b.length+l.length) 1 0 v.length∧b'=b∧l'=l++[.live 1 3 (vs (v.map eIn))]):=by
 have:=RH (P:=Tryz.prog) (f:=118) (sz:=3) (bytes:=24) (zs:=[.v (.int .i64 0),.v (.int .i64 0),.v (.int .i64 0)]) (by kernel_rfl) (by decide) (v.map eIn) (by simpa using hn) b l
 rwa [List.length_map]at this
theorem XW (v:List Vr) (hn:v.length≤1000000) (b l:List Row):QA Tryz.prog 120 [.v (.isl 2 (v.map eVr))] b l (fun r b' l'=>r=.sl (b.length+l.length) 1 0 v.length∧b'=b∧l'=l++[.live 1 2 (vs (v.map eVr))]):=by
 have:=RH (P:=Tryz.prog) (f:=120) (sz:=2) (bytes:=24) (zs:=[.v (.str ⟨#[]⟩),.v (.int .i64 0)]) (by kernel_rfl) (by decide) (v.map eVr) (by simpa using hn) b l
 rwa [List.length_map]at this
theorem JW (v:List Asg) (hn:v.length≤1000000) (b l:List Row):QA Tryz.prog 121 [.v (.isl 2 (v.map ZM))] b l (fun r b' l'=>r=.sl (b.length+l.length) 1 0 v.length∧b'=b∧l'=l++[.live 1 2 (vs (v.map ZM))]):=by
 have:=RH (P:=Tryz.prog) (f:=121) (sz:=2) (bytes:=16) (zs:=[.v (.int .i64 0),.v (.int .i64 0)]) (by kernel_rfl) (by decide) (v.map ZM) (by simpa using hn) b l
 rwa [List.length_map]at this
theorem j5 (m:Ms) (hn:m.body.length≤1000000) (b l:List Row):QA Tryz.prog 158 [.agg ((eMs m).map .v)] b l (fun r b' l'=>r=.agg ((eMs m).map .v)∧b'=b∧l'=l):=by
 refine VA p7 rfl (by decide) ?_
 intro B g hB hR hE hA;simp only[xA]at hA
 have heM:(eMs m).map AV.v=[.v (.int .i64 m.fr),.v (.int .i64 m.to),.v (.int .i64 m.nu),.v (.isl 1 (m.body.map eI))]:=rfl
 rw[heM]at hA
 simp (disch:=first|decide|omega) only[a_wmsg,hA,YA,cellsOf,go_sem]
 refine QA.nxt (SH m.body hn _ _) ?_
 simp (disch:=first|decide|omega) only[hA,YA,cellsOf,go_sem]
 refine nB (.inr rfl) (xs:=[.agg [.v (.int .i64 m.fr),.v (.int .i64 m.to),.v (.int .i64 m.nu),.sl (B.length+2) 1 0 m.body.length]]) (by simp (disch:=first|decide|omega) only[JA,zA,hA,go_sem]) ?_ hR hB ⟨rfl,rfl,rfl⟩
 exact Dv.aggL (.cons (.v _) (.cons (.v _) (.cons (.v _) (.cons (Dv.slV (i:=2) rfl (by rw[List.length_map])) .nil))))
theorem PM (v:List Int) (hn:v.length≤1000000) (b l:List Row):QA Tryz.prog 119 [.v (.isl 1 (v.map eI))] b l (fun r b' l'=>r=.v (.isl 1 (v.map eI))∧b'=b∧l'=l):=
 QA.deep (x:=.sl (b.length+l.length+0) 1 0 v.length) (Dv.slV (i:=0) rfl (by rw[List.length_map])) (SH v hn b l)
theorem QU (v:List (Int×Int)) (hn:v.length≤1000000) (b l:List Row):QA Tryz.prog 104 [.v (.isl 2 (v.map eFt))] b l (fun r b' l'=>r=.v (.isl 2 (v.map eFt))∧b'=b∧l'=l):=
 QA.deep (x:=.sl (b.length+l.length+0) 1 0 v.length) (Dv.slV (i:=0) rfl (by rw[List.length_map])) (zT v hn b l)
theorem z5 (n:Nw) (hS:NwS n) (b l:List Row):QA Tryz.prog 117 [.agg ((eNw n).map .v)] b l (fun r b' l'=>r=.agg ((eNw n).map .v)∧b'=b∧l'=l):=by
 refine VA n7 rfl (by decide) ?_
 intro B g hB hR hE hA;simp only[xA]at hA
 have heN:(eNw n).map AV.v=[.v (.int .i64 n.now),.v (.bool n.fifo),.v (.isl 4 (n.l.map eMs)),.v (.isl 1 (n.tm.map eI)),.v (.isl 2 (n.fates.map eFt))]:=rfl
 rw[heN]at hA
 have eW:=hS.l
 have cT:=fun b l=>PM n.tm hS.tm b l
 have cF:=fun b l=>QU n.fates hS.fates b l
 simp (disch:=first|decide|omega) only[a_wnet,hA,YA,cellsOf,go_sem]
 refine QA.nxt (cT _ _) ?_
 simp (disch:=first|decide|omega) only[hA,YA,cellsOf,go_sem]
 refine QA.nxt (cF _ _) ?_
 simp (disch:=first|decide|omega) only[hA,YA,cellsOf,List.length_map,go_sem]
 refine tA (ι:=Nat) j3 (fun i=>[(19,.v (.int .i64 i))]) 3 (fun i=>[.live 0 5 [[.v (.int .i64 n.now),.v (.bool n.fifo),.sl (B.length+2) i 0 i,.v (.isl 1 (n.tm.map eI)),.v (.isl 2 (n.fates.map eFt))]],.live 0 5 [[.v (.int .i64 0),.v (.bool false),.v .zsl,.v .zsl,.v .zsl]],.live i 4 (vs ((n.l.take i).map eMs))])
  (fun i=>i≤n.l.length) (fun i=>n.l.length-i) 0 (Nat.zero_le _) (by (repeat (first|exact hE.mono oM|refine KLt.up ?_ kL))) (by ((try simp (disch:=decide) only[hA,go_sem])<;>exact kH)) (fun e=>qA.nilcell (e:=e) (b:=B) (l:=[.live 0 5 [[.v (.int .i64 n.now),.v (.bool n.fifo),.v .zsl,.v (.isl 1 (n.tm.map eI)),.v (.isl 2 (n.fates.map eFt))]],.live 0 5 [[.v (.int .i64 0),.v (.bool false),.v .zsl,.v .zsl,.v .zsl]]]) (i:=0) (k:=0) (j:=2) (sz:=4) rfl rfl rfl) ?_
 intro g1 mH wD KB i hi
 by_cases LA:i<n.l.length
 ·have hgm:(n.l.map eMs)[i]? = some [.int .i64 n.l[i].fr,.int .i64 n.l[i].to,.int .i64 n.l[i].nu,.isl 1 (n.l[i].body.map eI)]:=by rw[List.getElem?_map,List.getElem?_eq_getElem LA];rfl
  have cM:=fun b l=>j5 n.l[i] (hS.body _ (List.getElem_mem LA)) b l
  have heM:(eMs n.l[i]).map AV.v=[.v (.int .i64 n.l[i].fr),.v (.int .i64 n.l[i].to),.v (.int .i64 n.l[i].nu),.v (.isl 1 (n.l[i].body.map eI))]:=rfl
  rw[heM]at cM
  have vU:((n.l.take i).map eMs).length=i:=by rw[List.length_map,List.length_take];omega
  have tk:List.take i ((n.l.take i).map eMs)=(n.l.take i).map eMs:=List.take_of_length_le oM
  have DX:(n.l.take (i+1)).map eMs=(n.l.take i).map eMs++[[.int .i64 n.l[i].fr,.int .i64 n.l[i].to,.int .i64 n.l[i].nu,.isl 1 (n.l[i].body.map eI)]]:=by
   rw[List.take_add_one,List.getElem?_eq_getElem LA,List.map_append];rfl
  have ZIV:vs ((n.l.take i).map eMs)++[[.v (.int .i64 n.l[i].fr),.v (.int .i64 n.l[i].to),.v (.int .i64 n.l[i].nu),.v (.isl 1 (n.l[i].body.map eI))]]=vs ((n.l.take (i+1)).map eMs):=by rw[DX];simp[vs]
  simp (disch:=first|decide|omega) only[hA,KB,hgm,YA,cellsOf,List.length_map,go_sem]
  refine QA.nxt (cM _ _) ?_
  simp (disch:=first|decide|omega) only[hA,KB,vU,tk,YA,cellsOf,List.length_map,List.replicate_succ,List.replicate_zero,reduceCtorEq,go_sem]
  rw[ZIV]
  refine⟨i+1,LA,by simp only;omega,?_⟩
  exact qA.kround (p:=j3) (k:=3) (by ((repeat refine (gA rfl).trans ?_);exact wD)) (by ((try simp (disch:=decide) only[hA,KB,go_sem])<;>exact kH)) rfl mH (by simp) kV hR kL
 ·obtain rfl:i=n.l.length:=by omega
  have xU:(n.l.take n.l.length)=n.l:=List.take_length
  simp (disch:=first|decide|omega) only[hA,KB,YA,cellsOf,List.length_map,go_sem]
  refine nB (.inr rfl) (xs:=[.agg [.v (.int .i64 n.now),.v (.bool n.fifo),.sl (B.length+2) n.l.length 0 n.l.length,.v (.isl 1 (n.tm.map eI)),.v (.isl 2 (n.fates.map eFt))]]) (by simp (disch:=first|decide|omega) only[JA,zA,hA,KB,go_sem]) ?_ hR hB ⟨rfl,rfl,rfl⟩
  rw[xU]
  exact Dv.aggL (.cons (.v _) (.cons (.v _) (.cons (Dv.slV (i:=2) rfl (by rw[List.length_map])) (.cons (.v _) (.cons (.v _) .nil)))))
def dfEv54:Ev:=⟨1,0,0,0,[]⟩
def yC (t:Tr) (p:Nat) (e:Ev):Tr:=t.set p {t.getD p dfPr with evs:=(t.getD p dfPr).evs++[e]}
def mJ (w:Wd) (p:Nat) (s:Sv) (e:Ev):Wd:={w with sv:=w.sv.set p s,tr:=yC w.tr p {e with time:=JI s w.now}}
def SQ (kd pe ms:Int) (i:Nat) (v:Int):Ev:=⟨kd,pe,ms,0,[⟨i,v⟩]⟩
noncomputable def V2 (w:Wd) (p:Nat) (s:Sv) (x:In):Wd:=
 if fiR w.net p<0 then mJ w p {s with pc:=x.b} dfEv54
 else if (xG w.tr 3 (w.net.l.getD (fiR w.net p).toNat dfMs).nu).2>0 then {mJ w p s dfEv54 with net:=woN w.net (fiR w.net p).toNat}
 else {mJ w p ({s with pc:=s.pc+1}.put x.a.toNat ((w.net.l.getD (fiR w.net p).toNat dfMs).body.getD 0 0)) (SQ 3 (w.net.l.getD (fiR w.net p).toNat dfMs).fr (w.net.l.getD (fiR w.net p).toNat dfMs).nu x.a.toNat ((w.net.l.getD (fiR w.net p).toNat dfMs).body.getD 0 0)) with net:=woN w.net (fiR w.net p).toNat}
def iH (w:Wd) (p:Nat) (s:Sv) (x:In):Ms:=⟨p,x.b,w.sent,[s.vars.getD x.a.toNat 0]⟩
noncomputable def stI (w:Wd) (p:Nat) (s:Sv) (x:In):Wd×Int:=
 if x.op=1 then (mJ w p ({s with pc:=s.pc+1}.put x.a.toNat x.b) (SQ 1 0 0 x.a.toNat x.b),0)
 else if x.op=2 then
  (if vlB (s.vars.getD x.a.toNat 0+x.b)=true then (mJ w p ({s with pc:=s.pc+1}.put x.a.toNat (s.vars.getD x.a.toNat 0+x.b)) (SQ 1 0 0 x.a.toNat (s.vars.getD x.a.toNat 0+x.b)),0) else (wd0,9))
 else if x.op=6 then
  (if 0<s.vars.getD x.b.toNat 0 then (mJ w p ({s with pc:=x.a}.put x.b.toNat (s.vars.getD x.b.toNat 0-1)) (SQ 1 0 0 x.b.toNat (s.vars.getD x.b.toNat 0-1)),0) else (mJ w p {s with pc:=s.pc+1} dfEv54,0))
 else if x.op=3 then
  (if sdE w.net (iH w p s x)=0 then ({mJ w p {s with pc:=s.pc+1} ⟨2,x.b,w.sent,0,[]⟩ with net:=sdR w.net (iH w p s x),sent:=w.sent+1},0) else (wd0,sdE w.net (iH w p s x)))
 else if x.op=4∨x.op=5 then (V2 w p s x,0)
 else (mJ w p {s with pc:=s.pc+1} dfEv54,0)
noncomputable def stW (w:Wd) (p:Nat):Wd×Int:=stI w p (w.sv.getD p dfSv) ((w.sv.getD p dfSv).code.getD (w.sv.getD p dfSv).pc.toNat mN)
theorem WW {t:Tr} {p q:Nat} (e:Ev) (h:p≠q):(yC t p e)[q]? = t[q]?:=by
 unfold yC;rw[List.getElem?_set_ne h]
theorem GW {t:Tr} {p:Nat} (e:Ev) (h:p<t.length):(yC t p e)[p]? = some {t[p] with evs:=t[p].evs++[e]}:=by
 unfold yC;rw[List.getElem?_set_self (by simpa using h)];simp[List.getD,h]
def svL (s:Sv) (id:Nat):List AV:=[.v (.str s.name),.v (.isl 3 (s.code.map eIn)),.v (.int .i64 s.pc),.sl id 1 0 s.vars.length,.v (.int .i64 s.off),.v (.int .i64 s.rate)]
def prL (x:Pr) (id:Nat):List AV:=[.v (.str x.name),.v (.isl 2 (x.vars.map eVr)),.sl id x.evs.length 0 x.evs.length]
def yG (w:Wd) (p id:Nat):List (List AV):=(vs (w.sv.map eSv)).set p (svL (w.sv.getD p dfSv) id)
def pN (w:Wd) (p id:Nat):List (List AV):=(vs (w.tr.map ePr)).set p (prL (w.tr.getD p dfPr) id)
def uT (w:Wd) (p q:Nat):Row:=.live w.sv.length 6 (yG w p (q+1))
def JS (w:Wd) (p:Nat):Row:=.live 1 1 (vs ((w.sv.getD p dfSv).vars.map eI))
def jV (w:Wd) (p q:Nat):Row:=.live w.tr.length 3 (pN w p (q+3))
def xT (w:Wd) (p:Nat):Row:=.live (w.tr.getD p dfPr).evs.length 5 (vs ((w.tr.getD p dfPr).evs.map eEv))
def mvC (w:Wd) (q:Nat):List AV:=[.sl q w.sv.length 0 w.sv.length,.v (.int .i64 w.net.now),.v (.bool w.net.fifo),.v (.isl 4 (w.net.l.map eMs)),.v (.isl 1 (w.net.tm.map eI)),.v (.isl 2 (w.net.fates.map eFt)),.v (.int .i64 w.now),.v (.int .i64 w.sent),.sl (q+2) w.tr.length 0 w.tr.length]
def qV (w:Wd) (q:Nat):Row:=.live 0 9 [mvC w q]
def ZBn (w:Wd) (p q:Nat):List Row:=[uT w p q,JS w p,jV w p q,xT w p]
def mvF (f:Nat→Row) (w:Wd) (p q:Nat):Nat→Row:=fun j =>
 if j=q then uT w p q else if j=q+1 then JS w p else if j=q+2 then jV w p q else if j=q+3 then xT w p else if j=q+4 then qV w q else f j
section
variable {f:Nat→Row} {w:Wd} {p q:Nat}
theorem zS:mvF f w p q q=uT w p q:=by unfold mvF;rw[if_pos rfl]
theorem iT:mvF f w p q (q+1)=JS w p:=by unfold mvF;rw[if_neg oM,if_pos rfl]
theorem yV:mvF f w p q (q+2)=jV w p q:=by unfold mvF;rw[if_neg oM,if_neg oM,if_pos rfl]
theorem vV:mvF f w p q (q+3)=xT w p:=by unfold mvF;rw[if_neg oM,if_neg oM,if_neg oM,if_pos rfl]
theorem KS:mvF f w p q (q+4)=qV w q:=by unfold mvF;rw[if_neg oM,if_neg oM,if_neg oM,if_neg oM,if_pos rfl]
theorem US {j:Nat} (h:j<q∨q+5≤j):mvF f w p q j=f j:=by unfold mvF;rw[if_neg oM,if_neg oM,if_neg oM,if_neg oM,if_neg oM]
theorem ZV {g:Nat→Row} {w':Wd} (h0:g q=uT w' p q) (h1:g (q+1)=JS w' p) (h2:g (q+2)=jV w' p q) (h3:g (q+3)=xT w' p) (h4:g (q+4)=qV w' q) (ho:∀j,j<q∨q+5≤j→g j=f j):g=mvF f w' p q:=by
 funext j
 by_cases c0:j=q
 ·rw[c0,h0,zS]
 by_cases c1:j=q+1
 ·rw[c1,h1,iT]
 by_cases c2:j=q+2
 ·rw[c2,h2,yV]
 by_cases c3:j=q+3
 ·rw[c3,h3,vV]
 by_cases c4:j=q+4
 ·rw[c4,h4,KS]
 rw[ho j oM,US oM]
end
theorem sF {w:Wd} {p id:Nat}:(yG w p id).length=w.sv.length:=by unfold yG;rw[List.length_set,XC,List.length_map]
theorem yH {w:Wd} {p id:Nat}:(pN w p id).length=w.tr.length:=by unfold pN;rw[List.length_set,XC,List.length_map]
theorem lM {w:Wd} {p id:Nat} (hp:p<w.sv.length):(yG w p id)[p]? = some (svL (w.sv.getD p dfSv) id):=by
 unfold yG;rw[List.getElem?_set_self (by rw[XC,List.length_map];exact hp)]
theorem V1 {w:Wd} {p i id:Nat} (hi:i<w.sv.length) (h:p≠i):(yG w p id)[i]? = some ((eSv (w.sv.getD i dfSv)).map .v):=by
 unfold yG;rw[List.getElem?_set_ne h,sB,List.getElem?_map,List.getElem?_eq_getElem hi,List.getD_eq_getElem?_getD,List.getElem?_eq_getElem hi];rfl
theorem OU {w:Wd} {p id:Nat} (hp:p<w.tr.length):(pN w p id)[p]? = some (prL (w.tr.getD p dfPr) id):=by
 unfold pN;rw[List.getElem?_set_self (by rw[XC,List.length_map];exact hp)]
theorem U1 {w:Wd} {p i id:Nat} (hi:i<w.tr.length) (h:p≠i):(pN w p id)[i]? = some ((ePr (w.tr.getD i dfPr)).map .v):=by
 unfold pN;rw[List.getElem?_set_ne h,sB,List.getElem?_map,List.getElem?_eq_getElem hi,List.getD_eq_getElem?_getD,List.getElem?_eq_getElem hi];rfl
theorem mem_set_cases {α:Type} {l:List α} {i:Nat} {a x:α} (h:x∈l.set i a):x∈l∨x=a:=List.mem_or_eq_of_mem_set h
theorem rU {w:Wd} {p id m:Nat} (h:id<m):∀row∈yG w p id,∀c∈row,AVlt m c:=fun row hr=>by
 rcases mem_set_cases hr with hr|hr
 ·exact (qK.2 trivial) row hr
 ·rw[hr];unfold svL;simp only[List.forall_mem_cons,JV,LP,true_and,and_true];exact⟨h,fun _ h=>by cases h⟩
theorem Q4 {w:Wd} {p id m:Nat} (h:id<m):∀row∈pN w p id,∀c∈row,AVlt m c:=fun row hr=>by
 rcases mem_set_cases hr with hr|hr
 ·exact (qK.2 trivial) row hr
 ·rw[hr];unfold prL;simp only[List.forall_mem_cons,JV,LP,true_and,and_true];exact⟨h,fun _ h=>by cases h⟩
theorem ZB4 {n i p:Nat} {l:List Row} {w:Wd} (hp:p<w.sv.length) (vM:p<w.tr.length) (h0:l[i]? = some (uT w p (n+i))) (h1:l[i+1]? = some (JS w p)) (h2:l[i+2]? = some (jV w p (n+i))) (h3:l[i+3]? = some (xT w p)):Dv n l (.agg (mvC w (n+i))) (.agg ((eWd w).map .v)):=by
 have e:(eWd w).map AV.v=[.v (.isl 6 (w.sv.map eSv)),.v (.int .i64 w.net.now),.v (.bool w.net.fifo),.v (.isl 4 (w.net.l.map eMs)),.v (.isl 1 (w.net.tm.map eI)),.v (.isl 2 (w.net.fates.map eFt)),.v (.int .i64 w.now),.v (.int .i64 w.sent),.v (.isl 3 (w.tr.map ePr))]:=rfl
 rw[e]
 unfold mvC
 have hA:Dv n l (.sl (n+i) w.sv.length 0 w.sv.length) (.v (.isl 6 (w.sv.map eSv))):=by
  refine Dv.slR h0 (by rw[sF];omega) (by rw[List.length_map]) (fun k r row g1 g2=>?_)
  rw[Nat.zero_add]at g1
  rw[List.getElem?_map]at g2
  have hk:k<w.sv.length:=by
   have:=(List.getElem?_eq_some_iff.1 g1).1
   rwa [sF]at this
  rw[List.getElem?_eq_getElem hk]at g2
  cases g2
  by_cases D0:p=k
  ·subst D0
   rw[lM hp,KA hp]at g1
   cases g1
   refine DvR.cons (.v _) (DvR.cons (.v _) (DvR.cons (.v _) (DvR.cons ?_ (DvR.cons (.v _) (DvR.cons (.v _) DvR.nil)))))
   rw[Nat.add_assoc]
   unfold JS at h1
   rw[KA hp]at h1
   exact Dv.slV h1 (by rw[List.length_map])
  ·rw[V1 hk D0,KA hk]at g1
   cases g1
   exact DvR.plain
 have hC:Dv n l (.sl (n+i+2) w.tr.length 0 w.tr.length) (.v (.isl 3 (w.tr.map ePr))):=by
  rw[Nat.add_assoc]
  refine Dv.slR h2 (by rw[yH];omega) (by rw[List.length_map]) (fun k r row g1 g2=>?_)
  rw[Nat.zero_add]at g1
  rw[List.getElem?_map]at g2
  have hk:k<w.tr.length:=by
   have:=(List.getElem?_eq_some_iff.1 g1).1
   rwa [yH]at this
  rw[List.getElem?_eq_getElem hk]at g2
  cases g2
  by_cases D0:p=k
  ·subst D0
   rw[OU vM,KA vM]at g1
   cases g1
   refine DvR.cons (.v _) (DvR.cons (.v _) (DvR.cons ?_ DvR.nil))
   rw[Nat.add_assoc]
   unfold xT at h3
   rw[KA vM]at h3
   exact Dv.slV h3 (by rw[List.length_map])
  ·rw[U1 hk D0,KA hk]at g1
   cases g1
   exact DvR.plain
 exact Dv.aggL (.cons hA (.cons (.v _) (.cons (.v _) (.cons (.v _) (.cons (.v _) (.cons (.v _) (.cons (.v _) (.cons (.v _) (.cons hC .nil)))))))))
attribute [local go_sem] UN AQ dL AN iL CN JB rG
def a_mev:AFunc:=({c:=_}:CF Tryz.prog 136).c
theorem ZAp:dA Tryz.prog 136=some a_mev:=by kernel_rfl

theorem JY {n q p:Nat} {f:Nat→Row} {w:Wd} {l B:List Row} (hn:q+5≤n) (hB:B=kB n (mvF f w p q)++l):∃m f',m=n+l.length∧B=kB m (mvF f' w p q)∧∀w',kB m (mvF f' w' p q)=kB n (mvF f w' p q)++l:=by
 obtain⟨m,g,hm,hBg,hg⟩:=ZDr B
 have hml:m=n+l.length:=by rw[hm,hB,List.length_append,JB]
 have gB:∀j,j<n→g j=mvF f w p q j:=fun j hj=>hg j _ (by rw[hB,List.getElem?_append_left (by rw[JB];exact hj),RG hj])
 have e:∀w',kB m (mvF g w' p q)=kB n (mvF f w' p q)++l:=fun w'=>by
  apply List.ext_getElem?
  intro j
  by_cases hj:j<n
  ·rw[RG oM,List.getElem?_append_left (by rw[JB];exact hj),RG hj]
   by_cases hq:j<q∨q+5≤j
   ·rw[US hq,US hq,gB j hj,US hq]
   ·obtain rfl|rfl|rfl|rfl|rfl:j=q∨j=q+1∨j=q+2∨j=q+3∨j=q+4:=by omega
    ·rw[zS,zS]
    ·rw[iT,iT]
    ·rw[yV,yV]
    ·rw[vV,vV]
    ·rw[KS,KS]
  ·rw[List.getElem?_append_right (by rw[JB];omega),JB]
   by_cases hj2:j<m
   ·rw[RG hj2,US (.inr oM)]
    have hl:j-n<l.length:=by omega
    rw[List.getElem?_eq_getElem hl]
    congr 1
    exact hg j _ (by rw[hB,List.getElem?_append_right (by rw[JB];omega),JB,List.getElem?_eq_getElem hl])
   ·rw[List.getElem?_eq_none (by rw[JB];omega),List.getElem?_eq_none oM]
 exact⟨m,g,hml,by rw[e w,←hB],e⟩
theorem LR {m q p:Nat} {f:Nat→Row} {w w':Wd} (hq:q+5≤m) (h:SA m (kB m (mvF f w p q))):SA m (kB m (mvF f w' p q)):=by
 intro id ver sz els hi row yE c hc
 have hl:id<m:=by
  have:=(List.getElem?_eq_some_iff.1 hi).1
  rwa [JB]at this
 rw[RG hl,Option.some.injEq]at hi
 by_cases ho:id<q∨q+5≤id
 ·rw[US ho]at hi
  exact h id ver sz els (by rw[RG hl,US ho,hi]) row yE c hc
 ·obtain rfl|rfl|rfl|rfl|rfl:id=q∨id=q+1∨id=q+2∨id=q+3∨id=q+4:=by omega
  ·rw[zS]at hi;cases hi;exact rU oM row yE c hc
  ·rw[iT]at hi;cases hi;exact (qK.2 trivial) row yE c hc
  ·rw[yV]at hi;cases hi;exact Q4 oM row yE c hc
  ·rw[vV]at hi;cases hi;exact (qK.2 trivial) row yE c hc
  ·rw[KS]at hi;cases hi
   have:∀row∈[mvC w' q],∀c∈row,AVlt m c:=by
    unfold mvC
    simp (disch:=omega) only[List.forall_mem_cons,List.forall_mem_nil,JV,LP,true_and,and_true,List.not_mem_nil,false_imp_iff,implies_true]
    omega
   exact this row yE c hc
theorem CC {rs:List ARes} {Q:AV→List Row→List Row→Prop} {B e l:_} {ex:AExit} (hex:ex=.normal∨ex=.ret) {xs:List AV} (hx:JA e B l rs=some xs) (LA:AVlt B.length (one xs)) (hR:SA B.length B) {n p q:Nat} {f f':Nat→Row} {w0 w':Wd} {b l0:List Row} (hb:b=kB n (mvF f w0 p q)) (hB:B=kB n (mvF f' w' p q)++l0) (hq:Q (one xs) (kB n (mvF f' w' p q)) l0):rI rs Q b.length ex e B l:=by
 have hbl:b.length=(kB n (mvF f' w' p q)).length:=by rw[hb,JB,JB]
 rw[hbl]
 exact ZA hex hx LA hR hB hq
def evW (w:Wd) (p:Nat) (e:Ev):Wd:={w with tr:=yC w.tr p {e with time:=JI (w.sv.getD p dfSv) w.now}}
theorem ZAN {w:Wd} {p id:Nat} {e:Ev} (hp:p<w.tr.length):(pN w p id).set p [.v (.str (w.tr.getD p dfPr).name),.v (.isl 2 ((w.tr.getD p dfPr).vars.map eVr)),.sl id ((w.tr.getD p dfPr).evs.length+1) 0 ((w.tr.getD p dfPr).evs.length+1)]=pN (evW w p e) p id:=by
 unfold pN
 rw[List.set_set]
 have hg:(evW w p e).tr.getD p dfPr={w.tr.getD p dfPr with evs:=(w.tr.getD p dfPr).evs++[{e with time:=JI (w.sv.getD p dfSv) w.now}]}:=by
  show (yC w.tr p _).getD p dfPr=_
  unfold yC
  rw[List.getD_eq_getElem?_getD,List.getElem?_set_self hp];rfl
 rw[hg]
 have hm:vs ((evW w p e).tr.map ePr)=(vs (w.tr.map ePr)).set p ((ePr {w.tr.getD p dfPr with evs:=(w.tr.getD p dfPr).evs++[{e with time:=JI (w.sv.getD p dfSv) w.now}]}).map .v):=by
  show vs ((yC w.tr p _).map ePr)=_
  unfold yC vs
  rw[List.map_set,List.map_set]
 rw[hm,List.set_set]
 unfold prL
 simp only[List.length_append,List.length_singleton]
theorem ZDJ {w:Wd} {p:Nat} {e:Ev} (hp:p<w.tr.length):(evW w p e).tr.getD p dfPr={w.tr.getD p dfPr with evs:=(w.tr.getD p dfPr).evs++[{e with time:=JI (w.sv.getD p dfSv) w.now}]}:=by
 show (yC w.tr p _).getD p dfPr=_
 unfold yC
 rw[List.getD_eq_getElem?_getD,List.getElem?_set_self hp];rfl
theorem UF {w:Wd} {p:Nat} {e:Ev}:(evW w p e).tr.length=w.tr.length:=by
 show (yC w.tr p _).length=_
 unfold yC;simp
theorem qX (f:Nat→Row) (w:Wd) (p q n:Nat) (hn:q+5≤n) (hp:p<w.sv.length) (vM:p<w.tr.length) (eW:w.sv.length≤1000000) (xU:w.tr.length≤1000000) (bJ:(w.tr.getD p dfPr).evs.length≤1000000) (e:Ev) (b l:List Row) (hb:b=kB n (mvF f w p q)) :
  QA Tryz.prog 136 [.ptr (q+4) 0 0 0,.v (.int .i64 p),.agg [.v (.int .i64 e.kind),.v (.int .i64 e.peer),.v (.int .i64 e.msg),.v (.int .i64 e.time),.v (.isl 2 (e.asg.map ZM))]] b l
   (fun r b' l'=>r=.tup []∧b'=kB n (mvF f (evW w p e) p q)∧l'=l):=by
 refine VA ZAp rfl (by decide) ?_
 intro B g hB hR hE hA;simp only[xA]at hA
 rw[hb]at hB
 obtain⟨m,f',hm,S0,MG⟩:=JY hn hB
 clear hB
 subst S0
 rw[JB]at hR
 obtain⟨s,hs⟩:∃s,w.sv.getD p dfSv=s:=⟨_,rfl⟩
 obtain⟨x,hx⟩:∃x,w.tr.getD p dfPr=x:=⟨_,rfl⟩
 obtain⟨SV,I2⟩:∃SV,yG w p (q+1)=SV:=⟨_,rfl⟩
 obtain⟨PR,hPR⟩:∃PR,pN w p (q+3)=PR:=⟨_,rfl⟩
 have MR:SV.length=w.sv.length:=by rw[←I2,sF]
 have hPl:PR.length=w.tr.length:=by rw[←hPR,yH]
 have gS:SV[p]? = some [.v (.str s.name),.v (.isl 3 (s.code.map eIn)),.v (.int .i64 s.pc),.sl (q+1) 1 0 s.vars.length,.v (.int .i64 s.off),.v (.int .i64 s.rate)]:=by rw[←I2,lM hp,hs];rfl
 have gP:PR[p]? = some [.v (.str x.name),.v (.isl 2 (x.vars.map eVr)),.sl (q+3) x.evs.length 0 x.evs.length]:=by rw[←hPR,OU vM,hx];rfl
 obtain⟨F,hF⟩:∃F,mvF f' w p q=F:=⟨_,rfl⟩
 have f0:F q=.live w.sv.length 6 SV:=by rw[←hF,zS,←I2];rfl
 have f2:F (q+2)=.live w.tr.length 3 PR:=by rw[←hF,yV,←hPR];rfl
 have f3:F (q+3)=.live x.evs.length 5 (vs (x.evs.map eEv)):=by rw[←hF,vV,←hx];rfl
 have f4:F (q+4)=.live 0 9 [[.sl q w.sv.length 0 w.sv.length,.v (.int .i64 w.net.now),.v (.bool w.net.fifo),.v (.isl 4 (w.net.l.map eMs)),.v (.isl 1 (w.net.tm.map eI)),.v (.isl 2 (w.net.fates.map eFt)),.v (.int .i64 w.now),.v (.int .i64 w.sent),.sl (q+2) w.tr.length 0 w.tr.length]]:=by rw[←hF,KS];rfl
 have gk:∀{j:Nat} {f:Nat→Row} {L:List Row},j<5→hget (kB m f) L (q+j)=some (f (q+j)):=fun hj=>JH oM
 have kn:∀{j:Nat} {f:Nat→Row} {r:Row},j<5→qE (kB m f) (q+j) r=kB m (rUp f (q+j) r):=fun hj=>uJ oM
 have kl:∀{j:Nat} {f:Nat→Row} {r:Row} {L:List Row},j<5→sE (kB m f) L (q+j) r=L:=fun hj=>xJ oM
 have gk0:∀{f:Nat→Row} {L:List Row},hget (kB m f) L q=some (f q):=JH oM
 have cC:=fun b l=>lK (.str s.name) (.isl 3 (s.code.map eIn)) (.int .i64 s.pc) (.sl (q+1) 1 0 s.vars.length) s w.now b l (.inr ⟨_,_,_,_,rfl⟩)
 rw[hx]at bJ
 have hye:(x.evs.map eEv).length=x.evs.length:=List.length_map _
 have htk:List.take x.evs.length (vs (x.evs.map eEv))=vs (x.evs.map eEv):=List.take_of_length_le (by rw[XC,hye];omega)
 rw[hF]at hR⊢
 simp (disch:=first|decide|omega) only[a_mev,hA,gk,gk0,f0,f4,gS,MR,YA,cellsOf,List.length_map,go_sem]
 refine QA.nxt (cC _ _) ?_
 simp (disch:=first|decide|omega) only[hA,gk,gk0,f0,f2,f3,f4,gP,hPl,hye,htk,YA,cellsOf,List.length_map,kn,kl,GA,iC,go_sem]
 have LG:rUp (rUp F (q+3) (.live (x.evs.length+1) 5 (vs (x.evs.map eEv++[[.int .i64 e.kind,.int .i64 e.peer,.int .i64 e.msg,.int .i64 (JI s w.now),.isl 2 (e.asg.map ZM)]])))) (q+2) (.live w.tr.length 3 (PR.set p [.v (.str x.name),.v (.isl 2 (x.vars.map eVr)),.sl (q+3) (x.evs.length+1) 0 (x.evs.length+1)]))=mvF f' (evW w p e) p q:=by
  refine ZV ?_ ?_ ?_ ?_ ?_ (fun j hj=>?_)
  ·rw[GA oM,GA oM,←hF,zS];rfl
  ·rw[GA oM,GA oM,←hF,iT];rfl
  ·rw[rG]
   unfold jV
   rw[UF,←ZAN vM,hx,hPR]
  ·rw[GA oM,rG]
   unfold xT
   rw[ZDJ vM,hx,hs]
   simp only[List.length_append,List.length_singleton,List.map_append]
   rfl
  ·rw[GA oM,GA oM,←hF,KS]
   unfold qV mvC
   rw[UF];rfl
  ·rw[GA oM,GA oM,←hF,US hj]
 rw[LG]
 exact CC (xs:=[]) (.inl rfl) (by simp (disch:=first|decide|omega) only[JA,zA,go_sem,hA]) kO (by rw[JB];rw[←hF]at hR;exact LR oM hR) hb (MG _) ⟨rfl,rfl,rfl⟩
def a_masg:AFunc:=({c:=_}:CF Tryz.prog 134).c
theorem L7:dA Tryz.prog 134=some a_masg:=by kernel_rfl
def a_msnd:AFunc:=({c:=_}:CF Tryz.prog 137).c
theorem P7:dA Tryz.prog 137=some a_msnd:=by kernel_rfl
def a_mrcv:AFunc:=({c:=_}:CF Tryz.prog 138).c
theorem M7:dA Tryz.prog 138=some a_mrcv:=by kernel_rfl

theorem EN (f:Nat→Row) (w:Wd) (p q n:Nat) (hn:q+5≤n) (hp:p<w.sv.length) (vM:p<w.tr.length) (eW:w.sv.length≤1000000) (xU:w.tr.length≤1000000) (bJ:(w.tr.getD p dfPr).evs.length≤1000000) (k pe ms:Int) (b l:List Row) (hb:b=kB n (mvF f w p q)) :
  QA Tryz.prog 136 [.ptr (q+4) 0 0 0,.v (.int .i64 p),.agg [.v (.int .i64 k),.v (.int .i64 pe),.v (.int .i64 ms),.v (.int .i64 0),.v .zsl]] b l
   (fun r b' l'=>r=.tup []∧b'=kB n (mvF f (evW w p ⟨k,pe,ms,0,[]⟩) p q)∧l'=l):=by
 refine (qX f w p q n hn hp vM eW xU bJ ⟨k,pe,ms,0,[]⟩ b l hb).le rfl (fun i x y hx hy=>?_)
 match i,hx,hy with
 |0,hx,hy=>cases hx;cases hy;exact .refl _
 |1,hx,hy=>cases hx;cases hy;exact .refl _
 |2,hx,hy =>
   cases hx;cases hy
   refine .agg _ _ rfl (fun j u v hu hv=>?_)
   match j,hu,hv with
   |0,hu,hv=>cases hu;cases hv;exact .refl _
   |1,hu,hv=>cases hu;cases hv;exact .refl _
   |2,hu,hv=>cases hu;cases hv;exact .refl _
   |3,hu,hv=>cases hu;cases hv;exact .refl _
   |4,hu,hv=>cases hu;cases hv;exact .v _ _ (.zsl 2)
def asW (w:Wd) (p:Nat) (e:Ev) (i:Nat) (v:Int):Wd:={evW w p {e with asg:=[⟨i,v⟩]} with sv:=w.sv.set p ((w.sv.getD p dfSv).put i v)}
theorem KX {w:Wd} {p id:Nat} {s:Sv} (hp:p<w.sv.length):(yG w p id).set p (svL s id)=yG {w with sv:=w.sv.set p s} p id:=by
 unfold yG
 rw[List.set_set]
 have hg:({w with sv:=w.sv.set p s}:Wd).sv.getD p dfSv=s:=by
  show (w.sv.set p s).getD p dfSv=s
  rw[List.getD_eq_getElem?_getD,List.getElem?_set_self hp];rfl
 rw[hg]
 have hm:vs (({w with sv:=w.sv.set p s}:Wd).sv.map eSv)=(vs (w.sv.map eSv)).set p ((eSv s).map .v):=by
  show vs ((w.sv.set p s).map eSv)=_
  unfold vs
  rw[List.map_set,List.map_set]
 rw[hm,List.set_set]
theorem XT (f:Nat→Row) (w:Wd) (p q n:Nat) (hn:q+5≤n) (hp:p<w.sv.length) (vM:p<w.tr.length) (eW:w.sv.length≤1000000) (xU:w.tr.length≤1000000) (bJ:(w.tr.getD p dfPr).evs.length≤1000000) (k pe ms:Int) (i:Nat) (hi:i<(w.sv.getD p dfSv).vars.length) (vU:(w.sv.getD p dfSv).vars.length≤1000000) (v:Int) (b l:List Row) (hb:b=kB n (mvF f w p q)) :
  QA Tryz.prog 134 [.ptr (q+4) 0 0 0,.v (.int .i64 p),.v (.int .i64 i),.v (.int .i64 v),.agg [.v (.int .i64 k),.v (.int .i64 pe),.v (.int .i64 ms),.v (.int .i64 0),.v .zsl]] b l
   (fun r b' l'=>r=.v (.int .i64 (if vlB v=true then 0 else 9))∧b'=kB n (mvF f (if vlB v=true then asW w p ⟨k,pe,ms,0,[]⟩ i v else w) p q)∧l'=l):=by
 refine VA L7 rfl (by decide) ?_
 intro B g hB hR hE hA;simp only[xA]at hA
 rw[hb]at hB
 obtain⟨m,f',hm,S0,MG⟩:=JY hn hB
 clear hB
 subst S0
 rw[JB]at hR
 have cB:=fun b l=>jL v b l
 obtain⟨F,hF⟩:∃F,mvF f' w p q=F:=⟨_,rfl⟩
 cases hv:vlB v
 ·rw[hv]at cB
  rw[if_neg (by simp),if_neg (by simp)]
  rw[hF]at hR⊢
  simp (disch:=first|decide|omega) only[a_masg,hA,YA,cellsOf,go_sem]
  refine QA.nxt (cB _ _) ?_
  simp (disch:=first|decide|omega) only[hA,go_sem]
  exact CC (xs:=[.v (.int .i64 9)]) (.inr rfl) (by simp (disch:=first|decide|omega) only[JA,zA,go_sem,hA]) kO (by rw[JB];exact hR) hb (by rw[←hF];exact MG w) ⟨rfl,rfl,rfl⟩
 rw[hv]at cB
 rw[if_pos rfl,if_pos rfl]
 obtain⟨w1,IE⟩:∃w1,evW w p ⟨k,pe,ms,0,[⟨i,v⟩]⟩=w1:=⟨_,rfl⟩
 have cE:=fun l=>qX f' w p q m oM hp vM eW xU bJ ⟨k,pe,ms,0,[⟨i,v⟩]⟩ (kB m F) l (by rw[hF])
 rw[IE]at cE
 obtain⟨F1,AK⟩:∃F1,mvF f' w1 p q=F1:=⟨_,rfl⟩
 rw[AK]at cE
 simp only[ZM,List.map_cons,List.map_nil]at cE
 have hR1:SA m (kB m F1):=by rw[←AK];exact LR oM hR
 have e1:w1.sv=w.sv:=by rw[←IE];rfl
 have e2:w1.net=w.net:=by rw[←IE];rfl
 have e3:w1.tr.length=w.tr.length:=by rw[←IE];exact UF
 have e4:w1.now=w.now:=by rw[←IE];rfl
 have e5:w1.sent=w.sent:=by rw[←IE];rfl
 obtain⟨s,hs⟩:∃s,w.sv.getD p dfSv=s:=⟨_,rfl⟩
 rw[hs]at hi vU
 obtain⟨SV,I2⟩:∃SV,yG w1 p (q+1)=SV:=⟨_,rfl⟩
 have MR:SV.length=w.sv.length:=by rw[←I2,sF,e1]
 have gS:SV[p]? = some [.v (.str s.name),.v (.isl 3 (s.code.map eIn)),.v (.int .i64 s.pc),.sl (q+1) 1 0 s.vars.length,.v (.int .i64 s.off),.v (.int .i64 s.rate)]:=by rw[←I2,lM (by rw[e1];exact hp),e1,hs];rfl
 have f0:F1 q=.live w.sv.length 6 SV:=by rw[←AK,zS,←I2,←e1];rfl
 obtain⟨rows,hr⟩:∃rows,s.vars.map eI=rows:=⟨_,rfl⟩
 have pS:rows.length=s.vars.length:=by rw[←hr,List.length_map]
 have hri:∀h:i<rows.length,rows[i]'h=[.int .i64 s.vars[i]]:=fun h=>by
  subst hr;rw[List.getElem_map];rfl
 have f1:F1 (q+1)=.live 1 1 (vs rows):=by rw[←AK,iT,←hr,←hs,←e1];rfl
 have f4:F1 (q+4)=.live 0 9 [[.sl q w.sv.length 0 w.sv.length,.v (.int .i64 w.net.now),.v (.bool w.net.fifo),.v (.isl 4 (w.net.l.map eMs)),.v (.isl 1 (w.net.tm.map eI)),.v (.isl 2 (w.net.fates.map eFt)),.v (.int .i64 w.now),.v (.int .i64 w.sent),.sl (q+2) w.tr.length 0 w.tr.length]]:=by rw[←AK,KS,←e1,←e2,←e3,←e4,←e5];rfl
 have gk:∀{j:Nat} {f:Nat→Row} {L:List Row},j<5→hget (kB m f) L (q+j)=some (f (q+j)):=fun hj=>JH oM
 have kn:∀{j:Nat} {f:Nat→Row} {r:Row},j<5→qE (kB m f) (q+j) r=kB m (rUp f (q+j) r):=fun hj=>uJ oM
 have kl:∀{j:Nat} {f:Nat→Row} {r:Row} {L:List Row},j<5→sE (kB m f) L (q+j) r=L:=fun hj=>xJ oM
 have gk0:∀{f:Nat→Row} {L:List Row},hget (kB m f) L q=some (f q):=JH oM
 rw[hF]at hR⊢
 simp (disch:=first|decide|omega) only[a_masg,hA,YA,cellsOf,go_sem]
 refine QA.nxt (cB _ _) ?_
 simp (disch:=first|decide|omega) only[hA,YA,cellsOf,iC,go_sem]
 refine QA.frzB (i:=1) (ver:=0) (sz:=2) (rows:=[[.int .i64 i,.int .i64 v]]) (args':=[.ptr (q+4) 0 0 0,.v (.int .i64 p),.agg [.v (.int .i64 k),.v (.int .i64 pe),.v (.int .i64 ms),.v (.int .i64 0),.v (.isl 2 [[.int .i64 i,.int .i64 v]])]]) rfl (by simp[frz,dF,JB]) ?_
 refine QA.nxt (cE _) ?_
 simp (disch:=first|decide|omega) only[hA,gk,gk0,f0,f1,f4,gS,MR,pS,hri,YA,cellsOf,List.length_map,kn,kl,GA,iC,List.set_cons_zero,go_sem]
 have LG:rUp F1 (q+1) (.live 1 1 (vs (rows.set i [.int .i64 v])))=mvF f' (asW w p ⟨k,pe,ms,0,[]⟩ i v) p q:=by
  have hw2:asW w p ⟨k,pe,ms,0,[]⟩ i v={w1 with sv:=w1.sv.set p (s.put i v)}:=by rw[←IE,←hs];rfl
  have hg:({w1 with sv:=w1.sv.set p (s.put i v)}:Wd).sv.getD p dfSv=s.put i v:=by
   show (w1.sv.set p (s.put i v)).getD p dfSv=_
   rw[List.getD_eq_getElem?_getD,List.getElem?_set_self (by rw[e1];exact hp)];rfl
  rw[hw2]
  refine ZV ?_ ?_ ?_ ?_ ?_ (fun j hj=>?_)
  ·rw[GA oM,←AK,zS]
   unfold uT
   rw[←KX (by rw[e1];exact hp)]
   have:svL (s.put i v) (q+1)=svL s (q+1):=by unfold svL Sv.put;simp
   rw[this]
   have h2:(yG w1 p (q+1)).set p (svL s (q+1))=yG w1 p (q+1):=by
    apply List.ext_getElem?
    intro j
    by_cases hj:p=j
    ·subst hj
     rw[List.getElem?_set_self (by rw[sF,e1];exact hp),lM (by rw[e1];exact hp),e1,hs]
    ·rw[List.getElem?_set_ne hj]
   rw[h2]
   congr 1
   simp
  ·rw[rG]
   unfold JS
   rw[hg,←hr]
   unfold Sv.put
   simp only[List.map_set]
   rfl
  ·rw[GA oM,←AK,yV];rfl
  ·rw[GA oM,←AK,vV];rfl
  ·rw[GA oM,←AK,KS]
   unfold qV mvC
   simp
  ·rw[GA oM,←AK,US hj]
 rw[LG]
 exact CC (xs:=[.v (.int .i64 0)]) (.inr rfl) (by simp (disch:=first|decide|omega) only[JA,zA,go_sem,hA]) kO (by rw[JB];rw[←AK]at hR1;exact LR oM hR1) hb (MG _) ⟨rfl,rfl,rfl⟩
theorem wE {f' F:Nat→Row} {w:Wd} {p q:Nat} (hp:p<w.sv.length) (vM:p<w.tr.length) (hF:mvF f' w p q=F) {s:Sv} (hs:w.sv.getD p dfSv=s) {SV:List (List AV)} (I2:yG w p (q+1)=SV) :
  SV.length=w.sv.length∧SV[p]? = some [.v (.str s.name),.v (.isl 3 (s.code.map eIn)),.v (.int .i64 s.pc),.sl (q+1) 1 0 s.vars.length,.v (.int .i64 s.off),.v (.int .i64 s.rate)]∧F q=.live w.sv.length 6 SV∧F (q+1)=.live 1 1 (vs (s.vars.map eI)) ∧
  F (q+4)=.live 0 9 [[.sl q w.sv.length 0 w.sv.length,.v (.int .i64 w.net.now),.v (.bool w.net.fifo),.v (.isl 4 (w.net.l.map eMs)),.v (.isl 1 (w.net.tm.map eI)),.v (.isl 2 (w.net.fates.map eFt)),.v (.int .i64 w.now),.v (.int .i64 w.sent),.sl (q+2) w.tr.length 0 w.tr.length]]:=by
 subst hs;subst I2;subst hF
 exact⟨sF,lM hp,zS,iT,KS⟩
theorem J1 {f':Nat→Row} {w:Wd} {p q:Nat} {n:Nw} {k:Int}:rUp (mvF f' w p q) (q+4) (.live 0 9 [[.sl q w.sv.length 0 w.sv.length,.v (.int .i64 n.now),.v (.bool n.fifo),.v (.isl 4 (n.l.map eMs)),.v (.isl 1 (n.tm.map eI)),.v (.isl 2 (n.fates.map eFt)),.v (.int .i64 w.now),.v (.int .i64 k),.sl (q+2) w.tr.length 0 w.tr.length]])=mvF f' {w with net:=n,sent:=k} p q:=by
 refine ZV ?_ ?_ ?_ ?_ ?_ (fun j hj=>?_)
 ·rw[GA oM,zS];rfl
 ·rw[GA oM,iT];rfl
 ·rw[GA oM,yV];rfl
 ·rw[GA oM,vV];rfl
 ·rw[rG];rfl
 ·rw[GA oM,US hj]
def pcW (w:Wd) (p:Nat) (c:Int):Wd:={w with sv:=w.sv.set p {w.sv.getD p dfSv with pc:=c}}
theorem jK {f':Nat→Row} {w:Wd} {p q:Nat} {c:Int} (hp:p<w.sv.length) {s:Sv} (hs:w.sv.getD p dfSv=s):rUp (mvF f' w p q) q (.live w.sv.length 6 ((yG w p (q+1)).set p [.v (.str s.name),.v (.isl 3 (s.code.map eIn)),.v (.int .i64 c),.sl (q+1) 1 0 s.vars.length,.v (.int .i64 s.off),.v (.int .i64 s.rate)]))=mvF f' (pcW w p c) p q:=by
 have hg:(pcW w p c).sv.getD p dfSv={s with pc:=c}:=by
  show (w.sv.set p {w.sv.getD p dfSv with pc:=c}).getD p dfSv=_
  rw[List.getD_eq_getElem?_getD,List.getElem?_set_self hp,hs];rfl
 refine ZV ?_ ?_ ?_ ?_ ?_ (fun j hj=>?_)
 ·rw[rG]
  have:=KX (id:=q+1) (s:={s with pc:=c}) hp
  unfold uT
  have e:pcW w p c={w with sv:=w.sv.set p {s with pc:=c}}:=by unfold pcW;rw[hs]
  rw[e,←this]
  congr 1
  simp
 ·rw[GA oM,iT]
  unfold JS
  rw[hg,hs]
 ·rw[GA oM,yV];rfl
 ·rw[GA oM,vV];rfl
 ·rw[GA oM,KS]
  unfold qV mvC pcW
  simp
 ·rw[GA oM,US hj]
theorem mv_tr {m p q:Nat} {f':Nat→Row} {w:Wd} {L:List Row} (hm:q+5≤m) (hp:p<w.sv.length) (vM:p<w.tr.length):Dv 0 (kB m (mvF f' w p q)++L) (.sl (q+2) w.tr.length 0 w.tr.length) (.v (.isl 3 (w.tr.map ePr))):=by
 have g:∀j r,j<m→mvF f' w p q j=r→(kB m (mvF f' w p q)++L)[j]? = some r:=fun j r hj h=>by
  rw[List.getElem?_append_left (by rw[JB];exact hj),RG hj,h]
 have:=ZB4 (n:=0) (i:=q) (l:=kB m (mvF f' w p q)++L) hp vM (g _ _ oM (by rw[Nat.zero_add];exact zS)) (g _ _ oM iT) (g _ _ oM (by rw[Nat.zero_add];exact yV)) (g _ _ oM vV)
 rw[Nat.zero_add]at this
 cases this with
 |agg _ _ _ h=>exact h 8 _ _ rfl rfl
theorem c6 (f:Nat→Row) (w:Wd) (p q n:Nat) (hn:q+5≤n) (hp:p<w.sv.length) (vM:p<w.tr.length) (eW:w.sv.length≤1000000) (xU:w.tr.length≤1000000) (bJ:(w.tr.getD p dfPr).evs.length≤1000000) (x:In) (i:Nat) (BP:x.a=i) (hi:i<(w.sv.getD p dfSv).vars.length) (vU:(w.sv.getD p dfSv).vars.length≤1000000) (DX:0≤w.sent∧w.sent≤1000)
  (hv:nwB w.net=true) (hm:msB (iH w p (w.sv.getD p dfSv) x)=true) (b l:List Row) (hb:b=kB n (mvF f w p q)) :
  QA Tryz.prog 137 [.ptr (q+4) 0 0 0,.v (.int .i64 p),.agg [.v (.int .i64 x.op),.v (.int .i64 x.a),.v (.int .i64 x.b)]] b l
   (fun r b' l'=>r=.v (.int .i64 (sdE w.net (iH w p (w.sv.getD p dfSv) x)))∧b'=kB n (mvF f (if sdE w.net (iH w p (w.sv.getD p dfSv) x)=0 then evW {w with net:=sdR w.net (iH w p (w.sv.getD p dfSv) x),sent:=w.sent+1} p ⟨2,x.b,w.sent,0,[]⟩ else w) p q)∧l'=l):=by
 refine VA P7 rfl (by decide) ?_
 intro B g hB hR hE hA;simp only[xA]at hA
 rw[hb]at hB
 obtain⟨m,f',hm0,S0,MG⟩:=JY hn hB
 clear hB
 subst S0
 rw[JB]at hR
 obtain⟨s,hs⟩:∃s,w.sv.getD p dfSv=s:=⟨_,rfl⟩
 obtain⟨SV,I2⟩:∃SV,yG w p (q+1)=SV:=⟨_,rfl⟩
 obtain⟨F,hF⟩:∃F,mvF f' w p q=F:=⟨_,rfl⟩
 obtain⟨MR,gS,f0,f1,f4⟩:=wE hp vM hF hs I2
 rw[hs]at hi vU hm⊢
 have gk:∀{j:Nat} {f:Nat→Row} {L:List Row},j<5→hget (kB m f) L (q+j)=some (f (q+j)):=fun hj=>JH oM
 have kn:∀{j:Nat} {f:Nat→Row} {r:Row},j<5→qE (kB m f) (q+j) r=kB m (rUp f (q+j) r):=fun hj=>uJ oM
 have kl:∀{j:Nat} {f:Nat→Row} {r:Row} {L:List Row},j<5→sE (kB m f) L (q+j) r=L:=fun hj=>xJ oM
 have gk0:∀{f:Nat→Row} {L:List Row},hget (kB m f) L q=some (f q):=JH oM
 have k9:=mE hi
 obtain⟨u,huu⟩:∃u,s.vars.getD i 0=u:=⟨_,rfl⟩
 rw[huu]at k9
 obtain⟨mg,y9⟩:∃mg,iH w p s x=mg:=⟨_,rfl⟩
 have hmd:mg=⟨p,x.b,w.sent,[u]⟩:=by rw[←y9];unfold iH;rw[BP,Int.toNat_natCast,huu]
 rw[y9]at hm⊢
 have cS:∀b l,QA Tryz.prog 169 [.agg ((eNw w.net).map .v),.agg [.v (.int .i64 p),.v (.int .i64 x.b),.v (.int .i64 w.sent),.v (.isl 1 [[.int .i64 u]])]] b l (fun r b' l'=>r=.tup [nwA (sdR w.net mg),.v (.int .i64 (sdE w.net mg))]∧b'=b∧l'=l):=fun b l=>by
  have:=FY w.net mg b l
  have e2:yP w.net mg=sdE w.net mg:=by unfold yP;rw[if_pos hv,if_pos hm]
  have e1:ZBl w.net mg=sdR w.net mg:=by unfold ZBl sdR;rw[e2]
  rw[e1,e2,hmd]at this
  rw[hmd]
  exact this
 obtain⟨n2,hn2⟩:∃n2,sdR w.net mg=n2:=⟨_,rfl⟩
 obtain⟨er,her⟩:∃er,sdE w.net mg=er:=⟨_,rfl⟩
 rw[hn2,her]at cS
 rw[her,hn2]
 simp only[eNw,nwA,List.map_cons,List.map_nil]at cS
 have CK:∀h:i<s.vars.length,eI (s.vars[i]'h)=[.int .i64 u]:=fun h=>by rw[←huu,KA h];rfl
 have hws:IntKind.i64.wrap (w.sent+1)=w.sent+1:=VB oM oM
 rw[hF]at hR⊢
 simp (disch:=first|decide|omega) only[a_msnd,hA,gk,gk0,f0,f1,f4,gS,MR,BP,k9,YA,cellsOf,List.length_map,go_sem]
 refine QA.frzB (i:=1) (ver:=0) (sz:=1) (rows:=[[.int .i64 u]]) (args':=[.agg [.v (.int .i64 w.net.now),.v (.bool w.net.fifo),.v (.isl 4 (w.net.l.map eMs)),.v (.isl 1 (w.net.tm.map eI)),.v (.isl 2 (w.net.fates.map eFt))],.agg [.v (.int .i64 p),.v (.int .i64 x.b),.v (.int .i64 w.sent),.v (.isl 1 [[.int .i64 u]])]]) rfl (by simp[frz,dF,JB]) ?_
 refine QA.nxt (cS _ _) ?_
 by_cases he:er=0
 ·have e0:(er != 0)=false:=by simpa using he
  rw[if_pos he]
  simp (disch:=first|decide|omega) only[hA,e0,gk,gk0,f0,f1,f4,gS,MR,BP,k9,CK,hws,YA,cellsOf,List.length_map,kn,kl,GA,iC,go_sem]
  obtain⟨w1,IE⟩:∃w1:Wd,({w with net:=n2,sent:=w.sent+1}:Wd)=w1:=⟨_,rfl⟩
  have G0:rUp (mvF f' {w with net:=n2} p q) (q+4) (.live 0 9 [[.sl q w.sv.length 0 w.sv.length,.v (.int .i64 n2.now),.v (.bool n2.fifo),.v (.isl 4 (n2.l.map eMs)),.v (.isl 1 (n2.tm.map eI)),.v (.isl 2 (n2.fates.map eFt)),.v (.int .i64 w.now),.v (.int .i64 (w.sent+1)),.sl (q+2) w.tr.length 0 w.tr.length]])=mvF f' w1 p q:=by
   rw[←IE];exact J1 (w:={w with net:=n2})
  rw[←hF,J1,G0]
  have cE:=fun l=>EN f' w1 p q m oM (by rw[←IE];exact hp) (by rw[←IE];exact vM) (by rw[←IE];exact eW) (by rw[←IE];exact xU) (by rw[←IE];exact bJ) 2 x.b w.sent (kB m (mvF f' w1 p q)) l rfl
  refine QA.nxt (cE _) ?_
  simp (disch:=first|decide|omega) only[hA,go_sem]
  rw[he,IE]
  exact CC (xs:=[.v (.int .i64 0)]) (.inr rfl) (by simp (disch:=first|decide|omega) only[JA,zA,go_sem,hA]) kO (by rw[JB];rw[←hF]at hR;exact LR oM hR) hb (MG _) ⟨rfl,rfl,rfl⟩
 ·have e0:(er != 0)=true:=by simpa using he
  rw[if_neg he]
  simp (disch:=first|decide|omega) only[hA,e0,gk,gk0,f0,f1,f4,gS,MR,BP,k9,CK,YA,cellsOf,List.length_map,go_sem]
  exact CC (xs:=[.v (.int .i64 er)]) (.inr rfl) (by simp (disch:=first|decide|omega) only[JA,zA,go_sem,hA]) kO (by rw[JB];exact hR) hb (by rw[←hF];exact MG w) ⟨rfl,rfl,rfl⟩
theorem G6 (f:Nat→Row) (w:Wd) (p q n:Nat) (hn:q+5≤n) (hp:p<w.sv.length) (vM:p<w.tr.length) (hS:Small w.tr) (hN:Nm w.tr) (eW:w.sv.length≤1000000) (x:In) (i:Nat) (BP:x.a=i) (hi:i<(w.sv.getD p dfSv).vars.length) (vU:(w.sv.getD p dfSv).vars.length≤1000000)
  (hv:nwB w.net=true) (hpo:ptB p=true) (k:Nat) (hk:fiR w.net p=k) (mg:Ms) (y9:w.net.l.getD k dfMs=mg) (v:Int) (C8:mg.body=[v]) (lS:vlB v=true) (b l:List Row) (hb:b=kB n (mvF f w p q)) :
  QA Tryz.prog 138 [.ptr (q+4) 0 0 0,.v (.int .i64 p),.agg [.v (.int .i64 x.op),.v (.int .i64 x.a),.v (.int .i64 x.b)]] b l
   (fun r b' l'=>r=.v (.bool (!decide (0<(SC w.tr 3 mg.nu).2)))∧b'=kB n (mvF f (if 0<(SC w.tr 3 mg.nu).2 then evW {w with net:=woN w.net k} p ⟨1,0,0,0,[]⟩ else asW {w with net:=woN w.net k} p ⟨3,mg.fr,mg.nu,0,[]⟩ i v) p q)∧l'=l):=by
 refine VA M7 rfl (by decide) ?_
 intro B g hB hR hE hA;simp only[xA]at hA
 rw[hb]at hB
 obtain⟨m,f',hm0,S0,MG⟩:=JY hn hB
 clear hB
 subst S0
 rw[JB]at hR
 obtain⟨s,hs⟩:∃s,w.sv.getD p dfSv=s:=⟨_,rfl⟩
 obtain⟨SV,I2⟩:∃SV,yG w p (q+1)=SV:=⟨_,rfl⟩
 obtain⟨F,hF⟩:∃F,mvF f' w p q=F:=⟨_,rfl⟩
 obtain⟨MR,gS,f0,f1,f4⟩:=wE hp vM hF hs I2
 have gk:∀{j:Nat} {f:Nat→Row} {L:List Row},j<5→hget (kB m f) L (q+j)=some (f (q+j)):=fun hj=>JH oM
 have kn:∀{j:Nat} {f:Nat→Row} {r:Row},j<5→qE (kB m f) (q+j) r=kB m (rUp f (q+j) r):=fun hj=>uJ oM
 have kl:∀{j:Nat} {f:Nat→Row} {r:Row} {L:List Row},j<5→sE (kB m f) L (q+j) r=L:=fun hj=>xJ oM
 have gk0:∀{f:Nat→Row} {L:List Row},hget (kB m f) L q=some (f q):=JH oM
 have he:rcE w.net p=0:=by unfold rcE;rw[if_pos hv,if_pos hpo,if_neg oM]
 have DN:(fiR w.net p).toNat=k:=by rw[hk];rfl
 have hNN:rcN w.net p=woN w.net k:=by unfold rcN;rw[if_pos he,DN]
 have hMm:rcM w.net p=mg:=by unfold rcM;rw[if_pos he,DN,y9]
 have cR:=fun b l=>EY w.net p b l
 rw[he,hNN,hMm]at cR
 obtain⟨n2,hn2⟩:∃n2,woN w.net k=n2:=⟨_,rfl⟩
 rw[hn2]at cR⊢
 simp only[eNw,nwA,eMs,C8,List.map_cons,List.map_nil,eI]at cR
 have ZHP:∀F0:Nat→Row,F0=mvF f' w p q→rUp F0 (q+4) (.live 0 9 [[.sl q w.sv.length 0 w.sv.length,.v (.int .i64 n2.now),.v (.bool n2.fifo),.v (.isl 4 (n2.l.map eMs)),.v (.isl 1 (n2.tm.map eI)),.v (.isl 2 (n2.fates.map eFt)),.v (.int .i64 w.now),.v (.int .i64 w.sent),.sl (q+2) w.tr.length 0 w.tr.length]])=mvF f' {w with net:=n2} p q:=fun F0 h=>by rw[h];exact J1
 obtain⟨w1,IE⟩:∃w1:Wd,({w with net:=n2}:Wd)=w1:=⟨_,rfl⟩
 rw[IE]at ZHP⊢
 have e1:w1.sv=w.sv:=by rw[←IE]
 have e3:w1.tr=w.tr:=by rw[←IE]
 have xU:=hS.np
 have bJ:(w1.tr.getD p dfPr).evs.length≤1000000:=by rw[e3,KA vM];exact hS.ne _ (List.getElem_mem vM)
 have cE:=fun l=>EN f' w1 p q m oM (by rw[e1];exact hp) (by rw[e3];exact vM) (by rw[e1];exact eW) (by rw[e3];exact xU) bJ 1 0 0 (kB m (mvF f' w1 p q)) l rfl
 have cA:=fun l=>XT f' w1 p q m oM (by rw[e1];exact hp) (by rw[e3];exact vM) (by rw[e1];exact eW) (by rw[e3];exact xU) bJ 3 mg.fr mg.nu i (by rw[e1];exact hi) (by rw[e1];exact vU) v (kB m (mvF f' w1 p q)) l rfl
 rw[if_pos lS,if_pos lS]at cA
 have cF:∀l,QA Tryz.prog 171 [.agg [.sl (q+2) w.tr.length 0 w.tr.length],.v (.int .i64 mg.nu)] (kB m (mvF f' w1 p q)) l (fun r b' l'=>r=.tup [idA (SC w.tr 3 mg.nu),.v (.bool (decide (0<(SC w.tr 3 mg.nu).2)))]∧b'=kB m (mvF f' w1 p q)∧l'=l):=fun l =>
  QA.peek (args':=[.agg [.v (eT w.tr)],.v (.int .i64 mg.nu)]) rfl (fun i z y hz hy=>by
   match i,hz,hy with
   |0,hz,hy =>
     cases hz;cases hy
     refine Dv.aggL (.cons ?_ .nil)
     have:=mv_tr (m:=m) (f':=f') (w:=w1) (p:=p) (q:=q) (L:=l) oM (by rw[e1];exact hp) (by rw[e3];exact vM)
     rw[e3]at this
     exact this
   |1,hz,hy=>cases hz;cases hy;exact .v _) (.tup fun c hc=>by
   simp only[List.mem_cons,List.not_mem_nil,or_false]at hc
   rcases hc with rfl|rfl
   ·exact .agg fun c hc=>by
     simp only[List.mem_cons,List.not_mem_nil,or_false]at hc
     rcases hc with rfl|rfl<;>exact .int
   ·exact .bool) (pR w.tr hS hN _ _ mg.nu)
 simp only[idA]at cF
 rw[hF]at hR⊢
 have ZG6:=ZHP F hF.symm
 have g4:mvF f' w1 p q (q+4)=.live 0 9 [[.sl q w.sv.length 0 w.sv.length,.v (.int .i64 n2.now),.v (.bool n2.fifo),.v (.isl 4 (n2.l.map eMs)),.v (.isl 1 (n2.tm.map eI)),.v (.isl 2 (n2.fates.map eFt)),.v (.int .i64 w.now),.v (.int .i64 w.sent),.sl (q+2) w.tr.length 0 w.tr.length]]:=by rw[KS,←IE];rfl
 simp (disch:=first|decide|omega) only[a_mrcv,hA,gk,gk0,f0,f4,YA,cellsOf,List.length_map,go_sem]
 refine QA.nxt (cR _ _) ?_
 simp (disch:=first|decide|omega) only[hA,gk,gk0,f0,f4,YA,cellsOf,List.length_map,kn,kl,GA,iC,go_sem]
 rw[ZG6]
 refine QA.nxt (cF _) ?_
 by_cases ha:0<(SC w.tr 3 mg.nu).2
 ·have d1:decide (0<(SC w.tr 3 mg.nu).2)=true:=decide_eq_true ha
  rw[if_pos ha,d1]
  simp (disch:=first|decide|omega) only[hA,gk,gk0,g4,YA,cellsOf,List.length_map,iC,go_sem]
  refine QA.nxt (DE _ _) ?_
  simp (disch:=first|decide|omega) only[hA,go_sem]
  refine QA.nxt (cE _) ?_
  simp (disch:=first|decide|omega) only[hA,go_sem]
  exact CC (xs:=[.v (.bool false)]) (.inr rfl) (by simp (disch:=first|decide|omega) only[JA,zA,go_sem,hA]) kO (by rw[JB];rw[←hF]at hR;exact LR oM hR) hb (MG _) ⟨rfl,rfl,rfl⟩
 ·have d1:decide (0<(SC w.tr 3 mg.nu).2)=false:=decide_eq_false ha
  rw[if_neg ha,d1]
  have h00:Int.toNat 0=0:=rfl
  simp (disch:=first|decide|omega) only[hA,BP,gk,gk0,g4,h00,YA,cellsOf,List.length_map,iC,go_sem]
  refine QA.nxt (cA _) ?_
  simp (disch:=first|decide|omega) only[hA,go_sem]
  exact CC (xs:=[.v (.bool true)]) (.inr rfl) (by simp (disch:=first|decide|omega) only[JA,zA,go_sem,hA]) kO (by rw[JB];rw[←hF]at hR;exact LR oM hR) hb (MG _) ⟨rfl,rfl,rfl⟩
structure NewEv (t:Tr) (p:Nat) (e:Ev):Prop where
 v:Vok t
 hp:p<t.length
 room:(DA t p).length<64
 form:CB t.length p e=true
 tm:inB e.time 0 1099511627776=true
 last:∀i,(DA t p).length=i+1→((DA t p).getD i lJ).time≤e.time
 al:e.asg.length≤8
 af:vC (QL (t.getD p dfPr).vars.length e.asg) e.asg.length=0
 snd:e.kind=2→∀x∈ids t,(sA t x).kind=2→(sA t x).msg≠e.msg
 rcv:e.kind=3→(∀x∈ids t,(sA t x).kind=3→(sA t x).msg≠e.msg)∧AF t e.peer.toNat e.msg p=true
theorem lH {t:Tr} {p:Nat} {e:Ev}:(yC t p e).length=t.length:=by unfold yC;simp
theorem DL {t:Tr} {p:Nat} {e:Ev} (hp:p<t.length):(yC t p e).getD p dfPr={t.getD p dfPr with evs:=DA t p++[e]}:=by
 rw[List.getD_eq_getElem?_getD,GW e hp,KA hp,LF hp];rfl
theorem xN {t:Tr} {p q:Nat} {e:Ev} (h:p≠q):(yC t p e).getD q dfPr=t.getD q dfPr:=by
 rw[List.getD_eq_getElem?_getD,WW e h,List.getD_eq_getElem?_getD]
theorem kK {t:Tr} {p:Nat} {e:Ev} (hp:p<t.length):DA (yC t p e) p=DA t p++[e]:=by
 show ((yC t p e).getD p dfPr).evs=_
 rw[DL hp]
theorem AO {t:Tr} {p q:Nat} {e:Ev} (h:p≠q):DA (yC t p e) q=DA t q:=by
 show ((yC t p e).getD q dfPr).evs=_
 rw[xN h];rfl
theorem yK {t:Tr} {p:Nat} {e:Ev} (hp:p<t.length) {x:Nat×Nat}:x∈ids (yC t p e)↔x∈ids t∨x=(p,(DA t p).length+1):=by
 obtain⟨q,i⟩:=x
 cases i with
 |zero =>
   constructor
   ·intro h;have:=eG h;simp only at this;omega
   ·rintro (h|h)
    ·have:=eG h;simp only at this;omega
    ·have:=congrArg Prod.snd h;simp only at this;omega
 |succ i =>
   rw[fE,fE,lH]
   by_cases hq:p=q
   ·subst hq
    rw[kK hp,List.length_append,List.length_singleton]
    constructor
    ·rintro⟨_,h⟩
     rcases Nat.lt_or_ge i (DA t p).length with h2|h2
     ·exact .inl ⟨hp,h2⟩
     ·exact .inr (by rw[show i=(DA t p).length by omega])
    ·rintro (⟨_,h⟩|h)
     ·exact⟨hp,by omega⟩
     ·have:=congrArg Prod.snd h;simp only at this;exact⟨hp,by omega⟩
   ·rw[AO hq]
    constructor
    ·exact fun h=>.inl h
    ·rintro (h|h)
     ·exact h
     ·exact absurd (congrArg Prod.fst h).symm hq
theorem ZEh {t:Tr} {p:Nat}:(p,(DA t p).length+1)∉ids t:=fun h=>by
 have:=(fE.1 h).2;omega
theorem KJ {t:Tr} {p:Nat} {e:Ev} (hp:p<t.length) {x:Nat×Nat} (hx:x∈ids t):sA (yC t p e) x=sA t x:=by
 obtain⟨q,i⟩:=x
 obtain⟨i,rfl⟩:∃k,i=k+1:=⟨i-1,by have:=eG hx;simp only at this;omega⟩
 obtain⟨_,h2⟩:=fE.1 hx
 unfold sA
 simp only[Nat.add_sub_cancel]
 by_cases hq:p=q
 ·subst hq
  rw[kK hp,List.getD_eq_getElem?_getD,List.getElem?_append_left h2,List.getD_eq_getElem?_getD]
 ·rw[AO hq]
theorem wK {t:Tr} {p:Nat} {e:Ev} (hp:p<t.length):sA (yC t p e) (p,(DA t p).length+1)=e:=by
 unfold sA
 simp only[Nat.add_sub_cancel]
 rw[kK hp,List.getD_eq_getElem?_getD,List.getElem?_append_right (Nat.le_refl _),Nat.sub_self];rfl
theorem BI {t:Tr} {k m:Int} {x:Nat×Nat} (h:mD t k m=some x):x∈ids t:=List.mem_of_find?_eq_some h
theorem ZDI {t:Tr} {k m:Int} (h:∀z∈ids t,(sA t z).kind=k→(sA t z).msg≠m):mD t k m=none:=by
 cases hf:mD t k m with
 |none=>rfl
 |some z=>exact absurd (AE hf).2 (h z (BI hf) (AE hf).1)
theorem I4 {t:Tr} {k m:Int} {x:Nat×Nat} (hx:x∈ids t) (hk:(sA t x).kind=k) (hm:(sA t x).msg=m) (hu:∀z∈ids t,(sA t z).kind=k→(sA t z).msg=m→z=x):mD t k m=some x:=by
 cases hf:mD t k m with
 |none =>
   have:=List.find?_eq_none.1 hf x hx
   rw[hk,hm]at this;simp at this
 |some z=>rw[hu z (BI hf) (AE hf).1 (AE hf).2]
theorem NewEv.fresh {t:Tr} {p:Nat} {e:Ev} (h:NewEv t p e) {k:Int} (hk:k=2∨k=3) (he:e.kind=k) {x:Nat×Nat} (hx:x∈ids t) (hxk:(sA t x).kind=k):(sA t x).msg≠e.msg:=by
 rcases hk with rfl|rfl
 ·exact h.snd he x hx hxk
 ·exact (h.rcv he).1 x hx hxk
theorem LI {t:Tr} {p:Nat} {e:Ev} (h:NewEv t p e) {k m:Int} (hk:k=2∨k=3):mD (yC t p e) k m=if e.kind=k∧e.msg=m then some (p,(DA t p).length+1) else mD t k m:=by
 have hp:=h.hp
 split
 ·rename_i hc
  obtain⟨h1,h2⟩:=hc
  refine I4 ((yK hp).2 (.inr rfl)) (by rw[wK hp];exact h1) (by rw[wK hp];exact h2) (fun z hz hzk hzm=>?_)
  rcases (yK hp).1 hz with hz|hz
  ·rw[KJ hp hz]at hzk hzm
   exact absurd (hzm.trans h2.symm) (h.fresh hk h1 hz hzk)
  ·exact hz
 ·rename_i hc
  cases hf:mD t k m with
  |none =>
    refine ZDI (fun z hz hzk hzm=>?_)
    rcases (yK hp).1 hz with hz|hz
    ·rw[KJ hp hz]at hzk hzm
     have:=List.find?_eq_none.1 hf z hz
     rw[hzk,hzm]at this;simp at this
    ·rw[hz,wK hp]at hzk hzm
     exact hc ⟨hzk,hzm⟩
  |some x =>
    have hx:=BI hf
    obtain⟨k1,k2⟩:=AE hf
    refine I4 ((yK hp).2 (.inl hx)) (by rw[KJ hp hx];exact k1) (by rw[KJ hp hx];exact k2) (fun z hz hzk hzm=>?_)
    rcases (yK hp).1 hz with hz|hz
    ·rw[KJ hp hz]at hzk hzm
     have:=ON h.v hz hk hzk
     rw[hzm,hf]at this
     exact (Option.some.inj this).symm
    ·rw[hz,wK hp]at hzk hzm
     exact absurd ⟨hzk,hzm⟩ hc
theorem HW {t:Tr} {p q:Nat} {e:Ev} (hp:p<t.length) {m to:Int} (h:AF t q m to=true):AF (yC t p e) q m to=true:=by
 unfold AF at h⊢
 by_cases hq:p=q
 ·subst hq
  rw[kK hp,List.any_append,h];rfl
 ·rw[AO hq];exact h
theorem ZCS {t:Tr} {p:Nat} {e:Ev} (h:NewEv t p e) {x:Nat×Nat} (hx:x∈ids (yC t p e)):ZE (yC t p e) x=0:=by
 have hp:=h.hp
 rcases (yK hp).1 hx with hx|hx
 ·have h0:=h.v.form x hx
  obtain⟨q,i⟩:=x
  obtain⟨i,rfl⟩:∃k,i=k+1:=⟨i-1,by have:=eG hx;simp only at this;omega⟩
  obtain⟨_,h2⟩:=fE.1 hx
  have hl:LM (yC t p e) (q,i+1)=LM t (q,i+1):=by
   unfold LM
   by_cases hc:1<i+1
   ·rw[if_pos (show 1<(q,i+1).2 from hc),if_pos (show 1<(q,i+1).2 from hc)]
    simp only
    by_cases hq:p=q
    ·subst hq
     rw[kK hp,List.getD_eq_getElem?_getD,List.getElem?_append_left oM,List.getD_eq_getElem?_getD]
    ·rw[AO hq]
   ·rw[if_neg (show ¬1<(q,i+1).2 from hc),if_neg (show ¬1<(q,i+1).2 from hc)]
  have hg:((yC t p e).getD q dfPr).vars=(t.getD q dfPr).vars:=by
   by_cases hq:p=q
   ·subst hq;rw[DL hp]
   ·rw[xN hq]
  unfold ZE at h0⊢
  rw[KJ hp hx,lH,hl]
  simp only at h0⊢
  rw[hg]
  exact h0
 ·rw[hx,VT,wK hp,lH]
  refine⟨h.form,h.tm,?_,h.al,?_⟩
  ·unfold LM
   by_cases hc:1<(DA t p).length+1
   ·rw[if_pos (show 1<(p,(DA t p).length+1).2 from hc)]
    simp only
    obtain⟨i,hi⟩:∃i,(DA t p).length=i+1:=⟨(DA t p).length-1,by omega⟩
    rw[kK hp,List.getD_eq_getElem?_getD,List.getElem?_append_left oM,←List.getD_eq_getElem?_getD,hi,show i+1+1-2=i by omega]
    have:=h.last i hi
    omega
   ·rw[if_neg (show ¬1<(p,(DA t p).length+1).2 from hc)]
    have:=h.tm
    unfold inB at this
    simp only[Bool.and_eq_true,decide_eq_true_eq]at this
    omega
  ·simp only
   rw[DL hp]
   exact h.af
theorem ZCQ {t:Tr} {p:Nat} {e:Ev} (h:NewEv t p e) {x:Nat×Nat} (hx:x∈ids (yC t p e)):QF (yC t p e) x=0:=by
 have hp:=h.hp
 rcases (yK hp).1 hx with hx|hx
 ·have h0:=h.v.pair x hx
  have LU:=KJ (e:=e) hp hx
  unfold QF at h0⊢
  rw[LU]
  by_cases k2:(sA t x).kind=2
  ·have hf:=ON h.v hx (.inl rfl) k2
   have hc:¬(e.kind=2∧e.msg=(sA t x).msg):=fun hc=>h.fresh (.inl rfl) hc.1 hx k2 hc.2.symm
   rw[LI h (.inl rfl),if_neg hc]
   rw[hf,k2];simp
  ·by_cases k3:(sA t x).kind=3
   ·have hf:=ON h.v hx (.inr rfl) k3
    have hc:¬(e.kind=3∧e.msg=(sA t x).msg):=fun hc=>h.fresh (.inr rfl) hc.1 hx k3 hc.2.symm
    rw[LI h (.inr rfl),if_neg hc]
    rw[hf,k3]at h0⊢
    simp only[show ((3:Int)==2)=false from rfl,show ((3:Int)==3)=true from rfl,beq_self_eq_true,if_true,Bool.false_eq_true,if_false]at h0⊢
    cases hs:AF t (sA t x).peer.toNat (sA t x).msg x.1 with
    |true=>rw[HW hp hs];rfl
    |false=>rw[hs]at h0;simp at h0
   ·have e2:((sA t x).kind==2)=false:=beq_eq_false_iff_ne.2 k2
    have e3:((sA t x).kind==3)=false:=beq_eq_false_iff_ne.2 k3
    rw[e2,e3];rfl
 ·rw[hx]
  unfold QF
  rw[wK hp]
  by_cases k2:e.kind=2
  ·have hf:=LI h (.inl rfl) (m:=e.msg)
   rw[if_pos ⟨k2,rfl⟩]at hf
   rw[hf,k2];simp
  ·by_cases k3:e.kind=3
   ·have hf:=LI h (.inr rfl) (m:=e.msg)
    rw[if_pos ⟨k3,rfl⟩]at hf
    rw[hf,k3]
    simp only
    rw[HW hp (h.rcv k3).2];simp
   ·have e2:(e.kind==2)=false:=beq_eq_false_iff_ne.2 k2
    have e3:(e.kind==3)=false:=beq_eq_false_iff_ne.2 k3
    rw[e2,e3];rfl
theorem ZBB {t:Tr} {p:Nat} {e:Ev} (h:NewEv t p e) {z:Nat×Nat}:¬Dir (yC t p e) (p,(DA t p).length+1) z:=by
 have hp:=h.hp
 rintro (⟨_,h2⟩|⟨h1,h2⟩)
 ·simp only at h2
  rw[kK hp,List.length_append,List.length_singleton]at h2;omega
 ·rw[wK hp]at h1 h2
  rw[LI h (.inr rfl),if_neg oM]at h2
  have hz:=BI h2
  obtain⟨k1,k2⟩:=AE h2
  obtain⟨_,y,hy⟩:=h.v.paired.recv hz k1
  obtain⟨k3,k4⟩:=AE hy
  exact h.snd h1 y (BI hy) k3 (k4.trans k2)
theorem tp_dir {t:Tr} {p:Nat} {e:Ev} (h:NewEv t p e) {x z:Nat×Nat} (hx:x∈ids t) (hd:Dir (yC t p e) x z):Dir t x z∨z=(p,(DA t p).length+1):=by
 have hp:=h.hp
 rcases hd with ⟨h1,h2⟩|⟨h1,h2⟩
 ·by_cases hq:p=x.1
  ·obtain⟨q,i⟩:=x
   simp only at hq h1 h2
   subst hq
   rw[kK hp,List.length_append,List.length_singleton]at h2
   rcases Nat.lt_or_ge i (DA t p).length with h3|h3
   ·exact .inl (.inl ⟨h1,h3⟩)
   ·exact .inr (by rw[h1,show i=(DA t p).length by omega])
  ·rw[AO hq]at h2
   exact .inl (.inl ⟨h1,h2⟩)
 ·rw[KJ hp hx]at h1 h2
  rw[LI h (.inr rfl)]at h2
  split at h2
  ·exact .inr (Option.some.inj h2).symm
  ·exact .inl (.inr ⟨h1,h2⟩)
theorem ZBR {t:Tr} {x z:Nat×Nat} (hx:x∈ids t) (hd:Dir t x z):z∈ids t:=by
 rcases hd with ⟨h1,h2⟩|⟨_,h2⟩
 ·obtain⟨q,i⟩:=x
  have:=(LD.1 hx).1
  rw[h1]
  exact fE.2 ⟨this,h2⟩
 ·exact BI h2
theorem tp_hb {t:Tr} {p:Nat} {e:Ev} (h:NewEv t p e) {x z:Nat×Nat} (hx:x∈ids t) (hh:Hb (yC t p e) x z):(z∈ids t∧Hb t x z)∨z=(p,(DA t p).length+1):=by
 induction hh with
 |one hd =>
   rcases tp_dir h hx hd with hd|hd
   ·exact .inl ⟨ZBR hx hd,.one hd⟩
   ·exact .inr hd
 |more _ hd ih =>
   rcases ih with ⟨h1,h2⟩|h1
   ·rcases tp_dir h h1 hd with hd|hd
    ·exact .inl ⟨ZBR h1 hd,.more h2 hd⟩
    ·exact .inr hd
   ·rw[h1]at hd
    exact absurd hd (ZBB h)
theorem tp_no {t:Tr} {p:Nat} {e:Ev} (h:NewEv t p e) {x z:Nat×Nat} (hx:x=(p,(DA t p).length+1)) (hh:Hb (yC t p e) x z):False:=by
 induction hh with
 |one hd=>rw[hx]at hd;exact ZBB h hd
 |more _ _ ih=>exact ih
theorem a9 {t:Tr} {p:Nat} {e:Ev} (q:Nat):((yC t p e).getD q dfPr).name=(t.getD q dfPr).name∧((yC t p e).getD q dfPr).vars=(t.getD q dfPr).vars:=by
 by_cases hq:p=q
 ·subst hq
  by_cases hp:p<t.length
  ·rw[DL hp];exact⟨rfl,rfl⟩
  ·rw[List.getD_eq_getElem?_getD,List.getElem?_eq_none (by rw[lH];omega),List.getD_eq_getElem?_getD,List.getElem?_eq_none oM];exact⟨rfl,rfl⟩
 ·rw[xN hq];exact⟨rfl,rfl⟩
theorem ZEi {t:Tr} {p:Nat} {e:Ev}:(yC t p e).map (·.name)=t.map (·.name):=by
 apply List.ext_getElem?
 intro j
 rw[List.getElem?_map,List.getElem?_map]
 by_cases hj:p=j
 ·subst hj
  by_cases hp:p<t.length
  ·rw[GW e hp,List.getElem?_eq_getElem hp];rfl
  ·rw[List.getElem?_eq_none (by rw[lH];omega),List.getElem?_eq_none oM]
 ·rw[WW e hj]
theorem ZCR {t:Tr} {p:Nat} {e:Ev} (h:NewEv t p e) {q:Nat} (hq:q<t.length):bD (yC t p e) q=0:=by
 have h0:=h.v.head q hq
 obtain⟨e1,e2⟩:=a9 (t:=t) (p:=p) (e:=e) q
 have ha:((yC t p e).take q).any (fun y=>y.name.toList==(t.getD q dfPr).name.toList)=(t.take q).any (fun y=>y.name.toList==(t.getD q dfPr).name.toList):=by
  have:=fun (l:Tr)=>show (l.take q).any (fun y=>y.name.toList==(t.getD q dfPr).name.toList)=((l.map (·.name)).take q).any (fun y=>y.toList==(t.getD q dfPr).name.toList) by rw[←List.map_take,List.any_map];rfl
  rw[this,this,ZEi]
 have hl:¬64<((yC t p e).getD q dfPr).evs.length:=by
  have h64:¬64<(t.getD q dfPr).evs.length:=by
   have:=iJ hq h0
   rw[KA hq];omega
  by_cases hc:p=q
  ·subst hc
   rw[DL h.hp,List.length_append,List.length_singleton]
   have:=h.room;omega
  ·rw[xN hc];exact h64
 unfold bD at h0⊢
 rw[e1,e2,ha,if_neg hl]
 split at h0
 ·exact absurd h0 (by decide)
 rename_i c1
 rw[if_neg c1]
 split at h0
 ·exact absurd h0 (by decide)
 rename_i c2
 rw[if_neg c2]
 split at h0
 ·rename_i c3;exact absurd h0 c3
 rename_i c3
 rw[if_neg c3]
theorem N0 {t:Tr} {p:Nat} {e:Ev} (h:NewEv t p e):Vok (yC t p e):=by
 have hp:=h.hp
 refine⟨by rw[lH];exact h.v.lo,by rw[lH];exact h.v.hi,fun q hq=>ZCR h (by rw[←lH (p:=p) (e:=e)];exact hq),fun x hx=>ZCS h hx,fun x hx=>ZCQ h hx,fun x hx hh=>?_⟩
 rcases (yK hp).1 hx with hx|hx
 ·rcases tp_hb h hx hh with h1|h1
  ·exact h.v.acyc x hx h1.2
  ·exact ZEh (h1▸hx)
 ·exact tp_no h hx hh
theorem VN {α:Type} {l:List α} {x d:α} {p c:Nat} (hp:p≤l.length) (i:Nat) :
  (l.take p++List.replicate c x++l.drop p).getD i d=if i<p then l.getD i d else if i<p+c then x else l.getD (i-c) d:=by
 have h1:(l.take p).length=p:=by rw[List.length_take];omega
 have h2:(List.replicate c x).length=c:=List.length_replicate
 simp only[List.getD_eq_getElem?_getD]
 by_cases ha:i<p
 ·rw[if_pos ha,List.getElem?_append_left (by rw[List.length_append];omega),List.getElem?_append_left oM,List.getElem?_take,if_pos ha]
 ·rw[if_neg ha]
  by_cases hb:i<p+c
  ·rw[if_pos hb,List.getElem?_append_left (by rw[List.length_append];omega),List.getElem?_append_right oM,h1,List.getElem?_replicate,if_pos oM];rfl
  ·rw[if_neg hb,List.getElem?_append_right (by rw[List.length_append];omega),List.length_append,h1,h2,List.getElem?_drop]
   congr 2;omega
theorem EH {α:Type} {l:List α} {x:α} {p c:Nat} (hp:p≤l.length):(l.take p++List.replicate c x++l.drop p).length=l.length+c:=by
 simp only[List.length_append,List.length_take,List.length_replicate,List.length_drop];omega
theorem kX {l:List Int} {a:Int}:(∀j,j<leN l a→l.getD j 0≤a)∧(leN l a<l.length→a<l.getD (leN l a) 0):=by
 unfold leN
 induction l with
 |nil=>simp
 |cons x l ih =>
   by_cases hx:x≤a
   ·rw[List.takeWhile_cons_of_pos (by simpa using hx)]
    refine⟨fun j hj=>?_,fun h=>?_⟩
    ·cases j with
     |zero=>exact hx
     |succ j=>simp only[List.getD_cons_succ];exact ih.1 j (by simpa using hj)
    ·simp only[List.length_cons,List.getD_cons_succ]
     exact ih.2 (by simpa using h)
   ·rw[List.takeWhile_cons_of_neg (by simpa using hx)]
    refine⟨fun j hj=>by simp at hj,fun _=>by simp;omega⟩
theorem NwV.ins {n:Nw} (h:NwV n) {m:Ms} (hm:msB m=true) {a:Int} (ha:0≤a∧a≤1099512627776) {c:Nat} (hc:n.l.length+c≤1000):NwV (qS n m a c):=by
 have hp:=xR (l:=n.tm) (a:=a)
 have hp2:leN n.tm a≤n.l.length:=by rw[h.len];exact hp
 have hs:=kX (l:=n.tm) (a:=a)
 refine⟨h.now,?_,?_,?_,?_,?_,?_,?_⟩
 ·show (n.l.take _++_++n.l.drop _).length=(n.tm.take _++_++n.tm.drop _).length
  rw[EH hp2,EH hp,h.len]
 ·show (n.l.take _++_++n.l.drop _).length≤1000
  rw[EH hp2];omega
 ·show (n.fates.drop 1).length≤1000
  have:=h.fl;rw[List.length_drop];omega
 ·intro f hf
  exact h.fates f (List.mem_of_mem_drop hf)
 ·intro x hx
  change x∈n.l.take _++_++n.l.drop _ at hx
  rw[List.mem_append,List.mem_append]at hx
  rcases hx with (hx|hx)|hx
  ·exact h.ms x (List.mem_of_mem_take hx)
  ·rw[(List.mem_replicate.1 hx).2];exact hm
  ·exact h.ms x (List.mem_of_mem_drop hx)
 ·intro x hx
  change x∈n.tm.take _++_++n.tm.drop _ at hx
  rw[List.mem_append,List.mem_append]at hx
  rcases hx with (hx|hx)|hx
  ·exact h.tm x (List.mem_of_mem_take hx)
  ·rw[(List.mem_replicate.1 hx).2];exact ha
  ·exact h.tm x (List.mem_of_mem_drop hx)
 ·intro i hi
  change i+1<(n.tm.take _++_++n.tm.drop _).length at hi
  rw[EH hp]at hi
  show (n.tm.take _++_++n.tm.drop _).getD i 0≤(n.tm.take _++_++n.tm.drop _).getD (i+1) 0
  rw[VN hp,VN hp]
  have key:=h.mono
  have so:=h.sorted
  by_cases h1:i+1<leN n.tm a
  ·rw[if_pos h1,if_pos oM];exact key i oM
  ·rw[if_neg h1]
   by_cases h2:i<leN n.tm a
   ·rw[if_pos h2]
    have e1:=hs.1 i h2
    by_cases h3:i+1<leN n.tm a+c
    ·rw[if_pos h3];exact e1
    ·rw[if_neg h3]
     have:c=0:=by omega
     subst this
     have:i+1<n.tm.length:=by omega
     exact key i this
   ·rw[if_neg h2]
    by_cases h3:i+1<leN n.tm a+c
    ·rw[if_pos h3,if_pos oM];exact Int.le_refl _
    ·rw[if_neg h3]
     by_cases h4:i<leN n.tm a+c
     ·rw[if_pos h4]
      have e:i+1-c=leN n.tm a:=by omega
      rw[e]
      have:=hs.2 oM
      omega
     ·rw[if_neg h4]
      have e:i+1-c=i-c+1:=by omega
      rw[e]
      exact key (i-c) oM
theorem vN {α:Type} {l:List α} {d:α} {k:Nat} (i:Nat):(l.take k++l.drop (k+1)).getD i d=if k<l.length∧k≤i then l.getD (i+1) d else l.getD i d:=by
 simp only[List.getD_eq_getElem?_getD]
 by_cases hk:k<l.length
 ·have h1:(l.take k).length=k:=by rw[List.length_take];omega
  by_cases hi:k≤i
  ·rw[if_pos ⟨hk,hi⟩,List.getElem?_append_right oM,h1,List.getElem?_drop]
   congr 2;omega
  ·rw[if_neg (fun h=>hi h.2),List.getElem?_append_left oM,List.getElem?_take,if_pos oM]
 ·rw[if_neg (fun h=>hk h.1),List.take_of_length_le oM,List.drop_eq_nil_of_le oM,List.append_nil]
theorem AH {α:Type} {l:List α} {k:Nat} (hk:k<l.length):(l.take k++l.drop (k+1)).length=l.length-1:=by
 simp only[List.length_append,List.length_take,List.length_drop];omega
theorem NwV.out {n:Nw} (h:NwV n) {k:Nat} (hk:k<n.l.length):NwV (woN n k):=by
 have hk2:k<n.tm.length:=by rw[←h.len];exact hk
 refine⟨h.now,?_,?_,h.fl,h.fates,?_,?_,?_⟩
 ·show (n.l.take k++n.l.drop (k+1)).length=(n.tm.take k++n.tm.drop (k+1)).length
  rw[AH hk,AH hk2,h.len]
 ·show (n.l.take k++n.l.drop (k+1)).length≤1000
  have:=h.l;rw[AH hk];omega
 ·intro x hx
  rcases List.mem_append.1 (show x∈n.l.take k++n.l.drop (k+1) from hx) with hx|hx
  ·exact h.ms x (List.mem_of_mem_take hx)
  ·exact h.ms x (List.mem_of_mem_drop hx)
 ·intro x hx
  rcases List.mem_append.1 (show x∈n.tm.take k++n.tm.drop (k+1) from hx) with hx|hx
  ·exact h.tm x (List.mem_of_mem_take hx)
  ·exact h.tm x (List.mem_of_mem_drop hx)
 ·intro i hi
  change i+1<(n.tm.take k++n.tm.drop (k+1)).length at hi
  rw[AH hk2]at hi
  show (n.tm.take k++n.tm.drop (k+1)).getD i 0≤(n.tm.take k++n.tm.drop (k+1)).getD (i+1) 0
  rw[vN,vN]
  by_cases h1:k≤i
  ·rw[if_pos ⟨hk2,h1⟩,if_pos ⟨hk2,by omega⟩];exact h.mono (i+1) oM
  ·rw[if_neg (fun h=>h1 h.2)]
   by_cases h2:k≤i+1
   ·rw[if_pos ⟨hk2,h2⟩];exact h.sorted i (i+2) oM oM
   ·rw[if_neg (fun h=>h2 h.2)];exact h.mono i oM
theorem NwV.at {n:Nw} (h:NwV n) {t:Int} (ht:0≤t∧t≤1099511627776):NwV {n with now:=t}:=⟨ht,h.len,h.l,h.fl,h.fates,h.ms,h.tm,h.mono⟩
structure Sc where
 n:Nw
 sent:List Ms
 due:List Int
 copies:List Int
 got:List Int
 last:Int→Int→Int
def fJ (l:List Ms) (k:Int):Nat:=(l.filter fun m=>decide (m.nu=k)).length
structure ScOk (fs:List (Int×Int)) (s:Sc):Prop where
 v:NwV s.n
 few:s.n.l.length≤3*s.sent.length
 ld:s.due.length=s.sent.length
 lc:s.copies.length=s.sent.length
 lg:s.got.length=s.sent.length
 fates:s.n.fates=fs.drop s.sent.length
 num:∀k,k<s.sent.length→(s.sent.getD k dfMs).nu=k
 own:∀i,i<s.n.l.length→∃k,k<s.sent.length∧s.n.l.getD i dfMs=s.sent.getD k dfMs∧s.due.getD k 0≤s.n.tm.getD i 0
 cnt:∀k,k<s.sent.length→(fJ s.n.l k:Int)+s.got.getD k 0=s.copies.getD k 0
 ord:s.n.fifo=true→∀i j,i<j→j<s.n.l.length→(s.n.l.getD i dfMs).fr=(s.n.l.getD j dfMs).fr→(s.n.l.getD i dfMs).to=(s.n.l.getD j dfMs).to→(s.n.l.getD i dfMs).nu≤(s.n.l.getD j dfMs).nu
 lst:s.n.fifo=true→∀i,i<s.n.l.length→s.last (s.n.l.getD i dfMs).fr (s.n.l.getD i dfMs).to≤(s.n.l.getD i dfMs).nu
 lub:∀x y,s.last x y≤s.sent.length
 rng:∀k,k<s.sent.length→0≤s.got.getD k 0∧s.copies.getD k 0≤3
theorem EL (a c:List Ms) (k:Int):fJ (a++c) k=fJ a k+fJ c k:=by unfold fJ;rw[List.filter_append,List.length_append]
theorem ZDR (l:List Ms) (x:Ms) (p c:Nat) (k:Int):fJ (l.take p++List.replicate c x++l.drop p) k=fJ l k+(if x.nu=k then c else 0):=by
 have h:fJ l k=fJ (l.take p) k+fJ (l.drop p) k:=by rw[←EL,List.take_append_drop]
 have h2:fJ (List.replicate c x) k=if x.nu=k then c else 0:=by
  unfold fJ
  rw[List.filter_replicate]
  by_cases hx:x.nu=k<;>simp[hx]
 rw[EL,EL,h,h2];omega
theorem ZAe {l:List Ms} {k:Int} (h:∀i,i<l.length→(l.getD i dfMs).nu≠k):fJ l k=0:=by
 unfold fJ
 rw[List.length_eq_zero_iff,List.filter_eq_nil_iff]
 intro m hm
 obtain⟨i,hi,rfl⟩:=List.getElem_of_mem hm
 have:=h i hi
 rw[KA hi]at this
 simpa using this
theorem tF {α:Type} {l r:List α} {d:α} {k:Nat} (h:k<l.length):(l++r).getD k d=l.getD k d:=by
 simp only[List.getD_eq_getElem?_getD];rw[List.getElem?_append_left h]
theorem AG {α:Type} {l:List α} {x d:α}:(l++[x]).getD l.length d=x:=by
 simp only[List.getD_eq_getElem?_getD];rw[List.getElem?_append_right (Nat.le_refl _)];simp
theorem kT {n:Nw} {m:Ms} (hf:n.fifo=true):∀i j,j<i→(n.l.getD j dfMs).fr=m.fr→(n.l.getD j dfMs).to=m.to→n.tm.getD j 0≤uH n m i
 |0,_,h,_,_=>by omega
 |i+1,j,h,h1,h2=>by
   simp only[uH]
   by_cases hj:j=i
   ·subst hj;rw[if_pos ⟨hf,h1,h2⟩];omega
   ·have:=kT hf i j oM h1 h2
    split<;>omega
theorem ScOk.send {fs:List (Int×Int)} {s:Sc} (h:ScOk fs s) {m:Ms} (hm:msB m=true) (hn:m.nu=s.sent.length) (h60:s.sent.length<60) :
  sdE s.n m=0∧ScOk fs ⟨sdR s.n m,s.sent++[m],s.due++[s.n.now+(s.n.fates.headD (1,0)).2],s.copies++[(s.n.fates.headD (1,0)).1],s.got++[0],s.last⟩:=by
 have hd:=IP h.v
 have ha:=tN h.v (m:=m) s.n.l.length (Nat.le_refl _)
 have ZHL:=h.v.now
 have hfew:=h.few
 obtain⟨a,hA⟩:∃a,mG s.n m=a:=⟨_,rfl⟩
 change s.n.now≤mG s.n m∧mG s.n m≤_ at ha
 rw[hA]at ha
 obtain⟨c,hC⟩:∃c:Nat,(s.n.fates.headD (1,0)).1=(c:Int):=⟨(s.n.fates.headD (1,0)).1.toNat,by omega⟩
 have MU:c≤3:=by omega
 have he:sdE s.n m=0:=by
  unfold sdE vS
  rw[hA,hC,if_neg oM,if_neg oM]
 have hr:sdR s.n m=qS s.n m a c:=by
  unfold sdR vS
  rw[if_pos he,hA,hC,Int.toNat_natCast]
 refine⟨he,?_⟩
 rw[hr,hC]
 obtain⟨p,hp⟩:∃p,leN s.n.tm a=p:=⟨_,rfl⟩
 have hs:=kX (l:=s.n.tm) (a:=a)
 have rK:=xR (l:=s.n.tm) (a:=a)
 rw[hp]at hs rK
 have ZHQ:p≤s.n.l.length:=by rw[h.v.len];exact rK
 have el:(qS s.n m a c).l=s.n.l.take p++List.replicate c m++s.n.l.drop p:=by rw[←hp];rfl
 have et:(qS s.n m a c).tm=s.n.tm.take p++List.replicate c a++s.n.tm.drop p:=by rw[←hp];rfl
 have ef:(qS s.n m a c).fifo=s.n.fifo:=rfl
 have g:=fun i=>VN (l:=s.n.l) (x:=m) (d:=dfMs) (c:=c) ZHQ i
 have gt:=fun i=>VN (l:=s.n.tm) (x:=a) (d:=0) (c:=c) rK i
 have ll:(qS s.n m a c).l.length=s.n.l.length+c:=by rw[el,EH ZHQ]
 have late:∀j,p≤j→j<s.n.l.length→a<s.n.tm.getD j 0:=fun j h1 h2=>by
  have hjt:j<s.n.tm.length:=by rw[←h.v.len];exact h2
  have:=hs.2 oM
  have:=h.v.sorted p j h1 hjt
  omega
 have old:∀i,i<s.n.l.length→(s.n.l.getD i dfMs).nu<s.sent.length:=fun i hi=>by
  obtain⟨k,h1,h2,_⟩:=h.own i hi
  rw[h2,h.num k h1];omega
 refine⟨h.v.ins hm oM oM,?_,?_,?_,?_,?_,?_,?_,?_,?_,?_,?_,?_⟩
 ·show (qS s.n m a c).l.length≤3*(s.sent++[m]).length
  rw[ll,List.length_append,List.length_singleton];omega
 ·simp[h.ld]
 ·simp[h.lc]
 ·simp[h.lg]
 ·show s.n.fates.drop 1=fs.drop (s.sent++[m]).length
  rw[h.fates,List.drop_drop,List.length_append,List.length_singleton]
 ·intro k hk
  simp only[List.length_append,List.length_singleton]at hk
  by_cases h1:k<s.sent.length
  ·simp only[tF h1];exact h.num k h1
  ·obtain rfl:k=s.sent.length:=by omega
   simp only[AG];exact hn
 ·intro i hi
  simp only at hi⊢
  rw[ll]at hi
  rw[el,et,g,gt]
  by_cases h1:i<p
  ·rw[if_pos h1,if_pos h1]
   obtain⟨k,k1,k2,k3⟩:=h.own i oM
   exact⟨k,by simp;omega,by rw[tF k1];exact k2,by rw[tF (by rw[h.ld];exact k1)];exact k3⟩
  ·rw[if_neg h1,if_neg h1]
   by_cases h2:i<p+c
   ·rw[if_pos h2,if_pos h2]
    refine⟨s.sent.length,by simp,by rw[AG],?_⟩
    rw[←h.ld,AG,←hA]
    exact yT (n:=s.n) (m:=m) _
   ·rw[if_neg h2,if_neg h2]
    obtain⟨k,k1,k2,k3⟩:=h.own (i-c) oM
    exact⟨k,by simp;omega,by rw[tF k1];exact k2,by rw[tF (by rw[h.ld];exact k1)];exact k3⟩
 ·intro k hk
  simp only[List.length_append,List.length_singleton]at hk⊢
  rw[el,ZDR]
  by_cases h1:k<s.sent.length
  ·rw[if_neg (by rw[hn];omega),tF (by rw[h.lg];exact h1),tF (by rw[h.lc];exact h1)]
   exact h.cnt k h1
  ·obtain rfl:k=s.sent.length:=by omega
   rw[if_pos hn,ZAe (fun i hi=>by have:=old i hi;omega)]
   have e1:(s.got++[0]).getD s.sent.length 0=0:=by rw[←h.lg,AG]
   have e2:(s.copies++[(c:Int)]).getD s.sent.length 0=c:=by rw[←h.lc,AG]
   rw[e1,e2];omega
 ·intro hf i j hij hj
  simp only at hf hj⊢
  rw[ll]at hj
  rw[el,g,g]
  by_cases i1:i<p
  ·rw[if_pos i1]
   by_cases j1:j<p
   ·rw[if_pos j1];exact h.ord hf i j hij oM
   ·rw[if_neg j1]
    by_cases j2:j<p+c
    ·rw[if_pos j2];intro _ _;have:=old i oM;omega
    ·rw[if_neg j2];exact h.ord hf i (j-c) oM oM
  ·rw[if_neg i1,if_neg (show ¬j<p by omega)]
   by_cases i2:i<p+c
   ·rw[if_pos i2]
    by_cases j2:j<p+c
    ·rw[if_pos j2];intro _ _;exact Int.le_refl _
    ·rw[if_neg j2]
     intro e1 e2
     have:=late (j-c) oM oM
     have:=kT (n:=s.n) (m:=m) hf s.n.l.length (j-c) oM e1.symm e2.symm
     change _≤mG s.n m at this
     omega
   ·rw[if_neg i2,if_neg (show ¬j<p+c by omega)]
    exact h.ord hf (i-c) (j-c) oM oM
 ·intro hf i hi
  simp only at hf hi⊢
  rw[ll]at hi
  rw[el,g]
  by_cases i1:i<p
  ·rw[if_pos i1];exact h.lst hf i oM
  ·rw[if_neg i1]
   by_cases i2:i<p+c
   ·rw[if_pos i2,hn];exact h.lub _ _
   ·rw[if_neg i2];exact h.lst hf (i-c) oM
 ·intro x y
  have:=h.lub x y
  simp only[List.length_append,List.length_singleton];omega
 ·intro k hk
  simp only[List.length_append,List.length_singleton]at hk⊢
  by_cases h1:k<s.sent.length
  ·rw[tF (by rw[h.lg];exact h1),tF (by rw[h.lc];exact h1)]
   exact h.rng k h1
  ·obtain rfl:k=s.sent.length:=by omega
   have e1:(s.got++[0]).getD s.sent.length 0=0:=by rw[←h.lg,AG]
   have e2:(s.copies++[(c:Int)]).getD s.sent.length 0=c:=by rw[←h.lc,AG]
   rw[e1,e2];omega
theorem Z5 {l:List Ms} {k:Nat} (hk:k<l.length) (x:Int):fJ (l.take k++l.drop (k+1)) x+(if (l.getD k dfMs).nu=x then 1 else 0)=fJ l x:=by
 have h:l=l.take k++([l.getD k dfMs]++l.drop (k+1)):=by
  rw[KA hk,List.singleton_append,←List.drop_eq_getElem_cons hk,List.take_append_drop]
 have h2:fJ [l.getD k dfMs] x=if (l.getD k dfMs).nu=x then 1 else 0:=by
  obtain⟨z,hz⟩:∃z,l.getD k dfMs=z:=⟨_,rfl⟩
  rw[hz]
  unfold fJ
  by_cases hx:z.nu=x<;>simp[hx]
 have h3:fJ l x=fJ (l.take k) x+(fJ [l.getD k dfMs] x+fJ (l.drop (k+1)) x):=by
  conv=>lhs;rw[h]
  rw[EL,EL]
 rw[EL,h3,h2];omega
theorem SW {α:Type} {l:List α} {q k:Nat} {x d:α} (hq:q<l.length):(l.set q x).getD k d=if k=q then x else l.getD k d:=by
 simp only[List.getD_eq_getElem?_getD]
 by_cases h:k=q
 ·subst h;rw[if_pos rfl,List.getElem?_set_self hq];rfl
 ·rw[if_neg h,List.getElem?_set_ne (fun e=>h e.symm)]
theorem ScOk.recv {fs:List (Int×Int)} {s:Sc} (h:ScOk fs s) {to:Int} {k:Nat} (hk:k<s.n.l.length) (ha:arB s.n to k=true) (h0:∀j,j<k→arB s.n to j=false) :
  ∃q,q<s.sent.length∧s.n.l.getD k dfMs=s.sent.getD q dfMs∧(s.n.l.getD k dfMs).nu=q∧(s.n.l.getD k dfMs).to=to∧s.due.getD q 0≤s.n.now ∧
   (s.n.fifo=true→s.last (s.n.l.getD k dfMs).fr (s.n.l.getD k dfMs).to≤q)∧s.got.getD q 0+1≤s.copies.getD q 0 ∧
   ScOk fs ⟨woN s.n k,s.sent,s.due,s.copies,s.got.set q (s.got.getD q 0+1),fun x y=>if x=(s.n.l.getD k dfMs).fr∧y=(s.n.l.getD k dfMs).to then q else s.last x y⟩:=by
 obtain⟨q,q1,q2,q3⟩:=h.own k hk
 unfold arB at ha
 simp only[Bool.and_eq_true,decide_eq_true_eq]at ha
 obtain⟨a1,a2⟩:=ha
 have hkt:k<s.n.tm.length:=by rw[←h.v.len];exact hk
 have hnu:(s.n.l.getD k dfMs).nu=q:=by rw[q2];exact h.num q q1
 have hqg:q<s.got.length:=by rw[h.lg];exact q1
 have gU:=Z5 hk (q:Int)
 rw[if_pos hnu]at gU
 have hcq:=h.cnt q q1
 refine⟨q,q1,q2,hnu,a1,by omega,fun hf=>by have:=h.lst hf k hk;rw[hnu]at this;exact this,by omega,?_⟩
 have g:=fun i=>vN (l:=s.n.l) (d:=dfMs) (k:=k) i
 have gt:=fun i=>vN (l:=s.n.tm) (d:=0) (k:=k) i
 have ll:(woN s.n k).l.length=s.n.l.length-1:=AH hk
 have el:(woN s.n k).l=s.n.l.take k++s.n.l.drop (k+1):=rfl
 have et:(woN s.n k).tm=s.n.tm.take k++s.n.tm.drop (k+1):=rfl
 obtain⟨σ,hσ⟩:∃σ:Nat→Nat,∀i,σ i=if k≤i then i+1 else i:=⟨_,fun _=>rfl⟩
 have gl:∀i,(woN s.n k).l.getD i dfMs=s.n.l.getD (σ i) dfMs:=fun i=>by
  rw[el,g,hσ]
  by_cases hi:k≤i
  ·rw[if_pos ⟨hk,hi⟩,if_pos hi]
  ·rw[if_neg (fun h=>hi h.2),if_neg hi]
 have gm:∀i,(woN s.n k).tm.getD i 0=s.n.tm.getD (σ i) 0:=fun i=>by
  rw[et,gt,hσ]
  by_cases hi:k≤i
  ·rw[if_pos ⟨hkt,hi⟩,if_pos hi]
  ·rw[if_neg (fun h=>hi h.2),if_neg hi]
 have sl:∀i,i<s.n.l.length-1→σ i<s.n.l.length∧σ i≠k:=fun i hi=>by
  rw[hσ];split<;>omega
 have sm:∀i j,i<j→σ i<σ j:=fun i j hij=>by
  rw[hσ,hσ];split<;>split<;>omega
 refine⟨h.v.out hk,?_,h.ld,h.lc,by simp[h.lg],h.fates,h.num,?_,?_,?_,?_,?_,?_⟩
 ·show (woN s.n k).l.length≤3*s.sent.length
  have:=h.few;rw[ll];omega
 ·intro i hi
  simp only at hi⊢
  rw[ll]at hi
  rw[gl,gm]
  exact h.own (σ i) (sl i hi).1
 ·intro x hx
  simp only at hx⊢
  rw[el,SW hqg]
  have:=Z5 hk (x:Int)
  have hcx:=h.cnt x hx
  by_cases hxq:x=q
  ·subst hxq;rw[if_pos rfl];omega
  ·rw[if_neg hxq]
   rw[if_neg (by rw[hnu];omega)]at this
   omega
 ·intro hf i j hij hj
  simp only at hf hj⊢
  rw[ll]at hj
  rw[gl,gl]
  exact h.ord hf (σ i) (σ j) (sm i j hij) (sl j hj).1
 ·intro hf i hi
  simp only at hf hi⊢
  rw[ll]at hi
  rw[gl]
  by_cases hc:(s.n.l.getD (σ i) dfMs).fr=(s.n.l.getD k dfMs).fr∧(s.n.l.getD (σ i) dfMs).to=(s.n.l.getD k dfMs).to
  ·rw[if_pos hc]
   have hgt:k<σ i:=by
    rcases Nat.lt_or_ge k (σ i) with h1|h1
    ·exact h1
    ·exfalso
     have h2:σ i<k:=by have:=(sl i hi).2;omega
     have h3:=h0 (σ i) h2
     have h4:=h.v.sorted (σ i) k oM hkt
     unfold arB at h3
     rw[decide_eq_true (show (s.n.l.getD (σ i) dfMs).to=to by rw[hc.2];exact a1),decide_eq_true (show s.n.tm.getD (σ i) 0≤s.n.now by omega)]at h3
     cases h3
   have:=h.ord hf k (σ i) hgt (sl i hi).1 hc.1.symm hc.2.symm
   rw[hnu]at this
   exact this
  ·rw[if_neg hc]
   exact h.lst hf (σ i) (sl i hi).1
 ·intro x y
  simp only
  split
  ·omega
  ·exact h.lub x y
 ·intro x hx
  simp only at hx⊢
  rw[SW hqg]
  have:=h.rng x hx
  have:=h.rng q q1
  split<;>omega
theorem ScOk.at {fs:List (Int×Int)} {s:Sc} (h:ScOk fs s) {t:Int} (ht:0≤t∧t≤1099511627776):ScOk fs {s with n:={s.n with now:=t}}:=
 ⟨h.v.at ht,h.few,h.ld,h.lc,h.lg,h.fates,h.num,h.own,h.cnt,h.ord,h.lst,h.lub,h.rng⟩
theorem ScOk.done {fs:List (Int×Int)} {s:Sc} (h:ScOk fs s) (h0:s.n.l=[]):s.got=s.copies:=by
 apply List.ext_getElem?
 intro k
 by_cases hk:k<s.sent.length
 ·have:=h.cnt k hk
  rw[h0]at this
  have e:fJ [] (k:Int)=0:=rfl
  rw[e]at this
  rw[List.getElem?_eq_getElem (by rw[h.lg];exact hk),List.getElem?_eq_getElem (by rw[h.lc];exact hk)]
  rw[KA (by rw[h.lg];exact hk),KA (by rw[h.lc];exact hk)]at this
  congr 1;omega
 ·rw[List.getElem?_eq_none (by rw[h.lg];omega),List.getElem?_eq_none (by rw[h.lc];omega)]
theorem ScOk.start {fs:List (Int×Int)} (fifo:Bool) (h:∀f∈fs,ftB f=true) (hl:fs.length≤1000):ScOk fs ⟨⟨0,fifo,[],[],fs⟩,[],[],[],[],fun _ _=>0⟩:=
 ⟨⟨⟨(by decide:(0:Int)≤0),(by decide:(0:Int)≤1099511627776)⟩,rfl,by simp,hl,h,by simp,by simp,by simp⟩,by simp,rfl,rfl,rfl,rfl,by simp,by simp,by simp,by simp,by simp,by simp,by simp⟩
structure WdV (w:Wd):Prop where
 sv:GF w.sv=true
 now:0≤w.now∧w.now≤1000000000
 net:NwV w.net
 nnow:w.net.now=w.now
 tr:Vok w.tr
 len:w.tr.length=w.sv.length
 fit:∀p,p<w.tr.length→OL (w.tr.getD p dfPr) (w.sv.getD p dfSv) w.now=true
 snt:∀x∈ids w.tr,(sA w.tr x).kind=2→(sA w.tr x).msg<w.sent
 cnt:(cSd w.tr w.tr.length:Int)=w.sent
 msg:∀m∈w.net.l,mgB w.tr m=true
theorem WdV.of {w:Wd} (h:wdB w=true):WdV w:=by
 unfold wdB at h
 simp only[Bool.and_eq_true,decide_eq_true_eq]at h
 obtain⟨h1,h2,h3,h4,h5,h6,h7,h8,h9⟩:=h
 unfold inZ at h2
 simp only[Bool.and_eq_true,decide_eq_true_eq]at h2
 have hp:∀p,p<w.tr.length→prB w p=true:=fun p hp=>List.all_eq_true.1 h7 p (List.mem_range.2 hp)
 unfold prB at hp
 refine⟨h1,h2,VG.1 h3,h4,vok h5,h6,fun p hl=>(Bool.and_eq_true _ _▸hp p hl).1,fun x hx hk=>?_,h8,fun m hm=>List.all_eq_true.1 h9 m hm⟩
 obtain⟨q,i⟩:=x
 obtain⟨i,rfl⟩:∃k,i=k+1:=⟨i-1,by have:=eG hx;simp only at this;omega⟩
 obtain⟨g1,g2⟩:=fE.1 hx
 have:=(Bool.and_eq_true _ _▸hp q g1).2
 have:=List.all_eq_true.1 this i (List.mem_range.2 g2)
 unfold sOk at this
 change (((DA w.tr q).getD i lJ).kind)=2 at hk
 rw[hk]at this
 show ((DA w.tr q).getD i lJ).msg<w.sent
 simpa using this
theorem WdV.to {w:Wd} (h:WdV w):wdB w=true:=by
 have h7:(List.range w.tr.length).all (prB w)=true:=by
  rw[List.all_eq_true]
  intro p hp
  have hp:=List.mem_range.1 hp
  unfold prB
  rw[h.fit p hp,Bool.true_and,List.all_eq_true]
  intro i hi
  have hi:=List.mem_range.1 hi
  unfold sOk
  by_cases hk:((DA w.tr p).getD i lJ).kind=2
  ·have:=h.snt (p,i+1) (fE.2 ⟨hp,hi⟩) hk
   have e:((DA w.tr p).getD i lJ).msg<w.sent:=this
   rw[decide_eq_true e,Bool.or_true]
  ·rw[beq_eq_false_iff_ne.2 hk];rfl
 have h2:inZ w.now 0 1000000000=true:=by unfold inZ;simp;exact h.now
 unfold wdB
 rw[h.sv,h2,VG.2 h.net,decide_eq_true h.nnow,UI h.tr,decide_eq_true h.len,h7,decide_eq_true h.cnt,List.all_eq_true.2 h.msg];rfl
structure SvV (s:Sv) (p n:Int):Prop where
 name:pD s.name=true
 cl:1≤s.code.length∧s.code.length≤100
 vl:s.vars.length≤8
 pc:0≤s.pc∧s.pc≤s.code.length
 rt:xI s=true
 vs:∀v∈s.vars,vlB v=true
 ins:∀x∈s.code,rE s.vars.length s.code.length p n x=true
theorem E2 {s:Sv} {p n:Int}:sv1 s p n=true↔SvV s p n:=by
 unfold sv1 inZ
 simp only[Bool.and_eq_true,decide_eq_true_eq,List.all_eq_true]
 constructor
 ·rintro⟨h1,h2,h3,h4,h5,h6,h7⟩
  exact⟨h1,by omega,h3,h4,h5,h6,h7⟩
 ·rintro⟨h1,h2,h3,h4,h5,h6,h7⟩
  exact⟨h1,by omega,h3,h4,h5,h6,h7⟩
theorem TH {l:List Sv} (h:GF l=true) {p:Nat} (hp:p<l.length):SvV (l.getD p dfSv) p l.length∧∀q,q<p→(l.getD q dfSv).name≠(l.getD p dfSv).name:=by
 unfold GF at h
 rw[Bool.and_eq_true]at h
 have:=List.all_eq_true.1 h.2 p (List.mem_range.2 hp)
 unfold svB at this
 rw[Bool.and_eq_true]at this
 refine⟨E2.1 this.1,fun q hq he=>?_⟩
 have kR:q<l.length:=by omega
 have hm:l.getD q dfSv∈l.take p:=by
  rw[KA kR]
  exact List.mem_iff_getElem?.2 ⟨q,by rw[List.getElem?_take,if_pos hq,List.getElem?_eq_getElem kR]⟩
 have:=List.all_eq_true.1 this.2 _ hm
 rw[he,FJ]at this
 cases this
theorem ZEk {l:List Sv} (hl:1≤l.length∧l.length≤8) (h:∀p,p<l.length→SvV (l.getD p dfSv) p l.length∧∀q,q<p→(l.getD q dfSv).name≠(l.getD p dfSv).name):GF l=true:=by
 unfold GF
 rw[Bool.and_eq_true]
 refine⟨by unfold inZ;simp only[decide_eq_true_eq];omega,List.all_eq_true.2 fun p hp=>?_⟩
 have hp:=List.mem_range.1 hp
 obtain⟨h1,h2⟩:=h p hp
 unfold svB
 rw[Bool.and_eq_true]
 refine⟨E2.2 h1,List.all_eq_true.2 fun x hx=>?_⟩
 obtain⟨q,hq⟩:=List.mem_iff_getElem?.1 hx
 rw[List.getElem?_take]at hq
 split at hq
 ·rename_i hqp
  have:=h2 q hqp
  rw[List.getD_eq_getElem?_getD,hq,Option.getD_some]at this
  cases hb:x.name==(l.getD p dfSv).name with
  |false=>rfl
  |true=>exact absurd (jR hb) this
 ·cases hq
theorem JO {l:List Sv} (h:GF l=true):1≤l.length∧l.length≤8:=by
 unfold GF inZ at h
 simp only[Bool.and_eq_true,decide_eq_true_eq]at h
 omega
theorem ZCU {l:List Sv} (h:GF l=true) {p:Nat} (hp:p<l.length) {c:Int} {v:List Int} (hc:0≤c∧c≤(l.getD p dfSv).code.length) (hv:v.length=(l.getD p dfSv).vars.length) (vU:∀x∈v,vlB x=true) :
  GF (l.set p {l.getD p dfSv with pc:=c,vars:=v})=true:=by
 have hn:=JO h
 have g:∀q,(l.set p {l.getD p dfSv with pc:=c,vars:=v}).getD q dfSv=if p=q then {l.getD p dfSv with pc:=c,vars:=v} else l.getD q dfSv:=fun q=>by
  split
  ·rename_i e;subst e
   rw[List.getD_eq_getElem?_getD,List.getElem?_set_self hp];rfl
  ·rename_i e
   rw[List.getD_eq_getElem?_getD,List.getElem?_set_ne e,←List.getD_eq_getElem?_getD]
 have gn:∀q,((l.set p {l.getD p dfSv with pc:=c,vars:=v}).getD q dfSv).name=(l.getD q dfSv).name:=fun q=>by
  rw[g];split
  ·rename_i e;subst e;rfl
  ·rfl
 refine ZEk (by rw[List.length_set];exact hn) (fun q hq=>?_)
 rw[List.length_set]at hq⊢
 obtain⟨h1,h2⟩:=TH h hq
 refine⟨?_,fun r hr=>by rw[gn,gn];exact h2 r hr⟩
 rw[g];split
 ·rename_i e;subst e
  exact⟨h1.name,h1.cl,by show v.length≤8;rw[hv];exact h1.vl,hc,h1.rt,vU,by show ∀x∈(l.getD p dfSv).code,rE v.length _ _ _ x=true;rw[hv];exact h1.ins⟩
 ·exact h1
theorem C2 {p:Pr} {e:Ev}:∀k,k≤p.evs.length→stV {p with evs:=p.evs++[e]} k=stV p k
 |0,_=>rfl
 |k+1,h=>by
   have ih:=C2 (p:=p) (e:=e) k oM
   simp only[stV]
   rw[ih,List.getD_eq_getElem?_getD,List.getElem?_append_left oM,←List.getD_eq_getElem?_getD]
theorem ZA0 {p:Pr} {e:Ev}:wV {p with evs:=p.evs++[e]}=apE (wV p) e:=by
 unfold wV
 show stV {p with evs:=p.evs++[e]} (p.evs++[e]).length=_
 rw[List.length_append,List.length_singleton]
 simp only[stV]
 rw[C2 _ (Nat.le_refl _),List.getD_eq_getElem?_getD,List.getElem?_append_right (Nat.le_refl _),Nat.sub_self];rfl
theorem Z4 {l:List Ev} {e:Ev}:∀k,k≤l.length→nSd (l++[e]) k=nSd l k
 |0,_=>rfl
 |k+1,h=>by
   have ih:=Z4 (l:=l) (e:=e) k oM
   simp only[nSd]
   rw[ih,List.getD_eq_getElem?_getD,List.getElem?_append_left oM,←List.getD_eq_getElem?_getD]
theorem ZAL {l:List Ev} {e:Ev}:nSd (l++[e]) (l++[e]).length=nSd l l.length+if e.kind=2 then 1 else 0:=by
 rw[List.length_append,List.length_singleton]
 simp only[nSd]
 rw[Z4 _ (Nat.le_refl _),List.getD_eq_getElem?_getD,List.getElem?_append_right (Nat.le_refl _),Nat.sub_self]
 simp only[List.getElem?_cons_zero,Option.getD_some]
 split<;>omega
theorem Q5 {t:Tr} {p:Nat} {e:Ev} (hp:p<t.length):∀k,k≤t.length→cSd (yC t p e) k=cSd t k+if p<k∧e.kind=2 then 1 else 0
 |0,_=>by simp[cSd]
 |k+1,h=>by
   have ih:=Q5 (e:=e) hp k oM
   simp only[cSd]
   rw[ih]
   by_cases hk:p=k
   ·subst hk
    rw[kK hp,ZAL,if_neg oM]
    by_cases h2:e.kind=2
    ·rw[if_pos h2,if_pos ⟨by omega,h2⟩];omega
    ·rw[if_neg h2,if_neg (fun h=>h2 h.2)];omega
   ·rw[AO hk]
    by_cases h2:p<k∧e.kind=2
    ·rw[if_pos h2,if_pos ⟨by omega,h2.2⟩];omega
    ·rw[if_neg h2,if_neg (fun h=>h2 ⟨by omega,h.2⟩)];omega
structure PutOk (w:Wd) (p:Nat) (s:Sv) (e:Ev) (n:Nw) (sn:Int):Prop where
 hp:p<w.sv.length
 sv:∃c v,s={w.sv.getD p dfSv with pc:=c,vars:=v}∧(0≤c∧c≤(w.sv.getD p dfSv).code.length)∧v.length=(w.sv.getD p dfSv).vars.length∧(∀x∈v,vlB x=true)∧apE (w.sv.getD p dfSv).vars e=v
 room:(DA w.tr p).length<64
 form:CB w.tr.length p e=true
 al:e.asg.length≤8
 af:vC (QL (w.sv.getD p dfSv).vars.length e.asg) e.asg.length=0
 snd:e.kind=2→e.msg=w.sent
 rcv:e.kind=3→(∀x∈ids w.tr,(sA w.tr x).kind=3→(sA w.tr x).msg≠e.msg)∧AF w.tr e.peer.toNat e.msg p=true
 net:NwV n
 now:n.now=w.now
 sent:sn=if e.kind=2 then w.sent+1 else w.sent
 msg:∀m∈n.l,mgB w.tr m=true∨(e.kind=2∧m.body.length=1∧m.nu=w.sent∧m.fr=p∧m.to=e.peer)
def r8 (w:Wd) (p:Nat) (e:Ev):Ev:={e with time:=JI (w.sv.getD p dfSv) w.now}
theorem P1 {s:Sv} (hr:xI s=true) {now:Int} (hn:0≤now∧now≤1000000000):JI s now=s.off+now*s.rate / 1000∧0≤JI s now∧JI s now≤1099511627776:=by
 have hk:aG s now=true:=by
  unfold aG inZ;rw[hr];simp;exact hn
 obtain⟨h1,h2,h3,h4,h5⟩:=M1 hk
 unfold JI
 rw[if_pos hk]
 refine⟨rfl,?_,?_⟩<;>omega
theorem PutOk.ev {w:Wd} (hw:WdV w) {p:Nat} {s:Sv} {e:Ev} {n:Nw} {sn:Int} (h:PutOk w p s e n sn):NewEv w.tr p (r8 w p e):=by
 have hp:p<w.tr.length:=by rw[hw.len];exact h.hp
 have hf:=hw.fit p hp
 unfold OL at hf
 simp only[Bool.and_eq_true,decide_eq_true_eq]at hf
 obtain⟨_,f2,_,_,f5⟩:=hf
 have hs:=(TH hw.sv h.hp).1
 have hc:=P1 hs.rt hw.now
 refine⟨hw.tr,hp,h.room,h.form,?_,fun i hi=>?_,h.al,?_,fun hk x hx hxk=>?_,h.rcv⟩
 ·unfold inB r8;simp;exact hc.2
 ·unfold RX at f5
  have LU:(w.tr.getD p dfPr).evs=DA w.tr p:=rfl
  rw[LU,hi]at f5
  simp only[decide_eq_true_eq,Nat.add_sub_cancel]at f5
  rcases f5 with f5|f5
  ·omega
  ·exact f5
 ·rw[f2];exact h.af
 ·have:=hw.snt x hx hxk
  have h2:=h.snd hk
  show _≠e.msg
  omega
theorem ZFC {t:Tr} {p:Nat} {e:Ev} (h:NewEv t p e) {m:Ms} (hm:mgB t m=true):mgB (yC t p e) m=true:=by
 unfold mgB at hm⊢
 simp only[Bool.and_eq_true,decide_eq_true_eq]at hm
 obtain⟨h1,h2,h3,h4⟩:=hm
 obtain⟨q,i,hq,hpl,hi⟩:=ZR h2
 have hv:=UI h.v
 have hv2:=UI (N0 h)
 rw[TL hv]at hq
 have hf:mD t 2 m.nu=some (q,i+1):=by
  cases hc:mD t 2 m.nu with
  |none =>
    have:xG t 2 m.nu=(0,0):=by unfold xG yA;show (mD t 2 m.nu).getD (0,0)=_;rw[hc];rfl
    rw[this]at hq
    have:=congrArg Prod.snd hq;simp only at this;omega
  |some x=>have:=(YD hc).1;rw[show yA t (ids t) 2 m.nu=xG t 2 m.nu from rfl,hq]at this;rw[this]
 have hx:=BI hf
 obtain⟨k1,k2⟩:=AE hf
 have hf2:mD (yC t p e) 2 m.nu=some (q,i+1):=by
  rw[LI h (.inl rfl),if_neg (fun hc=>h.fresh (.inl rfl) hc.1 hx k1 (k2.trans hc.2.symm))];exact hf
 have e2:SC (yC t p e) 2 m.nu=(q,i+1):=by rw[TL hv2];exact (YD hf2).1
 have e1:SC t 2 m.nu=(q,i+1):=by rw[TL hv];exact hq
 rw[e1]at h3 h4
 rw[e2,KJ h.hp hx,decide_eq_true h1,decide_eq_true h3,decide_eq_true h4];rfl
theorem ZFD {t:Tr} {p:Nat} {e:Ev} (h:NewEv t p e) (hk:e.kind=2) {m:Ms} (h1:m.body.length=1) (h2:m.nu=e.msg) (h3:m.fr=p) (h4:m.to=e.peer):mgB (yC t p e) m=true:=by
 have hf2:mD (yC t p e) 2 m.nu=some (p,(DA t p).length+1):=by
  rw[LI h (.inl rfl),if_pos ⟨hk,h2.symm⟩]
 have e2:SC (yC t p e) 2 m.nu=(p,(DA t p).length+1):=by rw[TL (UI (N0 h))];exact (YD hf2).1
 unfold mgB
 rw[e2,wK h.hp,decide_eq_true h1,decide_eq_true h3.symm,decide_eq_true h4.symm];rfl
def x9 (w:Wd) (p:Nat) (s:Sv) (e:Ev) (n:Nw) (sn:Int):Wd:={mJ w p s e with net:=n,sent:=sn}
theorem PutOk.tr {w:Wd} {p:Nat} {s:Sv} {e:Ev} {n:Nw} {sn:Int} (h:PutOk w p s e n sn):(x9 w p s e n sn).tr=yC w.tr p (r8 w p e):=by
 obtain⟨c,v,rfl,_⟩:=h.sv
 rfl
theorem PutOk.valid {w:Wd} (hw:WdV w) {p:Nat} {s:Sv} {e:Ev} {n:Nw} {sn:Int} (h:PutOk w p s e n sn):WdV (x9 w p s e n sn):=by
 have he:=h.ev hw
 have ht:=h.tr
 have hp:=he.hp
 obtain⟨c,v,hs,hc,vU,lS,E8⟩:=h.sv
 have pT:(x9 w p s e n sn).sv=w.sv.set p s:=rfl
 refine⟨?_,hw.now,h.net,h.now,?_,?_,fun q hq=>?_,fun x hx hk=>?_,?_,fun m hm=>?_⟩
 ·rw[pT,hs];exact ZCU hw.sv h.hp hc vU lS
 ·rw[ht];exact N0 he
 ·rw[ht,lH,pT,List.length_set];exact hw.len
 ·rw[ht,lH]at hq
  have hf:=hw.fit q hq
  rw[ht,pT]
  show OL _ _ w.now=true
  by_cases hpq:p=q
  ·subst hpq
   rw[DL hp,List.getD_eq_getElem?_getD (l:=w.sv.set p s),List.getElem?_set_self h.hp,Option.getD_some]
   unfold OL at hf⊢
   simp only[Bool.and_eq_true,decide_eq_true_eq]at hf⊢
   obtain⟨f1,f2,f3,f4,f5⟩:=hf
   rw[hs]
   refine⟨f1,?_,?_,?_,?_⟩
   ·show (w.tr.getD p dfPr).vars.length=v.length
    rw[vU];exact f2
   ·show n8 _ v.length=true
    rw[vU];exact f3
   ·have:wV {w.tr.getD p dfPr with evs:=(w.tr.getD p dfPr).evs++[r8 w p e]}=v:=by
     rw[ZA0,f4];exact E8
    exact this
   ·unfold RX
    simp only[decide_eq_true_eq]
    refine .inr ?_
    show (List.getD (DA w.tr p++[r8 w p e]) ((DA w.tr p++[r8 w p e]).length-1) lJ).time≤_
    rw[List.length_append,List.length_singleton,Nat.add_sub_cancel,List.getD_eq_getElem?_getD,List.getElem?_append_right (Nat.le_refl _),Nat.sub_self]
    exact Int.le_refl _
  ·rw[xN hpq,List.getD_eq_getElem?_getD (l:=w.sv.set p s),List.getElem?_set_ne hpq,←List.getD_eq_getElem?_getD]
   exact hf
 ·have DX:=h.sent
  show (sA (x9 w p s e n sn).tr x).msg<sn
  rw[ht]at hx hk⊢
  rcases (yK hp).1 hx with hx|hx
  ·rw[KJ hp hx]at hk⊢
   have:=hw.snt x hx hk
   split at DX<;>omega
  ·rw[hx,wK hp]at hk⊢
   have hk:e.kind=2:=hk
   have:=h.snd hk
   rw[if_pos hk]at DX
   show e.msg<sn
   omega
 ·rw[ht,lH,Q5 hp _ (Nat.le_refl _)]
  have DX:=h.sent
  have hc:=hw.cnt
  show _=sn
  have hk:(r8 w p e).kind=e.kind:=rfl
  rw[hk,DX]
  by_cases h2:e.kind=2
  ·rw[if_pos ⟨hp,h2⟩,if_pos h2];omega
  ·rw[if_neg (fun h=>h2 h.2),if_neg h2];omega
 ·rw[ht]
  rcases h.msg m hm with h1|⟨h1,h2,h3,h4,h5⟩
  ·exact ZFC he h1
  ·exact ZFD he h1 h2 (by rw[h3];exact (h.snd h1).symm) h4 h5
theorem ZA6 {α:Type} (a:α):eqB a a=true:=Y8 rfl
def m7:Ms:=⟨0,1,7,[]⟩
def m8:Ms:=⟨0,1,8,[]⟩
theorem ZBQ {n:Nw} {to:Int} (h:0≤fiR n to):∃k:Nat,fiR n to=k∧k<n.l.length∧arB n to k=true∧∀j,j<k→arB n to j=false:=by
 unfold fiR VV at *
 cases hf:(List.range n.l.length).find? (arB n to) with
 |none=>rw[hf]at h;cases h
 |some k =>
   refine⟨k,rfl,List.mem_range.1 (List.mem_of_find?_eq_some hf),List.find?_some hf,fun j hj=>?_⟩
   obtain⟨as1,bs1,h1,h2⟩:=List.find?_eq_some_iff_append.1 hf |>.2
   have hjr:(List.range n.l.length)[j]? = some j:=List.getElem?_range (by have:=List.mem_range.1 (List.mem_of_find?_eq_some hf);omega)
   have FC:as1.length=k:=by
    have h3:(List.range n.l.length)[as1.length]? = some k:=by rw[h1];simp
    have h4:=(List.getElem?_eq_some_iff.1 h3).1
    rw[List.length_range]at h4
    rw[List.getElem?_range h4]at h3
    exact Option.some.inj h3
   rw[h1,List.getElem?_append_left oM]at hjr
   have:=h2 j (List.mem_of_getElem? hjr)
   simpa using this
theorem uU {n:Nw} {to:Int}:∀i,(∀j,j<i→arB n to j=false)→wtN n to i=0
 |0,_=>rfl
 |i+1,h=>by
   simp only[wtN]
   rw[h i oM,uU i (fun j hj=>h j oM)];rfl
theorem S4 {n:Nw} {to:Int} (h:fiR n to<0):∀j,j<n.l.length→arB n to j=false:=by
 intro j hj
 cases hc:arB n to j with
 |false=>rfl
 |true =>
   exfalso
   unfold fiR VV at h
   cases hf:(List.range n.l.length).find? (arB n to) with
   |none =>
     have:=List.find?_eq_none.1 hf j (List.mem_range.2 hj)
     rw[hc]at this;exact this rfl
   |some k=>rw[hf]at h;simp only at h;omega
theorem asg1 {nv i:Nat} (hi:i<nv) {v:Int} (hv:vlB v=true):vC (QL nv [⟨i,v⟩]) 1=0:=by
 have hb:fM v=true:=by
  unfold vlB at hv;unfold fM
  simpa using hv
 have ME:inB ((i:Nat):Int) 0 ((nv:Int)-1)=true:=by
  unfold inB;simp;omega
 simp only[vC,if_true]
 unfold QL
 simp only[List.getD_cons_zero,hb,ME,List.take_zero,List.any_nil]
 rfl
theorem EU {l:List Int} {i:Nat} {v:Int} (h:∀x∈l,vlB x=true) (hv:vlB v=true):∀x∈l.set i v,vlB x=true:=fun x hx=>by
 rcases List.mem_or_eq_of_mem_set hx with h1|h1
 ·exact h x h1
 ·rw[h1];exact hv
theorem Z1 {w:Wd} (hw:WdV w) {p:Nat} (hp:p<w.sv.length) (dC:(DA w.tr p).length<64) {c:Int} {v:List Int} {a:List Asg} (hc:0≤c∧c≤(w.sv.getD p dfSv).code.length) (hv:v.length=(w.sv.getD p dfSv).vars.length) (lS:∀x∈v,vlB x=true)
  (al:a.length≤8) (af:vC (QL (w.sv.getD p dfSv).vars.length a) a.length=0) (E8:apE (w.sv.getD p dfSv).vars ⟨1,0,0,0,a⟩=v) {n:Nw} (hn:NwV n) (fW:n.now=w.now) (hm:∀m∈n.l,m∈w.net.l) :
  PutOk w p {w.sv.getD p dfSv with pc:=c,vars:=v} ⟨1,0,0,0,a⟩ n w.sent:=
 ⟨hp,⟨c,v,rfl,hc,hv,lS,E8⟩,dC,rfl,al,af,fun h=>absurd (show (1:Int)=2 from h) (by decide),fun h=>absurd (show (1:Int)=3 from h) (by decide),hn,fW,rfl,fun m h=>.inl (hw.msg m (hm m h))⟩
theorem jZ {t:Tr} {k m:Int} (h:¬(xG t k m).2>0):∀x∈ids t,(sA t x).kind=k→(sA t x).msg≠m:=fun x hx hk hm=>by
 cases hf:mD t k m with
 |none =>
   have:=List.find?_eq_none.1 hf x hx
   rw[hk,hm]at this;simp at this
 |some y =>
   obtain⟨h1,h2,_⟩:=YD hf
   rw[show yA t (ids t) k m=xG t k m from rfl]at h1
   rw[h1]at h;exact h h2
theorem Y4 {t:Tr} (hv:Vok t) {m:Ms} (hm:mgB t m=true):m.body.length=1∧∃q i,m.fr=(q:Nat)∧(q,i+1)∈ids t∧(sA t (q,i+1)).kind=2∧(sA t (q,i+1)).msg=m.nu∧(sA t (q,i+1)).peer=m.to:=by
 unfold mgB at hm
 simp only[Bool.and_eq_true,decide_eq_true_eq]at hm
 obtain⟨h1,h2,h3,h4⟩:=hm
 obtain⟨q,i,hq,hpl,hi⟩:=ZR h2
 rw[hq]at h3 h4
 rw[TL (UI hv)]at hq
 refine⟨h1,q,i,h3.symm,?_⟩
 have hf:mD t 2 m.nu=some (q,i+1):=by
  cases hc:mD t 2 m.nu with
  |none =>
    have:xG t 2 m.nu=(0,0):=by unfold xG yA;show (mD t 2 m.nu).getD (0,0)=_;rw[hc];rfl
    rw[this]at hq
    have:=congrArg Prod.snd hq;simp only at this;omega
  |some x=>have:=(YD hc).1;rw[show yA t (ids t) 2 m.nu=xG t 2 m.nu from rfl,hq]at this;rw[this]
 exact⟨BI hf,(AE hf).1,(AE hf).2,h4⟩
theorem ZAz {n:Nw} {k:Nat} {m:Ms} (h:m∈(woN n k).l):m∈n.l:=by
 change m∈n.l.take k++n.l.drop (k+1) at h
 rcases List.mem_append.1 h with h|h
 ·exact List.mem_of_mem_take h
 ·exact List.mem_of_mem_drop h
theorem ins_mem {n:Nw} {m x:Ms} {a:Int} {c:Nat} (h:x∈(qS n m a c).l):x∈n.l∨x=m:=by
 change x∈n.l.take _++_++n.l.drop _ at h
 rw[List.mem_append,List.mem_append]at h
 rcases h with (h|h)|h
 ·exact .inl (List.mem_of_mem_take h)
 ·exact .inr (List.mem_replicate.1 h).2
 ·exact .inl (List.mem_of_mem_drop h)
theorem KR {w:Wd} {p:Nat} (h:uG w p=true):ZL (w.sv.getD p dfSv)=false∧(DA w.tr p).length<64∧(YS (w.sv.getD p dfSv)=4→0<aI w.net p)∧(YS (w.sv.getD p dfSv)=3→w.sent≤199):=by
 unfold uG at h
 rw[Bool.and_eq_true]at h
 obtain⟨h1,h2⟩:=h
 rw[Bool.not_eq_true',Bool.or_eq_false_iff]at h1
 refine⟨h1.1,by have:=of_decide_eq_false h1.2;omega,fun h4=>?_,fun h3=>?_⟩
 ·rw[if_pos h4]at h2;exact of_decide_eq_true h2
 ·rw[if_neg oM,if_pos h3]at h2;exact of_decide_eq_true h2
theorem S2 {n:Nw} {to:Int} (h:0<aI n to):0≤fiR n to:=by
 rcases Int.lt_or_le (fiR n to) 0 with h1|h1
 ·exfalso
  unfold aI at h
  split at h
  ·rw[uU _ (S4 h1)]at h;omega
  ·omega
 ·exact h1
theorem ZEn {w:Wd} (hw:WdV w) {p:Nat} (hp:p<w.sv.length) (dC:(DA w.tr p).length<64) {x:In} (hx:0≤x.a∧x.a<(w.sv.getD p dfSv).vars.length) (VJ:0≤(w.sv.getD p dfSv).pc∧(w.sv.getD p dfSv).pc<(w.sv.getD p dfSv).code.length)
  (hb:fiR w.net p<0→0≤x.b∧x.b<(w.sv.getD p dfSv).code.length):∃s e n sn,V2 w p (w.sv.getD p dfSv) x=x9 w p s e n sn∧PutOk w p s e n sn:=by
 obtain⟨s,hs⟩:∃s,w.sv.getD p dfSv=s:=⟨_,rfl⟩
 have pT:=(TH hw.sv hp).1
 rw[hs]at pT hx VJ hb⊢
 unfold V2
 by_cases h1:fiR w.net p<0
 ·rw[if_pos h1]
  have:=hb h1
  have e:({s with pc:=x.b}:Sv)={s with pc:=x.b,vars:=s.vars}:=rfl
  exact⟨_,_,w.net,w.sent,rfl,by
   have:=Z1 hw hp dC (c:=x.b) (v:=s.vars) (a:=[]) (by rw[hs];omega) (by rw[hs]) pT.vs (by simp) rfl (by rw[hs];rfl) hw.net hw.nnow (fun m h=>h)
   rw[hs]at this;exact this⟩
 rw[if_neg h1]
 obtain⟨k,hk,qP,hka,_⟩:=ZBQ (n:=w.net) (to:=p) oM
 rw[hk,Int.toNat_natCast]
 obtain⟨m,hm⟩:∃m,w.net.l.getD k dfMs=m:=⟨_,rfl⟩
 have OX:m∈w.net.l:=by rw[←hm,KA qP];exact List.getElem_mem qP
 unfold arB at hka
 simp only[Bool.and_eq_true,decide_eq_true_eq]at hka
 rw[hm]at hka⊢
 have jP:=hw.net.out qP
 by_cases h2:(xG w.tr 3 m.nu).2>0
 ·rw[if_pos h2]
  exact⟨_,_,woN w.net k,w.sent,rfl,by
   have:=Z1 hw hp dC (c:=s.pc) (v:=s.vars) (a:=[]) (by rw[hs];omega) (by rw[hs]) pT.vs (by simp) rfl (by rw[hs];rfl) jP hw.nnow (fun m h=>ZAz h)
   rw[hs]at this;exact this⟩
 rw[if_neg h2]
 obtain⟨YJ,q,i,hq,hqi,hk2,hmn,hpe⟩:=Y4 hw.tr (hw.msg m OX)
 have hms:=hw.net.ms m OX
 unfold msB ptB at hms
 simp only[Bool.and_eq_true,decide_eq_true_eq,List.all_eq_true]at hms
 obtain⟨m1,m2,m3,m4,m5,m6⟩:=hms
 obtain⟨j,hj⟩:∃j:Nat,x.a=j:=⟨x.a.toNat,by omega⟩
 have hql:=(fE.1 hqi).1
 have lS:vlB (m.body.getD 0 0)=true:=by rw[KA oM];exact m6 _ (List.getElem_mem _)
 rw[hj,Int.toNat_natCast]
 refine⟨_,_,woN w.net k,w.sent,rfl,⟨hp,⟨s.pc+1,s.vars.set j (m.body.getD 0 0),by rw[hs];rfl,by rw[hs];omega,by rw[hs];simp,EU pT.vs lS,by rw[hs];rfl⟩,dC,?_,by simp[SQ],by rw[hs];exact asg1 oM lS,fun h=>absurd (show (3:Int)=2 from h) (by decide),fun _=>⟨jZ h2,?_⟩,jP,hw.nnow,rfl,fun m h=>.inl (hw.msg m (ZAz h))⟩⟩
 ·unfold CB SQ inB
  simp only[show ((3:Int)==1)=false from rfl,show ((3:Int)==2)=false from rfl,show ((3:Int)==3)=true from rfl,Bool.or_true,if_true,Bool.false_eq_true,if_false]
  have:(m.fr != (p:Int))=true:=by simp;omega
  rw[this]
  simp;omega
 ·unfold AF SQ
  simp only
  rw[hq,Int.toNat_natCast,List.any_eq_true]
  refine⟨sA w.tr (q,i+1),ZA5 hqi,?_⟩
  rw[hk2,hmn,hpe,hka.1];simp
theorem ZDm {w:Wd} (hw:WdV w) {p:Nat} (hp:p<w.sv.length) (hen:uG w p=true) (iV:(stW w p).2=0):∃s e n sn,(stW w p).1=x9 w p s e n sn∧PutOk w p s e n sn:=by
 obtain⟨he,dC,h4,h3⟩:=KR hen
 have pT:=(TH hw.sv hp).1
 unfold stW at iV⊢
 obtain⟨s,hs⟩:∃s,w.sv.getD p dfSv=s:=⟨_,rfl⟩
 have hL:=fun {c v a} hc hv lS al af E8=>Z1 hw hp dC (c:=c) (v:=v) (a:=a) hc hv lS al af E8 hw.net hw.nnow (fun m h=>h)
 have hR:=fun {x} hx VJ hb=>ZEn hw hp dC (x:=x) hx VJ hb
 rw[hs]at pT he h4 h3 iV hL hR⊢
 unfold ZL at he
 rw[Bool.or_eq_false_iff]at he
 have VJ:0≤s.pc∧s.pc<s.code.length:=by have:=pT.pc;have:=of_decide_eq_false he.1;omega
 obtain⟨x,hx⟩:∃x,s.code.getD s.pc.toNat mN=x:=⟨_,rfl⟩
 have hox:YS s=x.op:=by unfold YS;rw[hx]
 have h8:x.op≠8:=by have:=of_decide_eq_false he.2;rw[hx]at this;exact this
 have ME:rE s.vars.length s.code.length p w.sv.length x=true:=pT.ins x (by rw[←hx,KA oM];exact List.getElem_mem _)
 rw[hox]at h4 h3
 rw[hx]at iV⊢
 have PI:0≤s.pc+1∧s.pc+1≤s.code.length:=by omega
 have noA:∀c:Int,0≤c∧c≤s.code.length→PutOk w p {s with pc:=c} dfEv54 w.net w.sent:=fun c hc=>hL (a:=[]) hc rfl pT.vs (by simp) rfl rfl
 unfold rE inZ at ME
 unfold stI at iV⊢
 by_cases o1:x.op=1
 ·rw[if_pos o1]at iV⊢
  rw[if_pos (.inl o1)]at ME
  simp only[Bool.and_eq_true,decide_eq_true_eq]at ME
  obtain⟨j,hj⟩:∃j:Nat,x.a=j:=⟨x.a.toNat,by omega⟩
  rw[hj,Int.toNat_natCast]
  exact⟨_,_,w.net,w.sent,rfl,hL PI (by simp) (EU pT.vs ME.2) (by simp) (asg1 oM ME.2) rfl⟩
 rw[if_neg o1]at iV⊢
 by_cases o2:x.op=2
 ·rw[if_pos o2]at iV⊢
  rw[if_pos (.inr o2)]at ME
  simp only[Bool.and_eq_true,decide_eq_true_eq]at ME
  obtain⟨j,hj⟩:∃j:Nat,x.a=j:=⟨x.a.toNat,by omega⟩
  rw[hj,Int.toNat_natCast]at iV⊢
  by_cases hq:vlB (s.vars.getD j 0+x.b)=true
  ·rw[if_pos hq]
   exact⟨_,_,w.net,w.sent,rfl,hL PI (by simp) (EU pT.vs hq) (by simp) (asg1 oM hq) rfl⟩
  ·rw[if_neg hq]at iV;cases iV
 rw[if_neg o2]at iV⊢
 rw[if_neg oM]at ME
 by_cases o6:x.op=6
 ·rw[if_pos o6]at iV⊢
  rw[if_neg oM,if_neg oM,if_neg oM,if_pos o6]at ME
  simp only[Bool.and_eq_true,decide_eq_true_eq]at ME
  obtain⟨j,hj⟩:∃j:Nat,x.b=j:=⟨x.b.toNat,by omega⟩
  have FF:j<s.vars.length:=by omega
  rw[hj,Int.toNat_natCast]at iV⊢
  by_cases h0:0<s.vars.getD j 0
  ·rw[if_pos h0]
   have hq:vlB (s.vars.getD j 0-1)=true:=by
    have:=pT.vs (s.vars.getD j 0) (by rw[KA FF];exact List.getElem_mem FF)
    unfold vlB at this⊢
    simp only[decide_eq_true_eq]at this⊢
    omega
   exact⟨_,_,w.net,w.sent,rfl,hL (c:=x.a) oM (by simp) (EU pT.vs hq) (by simp) (asg1 FF hq) rfl⟩
  ·rw[if_neg h0]
   exact⟨_,_,w.net,w.sent,rfl,noA _ PI⟩
 rw[if_neg o6]at iV⊢
 by_cases o3:x.op=3
 ·rw[if_pos o3]at iV⊢
  rw[if_pos o3]at ME
  simp only[Bool.and_eq_true,decide_eq_true_eq]at ME
  obtain⟨j,hj⟩:∃j:Nat,x.a=j:=⟨x.a.toNat,by omega⟩
  obtain⟨m,hm⟩:∃m,iH w p s x=m:=⟨_,rfl⟩
  have hmd:m=⟨p,x.b,w.sent,[s.vars.getD j 0]⟩:=by rw[←hm];unfold iH;rw[hj,Int.toNat_natCast]
  rw[hm]at iV⊢
  have hp8:=(JO hw.sv).2
  have hs0:0≤w.sent:=by have:=hw.cnt;omega
  have LH:=h3 o3
  have hms:msB m=true:=by
   have:=pT.vs (s.vars.getD j 0) (by rw[KA oM];exact List.getElem_mem _)
   rw[hmd]
   unfold msB ptB
   simp only[List.all_cons,List.all_nil,this,Bool.and_true,List.length_singleton,Bool.and_eq_true,decide_eq_true_eq]
   refine⟨by omega,by omega,by omega,by omega,by omega⟩
  by_cases hz:sdE w.net m=0
  ·rw[if_pos hz]
   have hN:sdR w.net m=qS w.net m (mG w.net m) (vS w.net).toNat:=by unfold sdR;rw[if_pos hz]
   have hvN:NwV (sdR w.net m):=by
    rw[hN]
    unfold sdE at hz
    split at hz
    ·cases hz
    rename_i z1
    split at hz
    ·cases hz
    rename_i z2
    have h0:=(IP hw.net).1
    have ht:=tN hw.net (m:=m) w.net.l.length (Nat.le_refl _)
    have hn0:=hw.net.now
    refine hw.net.ins hms ⟨?_,?_⟩ ?_
    ·unfold mG;omega
    ·omega
    ·unfold vS at z2⊢;omega
   refine⟨_,_,sdR w.net m,w.sent+1,rfl,⟨hp,⟨s.pc+1,s.vars,by rw[hs],by rw[hs];exact PI,by rw[hs],pT.vs,by rw[hs];rfl⟩,dC,?_,by simp,rfl,fun _=>rfl,fun h=>absurd (show (2:Int)=3 from h) (by decide),hvN,?_,rfl,fun y hy=>?_⟩⟩
   ·have hl:=hw.len
    unfold CB inB
    simp only[show ((2:Int)==1)=false from rfl,show ((2:Int)==2)=true from rfl,Bool.true_or,if_true,Bool.false_eq_true,if_false]
    have:(x.b != (p:Int))=true:=by simp;omega
    rw[this]
    simp;omega
   ·rw[hN];exact hw.nnow
   ·rw[hN]at hy
    rcases ins_mem hy with hy|hy
    ·exact .inl (hw.msg y hy)
    ·rw[hy,hmd];exact .inr ⟨rfl,rfl,rfl,rfl,rfl⟩
  ·rw[if_neg hz]at iV;exact absurd iV hz
 rw[if_neg o3]at iV⊢
 rw[if_neg o3]at ME
 by_cases o45:x.op=4∨x.op=5
 ·rw[if_pos o45]at iV⊢
  have hxa:0≤x.a∧x.a<s.vars.length:=by
   rcases o45 with o|o<;>simp[o]at ME<;>omega
  refine hR hxa VJ (fun hf=>?_)
  rcases o45 with o|o
  ·have:=S2 (h4 o);omega
  ·simp[o]at ME;omega
 rw[if_neg o45]
 exact⟨_,_,w.net,w.sent,rfl,noA _ PI⟩
theorem AM {w:Wd} (hw:WdV w) {p:Nat} (hp:p<w.sv.length) (hen:uG w p=true) (iV:(stW w p).2=0):WdV (stW w p).1:=by
 obtain⟨s,e,n,sn,h1,h2⟩:=ZDm hw hp hen iV
 rw[h1];exact h2.valid hw
def tkW (w:Wd) (by_:Int):Wd:={w with now:=w.now+by_,net:={w.net with now:=w.now+by_}}
theorem ZAg {s:Sv} (hr:xI s=true) {a b:Int} (ha:0≤a) (hab:a≤b) (hb:b≤1000000000):JI s a≤JI s b:=by
 rw[(P1 hr ⟨ha,by omega⟩).1,(P1 hr ⟨by omega,hb⟩).1]
 have h1:a*s.rate≤b*s.rate:=Int.mul_le_mul_of_nonneg_right hab (by unfold xI inZ at hr;simp only[Bool.and_eq_true,decide_eq_true_eq]at hr;omega)
 have:=Int.ediv_le_ediv (c:=1000) oM h1
 omega
theorem G9 {w:Wd} (hw:WdV w) {k:Int} (hk:0≤k∧w.now+k≤1000000000):WdV (tkW w k):=by
 have hn:=hw.now
 refine⟨hw.sv,⟨by show 0≤w.now+k;omega,hk.2⟩,hw.net.at oM,rfl,hw.tr,hw.len,fun p hp=>?_,hw.snt,hw.cnt,hw.msg⟩
 have hf:=hw.fit p hp
 change OL (w.tr.getD p dfPr) (w.sv.getD p dfSv) (w.now+k)=true
 have hs:=(TH hw.sv (p:=p) (by rw[←hw.len];exact hp)).1
 have hc:=ZAg hs.rt hn.1 (show w.now≤w.now+k by omega) hk.2
 unfold OL RX at hf⊢
 simp only[Bool.and_eq_true,decide_eq_true_eq]at hf⊢
 obtain⟨f1,f2,f3,f4,f5⟩:=hf
 refine⟨f1,f2,f3,f4,?_⟩
 rcases f5 with f5|f5
 ·exact .inl f5
 ·exact .inr oM
theorem ZDl {l:List Sv} (h:GF l=true):SvsS l:=by
 have hn:=JO h
 refine⟨by omega,fun s hs=>?_⟩
 obtain⟨p,hp,rfl⟩:=List.getElem_of_mem hs
 have hv:=(TH h hp).1
 rw[KA hp]at hv
 have h1:=wQ hv.name
 have h2:=hv.cl
 have h3:=hv.vl
 exact⟨by omega,by omega,by omega⟩
theorem WdV.small {w:Wd} (h:WdV w):Small w.tr:=h.tr.small
theorem WdV.nm {w:Wd} (h:WdV w):Nm w.tr:=h.tr.nm
theorem WdV.svS {w:Wd} (h:WdV w):SvsS w.sv:=ZDl h.sv
theorem WdV.evl {w:Wd} (h:WdV w) {p:Nat} (hp:p<w.tr.length):(w.tr.getD p dfPr).evs.length≤64:=by
 rw[KA hp];exact iJ hp (h.tr.head p hp)
theorem WdV.sent {w:Wd} (h:WdV w):0≤w.sent∧w.sent≤512:=by
 have hc:=h.cnt
 have:=E1 (t:=w.tr) (fun x hx=>by
  obtain⟨p,hp,rfl⟩:=List.getElem_of_mem hx
  exact iJ hp (h.tr.head p hp)) w.tr.length (Nat.le_refl _)
 have:=h.tr.hi
 omega
theorem ZAx {n:Nw} {to:Int} {j:Nat}:∀{i:Nat},j<i→arB n to j=true→0<wtN n to i
 |0,h,_=>by omega
 |i+1,h,ha=>by
   simp only[wtN]
   by_cases hj:j<i
   ·have:=ZAx hj ha
    split<;>omega
   ·obtain rfl:j=i:=by omega
    rw[if_pos ha];omega
theorem ZDN {w:Wd} (hw:WdV w) {p:Nat} (hp:p<w.sv.length) (he:uG w p=true):∃k:Nat,(w.sv.getD p dfSv).pc=k∧k<(w.sv.getD p dfSv).code.length∧(w.sv.getD p dfSv).code.getD (w.sv.getD p dfSv).pc.toNat mN=(w.sv.getD p dfSv).code.getD k mN∧YS (w.sv.getD p dfSv)≠8∧rE (w.sv.getD p dfSv).vars.length (w.sv.getD p dfSv).code.length p w.sv.length ((w.sv.getD p dfSv).code.getD k mN)=true:=by
 have hs:=(TH hw.sv hp).1
 obtain⟨h1,_⟩:=KR he
 unfold ZL at h1
 rw[Bool.or_eq_false_iff]at h1
 have h2:=of_decide_eq_false h1.1
 have VJ:=hs.pc
 obtain⟨k,hk⟩:∃k:Nat,(w.sv.getD p dfSv).pc=k:=⟨(w.sv.getD p dfSv).pc.toNat,by omega⟩
 have qP:k<(w.sv.getD p dfSv).code.length:=by omega
 refine⟨k,hk,qP,by rw[hk,Int.toNat_natCast],fun h=>of_decide_eq_false h1.2 h,?_⟩
 rw[KA qP]
 exact hs.ins _ (List.getElem_mem qP)
end Go.Proofs.YtoccdlnoaindmaaGreatDoor
