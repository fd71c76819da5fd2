/- Texts of one proof, laid together: X5, X9, XA. No condition. -/
import Derived.Test.YtoccdlnoaindmaaGreatDoorWB6
import Derived.Test.YtoccdlnoaindmaaGreatDoorWB9
import Derived.Test.YtoccdlnoaindmaaGreatDoorWB8
import Derived.Test.YtoccdlnoaindmaaGreatDoorWB2
import Derived.Test.YtoccdlnoaindmaaGreatDoorWB7
import Derived.Test.YtoccdlnoaindmaaGreatDoorWB5
import Derived.Test.YtoccdlnoaindmaaGreatDoorWB10
set_option maxHeartbeats 8000000
set_option maxRecDepth 20000
namespace Go.Proofs.YtoccdlnoaindmaaGreatDoor
set_option maxHeartbeats 16000000
set_option maxRecDepth 100000
set_option linter.unusedVariables false
set_option linter.unusedSimpArgs false
attribute [local go_sem ↓] aB EA IB RB tC yB GB nC DB IC pA vB bB nA jB eB aA iB EB CA mA SB wB xB QB uB XB pB qB pC TB mC lC sD GC tD nD gC rC
attribute [local go_sem] AA lA gD YB bA rD bC eC fC QI XI aC MB LB FB uC uA lB eA mB fA ZB aop YE jD ZD VC QD OB XD pH GE tE amm vE AB rB dE OC nE comma RC aE nH bE eE YH iE xE kD XH eqC eqF rF cellsOf YA aD lD uE PG rd rdI TD mk MC AV.cell List.all_cons List.all_nil Bool.and_true Bool.true_and Bool.and_self List.length_cons List.length_nil List.length_append Nat.reduceAdd Nat.reduceSub Nat.reduceMul Nat.zero_add Nat.add_zero List.cons_append List.nil_append List.append_assoc List.append_nil List.getElem?_cons_zero List.getElem?_cons_succ List.getElem?_nil List.set_cons_zero List.set_cons_succ List.drop_zero List.drop_succ_cons List.take_zero List.take_succ_cons List.take_nil List.drop_nil List.map_cons List.map_nil Option.map_some if_true if_false Bool.false_eq_true and_self true_and and_true Nat.reduceLeDiff Nat.reduceLT Nat.le_refl Nat.reduceEqDiff ite_true ite_false beq_self_eq_true beq_true beq_false Bool.not_true Bool.not_false Bool.true_beq Bool.false_beq XE XC sB JD KD jC qC zC KC UD VD QE VB QJ DI XJ ZJ eF lF bF fF geI gtI aF decide_true decide_false room List.getElem?_map List.length_map List.length_take Int.toNat_natCast Nat.min_def Nat.min_self fD dD VE QC ED ZG xA List.getElem_cons_zero List.getElem_cons_succ
def a_sSvc:AFunc:=⟨2,87,[.tmp 4],(.seq (.region [⟨some 2,.box (.t 0),none⟩,⟨some 3,.box (.t 1),none⟩,⟨some 4,.mv (.c (.v (.bool false))),none⟩]) (.seq (.seq (.region [⟨some 7,.faddr 0 (.t 2),none⟩,⟨some 8,.load none (.t 7),none⟩,⟨some 9,.faddr 0 (.t 3),none⟩,⟨some 10,.load none (.t 9),none⟩,⟨some 11,.binS .neq (.t 8) (.t 10),none⟩,⟨some 12,.mv (.t 11),none⟩,⟨some 13,.faddr 2 (.t 2),some (12,false)⟩,⟨some 14,.load none (.t 13),some (12,false)⟩,⟨some 15,.faddr 2 (.t 3),some (12,false)⟩,⟨some 16,.load none (.t 15),some (12,false)⟩,⟨some 17,.bin .neq (.t 14) (.t 16),some (12,false)⟩,⟨some 18,.pick (.t 12) (.c (.v (.bool true))) (.t 17),none⟩,⟨some 19,.mv (.t 18),none⟩,⟨some 20,.faddr 4 (.t 2),some (19,false)⟩,⟨some 21,.load none (.t 20),some (19,false)⟩,⟨some 22,.faddr 4 (.t 3),some (19,false)⟩,⟨some 23,.load none (.t 22),some (19,false)⟩,⟨some 24,.bin .neq (.t 21) (.t 23),some (19,false)⟩,⟨some 25,.pick (.t 19) (.c (.v (.bool true))) (.t 24),none⟩,⟨some 26,.mv (.t 25),none⟩,⟨some 27,.faddr 5 (.t 2),some (26,false)⟩,⟨some 28,.load none (.t 27),some (26,false)⟩,⟨some 29,.faddr 5 (.t 3),some (26,false)⟩,⟨some 30,.load none (.t 29),some (26,false)⟩,⟨some 31,.bin .neq (.t 28) (.t 30),some (26,false)⟩,⟨some 32,.pick (.t 26) (.c (.v (.bool true))) (.t 31),none⟩,⟨some 33,.mv (.t 32),none⟩,⟨some 34,.faddr 1 (.t 2),some (33,false)⟩,⟨some 35,.load none (.t 34),some (33,false)⟩,⟨some 36,.len (.t 35),some (33,false)⟩,⟨some 37,.faddr 1 (.t 3),some (33,false)⟩,⟨some 38,.load none (.t 37),some (33,false)⟩,⟨some 39,.len (.t 38),some (33,false)⟩,⟨some 40,.bin .neq (.t 36) (.t 39),some (33,false)⟩,⟨some 41,.pick (.t 33) (.c (.v (.bool true))) (.t 40),none⟩,⟨some 42,.mv (.t 41),none⟩,⟨some 43,.faddr 3 (.t 2),some (42,false)⟩,⟨some 44,.load none (.t 43),some (42,false)⟩,⟨some 45,.len (.t 44),some (42,false)⟩,⟨some 46,.faddr 3 (.t 3),some (42,false)⟩,⟨some 47,.load none (.t 46),some (42,false)⟩,⟨some 48,.len (.t 47),some (42,false)⟩,⟨some 49,.bin .neq (.t 45) (.t 48),some (42,false)⟩,⟨some 50,.pick (.t 42) (.c (.v (.bool true))) (.t 49),none⟩]) (.cond (.t 50) (.seq (.region [⟨some 4,.mv (.c (.v (.bool false))),none⟩]) .ret) .skip)) (.seq (.seq (.region [⟨some 5,.mv (.c (.v (.int .i64 0))),none⟩]) (.block 0 (.loop (.seq (.seq (.region [⟨some 51,.mv (.t 5),none⟩,⟨some 52,.faddr 1 (.t 2),none⟩,⟨some 53,.load none (.t 52),none⟩,⟨some 54,.len (.t 53),none⟩,⟨some 55,.bin .lss (.t 51) (.t 54),none⟩]) (.cond (.t 55) .skip (.exit 0))) (.seq (.block 1 (.seq (.draw [⟨0,⟨some 58,.faddr 1 (.t 2),none⟩,[]⟩,⟨1,⟨some 59,.load none (.t 58),none⟩,[]⟩,⟨2,⟨some 60,.mv (.t 5),none⟩,[]⟩,⟨3,⟨some 61,.iaddr 3 (.t 59) (.t 60),none⟩,[]⟩,⟨4,⟨some 62,.load (some 3) (.t 61),none⟩,[]⟩,⟨5,⟨some 63,.faddr 1 (.t 3),none⟩,[]⟩,⟨6,⟨some 64,.load none (.t 63),none⟩,[]⟩,⟨7,⟨some 65,.mv (.t 5),none⟩,[]⟩,⟨8,⟨some 66,.iaddr 3 (.t 64) (.t 65),none⟩,[]⟩,⟨9,⟨some 67,.load (some 3) (.t 66),none⟩,[]⟩,⟨10,⟨some 68,.eqs true [.i,.i,.i] (.t 62) (.t 67),none⟩,[]⟩]) (.cond (.t 68) (.seq (.region [⟨some 4,.mv (.c (.v (.bool false))),none⟩]) .ret) .skip))) (.region [⟨some 56,.mv (.t 5),none⟩,⟨some 57,.bin .add (.t 56) (.c (.v (.int .i64 1))),none⟩,⟨some 5,.mv (.t 57),none⟩])))))) (.seq (.seq (.region [⟨some 6,.mv (.c (.v (.int .i64 0))),none⟩]) (.block 2 (.loop (.seq (.seq (.region [⟨some 69,.mv (.t 6),none⟩,⟨some 70,.faddr 3 (.t 2),none⟩,⟨some 71,.load none (.t 70),none⟩,⟨some 72,.len (.t 71),none⟩,⟨some 73,.bin .lss (.t 69) (.t 72),none⟩]) (.cond (.t 73) .skip (.exit 2))) (.seq (.block 3 (.seq (.draw [⟨0,⟨some 76,.faddr 3 (.t 2),none⟩,[]⟩,⟨1,⟨some 77,.load none (.t 76),none⟩,[]⟩,⟨2,⟨some 78,.mv (.t 6),none⟩,[]⟩,⟨3,⟨some 79,.iaddr 1 (.t 77) (.t 78),none⟩,[]⟩,⟨4,⟨some 80,.load none (.t 79),none⟩,[]⟩,⟨5,⟨some 81,.faddr 3 (.t 3),none⟩,[]⟩,⟨6,⟨some 82,.load none (.t 81),none⟩,[]⟩,⟨7,⟨some 83,.mv (.t 6),none⟩,[]⟩,⟨8,⟨some 84,.iaddr 1 (.t 82) (.t 83),none⟩,[]⟩,⟨9,⟨some 85,.load none (.t 84),none⟩,[]⟩,⟨10,⟨some 86,.bin .neq (.t 80) (.t 85),none⟩,[]⟩]) (.cond (.t 86) (.seq (.region [⟨some 4,.mv (.c (.v (.bool false))),none⟩]) .ret) .skip))) (.region [⟨some 74,.mv (.t 6),none⟩,⟨some 75,.bin .add (.t 74) (.c (.v (.int .i64 1))),none⟩,⟨some 6,.mv (.t 75),none⟩])))))) (.seq (.region [⟨some 4,.mv (.c (.v (.bool true))),none⟩]) .ret)))))⟩
theorem H7:dA Tryz.prog 70=some a_sSvc:=by kernel_rfl
def I3:List (Nat×Nat):=[(4,5),(51,68)]
def H3:List (Nat×Nat):=[(4,4),(6,6),(69,86)]
def a_sWd:AFunc:=({c:=_}:CF Tryz.prog 22).c
theorem ZAm:dA Tryz.prog 22=some a_sWd:=by kernel_rfl
def ZBG:List (Nat×Nat):=[(4,5),(43,61)]
def a_noneW:AFunc:=({c:=_}:CF Tryz.prog 19).c
theorem LZ:dA Tryz.prog 19=some a_noneW:=by kernel_rfl

theorem neI (n:Int):(n != n)=false:=by simp
theorem neS (s:ByteArray):(s != s)=false:=by
 show (!(s==s))=false
 rw[pL];rfl
theorem H5 (s:Sv) (hS:SvS s) (b l:List Row):QA Tryz.prog 70 [.agg ((eSv s).map .v),.agg ((eSv s).map .v)] b l (fun r b' l'=>r=.v (.bool true)∧b'=b∧l'=l):=by
 refine VA H7 rfl (by decide) ?_
 intro B g hB hR hE hA;simp only[xA]at hA
 have heS:(eSv s).map AV.v=[.v (.str s.name),.v (.isl 3 (s.code.map eIn)),.v (.int .i64 s.pc),.v (.isl 1 (s.vars.map eI)),.v (.int .i64 s.off),.v (.int .i64 s.rate)]:=rfl
 rw[heS]at hA
 have jO:=hS.code
 have vU:=hS.vars
 simp (disch:=first|decide|omega) only[a_sSvc,hA,neI,neS,pL,YA,cellsOf,List.length_map,go_sem]
 refine tA (ι:=Nat) I3 (fun i=>[(5,.v (.int .i64 i))]) 2 (fun _=>[.live 0 6 [[.v (.str s.name),.v (.isl 3 (s.code.map eIn)),.v (.int .i64 s.pc),.v (.isl 1 (s.vars.map eI)),.v (.int .i64 s.off),.v (.int .i64 s.rate)]],.live 0 6 [[.v (.str s.name),.v (.isl 3 (s.code.map eIn)),.v (.int .i64 s.pc),.v (.isl 1 (s.vars.map eI)),.v (.int .i64 s.off),.v (.int .i64 s.rate)]]])
  (fun i=>i≤s.code.length) (fun i=>s.code.length-i) 0 (Nat.zero_le _) (by (repeat (first|exact hE.mono oM|refine KLt.up ?_ kL))) (by ((try simp (disch:=decide) only[hA,go_sem])<;>exact kH)) (fun e=>qA.refl _ _ _) ?_
 intro g1 mH wD KB i hi
 by_cases LA:i<s.code.length
 ·have UK:=LL LA
  simp (disch:=first|decide|omega) only[hA,KB,UK,neI,YA,cellsOf,List.length_map,go_sem]
  refine⟨i+1,LA,by simp only;omega,?_⟩
  exact qA.kround (p:=I3) (k:=2) (by ((repeat refine (gA rfl).trans ?_);exact wD)) (by ((try simp (disch:=decide) only[hA,KB,go_sem])<;>exact kH)) rfl mH (by simp) kV hR kL
 obtain rfl:i=s.code.length:=by omega
 simp (disch:=first|decide|omega) only[hA,KB,YA,cellsOf,List.length_map,go_sem]
 refine tA (ι:=Nat) H3 (fun i=>[(6,.v (.int .i64 i))]) 2 (fun _=>[.live 0 6 [[.v (.str s.name),.v (.isl 3 (s.code.map eIn)),.v (.int .i64 s.pc),.v (.isl 1 (s.vars.map eI)),.v (.int .i64 s.off),.v (.int .i64 s.rate)]],.live 0 6 [[.v (.str s.name),.v (.isl 3 (s.code.map eIn)),.v (.int .i64 s.pc),.v (.isl 1 (s.vars.map eI)),.v (.int .i64 s.off),.v (.int .i64 s.rate)]]])
  (fun i=>i≤s.vars.length) (fun i=>s.vars.length-i) 0 (Nat.zero_le _) (by (repeat (first|exact mH.mono oM|refine KLt.up ?_ kL))) (by ((try simp (disch:=decide) only[hA,KB,go_sem])<;>exact kH)) (fun e=>qA.refl _ _ _) ?_
 intro g2 CM bN IG i hi
 by_cases LA:i<s.vars.length
 ·have UK:=mE LA
  simp (disch:=first|decide|omega) only[hA,KB,IG,UK,neI,YA,cellsOf,List.length_map,go_sem]
  refine⟨i+1,LA,by simp only;omega,?_⟩
  exact qA.kround (p:=H3) (k:=2) (by ((repeat refine (gA rfl).trans ?_);exact bN)) (by ((try simp (disch:=decide) only[hA,KB,IG,go_sem])<;>exact kH)) rfl CM (by simp) kV hR kL
 obtain rfl:i=s.vars.length:=by omega
 simp (disch:=first|decide|omega) only[hA,KB,IG,YA,cellsOf,List.length_map,go_sem]
 exact ZA (xs:=[.v (.bool true)]) (.inr rfl) (by simp (disch:=first|decide|omega) only[JA,zA,go_sem,hA,KB,IG]) kO hR hB ⟨rfl,rfl,rfl⟩
theorem TW (w:Wd) (hS:Small w.tr) (tR:SvsS w.sv) (O8:NwS w.net) (b l:List Row):QA Tryz.prog 22 [.agg ((eWd w).map .v),.agg ((eWd w).map .v)] b l (fun r b' l'=>r=.v (.bool true)∧b'=b∧l'=l):=by
 refine VA ZAm rfl (by decide) ?_
 intro B g hB hR hE hA;simp only[xA]at hA
 have bW:(eWd w).map AV.v=[.v (.isl 6 (w.sv.map eSv)),.v (.int .i64 w.net.now),.v (.bool w.net.fifo),.v (.isl 4 (w.net.l.map eMs)),.v (.isl 1 (w.net.tm.map eI)),.v (.isl 2 (w.net.fates.map eFt)),.v (.int .i64 w.now),.v (.int .i64 w.sent),.v (.isl 3 (w.tr.map ePr))]:=rfl
 rw[bW]at hA
 have eW:=tR.len
 have cN:=fun b l=>tY w.net w.net O8 b l
 rw[ZA6]at cN
 simp only[eNw,List.map_cons,List.map_nil]at cN
 have cT:=fun b l=>cY w.tr hS b l
 simp only[eT]at cT
 simp (disch:=first|decide|omega) only[a_sWd,hA,neI,YA,cellsOf,List.length_map,go_sem]
 refine QA.nxt (cN _ _) ?_
 simp (disch:=first|decide|omega) only[hA,neI,YA,cellsOf,List.length_map,go_sem]
 refine QA.nxt (cT _ _) ?_
 simp (disch:=first|decide|omega) only[hA,neI,YA,cellsOf,List.length_map,go_sem]
 refine tA (ι:=Nat) ZBG (fun i=>[(5,.v (.int .i64 i))]) 2 (fun _=>[.live 0 9 [(eWd w).map .v],.live 0 9 [(eWd w).map .v]])
  (fun i=>i≤w.sv.length) (fun i=>w.sv.length-i) 0 (Nat.zero_le _) (by (repeat (first|exact hE.mono oM|refine KLt.up ?_ kL))) (by ((try simp (disch:=decide) only[hA,go_sem])<;>exact kH)) (fun e=>qA.refl _ _ _) ?_
 intro g1 mH wD KB i hi
 rw[bW]
 by_cases LA:i<w.sv.length
 ·have UK:=MH LA
  have cS:=fun b l=>H5 w.sv[i] (tR.all _ (List.getElem_mem LA)) b l
  simp only[eSv,List.map_cons,List.map_nil]at cS
  simp (disch:=first|decide|omega) only[hA,KB,UK,neI,YA,cellsOf,List.length_map,go_sem]
  refine QA.nxt (cS _ _) ?_
  simp (disch:=first|decide|omega) only[hA,KB,UK,neI,YA,cellsOf,List.length_map,go_sem]
  refine⟨i+1,LA,by simp only;omega,?_⟩
  simp only[bW]
  exact qA.kround (p:=ZBG) (k:=2) (by ((repeat refine (gA rfl).trans ?_);exact wD)) (by ((try simp (disch:=decide) only[hA,KB,go_sem])<;>exact kH)) rfl mH (by simp) kV hR kL
 obtain rfl:i=w.sv.length:=by omega
 simp (disch:=first|decide|omega) only[hA,KB,YA,cellsOf,List.length_map,go_sem]
 exact ZA (xs:=[.v (.bool true)]) (.inr rfl) (by simp (disch:=first|decide|omega) only[JA,zA,go_sem,hA,KB]) kO hR hB ⟨rfl,rfl,rfl⟩
theorem y6 (b l:List Row):QA Tryz.prog 19 [.agg ((eWd wd0).map .v)] b l (fun r b' l'=>r=.v (.bool true)∧b'=b∧l'=l):=by
 refine VA LZ rfl (by decide) ?_
 intro B g hB hR hE hA;simp only[xA]at hA
 have bW:(eWd wd0).map AV.v=[.v (.isl 6 []),.v (.int .i64 0),.v (.bool false),.v (.isl 4 []),.v (.isl 1 []),.v (.isl 2 []),.v (.int .i64 0),.v (.int .i64 0),.v (.isl 3 [])]:=rfl
 rw[bW]at hA
 have cS:∀b l,QA Tryz.prog 22 [.agg [.v (.isl 6 []),.v (.int .i64 0),.v (.bool false),.v (.isl 4 []),.v (.isl 1 []),.v (.isl 2 []),.v (.int .i64 0),.v (.int .i64 0),.v (.isl 3 [])],.agg [.v .zsl,.v (.int .i64 0),.v (.bool false),.v .zsl,.v .zsl,.v .zsl,.v (.int .i64 0),.v (.int .i64 0),.v .zsl]] b l (fun r b' l'=>r=.v (.bool true)∧b'=b∧l'=l):=fun b l=>by
  refine (TW wd0 ⟨by simp[wd0],by simp[wd0],by simp[wd0],by simp[wd0]⟩ ⟨by simp[wd0],by simp[wd0]⟩ ⟨by simp[wd0,nw0],by simp[wd0,nw0],by simp[wd0,nw0],by simp[wd0,nw0]⟩ b l).le rfl (fun i x y hx hy=>?_)
  match i,hx,hy with
  |0,hx,hy=>cases hx;cases hy;rw[bW];exact .refl _
  |1,hx,hy =>
    cases hx;cases hy
    rw[bW]
    refine .agg _ _ rfl (fun j u v hu hv=>?_)
    match j,hu,hv with
    |0,hu,hv=>cases hu;cases hv;exact .v _ _ (.zsl 6)
    |1,hu,hv=>cases hu;cases hv;exact .refl _
    |2,hu,hv=>cases hu;cases hv;exact .refl _
    |3,hu,hv=>cases hu;cases hv;exact .v _ _ (.zsl 4)
    |4,hu,hv=>cases hu;cases hv;exact .v _ _ (.zsl 1)
    |5,hu,hv=>cases hu;cases hv;exact .v _ _ (.zsl 2)
    |6,hu,hv=>cases hu;cases hv;exact .refl _
    |7,hu,hv=>cases hu;cases hv;exact .refl _
    |8,hu,hv=>cases hu;cases hv;exact .v _ _ (.zsl 3)
 simp (disch:=first|decide|omega) only[a_noneW,hA,YA,cellsOf,go_sem]
 refine QA.nxt (cS _ _) ?_
 simp (disch:=first|decide|omega) only[hA,go_sem]
 exact ZA (xs:=[.v (.bool true)]) (.inr rfl) (by simp (disch:=first|decide|omega) only[JA,zA,go_sem,hA]) kO hR hB ⟨rfl,rfl,rfl⟩
def a_svc54:AFunc:=({c:=_}:CF Tryz.prog 12).c
theorem IZ:dA Tryz.prog 12=some a_svc54:=by kernel_rfl
def a_svc541:AFunc:=({c:=_}:CF Tryz.prog 52).c
theorem uW:dA Tryz.prog 52=some a_svc541:=by kernel_rfl
def a_net54:AFunc:=({c:=_}:CF Tryz.prog 13).c
theorem AZ:dA Tryz.prog 13=some a_net54:=by kernel_rfl
def a_net541:AFunc:=({c:=_}:CF Tryz.prog 54).c
theorem tW:dA Tryz.prog 54=some a_net541:=by kernel_rfl

def uP (s:Sv):Bool:=decide (110<s.code.length)||(decide (12<s.vars.length)||decide (40<s.name.size))
def UO (m:Ms):Bool:=decide (30<m.body.length)
def OO (l:List Sv):Bool:=decide (l.length≤10)&&!((List.range l.length).any fun j=>uP (l.getD j dfSv))
def eL (n:Nw):Bool:=decide (n.l.length≤40)&&(decide (n.tm.length≤40)&&(decide (n.fates.length≤40)&&!((List.range n.l.length).any fun j=>UO (n.l.getD j dfMs))))
theorem mV (s:Sv) (b l:List Row):QA Tryz.prog 52 [.agg ((eSv s).map .v)] b l (fun r b' l'=>r=.v (.bool (uP s))∧b'=b∧l'=l):=by
 refine VA uW rfl (by decide) ?_
 intro B g hB hR hE hA;simp only[xA]at hA
 have d0:decide ((s.name.size:Int)>40)=decide (40<s.name.size):=by rw[Bool.eq_iff_iff];simp;omega
 have d0':decide ((40:Int)<s.name.size)=decide (40<s.name.size):=d0
 by_cases h1:110<s.code.length
 ·have d1:decide ((s.code.length:Int)>110)=true:=decide_eq_true oM
  have d1':decide ((110:Int)<(s.code.length:Int))=true:=d1
  simp (disch:=first|decide|omega) only[a_svc541,hA,eSv,List.length_map,d1,d1',go_sem]
  exact ZA (xs:=[.v (.bool true)]) (.inr rfl) (by simp (disch:=first|decide|omega) only[JA,zA,go_sem,hA]) kO hR hB ⟨by unfold uP;rw[decide_eq_true h1];rfl,rfl,rfl⟩
 have d1:decide ((s.code.length:Int)>110)=false:=decide_eq_false oM
 have d1':decide ((110:Int)<(s.code.length:Int))=false:=d1
 by_cases h2:12<s.vars.length
 ·have d2:decide ((s.vars.length:Int)>12)=true:=decide_eq_true oM
  have d2':decide ((12:Int)<(s.vars.length:Int))=true:=d2
  simp (disch:=first|decide|omega) only[a_svc541,hA,eSv,List.length_map,d1,d1',d2,d2',go_sem]
  exact ZA (xs:=[.v (.bool true)]) (.inr rfl) (by simp (disch:=first|decide|omega) only[JA,zA,go_sem,hA]) kO hR hB ⟨by unfold uP;rw[decide_eq_true h2];simp[one],rfl,rfl⟩
 have d2:decide ((s.vars.length:Int)>12)=false:=decide_eq_false oM
 have d2':decide ((12:Int)<(s.vars.length:Int))=false:=d2
 simp (disch:=first|decide|omega) only[a_svc541,hA,eSv,List.length_map,d1,d1',d2,d2',d0,d0',go_sem]
 exact ZA (xs:=[.v (.bool (decide (40<s.name.size)))]) (.inr rfl) (by simp (disch:=first|decide|omega) only[JA,zA,go_sem,hA]) kO hR hB ⟨by unfold uP;rw[decide_eq_false h1,decide_eq_false h2];rfl,rfl,rfl⟩
theorem LV (m:Ms) (b l:List Row):QA Tryz.prog 54 [.agg ((eMs m).map .v)] b l (fun r b' l'=>r=.v (.bool (UO m))∧b'=b∧l'=l):=by
 refine VA tW rfl (by decide) ?_
 intro B g hB hR hE hA;simp only[xA]at hA
 have hd:decide ((m.body.length:Int)>30)=UO m:=by unfold UO;rw[Bool.eq_iff_iff];simp;omega
 have hd':decide ((30:Int)<(m.body.length:Int))=UO m:=hd
 simp (disch:=first|decide|omega) only[a_net541,hA,eMs,List.length_map,hd,hd',go_sem]
 exact ZA (xs:=[.v (.bool (UO m))]) (.inr rfl) (by simp (disch:=first|decide|omega) only[JA,zA,go_sem,hA]) kO hR hB ⟨rfl,rfl,rfl⟩
theorem iY (L:List Sv) (b l:List Row):QA Tryz.prog 12 [.v (.isl 6 (L.map eSv))] b l (fun r b' l'=>r=.v (.bool (OO L))∧b'=b∧l'=l):=by
 refine VA IZ rfl (by decide) ?_
 intro B g hB hR hE hA;simp only[xA]at hA
 by_cases h1:L.length≤10
 case neg =>
  have d1:decide ((L.length:Int)≤10)=false:=decide_eq_false oM
  simp (disch:=first|decide|omega) only[a_svc54,hA,List.length_map,d1,go_sem]
  exact ZA (xs:=[.v (.bool false)]) (.inr rfl) (by simp (disch:=first|decide|omega) only[JA,zA,go_sem,hA]) kO hR hB ⟨by unfold OO;rw[decide_eq_false h1];rfl,rfl,rfl⟩
 have d1:decide ((L.length:Int)≤10)=true:=decide_eq_true oM
 have cC:=fun B0 l0=>uD ZI OH (L.map eSv) 52 [] (fun j=>uP (L.getD j dfSv)) sN (by rw[List.length_map];omega) B0 l0 (fun j row hj=>by
  have FF:j<L.length:=by have:=(List.getElem?_eq_some_iff.1 hj).1;rwa [List.length_map]at this
  rw[List.getElem?_map,List.getElem?_eq_getElem FF]at hj
  cases hj
  simp only[KA FF]
  exact mV _ _ _)
 rw[List.length_map]at cC
 simp (disch:=first|decide|omega) only[a_svc54,hA,List.length_map,d1,go_sem]
 refine QA.nxt (cC _ _) ?_
 simp (disch:=first|decide|omega) only[hA,go_sem]
 exact ZA (xs:=[.v (.bool (!(List.range L.length).any fun j=>uP (L.getD j dfSv)))]) (.inr rfl) (by simp (disch:=first|decide|omega) only[JA,zA,go_sem,hA]) kO hR hB ⟨by unfold OO;rw[decide_eq_true h1];rfl,rfl,rfl⟩
theorem LY (n:Nw) (b l:List Row):QA Tryz.prog 13 [.agg ((eNw n).map .v)] b l (fun r b' l'=>r=.v (.bool (eL n))∧b'=b∧l'=l):=by
 refine VA AZ rfl (by decide) ?_
 intro B g hB hR hE hA;simp only[xA]at hA
 have heN:(eNw n).map AV.v=[.v (.int .i64 n.now),.v (.bool n.fifo),.v (.isl 4 (n.l.map eMs)),.v (.isl 1 (n.tm.map eI)),.v (.isl 2 (n.fates.map eFt))]:=rfl
 rw[heN]at hA
 by_cases h1:n.l.length≤40
 case neg =>
  have d1:decide ((n.l.length:Int)≤40)=false:=decide_eq_false oM
  simp (disch:=first|decide|omega) only[a_net54,hA,YA,cellsOf,List.length_map,d1,go_sem]
  exact ZA (xs:=[.v (.bool false)]) (.inr rfl) (by simp (disch:=first|decide|omega) only[JA,zA,go_sem,hA]) kO hR hB ⟨by unfold eL;rw[decide_eq_false h1];rfl,rfl,rfl⟩
 have d1:decide ((n.l.length:Int)≤40)=true:=decide_eq_true oM
 by_cases h2:n.tm.length≤40
 case neg =>
  have d2:decide ((n.tm.length:Int)≤40)=false:=decide_eq_false oM
  simp (disch:=first|decide|omega) only[a_net54,hA,YA,cellsOf,List.length_map,d1,d2,go_sem]
  exact ZA (xs:=[.v (.bool false)]) (.inr rfl) (by simp (disch:=first|decide|omega) only[JA,zA,go_sem,hA]) kO hR hB ⟨by unfold eL;rw[decide_eq_true h1,decide_eq_false h2];rfl,rfl,rfl⟩
 have d2:decide ((n.tm.length:Int)≤40)=true:=decide_eq_true oM
 by_cases h3:n.fates.length≤40
 case neg =>
  have d3:decide ((n.fates.length:Int)≤40)=false:=decide_eq_false oM
  simp (disch:=first|decide|omega) only[a_net54,hA,YA,cellsOf,List.length_map,d1,d2,d3,go_sem]
  exact ZA (xs:=[.v (.bool false)]) (.inr rfl) (by simp (disch:=first|decide|omega) only[JA,zA,go_sem,hA]) kO hR hB ⟨by unfold eL;rw[decide_eq_true h1,decide_eq_true h2,decide_eq_false h3];rfl,rfl,rfl⟩
 have d3:decide ((n.fates.length:Int)≤40)=true:=decide_eq_true oM
 have cC:=fun B0 l0=>uD aQ bQ (n.l.map eMs) 54 [] (fun j=>UO (n.l.getD j dfMs)) (fun row h=>by obtain⟨m,_,rfl⟩:=List.mem_map.1 h;rfl) (by rw[List.length_map];omega) B0 l0 (fun j row hj=>by
  have FF:j<n.l.length:=by have:=(List.getElem?_eq_some_iff.1 hj).1;rwa [List.length_map]at this
  rw[List.getElem?_map,List.getElem?_eq_getElem FF]at hj
  cases hj
  simp only[KA FF]
  exact LV _ _ _)
 rw[List.length_map]at cC
 simp (disch:=first|decide|omega) only[a_net54,hA,YA,cellsOf,List.length_map,d1,d2,d3,go_sem]
 refine QA.nxt (cC _ _) ?_
 simp (disch:=first|decide|omega) only[hA,go_sem]
 exact ZA (xs:=[.v (.bool (!(List.range n.l.length).any fun j=>UO (n.l.getD j dfMs)))]) (.inr rfl) (by simp (disch:=first|decide|omega) only[JA,zA,go_sem,hA]) kO hR hB ⟨by unfold eL;rw[decide_eq_true h1,decide_eq_true h2,decide_eq_true h3];rfl,rfl,rfl⟩
theorem D9 {l:List Sv} (h:OO l=true):l.length≤10∧SvsS l:=by
 simp only[OO,Bool.and_eq_true,Bool.not_eq_true',List.any_eq_false,List.mem_range,decide_eq_true_eq]at h
 obtain⟨h1,h2⟩:=h
 refine⟨h1,by omega,fun s hs=>?_⟩
 obtain⟨j,hj,rfl⟩:=List.getElem_of_mem hs
 have:=h2 j hj
 rw[KA hj]at this
 simp only[uP,Bool.or_eq_true,decide_eq_true_eq,not_or]at this
 exact⟨by omega,by omega,by omega⟩
theorem ZAK {n:Nw} (h:eL n=true):n.l.length≤40∧n.tm.length≤40∧n.fates.length≤40∧NwS n:=by
 simp only[eL,Bool.and_eq_true,Bool.not_eq_true',List.any_eq_false,List.mem_range,decide_eq_true_eq]at h
 obtain⟨h1,h2,h3,h4⟩:=h
 refine⟨h1,h2,h3,by omega,by omega,by omega,fun m hm=>?_⟩
 obtain⟨j,hj,rfl⟩:=List.getElem_of_mem hm
 have:=h4 j hj
 rw[KA hj]at this
 simp only[UO,decide_eq_true_eq]at this
 omega
def a_lwBeg:AFunc:=({c:=_}:CF Tryz.prog 3).c
theorem X0:dA Tryz.prog 3=some a_lwBeg:=by kernel_rfl
def a_lwBeg1:AFunc:=({c:=_}:CF Tryz.prog 21).c
theorem mW:dA Tryz.prog 21=some a_lwBeg1:=by kernel_rfl

theorem FV (s:Sv) (b l:List Row):QA Tryz.prog 21 [.agg ((eSv s).map .v)] b l (fun r b' l'=>r=.v (.bool (s.pc != 0))∧b'=b∧l'=l):=by
 refine VA mW rfl (by decide) ?_
 intro B g hB hR hE hA;simp only[xA]at hA
 simp (disch:=first|decide|omega) only[a_lwBeg1,hA,eSv,YA,cellsOf,go_sem]
 exact ZA (xs:=[.v (.bool (s.pc != 0))]) (.inr rfl) (by simp (disch:=first|decide|omega) only[JA,zA,go_sem,hA]) kO hR hB ⟨rfl,rfl,rfl⟩
theorem PO (L:List Sv) (n:Nw) (s:Sv) (now:Int) (b l:List Row) :
  QA Tryz.prog 3 [.v (.isl 6 (L.map eSv)),.agg ((eNw n).map .v),.agg ((eSv s).map .v),.v (.int .i64 now)] b l (fun r b' l'=>r=.v (.bool true)∧b'=b∧l'=l):=by
 refine VA X0 rfl (by decide) ?_
 intro B g hB hR hE hA;simp only[xA]at hA
 have heN:(eNw n).map AV.v=[.v (.int .i64 n.now),.v (.bool n.fifo),.v (.isl 4 (n.l.map eMs)),.v (.isl 1 (n.tm.map eI)),.v (.isl 2 (n.fates.map eFt))]:=rfl
 have heS:(eSv s).map AV.v=[.v (.str s.name),.v (.isl 3 (s.code.map eIn)),.v (.int .i64 s.pc),.v (.isl 1 (s.vars.map eI)),.v (.int .i64 s.off),.v (.int .i64 s.rate)]:=rfl
 have cG:=fun b l=>LY n b l
 rw[heN]at cG
 rw[heN,heS]at hA
 have b00:((0:Int)==0)=true:=rfl
 have b11:((1:Int)==1)=true:=rfl
 have b66:((6:Int)==6)=true:=rfl
 have n00:((0:Int) != 0)=false:=rfl
 have n22:((2:Int) != 2)=false:=rfl
 have n20:((2:Int) != 0)=true:=rfl
 simp (disch:=first|decide|omega) only[a_lwBeg,hA,YA,cellsOf,go_sem]
 refine QA.nxt (SJ _ _) ?_
 simp (disch:=first|decide|omega) only[hA,YA,cellsOf,go_sem]
 refine QA.nxt (iY L _ _) ?_
 cases g1:OO L
 ·simp (disch:=first|decide|omega) only[hA,YA,cellsOf,go_sem]
  refine QA.nxt (SJ _ _) ?_
  simp (disch:=first|decide|omega) only[hA,go_sem]
  exact ZA (xs:=[.v (.bool true)]) (.inr rfl) (by simp (disch:=first|decide|omega) only[JA,zA,go_sem,hA]) kO hR hB ⟨rfl,rfl,rfl⟩
 simp (disch:=first|decide|omega) only[hA,YA,cellsOf,go_sem]
 refine QA.nxt (cG _ _) ?_
 cases g2:eL n
 ·simp (disch:=first|decide|omega) only[hA,YA,cellsOf,go_sem]
  refine QA.nxt (SJ _ _) ?_
  simp (disch:=first|decide|omega) only[hA,go_sem]
  exact ZA (xs:=[.v (.bool true)]) (.inr rfl) (by simp (disch:=first|decide|omega) only[JA,zA,go_sem,hA]) kO hR hB ⟨rfl,rfl,rfl⟩
 obtain⟨hl10,hL⟩:=D9 g1
 obtain⟨hn1,hn2,hn3,hN⟩:=ZAK g2
 have cN:=fun b l=>XQ L hL n hN b l
 have cC:=fun b l=>lK (.str s.name) (.isl 3 (s.code.map eIn)) (.int .i64 s.pc) (.v (.isl 1 (s.vars.map eI))) s now b l (.inl ⟨_,rfl⟩)
 have cR:=fun b l=>lR (.str s.name) (.isl 3 (s.code.map eIn)) (.int .i64 s.pc) (.isl 1 (s.vars.map eI)) s now b l
 have cV:=fun b l=>PT n b l
 rw[heN]at cN cV
 obtain⟨E,hE0⟩:∃E,eJ L n=E:=⟨_,rfl⟩
 rw[hE0]at cN
 obtain⟨v,hv⟩:∃v,JI s now=v:=⟨_,rfl⟩
 rw[hv]at cC cR
 have hnv:=neI v
 have cCon:=fun B0 l0=>uD ZI OH (L.map eSv) 21 [] (fun j=>(L.getD j dfSv).pc != 0) sN (by rw[List.length_map];omega) B0 l0 (fun j row hj=>by
  have FF:j<L.length:=by have:=(List.getElem?_eq_some_iff.1 hj).1;rwa [List.length_map]at this
  rw[List.getElem?_map,List.getElem?_eq_getElem FF]at hj
  cases hj
  simp only[KA FF]
  exact FV _ _ _)
 rw[List.length_map,cQ (p:=fun s=>s.pc != 0)]at cCon
 have cZ:=fun b l=>y6 b l
 rw[AC]at cN cZ
 simp (disch:=first|decide|omega) only[hA,YA,cellsOf,go_sem]
 refine QA.nxt (cN _ _) ?_
 simp (disch:=first|decide|omega) only[hA,YA,cellsOf,go_sem]
 refine QA.nxt (cC _ _) ?_
 simp (disch:=first|decide|omega) only[hA,YA,cellsOf,go_sem]
 refine QA.nxt (cR _ _) ?_
 cases hk:aG s now
 case' false =>
  have hv0:v=0:=by rw[←hv];unfold JI;rw[hk];rfl
  subst hv0
  simp (disch:=first|decide|omega) only[hA,hnv,b00,n00,n22,n20,YA,cellsOf,go_sem]
  refine QA.nxt (VM L hL _ _) ?_
 case' true =>
  simp (disch:=first|decide|omega) only[hA,hnv,b00,n00,n22,n20,YA,cellsOf,go_sem]
  refine QA.nxt (VM L hL _ _) ?_
 all_goals
  cases t1:GF L
  ·have hr:E=(wd0,1):=by rw[←hE0];unfold eJ;rw[if_neg (fun h=>by rw[t1]at h;cases h.1)]
   subst hr
   simp only
   simp (disch:=first|decide|omega) only[hA,YA,cellsOf,go_sem]
   refine QA.nxt (cZ _ _) ?_
   simp (disch:=first|decide|omega) only[hA,b11,go_sem]
   exact ZA (xs:=[.v (.bool true)]) (.inr rfl) (by simp (disch:=first|decide|omega) only[JA,zA,go_sem,hA]) kO hR hB ⟨rfl,rfl,rfl⟩
  simp (disch:=first|decide|omega) only[hA,YA,cellsOf,go_sem]
  refine QA.nxt (cV _ _) ?_
  cases t2:nwB n
  ·have hr:E=(wd0,1):=by rw[←hE0];unfold eJ;rw[if_neg (fun h=>by rw[t2]at h;cases h.2)]
   subst hr
   simp only
   simp (disch:=first|decide|omega) only[hA,YA,cellsOf,go_sem]
   refine QA.nxt (cZ _ _) ?_
   simp (disch:=first|decide|omega) only[hA,b11,go_sem]
   exact ZA (xs:=[.v (.bool true)]) (.inr rfl) (by simp (disch:=first|decide|omega) only[JA,zA,go_sem,hA]) kO hR hB ⟨rfl,rfl,rfl⟩
  by_cases h3:n.now=0
  case neg =>
   have d3:(n.now != 0)=true:=bne_iff_ne.2 h3
   have hr:E=(wd0,6):=by rw[←hE0];unfold eJ;rw[if_pos ⟨t1,t2⟩,if_pos (.inl h3)]
   subst hr
   simp only
   simp (disch:=first|decide|omega) only[hA,d3,YA,cellsOf,go_sem]
   refine QA.nxt (cZ _ _) ?_
   simp (disch:=first|decide|omega) only[hA,b66,go_sem]
   exact ZA (xs:=[.v (.bool true)]) (.inr rfl) (by simp (disch:=first|decide|omega) only[JA,zA,go_sem,hA]) kO hR hB ⟨rfl,rfl,rfl⟩
  have d3:(n.now != 0)=false:=by rw[h3];rfl
  by_cases h4:0<n.l.length
  ·have d4:decide ((n.l.length:Int)>0)=true:=decide_eq_true oM
   have d4':decide ((0:Int)<(n.l.length:Int))=true:=d4
   have hr:E=(wd0,6):=by rw[←hE0];unfold eJ;rw[if_pos ⟨t1,t2⟩,if_pos (.inr (.inl h4))]
   subst hr
   simp only
   simp (disch:=first|decide|omega) only[hA,d3,d4,d4',YA,cellsOf,List.length_map,go_sem]
   refine QA.nxt (cZ _ _) ?_
   simp (disch:=first|decide|omega) only[hA,b66,go_sem]
   exact ZA (xs:=[.v (.bool true)]) (.inr rfl) (by simp (disch:=first|decide|omega) only[JA,zA,go_sem,hA]) kO hR hB ⟨rfl,rfl,rfl⟩
  have d4:decide ((n.l.length:Int)>0)=false:=decide_eq_false oM
  have d4':decide ((0:Int)<(n.l.length:Int))=false:=d4
  simp (disch:=first|decide|omega) only[hA,d3,d4,d4',YA,cellsOf,List.length_map,go_sem]
  refine QA.nxt (cCon _ _) ?_
  cases t5:L.any (fun s=>s.pc != 0)
  case true =>
   have hr:E=(wd0,6):=by rw[←hE0];unfold eJ;rw[if_pos ⟨t1,t2⟩,if_pos (.inr (.inr t5))]
   subst hr
   simp only
   simp (disch:=first|decide|omega) only[hA,YA,cellsOf,List.length_map,go_sem]
   refine QA.nxt (cZ _ _) ?_
   simp (disch:=first|decide|omega) only[hA,b66,go_sem]
   exact ZA (xs:=[.v (.bool true)]) (.inr rfl) (by simp (disch:=first|decide|omega) only[JA,zA,go_sem,hA]) kO hR hB ⟨rfl,rfl,rfl⟩
  have hr:E=(RO L n,0):=by
   rw[←hE0];unfold eJ;rw[if_pos ⟨t1,t2⟩,if_neg (fun h=>by
    rcases h with h|h|h
    ·exact h h3
    ·exact h4 h
    ·rw[t5]at h;cases h)]
  subst hr
  simp only
  have hw:WdV (RO L n):=CS t1 (VG.1 t2) h3 (List.eq_nil_of_length_eq_zero oM)
  have cW:=fun b l=>bY L oM (ZBC t1) (by have:=(JO t1).1;omega) n b l
  have cS:=fun b l=>TW (RO L n) hw.small hL hN b l
  have cX:=fun b l=>QG (RO L n) hw.small.sm hw.nm hL hN b l
  rw[hw.to]at cX
  obtain⟨W,hW⟩:∃W,RO L n=W:=⟨_,rfl⟩
  rw[hW]at cW cS cX⊢
  rw[AC]at cW cS cX
  rw[heN]at cW
  simp (disch:=first|decide|omega) only[hA,YA,cellsOf,List.length_map,go_sem]
  refine QA.nxt (cW _ _) ?_
  simp (disch:=first|decide|omega) only[hA,YA,cellsOf,List.length_map,go_sem]
  refine QA.nxt (cS _ _) ?_
  simp (disch:=first|decide|omega) only[hA,b00,YA,cellsOf,List.length_map,go_sem]
  refine QA.nxt (cX _ _) ?_
  simp (disch:=first|decide|omega) only[hA,b00,go_sem]
  exact ZA (xs:=[.v (.bool true)]) (.inr rfl) (by simp (disch:=first|decide|omega) only[JA,zA,go_sem,hA]) kO hR hB ⟨rfl,rfl,rfl⟩
end Go.Proofs.YtoccdlnoaindmaaGreatDoor
