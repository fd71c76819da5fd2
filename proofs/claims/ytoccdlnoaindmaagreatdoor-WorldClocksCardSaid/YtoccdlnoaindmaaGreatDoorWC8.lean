/- Texts of one proof, laid together: BE, BF, BG, BH, BJ, BK, BM, BN, BU, BX, BY, BR, NP, BS, NL, NU, NR, BT, X1. No condition. -/
import Derived.Test.YtoccdlnoaindmaaGreatDoorWC6
import Derived.Test.YtoccdlnoaindmaaGreatDoorWC7
import Derived.Test.YtoccdlnoaindmaaGreatDoorWC2
import Derived.Test.YtoccdlnoaindmaaGreatDoorWC4
import Derived.Test.YtoccdlnoaindmaaGreatDoorWC5
import Derived.Test.YtoccdlnoaindmaaGreatDoorWC1
set_option maxHeartbeats 4000000
set_option maxRecDepth 20000
namespace Go.Proofs.YtoccdlnoaindmaaGreatDoor
set_option linter.unusedVariables false
set_option linter.unusedSimpArgs false
attribute [local go_sem ↓] Zz Z0 QB QD Q8 Zg QA Q9 QC Qk ZM Zf Zy ZL Ze Zx ZS Zk QJ Z1 ZN QE Zh Zi Z4 Zj Z5 Zt Zd Qa QF Qc Qd XQ Qj XR XS Q6 Qo
attribute [local go_sem] Z2 ZO XT Z6 ZR XP Qh Qf Qe KT KU Qi QG QH QI Q7 ZI Zv ZQ Zu ZP Z3 aop YC XG XB Q2 XC QU XD Uh Y4 YZ amm YK QT Zp YQ XA Y0 comma Qx Y3 Ug Y2 Y1 UL YO YM XJ UK eqC eqF Jg cellsOf ZC Xm Xg YN Vx rd rdI Xs mk Qr AV.cell List.all_cons List.all_nil Bool.and_true Bool.true_and Bool.and_self List.length_cons List.length_nil List.length_append Nat.reduceAdd Nat.reduceSub Nat.reduceMul Nat.zero_add Nat.add_zero List.cons_append List.nil_append List.append_assoc List.append_nil List.getElem?_cons_zero List.getElem?_cons_succ List.getElem?_nil List.set_cons_zero List.set_cons_succ List.drop_zero List.drop_succ_cons List.take_zero List.take_succ_cons List.take_nil List.drop_nil List.map_cons List.map_nil Option.map_some if_true if_false Bool.false_eq_true and_self true_and and_true Nat.reduceLeDiff Nat.reduceLT Nat.le_refl Nat.reduceEqDiff ite_true ite_false beq_self_eq_true beq_true beq_false Bool.not_true Bool.not_false Bool.true_beq Bool.false_beq Xl Q4 Zr Qt Qw QZ QY QX QW Qv Qu Xi Z7 ZAR Ke ZAS ZAP JJ JH JK JI geI gtI JM decide_true decide_false room List.getElem?_map List.length_map List.length_take Int.toNat_natCast Nat.min_def Nat.min_self XU XM Xk QR Xb VC Zn List.getElem_cons_zero List.getElem_cons_succ
theorem ZMe {l:List Sv} (t1:VE l=true):∀p (h:p<l.length),l[p].vars.length≤8:=fun p hp=>by
 unfold VE at t1
 rw[Bool.and_eq_true,List.all_eq_true]at t1
 have:=t1.2 p (List.mem_range.2 hp)
 unfold svB sv1 at this
 rw[ZF hp]at this
 simp only[Bool.and_eq_true,decide_eq_true_eq]at this
 exact this.1.2.2.1
theorem Uu {t:Tr} (h:Xv t=true) (kd m:Int):Qs t kd m=J2 t kd m:=by unfold Qs;rw[if_pos h]
def a_wended:AFunc:=⟨1,19,[.tmp 2],(.seq (.region [⟨some 1,.box (.t 0),none⟩,⟨some 2,.mv (.c (.v (.bool false))),none⟩]) (.seq (.region [⟨some 3,.faddr 2 (.t 1),none⟩,⟨some 4,.load none (.t 3),none⟩,⟨some 5,.faddr 1 (.t 1),none⟩,⟨some 6,.load none (.t 5),none⟩,⟨some 7,.len (.t 6),none⟩,⟨some 8,.bin .eql (.t 4) (.t 7),none⟩,⟨some 9,.mv (.t 8),none⟩,⟨some 10,.faddr 1 (.t 1),some (9,false)⟩,⟨some 11,.load none (.t 10),some (9,false)⟩,⟨some 12,.faddr 2 (.t 1),some (9,false)⟩,⟨some 13,.load none (.t 12),some (9,false)⟩,⟨some 14,.iaddr 3 (.t 11) (.t 13),some (9,false)⟩,⟨some 15,.faddr 0 (.t 14),some (9,false)⟩,⟨some 16,.load none (.t 15),some (9,false)⟩,⟨some 17,.bin .eql (.t 16) (.c (.v (.int .i64 8))),some (9,false)⟩,⟨some 18,.pick (.t 9) (.c (.v (.bool true))) (.t 17),none⟩,⟨some 2,.mv (.t 18),none⟩]) .ret))⟩
theorem ZDv:Zq Tryz.prog 88=some a_wended:=by kernel_rfl
def a_wenab:AFunc:=⟨2,43,[.tmp 4],(.seq (.region [⟨some 2,.box (.t 0),none⟩,⟨some 4,.mv (.c (.v (.bool false))),none⟩]) (.seq (.region [⟨some 6,.faddr 0 (.t 2),none⟩,⟨some 7,.load none (.t 6),none⟩,⟨some 8,.mv (.t 1),none⟩,⟨some 9,.iaddr 6 (.t 7) (.t 8),none⟩,⟨some 10,.load (some 6) (.t 9),none⟩,⟨some 5,.alloc [(.v (.str ⟨#[]⟩)),(.v .zsl),(.v (.int .i64 0)),(.v .zsl),(.v (.int .i64 0)),(.v (.int .i64 0))],none⟩,⟨none,.store 6 (.t 5) (.t 10),none⟩]) (.seq (.seq (.region [⟨some 11,.load (some 6) (.t 5),none⟩,⟨some 12,.call (.c (.fn 88 [])) [(.t 11)],none⟩,⟨some 13,.mv (.t 12),none⟩,⟨some 14,.faddr 8 (.t 2),some (13,false)⟩,⟨some 15,.faddr 0 (.t 14),some (13,false)⟩,⟨some 16,.load none (.t 15),some (13,false)⟩,⟨some 17,.mv (.t 1),some (13,false)⟩,⟨some 18,.iaddr 3 (.t 16) (.t 17),some (13,false)⟩,⟨some 19,.faddr 2 (.t 18),some (13,false)⟩,⟨some 20,.load none (.t 19),some (13,false)⟩,⟨some 21,.len (.t 20),some (13,false)⟩,⟨some 22,.bin .geq (.t 21) (.c (.v (.int .i64 64))),some (13,false)⟩,⟨some 23,.pick (.t 13) (.c (.v (.bool true))) (.t 22),none⟩]) (.cond (.t 23) (.seq (.region [⟨some 4,.mv (.c (.v (.bool false))),none⟩]) .ret) .skip)) (.seq (.seq (.region [⟨some 24,.faddr 1 (.t 5),none⟩,⟨some 25,.load none (.t 24),none⟩,⟨some 26,.faddr 2 (.t 5),none⟩,⟨some 27,.load none (.t 26),none⟩,⟨some 28,.iaddr 3 (.t 25) (.t 27),none⟩,⟨some 29,.faddr 0 (.t 28),none⟩,⟨some 30,.load none (.t 29),none⟩]) (.block 0 (.seq (.region [⟨some 32,.bin .eql (.t 30) (.c (.v (.int .i64 4))),none⟩,⟨some 31,.mv (.t 32),none⟩]) (.cond (.t 31) (.seq (.region [⟨some 33,.faddr 1 (.t 2),none⟩,⟨some 34,.load (some 5) (.t 33),none⟩,⟨some 35,.mv (.t 1),none⟩,⟨some 36,.call (.c (.fn 133 [])) [(.t 34),(.t 35)],none⟩,⟨some 37,.bin .gtr (.t 36) (.c (.v (.int .i64 0))),none⟩,⟨some 4,.mv (.t 37),none⟩]) .ret) (.seq (.region [⟨some 39,.bin .eql (.t 30) (.c (.v (.int .i64 3))),none⟩,⟨some 38,.mv (.t 39),none⟩]) (.cond (.t 38) (.seq (.region [⟨some 40,.faddr 7 (.t 2),none⟩,⟨some 41,.load none (.t 40),none⟩,⟨some 42,.bin .leq (.t 41) (.c (.v (.int .i64 199))),none⟩,⟨some 4,.mv (.t 42),none⟩]) .ret) .skip)))))) (.seq (.region [⟨some 4,.mv (.c (.v (.bool true))),none⟩]) .ret)))))⟩
theorem ZFx:Zq Tryz.prog 85=some a_wenab:=by kernel_rfl
def a_wEnded1:AFunc:=⟨1,6,[.tmp 2],(.seq (.region [⟨some 1,.box (.t 0),none⟩,⟨some 2,.mv (.c (.v (.bool false))),none⟩]) (.seq (.region [⟨some 3,.load (some 6) (.t 1),none⟩,⟨some 4,.call (.c (.fn 88 [])) [(.t 3)],none⟩,⟨some 5,.not (.t 4),none⟩,⟨some 2,.mv (.t 5),none⟩]) .ret))⟩
theorem ZCr:Zq Tryz.prog 87=some a_wEnded1:=by kernel_rfl
def a_wEnded:AFunc:=⟨1,11,[.tmp 2],(.seq (.region [⟨some 1,.box (.t 0),none⟩,⟨some 2,.mv (.c (.v (.bool false))),none⟩]) (.seq (.region [⟨some 3,.load (some 9) (.t 1),none⟩,⟨some 4,.call (.c (.fn 24 [])) [(.t 3)],none⟩,⟨some 5,.mv (.t 4),none⟩,⟨some 6,.faddr 0 (.t 1),some (5,true)⟩,⟨some 7,.load none (.t 6),some (5,true)⟩,⟨some 8,.call (.c (.fn 20 [])) [(.t 7),(.c (.fn 87 []))],some (5,true)⟩,⟨some 9,.not (.t 8),some (5,true)⟩,⟨some 10,.pick (.t 5) (.t 9) (.c (.v (.bool false))),none⟩,⟨some 2,.mv (.t 10),none⟩]) .ret))⟩
theorem ZEA:Zq Tryz.prog 35=some a_wEnded:=by kernel_rfl

def ZBP (s:Sv):Bool:=decide (s.pc=s.code.length)||decide ((s.code.getD s.pc.toNat ZI0).op=8)
def pcOk (s:Sv):Prop:=0≤s.pc∧s.pc≤s.code.length
theorem ZHH {l:List Sv} (t1:VE l=true) {p:Nat} (hp:p<l.length):pcOk l[p]:=by
 unfold VE at t1
 rw[Bool.and_eq_true,List.all_eq_true]at t1
 have:=t1.2 p (List.mem_range.2 hp)
 unfold svB sv1 at this
 rw[ZF hp]at this
 simp only[Bool.and_eq_true,decide_eq_true_eq]at this
 have h:=this.1.2.2.2.1
 unfold inZ at h
 simp only[Bool.and_eq_true,decide_eq_true_eq]at h
 exact h
theorem Kq (s:Sv) (hS:SvS s) (hpc:pcOk s) (b l:List Row):ZA Tryz.prog 88 [.agg ((eSv s).map .v)] b l (fun r b' l'=>r=.v (.bool (ZBP s))∧b'=b∧l'=l):=by
 refine ZD ZDv rfl (by decide) ?_
 intro B g hB hR hE hA;simp only[Zn]at hA
 obtain⟨k,hk⟩:∃k:Nat,s.pc=k:=⟨s.pc.toNat,by have:=hpc.1;omega⟩
 have hkl:k≤s.code.length:=by have:=hpc.2;omega
 have hcl:=hS.code
 by_cases hlt:k<s.code.length
 ·have hgi:=ZBp hlt
  have d1:((k:Int)==(s.code.length:Int))=false:=by simp;omega
  have hr:ZBP s=(s.code[k].op==8):=by
   unfold ZBP
   rw[hk,Int.toNat_natCast,ZF hlt,decide_eq_false oM]
   rw[Bool.false_or];rfl
  simp (disch:=first|decide|omega) only[a_wended,hA,eSv,hk,hgi,d1,List.length_map,go_sem]
  exact ZB (xs:=[.v (.bool (s.code[k].op==8))]) (.inr rfl) (by simp (disch:=first|decide|omega) only[ZE,ZY,go_sem,hA]) kO hR hB ⟨by rw[hr];rfl,rfl,rfl⟩
 ·obtain rfl:k=s.code.length:=by omega
  have d1:((s.code.length:Int)==(s.code.length:Int))=true:=by simp
  have hr:ZBP s=true:=by
   unfold ZBP
   rw[hk,decide_eq_true rfl];rfl
  simp (disch:=first|decide|omega) only[a_wended,hA,eSv,hk,d1,List.length_map,go_sem]
  exact ZB (xs:=[.v (.bool true)]) (.inr rfl) (by simp (disch:=first|decide|omega) only[ZE,ZY,go_sem,hA]) kO hR hB ⟨by rw[hr];rfl,rfl,rfl⟩
def ZGR (s:Sv):Int:=(s.code.getD s.pc.toNat ZI0).op
def J3 (w:Wd) (p:Nat):Bool:=!(ZBP (w.sv.getD p dfSv)||decide (64≤(Zc w.tr p).length))&&(if ZGR (w.sv.getD p dfSv)=4 then decide (0<Vt w.net p) else if ZGR (w.sv.getD p dfSv)=3 then decide (w.sent≤199) else true)
theorem ZAs (w:Wd) (hSv:SvsS w.sv) (hS:Small w.tr) (h1:VE w.sv=true) (hlen:w.tr.length=w.sv.length) (p:Nat) (hp:p<w.sv.length) (b l:List Row):ZA Tryz.prog 85 [.agg ((eWd w).map .v),.v (.int .i64 p)] b l (fun r b' l'=>r=.v (.bool (J3 w p))∧b'=b∧l'=l):=by
 refine ZD ZFx rfl (by decide) ?_
 intro B g hB hR hE hA;simp only[Zn]at hA
 obtain⟨s,hs⟩:∃s,w.sv[p]=s:=⟨_,rfl⟩
 have hgd:w.sv.getD p dfSv=s:=by rw[ZF hp,hs]
 have hSs:=hSv.all s (by rw[←hs];exact List.getElem_mem hp)
 have hpc:pcOk s:=by rw[←hs];exact ZHH h1 hp
 have hgs:=ZA6 hp
 rw[hs]at hgs
 have hpt:p<w.tr.length:=by omega
 obtain⟨x,hx⟩:∃x,w.tr[p]=x:=⟨_,rfl⟩
 have hgp:=Ux hpt
 rw[hx]at hgp
 have hxe:Zc w.tr p=x.evs:=by rw[Yc hpt,hx]
 have hsl:=hSv.len
 have htl:=hS.np
 have hxn:=hS.ne x (by rw[←hx];exact List.getElem_mem hpt)
 have cE:=fun b l=>Kq s hSs hpc b l
 have cW:=fun b l=>ZBF w.net p b l
 simp only[eSv,eNw,List.map_cons,List.map_nil]at cE cW
 have hr:J3 w p=(!(ZBP s||decide (64≤x.evs.length))&&(if ZGR s=4 then decide (0<Vt w.net p) else if ZGR s=3 then decide (w.sent≤199) else true)):=by unfold J3;rw[hgd,hxe]
 rw[hr]
 simp (disch:=first|decide|omega) only[a_wenab,hA,eWd,hgs,ZC,cellsOf,List.length_map,go_sem]
 refine ZA.nxt (cE _ _) ?_
 cases t1:ZBP s
 case true =>
  simp (disch:=first|decide|omega) only[hA,go_sem]
  exact ZB (xs:=[.v (.bool false)]) (.inr rfl) (by simp (disch:=first|decide|omega) only[ZE,ZY,go_sem,hA]) kO hR hB ⟨rfl,rfl,rfl⟩
 by_cases t2:64≤x.evs.length
 case pos =>
  have d2:decide ((x.evs.length:Int)≥64)=true:=decide_eq_true oM
  have d2':decide ((64:Int)≤(x.evs.length:Int))=true:=d2
  simp (disch:=first|decide|omega) only[hA,hgp,d2,d2',ZC,cellsOf,List.length_map,go_sem]
  exact ZB (xs:=[.v (.bool false)]) (.inr rfl) (by simp (disch:=first|decide|omega) only[ZE,ZY,go_sem,hA]) kO hR hB ⟨rfl,rfl,rfl⟩
 have d2:decide ((x.evs.length:Int)≥64)=false:=decide_eq_false oM
 have d2':decide ((64:Int)≤(x.evs.length:Int))=false:=d2
 rw[decide_eq_false t2]
 obtain⟨k,hk⟩:∃k:Nat,s.pc=k:=⟨s.pc.toNat,by have:=hpc.1;omega⟩
 have hkl:k<s.code.length:=by
  have:=hpc.2
  rcases Nat.lt_or_ge k s.code.length with h|h
  ·exact h
  ·have:ZBP s=true:=by unfold ZBP;rw[decide_eq_true oM];rfl
   rw[t1]at this;cases this
 have hcl:=hSs.code
 have hgi:=ZBp hkl
 have ho:ZGR s=s.code[k].op:=by unfold ZGR;rw[hk,Int.toNat_natCast,ZF hkl]
 rw[ho]
 by_cases t3:s.code[k].op=4
 ·have d3:(s.code[k].op==4)=true:=by simpa using t3
  simp (disch:=first|decide|omega) only[hA,hgp,hk,hgi,d2,d2',d3,ZC,cellsOf,List.length_map,go_sem]
  refine ZA.nxt (cW _ _) ?_
  simp (disch:=first|decide|omega) only[hA,go_sem]
  exact ZB (xs:=[.v (.bool (decide ((0:Int)<((Vt w.net p:Nat):Int))))]) (.inr rfl) (by simp (disch:=first|decide|omega) only[ZE,ZY,go_sem,hA]) kO hR hB ⟨by rw[if_pos t3];simp[one],rfl,rfl⟩
 have d3:(s.code[k].op==4)=false:=by simpa using t3
 by_cases t4:s.code[k].op=3
 ·have d4:(s.code[k].op==3)=true:=by simpa using t4
  simp (disch:=first|decide|omega) only[hA,hgp,hk,hgi,d2,d2',d3,d4,ZC,cellsOf,List.length_map,go_sem]
  exact ZB (xs:=[.v (.bool (decide (w.sent≤199)))]) (.inr rfl) (by simp (disch:=first|decide|omega) only[ZE,ZY,go_sem,hA]) kO hR hB ⟨by rw[if_neg t3,if_pos t4];rfl,rfl,rfl⟩
 have d4:(s.code[k].op==3)=false:=by simpa using t4
 simp (disch:=first|decide|omega) only[hA,hgp,hk,hgi,d2,d2',d3,d4,ZC,cellsOf,List.length_map,go_sem]
 exact ZB (xs:=[.v (.bool true)]) (.inr rfl) (by simp (disch:=first|decide|omega) only[ZE,ZY,go_sem,hA]) kO hR hB ⟨by rw[if_neg t3,if_neg t4];rfl,rfl,rfl⟩
def a_wEnabl:AFunc:=⟨1,24,[.tmp 2,.tmp 3],(.seq (.region [⟨some 1,.box (.t 0),none⟩,⟨some 2,.mv (.c (.v .zsl)),none⟩,⟨some 3,.mv (.c (.v (.int .i64 0))),none⟩]) (.seq (.seq (.region [⟨some 6,.load (some 9) (.t 1),none⟩,⟨some 7,.call (.c (.fn 24 [])) [(.t 6)],none⟩,⟨some 8,.not (.t 7),none⟩]) (.cond (.t 8) (.seq (.region [⟨some 2,.mv (.c (.v .zsl)),none⟩,⟨some 3,.mv (.c (.v (.int .i64 1))),none⟩]) .ret) .skip)) (.seq (.region [⟨some 4,.mv (.c (.v .zsl)),none⟩]) (.seq (.seq (.region [⟨some 9,.faddr 0 (.t 1),none⟩,⟨some 10,.load none (.t 9),none⟩,⟨some 11,.len (.t 10),none⟩,⟨some 12,.mv (.c (.v (.int .i64 0))),none⟩]) (.block 0 (.loop (.seq (.region [⟨some 13,.bin .lss (.t 12) (.t 11),none⟩]) (.seq (.cond (.t 13) .skip (.exit 0)) (.seq (.block 1 (.seq (.region [⟨some 14,.mv (.t 12),none⟩,⟨some 5,.mv (.t 14),none⟩]) (.seq (.region [⟨some 15,.load (some 9) (.t 1),none⟩,⟨some 16,.mv (.t 5),none⟩,⟨some 17,.call (.c (.fn 85 [])) [(.t 15),(.t 16)],none⟩]) (.cond (.t 17) (.region [⟨some 18,.mv (.t 4),none⟩,⟨some 19,.mv (.t 5),none⟩,⟨some 20,.bslice 1 [(.v (.int .i64 0))] 1 [(0,(.t 19))],none⟩,⟨some 21,.append 1 8 (.t 18) (.t 20),none⟩,⟨some 4,.mv (.t 21),none⟩]) .skip)))) (.region [⟨some 22,.bin .add (.t 12) (.c (.v (.int .i64 1))),none⟩,⟨some 12,.mv (.t 22),none⟩]))))))) (.seq (.region [⟨some 23,.mv (.t 4),none⟩,⟨some 2,.mv (.t 23),none⟩,⟨some 3,.mv (.c (.v (.int .i64 0))),none⟩]) .ret)))))⟩
theorem ZEB:Zq Tryz.prog 33=some a_wEnabl:=by kernel_rfl
def ZAF:List (Nat×Nat):=[(4,5),(12,22)]

theorem ZCE (s:Sv) (hS:SvS s) (hpc:pcOk s) (b l:List Row):ZA Tryz.prog 87 [.agg ((eSv s).map .v)] b l (fun r b' l'=>r=.v (.bool (!ZBP s))∧b'=b∧l'=l):=by
 refine ZD ZCr rfl (by decide) ?_
 intro B g hB hR hE hA;simp only[Zn]at hA
 have cE:=fun b l=>Kq s hS hpc b l
 simp only[eSv,List.map_cons,List.map_nil]at cE
 simp (disch:=first|decide|omega) only[a_wEnded1,hA,eSv,go_sem]
 refine ZA.nxt (cE _ _) ?_
 simp (disch:=first|decide|omega) only[hA,go_sem]
 exact ZB (xs:=[.v (.bool (!ZBP s))]) (.inr rfl) (by simp (disch:=first|decide|omega) only[ZE,ZY,go_sem,hA]) kO hR hB ⟨rfl,rfl,rfl⟩
noncomputable def ZNh (w:Wd):Bool:=wdB w&&w.sv.all ZBP
theorem ZDH (w:Wd) (hS:Sm w.tr) (hN:Nm w.tr) (hSv:SvsS w.sv) (hSn:NwS w.net) (b l:List Row):ZA Tryz.prog 35 [.agg ((eWd w).map .v)] b l (fun r b' l'=>r=.v (.bool (ZNh w))∧b'=b∧l'=l):=by
 refine ZD ZEA rfl (by decide) ?_
 intro B g hB hR hE hA;simp only[Zn]at hA
 have cV:=fun b l=>Yy w hS hN hSv hSn b l
 have heW:(eWd w).map AV.v=[.v (.isl 6 (w.sv.map eSv)),.v (.int .i64 w.net.now),.v (.bool w.net.fifo),.v (.isl 4 (w.net.l.map eMs)),.v (.isl 1 (w.net.tm.map eI)),.v (.isl 2 (w.net.fates.map eFt)),.v (.int .i64 w.now),.v (.int .i64 w.sent),.v (.isl 3 (w.tr.map ePr))]:=rfl
 rw[heW]at cV hA
 simp (disch:=first|decide|omega) only[a_wEnded,hA,ZC,cellsOf,go_sem]
 refine ZA.nxt (cV _ _) ?_
 cases t1:wdB w
 ·simp (disch:=first|decide|omega) only[hA,go_sem]
  exact ZB (xs:=[.v (.bool false)]) (.inr rfl) (by simp (disch:=first|decide|omega) only[ZE,ZY,go_sem,hA]) kO hR hB ⟨by unfold ZNh;rw[t1];rfl,rfl,rfl⟩
 have hsv:VE w.sv=true:=by unfold wdB at t1;simp only[Bool.and_eq_true]at t1;exact t1.1
 have cC:=Xt KG KE (w.sv.map eSv) 87 [] (fun j=>!ZBP (w.sv.getD j dfSv)) ZDm (by rw[List.length_map];exact hSv.len) B [.live 0 9 [(eWd w).map .v]] (fun j row hj=>by
  have hjl:j<w.sv.length:=by have:=(List.getElem?_eq_some_iff.1 hj).1;rwa [List.length_map]at this
  rw[List.getElem?_map,List.getElem?_eq_getElem hjl]at hj
  cases hj
  simp only[ZF hjl]
  exact ZCE _ (hSv.all _ (List.getElem_mem hjl)) (ZHH hsv hjl) _ _)
 rw[List.length_map,Yh (p:=fun s=>!ZBP s),YJ,heW]at cC
 simp (disch:=first|decide|omega) only[hA,go_sem]
 refine ZA.nxt cC ?_
 simp (disch:=first|decide|omega) only[hA,Bool.not_not,go_sem]
 exact ZB (xs:=[.v (.bool (w.sv.all ZBP))]) (.inr rfl) (by simp (disch:=first|decide|omega) only[ZE,ZY,go_sem,hA]) kO hR hB ⟨by unfold ZNh;rw[t1];rfl,rfl,rfl⟩
noncomputable def ZAo (w:Wd) (k:Nat):List Nat:=(List.range k).filter (J3 w)
noncomputable def ZDk (w:Wd) (k:Nat):List (List IV):=(ZAo w k).map fun n:Nat=>eI n
theorem ZMK (w:Wd) (k:Nat):(ZAo w k).length≤k:=by
 unfold ZAo
 have:=List.length_filter_le (J3 w) (List.range k)
 rwa [List.length_range]at this
theorem ZEl {w:Wd} {k:Nat} (h:J3 w k=true):ZAo w (k+1)=ZAo w k++[k]:=by
 unfold ZAo;rw[List.range_succ,List.filter_append,List.filter_cons,if_pos h,List.filter_nil]
theorem ZMJ {w:Wd} {k:Nat} (h:J3 w k=false):ZAo w (k+1)=ZAo w k:=by
 unfold ZAo;rw[List.range_succ,List.filter_append,List.filter_cons,if_neg (by rw[h];simp),List.filter_nil,List.append_nil]
theorem ZKK (w:Wd) (k:Nat):(ZDk w k).length=(ZAo w k).length:=by unfold ZDk;rw[List.length_map]
theorem ZKJ {w:Wd} {k:Nat} (h:J3 w k=true):ZDk w (k+1)=ZDk w k++[[.int .i64 (k:Nat)]]:=by
 unfold ZDk;rw[ZEl h,List.map_append];rfl
theorem ZG5 {w:Wd} (h:wdB w=true):VE w.sv=true∧Xv w.tr=true∧w.tr.length=w.sv.length∧nwB w.net=true:=by
 unfold wdB at h
 simp only[Bool.and_eq_true,decide_eq_true_eq]at h
 exact⟨h.1,h.2.2.2.2.1,h.2.2.2.2.2.1,h.2.2.1⟩
theorem ZJY {l:List Sv} (h:VE l=true):l.length≤8:=by
 unfold VE at h
 rw[Bool.and_eq_true]at h
 have:=h.1
 unfold inZ at this
 simp only[Bool.and_eq_true,decide_eq_true_eq]at this
 omega
theorem ZDI (w:Wd) (hS:Small w.tr) (hN:Nm w.tr) (hSv:SvsS w.sv) (hSn:NwS w.net) (hv:wdB w=true) (b l:List Row):ZA Tryz.prog 33 [.agg ((eWd w).map .v)] b l (fun r b' l'=>r=.tup [.v (.isl 1 (ZDk w w.sv.length)),.v (.int .i64 0)]∧b'=b∧l'=l):=by
 obtain⟨q1,q2,q3,q4⟩:=ZG5 hv
 refine ZD ZEB rfl (by decide) ?_
 intro B g hB hR hE hA;simp only[Zn]at hA
 have cV:=fun b l=>Yy w hS.sm hN hSv hSn b l
 have heW:(eWd w).map AV.v=[.v (.isl 6 (w.sv.map eSv)),.v (.int .i64 w.net.now),.v (.bool w.net.fifo),.v (.isl 4 (w.net.l.map eMs)),.v (.isl 1 (w.net.tm.map eI)),.v (.isl 2 (w.net.fates.map eFt)),.v (.int .i64 w.now),.v (.int .i64 w.sent),.v (.isl 3 (w.tr.map ePr))]:=rfl
 rw[heW,hv]at cV
 rw[heW]at hA
 have hs8:=ZJY q1
 have hm0:(ZAo w 0).length=0:=rfl
 have hq0:ZDk w 0=[]:=rfl
 simp (disch:=first|decide|omega) only[a_wEnabl,hA,ZC,cellsOf,go_sem]
 refine ZA.nxt (cV _ _) ?_
 simp (disch:=first|decide|omega) only[hA,List.length_map,go_sem]
 refine Jo (ι:=Nat) 4 1 ZAF (fun k=>[(12,.v (.int .i64 k)),(4,.sl (B.length+1) (ZAo w k).length 0 (ZAo w k).length)]) 2 (fun k=>[.live 0 9 [(eWd w).map .v],.live (ZAo w k).length 1 (vs (ZDk w k))])
  (fun k=>k≤w.sv.length) (fun k=>w.sv.length-k) 0 (Nat.zero_le _) (by simp (disch:=decide) only[hA,go_sem]) (by decide) (by decide) (by (repeat (first|exact hE.mono oM|refine KLt.up ?_ kL))) (by ((try simp (disch:=decide) only[hA,hm0,hq0,go_sem])<;>exact kH)) (fun e=>Za.refl _ _ _) ?_
 intro g1 hE1 hEE1 hg1 k hk
 rw[heW]
 have hml:=ZMK w k
 have hvl:=ZKK w k
 by_cases hkl:k<w.sv.length
 ·have cE:=fun b l=>ZAs w hSv hS q1 q3 k hkl b l
  rw[heW]at cE
  simp (disch:=first|decide|omega) only[hA,hg1,List.length_map,go_sem]
  refine ZA.nxt (cE _ _) ?_
  cases t2:J3 w k
  ·have hn1:=ZMJ t2
   have hn2:ZDk w (k+1)=ZDk w k:=by unfold ZDk;rw[hn1]
   simp (disch:=first|decide|omega) only[hA,hg1,go_sem]
   refine⟨k+1,hkl,by simp only;omega,?_⟩
   simp only[hn1,hn2,heW]
   exact Za.kround (p:=ZAF) (k:=2) (by ((repeat refine (Z9 rfl).trans ?_);exact hEE1)) (by ((try simp (disch:=decide) only[hA,hg1,go_sem])<;>exact kH)) rfl hE1 (by simp) kV hR kL
  ·have hsn:=ZKJ t2
   have hn1:=ZEl t2
   have hsl:(ZAo w (k+1)).length=(ZAo w k).length+1:=by rw[hn1];simp
   have tk:List.take (ZAo w k).length (ZDk w k)=ZDk w k:=List.take_of_length_le oM
   simp (disch:=first|decide|omega) only[hA,hg1,hvl,tk,←hsn,ZC,cellsOf,List.replicate_succ,List.replicate_zero,reduceCtorEq,go_sem]
   rw[←hsl]
   refine⟨k+1,hkl,by simp only;omega,?_⟩
   simp only[heW]
   exact Za.kround (p:=ZAF) (k:=2) (by ((repeat refine (Z9 rfl).trans ?_);exact hEE1)) (by ((try simp (disch:=decide) only[hA,go_sem])<;>exact kH)) rfl hE1 (by simp) kV hR kL
 ·obtain rfl:k=w.sv.length:=by omega
  simp (disch:=first|decide|omega) only[hA,hg1,List.length_map,go_sem]
  exact ZF1 (i:=1) (ver:=(ZAo w w.sv.length).length) (sz:=1) (n:=(ZAo w w.sv.length).length) (rows:=ZDk w w.sv.length) (.inr rfl) (by simp (disch:=first|decide|omega) only[ZE,ZY,hA,hg1,go_sem]) rfl (by rw[hvl]) hR hB ⟨rfl,rfl,rfl⟩
def a_wLocal:AFunc:=⟨0,2,[.cell 0 (some 5)],(.seq (.region [⟨some 0,.alloc [(.v (.int .i64 0)),(.v (.int .i64 0)),(.v (.int .i64 0)),(.v (.int .i64 0)),(.v .zsl)],none⟩]) (.seq (.region [⟨some 1,.build [(.v (.int .i64 0)),(.v (.int .i64 0)),(.v (.int .i64 0)),(.v (.int .i64 0)),(.v .zsl)] [(0,1,(.c (.v (.int .i64 1))))],none⟩,⟨none,.store 5 (.t 0) (.t 1),none⟩]) .ret))⟩
theorem ZDz:Zq Tryz.prog 135=some a_wLocal:=by kernel_rfl

def Sv.put (s:Sv) (i:Nat) (v:Int):Sv:={s with vars:=s.vars.set i v}
theorem Xh (b l:List Row):ZA Tryz.prog 135 [] b l (fun r b' l'=>r=.agg [.v (.int .i64 1),.v (.int .i64 0),.v (.int .i64 0),.v (.int .i64 0),.v .zsl]∧b'=b∧l'=l):=by
 refine ZD ZDz rfl (by decide) ?_
 intro B g hB hR hE hA;simp only[Zn]at hA
 simp (disch:=first|decide|omega) only[a_wLocal,ZC,cellsOf,go_sem]
 exact ZB (xs:=[.agg [.v (.int .i64 1),.v (.int .i64 0),.v (.int .i64 0),.v (.int .i64 0),.v .zsl]]) (.inr rfl) (by simp (disch:=first|decide|omega) only[ZE,ZY,go_sem,hE]) kO hR hB ⟨rfl,rfl,rfl⟩
def a_wmsg:AFunc:=⟨1,8,[.cell 2 (some 4)],(.seq (.region [⟨some 1,.box (.t 0),none⟩,⟨some 2,.alloc [(.v (.int .i64 0)),(.v (.int .i64 0)),(.v (.int .i64 0)),(.v .zsl)],none⟩]) (.seq (.region [⟨some 3,.faddr 3 (.t 1),none⟩,⟨some 4,.load none (.t 3),none⟩,⟨some 5,.call (.c (.fn 119 [])) [(.t 4)],none⟩,⟨some 6,.faddr 3 (.t 1),none⟩,⟨none,.store 1 (.t 6) (.t 5),none⟩]) (.seq (.region [⟨some 7,.load (some 4) (.t 1),none⟩,⟨none,.store 4 (.t 2) (.t 7),none⟩]) .ret)))⟩
theorem ZIn:Zq Tryz.prog 158=some a_wmsg:=by kernel_rfl
def a_wnet:AFunc:=⟨1,32,[.cell 2 (some 5)],(.seq (.region [⟨some 1,.box (.t 0),none⟩,⟨some 2,.alloc [(.v (.int .i64 0)),(.v (.bool false)),(.v .zsl),(.v .zsl),(.v .zsl)],none⟩]) (.seq (.region [⟨some 6,.faddr 2 (.t 1),none⟩,⟨some 7,.load none (.t 6),none⟩,⟨some 3,.mv (.t 7),none⟩]) (.seq (.draw [⟨0,⟨some 8,.faddr 3 (.t 1),none⟩,[]⟩,⟨1,⟨some 9,.load none (.t 8),none⟩,[]⟩,⟨3,⟨some 11,.faddr 4 (.t 1),none⟩,[]⟩,⟨4,⟨some 12,.load none (.t 11),none⟩,[]⟩,⟨6,⟨some 14,.faddr 2 (.t 1),none⟩,[]⟩,⟨2,⟨some 10,.call (.c (.fn 119 [])) [(.t 9)],none⟩,[⟨some 11,.faddr 4 (.t 1),none⟩,⟨some 12,.load none (.t 11),none⟩,⟨some 14,.faddr 2 (.t 1),none⟩]⟩,⟨5,⟨some 13,.call (.c (.fn 104 [])) [(.t 12)],none⟩,[⟨some 14,.faddr 2 (.t 1),none⟩]⟩,⟨7,⟨none,.store 1 (.t 14) (.c (.v .zsl)),none⟩,[]⟩,⟨8,⟨some 15,.faddr 3 (.t 1),none⟩,[]⟩,⟨9,⟨none,.store 1 (.t 15) (.t 10),none⟩,[]⟩,⟨10,⟨some 16,.faddr 4 (.t 1),none⟩,[]⟩,⟨11,⟨none,.store 1 (.t 16) (.t 13),none⟩,[]⟩]) (.seq (.seq (.region [⟨some 17,.mv (.t 3),none⟩,⟨some 18,.len (.t 17),none⟩,⟨some 19,.mv (.c (.v (.int .i64 0))),none⟩]) (.block 0 (.loop (.seq (.region [⟨some 20,.bin .lss (.t 19) (.t 18),none⟩]) (.seq (.cond (.t 20) .skip (.exit 0)) (.seq (.block 1 (.seq (.region [⟨some 21,.iaddr 4 (.t 17) (.t 19),none⟩,⟨some 22,.load (some 4) (.t 21),none⟩,⟨some 5,.alloc [(.v (.int .i64 0)),(.v (.int .i64 0)),(.v (.int .i64 0)),(.v .zsl)],none⟩,⟨none,.store 4 (.t 5) (.t 22),none⟩]) (.draw [⟨0,⟨some 23,.faddr 2 (.t 1),none⟩,[]⟩,⟨1,⟨some 24,.load none (.t 23),none⟩,[]⟩,⟨2,⟨some 25,.load (some 4) (.t 5),none⟩,[]⟩,⟨3,⟨some 26,.call (.c (.fn 158 [])) [(.t 25)],none⟩,[⟨some 23,.faddr 2 (.t 1),none⟩,⟨some 24,.load none (.t 23),none⟩]⟩,⟨4,⟨some 27,.bslice 4 [(.v (.int .i64 0)),(.v (.int .i64 0)),(.v (.int .i64 0)),(.v .zsl)] 1 [(0,(.t 26))],none⟩,[⟨some 23,.faddr 2 (.t 1),none⟩,⟨some 24,.load none (.t 23),none⟩]⟩,⟨5,⟨some 28,.append 4 48 (.t 24) (.t 27),none⟩,[]⟩,⟨6,⟨some 29,.faddr 2 (.t 1),none⟩,[]⟩,⟨7,⟨none,.store 1 (.t 29) (.t 28),none⟩,[]⟩]))) (.region [⟨some 30,.bin .add (.t 19) (.c (.v (.int .i64 1))),none⟩,⟨some 19,.mv (.t 30),none⟩]))))))) (.seq (.region [⟨some 31,.load (some 5) (.t 1),none⟩,⟨none,.store 5 (.t 2) (.t 31),none⟩]) .ret)))))⟩
theorem ZIm:Zq Tryz.prog 117=some a_wnet:=by kernel_rfl
def ZHC:List (Nat×Nat):=[(5,5),(19,30)]

theorem ZDr (v:List In) (hn:v.length≤1000000) (b l:List Row):ZA Tryz.prog 118 [.v (.isl 3 (v.map eIn))] b l (fun r b' l'=>r=.sl (b.length+l.length) 1 0 v.length∧b'=b∧l'=l++[.live 1 3 (vs (v.map eIn))]):=by
 have:=Jd (P:=Tryz.prog) (f:=118) (sz:=3) (bytes:=24) (zs:=[.v (.int .i64 0),.v (.int .i64 0),.v (.int .i64 0)]) (by kernel_rfl) (by decide) (v.map eIn) (by simpa using hn) b l
 rwa [List.length_map]at this
theorem ZDq (v:List Vr) (hn:v.length≤1000000) (b l:List Row):ZA Tryz.prog 120 [.v (.isl 2 (v.map eVr))] b l (fun r b' l'=>r=.sl (b.length+l.length) 1 0 v.length∧b'=b∧l'=l++[.live 1 2 (vs (v.map eVr))]):=by
 have:=Jd (P:=Tryz.prog) (f:=120) (sz:=2) (bytes:=24) (zs:=[.v (.str ⟨#[]⟩),.v (.int .i64 0)]) (by kernel_rfl) (by decide) (v.map eVr) (by simpa using hn) b l
 rwa [List.length_map]at this
theorem ZDs (v:List Asg) (hn:v.length≤1000000) (b l:List Row):ZA Tryz.prog 121 [.v (.isl 2 (v.map ZCz))] b l (fun r b' l'=>r=.sl (b.length+l.length) 1 0 v.length∧b'=b∧l'=l++[.live 1 2 (vs (v.map ZCz))]):=by
 have:=Jd (P:=Tryz.prog) (f:=121) (sz:=2) (bytes:=16) (zs:=[.v (.int .i64 0),.v (.int .i64 0)]) (by kernel_rfl) (by decide) (v.map ZCz) (by simpa using hn) b l
 rwa [List.length_map]at this
theorem ZG4 (m:Ms) (hn:m.body.length≤1000000) (b l:List Row):ZA Tryz.prog 158 [.agg ((eMs m).map .v)] b l (fun r b' l'=>r=.agg ((eMs m).map .v)∧b'=b∧l'=l):=by
 refine ZD ZIn rfl (by decide) ?_
 intro B g hB hR hE hA;simp only[Zn]at hA
 have heM:(eMs m).map AV.v=[.v (.int .i64 m.fr),.v (.int .i64 m.to),.v (.int .i64 m.nu),.v (.isl 1 (m.body.map eI))]:=rfl
 rw[heM]at hA
 simp (disch:=first|decide|omega) only[a_wmsg,hA,ZC,cellsOf,go_sem]
 refine ZA.nxt (Je m.body hn _ _) ?_
 simp (disch:=first|decide|omega) only[hA,ZC,cellsOf,go_sem]
 refine Zs (.inr rfl) (xs:=[.agg [.v (.int .i64 m.fr),.v (.int .i64 m.to),.v (.int .i64 m.nu),.sl (B.length+2) 1 0 m.body.length]]) (by simp (disch:=first|decide|omega) only[ZE,ZY,hA,go_sem]) ?_ hR hB ⟨rfl,rfl,rfl⟩
 exact Dv.aggL (.cons (.v _) (.cons (.v _) (.cons (.v _) (.cons (Dv.slV (i:=2) rfl (by rw[List.length_map])) .nil))))
theorem KX (v:List Int) (hn:v.length≤1000000) (b l:List Row):ZA Tryz.prog 119 [.v (.isl 1 (v.map eI))] b l (fun r b' l'=>r=.v (.isl 1 (v.map eI))∧b'=b∧l'=l):=
 ZA.deep (x:=.sl (b.length+l.length+0) 1 0 v.length) (Dv.slV (i:=0) rfl (by rw[List.length_map])) (Je v hn b l)
theorem ZCd (v:List (Int×Int)) (hn:v.length≤1000000) (b l:List Row):ZA Tryz.prog 104 [.v (.isl 2 (v.map eFt))] b l (fun r b' l'=>r=.v (.isl 2 (v.map eFt))∧b'=b∧l'=l):=
 ZA.deep (x:=.sl (b.length+l.length+0) 1 0 v.length) (Dv.slV (i:=0) rfl (by rw[List.length_map])) (ZCe v hn b l)
theorem ZG3 (n:Nw) (hS:NwS n) (b l:List Row):ZA Tryz.prog 117 [.agg ((eNw n).map .v)] b l (fun r b' l'=>r=.agg ((eNw n).map .v)∧b'=b∧l'=l):=by
 refine ZD ZIm rfl (by decide) ?_
 intro B g hB hR hE hA;simp only[Zn]at hA
 have heN:(eNw n).map AV.v=[.v (.int .i64 n.now),.v (.bool n.fifo),.v (.isl 4 (n.l.map eMs)),.v (.isl 1 (n.tm.map eI)),.v (.isl 2 (n.fates.map eFt))]:=rfl
 rw[heN]at hA
 have hsl:=hS.l
 have cT:=fun b l=>KX n.tm hS.tm b l
 have cF:=fun b l=>ZCd n.fates hS.fates b l
 simp (disch:=first|decide|omega) only[a_wnet,hA,ZC,cellsOf,go_sem]
 refine ZA.nxt (cT _ _) ?_
 simp (disch:=first|decide|omega) only[hA,ZC,cellsOf,go_sem]
 refine ZA.nxt (cF _ _) ?_
 simp (disch:=first|decide|omega) only[hA,ZC,cellsOf,List.length_map,go_sem]
 refine QM (ι:=Nat) ZHC (fun i=>[(19,.v (.int .i64 i))]) 3 (fun i=>[.live 0 5 [[.v (.int .i64 n.now),.v (.bool n.fifo),.sl (B.length+2) i 0 i,.v (.isl 1 (n.tm.map eI)),.v (.isl 2 (n.fates.map eFt))]],.live 0 5 [[.v (.int .i64 0),.v (.bool false),.v .zsl,.v .zsl,.v .zsl]],.live i 4 (vs ((n.l.take i).map eMs))])
  (fun i=>i≤n.l.length) (fun i=>n.l.length-i) 0 (Nat.zero_le _) (by (repeat (first|exact hE.mono oM|refine KLt.up ?_ kL))) (by ((try simp (disch:=decide) only[hA,go_sem])<;>exact kH)) (fun e=>Za.nilcell (e:=e) (b:=B) (l:=[.live 0 5 [[.v (.int .i64 n.now),.v (.bool n.fifo),.v .zsl,.v (.isl 1 (n.tm.map eI)),.v (.isl 2 (n.fates.map eFt))]],.live 0 5 [[.v (.int .i64 0),.v (.bool false),.v .zsl,.v .zsl,.v .zsl]]]) (i:=0) (k:=0) (j:=2) (sz:=4) rfl rfl rfl) ?_
 intro g1 hE1 hEE1 hg1 i hi
 by_cases hlt:i<n.l.length
 ·have hgm:(n.l.map eMs)[i]? = some [.int .i64 n.l[i].fr,.int .i64 n.l[i].to,.int .i64 n.l[i].nu,.isl 1 (n.l[i].body.map eI)]:=by rw[List.getElem?_map,List.getElem?_eq_getElem hlt];rfl
  have cM:=fun b l=>ZG4 n.l[i] (hS.body _ (List.getElem_mem hlt)) b l
  have heM:(eMs n.l[i]).map AV.v=[.v (.int .i64 n.l[i].fr),.v (.int .i64 n.l[i].to),.v (.int .i64 n.l[i].nu),.v (.isl 1 (n.l[i].body.map eI))]:=rfl
  rw[heM]at cM
  have hvl:((n.l.take i).map eMs).length=i:=by rw[List.length_map,List.length_take];omega
  have tk:List.take i ((n.l.take i).map eMs)=(n.l.take i).map eMs:=List.take_of_length_le oM
  have hsn:(n.l.take (i+1)).map eMs=(n.l.take i).map eMs++[[.int .i64 n.l[i].fr,.int .i64 n.l[i].to,.int .i64 n.l[i].nu,.isl 1 (n.l[i].body.map eI)]]:=by
   rw[List.take_add_one,List.getElem?_eq_getElem hlt,List.map_append];rfl
  have hsn2:vs ((n.l.take i).map eMs)++[[.v (.int .i64 n.l[i].fr),.v (.int .i64 n.l[i].to),.v (.int .i64 n.l[i].nu),.v (.isl 1 (n.l[i].body.map eI))]]=vs ((n.l.take (i+1)).map eMs):=by rw[hsn];simp[vs]
  simp (disch:=first|decide|omega) only[hA,hg1,hgm,ZC,cellsOf,List.length_map,go_sem]
  refine ZA.nxt (cM _ _) ?_
  simp (disch:=first|decide|omega) only[hA,hg1,hvl,tk,ZC,cellsOf,List.length_map,List.replicate_succ,List.replicate_zero,reduceCtorEq,go_sem]
  rw[hsn2]
  refine⟨i+1,hlt,by simp only;omega,?_⟩
  exact Za.kround (p:=ZHC) (k:=3) (by ((repeat refine (Z9 rfl).trans ?_);exact hEE1)) (by ((try simp (disch:=decide) only[hA,hg1,go_sem])<;>exact kH)) rfl hE1 (by simp) kV hR kL
 ·obtain rfl:i=n.l.length:=by omega
  have htl:(n.l.take n.l.length)=n.l:=List.take_length
  simp (disch:=first|decide|omega) only[hA,hg1,ZC,cellsOf,List.length_map,go_sem]
  refine Zs (.inr rfl) (xs:=[.agg [.v (.int .i64 n.now),.v (.bool n.fifo),.sl (B.length+2) n.l.length 0 n.l.length,.v (.isl 1 (n.tm.map eI)),.v (.isl 2 (n.fates.map eFt))]]) (by simp (disch:=first|decide|omega) only[ZE,ZY,hA,hg1,go_sem]) ?_ hR hB ⟨rfl,rfl,rfl⟩
  rw[htl]
  exact Dv.aggL (.cons (.v _) (.cons (.v _) (.cons (Dv.slV (i:=2) rfl (by rw[List.length_map])) (.cons (.v _) (.cons (.v _) .nil)))))
end Go.Proofs.YtoccdlnoaindmaaGreatDoor
namespace Go.Proofs.YtoccdlnoaindmaaGreatDoor
set_option linter.unusedVariables false
def dfEv54:Ev:=⟨1,0,0,0,[]⟩
def Qm (t:Tr) (p:Nat) (e:Ev):Tr:=t.set p {t.getD p dfPr with evs:=(t.getD p dfPr).evs++[e]}
def ZAI (w:Wd) (p:Nat) (s:Sv) (e:Ev):Wd:={w with sv:=w.sv.set p s,tr:=Qm w.tr p {e with time:=Uc s w.now}}
def ZFo (kd pe ms:Int) (i:Nat) (v:Int):Ev:=⟨kd,pe,ms,0,[⟨i,v⟩]⟩
noncomputable def ZKo (w:Wd) (p:Nat) (s:Sv) (x:In):Wd:=
 if fiR w.net p<0 then ZAI w p {s with pc:=x.b} dfEv54
 else if (J2 w.tr 3 (w.net.l.getD (fiR w.net p).toNat dfMs).nu).2>0 then {ZAI w p s dfEv54 with net:=woN w.net (fiR w.net p).toNat}
 else {ZAI w p ({s with pc:=s.pc+1}.put x.a.toNat ((w.net.l.getD (fiR w.net p).toNat dfMs).body.getD 0 0)) (ZFo 3 (w.net.l.getD (fiR w.net p).toNat dfMs).fr (w.net.l.getD (fiR w.net p).toNat dfMs).nu x.a.toNat ((w.net.l.getD (fiR w.net p).toNat dfMs).body.getD 0 0)) with net:=woN w.net (fiR w.net p).toNat}
def VA (w:Wd) (p:Nat) (s:Sv) (x:In):Ms:=⟨p,x.b,w.sent,[s.vars.getD x.a.toNat 0]⟩
noncomputable def stI (w:Wd) (p:Nat) (s:Sv) (x:In):Wd×Int:=
 if x.op=1 then (ZAI w p ({s with pc:=s.pc+1}.put x.a.toNat x.b) (ZFo 1 0 0 x.a.toNat x.b),0)
 else if x.op=2 then
  (if vlB (s.vars.getD x.a.toNat 0+x.b)=true then (ZAI w p ({s with pc:=s.pc+1}.put x.a.toNat (s.vars.getD x.a.toNat 0+x.b)) (ZFo 1 0 0 x.a.toNat (s.vars.getD x.a.toNat 0+x.b)),0) else (wd0,9))
 else if x.op=6 then
  (if 0<s.vars.getD x.b.toNat 0 then (ZAI w p ({s with pc:=x.a}.put x.b.toNat (s.vars.getD x.b.toNat 0-1)) (ZFo 1 0 0 x.b.toNat (s.vars.getD x.b.toNat 0-1)),0) else (ZAI w p {s with pc:=s.pc+1} dfEv54,0))
 else if x.op=3 then
  (if sdE w.net (VA w p s x)=0 then ({ZAI w p {s with pc:=s.pc+1} ⟨2,x.b,w.sent,0,[]⟩ with net:=sdR w.net (VA w p s x),sent:=w.sent+1},0) else (wd0,sdE w.net (VA w p s x)))
 else if x.op=4∨x.op=5 then (ZKo w p s x,0)
 else (ZAI w p {s with pc:=s.pc+1} dfEv54,0)
noncomputable def stW (w:Wd) (p:Nat):Wd×Int:=stI w p (w.sv.getD p dfSv) ((w.sv.getD p dfSv).code.getD (w.sv.getD p dfSv).pc.toNat ZI0)
theorem ZEK {t:Tr} {p q:Nat} (e:Ev) (h:p≠q):(Qm t p e)[q]? = t[q]?:=by
 unfold Qm;rw[List.getElem?_set_ne h]
theorem ZEL {t:Tr} {p:Nat} (e:Ev) (h:p<t.length):(Qm t p e)[p]? = some {t[p] with evs:=t[p].evs++[e]}:=by
 unfold Qm;rw[List.getElem?_set_self (by simpa using h)];simp[List.getD,h]
end Go.Proofs.YtoccdlnoaindmaaGreatDoor
namespace Go.Proofs.YtoccdlnoaindmaaGreatDoor
set_option linter.unusedVariables false
set_option linter.unusedSimpArgs false
def svL (s:Sv) (id:Nat):List AV:=[.v (.str s.name),.v (.isl 3 (s.code.map eIn)),.v (.int .i64 s.pc),.sl id 1 0 s.vars.length,.v (.int .i64 s.off),.v (.int .i64 s.rate)]
def prL (x:Pr) (id:Nat):List AV:=[.v (.str x.name),.v (.isl 2 (x.vars.map eVr)),.sl id x.evs.length 0 x.evs.length]
def VN (w:Wd) (p id:Nat):List (List AV):=(vs (w.sv.map eSv)).set p (svL (w.sv.getD p dfSv) id)
def ZCy (w:Wd) (p id:Nat):List (List AV):=(vs (w.tr.map ePr)).set p (prL (w.tr.getD p dfPr) id)
def ZHh (w:Wd) (p q:Nat):Row:=.live w.sv.length 6 (VN w p (q+1))
def ZGS (w:Wd) (p:Nat):Row:=.live 1 1 (vs ((w.sv.getD p dfSv).vars.map eI))
def ZJI (w:Wd) (p q:Nat):Row:=.live w.tr.length 3 (ZCy w p (q+3))
def ZHg (w:Wd) (p:Nat):Row:=.live (w.tr.getD p dfPr).evs.length 5 (vs ((w.tr.getD p dfPr).evs.map eEv))
def mvC (w:Wd) (q:Nat):List AV:=[.sl q w.sv.length 0 w.sv.length,.v (.int .i64 w.net.now),.v (.bool w.net.fifo),.v (.isl 4 (w.net.l.map eMs)),.v (.isl 1 (w.net.tm.map eI)),.v (.isl 2 (w.net.fates.map eFt)),.v (.int .i64 w.now),.v (.int .i64 w.sent),.sl (q+2) w.tr.length 0 w.tr.length]
def ZJH (w:Wd) (q:Nat):Row:=.live 0 9 [mvC w q]
def ZNC (w:Wd) (p q:Nat):List Row:=[ZHh w p q,ZGS w p,ZJI w p q,ZHg w p]
def mvF (f:Nat→Row) (w:Wd) (p q:Nat):Nat→Row:=fun j =>
 if j=q then ZHh w p q else if j=q+1 then ZGS w p else if j=q+2 then ZJI w p q else if j=q+3 then ZHg w p else if j=q+4 then ZJH w q else f j
section
variable {f:Nat→Row} {w:Wd} {p q:Nat}
theorem ZGV:mvF f w p q q=ZHh w p q:=by unfold mvF;rw[if_pos rfl]
theorem ZHk:mvF f w p q (q+1)=ZGS w p:=by unfold mvF;rw[if_neg oM,if_pos rfl]
theorem ZJK:mvF f w p q (q+2)=ZJI w p q:=by unfold mvF;rw[if_neg oM,if_neg oM,if_pos rfl]
theorem ZJJ:mvF f w p q (q+3)=ZHg w p:=by unfold mvF;rw[if_neg oM,if_neg oM,if_neg oM,if_pos rfl]
theorem ZGU:mvF f w p q (q+4)=ZJH w q:=by unfold mvF;rw[if_neg oM,if_neg oM,if_neg oM,if_neg oM,if_pos rfl]
theorem ZGT {j:Nat} (h:j<q∨q+5≤j):mvF f w p q j=f j:=by unfold mvF;rw[if_neg oM,if_neg oM,if_neg oM,if_neg oM,if_neg oM]
theorem ZE5 {g:Nat→Row} {w':Wd} (h0:g q=ZHh w' p q) (h1:g (q+1)=ZGS w' p) (h2:g (q+2)=ZJI w' p q) (h3:g (q+3)=ZHg w' p) (h4:g (q+4)=ZJH w' q) (ho:∀j,j<q∨q+5≤j→g j=f j):g=mvF f w' p q:=by
 funext j
 by_cases c0:j=q
 ·rw[c0,h0,ZGV]
 by_cases c1:j=q+1
 ·rw[c1,h1,ZHk]
 by_cases c2:j=q+2
 ·rw[c2,h2,ZJK]
 by_cases c3:j=q+3
 ·rw[c3,h3,ZJJ]
 by_cases c4:j=q+4
 ·rw[c4,h4,ZGU]
 rw[ho j oM,ZGT oM]
end
theorem YT {w:Wd} {p id:Nat}:(VN w p id).length=w.sv.length:=by unfold VN;rw[List.length_set,Q4,List.length_map]
theorem JY {w:Wd} {p id:Nat}:(ZCy w p id).length=w.tr.length:=by unfold ZCy;rw[List.length_set,Q4,List.length_map]
theorem ZAM {w:Wd} {p id:Nat} (hp:p<w.sv.length):(VN w p id)[p]? = some (svL (w.sv.getD p dfSv) id):=by
 unfold VN;rw[List.getElem?_set_self (by rw[Q4,List.length_map];exact hp)]
theorem ZHe {w:Wd} {p i id:Nat} (hi:i<w.sv.length) (h:p≠i):(VN w p id)[i]? = some ((eSv (w.sv.getD i dfSv)).map .v):=by
 unfold VN;rw[List.getElem?_set_ne h,Zr,List.getElem?_map,List.getElem?_eq_getElem hi,List.getD_eq_getElem?_getD,List.getElem?_eq_getElem hi];rfl
theorem ZE4 {w:Wd} {p id:Nat} (hp:p<w.tr.length):(ZCy w p id)[p]? = some (prL (w.tr.getD p dfPr) id):=by
 unfold ZCy;rw[List.getElem?_set_self (by rw[Q4,List.length_map];exact hp)]
theorem ZHj {w:Wd} {p i id:Nat} (hi:i<w.tr.length) (h:p≠i):(ZCy w p id)[i]? = some ((ePr (w.tr.getD i dfPr)).map .v):=by
 unfold ZCy;rw[List.getElem?_set_ne h,Zr,List.getElem?_map,List.getElem?_eq_getElem hi,List.getD_eq_getElem?_getD,List.getElem?_eq_getElem hi];rfl
theorem mem_set_cases {α:Type} {l:List α} {i:Nat} {a x:α} (h:x∈l.set i a):x∈l∨x=a:=List.mem_or_eq_of_mem_set h
theorem ZD1 {w:Wd} {p id m:Nat} (h:id<m):∀row∈VN w p id,∀c∈row,AVlt m c:=fun row hr=>by
 rcases mem_set_cases hr with hr|hr
 ·exact (Ui.2 trivial) row hr
 ·rw[hr];unfold svL;simp only[List.forall_mem_cons,ZEu,ZCA,true_and,and_true];exact⟨h,fun _ h=>by cases h⟩
theorem ZHi {w:Wd} {p id m:Nat} (h:id<m):∀row∈ZCy w p id,∀c∈row,AVlt m c:=fun row hr=>by
 rcases mem_set_cases hr with hr|hr
 ·exact (Ui.2 trivial) row hr
 ·rw[hr];unfold prL;simp only[List.forall_mem_cons,ZEu,ZCA,true_and,and_true];exact⟨h,fun _ h=>by cases h⟩
theorem ZLs {n i p:Nat} {l:List Row} {w:Wd} (hp:p<w.sv.length) (hpt:p<w.tr.length) (h0:l[i]? = some (ZHh w p (n+i))) (h1:l[i+1]? = some (ZGS w p)) (h2:l[i+2]? = some (ZJI w p (n+i))) (h3:l[i+3]? = some (ZHg w p)):Dv n l (.agg (mvC w (n+i))) (.agg ((eWd w).map .v)):=by
 have e:(eWd w).map AV.v=[.v (.isl 6 (w.sv.map eSv)),.v (.int .i64 w.net.now),.v (.bool w.net.fifo),.v (.isl 4 (w.net.l.map eMs)),.v (.isl 1 (w.net.tm.map eI)),.v (.isl 2 (w.net.fates.map eFt)),.v (.int .i64 w.now),.v (.int .i64 w.sent),.v (.isl 3 (w.tr.map ePr))]:=rfl
 rw[e]
 unfold mvC
 have hA:Dv n l (.sl (n+i) w.sv.length 0 w.sv.length) (.v (.isl 6 (w.sv.map eSv))):=by
  refine Dv.slR h0 (by rw[YT];omega) (by rw[List.length_map]) (fun k r row g1 g2=>?_)
  rw[Nat.zero_add]at g1
  rw[List.getElem?_map]at g2
  have hk:k<w.sv.length:=by
   have:=(List.getElem?_eq_some_iff.1 g1).1
   rwa [YT]at this
  rw[List.getElem?_eq_getElem hk]at g2
  cases g2
  by_cases hpk:p=k
  ·subst hpk
   rw[ZAM hp,ZF hp]at g1
   cases g1
   refine DvR.cons (.v _) (DvR.cons (.v _) (DvR.cons (.v _) (DvR.cons ?_ (DvR.cons (.v _) (DvR.cons (.v _) DvR.nil)))))
   rw[Nat.add_assoc]
   unfold ZGS at h1
   rw[ZF hp]at h1
   exact Dv.slV h1 (by rw[List.length_map])
  ·rw[ZHe hk hpk,ZF hk]at g1
   cases g1
   exact DvR.plain
 have hC:Dv n l (.sl (n+i+2) w.tr.length 0 w.tr.length) (.v (.isl 3 (w.tr.map ePr))):=by
  rw[Nat.add_assoc]
  refine Dv.slR h2 (by rw[JY];omega) (by rw[List.length_map]) (fun k r row g1 g2=>?_)
  rw[Nat.zero_add]at g1
  rw[List.getElem?_map]at g2
  have hk:k<w.tr.length:=by
   have:=(List.getElem?_eq_some_iff.1 g1).1
   rwa [JY]at this
  rw[List.getElem?_eq_getElem hk]at g2
  cases g2
  by_cases hpk:p=k
  ·subst hpk
   rw[ZE4 hpt,ZF hpt]at g1
   cases g1
   refine DvR.cons (.v _) (DvR.cons (.v _) (DvR.cons ?_ DvR.nil))
   rw[Nat.add_assoc]
   unfold ZHg at h3
   rw[ZF hpt]at h3
   exact Dv.slV h3 (by rw[List.length_map])
  ·rw[ZHj hk hpk,ZF hk]at g1
   cases g1
   exact DvR.plain
 exact Dv.aggL (.cons hA (.cons (.v _) (.cons (.v _) (.cons (.v _) (.cons (.v _) (.cons (.v _) (.cons (.v _) (.cons (.v _) (.cons hC .nil)))))))))
end Go.Proofs.YtoccdlnoaindmaaGreatDoor
namespace Go.Proofs.YtoccdlnoaindmaaGreatDoor
set_option linter.unusedVariables false
set_option linter.unusedSimpArgs false
attribute [local go_sem ↓] Zz Z0 QB QD Q8 Zg QA Q9 QC Qk ZM Zf Zy ZL Ze Zx ZS Zk QJ Z1 ZN QE Zh Zi Z4 Zj Z5 Zt Zd Qa QF Qc Qd XQ Qj XR XS Q6 Qo
attribute [local go_sem] Z2 ZO XT Z6 ZR XP Qh Qf Qe KT KU Qi QG QH QI Q7 ZI Zv ZQ Zu ZP Z3 aop YC XG XB Q2 XC QU XD Uh Y4 YZ amm YK QT Zp YQ XA Y0 comma Qx Y3 Ug Y2 Y1 UL YO YM XJ UK eqC eqF Jg cellsOf ZC Xm Xg YN Vx rd rdI Xs mk Qr AV.cell List.all_cons List.all_nil Bool.and_true Bool.true_and Bool.and_self List.length_cons List.length_nil List.length_append Nat.reduceAdd Nat.reduceSub Nat.reduceMul Nat.zero_add Nat.add_zero List.cons_append List.nil_append List.append_assoc List.append_nil List.getElem?_cons_zero List.getElem?_cons_succ List.getElem?_nil List.set_cons_zero List.set_cons_succ List.drop_zero List.drop_succ_cons List.take_zero List.take_succ_cons List.take_nil List.drop_nil List.map_cons List.map_nil Option.map_some if_true if_false Bool.false_eq_true and_self true_and and_true Nat.reduceLeDiff Nat.reduceLT Nat.le_refl Nat.reduceEqDiff ite_true ite_false beq_self_eq_true beq_true beq_false Bool.not_true Bool.not_false Bool.true_beq Bool.false_beq Xl Q4 Zr Qt Qw QZ QY QX QW Qv Qu Xi Z7 ZAR Ke ZAS ZAP JJ JH JK JI geI gtI JM decide_true decide_false room List.getElem?_map List.length_map List.length_take Int.toNat_natCast Nat.min_def Nat.min_self XU XM Xk QR Xb VC Zn List.getElem_cons_zero List.getElem_cons_succ
attribute [local go_sem] Kh ZBb U3 ZAZ U2 ZAY Zb Yt
def a_mev:AFunc:=⟨3,43,[],(.seq (.region [⟨some 5,.box (.t 2),none⟩]) (.seq (.draw [⟨0,⟨some 8,.mv (.t 0),none⟩,[]⟩,⟨1,⟨some 9,.nilck (.t 8),none⟩,[]⟩,⟨2,⟨some 10,.faddr 0 (.t 9),none⟩,[]⟩,⟨3,⟨some 11,.faddr 0 (.t 10),none⟩,[]⟩,⟨4,⟨some 12,.load none (.t 11),none⟩,[]⟩,⟨5,⟨some 13,.mv (.t 1),none⟩,[]⟩,⟨6,⟨some 14,.iaddr 6 (.t 12) (.t 13),none⟩,[]⟩,⟨7,⟨some 15,.load (some 6) (.t 14),none⟩,[]⟩,⟨8,⟨some 16,.mv (.t 0),none⟩,[]⟩,⟨9,⟨some 17,.nilck (.t 16),none⟩,[]⟩,⟨10,⟨some 18,.faddr 0 (.t 17),none⟩,[]⟩,⟨11,⟨some 19,.faddr 6 (.t 18),none⟩,[]⟩,⟨12,⟨some 20,.load none (.t 19),none⟩,[]⟩,⟨13,⟨some 21,.call (.c (.fn 15 [])) [(.t 15),(.t 20)],none⟩,[]⟩,⟨14,⟨some 7,.mv (.t 21),none⟩,[]⟩,⟨15,⟨some 22,.extract 0 (.t 7),none⟩,[]⟩,⟨16,⟨some 23,.extract 1 (.t 7),none⟩,[]⟩,⟨17,⟨some 24,.faddr 3 (.t 5),none⟩,[]⟩,⟨18,⟨none,.store 1 (.t 24) (.t 22),none⟩,[⟨some 23,.extract 1 (.t 7),none⟩]⟩]) (.seq (.region [⟨some 25,.mv (.t 0),none⟩,⟨some 26,.nilck (.t 25),none⟩,⟨some 27,.faddr 0 (.t 26),none⟩,⟨some 28,.faddr 8 (.t 27),none⟩,⟨some 29,.faddr 0 (.t 28),none⟩,⟨some 30,.load none (.t 29),none⟩,⟨some 31,.mv (.t 1),none⟩,⟨some 32,.iaddr 3 (.t 30) (.t 31),none⟩,⟨some 6,.mv (.t 32),none⟩]) (.draw [⟨0,⟨some 33,.mv (.t 6),none⟩,[]⟩,⟨1,⟨some 34,.mv (.t 6),none⟩,[]⟩,⟨2,⟨some 35,.nilck (.t 34),none⟩,[]⟩,⟨3,⟨some 36,.faddr 2 (.t 35),none⟩,[]⟩,⟨4,⟨some 37,.load none (.t 36),none⟩,[]⟩,⟨5,⟨some 38,.load (some 5) (.t 5),none⟩,[]⟩,⟨6,⟨some 39,.bslice 5 [(.v (.int .i64 0)),(.v (.int .i64 0)),(.v (.int .i64 0)),(.v (.int .i64 0)),(.v .zsl)] 1 [(0,(.t 38))],none⟩,[⟨some 33,.mv (.t 6),none⟩,⟨some 34,.mv (.t 6),none⟩,⟨some 35,.nilck (.t 34),none⟩,⟨some 36,.faddr 2 (.t 35),none⟩,⟨some 37,.load none (.t 36),none⟩]⟩,⟨7,⟨some 40,.append 5 56 (.t 37) (.t 39),none⟩,[⟨some 33,.mv (.t 6),none⟩]⟩,⟨8,⟨some 41,.nilck (.t 33),none⟩,[]⟩,⟨9,⟨some 42,.faddr 2 (.t 41),none⟩,[]⟩,⟨10,⟨none,.store 1 (.t 42) (.t 40),none⟩,[]⟩]))))⟩
theorem ZK1:Zq Tryz.prog 136=some a_mev:=by kernel_rfl

theorem ZHd {n q p:Nat} {f:Nat→Row} {w:Wd} {l B:List Row} (hn:q+5≤n) (hB:B=kB n (mvF f w p q)++l):∃m f',m=n+l.length∧B=kB m (mvF f' w p q)∧∀w',kB m (mvF f' w' p q)=kB n (mvF f w' p q)++l:=by
 obtain⟨m,g,hm,hBg,hg⟩:=ZNK B
 have hml:m=n+l.length:=by rw[hm,hB,List.length_append,Zb]
 have gB:∀j,j<n→g j=mvF f w p q j:=fun j hj=>hg j _ (by rw[hB,List.getElem?_append_left (by rw[Zb];exact hj),JZ hj])
 have e:∀w',kB m (mvF g w' p q)=kB n (mvF f w' p q)++l:=fun w'=>by
  apply List.ext_getElem?
  intro j
  by_cases hj:j<n
  ·rw[JZ oM,List.getElem?_append_left (by rw[Zb];exact hj),JZ hj]
   by_cases hq:j<q∨q+5≤j
   ·rw[ZGT hq,ZGT hq,gB j hj,ZGT hq]
   ·obtain rfl|rfl|rfl|rfl|rfl:j=q∨j=q+1∨j=q+2∨j=q+3∨j=q+4:=by omega
    ·rw[ZGV,ZGV]
    ·rw[ZHk,ZHk]
    ·rw[ZJK,ZJK]
    ·rw[ZJJ,ZJJ]
    ·rw[ZGU,ZGU]
  ·rw[List.getElem?_append_right (by rw[Zb];omega),Zb]
   by_cases hj2:j<m
   ·rw[JZ hj2,ZGT (.inr oM)]
    have hl:j-n<l.length:=by omega
    rw[List.getElem?_eq_getElem hl]
    congr 1
    exact hg j _ (by rw[hB,List.getElem?_append_right (by rw[Zb];omega),Zb,List.getElem?_eq_getElem hl])
   ·rw[List.getElem?_eq_none (by rw[Zb];omega),List.getElem?_eq_none oM]
 exact⟨m,g,hml,by rw[e w,←hB],e⟩
theorem ZD0 {m q p:Nat} {f:Nat→Row} {w w':Wd} (hq:q+5≤m) (h:Z8 m (kB m (mvF f w p q))):Z8 m (kB m (mvF f w' p q)):=by
 intro id ver sz els hi row hrow c hc
 have hl:id<m:=by
  have:=(List.getElem?_eq_some_iff.1 hi).1
  rwa [Zb]at this
 rw[JZ hl,Option.some.injEq]at hi
 by_cases ho:id<q∨q+5≤id
 ·rw[ZGT ho]at hi
  exact h id ver sz els (by rw[JZ hl,ZGT ho,hi]) row hrow c hc
 ·obtain rfl|rfl|rfl|rfl|rfl:id=q∨id=q+1∨id=q+2∨id=q+3∨id=q+4:=by omega
  ·rw[ZGV]at hi;cases hi;exact ZD1 oM row hrow c hc
  ·rw[ZHk]at hi;cases hi;exact (Ui.2 trivial) row hrow c hc
  ·rw[ZJK]at hi;cases hi;exact ZHi oM row hrow c hc
  ·rw[ZJJ]at hi;cases hi;exact (Ui.2 trivial) row hrow c hc
  ·rw[ZGU]at hi;cases hi
   have:∀row∈[mvC w' q],∀c∈row,AVlt m c:=by
    unfold mvC
    simp (disch:=omega) only[List.forall_mem_cons,List.forall_mem_nil,ZEu,ZCA,true_and,and_true,List.not_mem_nil,false_imp_iff,implies_true]
    omega
   exact this row hrow c hc
theorem Qn {rs:List ARes} {Q:AV→List Row→List Row→Prop} {B e l:_} {ex:AExit} (hex:ex=.normal∨ex=.ret) {xs:List AV} (hx:ZE e B l rs=some xs) (hlt:AVlt B.length (one xs)) (hR:Z8 B.length B) {n p q:Nat} {f f':Nat→Row} {w0 w':Wd} {b l0:List Row} (hb:b=kB n (mvF f w0 p q)) (hB:B=kB n (mvF f' w' p q)++l0) (hq:Q (one xs) (kB n (mvF f' w' p q)) l0):V2 rs Q b.length ex e B l:=by
 have hbl:b.length=(kB n (mvF f' w' p q)).length:=by rw[hb,Zb,Zb]
 rw[hbl]
 exact ZB hex hx hlt hR hB hq
def evW (w:Wd) (p:Nat) (e:Ev):Wd:={w with tr:=Qm w.tr p {e with time:=Uc (w.sv.getD p dfSv) w.now}}
theorem ZJp {w:Wd} {p id:Nat} {e:Ev} (hp:p<w.tr.length):(ZCy w p id).set p [.v (.str (w.tr.getD p dfPr).name),.v (.isl 2 ((w.tr.getD p dfPr).vars.map eVr)),.sl id ((w.tr.getD p dfPr).evs.length+1) 0 ((w.tr.getD p dfPr).evs.length+1)]=ZCy (evW w p e) p id:=by
 unfold ZCy
 rw[List.set_set]
 have hg:(evW w p e).tr.getD p dfPr={w.tr.getD p dfPr with evs:=(w.tr.getD p dfPr).evs++[{e with time:=Uc (w.sv.getD p dfSv) w.now}]}:=by
  show (Qm w.tr p _).getD p dfPr=_
  unfold Qm
  rw[List.getD_eq_getElem?_getD,List.getElem?_set_self hp];rfl
 rw[hg]
 have hm:vs ((evW w p e).tr.map ePr)=(vs (w.tr.map ePr)).set p ((ePr {w.tr.getD p dfPr with evs:=(w.tr.getD p dfPr).evs++[{e with time:=Uc (w.sv.getD p dfSv) w.now}]}).map .v):=by
  show vs ((Qm w.tr p _).map ePr)=_
  unfold Qm vs
  rw[List.map_set,List.map_set]
 rw[hm,List.set_set]
 unfold prL
 simp only[List.length_append,List.length_singleton]
theorem ZMI {w:Wd} {p:Nat} {e:Ev} (hp:p<w.tr.length):(evW w p e).tr.getD p dfPr={w.tr.getD p dfPr with evs:=(w.tr.getD p dfPr).evs++[{e with time:=Uc (w.sv.getD p dfSv) w.now}]}:=by
 show (Qm w.tr p _).getD p dfPr=_
 unfold Qm
 rw[List.getD_eq_getElem?_getD,List.getElem?_set_self hp];rfl
theorem YW {w:Wd} {p:Nat} {e:Ev}:(evW w p e).tr.length=w.tr.length:=by
 show (Qm w.tr p _).length=_
 unfold Qm;simp
theorem ZE7 (f:Nat→Row) (w:Wd) (p q n:Nat) (hn:q+5≤n) (hp:p<w.sv.length) (hpt:p<w.tr.length) (hsl:w.sv.length≤1000000) (htl:w.tr.length≤1000000) (hel:(w.tr.getD p dfPr).evs.length≤1000000) (e:Ev) (b l:List Row) (hb:b=kB n (mvF f w p q)) :
  ZA Tryz.prog 136 [.ptr (q+4) 0 0 0,.v (.int .i64 p),.agg [.v (.int .i64 e.kind),.v (.int .i64 e.peer),.v (.int .i64 e.msg),.v (.int .i64 e.time),.v (.isl 2 (e.asg.map ZCz))]] b l
   (fun r b' l'=>r=.tup []∧b'=kB n (mvF f (evW w p e) p q)∧l'=l):=by
 refine ZD ZK1 rfl (by decide) ?_
 intro B g hB hR hE hA;simp only[Zn]at hA
 rw[hb]at hB
 obtain⟨m,f',hm,hB1,hout⟩:=ZHd hn hB
 clear hB
 subst hB1
 rw[Zb]at hR
 obtain⟨s,hs⟩:∃s,w.sv.getD p dfSv=s:=⟨_,rfl⟩
 obtain⟨x,hx⟩:∃x,w.tr.getD p dfPr=x:=⟨_,rfl⟩
 obtain⟨SV,hSV⟩:∃SV,VN w p (q+1)=SV:=⟨_,rfl⟩
 obtain⟨PR,hPR⟩:∃PR,ZCy w p (q+3)=PR:=⟨_,rfl⟩
 have hSl:SV.length=w.sv.length:=by rw[←hSV,YT]
 have hPl:PR.length=w.tr.length:=by rw[←hPR,JY]
 have gS:SV[p]? = some [.v (.str s.name),.v (.isl 3 (s.code.map eIn)),.v (.int .i64 s.pc),.sl (q+1) 1 0 s.vars.length,.v (.int .i64 s.off),.v (.int .i64 s.rate)]:=by rw[←hSV,ZAM hp,hs];rfl
 have gP:PR[p]? = some [.v (.str x.name),.v (.isl 2 (x.vars.map eVr)),.sl (q+3) x.evs.length 0 x.evs.length]:=by rw[←hPR,ZE4 hpt,hx];rfl
 obtain⟨F,hF⟩:∃F,mvF f' w p q=F:=⟨_,rfl⟩
 have f0:F q=.live w.sv.length 6 SV:=by rw[←hF,ZGV,←hSV];rfl
 have f2:F (q+2)=.live w.tr.length 3 PR:=by rw[←hF,ZJK,←hPR];rfl
 have f3:F (q+3)=.live x.evs.length 5 (vs (x.evs.map eEv)):=by rw[←hF,ZJJ,←hx];rfl
 have f4:F (q+4)=.live 0 9 [[.sl q w.sv.length 0 w.sv.length,.v (.int .i64 w.net.now),.v (.bool w.net.fifo),.v (.isl 4 (w.net.l.map eMs)),.v (.isl 1 (w.net.tm.map eI)),.v (.isl 2 (w.net.fates.map eFt)),.v (.int .i64 w.now),.v (.int .i64 w.sent),.sl (q+2) w.tr.length 0 w.tr.length]]:=by rw[←hF,ZGU];rfl
 have gk:∀{j:Nat} {f:Nat→Row} {L:List Row},j<5→hget (kB m f) L (q+j)=some (f (q+j)):=fun hj=>J0 oM
 have kn:∀{j:Nat} {f:Nat→Row} {r:Row},j<5→YA (kB m f) (q+j) r=kB m (rUp f (q+j) r):=fun hj=>Vc oM
 have kl:∀{j:Nat} {f:Nat→Row} {r:Row} {L:List Row},j<5→YP (kB m f) L (q+j) r=L:=fun hj=>Vb oM
 have gk0:∀{f:Nat→Row} {L:List Row},hget (kB m f) L q=some (f q):=J0 oM
 have cC:=fun b l=>Vu (.str s.name) (.isl 3 (s.code.map eIn)) (.int .i64 s.pc) (.sl (q+1) 1 0 s.vars.length) s w.now b l (.inr ⟨_,_,_,_,rfl⟩)
 rw[hx]at hel
 have hye:(x.evs.map eEv).length=x.evs.length:=List.length_map _
 have htk:List.take x.evs.length (vs (x.evs.map eEv))=vs (x.evs.map eEv):=List.take_of_length_le (by rw[Q4,hye];omega)
 rw[hF]at hR⊢
 simp (disch:=first|decide|omega) only[a_mev,hA,gk,gk0,f0,f4,gS,hSl,ZC,cellsOf,List.length_map,go_sem]
 refine ZA.nxt (cC _ _) ?_
 simp (disch:=first|decide|omega) only[hA,gk,gk0,f0,f2,f3,f4,gP,hPl,hye,htk,ZC,cellsOf,List.length_map,kn,kl,ZV,XZ,go_sem]
 have hfin:rUp (rUp F (q+3) (.live (x.evs.length+1) 5 (vs (x.evs.map eEv++[[.int .i64 e.kind,.int .i64 e.peer,.int .i64 e.msg,.int .i64 (Uc s w.now),.isl 2 (e.asg.map ZCz)]])))) (q+2) (.live w.tr.length 3 (PR.set p [.v (.str x.name),.v (.isl 2 (x.vars.map eVr)),.sl (q+3) (x.evs.length+1) 0 (x.evs.length+1)]))=mvF f' (evW w p e) p q:=by
  refine ZE5 ?_ ?_ ?_ ?_ ?_ (fun j hj=>?_)
  ·rw[ZV oM,ZV oM,←hF,ZGV];rfl
  ·rw[ZV oM,ZV oM,←hF,ZHk];rfl
  ·rw[Yt]
   unfold ZJI
   rw[YW,←ZJp hpt,hx,hPR]
  ·rw[ZV oM,Yt]
   unfold ZHg
   rw[ZMI hpt,hx,hs]
   simp only[List.length_append,List.length_singleton,List.map_append]
   rfl
  ·rw[ZV oM,ZV oM,←hF,ZGU]
   unfold ZJH mvC
   rw[YW];rfl
  ·rw[ZV oM,ZV oM,←hF,ZGT hj]
 rw[hfin]
 exact Qn (xs:=[]) (.inl rfl) (by simp (disch:=first|decide|omega) only[ZE,ZY,go_sem,hA]) kO (by rw[Zb];rw[←hF]at hR;exact ZD0 oM hR) hb (hout _) ⟨rfl,rfl,rfl⟩
def a_masg:AFunc:=⟨5,35,[.tmp 10],(.seq (.region [⟨some 9,.box (.t 4),none⟩,⟨some 10,.mv (.c (.v (.int .i64 0))),none⟩]) (.seq (.seq (.region [⟨some 11,.mv (.t 3),none⟩,⟨some 12,.call (.c (.fn 110 [])) [(.t 11)],none⟩,⟨some 13,.not (.t 12),none⟩]) (.cond (.t 13) (.seq (.region [⟨some 10,.mv (.c (.v (.int .i64 9))),none⟩]) .ret) .skip)) (.seq (.region [⟨some 14,.mv (.t 2),none⟩,⟨some 15,.mv (.t 3),none⟩,⟨some 16,.build [(.v (.int .i64 0)),(.v (.int .i64 0))] [(0,1,(.t 14)),(1,1,(.t 15))],none⟩,⟨some 17,.bslice 2 [(.v (.int .i64 0)),(.v (.int .i64 0))] 1 [(0,(.t 16))],none⟩,⟨some 18,.faddr 4 (.t 9),none⟩,⟨none,.store 1 (.t 18) (.t 17),none⟩]) (.seq (.region [⟨some 19,.mv (.t 0),none⟩,⟨some 20,.mv (.t 1),none⟩,⟨some 21,.load (some 5) (.t 9),none⟩,⟨some 22,.call (.c (.fn 136 [])) [(.t 19),(.t 20),(.t 21)],none⟩]) (.seq (.region [⟨some 23,.mv (.t 0),none⟩,⟨some 24,.nilck (.t 23),none⟩,⟨some 25,.faddr 0 (.t 24),none⟩,⟨some 26,.faddr 0 (.t 25),none⟩,⟨some 27,.load none (.t 26),none⟩,⟨some 28,.mv (.t 1),none⟩,⟨some 29,.iaddr 6 (.t 27) (.t 28),none⟩,⟨some 30,.faddr 3 (.t 29),none⟩,⟨some 31,.load none (.t 30),none⟩,⟨some 32,.mv (.t 2),none⟩,⟨some 33,.mv (.t 3),none⟩,⟨some 34,.iaddr 1 (.t 31) (.t 32),none⟩,⟨none,.store 1 (.t 34) (.t 33),none⟩]) (.seq (.region [⟨some 10,.mv (.c (.v (.int .i64 0))),none⟩]) .ret))))))⟩
theorem ZIw:Zq Tryz.prog 134=some a_masg:=by kernel_rfl
def a_msnd:AFunc:=⟨3,67,[.tmp 6],(.seq (.region [⟨some 5,.box (.t 2),none⟩,⟨some 6,.mv (.c (.v (.int .i64 0))),none⟩]) (.seq (.region [⟨some 10,.mv (.t 0),none⟩,⟨some 11,.nilck (.t 10),none⟩,⟨some 12,.faddr 0 (.t 11),none⟩,⟨some 13,.faddr 7 (.t 12),none⟩,⟨some 14,.load none (.t 13),none⟩,⟨some 7,.mv (.t 14),none⟩]) (.seq (.draw [⟨0,⟨some 16,.mv (.t 0),none⟩,[]⟩,⟨1,⟨some 17,.nilck (.t 16),none⟩,[]⟩,⟨2,⟨some 18,.faddr 0 (.t 17),none⟩,[]⟩,⟨3,⟨some 19,.faddr 1 (.t 18),none⟩,[]⟩,⟨4,⟨some 20,.load (some 5) (.t 19),none⟩,[]⟩,⟨5,⟨some 21,.mv (.t 1),none⟩,[]⟩,⟨6,⟨some 22,.faddr 2 (.t 5),none⟩,[]⟩,⟨7,⟨some 23,.load none (.t 22),none⟩,[]⟩,⟨8,⟨some 24,.mv (.t 7),none⟩,[]⟩,⟨9,⟨some 25,.mv (.t 0),none⟩,[]⟩,⟨10,⟨some 26,.nilck (.t 25),none⟩,[]⟩,⟨11,⟨some 27,.faddr 0 (.t 26),none⟩,[]⟩,⟨12,⟨some 28,.faddr 0 (.t 27),none⟩,[]⟩,⟨13,⟨some 29,.load none (.t 28),none⟩,[]⟩,⟨14,⟨some 30,.mv (.t 1),none⟩,[]⟩,⟨15,⟨some 31,.iaddr 6 (.t 29) (.t 30),none⟩,[]⟩,⟨16,⟨some 32,.faddr 3 (.t 31),none⟩,[]⟩,⟨17,⟨some 33,.load none (.t 32),none⟩,[]⟩,⟨18,⟨some 34,.faddr 1 (.t 5),none⟩,[]⟩,⟨19,⟨some 35,.load none (.t 34),none⟩,[]⟩,⟨20,⟨some 36,.iaddr 1 (.t 33) (.t 35),none⟩,[]⟩,⟨21,⟨some 37,.load none (.t 36),none⟩,[]⟩,⟨22,⟨some 38,.bslice 1 [(.v (.int .i64 0))] 1 [(0,(.t 37))],none⟩,[⟨some 16,.mv (.t 0),none⟩,⟨some 17,.nilck (.t 16),none⟩,⟨some 18,.faddr 0 (.t 17),none⟩,⟨some 19,.faddr 1 (.t 18),none⟩,⟨some 20,.load (some 5) (.t 19),none⟩,⟨some 21,.mv (.t 1),none⟩,⟨some 22,.faddr 2 (.t 5),none⟩,⟨some 23,.load none (.t 22),none⟩,⟨some 24,.mv (.t 7),none⟩]⟩,⟨23,⟨some 39,.build [(.v (.int .i64 0)),(.v (.int .i64 0)),(.v (.int .i64 0)),(.v .zsl)] [(0,1,(.t 21)),(1,1,(.t 23)),(2,1,(.t 24)),(3,1,(.t 38))],none⟩,[]⟩,⟨24,⟨some 40,.call (.c (.fn 169 [])) [(.t 20),(.t 39)],none⟩,[]⟩,⟨25,⟨some 15,.mv (.t 40),none⟩,[]⟩,⟨26,⟨some 41,.extract 0 (.t 15),none⟩,[]⟩,⟨27,⟨some 42,.extract 1 (.t 15),none⟩,[]⟩,⟨28,⟨some 8,.alloc [(.v (.int .i64 0)),(.v (.bool false)),(.v .zsl),(.v .zsl),(.v .zsl)],none⟩,[⟨some 16,.mv (.t 0),none⟩,⟨some 17,.nilck (.t 16),none⟩,⟨some 18,.faddr 0 (.t 17),none⟩,⟨some 19,.faddr 1 (.t 18),none⟩,⟨some 20,.load (some 5) (.t 19),none⟩,⟨some 21,.mv (.t 1),none⟩,⟨some 22,.faddr 2 (.t 5),none⟩,⟨some 23,.load none (.t 22),none⟩,⟨some 24,.mv (.t 7),none⟩,⟨some 25,.mv (.t 0),none⟩,⟨some 26,.nilck (.t 25),none⟩,⟨some 27,.faddr 0 (.t 26),none⟩,⟨some 28,.faddr 0 (.t 27),none⟩,⟨some 29,.load none (.t 28),none⟩,⟨some 30,.mv (.t 1),none⟩,⟨some 31,.iaddr 6 (.t 29) (.t 30),none⟩,⟨some 32,.faddr 3 (.t 31),none⟩,⟨some 33,.load none (.t 32),none⟩,⟨some 34,.faddr 1 (.t 5),none⟩,⟨some 35,.load none (.t 34),none⟩,⟨some 36,.iaddr 1 (.t 33) (.t 35),none⟩,⟨some 37,.load none (.t 36),none⟩,⟨some 39,.build [(.v (.int .i64 0)),(.v (.int .i64 0)),(.v (.int .i64 0)),(.v .zsl)] [(0,1,(.t 21)),(1,1,(.t 23)),(2,1,(.t 24)),(3,1,(.t 38))],none⟩,⟨some 15,.mv (.t 40),none⟩,⟨some 41,.extract 0 (.t 15),none⟩,⟨some 42,.extract 1 (.t 15),none⟩]⟩,⟨29,⟨none,.store 5 (.t 8) (.t 41),none⟩,[⟨some 42,.extract 1 (.t 15),none⟩]⟩,⟨30,⟨some 9,.mv (.t 42),none⟩,[]⟩]) (.seq (.seq (.region [⟨some 43,.mv (.t 9),none⟩,⟨some 44,.bin .neq (.t 43) (.c (.v (.int .i64 0))),none⟩]) (.cond (.t 44) (.seq (.region [⟨some 45,.mv (.t 9),none⟩,⟨some 6,.mv (.t 45),none⟩]) .ret) .skip)) (.seq (.region [⟨some 46,.mv (.t 0),none⟩,⟨some 47,.load (some 5) (.t 8),none⟩,⟨some 48,.nilck (.t 46),none⟩,⟨some 49,.faddr 0 (.t 48),none⟩,⟨some 50,.faddr 1 (.t 49),none⟩,⟨none,.store 5 (.t 50) (.t 47),none⟩]) (.seq (.region [⟨some 51,.mv (.t 0),none⟩,⟨some 52,.nilck (.t 51),none⟩,⟨some 53,.faddr 0 (.t 52),none⟩,⟨some 54,.faddr 7 (.t 53),none⟩,⟨some 55,.load none (.t 54),none⟩,⟨some 56,.bin .add (.t 55) (.c (.v (.int .i64 1))),none⟩,⟨some 57,.nilck (.t 51),none⟩,⟨some 58,.faddr 0 (.t 57),none⟩,⟨some 59,.faddr 7 (.t 58),none⟩,⟨none,.store 1 (.t 59) (.t 56),none⟩]) (.seq (.region [⟨some 60,.mv (.t 0),none⟩,⟨some 61,.mv (.t 1),none⟩,⟨some 62,.faddr 2 (.t 5),none⟩,⟨some 63,.load none (.t 62),none⟩,⟨some 64,.mv (.t 7),none⟩,⟨some 65,.build [(.v (.int .i64 0)),(.v (.int .i64 0)),(.v (.int .i64 0)),(.v (.int .i64 0)),(.v .zsl)] [(0,1,(.c (.v (.int .i64 2)))),(1,1,(.t 63)),(2,1,(.t 64))],none⟩,⟨some 66,.call (.c (.fn 136 [])) [(.t 60),(.t 61),(.t 65)],none⟩]) (.seq (.region [⟨some 6,.mv (.c (.v (.int .i64 0))),none⟩]) .ret))))))))⟩
theorem ZIu:Zq Tryz.prog 137=some a_msnd:=by kernel_rfl
def a_mrcv:AFunc:=⟨3,58,[.tmp 6],(.seq (.region [⟨some 5,.box (.t 2),none⟩,⟨some 6,.mv (.c (.v (.bool false))),none⟩]) (.seq (.region [⟨some 13,.mv (.t 0),none⟩,⟨some 14,.nilck (.t 13),none⟩,⟨some 15,.faddr 0 (.t 14),none⟩,⟨some 16,.faddr 1 (.t 15),none⟩,⟨some 17,.load (some 5) (.t 16),none⟩,⟨some 18,.mv (.t 1),none⟩,⟨some 19,.call (.c (.fn 170 [])) [(.t 17),(.t 18)],none⟩,⟨some 12,.mv (.t 19),none⟩,⟨some 20,.extract 0 (.t 12),none⟩,⟨some 21,.extract 1 (.t 12),none⟩,⟨some 22,.extract 2 (.t 12),none⟩,⟨some 7,.alloc [(.v (.int .i64 0)),(.v (.bool false)),(.v .zsl),(.v .zsl),(.v .zsl)],none⟩,⟨some 8,.alloc [(.v (.int .i64 0)),(.v (.int .i64 0)),(.v (.int .i64 0)),(.v .zsl)],none⟩,⟨none,.store 5 (.t 7) (.t 20),none⟩,⟨none,.store 4 (.t 8) (.t 21),none⟩,⟨some 9,.mv (.t 22),none⟩]) (.seq (.region [⟨some 23,.mv (.t 0),none⟩,⟨some 24,.load (some 5) (.t 7),none⟩,⟨some 25,.nilck (.t 23),none⟩,⟨some 26,.faddr 0 (.t 25),none⟩,⟨some 27,.faddr 1 (.t 26),none⟩,⟨none,.store 5 (.t 27) (.t 24),none⟩]) (.seq (.seq (.draw [⟨0,⟨some 29,.mv (.t 0),none⟩,[]⟩,⟨1,⟨some 30,.nilck (.t 29),none⟩,[]⟩,⟨2,⟨some 31,.faddr 0 (.t 30),none⟩,[]⟩,⟨3,⟨some 32,.faddr 8 (.t 31),none⟩,[]⟩,⟨4,⟨some 33,.load (some 1) (.t 32),none⟩,[]⟩,⟨5,⟨some 34,.faddr 2 (.t 8),none⟩,[]⟩,⟨6,⟨some 35,.load none (.t 34),none⟩,[]⟩,⟨7,⟨some 36,.call (.c (.fn 171 [])) [(.t 33),(.t 35)],none⟩,[]⟩,⟨8,⟨some 28,.mv (.t 36),none⟩,[]⟩,⟨9,⟨some 37,.extract 0 (.t 28),none⟩,[]⟩,⟨10,⟨some 38,.extract 1 (.t 28),none⟩,[]⟩,⟨11,⟨some 10,.alloc [(.v (.int .i64 0)),(.v (.int .i64 0))],none⟩,[⟨some 29,.mv (.t 0),none⟩,⟨some 30,.nilck (.t 29),none⟩,⟨some 31,.faddr 0 (.t 30),none⟩,⟨some 32,.faddr 8 (.t 31),none⟩,⟨some 33,.load (some 1) (.t 32),none⟩,⟨some 34,.faddr 2 (.t 8),none⟩,⟨some 35,.load none (.t 34),none⟩,⟨some 28,.mv (.t 36),none⟩,⟨some 37,.extract 0 (.t 28),none⟩,⟨some 38,.extract 1 (.t 28),none⟩]⟩,⟨12,⟨none,.store 2 (.t 10) (.t 37),none⟩,[⟨some 38,.extract 1 (.t 28),none⟩]⟩,⟨13,⟨some 11,.mv (.t 38),none⟩,[]⟩]) (.seq (.region [⟨some 39,.mv (.t 11),none⟩]) (.cond (.t 39) (.seq (.region [⟨some 40,.mv (.t 0),none⟩,⟨some 41,.mv (.t 1),none⟩,⟨some 42,.call (.c (.fn 135 [])) [],none⟩,⟨some 43,.call (.c (.fn 136 [])) [(.t 40),(.t 41),(.t 42)],none⟩]) (.seq (.region [⟨some 6,.mv (.c (.v (.bool false))),none⟩]) .ret)) .skip))) (.seq (.draw [⟨0,⟨some 44,.mv (.t 0),none⟩,[]⟩,⟨1,⟨some 45,.mv (.t 1),none⟩,[]⟩,⟨2,⟨some 46,.faddr 1 (.t 5),none⟩,[]⟩,⟨3,⟨some 47,.load none (.t 46),none⟩,[]⟩,⟨4,⟨some 48,.faddr 3 (.t 8),none⟩,[]⟩,⟨5,⟨some 49,.load none (.t 48),none⟩,[]⟩,⟨6,⟨some 50,.iaddr 1 (.t 49) (.c (.v (.int .i64 0))),none⟩,[]⟩,⟨7,⟨some 51,.load none (.t 50),none⟩,[]⟩,⟨8,⟨some 52,.faddr 0 (.t 8),none⟩,[]⟩,⟨9,⟨some 53,.load none (.t 52),none⟩,[]⟩,⟨10,⟨some 54,.faddr 2 (.t 8),none⟩,[]⟩,⟨11,⟨some 55,.load none (.t 54),none⟩,[]⟩,⟨12,⟨some 56,.build [(.v (.int .i64 0)),(.v (.int .i64 0)),(.v (.int .i64 0)),(.v (.int .i64 0)),(.v .zsl)] [(0,1,(.c (.v (.int .i64 3)))),(1,1,(.t 53)),(2,1,(.t 55))],none⟩,[]⟩,⟨13,⟨some 57,.call (.c (.fn 134 [])) [(.t 44),(.t 45),(.t 47),(.t 51),(.t 56)],none⟩,[]⟩]) (.seq (.region [⟨some 6,.mv (.c (.v (.bool true))),none⟩]) .ret))))))⟩
theorem ZIv:Zq Tryz.prog 138=some a_mrcv:=by kernel_rfl

theorem ZAO (f:Nat→Row) (w:Wd) (p q n:Nat) (hn:q+5≤n) (hp:p<w.sv.length) (hpt:p<w.tr.length) (hsl:w.sv.length≤1000000) (htl:w.tr.length≤1000000) (hel:(w.tr.getD p dfPr).evs.length≤1000000) (k pe ms:Int) (b l:List Row) (hb:b=kB n (mvF f w p q)) :
  ZA Tryz.prog 136 [.ptr (q+4) 0 0 0,.v (.int .i64 p),.agg [.v (.int .i64 k),.v (.int .i64 pe),.v (.int .i64 ms),.v (.int .i64 0),.v .zsl]] b l
   (fun r b' l'=>r=.tup []∧b'=kB n (mvF f (evW w p ⟨k,pe,ms,0,[]⟩) p q)∧l'=l):=by
 refine (ZE7 f w p q n hn hp hpt hsl htl hel ⟨k,pe,ms,0,[]⟩ b l hb).le rfl (fun i x y hx hy=>?_)
 match i,hx,hy with
 |0,hx,hy=>cases hx;cases hy;exact .refl _
 |1,hx,hy=>cases hx;cases hy;exact .refl _
 |2,hx,hy =>
   cases hx;cases hy
   refine .agg _ _ rfl (fun j u v hu hv=>?_)
   match j,hu,hv with
   |0,hu,hv=>cases hu;cases hv;exact .refl _
   |1,hu,hv=>cases hu;cases hv;exact .refl _
   |2,hu,hv=>cases hu;cases hv;exact .refl _
   |3,hu,hv=>cases hu;cases hv;exact .refl _
   |4,hu,hv=>cases hu;cases hv;exact .v _ _ (.zsl 2)
def asW (w:Wd) (p:Nat) (e:Ev) (i:Nat) (v:Int):Wd:={evW w p {e with asg:=[⟨i,v⟩]} with sv:=w.sv.set p ((w.sv.getD p dfSv).put i v)}
theorem ZE3 {w:Wd} {p id:Nat} {s:Sv} (hp:p<w.sv.length):(VN w p id).set p (svL s id)=VN {w with sv:=w.sv.set p s} p id:=by
 unfold VN
 rw[List.set_set]
 have hg:({w with sv:=w.sv.set p s}:Wd).sv.getD p dfSv=s:=by
  show (w.sv.set p s).getD p dfSv=s
  rw[List.getD_eq_getElem?_getD,List.getElem?_set_self hp];rfl
 rw[hg]
 have hm:vs (({w with sv:=w.sv.set p s}:Wd).sv.map eSv)=(vs (w.sv.map eSv)).set p ((eSv s).map .v):=by
  show vs ((w.sv.set p s).map eSv)=_
  unfold vs
  rw[List.map_set,List.map_set]
 rw[hm,List.set_set]
theorem ZC1 (f:Nat→Row) (w:Wd) (p q n:Nat) (hn:q+5≤n) (hp:p<w.sv.length) (hpt:p<w.tr.length) (hsl:w.sv.length≤1000000) (htl:w.tr.length≤1000000) (hel:(w.tr.getD p dfPr).evs.length≤1000000) (k pe ms:Int) (i:Nat) (hi:i<(w.sv.getD p dfSv).vars.length) (hvl:(w.sv.getD p dfSv).vars.length≤1000000) (v:Int) (b l:List Row) (hb:b=kB n (mvF f w p q)) :
  ZA Tryz.prog 134 [.ptr (q+4) 0 0 0,.v (.int .i64 p),.v (.int .i64 i),.v (.int .i64 v),.agg [.v (.int .i64 k),.v (.int .i64 pe),.v (.int .i64 ms),.v (.int .i64 0),.v .zsl]] b l
   (fun r b' l'=>r=.v (.int .i64 (if vlB v=true then 0 else 9))∧b'=kB n (mvF f (if vlB v=true then asW w p ⟨k,pe,ms,0,[]⟩ i v else w) p q)∧l'=l):=by
 refine ZD ZIw rfl (by decide) ?_
 intro B g hB hR hE hA;simp only[Zn]at hA
 rw[hb]at hB
 obtain⟨m,f',hm,hB1,hout⟩:=ZHd hn hB
 clear hB
 subst hB1
 rw[Zb]at hR
 have cB:=fun b l=>UN v b l
 obtain⟨F,hF⟩:∃F,mvF f' w p q=F:=⟨_,rfl⟩
 cases hv:vlB v
 ·rw[hv]at cB
  rw[if_neg (by simp),if_neg (by simp)]
  rw[hF]at hR⊢
  simp (disch:=first|decide|omega) only[a_masg,hA,ZC,cellsOf,go_sem]
  refine ZA.nxt (cB _ _) ?_
  simp (disch:=first|decide|omega) only[hA,go_sem]
  exact Qn (xs:=[.v (.int .i64 9)]) (.inr rfl) (by simp (disch:=first|decide|omega) only[ZE,ZY,go_sem,hA]) kO (by rw[Zb];exact hR) hb (by rw[←hF];exact hout w) ⟨rfl,rfl,rfl⟩
 rw[hv]at cB
 rw[if_pos rfl,if_pos rfl]
 obtain⟨w1,hw1⟩:∃w1,evW w p ⟨k,pe,ms,0,[⟨i,v⟩]⟩=w1:=⟨_,rfl⟩
 have cE:=fun l=>ZE7 f' w p q m oM hp hpt hsl htl hel ⟨k,pe,ms,0,[⟨i,v⟩]⟩ (kB m F) l (by rw[hF])
 rw[hw1]at cE
 obtain⟨F1,hF1⟩:∃F1,mvF f' w1 p q=F1:=⟨_,rfl⟩
 rw[hF1]at cE
 simp only[ZCz,List.map_cons,List.map_nil]at cE
 have hR1:Z8 m (kB m F1):=by rw[←hF1];exact ZD0 oM hR
 have e1:w1.sv=w.sv:=by rw[←hw1];rfl
 have e2:w1.net=w.net:=by rw[←hw1];rfl
 have e3:w1.tr.length=w.tr.length:=by rw[←hw1];exact YW
 have e4:w1.now=w.now:=by rw[←hw1];rfl
 have e5:w1.sent=w.sent:=by rw[←hw1];rfl
 obtain⟨s,hs⟩:∃s,w.sv.getD p dfSv=s:=⟨_,rfl⟩
 rw[hs]at hi hvl
 obtain⟨SV,hSV⟩:∃SV,VN w1 p (q+1)=SV:=⟨_,rfl⟩
 have hSl:SV.length=w.sv.length:=by rw[←hSV,YT,e1]
 have gS:SV[p]? = some [.v (.str s.name),.v (.isl 3 (s.code.map eIn)),.v (.int .i64 s.pc),.sl (q+1) 1 0 s.vars.length,.v (.int .i64 s.off),.v (.int .i64 s.rate)]:=by rw[←hSV,ZAM (by rw[e1];exact hp),e1,hs];rfl
 have f0:F1 q=.live w.sv.length 6 SV:=by rw[←hF1,ZGV,←hSV,←e1];rfl
 obtain⟨rows,hr⟩:∃rows,s.vars.map eI=rows:=⟨_,rfl⟩
 have hrl:rows.length=s.vars.length:=by rw[←hr,List.length_map]
 have hri:∀h:i<rows.length,rows[i]'h=[.int .i64 s.vars[i]]:=fun h=>by
  subst hr;rw[List.getElem_map];rfl
 have f1:F1 (q+1)=.live 1 1 (vs rows):=by rw[←hF1,ZHk,←hr,←hs,←e1];rfl
 have f4:F1 (q+4)=.live 0 9 [[.sl q w.sv.length 0 w.sv.length,.v (.int .i64 w.net.now),.v (.bool w.net.fifo),.v (.isl 4 (w.net.l.map eMs)),.v (.isl 1 (w.net.tm.map eI)),.v (.isl 2 (w.net.fates.map eFt)),.v (.int .i64 w.now),.v (.int .i64 w.sent),.sl (q+2) w.tr.length 0 w.tr.length]]:=by rw[←hF1,ZGU,←e1,←e2,←e3,←e4,←e5];rfl
 have gk:∀{j:Nat} {f:Nat→Row} {L:List Row},j<5→hget (kB m f) L (q+j)=some (f (q+j)):=fun hj=>J0 oM
 have kn:∀{j:Nat} {f:Nat→Row} {r:Row},j<5→YA (kB m f) (q+j) r=kB m (rUp f (q+j) r):=fun hj=>Vc oM
 have kl:∀{j:Nat} {f:Nat→Row} {r:Row} {L:List Row},j<5→YP (kB m f) L (q+j) r=L:=fun hj=>Vb oM
 have gk0:∀{f:Nat→Row} {L:List Row},hget (kB m f) L q=some (f q):=J0 oM
 rw[hF]at hR⊢
 simp (disch:=first|decide|omega) only[a_masg,hA,ZC,cellsOf,go_sem]
 refine ZA.nxt (cB _ _) ?_
 simp (disch:=first|decide|omega) only[hA,ZC,cellsOf,XZ,go_sem]
 refine ZA.frzB (i:=1) (ver:=0) (sz:=2) (rows:=[[.int .i64 i,.int .i64 v]]) (args':=[.ptr (q+4) 0 0 0,.v (.int .i64 p),.agg [.v (.int .i64 k),.v (.int .i64 pe),.v (.int .i64 ms),.v (.int .i64 0),.v (.isl 2 [[.int .i64 i,.int .i64 v]])]]) rfl (by simp[frz,Ja,Zb]) ?_
 refine ZA.nxt (cE _) ?_
 simp (disch:=first|decide|omega) only[hA,gk,gk0,f0,f1,f4,gS,hSl,hrl,hri,ZC,cellsOf,List.length_map,kn,kl,ZV,XZ,List.set_cons_zero,go_sem]
 have hfin:rUp F1 (q+1) (.live 1 1 (vs (rows.set i [.int .i64 v])))=mvF f' (asW w p ⟨k,pe,ms,0,[]⟩ i v) p q:=by
  have hw2:asW w p ⟨k,pe,ms,0,[]⟩ i v={w1 with sv:=w1.sv.set p (s.put i v)}:=by rw[←hw1,←hs];rfl
  have hg:({w1 with sv:=w1.sv.set p (s.put i v)}:Wd).sv.getD p dfSv=s.put i v:=by
   show (w1.sv.set p (s.put i v)).getD p dfSv=_
   rw[List.getD_eq_getElem?_getD,List.getElem?_set_self (by rw[e1];exact hp)];rfl
  rw[hw2]
  refine ZE5 ?_ ?_ ?_ ?_ ?_ (fun j hj=>?_)
  ·rw[ZV oM,←hF1,ZGV]
   unfold ZHh
   rw[←ZE3 (by rw[e1];exact hp)]
   have:svL (s.put i v) (q+1)=svL s (q+1):=by unfold svL Sv.put;simp
   rw[this]
   have h2:(VN w1 p (q+1)).set p (svL s (q+1))=VN w1 p (q+1):=by
    apply List.ext_getElem?
    intro j
    by_cases hj:p=j
    ·subst hj
     rw[List.getElem?_set_self (by rw[YT,e1];exact hp),ZAM (by rw[e1];exact hp),e1,hs]
    ·rw[List.getElem?_set_ne hj]
   rw[h2]
   congr 1
   simp
  ·rw[Yt]
   unfold ZGS
   rw[hg,←hr]
   unfold Sv.put
   simp only[List.map_set]
   rfl
  ·rw[ZV oM,←hF1,ZJK];rfl
  ·rw[ZV oM,←hF1,ZJJ];rfl
  ·rw[ZV oM,←hF1,ZGU]
   unfold ZJH mvC
   simp
  ·rw[ZV oM,←hF1,ZGT hj]
 rw[hfin]
 exact Qn (xs:=[.v (.int .i64 0)]) (.inr rfl) (by simp (disch:=first|decide|omega) only[ZE,ZY,go_sem,hA]) kO (by rw[Zb];rw[←hF1]at hR1;exact ZD0 oM hR1) hb (hout _) ⟨rfl,rfl,rfl⟩
theorem Xe {f' F:Nat→Row} {w:Wd} {p q:Nat} (hp:p<w.sv.length) (hpt:p<w.tr.length) (hF:mvF f' w p q=F) {s:Sv} (hs:w.sv.getD p dfSv=s) {SV:List (List AV)} (hSV:VN w p (q+1)=SV) :
  SV.length=w.sv.length∧SV[p]? = some [.v (.str s.name),.v (.isl 3 (s.code.map eIn)),.v (.int .i64 s.pc),.sl (q+1) 1 0 s.vars.length,.v (.int .i64 s.off),.v (.int .i64 s.rate)]∧F q=.live w.sv.length 6 SV∧F (q+1)=.live 1 1 (vs (s.vars.map eI)) ∧
  F (q+4)=.live 0 9 [[.sl q w.sv.length 0 w.sv.length,.v (.int .i64 w.net.now),.v (.bool w.net.fifo),.v (.isl 4 (w.net.l.map eMs)),.v (.isl 1 (w.net.tm.map eI)),.v (.isl 2 (w.net.fates.map eFt)),.v (.int .i64 w.now),.v (.int .i64 w.sent),.sl (q+2) w.tr.length 0 w.tr.length]]:=by
 subst hs;subst hSV;subst hF
 exact⟨YT,ZAM hp,ZGV,ZHk,ZGU⟩
theorem ZHc {f':Nat→Row} {w:Wd} {p q:Nat} {n:Nw} {k:Int}:rUp (mvF f' w p q) (q+4) (.live 0 9 [[.sl q w.sv.length 0 w.sv.length,.v (.int .i64 n.now),.v (.bool n.fifo),.v (.isl 4 (n.l.map eMs)),.v (.isl 1 (n.tm.map eI)),.v (.isl 2 (n.fates.map eFt)),.v (.int .i64 w.now),.v (.int .i64 k),.sl (q+2) w.tr.length 0 w.tr.length]])=mvF f' {w with net:=n,sent:=k} p q:=by
 refine ZE5 ?_ ?_ ?_ ?_ ?_ (fun j hj=>?_)
 ·rw[ZV oM,ZGV];rfl
 ·rw[ZV oM,ZHk];rfl
 ·rw[ZV oM,ZJK];rfl
 ·rw[ZV oM,ZJJ];rfl
 ·rw[Yt];rfl
 ·rw[ZV oM,ZGT hj]
def pcW (w:Wd) (p:Nat) (c:Int):Wd:={w with sv:=w.sv.set p {w.sv.getD p dfSv with pc:=c}}
theorem Up {f':Nat→Row} {w:Wd} {p q:Nat} {c:Int} (hp:p<w.sv.length) {s:Sv} (hs:w.sv.getD p dfSv=s):rUp (mvF f' w p q) q (.live w.sv.length 6 ((VN w p (q+1)).set p [.v (.str s.name),.v (.isl 3 (s.code.map eIn)),.v (.int .i64 c),.sl (q+1) 1 0 s.vars.length,.v (.int .i64 s.off),.v (.int .i64 s.rate)]))=mvF f' (pcW w p c) p q:=by
 have hg:(pcW w p c).sv.getD p dfSv={s with pc:=c}:=by
  show (w.sv.set p {w.sv.getD p dfSv with pc:=c}).getD p dfSv=_
  rw[List.getD_eq_getElem?_getD,List.getElem?_set_self hp,hs];rfl
 refine ZE5 ?_ ?_ ?_ ?_ ?_ (fun j hj=>?_)
 ·rw[Yt]
  have:=ZE3 (id:=q+1) (s:={s with pc:=c}) hp
  unfold ZHh
  have e:pcW w p c={w with sv:=w.sv.set p {s with pc:=c}}:=by unfold pcW;rw[hs]
  rw[e,←this]
  congr 1
  simp
 ·rw[ZV oM,ZHk]
  unfold ZGS
  rw[hg,hs]
 ·rw[ZV oM,ZJK];rfl
 ·rw[ZV oM,ZJJ];rfl
 ·rw[ZV oM,ZGU]
  unfold ZJH mvC pcW
  simp
 ·rw[ZV oM,ZGT hj]
theorem mv_tr {m p q:Nat} {f':Nat→Row} {w:Wd} {L:List Row} (hm:q+5≤m) (hp:p<w.sv.length) (hpt:p<w.tr.length):Dv 0 (kB m (mvF f' w p q)++L) (.sl (q+2) w.tr.length 0 w.tr.length) (.v (.isl 3 (w.tr.map ePr))):=by
 have g:∀j r,j<m→mvF f' w p q j=r→(kB m (mvF f' w p q)++L)[j]? = some r:=fun j r hj h=>by
  rw[List.getElem?_append_left (by rw[Zb];exact hj),JZ hj,h]
 have:=ZLs (n:=0) (i:=q) (l:=kB m (mvF f' w p q)++L) hp hpt (g _ _ oM (by rw[Nat.zero_add];exact ZGV)) (g _ _ oM ZHk) (g _ _ oM (by rw[Nat.zero_add];exact ZJK)) (g _ _ oM ZJJ)
 rw[Nat.zero_add]at this
 cases this with
 |agg _ _ _ h=>exact h 8 _ _ rfl rfl
theorem ZHm (f:Nat→Row) (w:Wd) (p q n:Nat) (hn:q+5≤n) (hp:p<w.sv.length) (hpt:p<w.tr.length) (hsl:w.sv.length≤1000000) (htl:w.tr.length≤1000000) (hel:(w.tr.getD p dfPr).evs.length≤1000000) (x:In) (i:Nat) (hxi:x.a=i) (hi:i<(w.sv.getD p dfSv).vars.length) (hvl:(w.sv.getD p dfSv).vars.length≤1000000) (hsn:0≤w.sent∧w.sent≤1000)
  (hv:nwB w.net=true) (hm:msB (VA w p (w.sv.getD p dfSv) x)=true) (b l:List Row) (hb:b=kB n (mvF f w p q)) :
  ZA Tryz.prog 137 [.ptr (q+4) 0 0 0,.v (.int .i64 p),.agg [.v (.int .i64 x.op),.v (.int .i64 x.a),.v (.int .i64 x.b)]] b l
   (fun r b' l'=>r=.v (.int .i64 (sdE w.net (VA w p (w.sv.getD p dfSv) x)))∧b'=kB n (mvF f (if sdE w.net (VA w p (w.sv.getD p dfSv) x)=0 then evW {w with net:=sdR w.net (VA w p (w.sv.getD p dfSv) x),sent:=w.sent+1} p ⟨2,x.b,w.sent,0,[]⟩ else w) p q)∧l'=l):=by
 refine ZD ZIu rfl (by decide) ?_
 intro B g hB hR hE hA;simp only[Zn]at hA
 rw[hb]at hB
 obtain⟨m,f',hm0,hB1,hout⟩:=ZHd hn hB
 clear hB
 subst hB1
 rw[Zb]at hR
 obtain⟨s,hs⟩:∃s,w.sv.getD p dfSv=s:=⟨_,rfl⟩
 obtain⟨SV,hSV⟩:∃SV,VN w p (q+1)=SV:=⟨_,rfl⟩
 obtain⟨F,hF⟩:∃F,mvF f' w p q=F:=⟨_,rfl⟩
 obtain⟨hSl,gS,f0,f1,f4⟩:=Xe hp hpt hF hs hSV
 rw[hs]at hi hvl hm⊢
 have gk:∀{j:Nat} {f:Nat→Row} {L:List Row},j<5→hget (kB m f) L (q+j)=some (f (q+j)):=fun hj=>J0 oM
 have kn:∀{j:Nat} {f:Nat→Row} {r:Row},j<5→YA (kB m f) (q+j) r=kB m (rUp f (q+j) r):=fun hj=>Vc oM
 have kl:∀{j:Nat} {f:Nat→Row} {r:Row} {L:List Row},j<5→YP (kB m f) L (q+j) r=L:=fun hj=>Vb oM
 have gk0:∀{f:Nat→Row} {L:List Row},hget (kB m f) L q=some (f q):=J0 oM
 have hgv:=Jy hi
 obtain⟨u,huu⟩:∃u,s.vars.getD i 0=u:=⟨_,rfl⟩
 rw[huu]at hgv
 obtain⟨mg,hmg⟩:∃mg,VA w p s x=mg:=⟨_,rfl⟩
 have hmd:mg=⟨p,x.b,w.sent,[u]⟩:=by rw[←hmg];unfold VA;rw[hxi,Int.toNat_natCast,huu]
 rw[hmg]at hm⊢
 have cS:∀b l,ZA Tryz.prog 169 [.agg ((eNw w.net).map .v),.agg [.v (.int .i64 p),.v (.int .i64 x.b),.v (.int .i64 w.sent),.v (.isl 1 [[.int .i64 u]])]] b l (fun r b' l'=>r=.tup [nwA (sdR w.net mg),.v (.int .i64 (sdE w.net mg))]∧b'=b∧l'=l):=fun b l=>by
  have:=ZFX w.net mg b l
  have e2:ZEP w.net mg=sdE w.net mg:=by unfold ZEP;rw[if_pos hv,if_pos hm]
  have e1:ZMg w.net mg=sdR w.net mg:=by unfold ZMg sdR;rw[e2]
  rw[e1,e2,hmd]at this
  rw[hmd]
  exact this
 obtain⟨n2,hn2⟩:∃n2,sdR w.net mg=n2:=⟨_,rfl⟩
 obtain⟨er,her⟩:∃er,sdE w.net mg=er:=⟨_,rfl⟩
 rw[hn2,her]at cS
 rw[her,hn2]
 simp only[eNw,nwA,List.map_cons,List.map_nil]at cS
 have hge:∀h:i<s.vars.length,eI (s.vars[i]'h)=[.int .i64 u]:=fun h=>by rw[←huu,ZF h];rfl
 have hws:IntKind.i64.wrap (w.sent+1)=w.sent+1:=Z7 oM oM
 rw[hF]at hR⊢
 simp (disch:=first|decide|omega) only[a_msnd,hA,gk,gk0,f0,f1,f4,gS,hSl,hxi,hgv,ZC,cellsOf,List.length_map,go_sem]
 refine ZA.frzB (i:=1) (ver:=0) (sz:=1) (rows:=[[.int .i64 u]]) (args':=[.agg [.v (.int .i64 w.net.now),.v (.bool w.net.fifo),.v (.isl 4 (w.net.l.map eMs)),.v (.isl 1 (w.net.tm.map eI)),.v (.isl 2 (w.net.fates.map eFt))],.agg [.v (.int .i64 p),.v (.int .i64 x.b),.v (.int .i64 w.sent),.v (.isl 1 [[.int .i64 u]])]]) rfl (by simp[frz,Ja,Zb]) ?_
 refine ZA.nxt (cS _ _) ?_
 by_cases he:er=0
 ·have e0:(er != 0)=false:=by simpa using he
  rw[if_pos he]
  simp (disch:=first|decide|omega) only[hA,e0,gk,gk0,f0,f1,f4,gS,hSl,hxi,hgv,hge,hws,ZC,cellsOf,List.length_map,kn,kl,ZV,XZ,go_sem]
  obtain⟨w1,hw1⟩:∃w1:Wd,({w with net:=n2,sent:=w.sent+1}:Wd)=w1:=⟨_,rfl⟩
  have hs2:rUp (mvF f' {w with net:=n2} p q) (q+4) (.live 0 9 [[.sl q w.sv.length 0 w.sv.length,.v (.int .i64 n2.now),.v (.bool n2.fifo),.v (.isl 4 (n2.l.map eMs)),.v (.isl 1 (n2.tm.map eI)),.v (.isl 2 (n2.fates.map eFt)),.v (.int .i64 w.now),.v (.int .i64 (w.sent+1)),.sl (q+2) w.tr.length 0 w.tr.length]])=mvF f' w1 p q:=by
   rw[←hw1];exact ZHc (w:={w with net:=n2})
  rw[←hF,ZHc,hs2]
  have cE:=fun l=>ZAO f' w1 p q m oM (by rw[←hw1];exact hp) (by rw[←hw1];exact hpt) (by rw[←hw1];exact hsl) (by rw[←hw1];exact htl) (by rw[←hw1];exact hel) 2 x.b w.sent (kB m (mvF f' w1 p q)) l rfl
  refine ZA.nxt (cE _) ?_
  simp (disch:=first|decide|omega) only[hA,go_sem]
  rw[he,hw1]
  exact Qn (xs:=[.v (.int .i64 0)]) (.inr rfl) (by simp (disch:=first|decide|omega) only[ZE,ZY,go_sem,hA]) kO (by rw[Zb];rw[←hF]at hR;exact ZD0 oM hR) hb (hout _) ⟨rfl,rfl,rfl⟩
 ·have e0:(er != 0)=true:=by simpa using he
  rw[if_neg he]
  simp (disch:=first|decide|omega) only[hA,e0,gk,gk0,f0,f1,f4,gS,hSl,hxi,hgv,hge,ZC,cellsOf,List.length_map,go_sem]
  exact Qn (xs:=[.v (.int .i64 er)]) (.inr rfl) (by simp (disch:=first|decide|omega) only[ZE,ZY,go_sem,hA]) kO (by rw[Zb];exact hR) hb (by rw[←hF];exact hout w) ⟨rfl,rfl,rfl⟩
theorem ZHn (f:Nat→Row) (w:Wd) (p q n:Nat) (hn:q+5≤n) (hp:p<w.sv.length) (hpt:p<w.tr.length) (hS:Small w.tr) (hN:Nm w.tr) (hsl:w.sv.length≤1000000) (x:In) (i:Nat) (hxi:x.a=i) (hi:i<(w.sv.getD p dfSv).vars.length) (hvl:(w.sv.getD p dfSv).vars.length≤1000000)
  (hv:nwB w.net=true) (hpo:ptB p=true) (k:Nat) (hk:fiR w.net p=k) (mg:Ms) (hmg:w.net.l.getD k dfMs=mg) (v:Int) (hbd:mg.body=[v]) (hvv:vlB v=true) (b l:List Row) (hb:b=kB n (mvF f w p q)) :
  ZA Tryz.prog 138 [.ptr (q+4) 0 0 0,.v (.int .i64 p),.agg [.v (.int .i64 x.op),.v (.int .i64 x.a),.v (.int .i64 x.b)]] b l
   (fun r b' l'=>r=.v (.bool (!decide (0<(Qs w.tr 3 mg.nu).2)))∧b'=kB n (mvF f (if 0<(Qs w.tr 3 mg.nu).2 then evW {w with net:=woN w.net k} p ⟨1,0,0,0,[]⟩ else asW {w with net:=woN w.net k} p ⟨3,mg.fr,mg.nu,0,[]⟩ i v) p q)∧l'=l):=by
 refine ZD ZIv rfl (by decide) ?_
 intro B g hB hR hE hA;simp only[Zn]at hA
 rw[hb]at hB
 obtain⟨m,f',hm0,hB1,hout⟩:=ZHd hn hB
 clear hB
 subst hB1
 rw[Zb]at hR
 obtain⟨s,hs⟩:∃s,w.sv.getD p dfSv=s:=⟨_,rfl⟩
 obtain⟨SV,hSV⟩:∃SV,VN w p (q+1)=SV:=⟨_,rfl⟩
 obtain⟨F,hF⟩:∃F,mvF f' w p q=F:=⟨_,rfl⟩
 obtain⟨hSl,gS,f0,f1,f4⟩:=Xe hp hpt hF hs hSV
 have gk:∀{j:Nat} {f:Nat→Row} {L:List Row},j<5→hget (kB m f) L (q+j)=some (f (q+j)):=fun hj=>J0 oM
 have kn:∀{j:Nat} {f:Nat→Row} {r:Row},j<5→YA (kB m f) (q+j) r=kB m (rUp f (q+j) r):=fun hj=>Vc oM
 have kl:∀{j:Nat} {f:Nat→Row} {r:Row} {L:List Row},j<5→YP (kB m f) L (q+j) r=L:=fun hj=>Vb oM
 have gk0:∀{f:Nat→Row} {L:List Row},hget (kB m f) L q=some (f q):=J0 oM
 have he:rcE w.net p=0:=by unfold rcE;rw[if_pos hv,if_pos hpo,if_neg oM]
 have hkk:(fiR w.net p).toNat=k:=by rw[hk];rfl
 have hNN:rcN w.net p=woN w.net k:=by unfold rcN;rw[if_pos he,hkk]
 have hMm:rcM w.net p=mg:=by unfold rcM;rw[if_pos he,hkk,hmg]
 have cR:=fun b l=>ZFY w.net p b l
 rw[he,hNN,hMm]at cR
 obtain⟨n2,hn2⟩:∃n2,woN w.net k=n2:=⟨_,rfl⟩
 rw[hn2]at cR⊢
 simp only[eNw,nwA,eMs,hbd,List.map_cons,List.map_nil,eI]at cR
 have hnet:∀F0:Nat→Row,F0=mvF f' w p q→rUp F0 (q+4) (.live 0 9 [[.sl q w.sv.length 0 w.sv.length,.v (.int .i64 n2.now),.v (.bool n2.fifo),.v (.isl 4 (n2.l.map eMs)),.v (.isl 1 (n2.tm.map eI)),.v (.isl 2 (n2.fates.map eFt)),.v (.int .i64 w.now),.v (.int .i64 w.sent),.sl (q+2) w.tr.length 0 w.tr.length]])=mvF f' {w with net:=n2} p q:=fun F0 h=>by rw[h];exact ZHc
 obtain⟨w1,hw1⟩:∃w1:Wd,({w with net:=n2}:Wd)=w1:=⟨_,rfl⟩
 rw[hw1]at hnet⊢
 have e1:w1.sv=w.sv:=by rw[←hw1]
 have e3:w1.tr=w.tr:=by rw[←hw1]
 have htl:=hS.np
 have hel:(w1.tr.getD p dfPr).evs.length≤1000000:=by rw[e3,ZF hpt];exact hS.ne _ (List.getElem_mem hpt)
 have cE:=fun l=>ZAO f' w1 p q m oM (by rw[e1];exact hp) (by rw[e3];exact hpt) (by rw[e1];exact hsl) (by rw[e3];exact htl) hel 1 0 0 (kB m (mvF f' w1 p q)) l rfl
 have cA:=fun l=>ZC1 f' w1 p q m oM (by rw[e1];exact hp) (by rw[e3];exact hpt) (by rw[e1];exact hsl) (by rw[e3];exact htl) hel 3 mg.fr mg.nu i (by rw[e1];exact hi) (by rw[e1];exact hvl) v (kB m (mvF f' w1 p q)) l rfl
 rw[if_pos hvv,if_pos hvv]at cA
 have cF:∀l,ZA Tryz.prog 171 [.agg [.sl (q+2) w.tr.length 0 w.tr.length],.v (.int .i64 mg.nu)] (kB m (mvF f' w1 p q)) l (fun r b' l'=>r=.tup [idA (Qs w.tr 3 mg.nu),.v (.bool (decide (0<(Qs w.tr 3 mg.nu).2)))]∧b'=kB m (mvF f' w1 p q)∧l'=l):=fun l =>
  ZA.peek (args':=[.agg [.v (eT w.tr)],.v (.int .i64 mg.nu)]) rfl (fun i z y hz hy=>by
   match i,hz,hy with
   |0,hz,hy =>
     cases hz;cases hy
     refine Dv.aggL (.cons ?_ .nil)
     have:=mv_tr (m:=m) (f':=f') (w:=w1) (p:=p) (q:=q) (L:=l) oM (by rw[e1];exact hp) (by rw[e3];exact hpt)
     rw[e3]at this
     exact this
   |1,hz,hy=>cases hz;cases hy;exact .v _) (.tup fun c hc=>by
   simp only[List.mem_cons,List.not_mem_nil,or_false]at hc
   rcases hc with rfl|rfl
   ·exact .agg fun c hc=>by
     simp only[List.mem_cons,List.not_mem_nil,or_false]at hc
     rcases hc with rfl|rfl<;>exact .int
   ·exact .bool) (ZB1 w.tr hS hN _ _ mg.nu)
 simp only[idA]at cF
 rw[hF]at hR⊢
 have hnetF:=hnet F hF.symm
 have g4:mvF f' w1 p q (q+4)=.live 0 9 [[.sl q w.sv.length 0 w.sv.length,.v (.int .i64 n2.now),.v (.bool n2.fifo),.v (.isl 4 (n2.l.map eMs)),.v (.isl 1 (n2.tm.map eI)),.v (.isl 2 (n2.fates.map eFt)),.v (.int .i64 w.now),.v (.int .i64 w.sent),.sl (q+2) w.tr.length 0 w.tr.length]]:=by rw[ZGU,←hw1];rfl
 simp (disch:=first|decide|omega) only[a_mrcv,hA,gk,gk0,f0,f4,ZC,cellsOf,List.length_map,go_sem]
 refine ZA.nxt (cR _ _) ?_
 simp (disch:=first|decide|omega) only[hA,gk,gk0,f0,f4,ZC,cellsOf,List.length_map,kn,kl,ZV,XZ,go_sem]
 rw[hnetF]
 refine ZA.nxt (cF _) ?_
 by_cases ha:0<(Qs w.tr 3 mg.nu).2
 ·have d1:decide (0<(Qs w.tr 3 mg.nu).2)=true:=decide_eq_true ha
  rw[if_pos ha,d1]
  simp (disch:=first|decide|omega) only[hA,gk,gk0,g4,ZC,cellsOf,List.length_map,XZ,go_sem]
  refine ZA.nxt (Xh _ _) ?_
  simp (disch:=first|decide|omega) only[hA,go_sem]
  refine ZA.nxt (cE _) ?_
  simp (disch:=first|decide|omega) only[hA,go_sem]
  exact Qn (xs:=[.v (.bool false)]) (.inr rfl) (by simp (disch:=first|decide|omega) only[ZE,ZY,go_sem,hA]) kO (by rw[Zb];rw[←hF]at hR;exact ZD0 oM hR) hb (hout _) ⟨rfl,rfl,rfl⟩
 ·have d1:decide (0<(Qs w.tr 3 mg.nu).2)=false:=decide_eq_false ha
  rw[if_neg ha,d1]
  have h00:Int.toNat 0=0:=rfl
  simp (disch:=first|decide|omega) only[hA,hxi,gk,gk0,g4,h00,ZC,cellsOf,List.length_map,XZ,go_sem]
  refine ZA.nxt (cA _) ?_
  simp (disch:=first|decide|omega) only[hA,go_sem]
  exact Qn (xs:=[.v (.bool true)]) (.inr rfl) (by simp (disch:=first|decide|omega) only[ZE,ZY,go_sem,hA]) kO (by rw[Zb];rw[←hF]at hR;exact ZD0 oM hR) hb (hout _) ⟨rfl,rfl,rfl⟩
end Go.Proofs.YtoccdlnoaindmaaGreatDoor
namespace Go.Proofs.YtoccdlnoaindmaaGreatDoor
set_option linter.unusedVariables false
set_option linter.unusedSimpArgs false
structure NewEv (t:Tr) (p:Nat) (e:Ev):Prop where
 v:Vok t
 hp:p<t.length
 room:(Zc t p).length<64
 form:QN t.length p e=true
 tm:inB e.time 0 1099511627776=true
 last:∀i,(Zc t p).length=i+1→((Zc t p).getD i ZA8).time≤e.time
 al:e.asg.length≤8
 af:Q0 (ZBV (t.getD p dfPr).vars.length e.asg) e.asg.length=0
 snd:e.kind=2→∀x∈ids t,(Zm t x).kind=2→(Zm t x).msg≠e.msg
 rcv:e.kind=3→(∀x∈ids t,(Zm t x).kind=3→(Zm t x).msg≠e.msg)∧Yn t e.peer.toNat e.msg p=true
theorem Ju {t:Tr} {p:Nat} {e:Ev}:(Qm t p e).length=t.length:=by unfold Qm;simp
theorem Uj {t:Tr} {p:Nat} {e:Ev} (hp:p<t.length):(Qm t p e).getD p dfPr={t.getD p dfPr with evs:=Zc t p++[e]}:=by
 rw[List.getD_eq_getElem?_getD,ZEL e hp,ZF hp,Yc hp];rfl
theorem Ku {t:Tr} {p q:Nat} {e:Ev} (h:p≠q):(Qm t p e).getD q dfPr=t.getD q dfPr:=by
 rw[List.getD_eq_getElem?_getD,ZEK e h,List.getD_eq_getElem?_getD]
theorem UQ {t:Tr} {p:Nat} {e:Ev} (hp:p<t.length):Zc (Qm t p e) p=Zc t p++[e]:=by
 show ((Qm t p e).getD p dfPr).evs=_
 rw[Uj hp]
theorem ZAu {t:Tr} {p q:Nat} {e:Ev} (h:p≠q):Zc (Qm t p e) q=Zc t q:=by
 show ((Qm t p e).getD q dfPr).evs=_
 rw[Ku h];rfl
theorem UP {t:Tr} {p:Nat} {e:Ev} (hp:p<t.length) {x:Nat×Nat}:x∈ids (Qm t p e)↔x∈ids t∨x=(p,(Zc t p).length+1):=by
 obtain⟨q,i⟩:=x
 cases i with
 |zero =>
   constructor
   ·intro h;have:=JF h;simp only at this;omega
   ·rintro (h|h)
    ·have:=JF h;simp only at this;omega
    ·have:=congrArg Prod.snd h;simp only at this;omega
 |succ i =>
   rw[Xp,Xp,Ju]
   by_cases hq:p=q
   ·subst hq
    rw[UQ hp,List.length_append,List.length_singleton]
    constructor
    ·rintro⟨_,h⟩
     rcases Nat.lt_or_ge i (Zc t p).length with h2|h2
     ·exact .inl ⟨hp,h2⟩
     ·exact .inr (by rw[show i=(Zc t p).length by omega])
    ·rintro (⟨_,h⟩|h)
     ·exact⟨hp,by omega⟩
     ·have:=congrArg Prod.snd h;simp only at this;exact⟨hp,by omega⟩
   ·rw[ZAu hq]
    constructor
    ·exact fun h=>.inl h
    ·rintro (h|h)
     ·exact h
     ·exact absurd (congrArg Prod.fst h).symm hq
theorem ZM8 {t:Tr} {p:Nat}:(p,(Zc t p).length+1)∉ids t:=fun h=>by
 have:=(Xp.1 h).2;omega
theorem Vm {t:Tr} {p:Nat} {e:Ev} (hp:p<t.length) {x:Nat×Nat} (hx:x∈ids t):Zm (Qm t p e) x=Zm t x:=by
 obtain⟨q,i⟩:=x
 obtain⟨i,rfl⟩:∃k,i=k+1:=⟨i-1,by have:=JF hx;simp only at this;omega⟩
 obtain⟨_,h2⟩:=Xp.1 hx
 unfold Zm
 simp only[Nat.add_sub_cancel]
 by_cases hq:p=q
 ·subst hq
  rw[UQ hp,List.getD_eq_getElem?_getD,List.getElem?_append_left h2,List.getD_eq_getElem?_getD]
 ·rw[ZAu hq]
theorem UR {t:Tr} {p:Nat} {e:Ev} (hp:p<t.length):Zm (Qm t p e) (p,(Zc t p).length+1)=e:=by
 unfold Zm
 simp only[Nat.add_sub_cancel]
 rw[UQ hp,List.getD_eq_getElem?_getD,List.getElem?_append_right (Nat.le_refl _),Nat.sub_self];rfl
theorem VU {t:Tr} {k m:Int} {x:Nat×Nat} (h:Xc t k m=some x):x∈ids t:=List.mem_of_find?_eq_some h
theorem ZMH {t:Tr} {k m:Int} (h:∀z∈ids t,(Zm t z).kind=k→(Zm t z).msg≠m):Xc t k m=none:=by
 cases hf:Xc t k m with
 |none=>rfl
 |some z=>exact absurd (YE hf).2 (h z (VU hf) (YE hf).1)
theorem ZIN {t:Tr} {k m:Int} {x:Nat×Nat} (hx:x∈ids t) (hk:(Zm t x).kind=k) (hm:(Zm t x).msg=m) (hu:∀z∈ids t,(Zm t z).kind=k→(Zm t z).msg=m→z=x):Xc t k m=some x:=by
 cases hf:Xc t k m with
 |none =>
   have:=List.find?_eq_none.1 hf x hx
   rw[hk,hm]at this;simp at this
 |some z=>rw[hu z (VU hf) (YE hf).1 (YE hf).2]
theorem NewEv.fresh {t:Tr} {p:Nat} {e:Ev} (h:NewEv t p e) {k:Int} (hk:k=2∨k=3) (he:e.kind=k) {x:Nat×Nat} (hx:x∈ids t) (hxk:(Zm t x).kind=k):(Zm t x).msg≠e.msg:=by
 rcases hk with rfl|rfl
 ·exact h.snd he x hx hxk
 ·exact (h.rcv he).1 x hx hxk
theorem VD {t:Tr} {p:Nat} {e:Ev} (h:NewEv t p e) {k m:Int} (hk:k=2∨k=3):Xc (Qm t p e) k m=if e.kind=k∧e.msg=m then some (p,(Zc t p).length+1) else Xc t k m:=by
 have hp:=h.hp
 split
 ·rename_i hc
  obtain⟨h1,h2⟩:=hc
  refine ZIN ((UP hp).2 (.inr rfl)) (by rw[UR hp];exact h1) (by rw[UR hp];exact h2) (fun z hz hzk hzm=>?_)
  rcases (UP hp).1 hz with hz|hz
  ·rw[Vm hp hz]at hzk hzm
   exact absurd (hzm.trans h2.symm) (h.fresh hk h1 hz hzk)
  ·exact hz
 ·rename_i hc
  cases hf:Xc t k m with
  |none =>
    refine ZMH (fun z hz hzk hzm=>?_)
    rcases (UP hp).1 hz with hz|hz
    ·rw[Vm hp hz]at hzk hzm
     have:=List.find?_eq_none.1 hf z hz
     rw[hzk,hzm]at this;simp at this
    ·rw[hz,UR hp]at hzk hzm
     exact hc ⟨hzk,hzm⟩
  |some x =>
    have hx:=VU hf
    obtain⟨k1,k2⟩:=YE hf
    refine ZIN ((UP hp).2 (.inl hx)) (by rw[Vm hp hx];exact k1) (by rw[Vm hp hx];exact k2) (fun z hz hzk hzm=>?_)
    rcases (UP hp).1 hz with hz|hz
    ·rw[Vm hp hz]at hzk hzm
     have:=ZA1 h.v hz hk hzk
     rw[hzm,hf]at this
     exact (Option.some.inj this).symm
    ·rw[hz,UR hp]at hzk hzm
     exact absurd ⟨hzk,hzm⟩ hc
theorem ZEM {t:Tr} {p q:Nat} {e:Ev} (hp:p<t.length) {m to:Int} (h:Yn t q m to=true):Yn (Qm t p e) q m to=true:=by
 unfold Yn at h⊢
 by_cases hq:p=q
 ·subst hq
  rw[UQ hp,List.any_append,h];rfl
 ·rw[ZAu hq];exact h
theorem ZLJ {t:Tr} {p:Nat} {e:Ev} (h:NewEv t p e) {x:Nat×Nat} (hx:x∈ids (Qm t p e)):Xq (Qm t p e) x=0:=by
 have hp:=h.hp
 rcases (UP hp).1 hx with hx|hx
 ·have h0:=h.v.form x hx
  obtain⟨q,i⟩:=x
  obtain⟨i,rfl⟩:∃k,i=k+1:=⟨i-1,by have:=JF hx;simp only at this;omega⟩
  obtain⟨_,h2⟩:=Xp.1 hx
  have hl:ZAl (Qm t p e) (q,i+1)=ZAl t (q,i+1):=by
   unfold ZAl
   by_cases hc:1<i+1
   ·rw[if_pos (show 1<(q,i+1).2 from hc),if_pos (show 1<(q,i+1).2 from hc)]
    simp only
    by_cases hq:p=q
    ·subst hq
     rw[UQ hp,List.getD_eq_getElem?_getD,List.getElem?_append_left oM,List.getD_eq_getElem?_getD]
    ·rw[ZAu hq]
   ·rw[if_neg (show ¬1<(q,i+1).2 from hc),if_neg (show ¬1<(q,i+1).2 from hc)]
  have hg:((Qm t p e).getD q dfPr).vars=(t.getD q dfPr).vars:=by
   by_cases hq:p=q
   ·subst hq;rw[Uj hp]
   ·rw[Ku hq]
  unfold Xq at h0⊢
  rw[Vm hp hx,Ju,hl]
  simp only at h0⊢
  rw[hg]
  exact h0
 ·rw[hx,ZC6,UR hp,Ju]
  refine⟨h.form,h.tm,?_,h.al,?_⟩
  ·unfold ZAl
   by_cases hc:1<(Zc t p).length+1
   ·rw[if_pos (show 1<(p,(Zc t p).length+1).2 from hc)]
    simp only
    obtain⟨i,hi⟩:∃i,(Zc t p).length=i+1:=⟨(Zc t p).length-1,by omega⟩
    rw[UQ hp,List.getD_eq_getElem?_getD,List.getElem?_append_left oM,←List.getD_eq_getElem?_getD,hi,show i+1+1-2=i by omega]
    have:=h.last i hi
    omega
   ·rw[if_neg (show ¬1<(p,(Zc t p).length+1).2 from hc)]
    have:=h.tm
    unfold inB at this
    simp only[Bool.and_eq_true,decide_eq_true_eq]at this
    omega
  ·simp only
   rw[Uj hp]
   exact h.af
theorem ZLH {t:Tr} {p:Nat} {e:Ev} (h:NewEv t p e) {x:Nat×Nat} (hx:x∈ids (Qm t p e)):Y7 (Qm t p e) x=0:=by
 have hp:=h.hp
 rcases (UP hp).1 hx with hx|hx
 ·have h0:=h.v.pair x hx
  have hev:=Vm (e:=e) hp hx
  unfold Y7 at h0⊢
  rw[hev]
  by_cases k2:(Zm t x).kind=2
  ·have hf:=ZA1 h.v hx (.inl rfl) k2
   have hc:¬(e.kind=2∧e.msg=(Zm t x).msg):=fun hc=>h.fresh (.inl rfl) hc.1 hx k2 hc.2.symm
   rw[VD h (.inl rfl),if_neg hc]
   rw[hf,k2];simp
  ·by_cases k3:(Zm t x).kind=3
   ·have hf:=ZA1 h.v hx (.inr rfl) k3
    have hc:¬(e.kind=3∧e.msg=(Zm t x).msg):=fun hc=>h.fresh (.inr rfl) hc.1 hx k3 hc.2.symm
    rw[VD h (.inr rfl),if_neg hc]
    rw[hf,k3]at h0⊢
    simp only[show ((3:Int)==2)=false from rfl,show ((3:Int)==3)=true from rfl,beq_self_eq_true,if_true,Bool.false_eq_true,if_false]at h0⊢
    cases hs:Yn t (Zm t x).peer.toNat (Zm t x).msg x.1 with
    |true=>rw[ZEM hp hs];rfl
    |false=>rw[hs]at h0;simp at h0
   ·have e2:((Zm t x).kind==2)=false:=beq_eq_false_iff_ne.2 k2
    have e3:((Zm t x).kind==3)=false:=beq_eq_false_iff_ne.2 k3
    rw[e2,e3];rfl
 ·rw[hx]
  unfold Y7
  rw[UR hp]
  by_cases k2:e.kind=2
  ·have hf:=VD h (.inl rfl) (m:=e.msg)
   rw[if_pos ⟨k2,rfl⟩]at hf
   rw[hf,k2];simp
  ·by_cases k3:e.kind=3
   ·have hf:=VD h (.inr rfl) (m:=e.msg)
    rw[if_pos ⟨k3,rfl⟩]at hf
    rw[hf,k3]
    simp only
    rw[ZEM hp (h.rcv k3).2];simp
   ·have e2:(e.kind==2)=false:=beq_eq_false_iff_ne.2 k2
    have e3:(e.kind==3)=false:=beq_eq_false_iff_ne.2 k3
    rw[e2,e3];rfl
theorem ZKi {t:Tr} {p:Nat} {e:Ev} (h:NewEv t p e) {z:Nat×Nat}:¬Dir (Qm t p e) (p,(Zc t p).length+1) z:=by
 have hp:=h.hp
 rintro (⟨_,h2⟩|⟨h1,h2⟩)
 ·simp only at h2
  rw[UQ hp,List.length_append,List.length_singleton]at h2;omega
 ·rw[UR hp]at h1 h2
  rw[VD h (.inr rfl),if_neg oM]at h2
  have hz:=VU h2
  obtain⟨k1,k2⟩:=YE h2
  obtain⟨_,y,hy⟩:=h.v.paired.recv hz k1
  obtain⟨k3,k4⟩:=YE hy
  exact h.snd h1 y (VU hy) k3 (k4.trans k2)
theorem tp_dir {t:Tr} {p:Nat} {e:Ev} (h:NewEv t p e) {x z:Nat×Nat} (hx:x∈ids t) (hd:Dir (Qm t p e) x z):Dir t x z∨z=(p,(Zc t p).length+1):=by
 have hp:=h.hp
 rcases hd with ⟨h1,h2⟩|⟨h1,h2⟩
 ·by_cases hq:p=x.1
  ·obtain⟨q,i⟩:=x
   simp only at hq h1 h2
   subst hq
   rw[UQ hp,List.length_append,List.length_singleton]at h2
   rcases Nat.lt_or_ge i (Zc t p).length with h3|h3
   ·exact .inl (.inl ⟨h1,h3⟩)
   ·exact .inr (by rw[h1,show i=(Zc t p).length by omega])
  ·rw[ZAu hq]at h2
   exact .inl (.inl ⟨h1,h2⟩)
 ·rw[Vm hp hx]at h1 h2
  rw[VD h (.inr rfl)]at h2
  split at h2
  ·exact .inr (Option.some.inj h2).symm
  ·exact .inl (.inr ⟨h1,h2⟩)
theorem ZKz {t:Tr} {x z:Nat×Nat} (hx:x∈ids t) (hd:Dir t x z):z∈ids t:=by
 rcases hd with ⟨h1,h2⟩|⟨_,h2⟩
 ·obtain⟨q,i⟩:=x
  have:=(XW.1 hx).1
  rw[h1]
  exact Xp.2 ⟨this,h2⟩
 ·exact VU h2
theorem tp_hb {t:Tr} {p:Nat} {e:Ev} (h:NewEv t p e) {x z:Nat×Nat} (hx:x∈ids t) (hh:Hb (Qm t p e) x z):(z∈ids t∧Hb t x z)∨z=(p,(Zc t p).length+1):=by
 induction hh with
 |one hd =>
   rcases tp_dir h hx hd with hd|hd
   ·exact .inl ⟨ZKz hx hd,.one hd⟩
   ·exact .inr hd
 |more _ hd ih =>
   rcases ih with ⟨h1,h2⟩|h1
   ·rcases tp_dir h h1 hd with hd|hd
    ·exact .inl ⟨ZKz h1 hd,.more h2 hd⟩
    ·exact .inr hd
   ·rw[h1]at hd
    exact absurd hd (ZKi h)
theorem tp_no {t:Tr} {p:Nat} {e:Ev} (h:NewEv t p e) {x z:Nat×Nat} (hx:x=(p,(Zc t p).length+1)) (hh:Hb (Qm t p e) x z):False:=by
 induction hh with
 |one hd=>rw[hx]at hd;exact ZKi h hd
 |more _ _ ih=>exact ih
theorem ZJU {t:Tr} {p:Nat} {e:Ev} (q:Nat):((Qm t p e).getD q dfPr).name=(t.getD q dfPr).name∧((Qm t p e).getD q dfPr).vars=(t.getD q dfPr).vars:=by
 by_cases hq:p=q
 ·subst hq
  by_cases hp:p<t.length
  ·rw[Uj hp];exact⟨rfl,rfl⟩
  ·rw[List.getD_eq_getElem?_getD,List.getElem?_eq_none (by rw[Ju];omega),List.getD_eq_getElem?_getD,List.getElem?_eq_none oM];exact⟨rfl,rfl⟩
 ·rw[Ku hq];exact⟨rfl,rfl⟩
theorem ZM9 {t:Tr} {p:Nat} {e:Ev}:(Qm t p e).map (·.name)=t.map (·.name):=by
 apply List.ext_getElem?
 intro j
 rw[List.getElem?_map,List.getElem?_map]
 by_cases hj:p=j
 ·subst hj
  by_cases hp:p<t.length
  ·rw[ZEL e hp,List.getElem?_eq_getElem hp];rfl
  ·rw[List.getElem?_eq_none (by rw[Ju];omega),List.getElem?_eq_none oM]
 ·rw[ZEK e hj]
theorem ZLI {t:Tr} {p:Nat} {e:Ev} (h:NewEv t p e) {q:Nat} (hq:q<t.length):Xf (Qm t p e) q=0:=by
 have h0:=h.v.head q hq
 obtain⟨e1,e2⟩:=ZJU (t:=t) (p:=p) (e:=e) q
 have ha:((Qm t p e).take q).any (fun y=>y.name.toList==(t.getD q dfPr).name.toList)=(t.take q).any (fun y=>y.name.toList==(t.getD q dfPr).name.toList):=by
  have:=fun (l:Tr)=>show (l.take q).any (fun y=>y.name.toList==(t.getD q dfPr).name.toList)=((l.map (·.name)).take q).any (fun y=>y.toList==(t.getD q dfPr).name.toList) by rw[←List.map_take,List.any_map];rfl
  rw[this,this,ZM9]
 have hl:¬64<((Qm t p e).getD q dfPr).evs.length:=by
  have h64:¬64<(t.getD q dfPr).evs.length:=by
   have:=Vd hq h0
   rw[ZF hq];omega
  by_cases hc:p=q
  ·subst hc
   rw[Uj h.hp,List.length_append,List.length_singleton]
   have:=h.room;omega
  ·rw[Ku hc];exact h64
 unfold Xf at h0⊢
 rw[e1,e2,ha,if_neg hl]
 split at h0
 ·exact absurd h0 (by decide)
 rename_i c1
 rw[if_neg c1]
 split at h0
 ·exact absurd h0 (by decide)
 rename_i c2
 rw[if_neg c2]
 split at h0
 ·rename_i c3;exact absurd h0 c3
 rename_i c3
 rw[if_neg c3]
theorem ZGe {t:Tr} {p:Nat} {e:Ev} (h:NewEv t p e):Vok (Qm t p e):=by
 have hp:=h.hp
 refine⟨by rw[Ju];exact h.v.lo,by rw[Ju];exact h.v.hi,fun q hq=>ZLI h (by rw[←Ju (p:=p) (e:=e)];exact hq),fun x hx=>ZLJ h hx,fun x hx=>ZLH h hx,fun x hx hh=>?_⟩
 rcases (UP hp).1 hx with hx|hx
 ·rcases tp_hb h hx hh with h1|h1
  ·exact h.v.acyc x hx h1.2
  ·exact ZM8 (h1▸hx)
 ·exact tp_no h hx hh
end Go.Proofs.YtoccdlnoaindmaaGreatDoor
namespace Go.Proofs.YtoccdlnoaindmaaGreatDoor
set_option linter.unusedVariables false
theorem Kg {α:Type} {l:List α} {x d:α} {p c:Nat} (hp:p≤l.length) (i:Nat) :
  (l.take p++List.replicate c x++l.drop p).getD i d=if i<p then l.getD i d else if i<p+c then x else l.getD (i-c) d:=by
 have h1:(l.take p).length=p:=by rw[List.length_take];omega
 have h2:(List.replicate c x).length=c:=List.length_replicate
 simp only[List.getD_eq_getElem?_getD]
 by_cases ha:i<p
 ·rw[if_pos ha,List.getElem?_append_left (by rw[List.length_append];omega),List.getElem?_append_left oM,List.getElem?_take,if_pos ha]
 ·rw[if_neg ha]
  by_cases hb:i<p+c
  ·rw[if_pos hb,List.getElem?_append_left (by rw[List.length_append];omega),List.getElem?_append_right oM,h1,List.getElem?_replicate,if_pos oM];rfl
  ·rw[if_neg hb,List.getElem?_append_right (by rw[List.length_append];omega),List.length_append,h1,h2,List.getElem?_drop]
   congr 2;omega
theorem J9 {α:Type} {l:List α} {x:α} {p c:Nat} (hp:p≤l.length):(l.take p++List.replicate c x++l.drop p).length=l.length+c:=by
 simp only[List.length_append,List.length_take,List.length_replicate,List.length_drop];omega
theorem ZEb {l:List Int} {a:Int}:(∀j,j<leN l a→l.getD j 0≤a)∧(leN l a<l.length→a<l.getD (leN l a) 0):=by
 unfold leN
 induction l with
 |nil=>simp
 |cons x l ih =>
   by_cases hx:x≤a
   ·rw[List.takeWhile_cons_of_pos (by simpa using hx)]
    refine⟨fun j hj=>?_,fun h=>?_⟩
    ·cases j with
     |zero=>exact hx
     |succ j=>simp only[List.getD_cons_succ];exact ih.1 j (by simpa using hj)
    ·simp only[List.length_cons,List.getD_cons_succ]
     exact ih.2 (by simpa using h)
   ·rw[List.takeWhile_cons_of_neg (by simpa using hx)]
    refine⟨fun j hj=>by simp at hj,fun _=>by simp;omega⟩
theorem NwV.ins {n:Nw} (h:NwV n) {m:Ms} (hm:msB m=true) {a:Int} (ha:0≤a∧a≤1099512627776) {c:Nat} (hc:n.l.length+c≤1000):NwV (ZGW n m a c):=by
 have hp:=ZC2 (l:=n.tm) (a:=a)
 have hp2:leN n.tm a≤n.l.length:=by rw[h.len];exact hp
 have hs:=ZEb (l:=n.tm) (a:=a)
 refine⟨h.now,?_,?_,?_,?_,?_,?_,?_⟩
 ·show (n.l.take _++_++n.l.drop _).length=(n.tm.take _++_++n.tm.drop _).length
  rw[J9 hp2,J9 hp,h.len]
 ·show (n.l.take _++_++n.l.drop _).length≤1000
  rw[J9 hp2];omega
 ·show (n.fates.drop 1).length≤1000
  have:=h.fl;rw[List.length_drop];omega
 ·intro f hf
  exact h.fates f (List.mem_of_mem_drop hf)
 ·intro x hx
  change x∈n.l.take _++_++n.l.drop _ at hx
  rw[List.mem_append,List.mem_append]at hx
  rcases hx with (hx|hx)|hx
  ·exact h.ms x (List.mem_of_mem_take hx)
  ·rw[(List.mem_replicate.1 hx).2];exact hm
  ·exact h.ms x (List.mem_of_mem_drop hx)
 ·intro x hx
  change x∈n.tm.take _++_++n.tm.drop _ at hx
  rw[List.mem_append,List.mem_append]at hx
  rcases hx with (hx|hx)|hx
  ·exact h.tm x (List.mem_of_mem_take hx)
  ·rw[(List.mem_replicate.1 hx).2];exact ha
  ·exact h.tm x (List.mem_of_mem_drop hx)
 ·intro i hi
  change i+1<(n.tm.take _++_++n.tm.drop _).length at hi
  rw[J9 hp]at hi
  show (n.tm.take _++_++n.tm.drop _).getD i 0≤(n.tm.take _++_++n.tm.drop _).getD (i+1) 0
  rw[Kg hp,Kg hp]
  have key:=h.mono
  have so:=h.sorted
  by_cases h1:i+1<leN n.tm a
  ·rw[if_pos h1,if_pos oM];exact key i oM
  ·rw[if_neg h1]
   by_cases h2:i<leN n.tm a
   ·rw[if_pos h2]
    have e1:=hs.1 i h2
    by_cases h3:i+1<leN n.tm a+c
    ·rw[if_pos h3];exact e1
    ·rw[if_neg h3]
     have:c=0:=by omega
     subst this
     have:i+1<n.tm.length:=by omega
     exact key i this
   ·rw[if_neg h2]
    by_cases h3:i+1<leN n.tm a+c
    ·rw[if_pos h3,if_pos oM];exact Int.le_refl _
    ·rw[if_neg h3]
     by_cases h4:i<leN n.tm a+c
     ·rw[if_pos h4]
      have e:i+1-c=leN n.tm a:=by omega
      rw[e]
      have:=hs.2 oM
      omega
     ·rw[if_neg h4]
      have e:i+1-c=i-c+1:=by omega
      rw[e]
      exact key (i-c) oM
theorem Km {α:Type} {l:List α} {d:α} {k:Nat} (i:Nat):(l.take k++l.drop (k+1)).getD i d=if k<l.length∧k≤i then l.getD (i+1) d else l.getD i d:=by
 simp only[List.getD_eq_getElem?_getD]
 by_cases hk:k<l.length
 ·have h1:(l.take k).length=k:=by rw[List.length_take];omega
  by_cases hi:k≤i
  ·rw[if_pos ⟨hk,hi⟩,List.getElem?_append_right oM,h1,List.getElem?_drop]
   congr 2;omega
  ·rw[if_neg (fun h=>hi h.2),List.getElem?_append_left oM,List.getElem?_take,if_pos oM]
 ·rw[if_neg (fun h=>hk h.1),List.take_of_length_le oM,List.drop_eq_nil_of_le oM,List.append_nil]
theorem Jc {α:Type} {l:List α} {k:Nat} (hk:k<l.length):(l.take k++l.drop (k+1)).length=l.length-1:=by
 simp only[List.length_append,List.length_take,List.length_drop];omega
theorem NwV.out {n:Nw} (h:NwV n) {k:Nat} (hk:k<n.l.length):NwV (woN n k):=by
 have hk2:k<n.tm.length:=by rw[←h.len];exact hk
 refine⟨h.now,?_,?_,h.fl,h.fates,?_,?_,?_⟩
 ·show (n.l.take k++n.l.drop (k+1)).length=(n.tm.take k++n.tm.drop (k+1)).length
  rw[Jc hk,Jc hk2,h.len]
 ·show (n.l.take k++n.l.drop (k+1)).length≤1000
  have:=h.l;rw[Jc hk];omega
 ·intro x hx
  rcases List.mem_append.1 (show x∈n.l.take k++n.l.drop (k+1) from hx) with hx|hx
  ·exact h.ms x (List.mem_of_mem_take hx)
  ·exact h.ms x (List.mem_of_mem_drop hx)
 ·intro x hx
  rcases List.mem_append.1 (show x∈n.tm.take k++n.tm.drop (k+1) from hx) with hx|hx
  ·exact h.tm x (List.mem_of_mem_take hx)
  ·exact h.tm x (List.mem_of_mem_drop hx)
 ·intro i hi
  change i+1<(n.tm.take k++n.tm.drop (k+1)).length at hi
  rw[Jc hk2]at hi
  show (n.tm.take k++n.tm.drop (k+1)).getD i 0≤(n.tm.take k++n.tm.drop (k+1)).getD (i+1) 0
  rw[Km,Km]
  by_cases h1:k≤i
  ·rw[if_pos ⟨hk2,h1⟩,if_pos ⟨hk2,by omega⟩];exact h.mono (i+1) oM
  ·rw[if_neg (fun h=>h1 h.2)]
   by_cases h2:k≤i+1
   ·rw[if_pos ⟨hk2,h2⟩];exact h.sorted i (i+2) oM oM
   ·rw[if_neg (fun h=>h2 h.2)];exact h.mono i oM
theorem NwV.at {n:Nw} (h:NwV n) {t:Int} (ht:0≤t∧t≤1099511627776):NwV {n with now:=t}:=⟨ht,h.len,h.l,h.fl,h.fates,h.ms,h.tm,h.mono⟩
structure Sc where
 n:Nw
 sent:List Ms
 due:List Int
 copies:List Int
 got:List Int
 last:Int→Int→Int
def ZAb (l:List Ms) (k:Int):Nat:=(l.filter fun m=>decide (m.nu=k)).length
structure ScOk (fs:List (Int×Int)) (s:Sc):Prop where
 v:NwV s.n
 few:s.n.l.length≤3*s.sent.length
 ld:s.due.length=s.sent.length
 lc:s.copies.length=s.sent.length
 lg:s.got.length=s.sent.length
 fates:s.n.fates=fs.drop s.sent.length
 num:∀k,k<s.sent.length→(s.sent.getD k dfMs).nu=k
 own:∀i,i<s.n.l.length→∃k,k<s.sent.length∧s.n.l.getD i dfMs=s.sent.getD k dfMs∧s.due.getD k 0≤s.n.tm.getD i 0
 cnt:∀k,k<s.sent.length→(ZAb s.n.l k:Int)+s.got.getD k 0=s.copies.getD k 0
 ord:s.n.fifo=true→∀i j,i<j→j<s.n.l.length→(s.n.l.getD i dfMs).fr=(s.n.l.getD j dfMs).fr→(s.n.l.getD i dfMs).to=(s.n.l.getD j dfMs).to→(s.n.l.getD i dfMs).nu≤(s.n.l.getD j dfMs).nu
 lst:s.n.fifo=true→∀i,i<s.n.l.length→s.last (s.n.l.getD i dfMs).fr (s.n.l.getD i dfMs).to≤(s.n.l.getD i dfMs).nu
 lub:∀x y,s.last x y≤s.sent.length
 rng:∀k,k<s.sent.length→0≤s.got.getD k 0∧s.copies.getD k 0≤3
theorem KA (a c:List Ms) (k:Int):ZAb (a++c) k=ZAb a k+ZAb c k:=by unfold ZAb;rw[List.filter_append,List.length_append]
theorem ZMP (l:List Ms) (x:Ms) (p c:Nat) (k:Int):ZAb (l.take p++List.replicate c x++l.drop p) k=ZAb l k+(if x.nu=k then c else 0):=by
 have h:ZAb l k=ZAb (l.take p) k+ZAb (l.drop p) k:=by rw[←KA,List.take_append_drop]
 have h2:ZAb (List.replicate c x) k=if x.nu=k then c else 0:=by
  unfold ZAb
  rw[List.filter_replicate]
  by_cases hx:x.nu=k<;>simp[hx]
 rw[KA,KA,h,h2];omega
theorem ZKQ {l:List Ms} {k:Int} (h:∀i,i<l.length→(l.getD i dfMs).nu≠k):ZAb l k=0:=by
 unfold ZAb
 rw[List.length_eq_zero_iff,List.filter_eq_nil_iff]
 intro m hm
 obtain⟨i,hi,rfl⟩:=List.getElem_of_mem hm
 have:=h i hi
 rw[ZF hi]at this
 simpa using this
theorem YU {α:Type} {l r:List α} {d:α} {k:Nat} (h:k<l.length):(l++r).getD k d=l.getD k d:=by
 simp only[List.getD_eq_getElem?_getD];rw[List.getElem?_append_left h]
theorem JN {α:Type} {l:List α} {x d:α}:(l++[x]).getD l.length d=x:=by
 simp only[List.getD_eq_getElem?_getD];rw[List.getElem?_append_right (Nat.le_refl _)];simp
theorem ZCn {n:Nw} {m:Ms} (hf:n.fifo=true):∀i j,j<i→(n.l.getD j dfMs).fr=m.fr→(n.l.getD j dfMs).to=m.to→n.tm.getD j 0≤UM n m i
 |0,_,h,_,_=>by omega
 |i+1,j,h,h1,h2=>by
   simp only[UM]
   by_cases hj:j=i
   ·subst hj;rw[if_pos ⟨hf,h1,h2⟩];omega
   ·have:=ZCn hf i j oM h1 h2
    split<;>omega
theorem ScOk.send {fs:List (Int×Int)} {s:Sc} (h:ScOk fs s) {m:Ms} (hm:msB m=true) (hn:m.nu=s.sent.length) (h60:s.sent.length<60) :
  sdE s.n m=0∧ScOk fs ⟨sdR s.n m,s.sent++[m],s.due++[s.n.now+(s.n.fates.headD (1,0)).2],s.copies++[(s.n.fates.headD (1,0)).1],s.got++[0],s.last⟩:=by
 have hd:=ZBc h.v
 have ha:=ZAg h.v (m:=m) s.n.l.length (Nat.le_refl _)
 have hnow:=h.v.now
 have hfew:=h.few
 obtain⟨a,hA⟩:∃a,V3 s.n m=a:=⟨_,rfl⟩
 change s.n.now≤V3 s.n m∧V3 s.n m≤_ at ha
 rw[hA]at ha
 obtain⟨c,hC⟩:∃c:Nat,(s.n.fates.headD (1,0)).1=(c:Int):=⟨(s.n.fates.headD (1,0)).1.toNat,by omega⟩
 have hc3:c≤3:=by omega
 have he:sdE s.n m=0:=by
  unfold sdE ZGY
  rw[hA,hC,if_neg oM,if_neg oM]
 have hr:sdR s.n m=ZGW s.n m a c:=by
  unfold sdR ZGY
  rw[if_pos he,hA,hC,Int.toNat_natCast]
 refine⟨he,?_⟩
 rw[hr,hC]
 obtain⟨p,hp⟩:∃p,leN s.n.tm a=p:=⟨_,rfl⟩
 have hs:=ZEb (l:=s.n.tm) (a:=a)
 have hle:=ZC2 (l:=s.n.tm) (a:=a)
 rw[hp]at hs hle
 have hle2:p≤s.n.l.length:=by rw[h.v.len];exact hle
 have el:(ZGW s.n m a c).l=s.n.l.take p++List.replicate c m++s.n.l.drop p:=by rw[←hp];rfl
 have et:(ZGW s.n m a c).tm=s.n.tm.take p++List.replicate c a++s.n.tm.drop p:=by rw[←hp];rfl
 have ef:(ZGW s.n m a c).fifo=s.n.fifo:=rfl
 have g:=fun i=>Kg (l:=s.n.l) (x:=m) (d:=dfMs) (c:=c) hle2 i
 have gt:=fun i=>Kg (l:=s.n.tm) (x:=a) (d:=0) (c:=c) hle i
 have ll:(ZGW s.n m a c).l.length=s.n.l.length+c:=by rw[el,J9 hle2]
 have late:∀j,p≤j→j<s.n.l.length→a<s.n.tm.getD j 0:=fun j h1 h2=>by
  have hjt:j<s.n.tm.length:=by rw[←h.v.len];exact h2
  have:=hs.2 oM
  have:=h.v.sorted p j h1 hjt
  omega
 have old:∀i,i<s.n.l.length→(s.n.l.getD i dfMs).nu<s.sent.length:=fun i hi=>by
  obtain⟨k,h1,h2,_⟩:=h.own i hi
  rw[h2,h.num k h1];omega
 refine⟨h.v.ins hm oM oM,?_,?_,?_,?_,?_,?_,?_,?_,?_,?_,?_,?_⟩
 ·show (ZGW s.n m a c).l.length≤3*(s.sent++[m]).length
  rw[ll,List.length_append,List.length_singleton];omega
 ·simp[h.ld]
 ·simp[h.lc]
 ·simp[h.lg]
 ·show s.n.fates.drop 1=fs.drop (s.sent++[m]).length
  rw[h.fates,List.drop_drop,List.length_append,List.length_singleton]
 ·intro k hk
  simp only[List.length_append,List.length_singleton]at hk
  by_cases h1:k<s.sent.length
  ·simp only[YU h1];exact h.num k h1
  ·obtain rfl:k=s.sent.length:=by omega
   simp only[JN];exact hn
 ·intro i hi
  simp only at hi⊢
  rw[ll]at hi
  rw[el,et,g,gt]
  by_cases h1:i<p
  ·rw[if_pos h1,if_pos h1]
   obtain⟨k,k1,k2,k3⟩:=h.own i oM
   exact⟨k,by simp;omega,by rw[YU k1];exact k2,by rw[YU (by rw[h.ld];exact k1)];exact k3⟩
  ·rw[if_neg h1,if_neg h1]
   by_cases h2:i<p+c
   ·rw[if_pos h2,if_pos h2]
    refine⟨s.sent.length,by simp,by rw[JN],?_⟩
    rw[←h.ld,JN,←hA]
    exact ZCm (n:=s.n) (m:=m) _
   ·rw[if_neg h2,if_neg h2]
    obtain⟨k,k1,k2,k3⟩:=h.own (i-c) oM
    exact⟨k,by simp;omega,by rw[YU k1];exact k2,by rw[YU (by rw[h.ld];exact k1)];exact k3⟩
 ·intro k hk
  simp only[List.length_append,List.length_singleton]at hk⊢
  rw[el,ZMP]
  by_cases h1:k<s.sent.length
  ·rw[if_neg (by rw[hn];omega),YU (by rw[h.lg];exact h1),YU (by rw[h.lc];exact h1)]
   exact h.cnt k h1
  ·obtain rfl:k=s.sent.length:=by omega
   rw[if_pos hn,ZKQ (fun i hi=>by have:=old i hi;omega)]
   have e1:(s.got++[0]).getD s.sent.length 0=0:=by rw[←h.lg,JN]
   have e2:(s.copies++[(c:Int)]).getD s.sent.length 0=c:=by rw[←h.lc,JN]
   rw[e1,e2];omega
 ·intro hf i j hij hj
  simp only at hf hj⊢
  rw[ll]at hj
  rw[el,g,g]
  by_cases i1:i<p
  ·rw[if_pos i1]
   by_cases j1:j<p
   ·rw[if_pos j1];exact h.ord hf i j hij oM
   ·rw[if_neg j1]
    by_cases j2:j<p+c
    ·rw[if_pos j2];intro _ _;have:=old i oM;omega
    ·rw[if_neg j2];exact h.ord hf i (j-c) oM oM
  ·rw[if_neg i1,if_neg (show ¬j<p by omega)]
   by_cases i2:i<p+c
   ·rw[if_pos i2]
    by_cases j2:j<p+c
    ·rw[if_pos j2];intro _ _;exact Int.le_refl _
    ·rw[if_neg j2]
     intro e1 e2
     have:=late (j-c) oM oM
     have:=ZCn (n:=s.n) (m:=m) hf s.n.l.length (j-c) oM e1.symm e2.symm
     change _≤V3 s.n m at this
     omega
   ·rw[if_neg i2,if_neg (show ¬j<p+c by omega)]
    exact h.ord hf (i-c) (j-c) oM oM
 ·intro hf i hi
  simp only at hf hi⊢
  rw[ll]at hi
  rw[el,g]
  by_cases i1:i<p
  ·rw[if_pos i1];exact h.lst hf i oM
  ·rw[if_neg i1]
   by_cases i2:i<p+c
   ·rw[if_pos i2,hn];exact h.lub _ _
   ·rw[if_neg i2];exact h.lst hf (i-c) oM
 ·intro x y
  have:=h.lub x y
  simp only[List.length_append,List.length_singleton];omega
 ·intro k hk
  simp only[List.length_append,List.length_singleton]at hk⊢
  by_cases h1:k<s.sent.length
  ·rw[YU (by rw[h.lg];exact h1),YU (by rw[h.lc];exact h1)]
   exact h.rng k h1
  ·obtain rfl:k=s.sent.length:=by omega
   have e1:(s.got++[0]).getD s.sent.length 0=0:=by rw[←h.lg,JN]
   have e2:(s.copies++[(c:Int)]).getD s.sent.length 0=c:=by rw[←h.lc,JN]
   rw[e1,e2];omega
theorem ZI8 {l:List Ms} {k:Nat} (hk:k<l.length) (x:Int):ZAb (l.take k++l.drop (k+1)) x+(if (l.getD k dfMs).nu=x then 1 else 0)=ZAb l x:=by
 have h:l=l.take k++([l.getD k dfMs]++l.drop (k+1)):=by
  rw[ZF hk,List.singleton_append,←List.drop_eq_getElem_cons hk,List.take_append_drop]
 have h2:ZAb [l.getD k dfMs] x=if (l.getD k dfMs).nu=x then 1 else 0:=by
  obtain⟨z,hz⟩:∃z,l.getD k dfMs=z:=⟨_,rfl⟩
  rw[hz]
  unfold ZAb
  by_cases hx:z.nu=x<;>simp[hx]
 have h3:ZAb l x=ZAb (l.take k) x+(ZAb [l.getD k dfMs] x+ZAb (l.drop (k+1)) x):=by
  conv=>lhs;rw[h]
  rw[KA,KA]
 rw[KA,h3,h2];omega
theorem ZER {α:Type} {l:List α} {q k:Nat} {x d:α} (hq:q<l.length):(l.set q x).getD k d=if k=q then x else l.getD k d:=by
 simp only[List.getD_eq_getElem?_getD]
 by_cases h:k=q
 ·subst h;rw[if_pos rfl,List.getElem?_set_self hq];rfl
 ·rw[if_neg h,List.getElem?_set_ne (fun e=>h e.symm)]
theorem ScOk.recv {fs:List (Int×Int)} {s:Sc} (h:ScOk fs s) {to:Int} {k:Nat} (hk:k<s.n.l.length) (ha:arB s.n to k=true) (h0:∀j,j<k→arB s.n to j=false) :
  ∃q,q<s.sent.length∧s.n.l.getD k dfMs=s.sent.getD q dfMs∧(s.n.l.getD k dfMs).nu=q∧(s.n.l.getD k dfMs).to=to∧s.due.getD q 0≤s.n.now ∧
   (s.n.fifo=true→s.last (s.n.l.getD k dfMs).fr (s.n.l.getD k dfMs).to≤q)∧s.got.getD q 0+1≤s.copies.getD q 0 ∧
   ScOk fs ⟨woN s.n k,s.sent,s.due,s.copies,s.got.set q (s.got.getD q 0+1),fun x y=>if x=(s.n.l.getD k dfMs).fr∧y=(s.n.l.getD k dfMs).to then q else s.last x y⟩:=by
 obtain⟨q,q1,q2,q3⟩:=h.own k hk
 unfold arB at ha
 simp only[Bool.and_eq_true,decide_eq_true_eq]at ha
 obtain⟨a1,a2⟩:=ha
 have hkt:k<s.n.tm.length:=by rw[←h.v.len];exact hk
 have hnu:(s.n.l.getD k dfMs).nu=q:=by rw[q2];exact h.num q q1
 have hqg:q<s.got.length:=by rw[h.lg];exact q1
 have hcc:=ZI8 hk (q:Int)
 rw[if_pos hnu]at hcc
 have hcq:=h.cnt q q1
 refine⟨q,q1,q2,hnu,a1,by omega,fun hf=>by have:=h.lst hf k hk;rw[hnu]at this;exact this,by omega,?_⟩
 have g:=fun i=>Km (l:=s.n.l) (d:=dfMs) (k:=k) i
 have gt:=fun i=>Km (l:=s.n.tm) (d:=0) (k:=k) i
 have ll:(woN s.n k).l.length=s.n.l.length-1:=Jc hk
 have el:(woN s.n k).l=s.n.l.take k++s.n.l.drop (k+1):=rfl
 have et:(woN s.n k).tm=s.n.tm.take k++s.n.tm.drop (k+1):=rfl
 obtain⟨σ,hσ⟩:∃σ:Nat→Nat,∀i,σ i=if k≤i then i+1 else i:=⟨_,fun _=>rfl⟩
 have gl:∀i,(woN s.n k).l.getD i dfMs=s.n.l.getD (σ i) dfMs:=fun i=>by
  rw[el,g,hσ]
  by_cases hi:k≤i
  ·rw[if_pos ⟨hk,hi⟩,if_pos hi]
  ·rw[if_neg (fun h=>hi h.2),if_neg hi]
 have gm:∀i,(woN s.n k).tm.getD i 0=s.n.tm.getD (σ i) 0:=fun i=>by
  rw[et,gt,hσ]
  by_cases hi:k≤i
  ·rw[if_pos ⟨hkt,hi⟩,if_pos hi]
  ·rw[if_neg (fun h=>hi h.2),if_neg hi]
 have sl:∀i,i<s.n.l.length-1→σ i<s.n.l.length∧σ i≠k:=fun i hi=>by
  rw[hσ];split<;>omega
 have sm:∀i j,i<j→σ i<σ j:=fun i j hij=>by
  rw[hσ,hσ];split<;>split<;>omega
 refine⟨h.v.out hk,?_,h.ld,h.lc,by simp[h.lg],h.fates,h.num,?_,?_,?_,?_,?_,?_⟩
 ·show (woN s.n k).l.length≤3*s.sent.length
  have:=h.few;rw[ll];omega
 ·intro i hi
  simp only at hi⊢
  rw[ll]at hi
  rw[gl,gm]
  exact h.own (σ i) (sl i hi).1
 ·intro x hx
  simp only at hx⊢
  rw[el,ZER hqg]
  have:=ZI8 hk (x:Int)
  have hcx:=h.cnt x hx
  by_cases hxq:x=q
  ·subst hxq;rw[if_pos rfl];omega
  ·rw[if_neg hxq]
   rw[if_neg (by rw[hnu];omega)]at this
   omega
 ·intro hf i j hij hj
  simp only at hf hj⊢
  rw[ll]at hj
  rw[gl,gl]
  exact h.ord hf (σ i) (σ j) (sm i j hij) (sl j hj).1
 ·intro hf i hi
  simp only at hf hi⊢
  rw[ll]at hi
  rw[gl]
  by_cases hc:(s.n.l.getD (σ i) dfMs).fr=(s.n.l.getD k dfMs).fr∧(s.n.l.getD (σ i) dfMs).to=(s.n.l.getD k dfMs).to
  ·rw[if_pos hc]
   have hgt:k<σ i:=by
    rcases Nat.lt_or_ge k (σ i) with h1|h1
    ·exact h1
    ·exfalso
     have h2:σ i<k:=by have:=(sl i hi).2;omega
     have h3:=h0 (σ i) h2
     have h4:=h.v.sorted (σ i) k oM hkt
     unfold arB at h3
     rw[decide_eq_true (show (s.n.l.getD (σ i) dfMs).to=to by rw[hc.2];exact a1),decide_eq_true (show s.n.tm.getD (σ i) 0≤s.n.now by omega)]at h3
     cases h3
   have:=h.ord hf k (σ i) hgt (sl i hi).1 hc.1.symm hc.2.symm
   rw[hnu]at this
   exact this
  ·rw[if_neg hc]
   exact h.lst hf (σ i) (sl i hi).1
 ·intro x y
  simp only
  split
  ·omega
  ·exact h.lub x y
 ·intro x hx
  simp only at hx⊢
  rw[ZER hqg]
  have:=h.rng x hx
  have:=h.rng q q1
  split<;>omega
theorem ScOk.at {fs:List (Int×Int)} {s:Sc} (h:ScOk fs s) {t:Int} (ht:0≤t∧t≤1099511627776):ScOk fs {s with n:={s.n with now:=t}}:=
 ⟨h.v.at ht,h.few,h.ld,h.lc,h.lg,h.fates,h.num,h.own,h.cnt,h.ord,h.lst,h.lub,h.rng⟩
theorem ScOk.done {fs:List (Int×Int)} {s:Sc} (h:ScOk fs s) (h0:s.n.l=[]):s.got=s.copies:=by
 apply List.ext_getElem?
 intro k
 by_cases hk:k<s.sent.length
 ·have:=h.cnt k hk
  rw[h0]at this
  have e:ZAb [] (k:Int)=0:=rfl
  rw[e]at this
  rw[List.getElem?_eq_getElem (by rw[h.lg];exact hk),List.getElem?_eq_getElem (by rw[h.lc];exact hk)]
  rw[ZF (by rw[h.lg];exact hk),ZF (by rw[h.lc];exact hk)]at this
  congr 1;omega
 ·rw[List.getElem?_eq_none (by rw[h.lg];omega),List.getElem?_eq_none (by rw[h.lc];omega)]
theorem ScOk.start {fs:List (Int×Int)} (fifo:Bool) (h:∀f∈fs,ftB f=true) (hl:fs.length≤1000):ScOk fs ⟨⟨0,fifo,[],[],fs⟩,[],[],[],[],fun _ _=>0⟩:=
 ⟨⟨⟨(by decide:(0:Int)≤0),(by decide:(0:Int)≤1099511627776)⟩,rfl,by simp,hl,h,by simp,by simp,by simp⟩,by simp,rfl,rfl,rfl,rfl,by simp,by simp,by simp,by simp,by simp,by simp,by simp⟩
end Go.Proofs.YtoccdlnoaindmaaGreatDoor
namespace Go.Proofs.YtoccdlnoaindmaaGreatDoor
set_option linter.unusedVariables false
set_option linter.unusedSimpArgs false
structure WdV (w:Wd):Prop where
 sv:VE w.sv=true
 now:0≤w.now∧w.now≤1000000000
 net:NwV w.net
 nnow:w.net.now=w.now
 tr:Vok w.tr
 len:w.tr.length=w.sv.length
 fit:∀p,p<w.tr.length→ZBf (w.tr.getD p dfPr) (w.sv.getD p dfSv) w.now=true
 snt:∀x∈ids w.tr,(Zm w.tr x).kind=2→(Zm w.tr x).msg<w.sent
 cnt:(cSd w.tr w.tr.length:Int)=w.sent
 msg:∀m∈w.net.l,mgB w.tr m=true
theorem WdV.of {w:Wd} (h:wdB w=true):WdV w:=by
 unfold wdB at h
 simp only[Bool.and_eq_true,decide_eq_true_eq]at h
 obtain⟨h1,h2,h3,h4,h5,h6,h7,h8,h9⟩:=h
 unfold inZ at h2
 simp only[Bool.and_eq_true,decide_eq_true_eq]at h2
 have hp:∀p,p<w.tr.length→prB w p=true:=fun p hp=>List.all_eq_true.1 h7 p (List.mem_range.2 hp)
 unfold prB at hp
 refine⟨h1,h2,JE.1 h3,h4,vok h5,h6,fun p hl=>(Bool.and_eq_true _ _▸hp p hl).1,fun x hx hk=>?_,h8,fun m hm=>List.all_eq_true.1 h9 m hm⟩
 obtain⟨q,i⟩:=x
 obtain⟨i,rfl⟩:∃k,i=k+1:=⟨i-1,by have:=JF hx;simp only at this;omega⟩
 obtain⟨g1,g2⟩:=Xp.1 hx
 have:=(Bool.and_eq_true _ _▸hp q g1).2
 have:=List.all_eq_true.1 this i (List.mem_range.2 g2)
 unfold sOk at this
 change (((Zc w.tr q).getD i ZA8).kind)=2 at hk
 rw[hk]at this
 show ((Zc w.tr q).getD i ZA8).msg<w.sent
 simpa using this
theorem WdV.to {w:Wd} (h:WdV w):wdB w=true:=by
 have h7:(List.range w.tr.length).all (prB w)=true:=by
  rw[List.all_eq_true]
  intro p hp
  have hp:=List.mem_range.1 hp
  unfold prB
  rw[h.fit p hp,Bool.true_and,List.all_eq_true]
  intro i hi
  have hi:=List.mem_range.1 hi
  unfold sOk
  by_cases hk:((Zc w.tr p).getD i ZA8).kind=2
  ·have:=h.snt (p,i+1) (Xp.2 ⟨hp,hi⟩) hk
   have e:((Zc w.tr p).getD i ZA8).msg<w.sent:=this
   rw[decide_eq_true e,Bool.or_true]
  ·rw[beq_eq_false_iff_ne.2 hk];rfl
 have h2:inZ w.now 0 1000000000=true:=by unfold inZ;simp;exact h.now
 unfold wdB
 rw[h.sv,h2,JE.2 h.net,decide_eq_true h.nnow,Jh h.tr,decide_eq_true h.len,h7,decide_eq_true h.cnt,List.all_eq_true.2 h.msg];rfl
structure SvV (s:Sv) (p n:Int):Prop where
 name:Xo s.name=true
 cl:1≤s.code.length∧s.code.length≤100
 vl:s.vars.length≤8
 pc:0≤s.pc∧s.pc≤s.code.length
 rt:Vy s=true
 vs:∀v∈s.vars,vlB v=true
 ins:∀x∈s.code,Vp s.vars.length s.code.length p n x=true
theorem ZGg {s:Sv} {p n:Int}:sv1 s p n=true↔SvV s p n:=by
 unfold sv1 inZ
 simp only[Bool.and_eq_true,decide_eq_true_eq,List.all_eq_true]
 constructor
 ·rintro⟨h1,h2,h3,h4,h5,h6,h7⟩
  exact⟨h1,by omega,h3,h4,h5,h6,h7⟩
 ·rintro⟨h1,h2,h3,h4,h5,h6,h7⟩
  exact⟨h1,by omega,h3,h4,h5,h6,h7⟩
theorem Ji {l:List Sv} (h:VE l=true) {p:Nat} (hp:p<l.length):SvV (l.getD p dfSv) p l.length∧∀q,q<p→(l.getD q dfSv).name≠(l.getD p dfSv).name:=by
 unfold VE at h
 rw[Bool.and_eq_true]at h
 have:=List.all_eq_true.1 h.2 p (List.mem_range.2 hp)
 unfold svB at this
 rw[Bool.and_eq_true]at this
 refine⟨ZGg.1 this.1,fun q hq he=>?_⟩
 have hq2:q<l.length:=by omega
 have hm:l.getD q dfSv∈l.take p:=by
  rw[ZF hq2]
  exact List.mem_iff_getElem?.2 ⟨q,by rw[List.getElem?_take,if_pos hq,List.getElem?_eq_getElem hq2]⟩
 have:=List.all_eq_true.1 this.2 _ hm
 rw[he,Ve]at this
 cases this
theorem ZMc {l:List Sv} (hl:1≤l.length∧l.length≤8) (h:∀p,p<l.length→SvV (l.getD p dfSv) p l.length∧∀q,q<p→(l.getD q dfSv).name≠(l.getD p dfSv).name):VE l=true:=by
 unfold VE
 rw[Bool.and_eq_true]
 refine⟨by unfold inZ;simp only[decide_eq_true_eq];omega,List.all_eq_true.2 fun p hp=>?_⟩
 have hp:=List.mem_range.1 hp
 obtain⟨h1,h2⟩:=h p hp
 unfold svB
 rw[Bool.and_eq_true]
 refine⟨ZGg.2 h1,List.all_eq_true.2 fun x hx=>?_⟩
 obtain⟨q,hq⟩:=List.mem_iff_getElem?.1 hx
 rw[List.getElem?_take]at hq
 split at hq
 ·rename_i hqp
  have:=h2 q hqp
  rw[List.getD_eq_getElem?_getD,hq,Option.getD_some]at this
  cases hb:x.name==(l.getD p dfSv).name with
  |false=>rfl
  |true=>exact absurd (ZBt hb) this
 ·cases hq
theorem ZCJ {l:List Sv} (h:VE l=true):1≤l.length∧l.length≤8:=by
 unfold VE inZ at h
 simp only[Bool.and_eq_true,decide_eq_true_eq]at h
 omega
theorem ZLL {l:List Sv} (h:VE l=true) {p:Nat} (hp:p<l.length) {c:Int} {v:List Int} (hc:0≤c∧c≤(l.getD p dfSv).code.length) (hv:v.length=(l.getD p dfSv).vars.length) (hvl:∀x∈v,vlB x=true) :
  VE (l.set p {l.getD p dfSv with pc:=c,vars:=v})=true:=by
 have hn:=ZCJ h
 have g:∀q,(l.set p {l.getD p dfSv with pc:=c,vars:=v}).getD q dfSv=if p=q then {l.getD p dfSv with pc:=c,vars:=v} else l.getD q dfSv:=fun q=>by
  split
  ·rename_i e;subst e
   rw[List.getD_eq_getElem?_getD,List.getElem?_set_self hp];rfl
  ·rename_i e
   rw[List.getD_eq_getElem?_getD,List.getElem?_set_ne e,←List.getD_eq_getElem?_getD]
 have gn:∀q,((l.set p {l.getD p dfSv with pc:=c,vars:=v}).getD q dfSv).name=(l.getD q dfSv).name:=fun q=>by
  rw[g];split
  ·rename_i e;subst e;rfl
  ·rfl
 refine ZMc (by rw[List.length_set];exact hn) (fun q hq=>?_)
 rw[List.length_set]at hq⊢
 obtain⟨h1,h2⟩:=Ji h hq
 refine⟨?_,fun r hr=>by rw[gn,gn];exact h2 r hr⟩
 rw[g];split
 ·rename_i e;subst e
  exact⟨h1.name,h1.cl,by show v.length≤8;rw[hv];exact h1.vl,hc,h1.rt,hvl,by show ∀x∈(l.getD p dfSv).code,Vp v.length _ _ _ x=true;rw[hv];exact h1.ins⟩
 ·exact h1
theorem ZGk {p:Pr} {e:Ev}:∀k,k≤p.evs.length→stV {p with evs:=p.evs++[e]} k=stV p k
 |0,_=>rfl
 |k+1,h=>by
   have ih:=ZGk (p:=p) (e:=e) k oM
   simp only[stV]
   rw[ih,List.getD_eq_getElem?_getD,List.getElem?_append_left oM,←List.getD_eq_getElem?_getD]
theorem ZKD {p:Pr} {e:Ev}:ZJL {p with evs:=p.evs++[e]}=apE (ZJL p) e:=by
 unfold ZJL
 show stV {p with evs:=p.evs++[e]} (p.evs++[e]).length=_
 rw[List.length_append,List.length_singleton]
 simp only[stV]
 rw[ZGk _ (Nat.le_refl _),List.getD_eq_getElem?_getD,List.getElem?_append_right (Nat.le_refl _),Nat.sub_self];rfl
theorem ZHa {l:List Ev} {e:Ev}:∀k,k≤l.length→nSd (l++[e]) k=nSd l k
 |0,_=>rfl
 |k+1,h=>by
   have ih:=ZHa (l:=l) (e:=e) k oM
   simp only[nSd]
   rw[ih,List.getD_eq_getElem?_getD,List.getElem?_append_left oM,←List.getD_eq_getElem?_getD]
theorem ZJn {l:List Ev} {e:Ev}:nSd (l++[e]) (l++[e]).length=nSd l l.length+if e.kind=2 then 1 else 0:=by
 rw[List.length_append,List.length_singleton]
 simp only[nSd]
 rw[ZHa _ (Nat.le_refl _),List.getD_eq_getElem?_getD,List.getElem?_append_right (Nat.le_refl _),Nat.sub_self]
 simp only[List.getElem?_cons_zero,Option.getD_some]
 split<;>omega
theorem ZIb {t:Tr} {p:Nat} {e:Ev} (hp:p<t.length):∀k,k≤t.length→cSd (Qm t p e) k=cSd t k+if p<k∧e.kind=2 then 1 else 0
 |0,_=>by simp[cSd]
 |k+1,h=>by
   have ih:=ZIb (e:=e) hp k oM
   simp only[cSd]
   rw[ih]
   by_cases hk:p=k
   ·subst hk
    rw[UQ hp,ZJn,if_neg oM]
    by_cases h2:e.kind=2
    ·rw[if_pos h2,if_pos ⟨by omega,h2⟩];omega
    ·rw[if_neg h2,if_neg (fun h=>h2 h.2)];omega
   ·rw[ZAu hk]
    by_cases h2:p<k∧e.kind=2
    ·rw[if_pos h2,if_pos ⟨by omega,h2.2⟩];omega
    ·rw[if_neg h2,if_neg (fun h=>h2 ⟨by omega,h.2⟩)];omega
structure PutOk (w:Wd) (p:Nat) (s:Sv) (e:Ev) (n:Nw) (sn:Int):Prop where
 hp:p<w.sv.length
 sv:∃c v,s={w.sv.getD p dfSv with pc:=c,vars:=v}∧(0≤c∧c≤(w.sv.getD p dfSv).code.length)∧v.length=(w.sv.getD p dfSv).vars.length∧(∀x∈v,vlB x=true)∧apE (w.sv.getD p dfSv).vars e=v
 room:(Zc w.tr p).length<64
 form:QN w.tr.length p e=true
 al:e.asg.length≤8
 af:Q0 (ZBV (w.sv.getD p dfSv).vars.length e.asg) e.asg.length=0
 snd:e.kind=2→e.msg=w.sent
 rcv:e.kind=3→(∀x∈ids w.tr,(Zm w.tr x).kind=3→(Zm w.tr x).msg≠e.msg)∧Yn w.tr e.peer.toNat e.msg p=true
 net:NwV n
 now:n.now=w.now
 sent:sn=if e.kind=2 then w.sent+1 else w.sent
 msg:∀m∈n.l,mgB w.tr m=true∨(e.kind=2∧m.body.length=1∧m.nu=w.sent∧m.fr=p∧m.to=e.peer)
def ZL1 (w:Wd) (p:Nat) (e:Ev):Ev:={e with time:=Uc (w.sv.getD p dfSv) w.now}
theorem ZIa {s:Sv} (hr:Vy s=true) {now:Int} (hn:0≤now∧now≤1000000000):Uc s now=s.off+now*s.rate / 1000∧0≤Uc s now∧Uc s now≤1099511627776:=by
 have hk:Jf s now=true:=by
  unfold Jf inZ;rw[hr];simp;exact hn
 obtain⟨h1,h2,h3,h4,h5⟩:=ZEn hk
 unfold Uc
 rw[if_pos hk]
 refine⟨rfl,?_,?_⟩<;>omega
theorem PutOk.ev {w:Wd} (hw:WdV w) {p:Nat} {s:Sv} {e:Ev} {n:Nw} {sn:Int} (h:PutOk w p s e n sn):NewEv w.tr p (ZL1 w p e):=by
 have hp:p<w.tr.length:=by rw[hw.len];exact h.hp
 have hf:=hw.fit p hp
 unfold ZBf at hf
 simp only[Bool.and_eq_true,decide_eq_true_eq]at hf
 obtain⟨_,f2,_,_,f5⟩:=hf
 have hs:=(Ji hw.sv h.hp).1
 have hc:=ZIa hs.rt hw.now
 refine⟨hw.tr,hp,h.room,h.form,?_,fun i hi=>?_,h.al,?_,fun hk x hx hxk=>?_,h.rcv⟩
 ·unfold inB ZL1;simp;exact hc.2
 ·unfold ZJV at f5
  have hev:(w.tr.getD p dfPr).evs=Zc w.tr p:=rfl
  rw[hev,hi]at f5
  simp only[decide_eq_true_eq,Nat.add_sub_cancel]at f5
  rcases f5 with f5|f5
  ·omega
  ·exact f5
 ·rw[f2];exact h.af
 ·have:=hw.snt x hx hxk
  have h2:=h.snd hk
  show _≠e.msg
  omega
theorem ZND {t:Tr} {p:Nat} {e:Ev} (h:NewEv t p e) {m:Ms} (hm:mgB t m=true):mgB (Qm t p e) m=true:=by
 unfold mgB at hm⊢
 simp only[Bool.and_eq_true,decide_eq_true_eq]at hm
 obtain⟨h1,h2,h3,h4⟩:=hm
 obtain⟨q,i,hq,hpl,hi⟩:=ZBg h2
 have hv:=Jh h.v
 have hv2:=Jh (ZGe h)
 rw[Uu hv]at hq
 have hf:Xc t 2 m.nu=some (q,i+1):=by
  cases hc:Xc t 2 m.nu with
  |none =>
    have:J2 t 2 m.nu=(0,0):=by unfold J2 ZH;show (Xc t 2 m.nu).getD (0,0)=_;rw[hc];rfl
    rw[this]at hq
    have:=congrArg Prod.snd hq;simp only at this;omega
  |some x=>have:=(Qg hc).1;rw[show ZH t (ids t) 2 m.nu=J2 t 2 m.nu from rfl,hq]at this;rw[this]
 have hx:=VU hf
 obtain⟨k1,k2⟩:=YE hf
 have hf2:Xc (Qm t p e) 2 m.nu=some (q,i+1):=by
  rw[VD h (.inl rfl),if_neg (fun hc=>h.fresh (.inl rfl) hc.1 hx k1 (k2.trans hc.2.symm))];exact hf
 have e2:Qs (Qm t p e) 2 m.nu=(q,i+1):=by rw[Uu hv2];exact (Qg hf2).1
 have e1:Qs t 2 m.nu=(q,i+1):=by rw[Uu hv];exact hq
 rw[e1]at h3 h4
 rw[e2,Vm h.hp hx,decide_eq_true h1,decide_eq_true h3,decide_eq_true h4];rfl
theorem ZNE {t:Tr} {p:Nat} {e:Ev} (h:NewEv t p e) (hk:e.kind=2) {m:Ms} (h1:m.body.length=1) (h2:m.nu=e.msg) (h3:m.fr=p) (h4:m.to=e.peer):mgB (Qm t p e) m=true:=by
 have hf2:Xc (Qm t p e) 2 m.nu=some (p,(Zc t p).length+1):=by
  rw[VD h (.inl rfl),if_pos ⟨hk,h2.symm⟩]
 have e2:Qs (Qm t p e) 2 m.nu=(p,(Zc t p).length+1):=by rw[Uu (Jh (ZGe h))];exact (Qg hf2).1
 unfold mgB
 rw[e2,UR h.hp,decide_eq_true h1,decide_eq_true h3.symm,decide_eq_true h4.symm];rfl
def ZMZ (w:Wd) (p:Nat) (s:Sv) (e:Ev) (n:Nw) (sn:Int):Wd:={ZAI w p s e with net:=n,sent:=sn}
theorem PutOk.tr {w:Wd} {p:Nat} {s:Sv} {e:Ev} {n:Nw} {sn:Int} (h:PutOk w p s e n sn):(ZMZ w p s e n sn).tr=Qm w.tr p (ZL1 w p e):=by
 obtain⟨c,v,rfl,_⟩:=h.sv
 rfl
theorem PutOk.valid {w:Wd} (hw:WdV w) {p:Nat} {s:Sv} {e:Ev} {n:Nw} {sn:Int} (h:PutOk w p s e n sn):WdV (ZMZ w p s e n sn):=by
 have he:=h.ev hw
 have ht:=h.tr
 have hp:=he.hp
 obtain⟨c,v,hs,hc,hvl,hvv,hap⟩:=h.sv
 have hsv:(ZMZ w p s e n sn).sv=w.sv.set p s:=rfl
 refine⟨?_,hw.now,h.net,h.now,?_,?_,fun q hq=>?_,fun x hx hk=>?_,?_,fun m hm=>?_⟩
 ·rw[hsv,hs];exact ZLL hw.sv h.hp hc hvl hvv
 ·rw[ht];exact ZGe he
 ·rw[ht,Ju,hsv,List.length_set];exact hw.len
 ·rw[ht,Ju]at hq
  have hf:=hw.fit q hq
  rw[ht,hsv]
  show ZBf _ _ w.now=true
  by_cases hpq:p=q
  ·subst hpq
   rw[Uj hp,List.getD_eq_getElem?_getD (l:=w.sv.set p s),List.getElem?_set_self h.hp,Option.getD_some]
   unfold ZBf at hf⊢
   simp only[Bool.and_eq_true,decide_eq_true_eq]at hf⊢
   obtain⟨f1,f2,f3,f4,f5⟩:=hf
   rw[hs]
   refine⟨f1,?_,?_,?_,?_⟩
   ·show (w.tr.getD p dfPr).vars.length=v.length
    rw[hvl];exact f2
   ·show ZLp _ v.length=true
    rw[hvl];exact f3
   ·have:ZJL {w.tr.getD p dfPr with evs:=(w.tr.getD p dfPr).evs++[ZL1 w p e]}=v:=by
     rw[ZKD,f4];exact hap
    exact this
   ·unfold ZJV
    simp only[decide_eq_true_eq]
    refine .inr ?_
    show (List.getD (Zc w.tr p++[ZL1 w p e]) ((Zc w.tr p++[ZL1 w p e]).length-1) ZA8).time≤_
    rw[List.length_append,List.length_singleton,Nat.add_sub_cancel,List.getD_eq_getElem?_getD,List.getElem?_append_right (Nat.le_refl _),Nat.sub_self]
    exact Int.le_refl _
  ·rw[Ku hpq,List.getD_eq_getElem?_getD (l:=w.sv.set p s),List.getElem?_set_ne hpq,←List.getD_eq_getElem?_getD]
   exact hf
 ·have hsn:=h.sent
  show (Zm (ZMZ w p s e n sn).tr x).msg<sn
  rw[ht]at hx hk⊢
  rcases (UP hp).1 hx with hx|hx
  ·rw[Vm hp hx]at hk⊢
   have:=hw.snt x hx hk
   split at hsn<;>omega
  ·rw[hx,UR hp]at hk⊢
   have hk:e.kind=2:=hk
   have:=h.snd hk
   rw[if_pos hk]at hsn
   show e.msg<sn
   omega
 ·rw[ht,Ju,ZIb hp _ (Nat.le_refl _)]
  have hsn:=h.sent
  have hc:=hw.cnt
  show _=sn
  have hk:(ZL1 w p e).kind=e.kind:=rfl
  rw[hk,hsn]
  by_cases h2:e.kind=2
  ·rw[if_pos ⟨hp,h2⟩,if_pos h2];omega
  ·rw[if_neg (fun h=>h2 h.2),if_neg h2];omega
 ·rw[ht]
  rcases h.msg m hm with h1|⟨h1,h2,h3,h4,h5⟩
  ·exact ZND he h1
  ·exact ZNE he h1 h2 (by rw[h3];exact (h.snd h1).symm) h4 h5
end Go.Proofs.YtoccdlnoaindmaaGreatDoor
namespace Go.Proofs.YtoccdlnoaindmaaGreatDoor
set_option linter.unusedVariables false
set_option linter.unusedSimpArgs false
attribute [local go_sem ↓] Zz Z0 QB QD Q8 Zg QA Q9 QC Qk ZM Zf Zy ZL Ze Zx ZS Zk QJ Z1 ZN QE Zh Zi Z4 Zj Z5 Zt Zd Qa QF Qc Qd XQ Qj XR XS Q6 Qo
attribute [local go_sem] Z2 ZO XT Z6 ZR XP Qh Qf Qe KT KU Qi QG QH QI Q7 ZI Zv ZQ Zu ZP Z3 aop YC XG XB Q2 XC QU XD Uh Y4 YZ amm YK QT Zp YQ XA Y0 comma Qx Y3 Ug Y2 Y1 UL YO YM XJ UK eqC eqF Jg cellsOf ZC Xm Xg YN Vx rd rdI Xs mk Qr AV.cell List.all_cons List.all_nil Bool.and_true Bool.true_and Bool.and_self List.length_cons List.length_nil List.length_append Nat.reduceAdd Nat.reduceSub Nat.reduceMul Nat.zero_add Nat.add_zero List.cons_append List.nil_append List.append_assoc List.append_nil List.getElem?_cons_zero List.getElem?_cons_succ List.getElem?_nil List.set_cons_zero List.set_cons_succ List.drop_zero List.drop_succ_cons List.take_zero List.take_succ_cons List.take_nil List.drop_nil List.map_cons List.map_nil Option.map_some if_true if_false Bool.false_eq_true and_self true_and and_true Nat.reduceLeDiff Nat.reduceLT Nat.le_refl Nat.reduceEqDiff ite_true ite_false beq_self_eq_true beq_true beq_false Bool.not_true Bool.not_false Bool.true_beq Bool.false_beq Xl Q4 Zr Qt Qw QZ QY QX QW Qv Qu Xi Z7 ZAR Ke ZAS ZAP JJ JH JK JI geI gtI JM decide_true decide_false room List.getElem?_map List.length_map List.length_take Int.toNat_natCast Nat.min_def Nat.min_self XU XM Xk QR Xb VC Zn List.getElem_cons_zero List.getElem_cons_succ
def m7:Ms:=⟨0,1,7,[]⟩
def m8:Ms:=⟨0,1,8,[]⟩
theorem ZKy {n:Nw} {to:Int} (h:0≤fiR n to):∃k:Nat,fiR n to=k∧k<n.l.length∧arB n to k=true∧∀j,j<k→arB n to j=false:=by
 unfold fiR ZJE at *
 cases hf:(List.range n.l.length).find? (arB n to) with
 |none=>rw[hf]at h;cases h
 |some k =>
   refine⟨k,rfl,List.mem_range.1 (List.mem_of_find?_eq_some hf),List.find?_some hf,fun j hj=>?_⟩
   obtain⟨as1,bs1,h1,h2⟩:=List.find?_eq_some_iff_append.1 hf |>.2
   have hjr:(List.range n.l.length)[j]? = some j:=List.getElem?_range (by have:=List.mem_range.1 (List.mem_of_find?_eq_some hf);omega)
   have hlen:as1.length=k:=by
    have h3:(List.range n.l.length)[as1.length]? = some k:=by rw[h1];simp
    have h4:=(List.getElem?_eq_some_iff.1 h3).1
    rw[List.length_range]at h4
    rw[List.getElem?_range h4]at h3
    exact Option.some.inj h3
   rw[h1,List.getElem?_append_left oM]at hjr
   have:=h2 j (List.mem_of_getElem? hjr)
   simpa using this
end Go.Proofs.YtoccdlnoaindmaaGreatDoor
namespace Go.Proofs.YtoccdlnoaindmaaGreatDoor
set_option linter.unusedVariables false
set_option linter.unusedSimpArgs false
attribute [local go_sem ↓] Zz Z0 QB QD Q8 Zg QA Q9 QC Qk ZM Zf Zy ZL Ze Zx ZS Zk QJ Z1 ZN QE Zh Zi Z4 Zj Z5 Zt Zd Qa QF Qc Qd XQ Qj XR XS Q6 Qo
attribute [local go_sem] Z2 ZO XT Z6 ZR XP Qh Qf Qe KT KU Qi QG QH QI Q7 ZI Zv ZQ Zu ZP Z3 aop YC XG XB Q2 XC QU XD Uh Y4 YZ amm YK QT Zp YQ XA Y0 comma Qx Y3 Ug Y2 Y1 UL YO YM XJ UK eqC eqF Jg cellsOf ZC Xm Xg YN Vx rd rdI Xs mk Qr AV.cell List.all_cons List.all_nil Bool.and_true Bool.true_and Bool.and_self List.length_cons List.length_nil List.length_append Nat.reduceAdd Nat.reduceSub Nat.reduceMul Nat.zero_add Nat.add_zero List.cons_append List.nil_append List.append_assoc List.append_nil List.getElem?_cons_zero List.getElem?_cons_succ List.getElem?_nil List.set_cons_zero List.set_cons_succ List.drop_zero List.drop_succ_cons List.take_zero List.take_succ_cons List.take_nil List.drop_nil List.map_cons List.map_nil Option.map_some if_true if_false Bool.false_eq_true and_self true_and and_true Nat.reduceLeDiff Nat.reduceLT Nat.le_refl Nat.reduceEqDiff ite_true ite_false beq_self_eq_true beq_true beq_false Bool.not_true Bool.not_false Bool.true_beq Bool.false_beq Xl Q4 Zr Qt Qw QZ QY QX QW Qv Qu Xi Z7 ZAR Ke ZAS ZAP JJ JH JK JI geI gtI JM decide_true decide_false room List.getElem?_map List.length_map List.length_take Int.toNat_natCast Nat.min_def Nat.min_self XU XM Xk QR Xb VC Zn List.getElem_cons_zero List.getElem_cons_succ
attribute [local go_sem] Kh ZBb U3 ZAZ U2 ZAY Zb Yt
theorem ZDE {n:Nw} {to:Int}:∀i,(∀j,j<i→arB n to j=false)→wtN n to i=0
 |0,_=>rfl
 |i+1,h=>by
   simp only[wtN]
   rw[h i oM,ZDE i (fun j hj=>h j oM)];rfl
theorem ZIQ {n:Nw} {to:Int} (h:fiR n to<0):∀j,j<n.l.length→arB n to j=false:=by
 intro j hj
 cases hc:arB n to j with
 |false=>rfl
 |true =>
   exfalso
   unfold fiR ZJE at h
   cases hf:(List.range n.l.length).find? (arB n to) with
   |none =>
     have:=List.find?_eq_none.1 hf j (List.mem_range.2 hj)
     rw[hc]at this;exact this rfl
   |some k=>rw[hf]at h;simp only at h;omega
end Go.Proofs.YtoccdlnoaindmaaGreatDoor
namespace Go.Proofs.YtoccdlnoaindmaaGreatDoor
set_option linter.unusedVariables false
set_option linter.unusedSimpArgs false
theorem asg1 {nv i:Nat} (hi:i<nv) {v:Int} (hv:vlB v=true):Q0 (ZBV nv [⟨i,v⟩]) 1=0:=by
 have hb:ZCF v=true:=by
  unfold vlB at hv;unfold ZCF
  simpa using hv
 have hin:inB ((i:Nat):Int) 0 ((nv:Int)-1)=true:=by
  unfold inB;simp;omega
 simp only[Q0,if_true]
 unfold ZBV
 simp only[List.getD_cons_zero,hb,hin,List.take_zero,List.any_nil]
 rfl
theorem ZEQ {l:List Int} {i:Nat} {v:Int} (h:∀x∈l,vlB x=true) (hv:vlB v=true):∀x∈l.set i v,vlB x=true:=fun x hx=>by
 rcases List.mem_or_eq_of_mem_set hx with h1|h1
 ·exact h x h1
 ·rw[h1];exact hv
theorem ZHS {w:Wd} (hw:WdV w) {p:Nat} (hp:p<w.sv.length) (hroom:(Zc w.tr p).length<64) {c:Int} {v:List Int} {a:List Asg} (hc:0≤c∧c≤(w.sv.getD p dfSv).code.length) (hv:v.length=(w.sv.getD p dfSv).vars.length) (hvv:∀x∈v,vlB x=true)
  (al:a.length≤8) (af:Q0 (ZBV (w.sv.getD p dfSv).vars.length a) a.length=0) (hap:apE (w.sv.getD p dfSv).vars ⟨1,0,0,0,a⟩=v) {n:Nw} (hn:NwV n) (hnn:n.now=w.now) (hm:∀m∈n.l,m∈w.net.l) :
  PutOk w p {w.sv.getD p dfSv with pc:=c,vars:=v} ⟨1,0,0,0,a⟩ n w.sent:=
 ⟨hp,⟨c,v,rfl,hc,hv,hvv,hap⟩,hroom,rfl,al,af,fun h=>absurd (show (1:Int)=2 from h) (by decide),fun h=>absurd (show (1:Int)=3 from h) (by decide),hn,hnn,rfl,fun m h=>.inl (hw.msg m (hm m h))⟩
theorem ZFc {t:Tr} {k m:Int} (h:¬(J2 t k m).2>0):∀x∈ids t,(Zm t x).kind=k→(Zm t x).msg≠m:=fun x hx hk hm=>by
 cases hf:Xc t k m with
 |none =>
   have:=List.find?_eq_none.1 hf x hx
   rw[hk,hm]at this;simp at this
 |some y =>
   obtain⟨h1,h2,_⟩:=Qg hf
   rw[show ZH t (ids t) k m=J2 t k m from rfl]at h1
   rw[h1]at h;exact h h2
theorem ZHo {t:Tr} (hv:Vok t) {m:Ms} (hm:mgB t m=true):m.body.length=1∧∃q i,m.fr=(q:Nat)∧(q,i+1)∈ids t∧(Zm t (q,i+1)).kind=2∧(Zm t (q,i+1)).msg=m.nu∧(Zm t (q,i+1)).peer=m.to:=by
 unfold mgB at hm
 simp only[Bool.and_eq_true,decide_eq_true_eq]at hm
 obtain⟨h1,h2,h3,h4⟩:=hm
 obtain⟨q,i,hq,hpl,hi⟩:=ZBg h2
 rw[hq]at h3 h4
 rw[Uu (Jh hv)]at hq
 refine⟨h1,q,i,h3.symm,?_⟩
 have hf:Xc t 2 m.nu=some (q,i+1):=by
  cases hc:Xc t 2 m.nu with
  |none =>
    have:J2 t 2 m.nu=(0,0):=by unfold J2 ZH;show (Xc t 2 m.nu).getD (0,0)=_;rw[hc];rfl
    rw[this]at hq
    have:=congrArg Prod.snd hq;simp only at this;omega
  |some x=>have:=(Qg hc).1;rw[show ZH t (ids t) 2 m.nu=J2 t 2 m.nu from rfl,hq]at this;rw[this]
 exact⟨VU hf,(YE hf).1,(YE hf).2,h4⟩
theorem ZKd {n:Nw} {k:Nat} {m:Ms} (h:m∈(woN n k).l):m∈n.l:=by
 change m∈n.l.take k++n.l.drop (k+1) at h
 rcases List.mem_append.1 h with h|h
 ·exact List.mem_of_mem_take h
 ·exact List.mem_of_mem_drop h
theorem ins_mem {n:Nw} {m x:Ms} {a:Int} {c:Nat} (h:x∈(ZGW n m a c).l):x∈n.l∨x=m:=by
 change x∈n.l.take _++_++n.l.drop _ at h
 rw[List.mem_append,List.mem_append]at h
 rcases h with (h|h)|h
 ·exact .inl (List.mem_of_mem_take h)
 ·exact .inr (List.mem_replicate.1 h).2
 ·exact .inl (List.mem_of_mem_drop h)
theorem ZBo {w:Wd} {p:Nat} (h:J3 w p=true):ZBP (w.sv.getD p dfSv)=false∧(Zc w.tr p).length<64∧(ZGR (w.sv.getD p dfSv)=4→0<Vt w.net p)∧(ZGR (w.sv.getD p dfSv)=3→w.sent≤199):=by
 unfold J3 at h
 rw[Bool.and_eq_true]at h
 obtain⟨h1,h2⟩:=h
 rw[Bool.not_eq_true',Bool.or_eq_false_iff]at h1
 refine⟨h1.1,by have:=of_decide_eq_false h1.2;omega,fun h4=>?_,fun h3=>?_⟩
 ·rw[if_pos h4]at h2;exact of_decide_eq_true h2
 ·rw[if_neg oM,if_pos h3]at h2;exact of_decide_eq_true h2
theorem ZG6 {n:Nw} {to:Int} (h:0<Vt n to):0≤fiR n to:=by
 rcases Int.lt_or_le (fiR n to) 0 with h1|h1
 ·exfalso
  unfold Vt at h
  split at h
  ·rw[ZDE _ (ZIQ h1)]at h;omega
  ·omega
 ·exact h1
theorem ZMk {w:Wd} (hw:WdV w) {p:Nat} (hp:p<w.sv.length) (hroom:(Zc w.tr p).length<64) {x:In} (hx:0≤x.a∧x.a<(w.sv.getD p dfSv).vars.length) (hpc:0≤(w.sv.getD p dfSv).pc∧(w.sv.getD p dfSv).pc<(w.sv.getD p dfSv).code.length)
  (hb:fiR w.net p<0→0≤x.b∧x.b<(w.sv.getD p dfSv).code.length):∃s e n sn,ZKo w p (w.sv.getD p dfSv) x=ZMZ w p s e n sn∧PutOk w p s e n sn:=by
 obtain⟨s,hs⟩:∃s,w.sv.getD p dfSv=s:=⟨_,rfl⟩
 have hsv:=(Ji hw.sv hp).1
 rw[hs]at hsv hx hpc hb⊢
 unfold ZKo
 by_cases h1:fiR w.net p<0
 ·rw[if_pos h1]
  have:=hb h1
  have e:({s with pc:=x.b}:Sv)={s with pc:=x.b,vars:=s.vars}:=rfl
  exact⟨_,_,w.net,w.sent,rfl,by
   have:=ZHS hw hp hroom (c:=x.b) (v:=s.vars) (a:=[]) (by rw[hs];omega) (by rw[hs]) hsv.vs (by simp) rfl (by rw[hs];rfl) hw.net hw.nnow (fun m h=>h)
   rw[hs]at this;exact this⟩
 rw[if_neg h1]
 obtain⟨k,hk,hkl,hka,_⟩:=ZKy (n:=w.net) (to:=p) oM
 rw[hk,Int.toNat_natCast]
 obtain⟨m,hm⟩:∃m,w.net.l.getD k dfMs=m:=⟨_,rfl⟩
 have hmem:m∈w.net.l:=by rw[←hm,ZF hkl];exact List.getElem_mem hkl
 unfold arB at hka
 simp only[Bool.and_eq_true,decide_eq_true_eq]at hka
 rw[hm]at hka⊢
 have hno:=hw.net.out hkl
 by_cases h2:(J2 w.tr 3 m.nu).2>0
 ·rw[if_pos h2]
  exact⟨_,_,woN w.net k,w.sent,rfl,by
   have:=ZHS hw hp hroom (c:=s.pc) (v:=s.vars) (a:=[]) (by rw[hs];omega) (by rw[hs]) hsv.vs (by simp) rfl (by rw[hs];rfl) hno hw.nnow (fun m h=>ZKd h)
   rw[hs]at this;exact this⟩
 rw[if_neg h2]
 obtain⟨hb1,q,i,hq,hqi,hk2,hmn,hpe⟩:=ZHo hw.tr (hw.msg m hmem)
 have hms:=hw.net.ms m hmem
 unfold msB ptB at hms
 simp only[Bool.and_eq_true,decide_eq_true_eq,List.all_eq_true]at hms
 obtain⟨m1,m2,m3,m4,m5,m6⟩:=hms
 obtain⟨j,hj⟩:∃j:Nat,x.a=j:=⟨x.a.toNat,by omega⟩
 have hql:=(Xp.1 hqi).1
 have hvv:vlB (m.body.getD 0 0)=true:=by rw[ZF oM];exact m6 _ (List.getElem_mem _)
 rw[hj,Int.toNat_natCast]
 refine⟨_,_,woN w.net k,w.sent,rfl,⟨hp,⟨s.pc+1,s.vars.set j (m.body.getD 0 0),by rw[hs];rfl,by rw[hs];omega,by rw[hs];simp,ZEQ hsv.vs hvv,by rw[hs];rfl⟩,hroom,?_,by simp[ZFo],by rw[hs];exact asg1 oM hvv,fun h=>absurd (show (3:Int)=2 from h) (by decide),fun _=>⟨ZFc h2,?_⟩,hno,hw.nnow,rfl,fun m h=>.inl (hw.msg m (ZKd h))⟩⟩
 ·unfold QN ZFo inB
  simp only[show ((3:Int)==1)=false from rfl,show ((3:Int)==2)=false from rfl,show ((3:Int)==3)=true from rfl,Bool.or_true,if_true,Bool.false_eq_true,if_false]
  have:(m.fr != (p:Int))=true:=by simp;omega
  rw[this]
  simp;omega
 ·unfold Yn ZFo
  simp only
  rw[hq,Int.toNat_natCast,List.any_eq_true]
  refine⟨Zm w.tr (q,i+1),ZKI hqi,?_⟩
  rw[hk2,hmn,hpe,hka.1];simp
theorem ZMf {w:Wd} (hw:WdV w) {p:Nat} (hp:p<w.sv.length) (hen:J3 w p=true) (hok:(stW w p).2=0):∃s e n sn,(stW w p).1=ZMZ w p s e n sn∧PutOk w p s e n sn:=by
 obtain⟨he,hroom,h4,h3⟩:=ZBo hen
 have hsv:=(Ji hw.sv hp).1
 unfold stW at hok⊢
 obtain⟨s,hs⟩:∃s,w.sv.getD p dfSv=s:=⟨_,rfl⟩
 have hL:=fun {c v a} hc hv hvv al af hap=>ZHS hw hp hroom (c:=c) (v:=v) (a:=a) hc hv hvv al af hap hw.net hw.nnow (fun m h=>h)
 have hR:=fun {x} hx hpc hb=>ZMk hw hp hroom (x:=x) hx hpc hb
 rw[hs]at hsv he h4 h3 hok hL hR⊢
 unfold ZBP at he
 rw[Bool.or_eq_false_iff]at he
 have hpc:0≤s.pc∧s.pc<s.code.length:=by have:=hsv.pc;have:=of_decide_eq_false he.1;omega
 obtain⟨x,hx⟩:∃x,s.code.getD s.pc.toNat ZI0=x:=⟨_,rfl⟩
 have hox:ZGR s=x.op:=by unfold ZGR;rw[hx]
 have h8:x.op≠8:=by have:=of_decide_eq_false he.2;rw[hx]at this;exact this
 have hin:Vp s.vars.length s.code.length p w.sv.length x=true:=hsv.ins x (by rw[←hx,ZF oM];exact List.getElem_mem _)
 rw[hox]at h4 h3
 rw[hx]at hok⊢
 have hc1:0≤s.pc+1∧s.pc+1≤s.code.length:=by omega
 have noA:∀c:Int,0≤c∧c≤s.code.length→PutOk w p {s with pc:=c} dfEv54 w.net w.sent:=fun c hc=>hL (a:=[]) hc rfl hsv.vs (by simp) rfl rfl
 unfold Vp inZ at hin
 unfold stI at hok⊢
 by_cases o1:x.op=1
 ·rw[if_pos o1]at hok⊢
  rw[if_pos (.inl o1)]at hin
  simp only[Bool.and_eq_true,decide_eq_true_eq]at hin
  obtain⟨j,hj⟩:∃j:Nat,x.a=j:=⟨x.a.toNat,by omega⟩
  rw[hj,Int.toNat_natCast]
  exact⟨_,_,w.net,w.sent,rfl,hL hc1 (by simp) (ZEQ hsv.vs hin.2) (by simp) (asg1 oM hin.2) rfl⟩
 rw[if_neg o1]at hok⊢
 by_cases o2:x.op=2
 ·rw[if_pos o2]at hok⊢
  rw[if_pos (.inr o2)]at hin
  simp only[Bool.and_eq_true,decide_eq_true_eq]at hin
  obtain⟨j,hj⟩:∃j:Nat,x.a=j:=⟨x.a.toNat,by omega⟩
  rw[hj,Int.toNat_natCast]at hok⊢
  by_cases hq:vlB (s.vars.getD j 0+x.b)=true
  ·rw[if_pos hq]
   exact⟨_,_,w.net,w.sent,rfl,hL hc1 (by simp) (ZEQ hsv.vs hq) (by simp) (asg1 oM hq) rfl⟩
  ·rw[if_neg hq]at hok;cases hok
 rw[if_neg o2]at hok⊢
 rw[if_neg oM]at hin
 by_cases o6:x.op=6
 ·rw[if_pos o6]at hok⊢
  rw[if_neg oM,if_neg oM,if_neg oM,if_pos o6]at hin
  simp only[Bool.and_eq_true,decide_eq_true_eq]at hin
  obtain⟨j,hj⟩:∃j:Nat,x.b=j:=⟨x.b.toNat,by omega⟩
  have hjl:j<s.vars.length:=by omega
  rw[hj,Int.toNat_natCast]at hok⊢
  by_cases h0:0<s.vars.getD j 0
  ·rw[if_pos h0]
   have hq:vlB (s.vars.getD j 0-1)=true:=by
    have:=hsv.vs (s.vars.getD j 0) (by rw[ZF hjl];exact List.getElem_mem hjl)
    unfold vlB at this⊢
    simp only[decide_eq_true_eq]at this⊢
    omega
   exact⟨_,_,w.net,w.sent,rfl,hL (c:=x.a) oM (by simp) (ZEQ hsv.vs hq) (by simp) (asg1 hjl hq) rfl⟩
  ·rw[if_neg h0]
   exact⟨_,_,w.net,w.sent,rfl,noA _ hc1⟩
 rw[if_neg o6]at hok⊢
 by_cases o3:x.op=3
 ·rw[if_pos o3]at hok⊢
  rw[if_pos o3]at hin
  simp only[Bool.and_eq_true,decide_eq_true_eq]at hin
  obtain⟨j,hj⟩:∃j:Nat,x.a=j:=⟨x.a.toNat,by omega⟩
  obtain⟨m,hm⟩:∃m,VA w p s x=m:=⟨_,rfl⟩
  have hmd:m=⟨p,x.b,w.sent,[s.vars.getD j 0]⟩:=by rw[←hm];unfold VA;rw[hj,Int.toNat_natCast]
  rw[hm]at hok⊢
  have hp8:=(ZCJ hw.sv).2
  have hs0:0≤w.sent:=by have:=hw.cnt;omega
  have hs1:=h3 o3
  have hms:msB m=true:=by
   have:=hsv.vs (s.vars.getD j 0) (by rw[ZF oM];exact List.getElem_mem _)
   rw[hmd]
   unfold msB ptB
   simp only[List.all_cons,List.all_nil,this,Bool.and_true,List.length_singleton,Bool.and_eq_true,decide_eq_true_eq]
   refine⟨by omega,by omega,by omega,by omega,by omega⟩
  by_cases hz:sdE w.net m=0
  ·rw[if_pos hz]
   have hN:sdR w.net m=ZGW w.net m (V3 w.net m) (ZGY w.net).toNat:=by unfold sdR;rw[if_pos hz]
   have hvN:NwV (sdR w.net m):=by
    rw[hN]
    unfold sdE at hz
    split at hz
    ·cases hz
    rename_i z1
    split at hz
    ·cases hz
    rename_i z2
    have h0:=(ZBc hw.net).1
    have ht:=ZAg hw.net (m:=m) w.net.l.length (Nat.le_refl _)
    have hn0:=hw.net.now
    refine hw.net.ins hms ⟨?_,?_⟩ ?_
    ·unfold V3;omega
    ·omega
    ·unfold ZGY at z2⊢;omega
   refine⟨_,_,sdR w.net m,w.sent+1,rfl,⟨hp,⟨s.pc+1,s.vars,by rw[hs],by rw[hs];exact hc1,by rw[hs],hsv.vs,by rw[hs];rfl⟩,hroom,?_,by simp,rfl,fun _=>rfl,fun h=>absurd (show (2:Int)=3 from h) (by decide),hvN,?_,rfl,fun y hy=>?_⟩⟩
   ·have hl:=hw.len
    unfold QN inB
    simp only[show ((2:Int)==1)=false from rfl,show ((2:Int)==2)=true from rfl,Bool.true_or,if_true,Bool.false_eq_true,if_false]
    have:(x.b != (p:Int))=true:=by simp;omega
    rw[this]
    simp;omega
   ·rw[hN];exact hw.nnow
   ·rw[hN]at hy
    rcases ins_mem hy with hy|hy
    ·exact .inl (hw.msg y hy)
    ·rw[hy,hmd];exact .inr ⟨rfl,rfl,rfl,rfl,rfl⟩
  ·rw[if_neg hz]at hok;exact absurd hok hz
 rw[if_neg o3]at hok⊢
 rw[if_neg o3]at hin
 by_cases o45:x.op=4∨x.op=5
 ·rw[if_pos o45]at hok⊢
  have hxa:0≤x.a∧x.a<s.vars.length:=by
   rcases o45 with o|o<;>simp[o]at hin<;>omega
  refine hR hxa hpc (fun hf=>?_)
  rcases o45 with o|o
  ·have:=ZG6 (h4 o);omega
  ·simp[o]at hin;omega
 rw[if_neg o45]
 exact⟨_,_,w.net,w.sent,rfl,noA _ hc1⟩
theorem Kc {w:Wd} (hw:WdV w) {p:Nat} (hp:p<w.sv.length) (hen:J3 w p=true) (hok:(stW w p).2=0):WdV (stW w p).1:=by
 obtain⟨s,e,n,sn,h1,h2⟩:=ZMf hw hp hen hok
 rw[h1];exact h2.valid hw
def tkW (w:Wd) (by_:Int):Wd:={w with now:=w.now+by_,net:={w.net with now:=w.now+by_}}
theorem ZKT {s:Sv} (hr:Vy s=true) {a b:Int} (ha:0≤a) (hab:a≤b) (hb:b≤1000000000):Uc s a≤Uc s b:=by
 rw[(ZIa hr ⟨ha,by omega⟩).1,(ZIa hr ⟨by omega,hb⟩).1]
 have h1:a*s.rate≤b*s.rate:=Int.mul_le_mul_of_nonneg_right hab (by unfold Vy inZ at hr;simp only[Bool.and_eq_true,decide_eq_true_eq]at hr;omega)
 have:=Int.ediv_le_ediv (c:=1000) oM h1
 omega
theorem ZJW {w:Wd} (hw:WdV w) {k:Int} (hk:0≤k∧w.now+k≤1000000000):WdV (tkW w k):=by
 have hn:=hw.now
 refine⟨hw.sv,⟨by show 0≤w.now+k;omega,hk.2⟩,hw.net.at oM,rfl,hw.tr,hw.len,fun p hp=>?_,hw.snt,hw.cnt,hw.msg⟩
 have hf:=hw.fit p hp
 change ZBf (w.tr.getD p dfPr) (w.sv.getD p dfSv) (w.now+k)=true
 have hs:=(Ji hw.sv (p:=p) (by rw[←hw.len];exact hp)).1
 have hc:=ZKT hs.rt hn.1 (show w.now≤w.now+k by omega) hk.2
 unfold ZBf ZJV at hf⊢
 simp only[Bool.and_eq_true,decide_eq_true_eq]at hf⊢
 obtain⟨f1,f2,f3,f4,f5⟩:=hf
 refine⟨f1,f2,f3,f4,?_⟩
 rcases f5 with f5|f5
 ·exact .inl f5
 ·exact .inr oM
end Go.Proofs.YtoccdlnoaindmaaGreatDoor
namespace Go.Proofs.YtoccdlnoaindmaaGreatDoor
set_option linter.unusedVariables false
set_option linter.unusedSimpArgs false
theorem ZMd {l:List Sv} (h:VE l=true):SvsS l:=by
 have hn:=ZCJ h
 refine⟨by omega,fun s hs=>?_⟩
 obtain⟨p,hp,rfl⟩:=List.getElem_of_mem hs
 have hv:=(Ji h hp).1
 rw[ZF hp]at hv
 have h1:=ZBE hv.name
 have h2:=hv.cl
 have h3:=hv.vl
 exact⟨by omega,by omega,by omega⟩
theorem WdV.small {w:Wd} (h:WdV w):Small w.tr:=h.tr.small
theorem WdV.nm {w:Wd} (h:WdV w):Nm w.tr:=h.tr.nm
theorem WdV.svS {w:Wd} (h:WdV w):SvsS w.sv:=ZMd h.sv
theorem WdV.evl {w:Wd} (h:WdV w) {p:Nat} (hp:p<w.tr.length):(w.tr.getD p dfPr).evs.length≤64:=by
 rw[ZF hp];exact Vd hp (h.tr.head p hp)
theorem WdV.sent {w:Wd} (h:WdV w):0≤w.sent∧w.sent≤512:=by
 have hc:=h.cnt
 have:=ZIc (t:=w.tr) (fun x hx=>by
  obtain⟨p,hp,rfl⟩:=List.getElem_of_mem hx
  exact Vd hp (h.tr.head p hp)) w.tr.length (Nat.le_refl _)
 have:=h.tr.hi
 omega
theorem ZKb {n:Nw} {to:Int} {j:Nat}:∀{i:Nat},j<i→arB n to j=true→0<wtN n to i
 |0,h,_=>by omega
 |i+1,h,ha=>by
   simp only[wtN]
   by_cases hj:j<i
   ·have:=ZKb hj ha
    split<;>omega
   ·obtain rfl:j=i:=by omega
    rw[if_pos ha];omega
theorem ZML {w:Wd} (hw:WdV w) {p:Nat} (hp:p<w.sv.length) (he:J3 w p=true):∃k:Nat,(w.sv.getD p dfSv).pc=k∧k<(w.sv.getD p dfSv).code.length∧(w.sv.getD p dfSv).code.getD (w.sv.getD p dfSv).pc.toNat ZI0=(w.sv.getD p dfSv).code.getD k ZI0∧ZGR (w.sv.getD p dfSv)≠8∧Vp (w.sv.getD p dfSv).vars.length (w.sv.getD p dfSv).code.length p w.sv.length ((w.sv.getD p dfSv).code.getD k ZI0)=true:=by
 have hs:=(Ji hw.sv hp).1
 obtain⟨h1,_⟩:=ZBo he
 unfold ZBP at h1
 rw[Bool.or_eq_false_iff]at h1
 have h2:=of_decide_eq_false h1.1
 have hpc:=hs.pc
 obtain⟨k,hk⟩:∃k:Nat,(w.sv.getD p dfSv).pc=k:=⟨(w.sv.getD p dfSv).pc.toNat,by omega⟩
 have hkl:k<(w.sv.getD p dfSv).code.length:=by omega
 refine⟨k,hk,hkl,by rw[hk,Int.toNat_natCast],fun h=>of_decide_eq_false h1.2 h,?_⟩
 rw[ZF hkl]
 exact hs.ins _ (List.getElem_mem hkl)
end Go.Proofs.YtoccdlnoaindmaaGreatDoor
