/- Texts of one proof, laid together: X2, OE, BV, X3, X6, OF, X4, X7, BI, X8, RW, NT, TR, TX. No condition. -/
import Derived.Test.YtoccdlnoaindmaaGreatDoorWC8
import Derived.Test.YtoccdlnoaindmaaGreatDoorWC5
import Derived.Test.YtoccdlnoaindmaaGreatDoorWC6
import Derived.Test.YtoccdlnoaindmaaGreatDoorWC2
import Derived.Test.YtoccdlnoaindmaaGreatDoorWC7
import Derived.Test.YtoccdlnoaindmaaGreatDoorWC3
import Derived.Test.YtoccdlnoaindmaaGreatDoorProg
import Derived.KernelRfl
set_option maxHeartbeats 16000000
set_option maxRecDepth 20000
namespace Go.Proofs.YtoccdlnoaindmaaGreatDoor
set_option linter.unusedVariables false
set_option linter.unusedSimpArgs false
attribute [local go_sem ↓] Zz Z0 QB QD Q8 Zg QA Q9 QC Qk ZM Zf Zy ZL Ze Zx ZS Zk QJ Z1 ZN QE Zh Zi Z4 Zj Z5 Zt Zd Qa QF Qc Qd XQ Qj XR XS Q6 Qo
attribute [local go_sem] Z2 ZO XT Z6 ZR XP Qh Qf Qe KT KU Qi QG QH QI Q7 ZI Zv ZQ Zu ZP Z3 aop YC XG XB Q2 XC QU XD Uh Y4 YZ amm YK QT Zp YQ XA Y0 comma Qx Y3 Ug Y2 Y1 UL YO YM XJ UK eqC eqF Jg cellsOf ZC Xm Xg YN Vx rd rdI Xs mk Qr AV.cell List.all_cons List.all_nil Bool.and_true Bool.true_and Bool.and_self List.length_cons List.length_nil List.length_append Nat.reduceAdd Nat.reduceSub Nat.reduceMul Nat.zero_add Nat.add_zero List.cons_append List.nil_append List.append_assoc List.append_nil List.getElem?_cons_zero List.getElem?_cons_succ List.getElem?_nil List.set_cons_zero List.set_cons_succ List.drop_zero List.drop_succ_cons List.take_zero List.take_succ_cons List.take_nil List.drop_nil List.map_cons List.map_nil Option.map_some if_true if_false Bool.false_eq_true and_self true_and and_true Nat.reduceLeDiff Nat.reduceLT Nat.le_refl Nat.reduceEqDiff ite_true ite_false beq_self_eq_true beq_true beq_false Bool.not_true Bool.not_false Bool.true_beq Bool.false_beq Xl Q4 Zr Qt Qw QZ QY QX QW Qv Qu Xi Z7 ZAR Ke ZAS ZAP JJ JH JK JI geI gtI JM decide_true decide_false room List.getElem?_map List.length_map List.length_take Int.toNat_natCast Nat.min_def Nat.min_self XU XM Xk QR Xb VC Zn List.getElem_cons_zero List.getElem_cons_succ
attribute [local go_sem] Kh ZBb U3 ZAZ U2 ZAY Zb Yt
def a_mstp:AFunc:=⟨2,141,[.tmp 4],(.seq (.region [⟨some 4,.mv (.c (.v (.int .i64 0))),none⟩]) (.seq (.region [⟨some 9,.mv (.t 0),none⟩,⟨some 10,.nilck (.t 9),none⟩,⟨some 11,.faddr 0 (.t 10),none⟩,⟨some 12,.faddr 0 (.t 11),none⟩,⟨some 13,.load none (.t 12),none⟩,⟨some 14,.mv (.t 1),none⟩,⟨some 15,.iaddr 6 (.t 13) (.t 14),none⟩,⟨some 5,.mv (.t 15),none⟩]) (.seq (.draw [⟨0,⟨some 16,.mv (.t 5),none⟩,[]⟩,⟨1,⟨some 17,.nilck (.t 16),none⟩,[]⟩,⟨2,⟨some 18,.faddr 1 (.t 17),none⟩,[]⟩,⟨3,⟨some 19,.load none (.t 18),none⟩,[]⟩,⟨4,⟨some 20,.mv (.t 5),none⟩,[]⟩,⟨5,⟨some 21,.nilck (.t 20),none⟩,[]⟩,⟨6,⟨some 22,.faddr 2 (.t 21),none⟩,[]⟩,⟨7,⟨some 23,.load none (.t 22),none⟩,[]⟩,⟨8,⟨some 24,.iaddr 3 (.t 19) (.t 23),none⟩,[]⟩,⟨9,⟨some 25,.load (some 3) (.t 24),none⟩,[]⟩,⟨10,⟨some 6,.alloc [(.v (.int .i64 0)),(.v (.int .i64 0)),(.v (.int .i64 0))],none⟩,[⟨some 16,.mv (.t 5),none⟩,⟨some 17,.nilck (.t 16),none⟩,⟨some 18,.faddr 1 (.t 17),none⟩,⟨some 19,.load none (.t 18),none⟩,⟨some 20,.mv (.t 5),none⟩,⟨some 21,.nilck (.t 20),none⟩,⟨some 22,.faddr 2 (.t 21),none⟩,⟨some 23,.load none (.t 22),none⟩,⟨some 24,.iaddr 3 (.t 19) (.t 23),none⟩,⟨some 25,.load (some 3) (.t 24),none⟩]⟩,⟨11,⟨none,.store 3 (.t 6) (.t 25),none⟩,[]⟩]) (.seq (.region [⟨some 26,.mv (.t 5),none⟩,⟨some 27,.nilck (.t 26),none⟩,⟨some 28,.faddr 2 (.t 27),none⟩,⟨some 29,.load none (.t 28),none⟩,⟨some 30,.bin .add (.t 29) (.c (.v (.int .i64 1))),none⟩,⟨some 7,.mv (.t 30),none⟩]) (.seq (.region [⟨some 8,.mv (.c (.v (.int .i64 0))),none⟩]) (.seq (.seq (.region [⟨some 31,.faddr 0 (.t 6),none⟩,⟨some 32,.load none (.t 31),none⟩]) (.block 0 (.seq (.region [⟨some 64,.bin .eql (.t 32) (.c (.v (.int .i64 1))),none⟩,⟨some 63,.mv (.t 64),none⟩]) (.cond (.t 63) (.draw [⟨0,⟨some 65,.mv (.t 0),none⟩,[]⟩,⟨1,⟨some 66,.mv (.t 1),none⟩,[]⟩,⟨2,⟨some 67,.faddr 1 (.t 6),none⟩,[]⟩,⟨3,⟨some 68,.load none (.t 67),none⟩,[]⟩,⟨4,⟨some 69,.faddr 2 (.t 6),none⟩,[]⟩,⟨5,⟨some 70,.load none (.t 69),none⟩,[]⟩,⟨6,⟨some 71,.call (.c (.fn 135 [])) [],none⟩,[⟨some 65,.mv (.t 0),none⟩,⟨some 66,.mv (.t 1),none⟩,⟨some 67,.faddr 1 (.t 6),none⟩,⟨some 68,.load none (.t 67),none⟩,⟨some 69,.faddr 2 (.t 6),none⟩,⟨some 70,.load none (.t 69),none⟩]⟩,⟨7,⟨some 72,.call (.c (.fn 134 [])) [(.t 65),(.t 66),(.t 68),(.t 70),(.t 71)],none⟩,[]⟩,⟨8,⟨some 8,.mv (.t 72),none⟩,[]⟩]) (.seq (.region [⟨some 74,.bin .eql (.t 32) (.c (.v (.int .i64 2))),none⟩,⟨some 73,.mv (.t 74),none⟩]) (.cond (.t 73) (.draw [⟨0,⟨some 75,.mv (.t 0),none⟩,[]⟩,⟨1,⟨some 76,.mv (.t 1),none⟩,[]⟩,⟨2,⟨some 77,.faddr 1 (.t 6),none⟩,[]⟩,⟨3,⟨some 78,.load none (.t 77),none⟩,[]⟩,⟨4,⟨some 79,.mv (.t 5),none⟩,[]⟩,⟨5,⟨some 80,.nilck (.t 79),none⟩,[]⟩,⟨6,⟨some 81,.faddr 3 (.t 80),none⟩,[]⟩,⟨7,⟨some 82,.load none (.t 81),none⟩,[]⟩,⟨8,⟨some 83,.faddr 1 (.t 6),none⟩,[]⟩,⟨9,⟨some 84,.load none (.t 83),none⟩,[]⟩,⟨10,⟨some 85,.iaddr 1 (.t 82) (.t 84),none⟩,[]⟩,⟨11,⟨some 86,.load none (.t 85),none⟩,[]⟩,⟨12,⟨some 87,.faddr 2 (.t 6),none⟩,[]⟩,⟨13,⟨some 88,.load none (.t 87),none⟩,[]⟩,⟨14,⟨some 89,.bin .add (.t 86) (.t 88),none⟩,[]⟩,⟨15,⟨some 90,.call (.c (.fn 135 [])) [],none⟩,[⟨some 75,.mv (.t 0),none⟩,⟨some 76,.mv (.t 1),none⟩,⟨some 77,.faddr 1 (.t 6),none⟩,⟨some 78,.load none (.t 77),none⟩,⟨some 79,.mv (.t 5),none⟩,⟨some 80,.nilck (.t 79),none⟩,⟨some 81,.faddr 3 (.t 80),none⟩,⟨some 82,.load none (.t 81),none⟩,⟨some 83,.faddr 1 (.t 6),none⟩,⟨some 84,.load none (.t 83),none⟩,⟨some 85,.iaddr 1 (.t 82) (.t 84),none⟩,⟨some 86,.load none (.t 85),none⟩,⟨some 87,.faddr 2 (.t 6),none⟩,⟨some 88,.load none (.t 87),none⟩,⟨some 89,.bin .add (.t 86) (.t 88),none⟩]⟩,⟨16,⟨some 91,.call (.c (.fn 134 [])) [(.t 75),(.t 76),(.t 78),(.t 89),(.t 90)],none⟩,[]⟩,⟨17,⟨some 8,.mv (.t 91),none⟩,[]⟩]) (.seq (.region [⟨some 93,.bin .eql (.t 32) (.c (.v (.int .i64 7))),none⟩,⟨some 92,.mv (.t 93),none⟩]) (.cond (.t 92) (.region [⟨some 94,.mv (.t 0),none⟩,⟨some 95,.mv (.t 1),none⟩,⟨some 96,.call (.c (.fn 135 [])) [],none⟩,⟨some 97,.call (.c (.fn 136 [])) [(.t 94),(.t 95),(.t 96)],none⟩]) (.seq (.region [⟨some 99,.bin .eql (.t 32) (.c (.v (.int .i64 6))),none⟩,⟨some 98,.mv (.t 99),none⟩]) (.cond (.t 98) (.seq (.draw [⟨0,⟨some 100,.mv (.t 5),none⟩,[]⟩,⟨1,⟨some 101,.nilck (.t 100),none⟩,[]⟩,⟨2,⟨some 102,.faddr 3 (.t 101),none⟩,[]⟩,⟨3,⟨some 103,.load none (.t 102),none⟩,[]⟩,⟨4,⟨some 104,.faddr 2 (.t 6),none⟩,[]⟩,⟨5,⟨some 105,.load none (.t 104),none⟩,[]⟩,⟨6,⟨some 106,.iaddr 1 (.t 103) (.t 105),none⟩,[]⟩,⟨7,⟨some 107,.load none (.t 106),none⟩,[]⟩,⟨8,⟨some 108,.bin .gtr (.t 107) (.c (.v (.int .i64 0))),none⟩,[]⟩]) (.cond (.t 108) (.seq (.region [⟨some 109,.faddr 1 (.t 6),none⟩,⟨some 110,.load none (.t 109),none⟩,⟨some 7,.mv (.t 110),none⟩]) (.draw [⟨0,⟨some 111,.mv (.t 0),none⟩,[]⟩,⟨1,⟨some 112,.mv (.t 1),none⟩,[]⟩,⟨2,⟨some 113,.faddr 2 (.t 6),none⟩,[]⟩,⟨3,⟨some 114,.load none (.t 113),none⟩,[]⟩,⟨4,⟨some 115,.mv (.t 5),none⟩,[]⟩,⟨5,⟨some 116,.nilck (.t 115),none⟩,[]⟩,⟨6,⟨some 117,.faddr 3 (.t 116),none⟩,[]⟩,⟨7,⟨some 118,.load none (.t 117),none⟩,[]⟩,⟨8,⟨some 119,.faddr 2 (.t 6),none⟩,[]⟩,⟨9,⟨some 120,.load none (.t 119),none⟩,[]⟩,⟨10,⟨some 121,.iaddr 1 (.t 118) (.t 120),none⟩,[]⟩,⟨11,⟨some 122,.load none (.t 121),none⟩,[]⟩,⟨12,⟨some 123,.bin .sub (.t 122) (.c (.v (.int .i64 1))),none⟩,[]⟩,⟨13,⟨some 124,.call (.c (.fn 135 [])) [],none⟩,[⟨some 111,.mv (.t 0),none⟩,⟨some 112,.mv (.t 1),none⟩,⟨some 113,.faddr 2 (.t 6),none⟩,⟨some 114,.load none (.t 113),none⟩,⟨some 115,.mv (.t 5),none⟩,⟨some 116,.nilck (.t 115),none⟩,⟨some 117,.faddr 3 (.t 116),none⟩,⟨some 118,.load none (.t 117),none⟩,⟨some 119,.faddr 2 (.t 6),none⟩,⟨some 120,.load none (.t 119),none⟩,⟨some 121,.iaddr 1 (.t 118) (.t 120),none⟩,⟨some 122,.load none (.t 121),none⟩,⟨some 123,.bin .sub (.t 122) (.c (.v (.int .i64 1))),none⟩]⟩,⟨14,⟨some 125,.call (.c (.fn 134 [])) [(.t 111),(.t 112),(.t 114),(.t 123),(.t 124)],none⟩,[]⟩,⟨15,⟨some 8,.mv (.t 125),none⟩,[]⟩])) (.region [⟨some 126,.mv (.t 0),none⟩,⟨some 127,.mv (.t 1),none⟩,⟨some 128,.call (.c (.fn 135 [])) [],none⟩,⟨some 129,.call (.c (.fn 136 [])) [(.t 126),(.t 127),(.t 128)],none⟩]))) (.seq (.region [⟨some 131,.bin .eql (.t 32) (.c (.v (.int .i64 3))),none⟩,⟨some 130,.mv (.t 131),none⟩]) (.cond (.t 130) (.region [⟨some 132,.mv (.t 0),none⟩,⟨some 133,.mv (.t 1),none⟩,⟨some 134,.load (some 3) (.t 6),none⟩,⟨some 135,.call (.c (.fn 137 [])) [(.t 132),(.t 133),(.t 134)],none⟩,⟨some 8,.mv (.t 135),none⟩]) (.block 1 (.seq (.region [⟨some 34,.faddr 0 (.t 6),none⟩,⟨some 35,.load none (.t 34),none⟩,⟨some 36,.bin .eql (.t 35) (.c (.v (.int .i64 5))),none⟩,⟨some 37,.mv (.t 36),none⟩,⟨some 38,.mv (.t 0),some (37,true)⟩,⟨some 39,.nilck (.t 38),some (37,true)⟩,⟨some 40,.faddr 0 (.t 39),some (37,true)⟩,⟨some 41,.faddr 1 (.t 40),some (37,true)⟩,⟨some 42,.load (some 5) (.t 41),some (37,true)⟩,⟨some 43,.mv (.t 1),some (37,true)⟩,⟨some 44,.call (.c (.fn 133 [])) [(.t 42),(.t 43)],some (37,true)⟩,⟨some 45,.bin .eql (.t 44) (.c (.v (.int .i64 0))),some (37,true)⟩,⟨some 46,.pick (.t 37) (.t 45) (.c (.v (.bool false))),none⟩,⟨some 33,.mv (.t 46),none⟩]) (.cond (.t 33) (.seq (.region [⟨some 47,.mv (.t 0),none⟩,⟨some 48,.mv (.t 1),none⟩,⟨some 49,.call (.c (.fn 135 [])) [],none⟩,⟨some 50,.call (.c (.fn 136 [])) [(.t 47),(.t 48),(.t 49)],none⟩]) (.region [⟨some 51,.faddr 2 (.t 6),none⟩,⟨some 52,.load none (.t 51),none⟩,⟨some 7,.mv (.t 52),none⟩])) (.seq (.region [⟨some 54,.mv (.t 0),none⟩,⟨some 55,.mv (.t 1),none⟩,⟨some 56,.load (some 3) (.t 6),none⟩,⟨some 57,.call (.c (.fn 138 [])) [(.t 54),(.t 55),(.t 56)],none⟩,⟨some 58,.not (.t 57),none⟩,⟨some 53,.mv (.t 58),none⟩]) (.cond (.t 53) (.region [⟨some 59,.mv (.t 5),none⟩,⟨some 60,.nilck (.t 59),none⟩,⟨some 61,.faddr 2 (.t 60),none⟩,⟨some 62,.load none (.t 61),none⟩,⟨some 7,.mv (.t 62),none⟩]) .skip))))))))))))))))) (.seq (.region [⟨some 136,.mv (.t 5),none⟩,⟨some 137,.mv (.t 7),none⟩,⟨some 138,.nilck (.t 136),none⟩,⟨some 139,.faddr 2 (.t 138),none⟩,⟨none,.store 1 (.t 139) (.t 137),none⟩]) (.seq (.region [⟨some 140,.mv (.t 8),none⟩,⟨some 4,.mv (.t 140),none⟩]) .ret))))))))⟩
theorem ZIt:Zq Tryz.prog 86=some a_mstp:=by kernel_rfl

noncomputable def stM (w:Wd) (p:Nat):Wd:=if (stW w p).2=0 then (stW w p).1 else pcW w p ((w.sv.getD p dfSv).pc+1)
theorem ZC8 {w:Wd} {p:Nat} (hp:p<w.sv.length) {s:Sv} (hs:w.sv.getD p dfSv=s) {kd pe ms:Int} {i:Nat} {v c:Int}:pcW (asW w p ⟨kd,pe,ms,0,[]⟩ i v) p c=ZAI w p (Sv.put {s with pc:=c} i v) (ZFo kd pe ms i v):=by
 unfold pcW asW
 simp only
 have hg:(w.sv.set p ((w.sv.getD p dfSv).put i v)).getD p dfSv=s.put i v:=by
  rw[List.getD_eq_getElem?_getD,List.getElem?_set_self hp,hs];rfl
 rw[hg,List.set_set]
 unfold ZAI evW ZFo
 rw[hs];rfl
theorem ZBO {w:Wd} {p:Nat} {s:Sv} (hs:w.sv.getD p dfSv=s) {e:Ev} {c:Int}:pcW (evW w p e) p c=ZAI w p {s with pc:=c} e:=by
 unfold pcW ZAI evW
 simp only
 rw[hs];rfl
theorem ZHl (f:Nat→Row) (w:Wd) (p q n:Nat) (hn:q+5≤n) (hw:WdV w) (hp:p<w.sv.length) (hen:J3 w p=true) (b l:List Row) (hb:b=kB n (mvF f w p q)) :
  ZA Tryz.prog 86 [.ptr (q+4) 0 0 0,.v (.int .i64 p)] b l (fun r b' l'=>r=.v (.int .i64 (stW w p).2)∧b'=kB n (mvF f (stM w p) p q)∧l'=l):=by
 refine ZD ZIt rfl (by decide) ?_
 intro B g hB hR hE hA;simp only[Zn]at hA
 rw[hb]at hB
 obtain⟨m,f',hm0,hB1,hout⟩:=ZHd hn hB
 clear hB
 subst hB1
 rw[Zb]at hR
 have hpt:p<w.tr.length:=by rw[hw.len];exact hp
 have hS:=hw.small
 have hN:=hw.nm
 have hsl8:=(ZCJ hw.sv).2
 have htl8:=hw.tr.hi
 have hsl:w.sv.length≤1000000:=by omega
 have htl:w.tr.length≤1000000:=by omega
 have hel:(w.tr.getD p dfPr).evs.length≤1000000:=by have:=hw.evl hpt;omega
 have hsv:=(Ji hw.sv hp).1
 obtain⟨k,hk,hkl,hki,h8,hin⟩:=ZML hw hp hen
 obtain⟨_,hroom,h4,h3⟩:=ZBo hen
 have hvn:=JE.2 hw.net
 have hsn:=hw.sent
 have hpo:ptB p=true:=by unfold ptB;simp;omega
 have cAs:=fun k pe ms i hi hvl v=>fun l=>ZC1 f' w p q m oM hp hpt hsl htl hel k pe ms i hi hvl v (kB m (mvF f' w p q)) l rfl
 have cEv:=fun k pe ms=>fun l=>ZAO f' w p q m oM hp hpt hsl htl hel k pe ms (kB m (mvF f' w p q)) l rfl
 have cSn:=fun x i hxi hi hvl hm=>fun l=>ZHm f' w p q m oM hp hpt hsl htl hel x i hxi hi hvl oM hvn hm (kB m (mvF f' w p q)) l rfl
 have cRc:=fun x i hxi hi hvl k hk mg hmg v hbd hvv=>fun l=>ZHn f' w p q m oM hp hpt hS hN hsl x i hxi hi hvl hvn hpo k hk mg hmg v hbd hvv (kB m (mvF f' w p q)) l rfl
 have hst:stW w p=stI w p (w.sv.getD p dfSv) ((w.sv.getD p dfSv).code.getD (w.sv.getD p dfSv).pc.toNat ZI0):=rfl
 have hM:stM w p=if (stW w p).2=0 then (stW w p).1 else pcW w p ((w.sv.getD p dfSv).pc+1):=rfl
 have hop:ZGR (w.sv.getD p dfSv)=((w.sv.getD p dfSv).code.getD (w.sv.getD p dfSv).pc.toNat ZI0).op:=rfl
 rw[hop,hki]at h8 h4 h3
 rw[hki]at hst
 obtain⟨s,hs⟩:∃s,w.sv.getD p dfSv=s:=⟨_,rfl⟩
 rw[hs]at hsv hk hkl h8 hin h4 h3 hst hM cAs cSn cRc
 obtain⟨x,hx⟩:∃x,s.code.getD k ZI0=x:=⟨_,rfl⟩
 rw[hx]at h8 hin h4 h3 hst
 have hgi:=ZBp hkl
 rw[ZF hkl]at hx
 rw[hx]at hgi
 have hsc:=hsv.cl
 have hsvl:=hsv.vl
 obtain⟨SV,hSV⟩:∃SV,VN w p (q+1)=SV:=⟨_,rfl⟩
 obtain⟨F,hF⟩:∃F,mvF f' w p q=F:=⟨_,rfl⟩
 obtain⟨hSl,gS,f0,f1,f4⟩:=Xe hp hpt hF hs hSV
 have gk:∀{j:Nat} {f:Nat→Row} {L:List Row},j<5→hget (kB m f) L (q+j)=some (f (q+j)):=fun hj=>J0 oM
 have kn:∀{j:Nat} {f:Nat→Row} {r:Row},j<5→YA (kB m f) (q+j) r=kB m (rUp f (q+j) r):=fun hj=>Vc oM
 have kl:∀{j:Nat} {f:Nat→Row} {r:Row} {L:List Row},j<5→YP (kB m f) L (q+j) r=L:=fun hj=>Vb oM
 have gk0:∀{f:Nat→Row} {L:List Row},hget (kB m f) L q=some (f q):=J0 oM
 have kn0:∀{f:Nat→Row} {r:Row},YA (kB m f) q r=kB m (rUp f q r):=Vc oM
 have kl0:∀{f:Nat→Row} {r:Row} {L:List Row},YP (kB m f) L q r=L:=Vb oM
 have hkw:IntKind.i64.wrap (((k:Nat):Int)+1)=((k+1:Nat):Int):=by rw[Z7 oM oM];omega
 have hk1:((k+1:Nat):Int)=s.pc+1:=by omega
 rw[hF]at cAs cEv cSn cRc hR⊢
 have hRw:∀w',Z8 m (kB m (mvF f' w' p q)):=fun w'=>by rw[←hF]at hR;exact ZD0 oM hR
 have nm1:IntKind.i64.wrap (-1)=-1:=rfl
 by_cases o1:x.op=1
 ·unfold Vp at hin
  rw[if_pos (.inl o1)]at hin
  unfold inZ at hin
  simp only[Bool.and_eq_true,decide_eq_true_eq]at hin
  obtain⟨i,hi⟩:∃i:Nat,x.a=i:=⟨x.a.toNat,by omega⟩
  have hiv:i<s.vars.length:=by omega
  have cA:=cAs 1 0 0 i hiv oM x.b
  rw[if_pos hin.2,if_pos hin.2]at cA
  have hI:stI w p s x=(ZAI w p (Sv.put {s with pc:=s.pc+1} i x.b) (ZFo 1 0 0 i x.b),0):=by unfold stI;rw[if_pos o1,hi,Int.toNat_natCast]
  rw[hI]at hst
  have d1:(x.op==1)=true:=by rw[o1];rfl
  simp (disch:=first|decide|omega) only[a_mstp,hA,gk,gk0,f0,f1,f4,gS,hSl,hk,hgi,hkw,ZC,cellsOf,List.length_map,kn,kl,kn0,kl0,ZV,XZ,hi,d1,go_sem]
  refine ZA.nxt (Xh _ _) ?_
  simp (disch:=first|decide|omega) only[hA,gk,gk0,f0,f1,f4,gS,hSl,hk,hgi,hkw,ZC,cellsOf,List.length_map,kn,kl,kn0,kl0,ZV,XZ,hi,d1,go_sem]
  refine ZA.nxt (cA _) ?_
  obtain⟨w1,hw1⟩:∃w1,asW w p ⟨1,0,0,0,[]⟩ i x.b=w1:=⟨_,rfl⟩
  rw[hw1]
  have e1:w1.sv.length=w.sv.length:=by rw[←hw1];first|rfl|exact List.length_set
  have e2:w1.tr.length=w.tr.length:=by rw[←hw1];first|rfl|exact YW
  have hs1:w1.sv.getD p dfSv=s.put i x.b:=by rw[←hw1];first|exact hs|(show (w.sv.set p _).getD p dfSv=_;rw[List.getD_eq_getElem?_getD,List.getElem?_set_self hp,hs];rfl)
  obtain⟨SV1,hSV1⟩:∃SV1,VN w1 p (q+1)=SV1:=⟨_,rfl⟩
  obtain⟨F1,hF1⟩:∃F1,mvF f' w1 p q=F1:=⟨_,rfl⟩
  obtain⟨hS1,gS1,g0,g1,g4⟩:=Xe (by rw[e1];exact hp) (by rw[e2];exact hpt) hF1 hs1 hSV1
  have hpc:=Up (f':=f') (q:=q) (c:=((k+1:Nat):Int)) (show p<w1.sv.length by rw[e1];exact hp) hs1
  rw[hSV1,hF1]at hpc
  rw[e1]at hS1 g0 hpc
  rw[hF1]
  simp (disch:=first|decide|omega) only[hA,gk,gk0,g0,g1,g4,hS1,gS1,hk,hkw,ZC,cellsOf,List.length_map,kn,kl,kn0,kl0,ZV,XZ,hi,go_sem]
  rw[hpc]
  have hfin:stM w p=pcW w1 p (((k+1:Nat):Int)):=by rw[hk1,hM,hst,if_pos rfl,←hw1];exact (ZC8 hp hs).symm
  have hE2:(stW w p).2=0:=by rw[hst]
  rw[hE2,hfin]
  exact Qn (xs:=[.v (.int .i64 0)]) (.inr rfl) (by simp (disch:=first|decide|omega) only[ZE,ZY,go_sem,hA]) kO (by rw[Zb];exact hRw _) hb (hout _) ⟨rfl,rfl,rfl⟩
 by_cases o2:x.op=2
 ·unfold Vp at hin
  rw[if_pos (.inr o2)]at hin
  unfold inZ at hin
  have hxb:-1073741824≤x.b∧x.b≤1073741824:=by
   rw[Bool.and_eq_true]at hin
   have:=hin.2;unfold vlB at this;simpa using this
  simp only[Bool.and_eq_true,decide_eq_true_eq]at hin
  obtain⟨i,hi⟩:∃i:Nat,x.a=i:=⟨x.a.toNat,by omega⟩
  have hiv:i<s.vars.length:=by omega
  have hgv:=Jy hiv
  obtain⟨u,huu⟩:∃u,s.vars.getD i 0=u:=⟨_,rfl⟩
  have hub:-1073741824≤u∧u≤1073741824:=by
   have:=hsv.vs u (by rw[←huu,ZF hiv];exact List.getElem_mem hiv)
   unfold vlB at this
   simpa using this
  rw[huu]at hgv
  have hwr:IntKind.i64.wrap (u+x.b)=u+x.b:=Z7 oM oM
  obtain⟨v,hvv⟩:∃v,u+x.b=v:=⟨_,rfl⟩
  rw[hvv]at hwr
  have cA:=cAs 1 0 0 i hiv oM v
  have d1:(x.op==1)=false:=by rw[o2];rfl
  have d2:(x.op==2)=true:=by rw[o2];rfl
  cases hq:vlB v
  ·rw[hq,if_neg (by simp),if_neg (by simp)]at cA
   have hI:stI w p s x=(wd0,9):=by unfold stI;rw[if_neg o1,if_pos o2,hi,Int.toNat_natCast,huu,hvv,if_neg (by rw[hq];simp)]
   rw[hI]at hst
   rw[hF]at cA
   simp (disch:=first|decide|omega) only[a_mstp,hA,gk,gk0,f0,f1,f4,gS,hSl,hk,hgi,hkw,ZC,cellsOf,List.length_map,kn,kl,kn0,kl0,ZV,XZ,hi,hgv,hvv,hwr,d1,d2,go_sem]
   refine ZA.nxt (Xh _ _) ?_
   simp (disch:=first|decide|omega) only[hA,gk,gk0,f0,f1,f4,gS,hSl,hk,hgi,hkw,ZC,cellsOf,List.length_map,kn,kl,kn0,kl0,ZV,XZ,hi,hgv,hvv,hwr,d1,d2,go_sem]
   refine ZA.nxt (cA _) ?_
   have hpc:=Up (f':=f') (q:=q) (c:=((k+1:Nat):Int)) hp hs
   rw[hSV,hF]at hpc
   simp (disch:=first|decide|omega) only[hA,gk,gk0,f0,f1,f4,gS,hSl,hk,hgi,hkw,ZC,cellsOf,List.length_map,kn,kl,kn0,kl0,ZV,XZ,hi,go_sem]
   rw[hpc]
   have hfin:stM w p=pcW w p (((k+1:Nat):Int)):=by rw[hk1,hM,hst,if_neg (by decide)]
   have hE2:(stW w p).2=9:=by rw[hst]
   rw[hE2,hfin]
   exact Qn (xs:=[.v (.int .i64 9)]) (.inr rfl) (by simp (disch:=first|decide|omega) only[ZE,ZY,go_sem,hA]) kO (by rw[Zb];exact hRw _) hb (hout _) ⟨rfl,rfl,rfl⟩
  ·rw[hq,if_pos rfl,if_pos rfl]at cA
   have hI:stI w p s x=(ZAI w p (Sv.put {s with pc:=s.pc+1} i v) (ZFo 1 0 0 i v),0):=by unfold stI;rw[if_neg o1,if_pos o2,hi,Int.toNat_natCast,huu,hvv,if_pos hq]
   rw[hI]at hst
   simp (disch:=first|decide|omega) only[a_mstp,hA,gk,gk0,f0,f1,f4,gS,hSl,hk,hgi,hkw,ZC,cellsOf,List.length_map,kn,kl,kn0,kl0,ZV,XZ,hi,hgv,hvv,hwr,d1,d2,go_sem]
   refine ZA.nxt (Xh _ _) ?_
   simp (disch:=first|decide|omega) only[hA,gk,gk0,f0,f1,f4,gS,hSl,hk,hgi,hkw,ZC,cellsOf,List.length_map,kn,kl,kn0,kl0,ZV,XZ,hi,hgv,hvv,hwr,d1,d2,go_sem]
   refine ZA.nxt (cA _) ?_
   obtain⟨w1,hw1⟩:∃w1,asW w p ⟨1,0,0,0,[]⟩ i v=w1:=⟨_,rfl⟩
   rw[hw1]
   have e1:w1.sv.length=w.sv.length:=by rw[←hw1];first|rfl|exact List.length_set
   have e2:w1.tr.length=w.tr.length:=by rw[←hw1];first|rfl|exact YW
   have hs1:w1.sv.getD p dfSv=s.put i v:=by rw[←hw1];first|exact hs|(show (w.sv.set p _).getD p dfSv=_;rw[List.getD_eq_getElem?_getD,List.getElem?_set_self hp,hs];rfl)
   obtain⟨SV1,hSV1⟩:∃SV1,VN w1 p (q+1)=SV1:=⟨_,rfl⟩
   obtain⟨F1,hF1⟩:∃F1,mvF f' w1 p q=F1:=⟨_,rfl⟩
   obtain⟨hS1,gS1,g0,g1,g4⟩:=Xe (by rw[e1];exact hp) (by rw[e2];exact hpt) hF1 hs1 hSV1
   have hpc:=Up (f':=f') (q:=q) (c:=((k+1:Nat):Int)) (show p<w1.sv.length by rw[e1];exact hp) hs1
   rw[hSV1,hF1]at hpc
   rw[e1]at hS1 g0 hpc
   rw[hF1]
   simp (disch:=first|decide|omega) only[hA,gk,gk0,g0,g1,g4,hS1,gS1,hk,hkw,ZC,cellsOf,List.length_map,kn,kl,kn0,kl0,ZV,XZ,hi,go_sem]
   rw[hpc]
   have hfin:stM w p=pcW w1 p (((k+1:Nat):Int)):=by rw[hk1,hM,hst,if_pos rfl,←hw1];exact (ZC8 hp hs).symm
   have hE2:(stW w p).2=0:=by rw[hst]
   rw[hE2,hfin]
   exact Qn (xs:=[.v (.int .i64 0)]) (.inr rfl) (by simp (disch:=first|decide|omega) only[ZE,ZY,go_sem,hA]) kO (by rw[Zb];exact hRw _) hb (hout _) ⟨rfl,rfl,rfl⟩
 by_cases o7:x.op=7
 ·have hI:stI w p s x=(ZAI w p {s with pc:=s.pc+1} dfEv54,0):=by unfold stI;rw[if_neg oM,if_neg oM,if_neg oM,if_neg oM,if_neg oM]
  rw[hI]at hst
  have cE:=cEv 1 0 0
  have d1:(x.op==1)=false:=by rw[o7];rfl
  have d2:(x.op==2)=false:=by rw[o7];rfl
  have d7:(x.op==7)=true:=by rw[o7];rfl
  simp (disch:=first|decide|omega) only[a_mstp,hA,gk,gk0,f0,f1,f4,gS,hSl,hk,hgi,hkw,ZC,cellsOf,List.length_map,kn,kl,kn0,kl0,ZV,XZ,d1,d2,d7,go_sem]
  refine ZA.nxt (Xh _ _) ?_
  simp (disch:=first|decide|omega) only[hA,gk,gk0,f0,f1,f4,gS,hSl,hk,hgi,hkw,ZC,cellsOf,List.length_map,kn,kl,kn0,kl0,ZV,XZ,d1,d2,d7,go_sem]
  refine ZA.nxt (cE _) ?_
  obtain⟨w1,hw1⟩:∃w1,evW w p ⟨1,0,0,0,[]⟩=w1:=⟨_,rfl⟩
  rw[hw1]
  have e1:w1.sv.length=w.sv.length:=by rw[←hw1];first|rfl|exact List.length_set
  have e2:w1.tr.length=w.tr.length:=by rw[←hw1];first|rfl|exact YW
  have hs1:w1.sv.getD p dfSv=s:=by rw[←hw1];first|exact hs|(show (w.sv.set p _).getD p dfSv=_;rw[List.getD_eq_getElem?_getD,List.getElem?_set_self hp,hs];rfl)
  obtain⟨SV1,hSV1⟩:∃SV1,VN w1 p (q+1)=SV1:=⟨_,rfl⟩
  obtain⟨F1,hF1⟩:∃F1,mvF f' w1 p q=F1:=⟨_,rfl⟩
  obtain⟨hS1,gS1,g0,g1,g4⟩:=Xe (by rw[e1];exact hp) (by rw[e2];exact hpt) hF1 hs1 hSV1
  have hpc:=Up (f':=f') (q:=q) (c:=((k+1:Nat):Int)) (show p<w1.sv.length by rw[e1];exact hp) hs1
  rw[hSV1,hF1]at hpc
  rw[e1]at hS1 g0 hpc
  rw[hF1]
  simp (disch:=first|decide|omega) only[hA,gk,gk0,g0,g1,g4,hS1,gS1,hk,hkw,ZC,cellsOf,List.length_map,kn,kl,kn0,kl0,ZV,XZ,go_sem]
  rw[hpc]
  have hfin:stM w p=pcW w1 p (((k+1:Nat):Int)):=by rw[hk1,hM,hst,if_pos rfl,←hw1];exact (ZBO hs).symm
  have hE2:(stW w p).2=0:=by rw[hst]
  rw[hE2,hfin]
  exact Qn (xs:=[.v (.int .i64 0)]) (.inr rfl) (by simp (disch:=first|decide|omega) only[ZE,ZY,go_sem,hA]) kO (by rw[Zb];exact hRw _) hb (hout _) ⟨rfl,rfl,rfl⟩
 by_cases o6:x.op=6
 ·unfold Vp at hin
  rw[if_neg oM,if_neg oM,if_neg oM,if_neg oM,if_pos o6]at hin
  unfold inZ at hin
  simp only[Bool.and_eq_true,decide_eq_true_eq]at hin
  obtain⟨i,hi⟩:∃i:Nat,x.b=i:=⟨x.b.toNat,by omega⟩
  have hiv:i<s.vars.length:=by omega
  have hgv:=Jy hiv
  obtain⟨v,hvv⟩:∃v,s.vars.getD i 0=v:=⟨_,rfl⟩
  have hvb:-1073741824≤v∧v≤1073741824:=by
   have:=hsv.vs v (by rw[←hvv,ZF hiv];exact List.getElem_mem hiv)
   unfold vlB at this
   simpa using this
  rw[hvv]at hgv
  have hwv:IntKind.i64.wrap (v-1)=v-1:=Z7 oM oM
  have d1:(x.op==1)=false:=by rw[o6];rfl
  have d2:(x.op==2)=false:=by rw[o6];rfl
  have d7:(x.op==7)=false:=by rw[o6];rfl
  have d6:(x.op==6)=true:=by rw[o6];rfl
  by_cases h0:0<v
  ·have e0:decide (v>0)=true:=decide_eq_true oM
   have e1:decide (0<v)=true:=e0
   have hq:vlB (v-1)=true:=by unfold vlB;simp;omega
   have cA:=cAs 1 0 0 i hiv oM (v-1)
   rw[if_pos hq,if_pos hq]at cA
   have hI:stI w p s x=(ZAI w p (Sv.put {s with pc:=x.a} i (v-1)) (ZFo 1 0 0 i (v-1)),0):=by unfold stI;rw[if_neg o1,if_neg o2,if_pos o6,hi,Int.toNat_natCast,hvv,if_pos h0]
   rw[hI]at hst
   simp (disch:=first|decide|omega) only[a_mstp,hA,gk,gk0,f0,f1,f4,gS,hSl,hk,hgi,hkw,ZC,cellsOf,List.length_map,kn,kl,kn0,kl0,ZV,XZ,hi,hgv,hwv,e0,e1,d1,d2,d7,d6,go_sem]
   refine ZA.nxt (Xh _ _) ?_
   simp (disch:=first|decide|omega) only[hA,gk,gk0,f0,f1,f4,gS,hSl,hk,hgi,hkw,ZC,cellsOf,List.length_map,kn,kl,kn0,kl0,ZV,XZ,hi,hgv,hwv,e0,e1,d1,d2,d7,d6,go_sem]
   clear e0 e1
   refine ZA.nxt (cA _) ?_
   obtain⟨w1,hw1⟩:∃w1,asW w p ⟨1,0,0,0,[]⟩ i (v-1)=w1:=⟨_,rfl⟩
   rw[hw1]
   have e1:w1.sv.length=w.sv.length:=by rw[←hw1];first|rfl|exact List.length_set
   have e2:w1.tr.length=w.tr.length:=by rw[←hw1];first|rfl|exact YW
   have hs1:w1.sv.getD p dfSv=s.put i (v-1):=by rw[←hw1];first|exact hs|(show (w.sv.set p _).getD p dfSv=_;rw[List.getD_eq_getElem?_getD,List.getElem?_set_self hp,hs];rfl)
   obtain⟨SV1,hSV1⟩:∃SV1,VN w1 p (q+1)=SV1:=⟨_,rfl⟩
   obtain⟨F1,hF1⟩:∃F1,mvF f' w1 p q=F1:=⟨_,rfl⟩
   obtain⟨hS1,gS1,g0,g1,g4⟩:=Xe (by rw[e1];exact hp) (by rw[e2];exact hpt) hF1 hs1 hSV1
   have hpc:=Up (f':=f') (q:=q) (c:=x.a) (show p<w1.sv.length by rw[e1];exact hp) hs1
   rw[hSV1,hF1]at hpc
   rw[e1]at hS1 g0 hpc
   rw[hF1]
   simp (disch:=first|decide|omega) only[hA,gk,gk0,g0,g1,g4,hS1,gS1,hk,hkw,ZC,cellsOf,List.length_map,kn,kl,kn0,kl0,ZV,XZ,hi,go_sem]
   rw[hpc]
   have hfin:stM w p=pcW w1 p (x.a):=by rw[hM,hst,if_pos rfl,←hw1];exact (ZC8 hp hs).symm
   have hE2:(stW w p).2=0:=by rw[hst]
   rw[hE2,hfin]
   exact Qn (xs:=[.v (.int .i64 0)]) (.inr rfl) (by simp (disch:=first|decide|omega) only[ZE,ZY,go_sem,hA]) kO (by rw[Zb];exact hRw _) hb (hout _) ⟨rfl,rfl,rfl⟩
  ·have e0:decide (v>0)=false:=decide_eq_false oM
   have e1:decide (0<v)=false:=e0
   have hI:stI w p s x=(ZAI w p {s with pc:=s.pc+1} dfEv54,0):=by unfold stI;rw[if_neg o1,if_neg o2,if_pos o6,hi,Int.toNat_natCast,hvv,if_neg h0]
   rw[hI]at hst
   have cE:=cEv 1 0 0
   simp (disch:=first|decide|omega) only[a_mstp,hA,gk,gk0,f0,f1,f4,gS,hSl,hk,hgi,hkw,ZC,cellsOf,List.length_map,kn,kl,kn0,kl0,ZV,XZ,hi,hgv,e0,e1,d1,d2,d7,d6,go_sem]
   clear e0 e1
   refine ZA.nxt (Xh _ _) ?_
   simp (disch:=first|decide|omega) only[hA,gk,gk0,f0,f1,f4,gS,hSl,hk,hgi,hkw,ZC,cellsOf,List.length_map,kn,kl,kn0,kl0,ZV,XZ,hi,d1,d2,d7,d6,go_sem]
   refine ZA.nxt (cE _) ?_
   obtain⟨w1,hw1⟩:∃w1,evW w p ⟨1,0,0,0,[]⟩=w1:=⟨_,rfl⟩
   rw[hw1]
   have e1:w1.sv.length=w.sv.length:=by rw[←hw1];first|rfl|exact List.length_set
   have e2:w1.tr.length=w.tr.length:=by rw[←hw1];first|rfl|exact YW
   have hs1:w1.sv.getD p dfSv=s:=by rw[←hw1];first|exact hs|(show (w.sv.set p _).getD p dfSv=_;rw[List.getD_eq_getElem?_getD,List.getElem?_set_self hp,hs];rfl)
   obtain⟨SV1,hSV1⟩:∃SV1,VN w1 p (q+1)=SV1:=⟨_,rfl⟩
   obtain⟨F1,hF1⟩:∃F1,mvF f' w1 p q=F1:=⟨_,rfl⟩
   obtain⟨hS1,gS1,g0,g1,g4⟩:=Xe (by rw[e1];exact hp) (by rw[e2];exact hpt) hF1 hs1 hSV1
   have hpc:=Up (f':=f') (q:=q) (c:=((k+1:Nat):Int)) (show p<w1.sv.length by rw[e1];exact hp) hs1
   rw[hSV1,hF1]at hpc
   rw[e1]at hS1 g0 hpc
   rw[hF1]
   simp (disch:=first|decide|omega) only[hA,gk,gk0,g0,g1,g4,hS1,gS1,hk,hkw,ZC,cellsOf,List.length_map,kn,kl,kn0,kl0,ZV,XZ,go_sem]
   rw[hpc]
   have hfin:stM w p=pcW w1 p (((k+1:Nat):Int)):=by rw[hk1,hM,hst,if_pos rfl,←hw1];exact (ZBO hs).symm
   have hE2:(stW w p).2=0:=by rw[hst]
   rw[hE2,hfin]
   exact Qn (xs:=[.v (.int .i64 0)]) (.inr rfl) (by simp (disch:=first|decide|omega) only[ZE,ZY,go_sem,hA]) kO (by rw[Zb];exact hRw _) hb (hout _) ⟨rfl,rfl,rfl⟩
 by_cases o3:x.op=3
 ·unfold Vp at hin
  rw[if_neg oM,if_pos o3]at hin
  unfold inZ at hin
  simp only[Bool.and_eq_true,decide_eq_true_eq]at hin
  obtain⟨i,hi⟩:∃i:Nat,x.a=i:=⟨x.a.toNat,by omega⟩
  have hiv:i<s.vars.length:=by omega
  have hms:msB (VA w p s x)=true:=by
   have:=hsv.vs (s.vars.getD i 0) (by rw[ZF hiv];exact List.getElem_mem _)
   have hs3:=h3 o3
   unfold VA msB ptB
   rw[hi,Int.toNat_natCast]
   simp only[List.all_cons,List.all_nil,this,Bool.and_true,List.length_singleton,Bool.and_eq_true,decide_eq_true_eq]
   exact⟨by omega,by omega,by omega,by omega,by omega⟩
  have cS:=cSn x i hi hiv oM hms
  rw[hi]at cS
  have d1:(x.op==1)=false:=by rw[o3];rfl
  have d2:(x.op==2)=false:=by rw[o3];rfl
  have d7:(x.op==7)=false:=by rw[o3];rfl
  have d6:(x.op==6)=false:=by rw[o3];rfl
  have d3:(x.op==3)=true:=by rw[o3];rfl
  by_cases hz:sdE w.net (VA w p s x)=0
  ·rw[if_pos hz,hz]at cS
   have hI:stI w p s x=({ZAI w p {s with pc:=s.pc+1} ⟨2,x.b,w.sent,0,[]⟩ with net:=sdR w.net (VA w p s x),sent:=w.sent+1},0):=by unfold stI;rw[if_neg o1,if_neg o2,if_neg o6,if_pos o3,if_pos hz]
   rw[hI]at hst
   simp (disch:=first|decide|omega) only[a_mstp,hA,gk,gk0,f0,f1,f4,gS,hSl,hk,hgi,hkw,ZC,cellsOf,List.length_map,kn,kl,kn0,kl0,ZV,XZ,hi,d1,d2,d7,d6,d3,go_sem]
   refine ZA.nxt (cS _) ?_
   obtain⟨w1,hw1⟩:∃w1,evW {w with net:=sdR w.net (VA w p s x),sent:=w.sent+1} p ⟨2,x.b,w.sent,0,[]⟩=w1:=⟨_,rfl⟩
   rw[hw1]
   have e1:w1.sv.length=w.sv.length:=by rw[←hw1];first|rfl|exact List.length_set
   have e2:w1.tr.length=w.tr.length:=by rw[←hw1];first|rfl|exact YW
   have hs1:w1.sv.getD p dfSv=s:=by rw[←hw1];first|exact hs|(show (w.sv.set p _).getD p dfSv=_;rw[List.getD_eq_getElem?_getD,List.getElem?_set_self hp,hs];rfl)
   obtain⟨SV1,hSV1⟩:∃SV1,VN w1 p (q+1)=SV1:=⟨_,rfl⟩
   obtain⟨F1,hF1⟩:∃F1,mvF f' w1 p q=F1:=⟨_,rfl⟩
   obtain⟨hS1,gS1,g0,g1,g4⟩:=Xe (by rw[e1];exact hp) (by rw[e2];exact hpt) hF1 hs1 hSV1
   have hpc:=Up (f':=f') (q:=q) (c:=((k+1:Nat):Int)) (show p<w1.sv.length by rw[e1];exact hp) hs1
   rw[hSV1,hF1]at hpc
   rw[e1]at hS1 g0 hpc
   rw[hF1]
   simp (disch:=first|decide|omega) only[hA,gk,gk0,g0,g1,g4,hS1,gS1,hk,hkw,ZC,cellsOf,List.length_map,kn,kl,kn0,kl0,ZV,XZ,go_sem]
   rw[hpc]
   have hfin:stM w p=pcW w1 p (((k+1:Nat):Int)):=by rw[hk1,hM,hst,if_pos rfl,←hw1];exact (ZBO (w:={w with net:=sdR w.net (VA w p s x),sent:=w.sent+1}) hs).symm
   have hE2:(stW w p).2=0:=by rw[hst]
   rw[hE2,hfin]
   exact Qn (xs:=[.v (.int .i64 0)]) (.inr rfl) (by simp (disch:=first|decide|omega) only[ZE,ZY,go_sem,hA]) kO (by rw[Zb];exact hRw _) hb (hout _) ⟨rfl,rfl,rfl⟩
  ·rw[if_neg hz]at cS
   obtain⟨er,her⟩:∃er,sdE w.net (VA w p s x)=er:=⟨_,rfl⟩
   have hI:stI w p s x=(wd0,er):=by unfold stI;rw[if_neg o1,if_neg o2,if_neg o6,if_pos o3,if_neg hz,her]
   rw[hI]at hst
   rw[her]at cS hz
   rw[hF]at cS
   simp (disch:=first|decide|omega) only[a_mstp,hA,gk,gk0,f0,f1,f4,gS,hSl,hk,hgi,hkw,ZC,cellsOf,List.length_map,kn,kl,kn0,kl0,ZV,XZ,hi,d1,d2,d7,d6,d3,go_sem]
   refine ZA.nxt (cS _) ?_
   have hpc:=Up (f':=f') (q:=q) (c:=((k+1:Nat):Int)) hp hs
   rw[hSV,hF]at hpc
   simp (disch:=first|decide|omega) only[hA,gk,gk0,f0,f1,f4,gS,hSl,hk,hgi,hkw,ZC,cellsOf,List.length_map,kn,kl,kn0,kl0,ZV,XZ,go_sem]
   rw[hpc]
   have hfin:stM w p=pcW w p (((k+1:Nat):Int)):=by rw[hk1,hM,hst,if_neg hz]
   have hE2:(stW w p).2=er:=by rw[hst]
   rw[hE2,hfin]
   exact Qn (xs:=[.v (.int .i64 er)]) (.inr rfl) (by simp (disch:=first|decide|omega) only[ZE,ZY,go_sem,hA]) kO (by rw[Zb];exact hRw _) hb (hout _) ⟨rfl,rfl,rfl⟩
 have o45:x.op=4∨x.op=5:=by
  unfold Vp at hin
  rw[if_neg oM,if_neg o3]at hin
  by_cases o4:x.op=4
  ·exact .inl o4
  ·rw[if_neg o4]at hin
   by_cases o5:x.op=5
   ·exact .inr o5
   ·rw[if_neg o5,if_neg o6]at hin
    simp at hin;omega
 have hxa:0≤x.a∧x.a<s.vars.length:=by
  unfold Vp inZ at hin
  rcases o45 with o|o<;>simp[o]at hin<;>omega
 obtain⟨i,hi⟩:∃i:Nat,x.a=i:=⟨x.a.toNat,by omega⟩
 have hiv:i<s.vars.length:=by omega
 have hI:stI w p s x=(ZKo w p s x,0):=by unfold stI;rw[if_neg o1,if_neg o2,if_neg o6,if_neg o3,if_pos o45]
 rw[hI]at hst
 have d1:(x.op==1)=false:=beq_eq_false_iff_ne.2 o1
 have d2:(x.op==2)=false:=beq_eq_false_iff_ne.2 o2
 have d7:(x.op==7)=false:=beq_eq_false_iff_ne.2 o7
 have d6:(x.op==6)=false:=beq_eq_false_iff_ne.2 o6
 have d3:(x.op==3)=false:=beq_eq_false_iff_ne.2 o3
 have cW:=fun b l=>ZBF w.net p b l
 simp only[eNw,List.map_cons,List.map_nil]at cW
 by_cases hf:fiR w.net p<0
 ·have o5:x.op=5:=by
   rcases o45 with o|o
   ·have:=ZG6 (h4 o);omega
   ·exact o
  have d5:(x.op==5)=true:=by rw[o5];rfl
  have hw0:Vt w.net p=0:=by unfold Vt;rw[if_pos ⟨hvn,hpo⟩,ZDE _ (ZIQ hf)]
  have n0:(((0:Nat):Int)==0)=true:=rfl
  rw[hw0]at cW
  have hR2:ZKo w p s x=ZAI w p {s with pc:=x.b} dfEv54:=by unfold ZKo;rw[if_pos hf]
  rw[hR2]at hst
  have cE:=cEv 1 0 0
  simp (disch:=first|decide|omega) only[a_mstp,hA,gk,gk0,f0,f1,f4,gS,hSl,hk,hgi,hkw,ZC,cellsOf,List.length_map,kn,kl,kn0,kl0,ZV,XZ,hi,d1,d2,d7,d6,d3,d5,go_sem]
  refine ZA.nxt (cW _ _) ?_
  simp (disch:=first|decide|omega) only[hA,gk,gk0,f0,f1,f4,gS,hSl,hk,hgi,hkw,ZC,cellsOf,List.length_map,kn,kl,kn0,kl0,ZV,XZ,hi,n0,d5,go_sem]
  refine ZA.nxt (Xh _ _) ?_
  simp (disch:=first|decide|omega) only[hA,gk,gk0,f0,f1,f4,gS,hSl,hk,hgi,hkw,ZC,cellsOf,List.length_map,kn,kl,kn0,kl0,ZV,XZ,hi,go_sem]
  refine ZA.nxt (cE _) ?_
  obtain⟨w1,hw1⟩:∃w1,evW w p ⟨1,0,0,0,[]⟩=w1:=⟨_,rfl⟩
  rw[hw1]
  have e1:w1.sv.length=w.sv.length:=by rw[←hw1];first|rfl|exact List.length_set
  have e2:w1.tr.length=w.tr.length:=by rw[←hw1];first|rfl|exact YW
  have hs1:w1.sv.getD p dfSv=s:=by rw[←hw1];first|exact hs|(show (w.sv.set p _).getD p dfSv=_;rw[List.getD_eq_getElem?_getD,List.getElem?_set_self hp,hs];rfl)
  obtain⟨SV1,hSV1⟩:∃SV1,VN w1 p (q+1)=SV1:=⟨_,rfl⟩
  obtain⟨F1,hF1⟩:∃F1,mvF f' w1 p q=F1:=⟨_,rfl⟩
  obtain⟨hS1,gS1,g0,g1,g4⟩:=Xe (by rw[e1];exact hp) (by rw[e2];exact hpt) hF1 hs1 hSV1
  have hpc:=Up (f':=f') (q:=q) (c:=x.b) (show p<w1.sv.length by rw[e1];exact hp) hs1
  rw[hSV1,hF1]at hpc
  rw[e1]at hS1 g0 hpc
  rw[hF1]
  simp (disch:=first|decide|omega) only[hA,gk,gk0,g0,g1,g4,hS1,gS1,hk,hkw,ZC,cellsOf,List.length_map,kn,kl,kn0,kl0,ZV,XZ,go_sem]
  rw[hpc]
  have hfin:stM w p=pcW w1 p (x.b):=by rw[hM,hst,if_pos rfl,←hw1];exact (ZBO hs).symm
  have hE2:(stW w p).2=0:=by rw[hst]
  rw[hE2,hfin]
  exact Qn (xs:=[.v (.int .i64 0)]) (.inr rfl) (by simp (disch:=first|decide|omega) only[ZE,ZY,go_sem,hA]) kO (by rw[Zb];exact hRw _) hb (hout _) ⟨rfl,rfl,rfl⟩
 obtain⟨j,hj,hjl,hja,hjf⟩:=ZKy (n:=w.net) (to:=p) oM
 obtain⟨mg,hmg⟩:∃mg,w.net.l.getD j dfMs=mg:=⟨_,rfl⟩
 have hmem:mg∈w.net.l:=by rw[←hmg,ZF hjl];exact List.getElem_mem hjl
 obtain⟨hb1,_⟩:=ZHo hw.tr (hw.msg mg hmem)
 obtain⟨v,hbv⟩:∃v,mg.body=[v]:=List.length_eq_one_iff.1 hb1
 have hvv:vlB v=true:=by
  have:=hw.net.ms mg hmem
  unfold msB at this
  simp only[Bool.and_eq_true,List.all_eq_true]at this
  exact this.2.2.2.2.2 v (by rw[hbv];simp)
 have cR:=cRc x i hi hiv oM j hj mg hmg v hbv hvv
 rw[hi]at cR
 have hw1:0<Vt w.net p:=by
  unfold Vt
  rw[if_pos ⟨hvn,hpo⟩]
  exact ZKb hjl hja
 have n0:((Vt w.net p:Int)==0)=false:=beq_eq_false_iff_ne.2 oM
 have hRv:ZKo w p s x=if (J2 w.tr 3 mg.nu).2>0 then {ZAI w p s dfEv54 with net:=woN w.net j} else {ZAI w p (Sv.put {s with pc:=s.pc+1} i v) (ZFo 3 mg.fr mg.nu i v) with net:=woN w.net j}:=by
  unfold ZKo
  rw[if_neg hf,hj,Int.toNat_natCast,hmg,hi,Int.toNat_natCast,hbv];rfl
 rw[←Uu (Jh hw.tr)]at hRv
 rw[hRv]at hst
 clear hjf
 by_cases ha:0<(Qs w.tr 3 mg.nu).2
 ·rw[if_pos ha,decide_eq_true ha]at cR
  rw[if_pos (show (Qs w.tr 3 mg.nu).2>0 from ha)]at hst
  rcases o45 with o4|o5
  ·have d5:(x.op==5)=false:=by rw[o4];rfl
   simp (disch:=first|decide|omega) only[a_mstp,hA,gk,gk0,f0,f1,f4,gS,hSl,hk,hgi,hkw,ZC,cellsOf,List.length_map,kn,kl,kn0,kl0,ZV,XZ,hi,d1,d2,d7,d6,d3,d5,go_sem]
   clear hw1 n0
   refine ZA.nxt (cR _) ?_
   obtain⟨w1,hw1⟩:∃w1,evW {w with net:=woN w.net j} p ⟨1,0,0,0,[]⟩=w1:=⟨_,rfl⟩
   rw[hw1]
   have e1:w1.sv.length=w.sv.length:=by rw[←hw1];first|rfl|exact List.length_set
   have e2:w1.tr.length=w.tr.length:=by rw[←hw1];first|rfl|exact YW
   have hs1:w1.sv.getD p dfSv=s:=by rw[←hw1];first|exact hs|(show (w.sv.set p _).getD p dfSv=_;rw[List.getD_eq_getElem?_getD,List.getElem?_set_self hp,hs];rfl)
   obtain⟨SV1,hSV1⟩:∃SV1,VN w1 p (q+1)=SV1:=⟨_,rfl⟩
   obtain⟨F1,hF1⟩:∃F1,mvF f' w1 p q=F1:=⟨_,rfl⟩
   obtain⟨hS1,gS1,g0,g1,g4⟩:=Xe (by rw[e1];exact hp) (by rw[e2];exact hpt) hF1 hs1 hSV1
   have hpc:=Up (f':=f') (q:=q) (c:=((k:Nat):Int)) (show p<w1.sv.length by rw[e1];exact hp) hs1
   rw[hSV1,hF1]at hpc
   rw[e1]at hS1 g0 hpc
   rw[hF1]
   simp (disch:=first|decide|omega) only[hA,gk,gk0,g0,g1,g4,hS1,gS1,hk,hkw,ZC,cellsOf,List.length_map,kn,kl,kn0,kl0,ZV,XZ,go_sem]
   rw[hpc]
   have hfin:stM w p=pcW w1 p (((k:Nat):Int)):=by rw[←hk,hM,hst,if_pos rfl,←hw1];exact (ZBO (w:={w with net:=woN w.net j}) hs).symm
   have hE2:(stW w p).2=0:=by rw[hst]
   rw[hE2,hfin]
   exact Qn (xs:=[.v (.int .i64 0)]) (.inr rfl) (by simp (disch:=first|decide|omega) only[ZE,ZY,go_sem,hA]) kO (by rw[Zb];exact hRw _) hb (hout _) ⟨rfl,rfl,rfl⟩

  ·have d5:(x.op==5)=true:=by rw[o5];rfl
   simp (disch:=first|decide|omega) only[a_mstp,hA,gk,gk0,f0,f1,f4,gS,hSl,hk,hgi,hkw,ZC,cellsOf,List.length_map,kn,kl,kn0,kl0,ZV,XZ,hi,d1,d2,d7,d6,d3,d5,go_sem]
   refine ZA.nxt (cW _ _) ?_
   simp (disch:=first|decide|omega) only[hA,gk,gk0,f0,f1,f4,gS,hSl,hk,hgi,hkw,ZC,cellsOf,List.length_map,kn,kl,kn0,kl0,ZV,XZ,hi,n0,d5,go_sem]
   clear hw1 n0
   refine ZA.nxt (cR _) ?_
   obtain⟨w1,hw1⟩:∃w1,evW {w with net:=woN w.net j} p ⟨1,0,0,0,[]⟩=w1:=⟨_,rfl⟩
   rw[hw1]
   have e1:w1.sv.length=w.sv.length:=by rw[←hw1];first|rfl|exact List.length_set
   have e2:w1.tr.length=w.tr.length:=by rw[←hw1];first|rfl|exact YW
   have hs1:w1.sv.getD p dfSv=s:=by rw[←hw1];first|exact hs|(show (w.sv.set p _).getD p dfSv=_;rw[List.getD_eq_getElem?_getD,List.getElem?_set_self hp,hs];rfl)
   obtain⟨SV1,hSV1⟩:∃SV1,VN w1 p (q+1)=SV1:=⟨_,rfl⟩
   obtain⟨F1,hF1⟩:∃F1,mvF f' w1 p q=F1:=⟨_,rfl⟩
   obtain⟨hS1,gS1,g0,g1,g4⟩:=Xe (by rw[e1];exact hp) (by rw[e2];exact hpt) hF1 hs1 hSV1
   have hpc:=Up (f':=f') (q:=q) (c:=((k:Nat):Int)) (show p<w1.sv.length by rw[e1];exact hp) hs1
   rw[hSV1,hF1]at hpc
   rw[e1]at hS1 g0 hpc
   rw[hF1]
   simp (disch:=first|decide|omega) only[hA,gk,gk0,g0,g1,g4,hS1,gS1,hk,hkw,ZC,cellsOf,List.length_map,kn,kl,kn0,kl0,ZV,XZ,go_sem]
   rw[hpc]
   have hfin:stM w p=pcW w1 p (((k:Nat):Int)):=by rw[←hk,hM,hst,if_pos rfl,←hw1];exact (ZBO (w:={w with net:=woN w.net j}) hs).symm
   have hE2:(stW w p).2=0:=by rw[hst]
   rw[hE2,hfin]
   exact Qn (xs:=[.v (.int .i64 0)]) (.inr rfl) (by simp (disch:=first|decide|omega) only[ZE,ZY,go_sem,hA]) kO (by rw[Zb];exact hRw _) hb (hout _) ⟨rfl,rfl,rfl⟩
 ·rw[if_neg ha,decide_eq_false ha]at cR
  rw[if_neg (show ¬(Qs w.tr 3 mg.nu).2>0 from ha)]at hst
  rcases o45 with o4|o5
  ·have d5:(x.op==5)=false:=by rw[o4];rfl
   simp (disch:=first|decide|omega) only[a_mstp,hA,gk,gk0,f0,f1,f4,gS,hSl,hk,hgi,hkw,ZC,cellsOf,List.length_map,kn,kl,kn0,kl0,ZV,XZ,hi,d1,d2,d7,d6,d3,d5,go_sem]
   clear hw1 n0
   refine ZA.nxt (cR _) ?_
   obtain⟨w1,hw1⟩:∃w1,asW {w with net:=woN w.net j} p ⟨3,mg.fr,mg.nu,0,[]⟩ i v=w1:=⟨_,rfl⟩
   rw[hw1]
   have e1:w1.sv.length=w.sv.length:=by rw[←hw1];first|rfl|exact List.length_set
   have e2:w1.tr.length=w.tr.length:=by rw[←hw1];first|rfl|exact YW
   have hs1:w1.sv.getD p dfSv=s.put i v:=by rw[←hw1];first|exact hs|(show (w.sv.set p _).getD p dfSv=_;rw[List.getD_eq_getElem?_getD,List.getElem?_set_self hp,hs];rfl)
   obtain⟨SV1,hSV1⟩:∃SV1,VN w1 p (q+1)=SV1:=⟨_,rfl⟩
   obtain⟨F1,hF1⟩:∃F1,mvF f' w1 p q=F1:=⟨_,rfl⟩
   obtain⟨hS1,gS1,g0,g1,g4⟩:=Xe (by rw[e1];exact hp) (by rw[e2];exact hpt) hF1 hs1 hSV1
   have hpc:=Up (f':=f') (q:=q) (c:=((k+1:Nat):Int)) (show p<w1.sv.length by rw[e1];exact hp) hs1
   rw[hSV1,hF1]at hpc
   rw[e1]at hS1 g0 hpc
   rw[hF1]
   simp (disch:=first|decide|omega) only[hA,gk,gk0,g0,g1,g4,hS1,gS1,hk,hkw,ZC,cellsOf,List.length_map,kn,kl,kn0,kl0,ZV,XZ,hi,go_sem]
   rw[hpc]
   have hfin:stM w p=pcW w1 p (((k+1:Nat):Int)):=by rw[hk1,hM,hst,if_pos rfl,←hw1];exact (ZC8 (w:={w with net:=woN w.net j}) hp hs).symm
   have hE2:(stW w p).2=0:=by rw[hst]
   rw[hE2,hfin]
   exact Qn (xs:=[.v (.int .i64 0)]) (.inr rfl) (by simp (disch:=first|decide|omega) only[ZE,ZY,go_sem,hA]) kO (by rw[Zb];exact hRw _) hb (hout _) ⟨rfl,rfl,rfl⟩

  ·have d5:(x.op==5)=true:=by rw[o5];rfl
   simp (disch:=first|decide|omega) only[a_mstp,hA,gk,gk0,f0,f1,f4,gS,hSl,hk,hgi,hkw,ZC,cellsOf,List.length_map,kn,kl,kn0,kl0,ZV,XZ,hi,d1,d2,d7,d6,d3,d5,go_sem]
   refine ZA.nxt (cW _ _) ?_
   simp (disch:=first|decide|omega) only[hA,gk,gk0,f0,f1,f4,gS,hSl,hk,hgi,hkw,ZC,cellsOf,List.length_map,kn,kl,kn0,kl0,ZV,XZ,hi,n0,d5,go_sem]
   clear hw1 n0
   refine ZA.nxt (cR _) ?_
   obtain⟨w1,hw1⟩:∃w1,asW {w with net:=woN w.net j} p ⟨3,mg.fr,mg.nu,0,[]⟩ i v=w1:=⟨_,rfl⟩
   rw[hw1]
   have e1:w1.sv.length=w.sv.length:=by rw[←hw1];first|rfl|exact List.length_set
   have e2:w1.tr.length=w.tr.length:=by rw[←hw1];first|rfl|exact YW
   have hs1:w1.sv.getD p dfSv=s.put i v:=by rw[←hw1];first|exact hs|(show (w.sv.set p _).getD p dfSv=_;rw[List.getD_eq_getElem?_getD,List.getElem?_set_self hp,hs];rfl)
   obtain⟨SV1,hSV1⟩:∃SV1,VN w1 p (q+1)=SV1:=⟨_,rfl⟩
   obtain⟨F1,hF1⟩:∃F1,mvF f' w1 p q=F1:=⟨_,rfl⟩
   obtain⟨hS1,gS1,g0,g1,g4⟩:=Xe (by rw[e1];exact hp) (by rw[e2];exact hpt) hF1 hs1 hSV1
   have hpc:=Up (f':=f') (q:=q) (c:=((k+1:Nat):Int)) (show p<w1.sv.length by rw[e1];exact hp) hs1
   rw[hSV1,hF1]at hpc
   rw[e1]at hS1 g0 hpc
   rw[hF1]
   simp (disch:=first|decide|omega) only[hA,gk,gk0,g0,g1,g4,hS1,gS1,hk,hkw,ZC,cellsOf,List.length_map,kn,kl,kn0,kl0,ZV,XZ,hi,go_sem]
   rw[hpc]
   have hfin:stM w p=pcW w1 p (((k+1:Nat):Int)):=by rw[hk1,hM,hst,if_pos rfl,←hw1];exact (ZC8 (w:={w with net:=woN w.net j}) hp hs).symm
   have hE2:(stW w p).2=0:=by rw[hst]
   rw[hE2,hfin]
   exact Qn (xs:=[.v (.int .i64 0)]) (.inr rfl) (by simp (disch:=first|decide|omega) only[ZE,ZY,go_sem,hA]) kO (by rw[Zb];exact hRw _) hb (hout _) ⟨rfl,rfl,rfl⟩
end Go.Proofs.YtoccdlnoaindmaaGreatDoor
namespace Go.Proofs.YtoccdlnoaindmaaGreatDoor
set_option linter.unusedVariables false
set_option linter.unusedSimpArgs false
attribute [local go_sem ↓] Zz Z0 QB QD Q8 Zg QA Q9 QC Qk ZM Zf Zy ZL Ze Zx ZS Zk QJ Z1 ZN QE Zh Zi Z4 Zj Z5 Zt Zd Qa QF Qc Qd XQ Qj XR XS Q6 Qo
attribute [local go_sem] Z2 ZO XT Z6 ZR XP Qh Qf Qe KT KU Qi QG QH QI Q7 ZI Zv ZQ Zu ZP Z3 aop YC XG XB Q2 XC QU XD Uh Y4 YZ amm YK QT Zp YQ XA Y0 comma Qx Y3 Ug Y2 Y1 UL YO YM XJ UK eqC eqF Jg cellsOf ZC Xm Xg YN Vx rd rdI Xs mk Qr AV.cell List.all_cons List.all_nil Bool.and_true Bool.true_and Bool.and_self List.length_cons List.length_nil List.length_append Nat.reduceAdd Nat.reduceSub Nat.reduceMul Nat.zero_add Nat.add_zero List.cons_append List.nil_append List.append_assoc List.append_nil List.getElem?_cons_zero List.getElem?_cons_succ List.getElem?_nil List.set_cons_zero List.set_cons_succ List.drop_zero List.drop_succ_cons List.take_zero List.take_succ_cons List.take_nil List.drop_nil List.map_cons List.map_nil Option.map_some if_true if_false Bool.false_eq_true and_self true_and and_true Nat.reduceLeDiff Nat.reduceLT Nat.le_refl Nat.reduceEqDiff ite_true ite_false beq_self_eq_true beq_true beq_false Bool.not_true Bool.not_false Bool.true_beq Bool.false_beq Xl Q4 Zr Qt Qw QZ QY QX QW Qv Qu Xi Z7 ZAR Ke ZAS ZAP JJ JH JK JI geI gtI JM decide_true decide_false room List.getElem?_map List.length_map List.length_take Int.toNat_natCast Nat.min_def Nat.min_self XU XM Xk QR Xb VC Zn List.getElem_cons_zero List.getElem_cons_succ
theorem Kk {m id ver sz:Nat} {rows:List (List IV)} {x:AV} (h:AVlt m x) (hm:m≤id):Ja id ver sz rows x=x:=by
 cases h with
 |sl i v o n hi=>simp only[Ja];rw[if_neg oM]
 |_=>rfl
theorem ZIG {m id ver sz:Nat} {rows:List (List IV)} {x:AV} (h:AVlt m x) (hm:m≤id):frz id ver sz rows x=x:=by
 cases h with
 |agg cs hc =>
   simp only[frz]
   congr 1
   rw[List.map_congr_left (fun c hcc=>Kk (hc c hcc) hm),List.map_id']
 |tup cs hc =>
   simp only[frz]
   congr 1
   rw[List.map_congr_left (fun c hcc=>Kk (hc c hcc) hm),List.map_id']
 |sl i v o n hi=>exact Kk (.sl i v o n hi) hm
 |_=>rfl
theorem VC.frzX {f:Nat→AV} {m id ver sz:Nat} {rows:List (List IV)} (hm:m≤id):∀{ov:List (Nat×AV)},VC f ov→Kb m ov→VC (fun n=>frz id ver sz rows (f n)) ov
 |[],_,_=>trivial
 |(n,x)::r,h,ho=>⟨by show Go.Proofs.YtoccdlnoaindmaaGreatDoor.frz id ver sz rows (f n)=x;rw[h.1];exact ZIG ho.1 hm,VC.frzX hm h.2 ho.2⟩
theorem ZMM {m id ver sz:Nat} {rows:List (List IV)} (hm:m≤id) {els:List (List AV)} (h:∀r∈els,∀c∈r,AVlt m c):els.map (·.map (Ja id ver sz rows))=els:=by
 rw[List.map_congr_left (g:=fun r=>r) (fun r hr=>by rw[List.map_congr_left (fun c hc=>Kk (h r hr c hc) hm),List.map_id']),List.map_id']
theorem ZJ1 {m id ver sz:Nat} {rows:List (List IV)} {h:List Row} (hh:Z8 m h) (hm:m≤id):h.map (Ye (Ja id ver sz rows))=h:=by
 refine List.ext_getElem (by simp) (fun i h1 h2=>?_)
 rw[List.getElem_map]
 cases hr:h[i] with
 |dead v=>rfl
 |live v s els =>
   have:=hh i v s els (by rw[List.getElem?_eq_getElem h2,hr])
   unfold Ye
   simp only
   rw[ZMM hm this]
theorem Za.kfz {N:Nat} {p:List (Nat×Nat)} {ov:List (Nat×AV)} {f g:Nat→AV} {b l l2 l':List Row} {k i ver sz:Nat} {rows:List (List IV)} (hi:l[i]? = some (.live ver sz (vs rows))) (he:J8 p f=g) (h:VC f ov) (hl:(l.set i (.dead ver)).map (Ye (Ja (b.length+i) ver sz rows))=l2) (hE:KLt (b.length+k) g) (hki:k≤i) (ho:Kb (b.length+i) ov)
  (hw:∀f',J8 p f'=g→VC f' ov→Za (kOf N f') b l2 (kOf N (kOv ov g)) b l'):Za (kOf N f) b l (kOf N (kOv ov g)) b l':=by
 have h2:=Za.freezeR (e:=kOf N f) (b:=b) hi
 have h3:(kOf N f).map (frz (b.length+i) ver sz rows)=kOf N (fun n=>frz (b.length+i) ver sz rows (f n)):=by unfold kOf;rw[List.map_map];rfl
 rw[h3,hl]at h2
 refine h2.trans (hw _ ?_ (h.frzX (m:=b.length+i) (Nat.le_refl _) ho))
 rw[←he]
 funext n
 unfold J8
 split
 ·rfl
 ·rename_i hn
  have hf:f n=g n:=by rw[←he];unfold J8;rw[if_neg hn]
  show frz (b.length+i) ver sz rows (f n)=f n
  rw[hf]
  exact ZIG (m:=b.length+k) (id:=b.length+i) (hE n) oM
theorem Z8.fl {m n:Nat} {C:Nat→Row} (h:∀i,i<n→∀ver sz els,C i=.live ver sz els→∀row∈els,∀c∈row,AVlt m c):Z8 m (fl n C):=fun id ver sz els hr row hrow c hc=>by
 by_cases hid:id<n
 ·rw[YV hid]at hr;exact h id hid ver sz els (Option.some.inj hr) row hrow c hc
 ·rw[UD oM]at hr;cases hr
def a_wcop:AFunc:=⟨1,83,[.cell 2 (some 9)],(.seq (.region [⟨some 1,.box (.t 0),none⟩,⟨some 2,.alloc [(.v .zsl),(.v (.int .i64 0)),(.v (.bool false)),(.v .zsl),(.v .zsl),(.v .zsl),(.v (.int .i64 0)),(.v (.int .i64 0)),(.v .zsl)],none⟩]) (.seq (.draw [⟨0,⟨some 11,.faddr 1 (.t 1),none⟩,[]⟩,⟨1,⟨some 12,.load (some 5) (.t 11),none⟩,[]⟩,⟨3,⟨some 14,.faddr 6 (.t 1),none⟩,[]⟩,⟨4,⟨some 15,.load none (.t 14),none⟩,[]⟩,⟨5,⟨some 16,.faddr 7 (.t 1),none⟩,[]⟩,⟨6,⟨some 17,.load none (.t 16),none⟩,[]⟩,⟨2,⟨some 13,.call (.c (.fn 117 [])) [(.t 12)],none⟩,[⟨some 14,.faddr 6 (.t 1),none⟩,⟨some 15,.load none (.t 14),none⟩,⟨some 16,.faddr 7 (.t 1),none⟩,⟨some 17,.load none (.t 16),none⟩]⟩,⟨7,⟨some 18,.build [(.v .zsl),(.v (.int .i64 0)),(.v (.bool false)),(.v .zsl),(.v .zsl),(.v .zsl),(.v (.int .i64 0)),(.v (.int .i64 0)),(.v .zsl)] [(1,5,(.t 13)),(6,1,(.t 15)),(7,1,(.t 17))],none⟩,[]⟩,⟨8,⟨some 3,.alloc [(.v .zsl),(.v (.int .i64 0)),(.v (.bool false)),(.v .zsl),(.v .zsl),(.v .zsl),(.v (.int .i64 0)),(.v (.int .i64 0)),(.v .zsl)],none⟩,[⟨some 11,.faddr 1 (.t 1),none⟩,⟨some 12,.load (some 5) (.t 11),none⟩,⟨some 14,.faddr 6 (.t 1),none⟩,⟨some 15,.load none (.t 14),none⟩,⟨some 16,.faddr 7 (.t 1),none⟩,⟨some 17,.load none (.t 16),none⟩,⟨some 18,.build [(.v .zsl),(.v (.int .i64 0)),(.v (.bool false)),(.v .zsl),(.v .zsl),(.v .zsl),(.v (.int .i64 0)),(.v (.int .i64 0)),(.v .zsl)] [(1,5,(.t 13)),(6,1,(.t 15)),(7,1,(.t 17))],none⟩]⟩,⟨9,⟨none,.store 9 (.t 3) (.t 18),none⟩,[]⟩]) (.seq (.seq (.region [⟨some 19,.faddr 0 (.t 1),none⟩,⟨some 20,.load none (.t 19),none⟩,⟨some 21,.len (.t 20),none⟩,⟨some 22,.mv (.c (.v (.int .i64 0))),none⟩]) (.block 0 (.loop (.seq (.region [⟨some 23,.bin .lss (.t 22) (.t 21),none⟩]) (.seq (.cond (.t 23) .skip (.exit 0)) (.seq (.block 1 (.seq (.region [⟨some 24,.iaddr 6 (.t 20) (.t 22),none⟩,⟨some 25,.load (some 6) (.t 24),none⟩,⟨some 5,.alloc [(.v (.str ⟨#[]⟩)),(.v .zsl),(.v (.int .i64 0)),(.v .zsl),(.v (.int .i64 0)),(.v (.int .i64 0))],none⟩,⟨none,.store 6 (.t 5) (.t 25),none⟩]) (.seq (.draw [⟨0,⟨some 26,.faddr 1 (.t 5),none⟩,[]⟩,⟨1,⟨some 27,.load none (.t 26),none⟩,[]⟩,⟨3,⟨some 29,.faddr 3 (.t 5),none⟩,[]⟩,⟨4,⟨some 30,.load none (.t 29),none⟩,[]⟩,⟨2,⟨some 28,.call (.c (.fn 118 [])) [(.t 27)],none⟩,[⟨some 29,.faddr 3 (.t 5),none⟩,⟨some 30,.load none (.t 29),none⟩]⟩,⟨6,⟨some 32,.faddr 1 (.t 5),none⟩,[]⟩,⟨5,⟨some 31,.call (.c (.fn 119 [])) [(.t 30)],none⟩,[⟨some 32,.faddr 1 (.t 5),none⟩]⟩,⟨7,⟨none,.store 1 (.t 32) (.t 28),none⟩,[]⟩,⟨8,⟨some 33,.faddr 3 (.t 5),none⟩,[]⟩,⟨9,⟨none,.store 1 (.t 33) (.t 31),none⟩,[]⟩]) (.region [⟨some 34,.faddr 0 (.t 3),none⟩,⟨some 35,.load none (.t 34),none⟩,⟨some 36,.load (some 6) (.t 5),none⟩,⟨some 37,.bslice 6 [(.v (.str ⟨#[]⟩)),(.v .zsl),(.v (.int .i64 0)),(.v .zsl),(.v (.int .i64 0)),(.v (.int .i64 0))] 1 [(0,(.t 36))],none⟩,⟨some 38,.append 6 88 (.t 35) (.t 37),none⟩,⟨some 39,.faddr 0 (.t 3),none⟩,⟨none,.store 1 (.t 39) (.t 38),none⟩])))) (.region [⟨some 40,.bin .add (.t 22) (.c (.v (.int .i64 1))),none⟩,⟨some 22,.mv (.t 40),none⟩]))))))) (.seq (.seq (.region [⟨some 41,.faddr 8 (.t 1),none⟩,⟨some 42,.faddr 0 (.t 41),none⟩,⟨some 43,.load none (.t 42),none⟩,⟨some 44,.len (.t 43),none⟩,⟨some 45,.mv (.c (.v (.int .i64 0))),none⟩]) (.block 2 (.loop (.seq (.region [⟨some 46,.bin .lss (.t 45) (.t 44),none⟩]) (.seq (.cond (.t 46) .skip (.exit 2)) (.seq (.block 3 (.seq (.region [⟨some 47,.iaddr 3 (.t 43) (.t 45),none⟩,⟨some 48,.load (some 3) (.t 47),none⟩,⟨some 7,.alloc [(.v (.str ⟨#[]⟩)),(.v .zsl),(.v .zsl)],none⟩,⟨none,.store 3 (.t 7) (.t 48),none⟩]) (.seq (.region [⟨some 49,.faddr 2 (.t 7),none⟩,⟨some 50,.load none (.t 49),none⟩,⟨some 8,.mv (.t 50),none⟩]) (.seq (.region [⟨some 51,.faddr 1 (.t 7),none⟩,⟨some 52,.load none (.t 51),none⟩,⟨some 53,.call (.c (.fn 120 [])) [(.t 52)],none⟩,⟨some 54,.faddr 1 (.t 7),none⟩,⟨none,.store 1 (.t 54) (.t 53),none⟩,⟨some 55,.faddr 2 (.t 7),none⟩,⟨none,.store 1 (.t 55) (.c (.v .zsl)),none⟩]) (.seq (.seq (.region [⟨some 56,.mv (.t 8),none⟩,⟨some 57,.len (.t 56),none⟩,⟨some 58,.mv (.c (.v (.int .i64 0))),none⟩]) (.block 4 (.loop (.seq (.region [⟨some 59,.bin .lss (.t 58) (.t 57),none⟩]) (.seq (.cond (.t 59) .skip (.exit 4)) (.seq (.block 5 (.seq (.region [⟨some 60,.iaddr 5 (.t 56) (.t 58),none⟩,⟨some 61,.load (some 5) (.t 60),none⟩,⟨some 10,.alloc [(.v (.int .i64 0)),(.v (.int .i64 0)),(.v (.int .i64 0)),(.v (.int .i64 0)),(.v .zsl)],none⟩,⟨none,.store 5 (.t 10) (.t 61),none⟩]) (.seq (.region [⟨some 62,.faddr 4 (.t 10),none⟩,⟨some 63,.load none (.t 62),none⟩,⟨some 64,.call (.c (.fn 121 [])) [(.t 63)],none⟩,⟨some 65,.faddr 4 (.t 10),none⟩,⟨none,.store 1 (.t 65) (.t 64),none⟩]) (.region [⟨some 66,.faddr 2 (.t 7),none⟩,⟨some 67,.load none (.t 66),none⟩,⟨some 68,.load (some 5) (.t 10),none⟩,⟨some 69,.bslice 5 [(.v (.int .i64 0)),(.v (.int .i64 0)),(.v (.int .i64 0)),(.v (.int .i64 0)),(.v .zsl)] 1 [(0,(.t 68))],none⟩,⟨some 70,.append 5 56 (.t 67) (.t 69),none⟩,⟨some 71,.faddr 2 (.t 7),none⟩,⟨none,.store 1 (.t 71) (.t 70),none⟩])))) (.region [⟨some 72,.bin .add (.t 58) (.c (.v (.int .i64 1))),none⟩,⟨some 58,.mv (.t 72),none⟩]))))))) (.region [⟨some 73,.faddr 8 (.t 3),none⟩,⟨some 74,.faddr 0 (.t 73),none⟩,⟨some 75,.load none (.t 74),none⟩,⟨some 76,.load (some 3) (.t 7),none⟩,⟨some 77,.bslice 3 [(.v (.str ⟨#[]⟩)),(.v .zsl),(.v .zsl)] 1 [(0,(.t 76))],none⟩,⟨some 78,.append 3 64 (.t 75) (.t 77),none⟩,⟨some 79,.faddr 8 (.t 3),none⟩,⟨some 80,.faddr 0 (.t 79),none⟩,⟨none,.store 1 (.t 80) (.t 78),none⟩])))))) (.region [⟨some 81,.bin .add (.t 45) (.c (.v (.int .i64 1))),none⟩,⟨some 45,.mv (.t 81),none⟩]))))))) (.seq (.region [⟨some 82,.load (some 9) (.t 3),none⟩,⟨none,.store 9 (.t 2) (.t 82),none⟩]) .ret)))))⟩
theorem ZIo:Zq Tryz.prog 59=some a_wcop:=by kernel_rfl
def ZB3:List (Nat×Nat):=[(5,5),(22,40)]
def ZB2:List (Nat×Nat):=[(7,8),(10,10),(45,81)]
def Un:List (Nat×Nat):=[(10,10),(58,72)]

theorem ZCc (v:List In) (hn:v.length≤1000000) (b l:List Row):ZA Tryz.prog 118 [.v (.isl 3 (v.map eIn))] b l (fun r b' l'=>r=.v (.isl 3 (v.map eIn))∧b'=b∧l'=l):=
 ZA.deep (x:=.sl (b.length+l.length+0) 1 0 v.length) (Dv.slV (i:=0) rfl (by rw[List.length_map])) (ZDr v hn b l)
theorem ZCb (v:List Vr) (hn:v.length≤1000000) (b l:List Row):ZA Tryz.prog 120 [.v (.isl 2 (v.map eVr))] b l (fun r b' l'=>r=.v (.isl 2 (v.map eVr))∧b'=b∧l'=l):=
 ZA.deep (x:=.sl (b.length+l.length+0) 1 0 v.length) (Dv.slV (i:=0) rfl (by rw[List.length_map])) (ZDq v hn b l)
theorem VY (v:List Asg) (hn:v.length≤1000000) (b l:List Row):ZA Tryz.prog 121 [.v (.isl 2 (v.map ZCz))] b l (fun r b' l'=>r=.v (.isl 2 (v.map ZCz))∧b'=b∧l'=l):=
 ZA.deep (x:=.sl (b.length+l.length+0) 1 0 v.length) (Dv.slV (i:=0) rfl (by rw[List.length_map])) (ZDs v hn b l)
theorem Za.kroundG {N:Nat} {p:List (Nat×Nat)} {ov:List (Nat×AV)} {f g:Nat→AV} {b l l1 junk:List Row} {k i ver sz:Nat} {rows:List (List IV)} (hi:l[i]? = some (.live ver sz (vs rows))) (he:J8 p f=g) (h:VC f ov) (hl:(l.set i (.dead ver)).map (Ye (Ja (b.length+i) ver sz rows))=l1++junk) (hE:KLt (b.length+k) g) (hk:k≤l1.length) (hki:l1.length≤i) (ho:Kb (b.length+l1.length) ov) (hb:Z8 b.length b) (h1:Z8 (b.length+l1.length) l1)
  (ho2:Kb (b.length+i) ov):Za (kOf N f) b l (kOf N (kOv ov g)) b l1:=
 Za.kfz (k:=k) hi he h hl hE oM ho2 (fun f' he' h'=>Za.kround (p:=p) (k:=k) (junk:=junk) he' h' rfl hE hk ho hb h1)
def cvS (w:Wd) (p id i:Nat):List (List AV):=(VN w p id).take i
def cvP (w:Wd) (p id i:Nat):List (List AV):=(ZCy w p id).take i
theorem ZI3 {w:Wd} {p id i:Nat} (h:i≤w.sv.length):(cvS w p id i).length=i:=by unfold cvS;rw[List.length_take,YT];omega
theorem ZI5 {w:Wd} {p id i:Nat} (h:i≤w.tr.length):(cvP w p id i).length=i:=by unfold cvP;rw[List.length_take,JY];omega
theorem ZNT {w:Wd} {p id i:Nat} (h:i≤w.sv.length):(cvS w p id i).take i=cvS w p id i:=List.take_of_length_le (by rw[ZI3 h];omega)
theorem ZNV {w:Wd} {p id i:Nat} (h:i≤w.tr.length):(cvP w p id i).take i=cvP w p id i:=List.take_of_length_le (by rw[ZI5 h];omega)
theorem cvS_p {w:Wd} {p id:Nat} (h:p<w.sv.length):cvS w p id p++[svL (w.sv.getD p dfSv) id]=cvS w p id (p+1):=by
 unfold cvS;rw[List.take_add_one,ZAM h];rfl
theorem ZNU {w:Wd} {p id i:Nat} (h:i<w.sv.length) (hn:p≠i):cvS w p id i++[(eSv (w.sv.getD i dfSv)).map .v]=cvS w p id (i+1):=by
 unfold cvS;rw[List.take_add_one,ZHe h hn];rfl
theorem cvP_p {w:Wd} {p id:Nat} (h:p<w.tr.length):cvP w p id p++[prL (w.tr.getD p dfPr) id]=cvP w p id (p+1):=by
 unfold cvP;rw[List.take_add_one,ZE4 h];rfl
theorem ZNW {w:Wd} {p id i:Nat} (h:i<w.tr.length) (hn:p≠i):cvP w p id i++[(ePr (w.tr.getD i dfPr)).map .v]=cvP w p id (i+1):=by
 unfold cvP;rw[List.take_add_one,ZHj h hn];rfl
theorem ZMO {w:Wd} {p id i m:Nat} (h:i≤p):∀row∈cvS w p id i,∀c∈row,AVlt m c:=fun row hr=>by
 unfold cvS VN at hr
 rw[List.take_set_of_le h]at hr
 exact (Ui.2 trivial) row (List.mem_of_mem_take hr)
theorem ZDp {w:Wd} {p id i m:Nat} (h:i≤p):∀row∈cvP w p id i,∀c∈row,AVlt m c:=fun row hr=>by
 unfold cvP ZCy at hr
 rw[List.take_set_of_le h]at hr
 exact (Ui.2 trivial) row (List.mem_of_mem_take hr)
theorem ZLA {w:Wd} {p id i m:Nat} (h:id<m):∀row∈cvS w p id i,∀c∈row,AVlt m c:=fun row hr=>ZD1 h row (List.mem_of_mem_take hr)
theorem ZI4 {w:Wd} {p id i m:Nat} (h:id<m):∀row∈cvP w p id i,∀c∈row,AVlt m c:=fun row hr=>ZHi h row (List.mem_of_mem_take hr)
theorem Ua {m id ver sz:Nat} {rows:List (List IV)} {els:List (List AV)} (h:∀row∈els,∀c∈row,AVlt m c) (hm:m≤id):els.map (fun r=>r.map (Ja id ver sz rows))=els:=by
 have:=ZJ1 (m:=m) (id:=id) (ver:=ver) (sz:=sz) (rows:=rows) (h:=[.live 0 0 els]) (XY.2 ⟨h,Xu⟩) hm
 simpa [Ye] using this
theorem ZIF {m id ver sz v z:Nat} {rows:List (List IV)} {els:List (List AV)} {r:List AV} (h:∀row∈els,∀c∈row,AVlt m c) (hm:m≤id):Ye (Ja id ver sz rows) (.live v z (els++[r]))=.live v z (els++[r.map (Ja id ver sz rows)]):=by
 unfold Ye
 simp only[List.map_append,List.map_cons,List.map_nil]
 rw[Ua h hm]

def cp1 (B:List Row) (w:Wd) (p i:Nat):List Row:=if p<i then [.live 0 6 [[.v (.str (w.sv.getD p dfSv).name),.v (.isl 3 ((w.sv.getD p dfSv).code.map eIn)),.v (.int .i64 (w.sv.getD p dfSv).pc),.sl (B.length+5) 1 0 (w.sv.getD p dfSv).vars.length,.v (.int .i64 (w.sv.getD p dfSv).off),.v (.int .i64 (w.sv.getD p dfSv).rate)]],.live 1 1 (vs ((w.sv.getD p dfSv).vars.map eI))] else []
def cp2 (B:List Row) (w:Wd) (p i:Nat):List Row:=if p<i then [.live 0 3 [[.v (.str (w.tr.getD p dfPr).name),.v (.isl 2 ((w.tr.getD p dfPr).vars.map eVr)),.sl (B.length+8) (w.tr.getD p dfPr).evs.length 0 (w.tr.getD p dfPr).evs.length]],.live (w.tr.getD p dfPr).evs.length 5 (vs ((w.tr.getD p dfPr).evs.map eEv))] else []
theorem ZA9 (w:Wd) (hSv:SvsS w.sv) (hS:Small w.tr) (hN:NwS w.net) (p:Nat) (hp:p<w.sv.length) (hpt:p<w.tr.length) (b l:List Row) :
  ZA Tryz.prog 59 [.agg ((eWd w).map .v)] b l (fun r b' l'=>r=.agg (mvC w (b.length+l.length))∧b'=b∧l'=l++ZNC w p (b.length+l.length)):=by
 refine ZD ZIo rfl (by decide) ?_
 intro B g hB hR hE hA;simp only[Zn]at hA
 have heW:(eWd w).map AV.v=[.v (.isl 6 (w.sv.map eSv)),.v (.int .i64 w.net.now),.v (.bool w.net.fifo),.v (.isl 4 (w.net.l.map eMs)),.v (.isl 1 (w.net.tm.map eI)),.v (.isl 2 (w.net.fates.map eFt)),.v (.int .i64 w.now),.v (.int .i64 w.sent),.v (.isl 3 (w.tr.map ePr))]:=rfl
 rw[heW]at hA
 have hsl:=hSv.len
 have htl:=hS.np
 have cN:=fun b l=>ZG3 w.net hN b l
 simp only[eNw,List.map_cons,List.map_nil]at cN
 have c10:cp1 B w p 0=[]:=if_neg oM
 have c20:cp2 B w p 0=[]:=if_neg oM
 have s0:cvS w p (B.length+5) 0=[]:=rfl
 have p0:cvP w p (B.length+8) 0=[]:=rfl
 simp (disch:=first|decide|omega) only[a_wcop,hA,ZC,cellsOf,go_sem]
 refine ZA.nxt (cN _ _) ?_
 simp (disch:=first|decide|omega) only[hA,ZC,cellsOf,List.length_map,go_sem]
 refine QM (ι:=Nat) ZB3 (fun i=>[(22,.v (.int .i64 i))]) 3 (fun i=>[.live 0 9 [[.v (.isl 6 (w.sv.map eSv)),.v (.int .i64 w.net.now),.v (.bool w.net.fifo),.v (.isl 4 (w.net.l.map eMs)),.v (.isl 1 (w.net.tm.map eI)),.v (.isl 2 (w.net.fates.map eFt)),.v (.int .i64 w.now),.v (.int .i64 w.sent),.v (.isl 3 (w.tr.map ePr))]],.live 0 9 [[.v .zsl,.v (.int .i64 0),.v (.bool false),.v .zsl,.v .zsl,.v .zsl,.v (.int .i64 0),.v (.int .i64 0),.v .zsl]],.live 0 9 [[.sl (B.length+3) i 0 i,.v (.int .i64 w.net.now),.v (.bool w.net.fifo),.v (.isl 4 (w.net.l.map eMs)),.v (.isl 1 (w.net.tm.map eI)),.v (.isl 2 (w.net.fates.map eFt)),.v (.int .i64 w.now),.v (.int .i64 w.sent),.v .zsl]],.live i 6 (cvS w p (B.length+5) i)]++cp1 B w p i)
  (fun i=>i≤w.sv.length) (fun i=>w.sv.length-i) 0 (Nat.zero_le _) (by (repeat (first|exact hE.mono oM|refine KLt.up ?_ kL))) (by ((try simp (disch:=decide) only[hA,go_sem])<;>exact kH)) (fun e=>by
   rw[c10,s0]
   exact Za.nilcell (e:=e) (b:=B) (l:=[.live 0 9 [[.v (.isl 6 (w.sv.map eSv)),.v (.int .i64 w.net.now),.v (.bool w.net.fifo),.v (.isl 4 (w.net.l.map eMs)),.v (.isl 1 (w.net.tm.map eI)),.v (.isl 2 (w.net.fates.map eFt)),.v (.int .i64 w.now),.v (.int .i64 w.sent),.v (.isl 3 (w.tr.map ePr))]],.live 0 9 [[.v .zsl,.v (.int .i64 0),.v (.bool false),.v .zsl,.v .zsl,.v .zsl,.v (.int .i64 0),.v (.int .i64 0),.v .zsl]],.live 0 9 [[.v .zsl,.v (.int .i64 w.net.now),.v (.bool w.net.fifo),.v (.isl 4 (w.net.l.map eMs)),.v (.isl 1 (w.net.tm.map eI)),.v (.isl 2 (w.net.fates.map eFt)),.v (.int .i64 w.now),.v (.int .i64 w.sent),.v .zsl]]]) (i:=2) (k:=0) (j:=0) (sz:=6) rfl rfl rfl) ?_
 intro g1 hE1 hEE1 hg1 i hi
 by_cases hlt:i<w.sv.length
 ·have hgs:=ZA6 hlt
  have hSs:=hSv.all w.sv[i] (List.getElem_mem hlt)
  have hsc:=hSs.code
  have hsvv:=hSs.vars
  have hgd:w.sv.getD i dfSv=w.sv[i]:=ZF hlt
  obtain⟨s,hs⟩:∃s,w.sv[i]=s:=⟨_,rfl⟩
  rw[hs]at hgs hsc hsvv hgd
  have cC:=fun b l=>ZCc s.code hsc b l
  have cVv:=fun b l=>KX s.vars hsvv b l
  have cVl:=fun b l=>Je s.vars hsvv b l
  have tl:=ZI3 (w:=w) (p:=p) (id:=B.length+5) hi
  have tk:=ZNT (w:=w) (p:=p) (id:=B.length+5) hi
  rcases Nat.lt_trichotomy i p with hlp|hep|hgp
  ·have c1:cp1 B w p i=[]:=if_neg oM
   have c2:cp1 B w p (i+1)=[]:=if_neg oM
   have sn:cvS w p (B.length+5) i++[[.v (.str s.name),.v (.isl 3 (s.code.map eIn)),.v (.int .i64 s.pc),.v (.isl 1 (s.vars.map eI)),.v (.int .i64 s.off),.v (.int .i64 s.rate)]]=cvS w p (B.length+5) (i+1):=by have:=ZNU (w:=w) (p:=p) (id:=B.length+5) hlt oM;rw[hgd]at this;exact this
   have lt1:∀m,(∀row∈cvS w p (B.length+5) (i+1),∀c∈row,AVlt m c):=fun m=>ZMO oM
   rw[c1]
   simp (disch:=first|decide|omega) only[hA,hg1,hgs,tl,tk,ZC,cellsOf,List.length_map,List.replicate_succ,List.replicate_zero,reduceCtorEq,XZ,go_sem]
   refine ZA.nxt (cC _ _) ?_
   simp (disch:=first|decide|omega) only[hA,hg1,hgs,tl,tk,ZC,cellsOf,List.length_map,List.replicate_succ,List.replicate_zero,reduceCtorEq,XZ,go_sem]
   refine ZA.nxt (cVv _ _) ?_
   simp (disch:=first|decide|omega) only[hA,hg1,hgs,tl,tk,ZC,cellsOf,List.length_map,List.replicate_succ,List.replicate_zero,reduceCtorEq,XZ,go_sem]
   rw[sn]
   refine⟨i+1,hlt,by simp only;omega,?_⟩
   simp only
   rw[c2]
   have h0:=lt1 (B.length+4)
   exact Za.kround (p:=ZB3) (k:=3) (junk:=[_,_]) (by ((repeat refine (Z9 rfl).trans ?_);exact hEE1)) (by ((try simp (disch:=decide) only[hA,hg1,go_sem])<;>exact kH)) rfl hE1 (by simp) kV hR (by simp (disch:=omega) only[eq_true h0,lts.down,Nat.reduceLT,Nat.reduceAdd])
  ·have hep2:=hep.symm
   subst hep2
   have c1:cp1 B w p p=[]:=if_neg oM
   have c2:cp1 B w p (p+1)=[.live 0 6 [[.v (.str (w.sv.getD p dfSv).name),.v (.isl 3 ((w.sv.getD p dfSv).code.map eIn)),.v (.int .i64 (w.sv.getD p dfSv).pc),.sl (B.length+5) 1 0 (w.sv.getD p dfSv).vars.length,.v (.int .i64 (w.sv.getD p dfSv).off),.v (.int .i64 (w.sv.getD p dfSv).rate)]],.live 1 1 (vs ((w.sv.getD p dfSv).vars.map eI))]:=if_pos oM
   rw[hgd]at c2
   have sn:cvS w p (B.length+5) p++[[.v (.str s.name),.v (.isl 3 (s.code.map eIn)),.v (.int .i64 s.pc),.sl (B.length+5) 1 0 s.vars.length,.v (.int .i64 s.off),.v (.int .i64 s.rate)]]=cvS w p (B.length+5) (p+1):=by have:=cvS_p (w:=w) (p:=p) (id:=B.length+5) hlt;rw[hgd]at this;exact this
   have lt1:∀m,B.length+6≤m→(∀row∈cvS w p (B.length+5) (p+1),∀c∈row,AVlt m c):=fun m h=>ZLA oM
   rw[c1]
   simp (disch:=first|decide|omega) only[hA,hg1,hgs,tl,tk,ZC,cellsOf,List.length_map,List.replicate_succ,List.replicate_zero,reduceCtorEq,XZ,go_sem]
   refine ZA.nxt (cC _ _) ?_
   simp (disch:=first|decide|omega) only[hA,hg1,hgs,tl,tk,ZC,cellsOf,List.length_map,List.replicate_succ,List.replicate_zero,reduceCtorEq,XZ,go_sem]
   refine ZA.nxt (cVl _ _) ?_
   simp (disch:=first|decide|omega) only[hA,hg1,hgs,tl,tk,ZC,cellsOf,List.length_map,List.replicate_succ,List.replicate_zero,reduceCtorEq,XZ,go_sem]
   rw[sn]
   refine⟨p+1,hlt,by simp only;omega,?_⟩
   simp only
   rw[c2]
   have h0:=lt1 (B.length+6) oM
   exact Za.kround (p:=ZB3) (k:=3) (junk:=[_]) (by ((repeat refine (Z9 rfl).trans ?_);exact hEE1)) (by ((try simp (disch:=decide) only[hA,hg1,go_sem])<;>exact kH)) rfl hE1 (by simp) kV hR (by simp (disch:=omega) only[eq_true h0,lts.down,Nat.reduceLT,Nat.reduceAdd])
  ·have c1:cp1 B w p i=[.live 0 6 [[.v (.str (w.sv.getD p dfSv).name),.v (.isl 3 ((w.sv.getD p dfSv).code.map eIn)),.v (.int .i64 (w.sv.getD p dfSv).pc),.sl (B.length+5) 1 0 (w.sv.getD p dfSv).vars.length,.v (.int .i64 (w.sv.getD p dfSv).off),.v (.int .i64 (w.sv.getD p dfSv).rate)]],.live 1 1 (vs ((w.sv.getD p dfSv).vars.map eI))]:=if_pos oM
   have c2:cp1 B w p (i+1)=[.live 0 6 [[.v (.str (w.sv.getD p dfSv).name),.v (.isl 3 ((w.sv.getD p dfSv).code.map eIn)),.v (.int .i64 (w.sv.getD p dfSv).pc),.sl (B.length+5) 1 0 (w.sv.getD p dfSv).vars.length,.v (.int .i64 (w.sv.getD p dfSv).off),.v (.int .i64 (w.sv.getD p dfSv).rate)]],.live 1 1 (vs ((w.sv.getD p dfSv).vars.map eI))]:=if_pos oM
   have sn:cvS w p (B.length+5) i++[[.v (.str s.name),.v (.isl 3 (s.code.map eIn)),.v (.int .i64 s.pc),.v (.isl 1 (s.vars.map eI)),.v (.int .i64 s.off),.v (.int .i64 s.rate)]]=cvS w p (B.length+5) (i+1):=by have:=ZNU (w:=w) (p:=p) (id:=B.length+5) hlt oM;rw[hgd]at this;exact this
   have lt1:∀m,B.length+6≤m→(∀row∈cvS w p (B.length+5) (i+1),∀c∈row,AVlt m c):=fun m h=>ZLA oM
   rw[c1]
   simp (disch:=first|decide|omega) only[hA,hg1,hgs,tl,tk,ZC,cellsOf,List.length_map,List.replicate_succ,List.replicate_zero,reduceCtorEq,XZ,go_sem]
   refine ZA.nxt (cC _ _) ?_
   simp (disch:=first|decide|omega) only[hA,hg1,hgs,tl,tk,ZC,cellsOf,List.length_map,List.replicate_succ,List.replicate_zero,reduceCtorEq,XZ,go_sem]
   refine ZA.nxt (cVv _ _) ?_
   simp (disch:=first|decide|omega) only[hA,hg1,hgs,tl,tk,ZC,cellsOf,List.length_map,List.replicate_succ,List.replicate_zero,reduceCtorEq,XZ,go_sem]
   rw[sn]
   refine⟨i+1,hlt,by simp only;omega,?_⟩
   simp only
   rw[c2]
   have h0:=lt1 (B.length+6) oM
   exact Za.kround (p:=ZB3) (k:=3) (junk:=[_,_]) (by ((repeat refine (Z9 rfl).trans ?_);exact hEE1)) (by ((try simp (disch:=decide) only[hA,hg1,go_sem])<;>exact kH)) rfl hE1 (by simp) kV hR (by simp (disch:=omega) only[eq_true h0,lts.down,Nat.reduceLT,Nat.reduceAdd])
 obtain rfl:i=w.sv.length:=by omega
 have c1:cp1 B w p w.sv.length=[.live 0 6 [[.v (.str (w.sv.getD p dfSv).name),.v (.isl 3 ((w.sv.getD p dfSv).code.map eIn)),.v (.int .i64 (w.sv.getD p dfSv).pc),.sl (B.length+5) 1 0 (w.sv.getD p dfSv).vars.length,.v (.int .i64 (w.sv.getD p dfSv).off),.v (.int .i64 (w.sv.getD p dfSv).rate)]],.live 1 1 (vs ((w.sv.getD p dfSv).vars.map eI))]:=if_pos oM
 have tS:cvS w p (B.length+5) w.sv.length=VN w p (B.length+5):=List.take_of_length_le (by rw[YT];omega)
 rw[c1,tS]
 obtain⟨SV,hSV⟩:∃SV,VN w p (B.length+5)=SV:=⟨_,rfl⟩
 have hSlt:∀m,B.length+6≤m→(∀row∈SV,∀c∈row,AVlt m c):=fun m h=>by rw[←hSV];exact ZD1 oM
 rw[hSV]
 obtain⟨s,hs⟩:∃s,w.sv.getD p dfSv=s:=⟨_,rfl⟩
 simp (disch:=first|decide|omega) only[hA,hg1,ZC,cellsOf,List.length_map,go_sem]
 refine QM (ι:=Nat) ZB2 (fun i=>[(45,.v (.int .i64 i))]) 6 (fun i=>[.live 0 9 [[.v (.isl 6 (w.sv.map eSv)),.v (.int .i64 w.net.now),.v (.bool w.net.fifo),.v (.isl 4 (w.net.l.map eMs)),.v (.isl 1 (w.net.tm.map eI)),.v (.isl 2 (w.net.fates.map eFt)),.v (.int .i64 w.now),.v (.int .i64 w.sent),.v (.isl 3 (w.tr.map ePr))]],.live 0 9 [[.v .zsl,.v (.int .i64 0),.v (.bool false),.v .zsl,.v .zsl,.v .zsl,.v (.int .i64 0),.v (.int .i64 0),.v .zsl]],.live 0 9 [[.sl (B.length+3) w.sv.length 0 w.sv.length,.v (.int .i64 w.net.now),.v (.bool w.net.fifo),.v (.isl 4 (w.net.l.map eMs)),.v (.isl 1 (w.net.tm.map eI)),.v (.isl 2 (w.net.fates.map eFt)),.v (.int .i64 w.now),.v (.int .i64 w.sent),.sl (B.length+6) i 0 i]],.live w.sv.length 6 SV,.live 0 6 [[.v (.str (w.sv.getD p dfSv).name),.v (.isl 3 ((w.sv.getD p dfSv).code.map eIn)),.v (.int .i64 (w.sv.getD p dfSv).pc),.sl (B.length+5) 1 0 (w.sv.getD p dfSv).vars.length,.v (.int .i64 (w.sv.getD p dfSv).off),.v (.int .i64 (w.sv.getD p dfSv).rate)]],.live 1 1 (vs ((w.sv.getD p dfSv).vars.map eI)),.live i 3 (cvP w p (B.length+8) i)]++cp2 B w p i)
  (fun i=>i≤w.tr.length) (fun i=>w.tr.length-i) 0 (Nat.zero_le _) (by (repeat (first|exact hE1.mono oM|refine KLt.up ?_ kL))) (by ((try simp (disch:=decide) only[hA,hg1,go_sem])<;>exact kH)) (fun e=>by
   rw[c20,p0]
   exact Za.nilcell (e:=e) (b:=B) (l:=[.live 0 9 [[.v (.isl 6 (w.sv.map eSv)),.v (.int .i64 w.net.now),.v (.bool w.net.fifo),.v (.isl 4 (w.net.l.map eMs)),.v (.isl 1 (w.net.tm.map eI)),.v (.isl 2 (w.net.fates.map eFt)),.v (.int .i64 w.now),.v (.int .i64 w.sent),.v (.isl 3 (w.tr.map ePr))]],.live 0 9 [[.v .zsl,.v (.int .i64 0),.v (.bool false),.v .zsl,.v .zsl,.v .zsl,.v (.int .i64 0),.v (.int .i64 0),.v .zsl]],.live 0 9 [[.sl (B.length+3) w.sv.length 0 w.sv.length,.v (.int .i64 w.net.now),.v (.bool w.net.fifo),.v (.isl 4 (w.net.l.map eMs)),.v (.isl 1 (w.net.tm.map eI)),.v (.isl 2 (w.net.fates.map eFt)),.v (.int .i64 w.now),.v (.int .i64 w.sent),.v .zsl]],.live w.sv.length 6 SV,.live 0 6 [[.v (.str (w.sv.getD p dfSv).name),.v (.isl 3 ((w.sv.getD p dfSv).code.map eIn)),.v (.int .i64 (w.sv.getD p dfSv).pc),.sl (B.length+5) 1 0 (w.sv.getD p dfSv).vars.length,.v (.int .i64 (w.sv.getD p dfSv).off),.v (.int .i64 (w.sv.getD p dfSv).rate)]],.live 1 1 (vs ((w.sv.getD p dfSv).vars.map eI))]) (i:=2) (k:=0) (j:=8) (sz:=3) rfl rfl rfl) ?_
 intro g2 hE2 hEE2 hg2 i hi
 by_cases hlt:i<w.tr.length
 ·have hgr:=Ux hlt
  have hne:=hS.ne w.tr[i] (List.getElem_mem hlt)
  have hnv:=hS.nv w.tr[i] (List.getElem_mem hlt)
  have hna:=hS.na w.tr[i] (List.getElem_mem hlt)
  have hgd:w.tr.getD i dfPr=w.tr[i]:=ZF hlt
  obtain⟨x,hx⟩:∃x,w.tr[i]=x:=⟨_,rfl⟩
  rw[hx]at hgr hne hnv hna hgd
  have cV:=fun b l=>ZCb x.vars hnv b l
  have tl:=ZI5 (w:=w) (p:=p) (id:=B.length+8) hi
  have tk:=ZNV (w:=w) (p:=p) (id:=B.length+8) hi
  have hxe:x.evs.take x.evs.length=x.evs:=List.take_length
  rcases Nat.lt_trichotomy i p with hlp|hep|hgp
  ·have c1:cp2 B w p i=[]:=if_neg oM
   have c2:cp2 B w p (i+1)=[]:=if_neg oM
   have lt1:∀m,(∀row∈cvP w p (B.length+8) (i+1),∀c∈row,AVlt m c):=fun m=>ZDp oM
   have lt0:∀m,(∀row∈cvP w p (B.length+8) i,∀c∈row,AVlt m c):=fun m=>ZDp oM
   have sn:cvP w p (B.length+8) i++[[.v (.str x.name),.v (.isl 2 (x.vars.map eVr)),.v (.isl 5 (x.evs.map eEv))]]=cvP w p (B.length+8) (i+1):=by have:=ZNW (w:=w) (p:=p) (id:=B.length+8) hlt oM;rw[hgd]at this;exact this
   rw[c1]
   simp (disch:=first|decide|omega) only[hA,hg1,hg2,hgr,tl,tk,ZC,cellsOf,List.length_map,List.replicate_succ,List.replicate_zero,reduceCtorEq,XZ,go_sem]
   refine ZA.nxt (cV _ _) ?_
   simp (disch:=first|decide|omega) only[hA,hg1,hg2,hgr,tl,tk,ZC,cellsOf,List.length_map,List.replicate_succ,List.replicate_zero,reduceCtorEq,XZ,go_sem]
   refine QM (ι:=Nat) Un (fun j=>[(58,.v (.int .i64 j))]) 8 (fun j=>[.live 0 9 [[.v (.isl 6 (w.sv.map eSv)),.v (.int .i64 w.net.now),.v (.bool w.net.fifo),.v (.isl 4 (w.net.l.map eMs)),.v (.isl 1 (w.net.tm.map eI)),.v (.isl 2 (w.net.fates.map eFt)),.v (.int .i64 w.now),.v (.int .i64 w.sent),.v (.isl 3 (w.tr.map ePr))]],.live 0 9 [[.v .zsl,.v (.int .i64 0),.v (.bool false),.v .zsl,.v .zsl,.v .zsl,.v (.int .i64 0),.v (.int .i64 0),.v .zsl]],.live 0 9 [[.sl (B.length+3) w.sv.length 0 w.sv.length,.v (.int .i64 w.net.now),.v (.bool w.net.fifo),.v (.isl 4 (w.net.l.map eMs)),.v (.isl 1 (w.net.tm.map eI)),.v (.isl 2 (w.net.fates.map eFt)),.v (.int .i64 w.now),.v (.int .i64 w.sent),.sl (B.length+6) i 0 i]],.live w.sv.length 6 SV,.live 0 6 [[.v (.str (w.sv.getD p dfSv).name),.v (.isl 3 ((w.sv.getD p dfSv).code.map eIn)),.v (.int .i64 (w.sv.getD p dfSv).pc),.sl (B.length+5) 1 0 (w.sv.getD p dfSv).vars.length,.v (.int .i64 (w.sv.getD p dfSv).off),.v (.int .i64 (w.sv.getD p dfSv).rate)]],.live 1 1 (vs ((w.sv.getD p dfSv).vars.map eI)),.live i 3 (cvP w p (B.length+8) i),.live 0 3 [[.v (.str x.name),.v (.isl 2 (x.vars.map eVr)),.sl (B.length+8) j 0 j]],.live j 5 (vs ((x.evs.take j).map eEv))]) (fun j=>j≤x.evs.length) (fun j=>x.evs.length-j) 0 (Nat.zero_le _) (by (repeat (first|exact hE2.mono oM|refine KLt.up ?_ kL))) (by ((try simp (disch:=decide) only[hA,hg1,hg2,go_sem])<;>exact kH)) (fun e=>Za.nilcell (e:=e) (b:=B) (l:=[.live 0 9 [[.v (.isl 6 (w.sv.map eSv)),.v (.int .i64 w.net.now),.v (.bool w.net.fifo),.v (.isl 4 (w.net.l.map eMs)),.v (.isl 1 (w.net.tm.map eI)),.v (.isl 2 (w.net.fates.map eFt)),.v (.int .i64 w.now),.v (.int .i64 w.sent),.v (.isl 3 (w.tr.map ePr))]],.live 0 9 [[.v .zsl,.v (.int .i64 0),.v (.bool false),.v .zsl,.v .zsl,.v .zsl,.v (.int .i64 0),.v (.int .i64 0),.v .zsl]],.live 0 9 [[.sl (B.length+3) w.sv.length 0 w.sv.length,.v (.int .i64 w.net.now),.v (.bool w.net.fifo),.v (.isl 4 (w.net.l.map eMs)),.v (.isl 1 (w.net.tm.map eI)),.v (.isl 2 (w.net.fates.map eFt)),.v (.int .i64 w.now),.v (.int .i64 w.sent),.sl (B.length+6) i 0 i]],.live w.sv.length 6 SV,.live 0 6 [[.v (.str (w.sv.getD p dfSv).name),.v (.isl 3 ((w.sv.getD p dfSv).code.map eIn)),.v (.int .i64 (w.sv.getD p dfSv).pc),.sl (B.length+5) 1 0 (w.sv.getD p dfSv).vars.length,.v (.int .i64 (w.sv.getD p dfSv).off),.v (.int .i64 (w.sv.getD p dfSv).rate)]],.live 1 1 (vs ((w.sv.getD p dfSv).vars.map eI)),.live i 3 (cvP w p (B.length+8) i),.live 0 3 [[.v (.str x.name),.v (.isl 2 (x.vars.map eVr)),.v .zsl]]]) (i:=7) (k:=0) (j:=2) (sz:=5) rfl rfl rfl) ?_
   intro g3 hE3 hEE3 hg3 j hj
   by_cases hlj:j<x.evs.length
   ·have hge:=UH hlj
    have hja:=hna x.evs[j] (List.getElem_mem hlj)
    have cA:=fun b l=>VY x.evs[j].asg hja b l
    have vl:((x.evs.take j).map eEv).length=j:=by rw[List.length_map,List.length_take];omega
    have vt:List.take j (vs ((x.evs.take j).map eEv))=vs ((x.evs.take j).map eEv):=List.take_of_length_le (by rw[Q4,vl];omega)
    have vt2:List.take j ((x.evs.take j).map eEv)=(x.evs.take j).map eEv:=List.take_of_length_le (by rw[vl];omega)
    have hsn:(x.evs.take j).map eEv++[[.int .i64 x.evs[j].kind,.int .i64 x.evs[j].peer,.int .i64 x.evs[j].msg,.int .i64 x.evs[j].time,.isl 2 (x.evs[j].asg.map ZCz)]]=(x.evs.take (j+1)).map eEv:=by rw[List.take_add_one,List.getElem?_eq_getElem hlj,List.map_append];rfl
    simp (disch:=first|decide|omega) only[hA,hg1,hg2,hg3,hge,vl,vt,vt2,ZC,cellsOf,List.length_map,List.replicate_succ,List.replicate_zero,reduceCtorEq,XZ,go_sem]
    refine ZA.nxt (cA _ _) ?_
    simp (disch:=first|decide|omega) only[hA,hg1,hg2,hg3,hge,vl,vt,vt2,ZC,cellsOf,List.length_map,List.replicate_succ,List.replicate_zero,reduceCtorEq,XZ,go_sem]
    rw[hsn]
    refine⟨j+1,hlj,by simp only;omega,?_⟩
    have h1:=hSlt (B.length+9) oM
    have h0:=lt0 (B.length+9)
    exact Za.kround (p:=Un) (k:=8) (junk:=[_,_]) (by ((repeat refine (Z9 rfl).trans ?_);exact hEE3)) (by ((try simp (disch:=decide) only[hA,hg1,hg2,hg3,go_sem])<;>exact kH)) rfl hE3 (by simp) kV hR (by simp (disch:=omega) only[eq_true h0,eq_true h1,lts.down,Nat.reduceLT,Nat.reduceAdd])
   obtain rfl:j=x.evs.length:=by omega
   rw[hxe]
   simp (disch:=first|decide|omega) only[hA,hg1,hg2,hg3,tl,tk,ZC,cellsOf,List.length_map,List.replicate_succ,List.replicate_zero,reduceCtorEq,XZ,go_sem]
   refine⟨i+1,hlt,by simp only;omega,?_⟩
   simp only
   rw[c2,←sn]
   have h0:=lt1 (B.length+7)
   rw[←sn]at h0
   have h1:=hSlt (B.length+7) oM
   refine Za.kroundG (i:=8) (ver:=x.evs.length) (sz:=5) (rows:=x.evs.map eEv) (junk:=[.live 0 3 [[.v (.str x.name),.v (.isl 2 (x.vars.map eVr)),.v (.isl 5 (x.evs.map eEv))]],.dead x.evs.length,.live 0 3 [[.v (.str x.name),.v (.isl 2 (x.vars.map eVr)),.v (.isl 5 (x.evs.map eEv))]]]) (p:=ZB2) (k:=6) rfl (by ((repeat refine (Z9 rfl).trans ?_);refine (UZ hg3 (Uq rfl)).trans ?_;(repeat refine (Z9 rfl).trans ?_);exact hEE2)) (by ((try simp (disch:=decide) only[hA,hg1,hg2,hg3,go_sem])<;>exact kH)) ?_ hE2 (by simp) (by simp) kV hR (by simp (disch:=omega) only[eq_true h0,eq_true h1,lts.down,Nat.reduceLT,Nat.reduceAdd]) kV
   have hz:∀(a c d:Nat),a≠B.length+8→Ja (B.length+8) x.evs.length 5 (x.evs.map eEv) (.sl a c 0 d)=.sl a c 0 d:=fun a c d h=>by simp[Ja,h]
   have hy:Ja (B.length+8) x.evs.length 5 (x.evs.map eEv) (.sl (B.length+8) x.evs.length 0 x.evs.length)=.v (.isl 5 (x.evs.map eEv)):=ZBd (by rw[List.length_map])
   have hv:∀y:IV,Ja (B.length+8) x.evs.length 5 (x.evs.map eEv) (.v y)=.v y:=fun _=>rfl
   have hSf:=Ua (ver:=x.evs.length) (sz:=5) (rows:=x.evs.map eEv) h1 (show B.length+7≤B.length+8 by omega)
   have hPf:=ZIF (ver:=x.evs.length) (sz:=5) (rows:=x.evs.map eEv) (v:=i+1) (z:=3) (r:=[.v (.str x.name),.v (.isl 2 (x.vars.map eVr)),.sl (B.length+8) x.evs.length 0 x.evs.length]) (lt0 (B.length+7)) (show B.length+7≤B.length+8 by omega)
   have hV:∀r:List (List IV),(vs r).map (fun y=>y.map (Ja (B.length+8) x.evs.length 5 (x.evs.map eEv)))=vs r:=fun r=>Ua (m:=0) (Ui.2 trivial) (Nat.zero_le _)
   have hPf2:=hPf
   unfold Ye at hPf
   simp only[List.map_cons,List.map_nil,hz,hy,hv]at hPf2
   simp only[List.cons_append,List.nil_append,List.set_cons_succ,List.set_cons_zero,List.map_cons,List.map_nil,hPf2]
   unfold Ye
   simp (disch:=omega) only[List.map_cons,List.map_nil,hz,hy,hv,hSf,hV]
  ·have hep2:=hep.symm
   subst hep2
   have c1:cp2 B w p p=[]:=if_neg oM
   have c2:cp2 B w p (p+1)=[.live 0 3 [[.v (.str (w.tr.getD p dfPr).name),.v (.isl 2 ((w.tr.getD p dfPr).vars.map eVr)),.sl (B.length+8) (w.tr.getD p dfPr).evs.length 0 (w.tr.getD p dfPr).evs.length]],.live (w.tr.getD p dfPr).evs.length 5 (vs ((w.tr.getD p dfPr).evs.map eEv))]:=if_pos oM
   rw[hgd]at c2
   have lt1:∀m,B.length+9≤m→(∀row∈cvP w p (B.length+8) (p+1),∀c∈row,AVlt m c):=fun m h=>ZI4 oM
   have lt0:∀m,(∀row∈cvP w p (B.length+8) p,∀c∈row,AVlt m c):=fun m=>ZDp oM
   have sn:cvP w p (B.length+8) p++[[.v (.str x.name),.v (.isl 2 (x.vars.map eVr)),.sl (B.length+8) x.evs.length 0 x.evs.length]]=cvP w p (B.length+8) (p+1):=by have:=cvP_p (w:=w) (p:=p) (id:=B.length+8) hlt;rw[hgd]at this;exact this
   rw[c1]
   simp (disch:=first|decide|omega) only[hA,hg1,hg2,hgr,tl,tk,ZC,cellsOf,List.length_map,List.replicate_succ,List.replicate_zero,reduceCtorEq,XZ,go_sem]
   refine ZA.nxt (cV _ _) ?_
   simp (disch:=first|decide|omega) only[hA,hg1,hg2,hgr,tl,tk,ZC,cellsOf,List.length_map,List.replicate_succ,List.replicate_zero,reduceCtorEq,XZ,go_sem]
   refine QM (ι:=Nat) Un (fun j=>[(58,.v (.int .i64 j))]) 8 (fun j=>[.live 0 9 [[.v (.isl 6 (w.sv.map eSv)),.v (.int .i64 w.net.now),.v (.bool w.net.fifo),.v (.isl 4 (w.net.l.map eMs)),.v (.isl 1 (w.net.tm.map eI)),.v (.isl 2 (w.net.fates.map eFt)),.v (.int .i64 w.now),.v (.int .i64 w.sent),.v (.isl 3 (w.tr.map ePr))]],.live 0 9 [[.v .zsl,.v (.int .i64 0),.v (.bool false),.v .zsl,.v .zsl,.v .zsl,.v (.int .i64 0),.v (.int .i64 0),.v .zsl]],.live 0 9 [[.sl (B.length+3) w.sv.length 0 w.sv.length,.v (.int .i64 w.net.now),.v (.bool w.net.fifo),.v (.isl 4 (w.net.l.map eMs)),.v (.isl 1 (w.net.tm.map eI)),.v (.isl 2 (w.net.fates.map eFt)),.v (.int .i64 w.now),.v (.int .i64 w.sent),.sl (B.length+6) p 0 p]],.live w.sv.length 6 SV,.live 0 6 [[.v (.str (w.sv.getD p dfSv).name),.v (.isl 3 ((w.sv.getD p dfSv).code.map eIn)),.v (.int .i64 (w.sv.getD p dfSv).pc),.sl (B.length+5) 1 0 (w.sv.getD p dfSv).vars.length,.v (.int .i64 (w.sv.getD p dfSv).off),.v (.int .i64 (w.sv.getD p dfSv).rate)]],.live 1 1 (vs ((w.sv.getD p dfSv).vars.map eI)),.live p 3 (cvP w p (B.length+8) p),.live 0 3 [[.v (.str x.name),.v (.isl 2 (x.vars.map eVr)),.sl (B.length+8) j 0 j]],.live j 5 (vs ((x.evs.take j).map eEv))]) (fun j=>j≤x.evs.length) (fun j=>x.evs.length-j) 0 (Nat.zero_le _) (by (repeat (first|exact hE2.mono oM|refine KLt.up ?_ kL))) (by ((try simp (disch:=decide) only[hA,hg1,hg2,go_sem])<;>exact kH)) (fun e=>Za.nilcell (e:=e) (b:=B) (l:=[.live 0 9 [[.v (.isl 6 (w.sv.map eSv)),.v (.int .i64 w.net.now),.v (.bool w.net.fifo),.v (.isl 4 (w.net.l.map eMs)),.v (.isl 1 (w.net.tm.map eI)),.v (.isl 2 (w.net.fates.map eFt)),.v (.int .i64 w.now),.v (.int .i64 w.sent),.v (.isl 3 (w.tr.map ePr))]],.live 0 9 [[.v .zsl,.v (.int .i64 0),.v (.bool false),.v .zsl,.v .zsl,.v .zsl,.v (.int .i64 0),.v (.int .i64 0),.v .zsl]],.live 0 9 [[.sl (B.length+3) w.sv.length 0 w.sv.length,.v (.int .i64 w.net.now),.v (.bool w.net.fifo),.v (.isl 4 (w.net.l.map eMs)),.v (.isl 1 (w.net.tm.map eI)),.v (.isl 2 (w.net.fates.map eFt)),.v (.int .i64 w.now),.v (.int .i64 w.sent),.sl (B.length+6) p 0 p]],.live w.sv.length 6 SV,.live 0 6 [[.v (.str (w.sv.getD p dfSv).name),.v (.isl 3 ((w.sv.getD p dfSv).code.map eIn)),.v (.int .i64 (w.sv.getD p dfSv).pc),.sl (B.length+5) 1 0 (w.sv.getD p dfSv).vars.length,.v (.int .i64 (w.sv.getD p dfSv).off),.v (.int .i64 (w.sv.getD p dfSv).rate)]],.live 1 1 (vs ((w.sv.getD p dfSv).vars.map eI)),.live p 3 (cvP w p (B.length+8) p),.live 0 3 [[.v (.str x.name),.v (.isl 2 (x.vars.map eVr)),.v .zsl]]]) (i:=7) (k:=0) (j:=2) (sz:=5) rfl rfl rfl) ?_
   intro g3 hE3 hEE3 hg3 j hj
   by_cases hlj:j<x.evs.length
   ·have hge:=UH hlj
    have hja:=hna x.evs[j] (List.getElem_mem hlj)
    have cA:=fun b l=>VY x.evs[j].asg hja b l
    have vl:((x.evs.take j).map eEv).length=j:=by rw[List.length_map,List.length_take];omega
    have vt:List.take j (vs ((x.evs.take j).map eEv))=vs ((x.evs.take j).map eEv):=List.take_of_length_le (by rw[Q4,vl];omega)
    have vt2:List.take j ((x.evs.take j).map eEv)=(x.evs.take j).map eEv:=List.take_of_length_le (by rw[vl];omega)
    have hsn:(x.evs.take j).map eEv++[[.int .i64 x.evs[j].kind,.int .i64 x.evs[j].peer,.int .i64 x.evs[j].msg,.int .i64 x.evs[j].time,.isl 2 (x.evs[j].asg.map ZCz)]]=(x.evs.take (j+1)).map eEv:=by rw[List.take_add_one,List.getElem?_eq_getElem hlj,List.map_append];rfl
    simp (disch:=first|decide|omega) only[hA,hg1,hg2,hg3,hge,vl,vt,vt2,ZC,cellsOf,List.length_map,List.replicate_succ,List.replicate_zero,reduceCtorEq,XZ,go_sem]
    refine ZA.nxt (cA _ _) ?_
    simp (disch:=first|decide|omega) only[hA,hg1,hg2,hg3,hge,vl,vt,vt2,ZC,cellsOf,List.length_map,List.replicate_succ,List.replicate_zero,reduceCtorEq,XZ,go_sem]
    rw[hsn]
    refine⟨j+1,hlj,by simp only;omega,?_⟩
    have h1:=hSlt (B.length+9) oM
    have h0:=lt0 (B.length+9)
    exact Za.kround (p:=Un) (k:=8) (junk:=[_,_]) (by ((repeat refine (Z9 rfl).trans ?_);exact hEE3)) (by ((try simp (disch:=decide) only[hA,hg1,hg2,hg3,go_sem])<;>exact kH)) rfl hE3 (by simp) kV hR (by simp (disch:=omega) only[eq_true h0,eq_true h1,lts.down,Nat.reduceLT,Nat.reduceAdd])
   obtain rfl:j=x.evs.length:=by omega
   rw[hxe]
   simp (disch:=first|decide|omega) only[hA,hg1,hg2,hg3,tl,tk,ZC,cellsOf,List.length_map,List.replicate_succ,List.replicate_zero,reduceCtorEq,XZ,go_sem]
   refine⟨p+1,hlt,by simp only;omega,?_⟩
   simp only
   rw[c2,sn]
   have h0:=lt1 (B.length+9) oM
   have h1:=hSlt (B.length+9) oM
   exact Za.kround (p:=ZB2) (k:=6) (junk:=[_]) (by ((repeat refine (Z9 rfl).trans ?_);refine (UZ hg3 (Uq rfl)).trans ?_;(repeat refine (Z9 rfl).trans ?_);exact hEE2)) (by ((try simp (disch:=decide) only[hA,hg1,hg2,hg3,go_sem])<;>exact kH)) rfl hE2 (by simp) kV hR (by simp (disch:=omega) only[eq_true h0,eq_true h1,lts.down,Nat.reduceLT,Nat.reduceAdd])
  ·have c1:cp2 B w p i=[.live 0 3 [[.v (.str (w.tr.getD p dfPr).name),.v (.isl 2 ((w.tr.getD p dfPr).vars.map eVr)),.sl (B.length+8) (w.tr.getD p dfPr).evs.length 0 (w.tr.getD p dfPr).evs.length]],.live (w.tr.getD p dfPr).evs.length 5 (vs ((w.tr.getD p dfPr).evs.map eEv))]:=if_pos oM
   have c2:cp2 B w p (i+1)=[.live 0 3 [[.v (.str (w.tr.getD p dfPr).name),.v (.isl 2 ((w.tr.getD p dfPr).vars.map eVr)),.sl (B.length+8) (w.tr.getD p dfPr).evs.length 0 (w.tr.getD p dfPr).evs.length]],.live (w.tr.getD p dfPr).evs.length 5 (vs ((w.tr.getD p dfPr).evs.map eEv))]:=if_pos oM
   have lt1:∀m,B.length+9≤m→(∀row∈cvP w p (B.length+8) (i+1),∀c∈row,AVlt m c):=fun m h=>ZI4 oM
   have lt0:∀m,B.length+9≤m→(∀row∈cvP w p (B.length+8) i,∀c∈row,AVlt m c):=fun m h=>ZI4 oM
   have sn:cvP w p (B.length+8) i++[[.v (.str x.name),.v (.isl 2 (x.vars.map eVr)),.v (.isl 5 (x.evs.map eEv))]]=cvP w p (B.length+8) (i+1):=by have:=ZNW (w:=w) (p:=p) (id:=B.length+8) hlt oM;rw[hgd]at this;exact this
   rw[c1]
   simp (disch:=first|decide|omega) only[hA,hg1,hg2,hgr,tl,tk,ZC,cellsOf,List.length_map,List.replicate_succ,List.replicate_zero,reduceCtorEq,XZ,go_sem]
   refine ZA.nxt (cV _ _) ?_
   simp (disch:=first|decide|omega) only[hA,hg1,hg2,hgr,tl,tk,ZC,cellsOf,List.length_map,List.replicate_succ,List.replicate_zero,reduceCtorEq,XZ,go_sem]
   refine QM (ι:=Nat) Un (fun j=>[(58,.v (.int .i64 j))]) 10 (fun j=>[.live 0 9 [[.v (.isl 6 (w.sv.map eSv)),.v (.int .i64 w.net.now),.v (.bool w.net.fifo),.v (.isl 4 (w.net.l.map eMs)),.v (.isl 1 (w.net.tm.map eI)),.v (.isl 2 (w.net.fates.map eFt)),.v (.int .i64 w.now),.v (.int .i64 w.sent),.v (.isl 3 (w.tr.map ePr))]],.live 0 9 [[.v .zsl,.v (.int .i64 0),.v (.bool false),.v .zsl,.v .zsl,.v .zsl,.v (.int .i64 0),.v (.int .i64 0),.v .zsl]],.live 0 9 [[.sl (B.length+3) w.sv.length 0 w.sv.length,.v (.int .i64 w.net.now),.v (.bool w.net.fifo),.v (.isl 4 (w.net.l.map eMs)),.v (.isl 1 (w.net.tm.map eI)),.v (.isl 2 (w.net.fates.map eFt)),.v (.int .i64 w.now),.v (.int .i64 w.sent),.sl (B.length+6) i 0 i]],.live w.sv.length 6 SV,.live 0 6 [[.v (.str (w.sv.getD p dfSv).name),.v (.isl 3 ((w.sv.getD p dfSv).code.map eIn)),.v (.int .i64 (w.sv.getD p dfSv).pc),.sl (B.length+5) 1 0 (w.sv.getD p dfSv).vars.length,.v (.int .i64 (w.sv.getD p dfSv).off),.v (.int .i64 (w.sv.getD p dfSv).rate)]],.live 1 1 (vs ((w.sv.getD p dfSv).vars.map eI)),.live i 3 (cvP w p (B.length+8) i),.live 0 3 [[.v (.str (w.tr.getD p dfPr).name),.v (.isl 2 ((w.tr.getD p dfPr).vars.map eVr)),.sl (B.length+8) (w.tr.getD p dfPr).evs.length 0 (w.tr.getD p dfPr).evs.length]],.live (w.tr.getD p dfPr).evs.length 5 (vs ((w.tr.getD p dfPr).evs.map eEv)),.live 0 3 [[.v (.str x.name),.v (.isl 2 (x.vars.map eVr)),.sl (B.length+10) j 0 j]],.live j 5 (vs ((x.evs.take j).map eEv))]) (fun j=>j≤x.evs.length) (fun j=>x.evs.length-j) 0 (Nat.zero_le _) (by (repeat (first|exact hE2.mono oM|refine KLt.up ?_ kL))) (by ((try simp (disch:=decide) only[hA,hg1,hg2,go_sem])<;>exact kH)) (fun e=>Za.nilcell (e:=e) (b:=B) (l:=[.live 0 9 [[.v (.isl 6 (w.sv.map eSv)),.v (.int .i64 w.net.now),.v (.bool w.net.fifo),.v (.isl 4 (w.net.l.map eMs)),.v (.isl 1 (w.net.tm.map eI)),.v (.isl 2 (w.net.fates.map eFt)),.v (.int .i64 w.now),.v (.int .i64 w.sent),.v (.isl 3 (w.tr.map ePr))]],.live 0 9 [[.v .zsl,.v (.int .i64 0),.v (.bool false),.v .zsl,.v .zsl,.v .zsl,.v (.int .i64 0),.v (.int .i64 0),.v .zsl]],.live 0 9 [[.sl (B.length+3) w.sv.length 0 w.sv.length,.v (.int .i64 w.net.now),.v (.bool w.net.fifo),.v (.isl 4 (w.net.l.map eMs)),.v (.isl 1 (w.net.tm.map eI)),.v (.isl 2 (w.net.fates.map eFt)),.v (.int .i64 w.now),.v (.int .i64 w.sent),.sl (B.length+6) i 0 i]],.live w.sv.length 6 SV,.live 0 6 [[.v (.str (w.sv.getD p dfSv).name),.v (.isl 3 ((w.sv.getD p dfSv).code.map eIn)),.v (.int .i64 (w.sv.getD p dfSv).pc),.sl (B.length+5) 1 0 (w.sv.getD p dfSv).vars.length,.v (.int .i64 (w.sv.getD p dfSv).off),.v (.int .i64 (w.sv.getD p dfSv).rate)]],.live 1 1 (vs ((w.sv.getD p dfSv).vars.map eI)),.live i 3 (cvP w p (B.length+8) i),.live 0 3 [[.v (.str (w.tr.getD p dfPr).name),.v (.isl 2 ((w.tr.getD p dfPr).vars.map eVr)),.sl (B.length+8) (w.tr.getD p dfPr).evs.length 0 (w.tr.getD p dfPr).evs.length]],.live (w.tr.getD p dfPr).evs.length 5 (vs ((w.tr.getD p dfPr).evs.map eEv)),.live 0 3 [[.v (.str x.name),.v (.isl 2 (x.vars.map eVr)),.v .zsl]]]) (i:=9) (k:=0) (j:=2) (sz:=5) rfl rfl rfl) ?_
   intro g3 hE3 hEE3 hg3 j hj
   by_cases hlj:j<x.evs.length
   ·have hge:=UH hlj
    have hja:=hna x.evs[j] (List.getElem_mem hlj)
    have cA:=fun b l=>VY x.evs[j].asg hja b l
    have vl:((x.evs.take j).map eEv).length=j:=by rw[List.length_map,List.length_take];omega
    have vt:List.take j (vs ((x.evs.take j).map eEv))=vs ((x.evs.take j).map eEv):=List.take_of_length_le (by rw[Q4,vl];omega)
    have vt2:List.take j ((x.evs.take j).map eEv)=(x.evs.take j).map eEv:=List.take_of_length_le (by rw[vl];omega)
    have hsn:(x.evs.take j).map eEv++[[.int .i64 x.evs[j].kind,.int .i64 x.evs[j].peer,.int .i64 x.evs[j].msg,.int .i64 x.evs[j].time,.isl 2 (x.evs[j].asg.map ZCz)]]=(x.evs.take (j+1)).map eEv:=by rw[List.take_add_one,List.getElem?_eq_getElem hlj,List.map_append];rfl
    simp (disch:=first|decide|omega) only[hA,hg1,hg2,hg3,hge,vl,vt,vt2,ZC,cellsOf,List.length_map,List.replicate_succ,List.replicate_zero,reduceCtorEq,XZ,go_sem]
    refine ZA.nxt (cA _ _) ?_
    simp (disch:=first|decide|omega) only[hA,hg1,hg2,hg3,hge,vl,vt,vt2,ZC,cellsOf,List.length_map,List.replicate_succ,List.replicate_zero,reduceCtorEq,XZ,go_sem]
    rw[hsn]
    refine⟨j+1,hlj,by simp only;omega,?_⟩
    have h1:=hSlt (B.length+11) oM
    have h0:=lt0 (B.length+11) oM
    exact Za.kround (p:=Un) (k:=10) (junk:=[_,_]) (by ((repeat refine (Z9 rfl).trans ?_);exact hEE3)) (by ((try simp (disch:=decide) only[hA,hg1,hg2,hg3,go_sem])<;>exact kH)) rfl hE3 (by simp) kV hR (by simp (disch:=omega) only[eq_true h0,eq_true h1,lts.down,Nat.reduceLT,Nat.reduceAdd])
   obtain rfl:j=x.evs.length:=by omega
   rw[hxe]
   simp (disch:=first|decide|omega) only[hA,hg1,hg2,hg3,tl,tk,ZC,cellsOf,List.length_map,List.replicate_succ,List.replicate_zero,reduceCtorEq,XZ,go_sem]
   refine⟨i+1,hlt,by simp only;omega,?_⟩
   simp only
   rw[c2,←sn]
   have h0:=lt1 (B.length+9) oM
   rw[←sn]at h0
   have h1:=hSlt (B.length+9) oM
   refine Za.kroundG (i:=10) (ver:=x.evs.length) (sz:=5) (rows:=x.evs.map eEv) (junk:=[.live 0 3 [[.v (.str x.name),.v (.isl 2 (x.vars.map eVr)),.v (.isl 5 (x.evs.map eEv))]],.dead x.evs.length,.live 0 3 [[.v (.str x.name),.v (.isl 2 (x.vars.map eVr)),.v (.isl 5 (x.evs.map eEv))]]]) (p:=ZB2) (k:=6) rfl (by ((repeat refine (Z9 rfl).trans ?_);refine (UZ hg3 (Uq rfl)).trans ?_;(repeat refine (Z9 rfl).trans ?_);exact hEE2)) (by ((try simp (disch:=decide) only[hA,hg1,hg2,hg3,go_sem])<;>exact kH)) ?_ hE2 (by simp) (by simp) kV hR (by simp (disch:=omega) only[eq_true h0,eq_true h1,lts.down,Nat.reduceLT,Nat.reduceAdd]) kV
   have hz:∀(a c d:Nat),a≠B.length+10→Ja (B.length+10) x.evs.length 5 (x.evs.map eEv) (.sl a c 0 d)=.sl a c 0 d:=fun a c d h=>by simp[Ja,h]
   have hy:Ja (B.length+10) x.evs.length 5 (x.evs.map eEv) (.sl (B.length+10) x.evs.length 0 x.evs.length)=.v (.isl 5 (x.evs.map eEv)):=ZBd (by rw[List.length_map])
   have hv:∀y:IV,Ja (B.length+10) x.evs.length 5 (x.evs.map eEv) (.v y)=.v y:=fun _=>rfl
   have hSf:=Ua (ver:=x.evs.length) (sz:=5) (rows:=x.evs.map eEv) h1 (show B.length+9≤B.length+10 by omega)
   have hPf:=ZIF (ver:=x.evs.length) (sz:=5) (rows:=x.evs.map eEv) (v:=i+1) (z:=3) (r:=[.v (.str x.name),.v (.isl 2 (x.vars.map eVr)),.sl (B.length+10) x.evs.length 0 x.evs.length]) (lt0 (B.length+9) oM) (show B.length+9≤B.length+10 by omega)
   have hV:∀r:List (List IV),(vs r).map (fun y=>y.map (Ja (B.length+10) x.evs.length 5 (x.evs.map eEv)))=vs r:=fun r=>Ua (m:=0) (Ui.2 trivial) (Nat.zero_le _)
   have hPf2:=hPf
   unfold Ye at hPf
   simp only[List.map_cons,List.map_nil,hz,hy,hv]at hPf2
   simp only[List.cons_append,List.nil_append,List.set_cons_succ,List.set_cons_zero,List.map_cons,List.map_nil,hPf2]
   unfold Ye
   simp (disch:=omega) only[List.map_cons,List.map_nil,hz,hy,hv,hSf,hV]
 obtain rfl:i=w.tr.length:=by omega
 have c2:cp2 B w p w.tr.length=[.live 0 3 [[.v (.str (w.tr.getD p dfPr).name),.v (.isl 2 ((w.tr.getD p dfPr).vars.map eVr)),.sl (B.length+8) (w.tr.getD p dfPr).evs.length 0 (w.tr.getD p dfPr).evs.length]],.live (w.tr.getD p dfPr).evs.length 5 (vs ((w.tr.getD p dfPr).evs.map eEv))]:=if_pos oM
 have tP:cvP w p (B.length+8) w.tr.length=ZCy w p (B.length+8):=List.take_of_length_le (by rw[JY];omega)
 rw[c2,tP]
 simp (disch:=first|decide|omega) only[hA,hg1,hg2,ZC,cellsOf,List.length_map,go_sem]
 refine VP (.inr rfl) (xs:=[.agg [.sl (B.length+3) w.sv.length 0 w.sv.length,.v (.int .i64 w.net.now),.v (.bool w.net.fifo),.v (.isl 4 (w.net.l.map eMs)),.v (.isl 1 (w.net.tm.map eI)),.v (.isl 2 (w.net.fates.map eFt)),.v (.int .i64 w.now),.v (.int .i64 w.sent),.sl (B.length+6) w.tr.length 0 w.tr.length]]) (y:=.agg (mvC w B.length)) (l':=ZNC w p B.length) (by simp (disch:=first|decide|omega) only[ZE,ZY,hA,hg1,hg2,go_sem]) (m:=4) rfl (fun j=>match j with|0=>3|1=>5|2=>6|_=>8) (fun a c ha hc h=>?_) (fun j r' h=>?_) ?_ hR hB ⟨by rw[hB,List.length_append],rfl,by rw[hB,List.length_append]⟩
 ·obtain rfl|rfl|rfl|rfl:a=0∨a=1∨a=2∨a=3:=oM<;>(obtain rfl|rfl|rfl|rfl:c=0∨c=1∨c=2∨c=3:=oM)<;>first|rfl|(simp at h)
 ·match j,h with
  |0,h =>
    cases h
    refine⟨.live w.sv.length 6 SV,rfl,rfl,rfl,by rw[←hSV,YT,YT],fun k r r' h1 h2=>?_⟩
    rw[←hSV]at h1
    have hk:k<w.sv.length:=by
     have:=(List.getElem?_eq_some_iff.1 h1).1
     rwa [YT]at this
    by_cases hpk:p=k
    ·subst hpk
     rw[ZAM hp]at h1 h2
     cases h1;cases h2
     exact .cons (.v _) (.cons (.v _) (.cons (.v _) (.cons (Rn.slE (j:=1) rfl oM) (.cons (.v _) (.cons (.v _) .nil)))))
    ·rw[ZHe hk hpk]at h1 h2
     cases h1;cases h2
     exact RnL.plain
  |1,h=>cases h;exact⟨_,rfl,RnR.plain⟩
  |2,h =>
    cases h
    refine⟨.live w.tr.length 3 (ZCy w p (B.length+8)),rfl,rfl,rfl,by rw[JY,JY],fun k r r' h1 h2=>?_⟩
    have hk:k<w.tr.length:=by
     have:=(List.getElem?_eq_some_iff.1 h1).1
     rwa [JY]at this
    by_cases hpk:p=k
    ·subst hpk
     rw[ZE4 hpt]at h1 h2
     cases h1;cases h2
     exact .cons (.v _) (.cons (.v _) (.cons (Rn.slE (j:=3) rfl oM) .nil))
    ·rw[ZHj hk hpk]at h1 h2
     cases h1;cases h2
     exact RnL.plain
  |3,h=>cases h;exact⟨_,rfl,RnR.plain⟩
  |j+4,h=>cases h
 ·rw[ZDX]
  exact Rn.aggL (.cons (Rn.slE (j:=0) rfl oM) (.cons (.v _) (.cons (.v _) (.cons (.v _) (.cons (.v _) (.cons (.v _) (.cons (.v _) (.cons (.v _) (.cons (Rn.slE (j:=2) rfl oM) .nil)))))))))
def a_wStep:AFunc:=⟨2,45,[.cell 4 (some 9),.tmp 5],(.seq (.region [⟨some 2,.box (.t 0),none⟩,⟨some 4,.alloc [(.v .zsl),(.v (.int .i64 0)),(.v (.bool false)),(.v .zsl),(.v .zsl),(.v .zsl),(.v (.int .i64 0)),(.v (.int .i64 0)),(.v .zsl)],none⟩,⟨some 5,.mv (.c (.v (.int .i64 0))),none⟩]) (.seq (.block 0 (.seq (.region [⟨some 9,.load (some 9) (.t 2),none⟩,⟨some 10,.call (.c (.fn 24 [])) [(.t 9)],none⟩,⟨some 11,.not (.t 10),none⟩,⟨some 8,.mv (.t 11),none⟩]) (.cond (.t 8) (.seq (.region [⟨some 12,.build [(.v .zsl),(.v (.int .i64 0)),(.v (.bool false)),(.v .zsl),(.v .zsl),(.v .zsl),(.v (.int .i64 0)),(.v (.int .i64 0)),(.v .zsl)] [],none⟩,⟨none,.store 9 (.t 4) (.t 12),none⟩,⟨some 5,.mv (.c (.v (.int .i64 1))),none⟩]) .ret) (.seq (.region [⟨some 14,.mv (.t 1),none⟩,⟨some 15,.bin .lss (.t 14) (.c (.v (.int .i64 0))),none⟩,⟨some 16,.mv (.t 15),none⟩,⟨some 17,.mv (.t 1),some (16,false)⟩,⟨some 18,.faddr 0 (.t 2),some (16,false)⟩,⟨some 19,.load none (.t 18),some (16,false)⟩,⟨some 20,.len (.t 19),some (16,false)⟩,⟨some 21,.bin .geq (.t 17) (.t 20),some (16,false)⟩,⟨some 22,.pick (.t 16) (.c (.v (.bool true))) (.t 21),none⟩,⟨some 13,.mv (.t 22),none⟩]) (.cond (.t 13) (.seq (.region [⟨some 23,.build [(.v .zsl),(.v (.int .i64 0)),(.v (.bool false)),(.v .zsl),(.v .zsl),(.v .zsl),(.v (.int .i64 0)),(.v (.int .i64 0)),(.v .zsl)] [],none⟩,⟨none,.store 9 (.t 4) (.t 23),none⟩,⟨some 5,.mv (.c (.v (.int .i64 2))),none⟩]) .ret) (.seq (.region [⟨some 25,.load (some 9) (.t 2),none⟩,⟨some 26,.mv (.t 1),none⟩,⟨some 27,.call (.c (.fn 85 [])) [(.t 25),(.t 26)],none⟩,⟨some 28,.not (.t 27),none⟩,⟨some 24,.mv (.t 28),none⟩]) (.cond (.t 24) (.seq (.region [⟨some 29,.build [(.v .zsl),(.v (.int .i64 0)),(.v (.bool false)),(.v .zsl),(.v .zsl),(.v .zsl),(.v (.int .i64 0)),(.v (.int .i64 0)),(.v .zsl)] [],none⟩,⟨none,.store 9 (.t 4) (.t 29),none⟩,⟨some 5,.mv (.c (.v (.int .i64 6))),none⟩]) .ret) .skip))))))) (.seq (.region [⟨some 30,.load (some 9) (.t 2),none⟩,⟨some 31,.call (.c (.fn 59 [])) [(.t 30)],none⟩,⟨some 32,.build [(.v .zsl),(.v (.int .i64 0)),(.v (.bool false)),(.v .zsl),(.v .zsl),(.v .zsl),(.v (.int .i64 0)),(.v (.int .i64 0)),(.v .zsl)] [(0,9,(.t 31))],none⟩,⟨some 33,.box (.t 32),none⟩,⟨some 6,.mv (.t 33),none⟩]) (.seq (.seq (.region [⟨some 34,.mv (.t 6),none⟩,⟨some 35,.mv (.t 1),none⟩,⟨some 36,.call (.c (.fn 86 [])) [(.t 34),(.t 35)],none⟩,⟨some 7,.mv (.t 36),none⟩]) (.seq (.region [⟨some 37,.mv (.t 7),none⟩,⟨some 38,.bin .neq (.t 37) (.c (.v (.int .i64 0))),none⟩]) (.cond (.t 38) (.seq (.region [⟨some 39,.build [(.v .zsl),(.v (.int .i64 0)),(.v (.bool false)),(.v .zsl),(.v .zsl),(.v .zsl),(.v (.int .i64 0)),(.v (.int .i64 0)),(.v .zsl)] [],none⟩,⟨some 40,.mv (.t 7),none⟩,⟨none,.store 9 (.t 4) (.t 39),none⟩,⟨some 5,.mv (.t 40),none⟩]) .ret) .skip))) (.seq (.region [⟨some 41,.mv (.t 6),none⟩,⟨some 42,.nilck (.t 41),none⟩,⟨some 43,.faddr 0 (.t 42),none⟩,⟨some 44,.load (some 9) (.t 43),none⟩,⟨none,.store 9 (.t 4) (.t 44),none⟩,⟨some 5,.mv (.c (.v (.int .i64 0))),none⟩]) .ret)))))⟩
theorem ZFz:Zq Tryz.prog 34=some a_wStep:=by kernel_rfl
def a_wTick:AFunc:=⟨2,48,[.cell 4 (some 9),.tmp 5],(.seq (.region [⟨some 2,.box (.t 0),none⟩,⟨some 4,.alloc [(.v .zsl),(.v (.int .i64 0)),(.v (.bool false)),(.v .zsl),(.v .zsl),(.v .zsl),(.v (.int .i64 0)),(.v (.int .i64 0)),(.v .zsl)],none⟩,⟨some 5,.mv (.c (.v (.int .i64 0))),none⟩]) (.seq (.block 0 (.seq (.region [⟨some 10,.load (some 9) (.t 2),none⟩,⟨some 11,.call (.c (.fn 24 [])) [(.t 10)],none⟩,⟨some 12,.not (.t 11),none⟩,⟨some 9,.mv (.t 12),none⟩]) (.cond (.t 9) (.seq (.region [⟨some 13,.build [(.v .zsl),(.v (.int .i64 0)),(.v (.bool false)),(.v .zsl),(.v .zsl),(.v .zsl),(.v (.int .i64 0)),(.v (.int .i64 0)),(.v .zsl)] [],none⟩,⟨none,.store 9 (.t 4) (.t 13),none⟩,⟨some 5,.mv (.c (.v (.int .i64 1))),none⟩]) .ret) (.seq (.region [⟨some 15,.mv (.t 1),none⟩,⟨some 16,.call (.c (.fn 61 [])) [(.t 15),(.c (.v (.int .i64 0))),(.c (.v (.int .i64 1000000)))],none⟩,⟨some 17,.not (.t 16),none⟩,⟨some 18,.mv (.t 17),none⟩,⟨some 19,.faddr 6 (.t 2),some (18,false)⟩,⟨some 20,.load none (.t 19),some (18,false)⟩,⟨some 21,.mv (.t 1),some (18,false)⟩,⟨some 22,.bin .add (.t 20) (.t 21),some (18,false)⟩,⟨some 23,.bin .gtr (.t 22) (.c (.v (.int .i64 1000000000))),some (18,false)⟩,⟨some 24,.pick (.t 18) (.c (.v (.bool true))) (.t 23),none⟩,⟨some 14,.mv (.t 24),none⟩]) (.cond (.t 14) (.seq (.region [⟨some 25,.build [(.v .zsl),(.v (.int .i64 0)),(.v (.bool false)),(.v .zsl),(.v .zsl),(.v .zsl),(.v (.int .i64 0)),(.v (.int .i64 0)),(.v .zsl)] [],none⟩,⟨none,.store 9 (.t 4) (.t 25),none⟩,⟨some 5,.mv (.c (.v (.int .i64 2))),none⟩]) .ret) .skip))))) (.seq (.region [⟨some 26,.load (some 9) (.t 2),none⟩,⟨some 27,.call (.c (.fn 59 [])) [(.t 26)],none⟩,⟨some 6,.alloc [(.v .zsl),(.v (.int .i64 0)),(.v (.bool false)),(.v .zsl),(.v .zsl),(.v .zsl),(.v (.int .i64 0)),(.v (.int .i64 0)),(.v .zsl)],none⟩,⟨none,.store 9 (.t 6) (.t 27),none⟩]) (.seq (.region [⟨some 28,.faddr 6 (.t 6),none⟩,⟨some 29,.load none (.t 28),none⟩,⟨some 30,.mv (.t 1),none⟩,⟨some 31,.bin .add (.t 29) (.t 30),none⟩,⟨some 32,.faddr 6 (.t 6),none⟩,⟨none,.store 1 (.t 32) (.t 31),none⟩]) (.seq (.region [⟨some 34,.faddr 1 (.t 6),none⟩,⟨some 35,.load (some 5) (.t 34),none⟩,⟨some 36,.faddr 6 (.t 6),none⟩,⟨some 37,.load none (.t 36),none⟩,⟨some 38,.call (.c (.fn 78 [])) [(.t 35),(.t 37)],none⟩,⟨some 33,.mv (.t 38),none⟩,⟨some 39,.extract 0 (.t 33),none⟩,⟨some 40,.extract 1 (.t 33),none⟩,⟨some 7,.alloc [(.v (.int .i64 0)),(.v (.bool false)),(.v .zsl),(.v .zsl),(.v .zsl)],none⟩,⟨none,.store 5 (.t 7) (.t 39),none⟩,⟨some 8,.mv (.t 40),none⟩]) (.seq (.seq (.region [⟨some 41,.mv (.t 8),none⟩,⟨some 42,.bin .neq (.t 41) (.c (.v (.int .i64 0))),none⟩]) (.cond (.t 42) (.seq (.region [⟨some 43,.build [(.v .zsl),(.v (.int .i64 0)),(.v (.bool false)),(.v .zsl),(.v .zsl),(.v .zsl),(.v (.int .i64 0)),(.v (.int .i64 0)),(.v .zsl)] [],none⟩,⟨some 44,.mv (.t 8),none⟩,⟨none,.store 9 (.t 4) (.t 43),none⟩,⟨some 5,.mv (.t 44),none⟩]) .ret) .skip)) (.seq (.region [⟨some 45,.load (some 5) (.t 7),none⟩,⟨some 46,.faddr 1 (.t 6),none⟩,⟨none,.store 5 (.t 46) (.t 45),none⟩]) (.seq (.region [⟨some 47,.load (some 9) (.t 6),none⟩,⟨none,.store 9 (.t 4) (.t 47),none⟩,⟨some 5,.mv (.c (.v (.int .i64 0))),none⟩]) .ret))))))))⟩
theorem ZFy:Zq Tryz.prog 26=some a_wTick:=by kernel_rfl

theorem ZA.split {P:Program} {f:Nat} {args:List AV} {b l X1 X2:List Row} {x:AV} (hl:X1.length=b.length) (h:ZA P f args (b++l) [] (fun r b' l'=>r=x∧b'=X1++X2∧l'=[])):ZA P f args b l (fun r b' l'=>r=x∧b'=X1∧l'=X2):=by
 refine⟨h.1,fun F L w us s hr=>Calls.mono (h.2 F L w us (by rw[List.append_nil];exact s) hr) ?_⟩
 rintro en w' ⟨v,x',b',l',F',L',h1,h2,h3,h4,h5,rfl,rfl,rfl⟩
 rw[List.append_nil]at h3
 rw[List.append_nil,List.append_nil]at h4
 exact⟨v,_,X1,X2,F',L',h1,h2,h3,h4,hl,rfl,rfl,rfl⟩
theorem ZNB {B P:List Row} {w:Wd} {p q:Nat} (hq:q=B.length+P.length):∃f n,q+5≤n∧∀w':Wd,B++(P++[ZHh w' p q,ZGS w' p,ZJI w' p q,ZHg w' p,ZJH w' q])=kB n (mvF f w' p q):=by
 obtain⟨n0,f,hn,hBf,_⟩:=ZNK (B++P)
 rw[List.length_append,←hq]at hn
 subst hn
 refine⟨f,n0+5,Nat.le_refl _,fun w'=>?_⟩
 rw[←List.append_assoc,hBf]
 apply List.ext_getElem?
 intro j
 by_cases hj:j<n0
 ·rw[List.getElem?_append_left (by rw[Zb];exact hj),JZ hj,JZ oM,ZGT (.inl hj)]
 ·rw[List.getElem?_append_right (by rw[Zb];omega),Zb]
  by_cases hj5:j<n0+5
  ·rw[JZ hj5]
   obtain rfl|rfl|rfl|rfl|rfl:j=n0∨j=n0+1∨j=n0+2∨j=n0+3∨j=n0+4:=by omega
   ·rw[Nat.sub_self,ZGV];rfl
   ·rw[Nat.add_sub_cancel_left,ZHk];rfl
   ·rw[Nat.add_sub_cancel_left,ZJK];rfl
   ·rw[Nat.add_sub_cancel_left,ZJJ];rfl
   ·rw[Nat.add_sub_cancel_left,ZGU];rfl
  ·rw[List.getElem?_eq_none (by simp;omega),List.getElem?_eq_none (by rw[Zb];omega)]
theorem ZJq (w:Wd) (q:Nat):mvC w q=[.sl q w.sv.length 0 w.sv.length,.v (.int .i64 w.net.now),.v (.bool w.net.fifo),.v (.isl 4 (w.net.l.map eMs)),.v (.isl 1 (w.net.tm.map eI)),.v (.isl 2 (w.net.fates.map eFt)),.v (.int .i64 w.now),.v (.int .i64 w.sent),.sl (q+2) w.tr.length 0 w.tr.length]:=rfl
theorem ZHf (w:Wd) (p q:Nat):ZNC w p q=[ZHh w p q,ZGS w p,ZJI w p q,ZHg w p]:=rfl
theorem XE (w:Wd):(eWd w).map AV.v=[.v (.isl 6 (w.sv.map eSv)),.v (.int .i64 w.net.now),.v (.bool w.net.fifo),.v (.isl 4 (w.net.l.map eMs)),.v (.isl 1 (w.net.tm.map eI)),.v (.isl 2 (w.net.fates.map eFt)),.v (.int .i64 w.now),.v (.int .i64 w.sent),.v (.isl 3 (w.tr.map ePr))]:=rfl
theorem Ym {n:Nat} {l:List Row} (e:Int):Dv n l (.tup [.agg [.v .zsl,.v (.int .i64 0),.v (.bool false),.v .zsl,.v .zsl,.v .zsl,.v (.int .i64 0),.v (.int .i64 0),.v .zsl],.v (.int .i64 e)]) (.tup [.agg ((eWd wd0).map .v),.v (.int .i64 e)]):=
 Dv.tupL (.cons (Dv.aggL (.cons (.z 6) (.cons (.v _) (.cons (.v _) (.cons (.z 4) (.cons (.z 1) (.cons (.z 2) (.cons (.v _) (.cons (.v _) (.cons (.z 3) .nil)))))))))) (.cons (.v _) .nil))
noncomputable def ZCK (w:Wd) (p:Int):Wd×Int:=if wdB w=true then (if p<0∨(w.sv.length:Int)≤p then (wd0,2) else if J3 w p.toNat=true then stW w p.toNat else (wd0,6)) else (wd0,1)
theorem ZKj {w:Wd} {p:Nat} (h:(stW w p).2≠0):(stW w p).1=wd0:=by
 unfold stW stI at h⊢
 split at h<;>rename_i h1
 ·exact absurd rfl h
 rw[if_neg h1]
 split at h<;>rename_i h2
 ·rw[if_pos h2]
  split at h<;>rename_i h3
  ·exact absurd rfl h
  ·rw[if_neg h3]
 rw[if_neg h2]
 split at h<;>rename_i h4
 ·split at h<;>exact absurd rfl h
 rw[if_neg h4]
 split at h<;>rename_i h5
 ·rw[if_pos h5]
  split at h<;>rename_i h6
  ·exact absurd rfl h
  ·rw[if_neg h6]
 rw[if_neg h5]
 split at h<;>exact absurd rfl h
theorem VX (w:Wd) (hSv:SvsS w.sv) (hS:Small w.tr) (hN:NwS w.net) (h0:0<w.sv.length) (h1:0<w.tr.length) (b l:List Row) :
  ZA Tryz.prog 59 [.agg ((eWd w).map .v)] b l (fun r b' l'=>r=.agg ((eWd w).map .v)∧b'=b∧l'=l):=
 ZA.deep (N:=ZNC w 0 (b.length+l.length)) (by have:=ZLs (n:=b.length+l.length) (i:=0) (l:=ZNC w 0 (b.length+l.length)) h0 h1 rfl rfl rfl rfl;exact this) (ZA9 w hSv hS hN 0 h0 h1 b l)
theorem ZFC (w:Wd) (hS:Sm w.tr) (hN:Nm w.tr) (hSv:SvsS w.sv) (hSn:NwS w.net) (p:Int) (b l:List Row):ZA Tryz.prog 34 [.agg ((eWd w).map .v),.v (.int .i64 p)] b l (fun r b' l'=>r=.tup [.agg ((eWd (ZCK w p).1).map .v),.v (.int .i64 (ZCK w p).2)]∧b'=b∧l'=l):=by
 refine ZD ZFz rfl (by decide) ?_
 intro B g hB hR hE hA;simp only[Zn]at hA
 have cV:=fun b l=>Yy w hS hN hSv hSn b l
 rw[XE]at hA cV
 have hsl:=hSv.len
 simp (disch:=first|decide|omega) only[a_wStep,hA,ZC,cellsOf,go_sem]
 refine ZA.nxt (cV _ _) ?_
 cases t1:wdB w
 ·have hr:ZCK w p=(wd0,1):=by unfold ZCK;rw[if_neg (by rw[t1];simp)]
  rw[hr]
  simp (disch:=first|decide|omega) only[hA,ZC,cellsOf,go_sem]
  exact Zs (.inr rfl) (xs:=[.agg [.v .zsl,.v (.int .i64 0),.v (.bool false),.v .zsl,.v .zsl,.v .zsl,.v (.int .i64 0),.v (.int .i64 0),.v .zsl],.v (.int .i64 1)]) (by simp (disch:=first|decide|omega) only[ZE,ZY,hA,go_sem]) (Ym 1) hR hB ⟨rfl,rfl,rfl⟩
 have hw:=WdV.of t1
 by_cases h1:p<0
 ·have d1:decide (p<0)=true:=decide_eq_true h1
  have hr:ZCK w p=(wd0,2):=by unfold ZCK;rw[if_pos t1,if_pos (.inl h1)]
  rw[hr]
  simp (disch:=first|decide|omega) only[hA,d1,ZC,cellsOf,go_sem]
  exact Zs (.inr rfl) (xs:=[.agg [.v .zsl,.v (.int .i64 0),.v (.bool false),.v .zsl,.v .zsl,.v .zsl,.v (.int .i64 0),.v (.int .i64 0),.v .zsl],.v (.int .i64 2)]) (by simp (disch:=first|decide|omega) only[ZE,ZY,hA,go_sem]) (Ym 2) hR hB ⟨rfl,rfl,rfl⟩
 have d1:decide (p<0)=false:=decide_eq_false h1
 obtain⟨k,rfl⟩:∃k:Nat,p=k:=⟨p.toNat,by omega⟩
 by_cases h2:w.sv.length≤k
 ·have d2:decide ((k:Int)≥(w.sv.length:Int))=true:=decide_eq_true oM
  have d2':decide ((w.sv.length:Int)≤(k:Int))=true:=d2
  have hr:ZCK w k=(wd0,2):=by unfold ZCK;rw[if_pos t1,if_pos (.inr oM)]
  rw[hr]
  simp (disch:=first|decide|omega) only[hA,d1,d2,d2',ZC,cellsOf,List.length_map,go_sem]
  exact Zs (.inr rfl) (xs:=[.agg [.v .zsl,.v (.int .i64 0),.v (.bool false),.v .zsl,.v .zsl,.v .zsl,.v (.int .i64 0),.v (.int .i64 0),.v .zsl],.v (.int .i64 2)]) (by simp (disch:=first|decide|omega) only[ZE,ZY,hA,go_sem]) (Ym 2) hR hB ⟨rfl,rfl,rfl⟩
 have d2:decide ((k:Int)≥(w.sv.length:Int))=false:=decide_eq_false oM
 have d2':decide ((w.sv.length:Int)≤(k:Int))=false:=d2
 have hkl:k<w.sv.length:=by omega
 have hkt:k<w.tr.length:=by rw[hw.len];exact hkl
 have cE:=fun b l=>ZAs w hSv hw.small hw.sv hw.len k hkl b l
 rw[XE]at cE
 simp (disch:=first|decide|omega) only[hA,d1,d2,d2',ZC,cellsOf,List.length_map,go_sem]
 refine ZA.nxt (cE _ _) ?_
 cases t2:J3 w k
 ·have hr:ZCK w k=(wd0,6):=by unfold ZCK;rw[if_pos t1,if_neg oM,Int.toNat_natCast,if_neg (by rw[t2];simp)]
  rw[hr]
  simp (disch:=first|decide|omega) only[hA,ZC,cellsOf,go_sem]
  exact Zs (.inr rfl) (xs:=[.agg [.v .zsl,.v (.int .i64 0),.v (.bool false),.v .zsl,.v .zsl,.v .zsl,.v (.int .i64 0),.v (.int .i64 0),.v .zsl],.v (.int .i64 6)]) (by simp (disch:=first|decide|omega) only[ZE,ZY,hA,go_sem]) (Ym 6) hR hB ⟨rfl,rfl,rfl⟩
 have hr:ZCK w k=stW w k:=by unfold ZCK;rw[if_pos t1,if_neg oM,Int.toNat_natCast,if_pos t2]
 rw[hr]
 have cC:=fun b l=>ZA9 w hSv hw.small hSn k hkl hkt b l
 rw[XE]at cC
 simp only[ZJq,ZHf]at cC
 simp (disch:=first|decide|omega) only[hA,ZC,cellsOf,List.length_map,go_sem]
 refine ZA.nxt (cC _ _) ?_
 simp (disch:=first|decide|omega) only[hA,ZC,cellsOf,List.length_map,go_sem]
 obtain⟨f,n,hn,hown⟩:=ZNB (B:=B) (P:=[.live 0 9 [[.v (.isl 6 (w.sv.map eSv)),.v (.int .i64 w.net.now),.v (.bool w.net.fifo),.v (.isl 4 (w.net.l.map eMs)),.v (.isl 1 (w.net.tm.map eI)),.v (.isl 2 (w.net.fates.map eFt)),.v (.int .i64 w.now),.v (.int .i64 w.sent),.v (.isl 3 (w.tr.map ePr))]],.live 0 9 [[.v .zsl,.v (.int .i64 0),.v (.bool false),.v .zsl,.v .zsl,.v .zsl,.v (.int .i64 0),.v (.int .i64 0),.v .zsl]]]) (w:=w) (p:=k) (q:=B.length+2) rfl
 have cS:=ZA.split (l:=[.live 0 9 [[.v (.isl 6 (w.sv.map eSv)),.v (.int .i64 w.net.now),.v (.bool w.net.fifo),.v (.isl 4 (w.net.l.map eMs)),.v (.isl 1 (w.net.tm.map eI)),.v (.isl 2 (w.net.fates.map eFt)),.v (.int .i64 w.now),.v (.int .i64 w.sent),.v (.isl 3 (w.tr.map ePr))]],.live 0 9 [[.v .zsl,.v (.int .i64 0),.v (.bool false),.v .zsl,.v .zsl,.v .zsl,.v (.int .i64 0),.v (.int .i64 0),.v .zsl]]]++[ZHh w k (B.length+2),ZGS w k,ZJI w k (B.length+2),ZHg w k,ZJH w (B.length+2)]) (b:=B) rfl (by
  have:=ZHl f w k (B.length+2) n hn hw hkl t2 (B++([.live 0 9 [[.v (.isl 6 (w.sv.map eSv)),.v (.int .i64 w.net.now),.v (.bool w.net.fifo),.v (.isl 4 (w.net.l.map eMs)),.v (.isl 1 (w.net.tm.map eI)),.v (.isl 2 (w.net.fates.map eFt)),.v (.int .i64 w.now),.v (.int .i64 w.sent),.v (.isl 3 (w.tr.map ePr))]],.live 0 9 [[.v .zsl,.v (.int .i64 0),.v (.bool false),.v .zsl,.v .zsl,.v .zsl,.v (.int .i64 0),.v (.int .i64 0),.v .zsl]]]++[ZHh w k (B.length+2),ZGS w k,ZJI w k (B.length+2),ZHg w k,ZJH w (B.length+2)])) [] (hown w)
  rw[←hown]at this
  exact this)
 refine ZA.nxt cS ?_
 by_cases he:(stW w k).2=0
 ·have e0:((stW w k).2 != 0)=false:=by rw[he];rfl
  have hM:stM w k=(stW w k).1:=by unfold stM;rw[if_pos he]
  obtain⟨s',ev,n',sn',h3,h4⟩:=ZMf hw hkl t2 he
  have hl1:k<(stW w k).1.sv.length:=by rw[h3];show k<(w.sv.set k s').length;rw[List.length_set];exact hkl
  have hl2:k<(stW w k).1.tr.length:=by rw[h3,h4.tr,Ju];exact hkt
  obtain⟨W,hW⟩:∃W,(stW w k).1=W:=⟨_,rfl⟩
  rw[hM,hW]
  rw[hW]at hl1 hl2
  rw[he]
  have m4:ZJH W (B.length+2)=.live 0 9 [[.sl (B.length+2) W.sv.length 0 W.sv.length,.v (.int .i64 W.net.now),.v (.bool W.net.fifo),.v (.isl 4 (W.net.l.map eMs)),.v (.isl 1 (W.net.tm.map eI)),.v (.isl 2 (W.net.fates.map eFt)),.v (.int .i64 W.now),.v (.int .i64 W.sent),.sl (B.length+4) W.tr.length 0 W.tr.length]]:=rfl
  have n0:((0:Int) != 0)=false:=rfl
  simp (disch:=first|decide|omega) only[hA,e0,n0,m4,ZC,cellsOf,List.length_map,go_sem]
  exact Zs (.inr rfl) (xs:=[.agg [.sl (B.length+2) W.sv.length 0 W.sv.length,.v (.int .i64 W.net.now),.v (.bool W.net.fifo),.v (.isl 4 (W.net.l.map eMs)),.v (.isl 1 (W.net.tm.map eI)),.v (.isl 2 (W.net.fates.map eFt)),.v (.int .i64 W.now),.v (.int .i64 W.sent),.sl (B.length+4) W.tr.length 0 W.tr.length],.v (.int .i64 0)]) (by simp (disch:=first|decide|omega) only[ZE,ZY,hA,go_sem]) (Dv.tupL (.cons (ZLs (i:=2) hl1 hl2 rfl rfl rfl rfl) (.cons (.v _) .nil))) hR hB ⟨rfl,rfl,rfl⟩
 ·have e0:((stW w k).2 != 0)=true:=bne_iff_ne.2 he
  rw[ZKj he]
  obtain⟨er,her⟩:∃er,(stW w k).2=er:=⟨_,rfl⟩
  rw[her]at e0⊢
  obtain⟨W,hW⟩:∃W,stM w k=W:=⟨_,rfl⟩
  rw[hW]
  simp (disch:=first|decide|omega) only[hA,e0,ZC,cellsOf,List.length_map,go_sem]
  exact Zs (.inr rfl) (xs:=[.agg [.v .zsl,.v (.int .i64 0),.v (.bool false),.v .zsl,.v .zsl,.v .zsl,.v (.int .i64 0),.v (.int .i64 0),.v .zsl],.v (.int .i64 er)]) (by simp (disch:=first|decide|omega) only[ZE,ZY,hA,go_sem]) (Ym er) hR hB ⟨rfl,rfl,rfl⟩
noncomputable def ZCH (w:Wd) (k:Int):Wd×Int:=if wdB w=true then (if (0≤k∧k≤1000000)∧w.now+k≤1000000000 then (tkW w k,0) else (wd0,2)) else (wd0,1)
theorem ZFB (w:Wd) (hS:Sm w.tr) (hN:Nm w.tr) (hSv:SvsS w.sv) (hSn:NwS w.net) (k:Int) (b l:List Row):ZA Tryz.prog 26 [.agg ((eWd w).map .v),.v (.int .i64 k)] b l (fun r b' l'=>r=.tup [.agg ((eWd (ZCH w k).1).map .v),.v (.int .i64 (ZCH w k).2)]∧b'=b∧l'=l):=by
 refine ZD ZFy rfl (by decide) ?_
 intro B g hB hR hE hA;simp only[Zn]at hA
 have cV:=fun b l=>Yy w hS hN hSv hSn b l
 rw[XE]at hA cV
 have hsl:=hSv.len
 simp (disch:=first|decide|omega) only[a_wTick,hA,ZC,cellsOf,go_sem]
 refine ZA.nxt (cV _ _) ?_
 cases t1:wdB w
 ·have hr:ZCH w k=(wd0,1):=by unfold ZCH;rw[if_neg (by rw[t1];simp)]
  rw[hr]
  simp (disch:=first|decide|omega) only[hA,ZC,cellsOf,go_sem]
  exact Zs (.inr rfl) (xs:=[.agg [.v .zsl,.v (.int .i64 0),.v (.bool false),.v .zsl,.v .zsl,.v .zsl,.v (.int .i64 0),.v (.int .i64 0),.v .zsl],.v (.int .i64 1)]) (by simp (disch:=first|decide|omega) only[ZE,ZY,hA,go_sem]) (Ym 1) hR hB ⟨rfl,rfl,rfl⟩
 have hw:=WdV.of t1
 have hnow:=hw.now
 simp (disch:=first|decide|omega) only[hA,ZC,cellsOf,go_sem]
 refine ZA.nxt (Qp _ _ _ _ _) ?_
 cases t2:inZ k 0 1000000
 ·have hr:ZCH w k=(wd0,2):=by
   unfold inZ at t2
   have:=of_decide_eq_false t2
   unfold ZCH;rw[if_pos t1,if_neg (fun h=>this h.1)]
  rw[hr]
  simp (disch:=first|decide|omega) only[hA,ZC,cellsOf,go_sem]
  exact Zs (.inr rfl) (xs:=[.agg [.v .zsl,.v (.int .i64 0),.v (.bool false),.v .zsl,.v .zsl,.v .zsl,.v (.int .i64 0),.v (.int .i64 0),.v .zsl],.v (.int .i64 2)]) (by simp (disch:=first|decide|omega) only[ZE,ZY,hA,go_sem]) (Ym 2) hR hB ⟨rfl,rfl,rfl⟩
 unfold inZ at t2
 have h2:=of_decide_eq_true t2
 have hwr:IntKind.i64.wrap (w.now+k)=w.now+k:=Z7 oM oM
 by_cases h3:w.now+k≤1000000000
 case neg =>
  have d3:decide (w.now+k>1000000000)=true:=decide_eq_true oM
  have d3':decide (1000000000<w.now+k)=true:=d3
  have hr:ZCH w k=(wd0,2):=by unfold ZCH;rw[if_pos t1,if_neg (fun h=>h3 h.2)]
  rw[hr]
  simp (disch:=first|decide|omega) only[hA,hwr,d3,d3',ZC,cellsOf,go_sem]
  exact Zs (.inr rfl) (xs:=[.agg [.v .zsl,.v (.int .i64 0),.v (.bool false),.v .zsl,.v .zsl,.v .zsl,.v (.int .i64 0),.v (.int .i64 0),.v .zsl],.v (.int .i64 2)]) (by simp (disch:=first|decide|omega) only[ZE,ZY,hA,go_sem]) (Ym 2) hR hB ⟨rfl,rfl,rfl⟩
 have d3:decide (w.now+k>1000000000)=false:=decide_eq_false oM
 have d3':decide (1000000000<w.now+k)=false:=d3
 have hr:ZCH w k=(tkW w k,0):=by unfold ZCH;rw[if_pos t1,if_pos ⟨h2,h3⟩]
 rw[hr]
 have cC:=fun b l=>VX w hSv hw.small hSn (by have:=(ZCJ hw.sv).1;omega) hw.tr.lo b l
 rw[XE]at cC
 have cG:=fun b l=>ZJo w.net (w.now+k) b l
 have hgo:goE w.net (w.now+k)=0:=by
  unfold goE;rw[if_pos (JE.2 hw.net),if_neg oM,if_neg (by have:=hw.nnow;omega)]
 have hgn:goN w.net (w.now+k)={w.net with now:=w.now+k}:=by unfold goN;rw[if_pos hgo]
 rw[hgo,hgn]at cG
 simp only[eNw,nwA,List.map_cons,List.map_nil]at cG
 have n0:((0:Int) != 0)=false:=rfl
 simp (disch:=first|decide|omega) only[hA,hwr,d3,d3',ZC,cellsOf,go_sem]
 refine ZA.nxt (cC _ _) ?_
 simp (disch:=first|decide|omega) only[hA,hwr,ZC,cellsOf,go_sem]
 refine ZA.nxt (cG _ _) ?_
 simp (disch:=first|decide|omega) only[hA,n0,ZC,cellsOf,go_sem]
 rw[XE]
 exact ZB (xs:=[.agg [.v (.isl 6 (w.sv.map eSv)),.v (.int .i64 (w.now+k)),.v (.bool w.net.fifo),.v (.isl 4 (w.net.l.map eMs)),.v (.isl 1 (w.net.tm.map eI)),.v (.isl 2 (w.net.fates.map eFt)),.v (.int .i64 (w.now+k)),.v (.int .i64 w.sent),.v (.isl 3 (w.tr.map ePr))],.v (.int .i64 0)]) (.inr rfl) (by simp (disch:=first|decide|omega) only[ZE,ZY,go_sem,hA]) kO hR hB ⟨rfl,rfl,rfl⟩
def a_wNewW:AFunc:=⟨2,57,[.cell 4 (some 9),.tmp 5],(.seq (.region [⟨some 3,.box (.t 1),none⟩,⟨some 4,.alloc [(.v .zsl),(.v (.int .i64 0)),(.v (.bool false)),(.v .zsl),(.v .zsl),(.v .zsl),(.v (.int .i64 0)),(.v (.int .i64 0)),(.v .zsl)],none⟩,⟨some 5,.mv (.c (.v (.int .i64 0))),none⟩]) (.seq (.seq (.region [⟨some 9,.mv (.t 0),none⟩,⟨some 10,.call (.c (.fn 55 [])) [(.t 9)],none⟩,⟨some 11,.not (.t 10),none⟩,⟨some 12,.mv (.t 11),none⟩,⟨some 13,.load (some 5) (.t 3),some (12,false)⟩,⟨some 14,.call (.c (.fn 56 [])) [(.t 13)],some (12,false)⟩,⟨some 15,.not (.t 14),some (12,false)⟩,⟨some 16,.pick (.t 12) (.c (.v (.bool true))) (.t 15),none⟩]) (.cond (.t 16) (.seq (.region [⟨some 17,.build [(.v .zsl),(.v (.int .i64 0)),(.v (.bool false)),(.v .zsl),(.v .zsl),(.v .zsl),(.v (.int .i64 0)),(.v (.int .i64 0)),(.v .zsl)] [],none⟩,⟨none,.store 9 (.t 4) (.t 17),none⟩,⟨some 5,.mv (.c (.v (.int .i64 1))),none⟩]) .ret) .skip)) (.seq (.seq (.region [⟨some 18,.faddr 0 (.t 3),none⟩,⟨some 19,.load none (.t 18),none⟩,⟨some 20,.bin .neq (.t 19) (.c (.v (.int .i64 0))),none⟩,⟨some 21,.mv (.t 20),none⟩,⟨some 22,.faddr 2 (.t 3),some (21,false)⟩,⟨some 23,.load none (.t 22),some (21,false)⟩,⟨some 24,.len (.t 23),some (21,false)⟩,⟨some 25,.bin .gtr (.t 24) (.c (.v (.int .i64 0))),some (21,false)⟩,⟨some 26,.pick (.t 21) (.c (.v (.bool true))) (.t 25),none⟩,⟨some 27,.mv (.t 26),none⟩,⟨some 28,.mv (.t 0),some (27,false)⟩,⟨some 29,.call (.c (.fn 20 [])) [(.t 28),(.c (.fn 57 []))],some (27,false)⟩,⟨some 30,.pick (.t 27) (.c (.v (.bool true))) (.t 29),none⟩]) (.cond (.t 30) (.seq (.region [⟨some 31,.build [(.v .zsl),(.v (.int .i64 0)),(.v (.bool false)),(.v .zsl),(.v .zsl),(.v .zsl),(.v (.int .i64 0)),(.v (.int .i64 0)),(.v .zsl)] [],none⟩,⟨none,.store 9 (.t 4) (.t 31),none⟩,⟨some 5,.mv (.c (.v (.int .i64 6))),none⟩]) .ret) .skip)) (.seq (.region [⟨some 32,.mv (.t 0),none⟩,⟨some 33,.load (some 5) (.t 3),none⟩,⟨some 34,.build [(.v .zsl),(.v (.int .i64 0)),(.v (.bool false)),(.v .zsl),(.v .zsl),(.v .zsl),(.v (.int .i64 0)),(.v (.int .i64 0)),(.v .zsl)] [(0,1,(.t 32)),(1,5,(.t 33))],none⟩,⟨some 6,.alloc [(.v .zsl),(.v (.int .i64 0)),(.v (.bool false)),(.v .zsl),(.v .zsl),(.v .zsl),(.v (.int .i64 0)),(.v (.int .i64 0)),(.v .zsl)],none⟩,⟨none,.store 9 (.t 6) (.t 34),none⟩]) (.seq (.seq (.region [⟨some 35,.mv (.t 0),none⟩,⟨some 36,.len (.t 35),none⟩,⟨some 37,.mv (.c (.v (.int .i64 0))),none⟩]) (.block 0 (.loop (.seq (.region [⟨some 38,.bin .lss (.t 37) (.t 36),none⟩]) (.seq (.cond (.t 38) .skip (.exit 0)) (.seq (.block 1 (.seq (.region [⟨some 39,.iaddr 6 (.t 35) (.t 37),none⟩,⟨some 40,.load (some 6) (.t 39),none⟩,⟨some 8,.alloc [(.v (.str ⟨#[]⟩)),(.v .zsl),(.v (.int .i64 0)),(.v .zsl),(.v (.int .i64 0)),(.v (.int .i64 0))],none⟩,⟨none,.store 6 (.t 8) (.t 40),none⟩]) (.draw [⟨0,⟨some 41,.faddr 8 (.t 6),none⟩,[]⟩,⟨1,⟨some 42,.faddr 0 (.t 41),none⟩,[]⟩,⟨2,⟨some 43,.load none (.t 42),none⟩,[]⟩,⟨3,⟨some 44,.faddr 0 (.t 8),none⟩,[]⟩,⟨4,⟨some 45,.load none (.t 44),none⟩,[]⟩,⟨5,⟨some 46,.faddr 3 (.t 8),none⟩,[]⟩,⟨6,⟨some 47,.load none (.t 46),none⟩,[]⟩,⟨7,⟨some 48,.call (.c (.fn 58 [])) [(.t 47)],none⟩,[⟨some 41,.faddr 8 (.t 6),none⟩,⟨some 42,.faddr 0 (.t 41),none⟩,⟨some 43,.load none (.t 42),none⟩,⟨some 44,.faddr 0 (.t 8),none⟩,⟨some 45,.load none (.t 44),none⟩]⟩,⟨8,⟨some 49,.build [(.v (.str ⟨#[]⟩)),(.v .zsl),(.v .zsl)] [(0,1,(.t 45)),(1,1,(.t 48))],none⟩,[]⟩,⟨9,⟨some 50,.bslice 3 [(.v (.str ⟨#[]⟩)),(.v .zsl),(.v .zsl)] 1 [(0,(.t 49))],none⟩,[⟨some 41,.faddr 8 (.t 6),none⟩,⟨some 42,.faddr 0 (.t 41),none⟩,⟨some 43,.load none (.t 42),none⟩]⟩,⟨10,⟨some 51,.append 3 64 (.t 43) (.t 50),none⟩,[]⟩,⟨11,⟨some 52,.faddr 8 (.t 6),none⟩,[]⟩,⟨12,⟨some 53,.faddr 0 (.t 52),none⟩,[]⟩,⟨13,⟨none,.store 1 (.t 53) (.t 51),none⟩,[]⟩]))) (.region [⟨some 54,.bin .add (.t 37) (.c (.v (.int .i64 1))),none⟩,⟨some 37,.mv (.t 54),none⟩]))))))) (.seq (.region [⟨some 55,.load (some 9) (.t 6),none⟩,⟨some 56,.call (.c (.fn 59 [])) [(.t 55)],none⟩,⟨none,.store 9 (.t 4) (.t 56),none⟩,⟨some 5,.mv (.c (.v (.int .i64 0))),none⟩]) .ret))))))⟩
theorem ZGA:Zq Tryz.prog 14=some a_wNewW:=by kernel_rfl
def ZEX:List (Nat×Nat):=[(8,8),(37,54)]
def a_wNewW1:AFunc:=⟨1,6,[.tmp 2],(.seq (.region [⟨some 1,.box (.t 0),none⟩,⟨some 2,.mv (.c (.v (.bool false))),none⟩]) (.seq (.region [⟨some 3,.faddr 2 (.t 1),none⟩,⟨some 4,.load none (.t 3),none⟩,⟨some 5,.bin .neq (.t 4) (.c (.v (.int .i64 0))),none⟩,⟨some 2,.mv (.t 5),none⟩]) .ret))⟩
theorem ZDy:Zq Tryz.prog 57=some a_wNewW1:=by kernel_rfl

def npr (s:Sv):Pr:=⟨s.name,Ks s.vars,[]⟩
def ZKt (l:List Sv) (n:Nw):Wd:=⟨l,n,0,0,l.map npr⟩
theorem ZH1 {l:List Sv} {i:Nat} (h:i<l.length):(l.map npr).getD i dfPr=npr l[i]:=by
 rw[List.getD_eq_getElem?_getD,List.getElem?_map,List.getElem?_eq_getElem h];rfl
def ZDB (l:List Sv) (n:Nw):Wd×Int:=if VE l=true∧nwB n=true then (if n.now≠0∨0<n.l.length∨l.any (fun s=>s.pc != 0)=true then (wd0,6) else (ZKt l n,0)) else (wd0,1)
theorem ZDG (s:Sv) (b l:List Row):ZA Tryz.prog 57 [.agg ((eSv s).map .v)] b l (fun r b' l'=>r=.v (.bool (s.pc != 0))∧b'=b∧l'=l):=by
 refine ZD ZDy rfl (by decide) ?_
 intro B g hB hR hE hA;simp only[Zn]at hA
 simp (disch:=first|decide|omega) only[a_wNewW1,hA,eSv,ZC,cellsOf,go_sem]
 exact ZB (xs:=[.v (.bool (s.pc != 0))]) (.inr rfl) (by simp (disch:=first|decide|omega) only[ZE,ZY,go_sem,hA]) kO hR hB ⟨rfl,rfl,rfl⟩
def nprZ (s:Sv):List IV:=[.str s.name,.isl 2 ((Ks s.vars).map eVr),.zsl]
theorem ZH4 {l:List Sv} {i:Nat} (h:i<l.length):(l.take i).map nprZ++[[.str l[i].name,.isl 2 ((Ks l[i].vars).map eVr),.zsl]]=(l.take (i+1)).map nprZ:=by
 rw[List.take_add_one,List.getElem?_eq_getElem h,List.map_append];rfl
theorem ZLo (l:List Sv):IVle (.isl 3 (l.map nprZ)) (.isl 3 ((l.map npr).map ePr)):=by
 refine .isl _ _ _ (by simp) (fun k row row' h1 h2=>?_) (fun k row row' j a a' h1 h2 h3 h4=>?_)
 ·rw[List.getElem?_map]at h1 h2
  rw[List.getElem?_map]at h2
  cases hk:l[k]? with
  |none=>rw[hk]at h1;cases h1
  |some s=>rw[hk]at h1 h2;cases h1;cases h2;rfl
 ·rw[List.getElem?_map]at h1 h2
  rw[List.getElem?_map]at h2
  cases hk:l[k]? with
  |none=>rw[hk]at h1;cases h1
  |some s =>
    rw[hk]at h1 h2;cases h1;cases h2
    match j,h3,h4 with
    |0,h3,h4=>cases h3;cases h4;exact .refl _
    |1,h3,h4=>cases h3;cases h4;exact .refl _
    |2,h3,h4=>cases h3;cases h4;exact .zsl 5
    |j+3,h3,h4=>cases h3
theorem ZFp {l:List Sv} {p:Sv→Bool}:((List.range l.length).any fun j=>p (l.getD j dfSv))=l.any p:=Yh
theorem ZFD (L:List Sv) (hL:SvsS L) (n:Nw) (hSn:NwS n) (b l:List Row):ZA Tryz.prog 14 [.v (.isl 6 (L.map eSv)),.agg ((eNw n).map .v)] b l (fun r b' l'=>r=.tup [.agg ((eWd (ZDB L n).1).map .v),.v (.int .i64 (ZDB L n).2)]∧b'=b∧l'=l):=by
 refine ZD ZGA rfl (by decide) ?_
 intro B g hB hR hE hA;simp only[Zn]at hA
 have heN:(eNw n).map AV.v=[.v (.int .i64 n.now),.v (.bool n.fifo),.v (.isl 4 (n.l.map eMs)),.v (.isl 1 (n.tm.map eI)),.v (.isl 2 (n.fates.map eFt))]:=rfl
 have cV:=fun b l=>Y8 n b l
 rw[heN]at hA cV
 have hLl:=hL.len
 have hnl:=hSn.l
 simp (disch:=first|decide|omega) only[a_wNewW,hA,ZC,cellsOf,go_sem]
 refine ZA.nxt (Vk L hL _ _) ?_
 cases t1:VE L
 ·have hr:ZDB L n=(wd0,1):=by unfold ZDB;rw[if_neg (fun h=>by rw[t1]at h;cases h.1)]
  rw[hr]
  simp (disch:=first|decide|omega) only[hA,ZC,cellsOf,go_sem]
  exact Zs (.inr rfl) (xs:=[.agg [.v .zsl,.v (.int .i64 0),.v (.bool false),.v .zsl,.v .zsl,.v .zsl,.v (.int .i64 0),.v (.int .i64 0),.v .zsl],.v (.int .i64 1)]) (by simp (disch:=first|decide|omega) only[ZE,ZY,hA,go_sem]) (Ym 1) hR hB ⟨rfl,rfl,rfl⟩
 simp (disch:=first|decide|omega) only[hA,ZC,cellsOf,go_sem]
 refine ZA.nxt (cV _ _) ?_
 cases t2:nwB n
 ·have hr:ZDB L n=(wd0,1):=by unfold ZDB;rw[if_neg (fun h=>by rw[t2]at h;cases h.2)]
  rw[hr]
  simp (disch:=first|decide|omega) only[hA,ZC,cellsOf,go_sem]
  exact Zs (.inr rfl) (xs:=[.agg [.v .zsl,.v (.int .i64 0),.v (.bool false),.v .zsl,.v .zsl,.v .zsl,.v (.int .i64 0),.v (.int .i64 0),.v .zsl],.v (.int .i64 1)]) (by simp (disch:=first|decide|omega) only[ZE,ZY,hA,go_sem]) (Ym 1) hR hB ⟨rfl,rfl,rfl⟩
 by_cases h3:n.now=0
 case neg =>
  have d3:(n.now != 0)=true:=bne_iff_ne.2 h3
  have hr:ZDB L n=(wd0,6):=by unfold ZDB;rw[if_pos ⟨t1,t2⟩,if_pos (.inl h3)]
  rw[hr]
  simp (disch:=first|decide|omega) only[hA,d3,ZC,cellsOf,go_sem]
  exact Zs (.inr rfl) (xs:=[.agg [.v .zsl,.v (.int .i64 0),.v (.bool false),.v .zsl,.v .zsl,.v .zsl,.v (.int .i64 0),.v (.int .i64 0),.v .zsl],.v (.int .i64 6)]) (by simp (disch:=first|decide|omega) only[ZE,ZY,hA,go_sem]) (Ym 6) hR hB ⟨rfl,rfl,rfl⟩
 have d3:(n.now != 0)=false:=by rw[h3];rfl
 by_cases h4:0<n.l.length
 ·have d4:decide ((n.l.length:Int)>0)=true:=decide_eq_true oM
  have d4':decide ((0:Int)<(n.l.length:Int))=true:=d4
  have hr:ZDB L n=(wd0,6):=by unfold ZDB;rw[if_pos ⟨t1,t2⟩,if_pos (.inr (.inl h4))]
  rw[hr]
  simp (disch:=first|decide|omega) only[hA,d3,d4,d4',ZC,cellsOf,List.length_map,go_sem]
  exact Zs (.inr rfl) (xs:=[.agg [.v .zsl,.v (.int .i64 0),.v (.bool false),.v .zsl,.v .zsl,.v .zsl,.v (.int .i64 0),.v (.int .i64 0),.v .zsl],.v (.int .i64 6)]) (by simp (disch:=first|decide|omega) only[ZE,ZY,hA,go_sem]) (Ym 6) hR hB ⟨rfl,rfl,rfl⟩
 have d4:decide ((n.l.length:Int)>0)=false:=decide_eq_false oM
 have d4':decide ((0:Int)<(n.l.length:Int))=false:=d4
 have cC:=fun B0 l0=>Xt KG KE (L.map eSv) 57 [] (fun j=>(L.getD j dfSv).pc != 0) ZDm (by rw[List.length_map];exact hLl) B0 l0 (fun j row hj=>by
  have hjl:j<L.length:=by have:=(List.getElem?_eq_some_iff.1 hj).1;rwa [List.length_map]at this
  rw[List.getElem?_map,List.getElem?_eq_getElem hjl]at hj
  cases hj
  simp only[ZF hjl]
  exact ZDG _ _ _)
 rw[List.length_map,ZFp (p:=fun s=>s.pc != 0)]at cC
 simp (disch:=first|decide|omega) only[hA,d3,d4,d4',ZC,cellsOf,List.length_map,go_sem]
 refine ZA.nxt (cC _ _) ?_
 cases t5:L.any (fun s=>s.pc != 0)
 case true =>
  have hr:ZDB L n=(wd0,6):=by unfold ZDB;rw[if_pos ⟨t1,t2⟩,if_pos (.inr (.inr t5))]
  rw[hr]
  simp (disch:=first|decide|omega) only[hA,ZC,cellsOf,List.length_map,go_sem]
  exact Zs (.inr rfl) (xs:=[.agg [.v .zsl,.v (.int .i64 0),.v (.bool false),.v .zsl,.v .zsl,.v .zsl,.v (.int .i64 0),.v (.int .i64 0),.v .zsl],.v (.int .i64 6)]) (by simp (disch:=first|decide|omega) only[ZE,ZY,hA,go_sem]) (Ym 6) hR hB ⟨rfl,rfl,rfl⟩
 have hr:ZDB L n=(ZKt L n,0):=by unfold ZDB;rw[if_pos ⟨t1,t2⟩,if_neg (fun h=>by
  rcases h with h|h|h
  ·exact h h3
  ·exact h4 h
  ·rw[t5]at h;cases h)]
 rw[hr]
 have hn:=ZCJ t1
 have h8:=ZMe t1
 simp (disch:=first|decide|omega) only[hA,ZC,cellsOf,List.length_map,go_sem]
 refine QM (ι:=Nat) ZEX (fun i=>[(37,.v (.int .i64 i))]) 3 (fun i=>[.live 0 5 [[.v (.int .i64 n.now),.v (.bool n.fifo),.v (.isl 4 (n.l.map eMs)),.v (.isl 1 (n.tm.map eI)),.v (.isl 2 (n.fates.map eFt))]],.live 0 9 [[.v .zsl,.v (.int .i64 0),.v (.bool false),.v .zsl,.v .zsl,.v .zsl,.v (.int .i64 0),.v (.int .i64 0),.v .zsl]],.live 0 9 [[.v (.isl 6 (L.map eSv)),.v (.int .i64 n.now),.v (.bool n.fifo),.v (.isl 4 (n.l.map eMs)),.v (.isl 1 (n.tm.map eI)),.v (.isl 2 (n.fates.map eFt)),.v (.int .i64 0),.v (.int .i64 0),.sl (B.length+3) i 0 i]],.live i 3 (vs ((L.take i).map nprZ))])
  (fun i=>i≤L.length) (fun i=>L.length-i) 0 (Nat.zero_le _) (by (repeat (first|exact hE.mono oM|refine KLt.up ?_ kL))) (by ((try simp (disch:=decide) only[hA,go_sem])<;>exact kH)) (fun e=>Za.nilcell (e:=e) (b:=B) (l:=[.live 0 5 [[.v (.int .i64 n.now),.v (.bool n.fifo),.v (.isl 4 (n.l.map eMs)),.v (.isl 1 (n.tm.map eI)),.v (.isl 2 (n.fates.map eFt))]],.live 0 9 [[.v .zsl,.v (.int .i64 0),.v (.bool false),.v .zsl,.v .zsl,.v .zsl,.v (.int .i64 0),.v (.int .i64 0),.v .zsl]],.live 0 9 [[.v (.isl 6 (L.map eSv)),.v (.int .i64 n.now),.v (.bool n.fifo),.v (.isl 4 (n.l.map eMs)),.v (.isl 1 (n.tm.map eI)),.v (.isl 2 (n.fates.map eFt)),.v (.int .i64 0),.v (.int .i64 0),.v .zsl]]]) (i:=2) (k:=0) (j:=8) (sz:=3) rfl rfl rfl) ?_
 intro g1 hE1 hEE1 hg1 i hi
 have vl:((L.take i).map nprZ).length=i:=by rw[List.length_map,List.length_take];omega
 have vt:List.take i ((L.take i).map nprZ)=(L.take i).map nprZ:=List.take_of_length_le (by rw[vl];omega)
 by_cases hlt:i<L.length
 ·have hgi:=ZA6 hlt
  have cP:=fun b l=>ZAq L[i].vars (h8 i hlt) b l
  have hsn:=ZH4 hlt
  obtain⟨Y,hY⟩:∃Y,(L.take i).map nprZ=Y:=⟨_,rfl⟩
  rw[hY]at vl vt hsn⊢
  simp (disch:=first|decide|omega) only[hA,hg1,hgi,vl,vt,ZC,cellsOf,List.length_map,go_sem]
  refine ZA.nxt (cP _ _) ?_
  simp (disch:=first|decide|omega) only[hA,hg1,hgi,vl,vt,ZC,cellsOf,List.length_map,XZ,go_sem]
  rw[hsn]
  refine⟨i+1,hlt,by simp only;omega,?_⟩
  exact Za.kround (p:=ZEX) (k:=3) (by ((repeat refine (Z9 rfl).trans ?_);exact hEE1)) (by ((try simp (disch:=decide) only[hA,hg1,go_sem])<;>exact kH)) rfl hE1 (by simp) kV hR kL
 ·obtain rfl:i=L.length:=by omega
  have htl:L.take L.length=L:=List.take_length
  have hle:=ZLo L
  rw[htl]at vl⊢
  have cC:∀b l,ZA Tryz.prog 59 [.agg [.v (.isl 6 (L.map eSv)),.v (.int .i64 n.now),.v (.bool n.fifo),.v (.isl 4 (n.l.map eMs)),.v (.isl 1 (n.tm.map eI)),.v (.isl 2 (n.fates.map eFt)),.v (.int .i64 0),.v (.int .i64 0),.v (.isl 3 (L.map nprZ))]] b l (fun r b' l'=>r=.agg ((eWd (ZKt L n)).map .v)∧b'=b∧l'=l):=fun b l=>by
   have hS:Small (ZKt L n).tr:=by
    refine⟨by show (L.map npr).length≤_;rw[List.length_map];omega,fun x hx=>?_,fun x hx=>?_,fun x hx=>?_⟩
    all_goals
     obtain⟨s,hs,rfl⟩:=List.mem_map.1 hx
     obtain⟨p,hp,rfl⟩:=List.getElem_of_mem hs
     have:=h8 p hp
     simp[npr,J4]
    omega
   refine (VX (ZKt L n) hL hS hSn (by show 0<L.length;omega) (by show 0<(L.map npr).length;rw[List.length_map];omega) b l).le rfl (fun i x y hx hy=>?_)
   match i,hx,hy with
   |0,hx,hy =>
     cases hx;cases hy
     rw[XE]
     refine .agg _ _ rfl (fun j u v hu hv=>?_)
     match j,hu,hv with
     |0,hu,hv=>cases hu;cases hv;exact .refl _
     |1,hu,hv=>cases hu;cases hv;exact .refl _
     |2,hu,hv=>cases hu;cases hv;exact .refl _
     |3,hu,hv=>cases hu;cases hv;exact .refl _
     |4,hu,hv=>cases hu;cases hv;exact .refl _
     |5,hu,hv=>cases hu;cases hv;exact .refl _
     |6,hu,hv=>cases hu;cases hv;exact .refl _
     |7,hu,hv=>cases hu;cases hv;exact .refl _
     |8,hu,hv=>cases hu;cases hv;exact .v _ _ hle
  obtain⟨Y,hY⟩:∃Y,L.map nprZ=Y:=⟨_,rfl⟩
  rw[hY]at vl cC⊢
  obtain⟨W,hW⟩:∃W,ZKt L n=W:=⟨_,rfl⟩
  rw[hW]at cC⊢
  rw[XE]at cC⊢
  simp (disch:=first|decide|omega) only[hA,hg1,ZC,cellsOf,List.length_map,go_sem]
  refine ZA.frzB (i:=3) (ver:=L.length) (sz:=3) (rows:=Y) (args':=[.agg [.v (.isl 6 (L.map eSv)),.v (.int .i64 n.now),.v (.bool n.fifo),.v (.isl 4 (n.l.map eMs)),.v (.isl 1 (n.tm.map eI)),.v (.isl 2 (n.fates.map eFt)),.v (.int .i64 0),.v (.int .i64 0),.v (.isl 3 Y)]]) rfl (by simp[frz,Ja,vl];rw[←vl,List.take_length]) ?_
  refine ZA.nxt (cC _ _) ?_
  simp (disch:=first|decide|omega) only[hA,hg1,ZC,cellsOf,List.length_map,go_sem]
  exact ZB (xs:=[.agg [.v (.isl 6 (W.sv.map eSv)),.v (.int .i64 W.net.now),.v (.bool W.net.fifo),.v (.isl 4 (W.net.l.map eMs)),.v (.isl 1 (W.net.tm.map eI)),.v (.isl 2 (W.net.fates.map eFt)),.v (.int .i64 W.now),.v (.int .i64 W.sent),.v (.isl 3 (W.tr.map ePr))],.v (.int .i64 0)]) (.inr rfl) (by simp (disch:=first|decide|omega) only[ZE,ZY,go_sem,hA,hg1]) kO hR hB ⟨rfl,rfl,rfl⟩
end Go.Proofs.YtoccdlnoaindmaaGreatDoor
namespace Go.Proofs.YtoccdlnoaindmaaGreatDoor
set_option linter.unusedVariables false
set_option linter.unusedSimpArgs false
theorem Dv.repR {F:Nat→Prop} {L:LMap} {n:Nat} {l:List Row} {w:World} (hs:∀i ver sz els,l[i]? = some (.live ver sz els)→∃q,L (n+i) ver=some q∧ZCt w F L sz els q) {x y:AV} (h:Dv n l x y):∀v,RepA w F L x v→RepA w (FD F L n l) L y v:=by
 have mono:∀{x:AV} {v:Value},RepA w F L x v→RepA w (FD F L n l) L x v:=fun hx=>hx.mono (fun _ h=>.inl h) (fun _ _=>rfl) (fun _ _ _ h=>h)
 induction h with
 |v x=>exact fun v hv=>mono hv
 |z sz =>
   intro v hv
   cases hv.vI
   exact .v _ _ (.isl0 _ _ _ (Nat.zero_le _))
 |sl i ver off len sz els rows hi hle hl h1 h2 ih =>
   intro v hv
   obtain⟨q,k1,k2⟩:=hs _ _ _ _ hi
   refine .v _ _ ?_
   cases hv with
   |sl _ _ _ _ blk o z cap hL g1 g2 =>
     rw[k1]at hL;cases hL
     obtain⟨q1,q2,q3,cur,T,q4,q5,q6,q7⟩:=k2
     subst q1
     have hcell:∀(k:Nat) (row:List IV) (j:Nat) (c:IV),rows[k]? = some row→row[j]? = some c→∃u,w.cell? ⟨blk,o+off*z+k*z+j,none⟩=some u∧RepI w (FD F L n l) c u:=by
      intro k row j c hk hj
      have hkl:=(List.getElem?_eq_some_iff.1 hk).1
      have hjl:=(List.getElem?_eq_some_iff.1 hj).1
      have hr:els[off+k]? = some els[off+k]:=List.getElem?_eq_getElem oM
      have hlr:=h1 k _ row hr hk
      have ha:els[off+k][j]? = some els[off+k][j]:=List.getElem?_eq_getElem oM
      obtain⟨_,u,g3,g4⟩:=q7 (off+k) _ j _ hr ha
      refine⟨u,?_,(ih k _ row j _ c hr hk ha hj u g4).vI⟩
      rw[Nat.add_mul]at g3
      simp only[World.cell?,q4]
      rw[←g3]
      simp[Nat.add_assoc]
     have:=RepI.isl (w:=w) (F:=FD F L n l) rows blk (o+off*z) z (cap-off) (fun k j=>(w.cell? ⟨blk,o+off*z+k*z+j,none⟩).getD undef) (.inr ⟨i,ver,z,els,_,hi,k1,rfl⟩) oM oM
      (fun k row hk=>by
       have hkl:=(List.getElem?_eq_some_iff.1 hk).1
       have hr:els[off+k]? = some els[off+k]:=List.getElem?_eq_getElem oM
       rw[←h1 k _ row hr hk]
       exact q6 _ _ hr)
      (fun k row j c hk hj=>by
       obtain⟨u,g3,_⟩:=hcell k row j c hk hj
       rw[g3];rfl)
      (fun k row j c hk hj=>by
       obtain⟨u,g3,g4⟩:=hcell k row j c hk hj
       rw[g3];exact g4)
     rw[hl]at this
     exact this
   |slz =>
     have:rows=[]:=List.eq_nil_of_length_eq_zero hl
     rw[this];exact .isl0 _ _ _ oM
   |sln =>
     have:rows=[]:=List.eq_nil_of_length_eq_zero hl
     rw[this];exact .isl0 _ _ _ oM
 |agg cs ds hl _ ih =>
   intro v hv
   obtain⟨us,rfl,hu⟩:=hv.aggL
   refine QL.agg ⟨by rw[←hl];exact hu.1,fun j d u hd hju=>?_⟩
   have hjl:=(List.getElem?_eq_some_iff.1 hd).1
   have hc:cs[j]? = some cs[j]:=List.getElem?_eq_getElem oM
   exact ih j _ d hc hd u (hu.2 j _ u hc hju)
 |tup cs ds hl _ ih =>
   intro v hv
   obtain⟨us,rfl,hu⟩:=hv.tupL
   refine QL.tup ⟨by rw[←hl];exact hu.1,fun j d u hd hju=>?_⟩
   have hjl:=(List.getElem?_eq_some_iff.1 hd).1
   have hc:cs[j]? = some cs[j]:=List.getElem?_eq_getElem oM
   exact ih j _ d hc hd u (hu.2 j _ u hc hju)

theorem ZA.deepMid {P:Program} {f:Nat} {args args':List AV} {b l1 N l2:List Row} {Q:AV→List Row→List Row→Prop} (hl:args.length=args'.length)
  (hd:∀(i:Nat) (x y:AV),args[i]? = some x→args'[i]? = some y→Dv (b.length+l1.length) N x y) (h:ZA P f args' b (l1++(N.map Yl++l2)) Q):ZA P f args b (l1++(N++l2)) Q:=by
 refine⟨h.1,fun F L w us s hr=>?_⟩
 obtain⟨n,hn⟩:∃n,n=b.length+l1.length:=⟨_,rfl⟩
 rw[←hn]at hd
 have e1:∀X:List Row,∀j,j<n→(b++(l1++(X++l2)))[j]? = (b++l1)[j]?:=fun X j hj=>by
  rw[←List.append_assoc,List.getElem?_append_left (by rw[List.length_append];omega)]
 have e2:∀X:List Row,∀j,j<X.length→(b++(l1++(X++l2)))[n+j]? = X[j]?:=fun X j hj=>by
  rw[←List.append_assoc,List.getElem?_append_right (by rw[List.length_append];omega),List.length_append,←hn,Nat.add_sub_cancel_left,List.getElem?_append_left hj]
 have e3:∀X:List Row,∀j,(b++(l1++(X++l2)))[n+X.length+j]? = l2[j]?:=fun X j=>by
  rw[←List.append_assoc,List.getElem?_append_right (by rw[List.length_append];omega),List.length_append,←hn,Nat.add_assoc,Nat.add_sub_cancel_left,List.getElem?_append_right oM,Nat.add_sub_cancel_left]
 have sp:∀j,j<n∨(∃i,i<N.length∧j=n+i)∨∃i,j=n+N.length+i:=fun j=>by
  by_cases h1:j<n
  ·exact .inl h1
  ·by_cases h2:j<n+N.length
   ·exact .inr (.inl ⟨j-n,by omega,by omega⟩)
   ·exact .inr (.inr ⟨j-(n+N.length),by omega⟩)
 have hml:(N.map Yl).length=N.length:=List.length_map _
 have e2d:∀i,i<N.length→∃r,N[i]? = some r∧(b++(l1++(N++l2)))[n+i]? = some r∧(b++(l1++(N.map Yl++l2)))[n+i]? = some (Yl r):=fun i hi=>by
  refine⟨N[i],List.getElem?_eq_getElem hi,by rw[e2 _ _ hi,List.getElem?_eq_getElem hi],?_⟩
  rw[e2 _ _ (by rw[hml];exact hi),List.getElem?_map,List.getElem?_eq_getElem hi];rfl
 have e3d:∀j,(b++(l1++(N.map Yl++l2)))[n+N.length+j]? = l2[j]?:=fun j=>by
  have:=e3 (N.map Yl) j
  rw[hml]at this;exact this
 have gH:∀{j v z:Nat} {els:List (List AV)},(b++(l1++(N.map Yl++l2)))[j]? = some (.live v z els)→(∀i,i<N.length→j≠n+i)∧(b++(l1++(N++l2)))[j]? = some (.live v z els):=fun {j v z els} hj=>by
  rcases sp j with h1|⟨i,hi,rfl⟩|⟨i,rfl⟩
  ·rw[e1 _ _ h1]at hj⊢;exact⟨fun i _=>by omega,hj⟩
  ·obtain⟨r,_,_,h4⟩:=e2d i hi
   rw[h4]at hj;cases hj
  ·rw[e3d]at hj;rw[e3];exact⟨fun i _=>by omega,hj⟩
 have hin:∀{i ver sz els},N[i]? = some (.live ver sz els)→i<N.length∧(b++(l1++(N++l2)))[n+i]? = some (.live ver sz els):=fun {i ver sz els} hi=>by
  have:=(List.getElem?_eq_some_iff.1 hi).1
  exact⟨this,by rw[e2 _ _ this];exact hi⟩
 have hown:∀k,Qz L (b++(l1++(N.map Yl++l2))) k→Qz L (b++(l1++(N++l2))) k:=by
  rintro k ⟨j,v,z,els,q,h1,h2,h3⟩
  exact⟨j,v,z,els,q,(gH h1).2,h2,h3⟩
 have s1:Sim (FD F L n N) L (b++(l1++(N.map Yl++l2))) w:=by
  refine⟨fun j v z els hj=>?_,fun j v q hq=>?_,fun j j' v v' z z' e1 e2 bb q1 q2 h1 h2=>s.apart j j' v v' z z' e1 e2 bb q1 q2 (gH h1).2 (gH h2).2,fun k hk=>?_,s.glob.mono (fun _ h=>.inl h) (fun _ _=>rfl)⟩
  ·obtain⟨q,g1,g2⟩:=s.row j v z els (gH hj).2
   exact⟨q,g1,g2.mono (fun _ _=>rfl) (fun _ _ h=>h.mono (fun _ h=>.inl h) (fun _ _=>rfl) (fun _ _ _ h=>h))⟩
  ·obtain⟨r,h1,h2⟩:=s.born j v q hq
   rcases sp j with h3|⟨i,hi,rfl⟩|⟨i,rfl⟩
   ·exact⟨r,by rw[e1 _ _ h3]at h1⊢;exact h1,h2⟩
   ·obtain⟨r',_,h4,h5⟩:=e2d i hi
    rw[h4]at h1;cases h1
    exact⟨Yl r,h5,h2⟩
   ·exact⟨r,by rw[e3]at h1;rw[e3d];exact h1,h2⟩
  ·rcases hk with hk|⟨i,ver,sz,els,q,h1,h2,h3⟩
   ·exact⟨(s.imm k hk).1,fun ho=>(s.imm k hk).2 (hown k ho)⟩
   ·obtain⟨hi,h1⟩:=hin h1
    obtain⟨q',g1,g2⟩:=s.row _ _ _ _ h1
    rw[h2]at g1;cases g1
    refine⟨g2.lt h3,?_⟩
    rintro⟨j,v,z,els',q2,k1,k2,k3⟩
    obtain⟨hj,k4⟩:=gH k1
    exact hj i hi (s.apart j (n+i) v ver z sz els' els k q2 q k4 h1 k2 h2 k3 h3)
 have hrep:QL w (FD F L n N) L args' us.toList:=⟨by rw[←hl];exact hr.1,fun j y v hy hv=>by
  have hil:=(List.getElem?_eq_some_iff.1 hy).1
  have hx:args[j]? = some args[j]:=List.getElem?_eq_getElem oM
  exact (hd j _ y hx hy).repR (fun i ver sz els hi=>s.row _ _ _ _ (hin hi).2) v (hr.2 j _ v hx hv)⟩
 refine Calls.mono (h.2 _ L w us s1 hrep) ?_
 rintro en w' ⟨v,x,b',l',F2,L2,h1,h2,h3,h4,h5,h6⟩
 have hlen:(b++(l1++(N.map Yl++l2))).length=(b++(l1++(N++l2))).length:=by simp
 have st:Step (b++(l1++(N++l2))).length F L (b++(l1++(N++l2))) w (FD F L n N) L (b++(l1++(N.map Yl++l2))) w:=by
  refine⟨fun _ h=>.inl h,fun _ _ _ _ h=>h,rfl,rfl,rfl,Nat.le_refl _,fun _ _ _=>rfl,fun k _ ho=>hown k ho,fun id hid v hv=>?_,fun k hk hf=>?_⟩
  ·rcases sp id with h3|⟨i,hi,rfl⟩|⟨i,rfl⟩
   ·rw[e1 _ _ h3]at hv⊢;exact hv
   ·obtain⟨r,_,h4,h5⟩:=e2d i hi
    rw[h4]at hv;cases hv
    exact h5
   ·rw[e3]at hv;rw[e3d];exact hv
  ·rcases hf with hf|⟨i,ver,sz,els,q,h1,h2,h3⟩
   ·exact .inl hf
   ·exact .inr ⟨_,_,_,_,_,(hin h1).2,h2,h3⟩
 exact⟨v,x,b',l',F2,L2,h1,h2,h3,st.trans (hlen▸h4),h5,h6⟩
end Go.Proofs.YtoccdlnoaindmaaGreatDoor
namespace Go.Proofs.YtoccdlnoaindmaaGreatDoor
set_option linter.unusedVariables false
set_option linter.unusedSimpArgs false
attribute [local go_sem ↓] Zz Z0 QB QD Q8 Zg QA Q9 QC Qk ZM Zf Zy ZL Ze Zx ZS Zk QJ Z1 ZN QE Zh Zi Z4 Zj Z5 Zt Zd Qa QF Qc Qd XQ Qj XR XS Q6 Qo
attribute [local go_sem] Z2 ZO XT Z6 ZR XP Qh Qf Qe KT KU Qi QG QH QI Q7 ZI Zv ZQ Zu ZP Z3 aop YC XG XB Q2 XC QU XD Uh Y4 YZ amm YK QT Zp YQ XA Y0 comma Qx Y3 Ug Y2 Y1 UL YO YM XJ UK eqC eqF Jg cellsOf ZC Xm Xg YN Vx rd rdI Xs mk Qr AV.cell List.all_cons List.all_nil Bool.and_true Bool.true_and Bool.and_self List.length_cons List.length_nil List.length_append Nat.reduceAdd Nat.reduceSub Nat.reduceMul Nat.zero_add Nat.add_zero List.cons_append List.nil_append List.append_assoc List.append_nil List.getElem?_cons_zero List.getElem?_cons_succ List.getElem?_nil List.set_cons_zero List.set_cons_succ List.drop_zero List.drop_succ_cons List.take_zero List.take_succ_cons List.take_nil List.drop_nil List.map_cons List.map_nil Option.map_some if_true if_false Bool.false_eq_true and_self true_and and_true Nat.reduceLeDiff Nat.reduceLT Nat.le_refl Nat.reduceEqDiff ite_true ite_false beq_self_eq_true beq_true beq_false Bool.not_true Bool.not_false Bool.true_beq Bool.false_beq Xl Q4 Zr Qt Qw QZ QY QX QW Qv Qu Xi Z7 ZAR Ke ZAS ZAP JJ JH JK JI geI gtI JM decide_true decide_false room List.getElem?_map List.length_map List.length_take Int.toNat_natCast Nat.min_def Nat.min_self XU XM Xk QR Xb VC Zn List.getElem_cons_zero List.getElem_cons_succ
def a_wRun:AFunc:=⟨2,46,[.cell 4 (some 9),.tmp 5],(.seq (.region [⟨some 2,.box (.t 0),none⟩,⟨some 4,.alloc [(.v .zsl),(.v (.int .i64 0)),(.v (.bool false)),(.v .zsl),(.v .zsl),(.v .zsl),(.v (.int .i64 0)),(.v (.int .i64 0)),(.v .zsl)],none⟩,⟨some 5,.mv (.c (.v (.int .i64 0))),none⟩]) (.seq (.seq (.region [⟨some 9,.load (some 9) (.t 2),none⟩,⟨some 10,.call (.c (.fn 24 [])) [(.t 9)],none⟩,⟨some 11,.not (.t 10),none⟩]) (.cond (.t 11) (.seq (.region [⟨some 12,.build [(.v .zsl),(.v (.int .i64 0)),(.v (.bool false)),(.v .zsl),(.v .zsl),(.v .zsl),(.v (.int .i64 0)),(.v (.int .i64 0)),(.v .zsl)] [],none⟩,⟨none,.store 9 (.t 4) (.t 12),none⟩,⟨some 5,.mv (.c (.v (.int .i64 1))),none⟩]) .ret) .skip)) (.seq (.seq (.region [⟨some 13,.mv (.t 1),none⟩,⟨some 14,.len (.t 13),none⟩,⟨some 15,.bin .gtr (.t 14) (.c (.v (.int .i64 1000))),none⟩]) (.cond (.t 15) (.seq (.region [⟨some 16,.build [(.v .zsl),(.v (.int .i64 0)),(.v (.bool false)),(.v .zsl),(.v .zsl),(.v .zsl),(.v (.int .i64 0)),(.v (.int .i64 0)),(.v .zsl)] [],none⟩,⟨none,.store 9 (.t 4) (.t 16),none⟩,⟨some 5,.mv (.c (.v (.int .i64 5))),none⟩]) .ret) .skip)) (.seq (.region [⟨some 17,.load (some 9) (.t 2),none⟩,⟨some 18,.call (.c (.fn 59 [])) [(.t 17)],none⟩,⟨none,.store 9 (.t 2) (.t 18),none⟩]) (.seq (.seq (.region [⟨some 19,.mv (.t 1),none⟩,⟨some 20,.len (.t 19),none⟩,⟨some 21,.mv (.c (.v (.int .i64 0))),none⟩]) (.block 0 (.loop (.seq (.region [⟨some 22,.bin .lss (.t 21) (.t 20),none⟩]) (.seq (.cond (.t 22) .skip (.exit 0)) (.seq (.block 1 (.seq (.region [⟨some 23,.iaddr 1 (.t 19) (.t 21),none⟩,⟨some 24,.load none (.t 23),none⟩,⟨some 7,.mv (.t 24),none⟩]) (.seq (.region [⟨some 8,.mv (.c (.v (.int .i64 0))),none⟩]) (.seq (.seq (.region [⟨some 25,.mv (.t 7),none⟩,⟨some 26,.bin .geq (.t 25) (.c (.v (.int .i64 0))),none⟩]) (.cond (.t 26) (.region [⟨some 28,.load (some 9) (.t 2),none⟩,⟨some 29,.mv (.t 7),none⟩,⟨some 30,.call (.c (.fn 34 [])) [(.t 28),(.t 29)],none⟩,⟨some 27,.mv (.t 30),none⟩,⟨some 31,.extract 0 (.t 27),none⟩,⟨some 32,.extract 1 (.t 27),none⟩,⟨none,.store 9 (.t 2) (.t 31),none⟩,⟨some 8,.mv (.t 32),none⟩]) (.region [⟨some 34,.load (some 9) (.t 2),none⟩,⟨some 35,.mv (.t 7),none⟩,⟨some 36,.neg (.t 35),none⟩,⟨some 37,.call (.c (.fn 26 [])) [(.t 34),(.t 36)],none⟩,⟨some 33,.mv (.t 37),none⟩,⟨some 38,.extract 0 (.t 33),none⟩,⟨some 39,.extract 1 (.t 33),none⟩,⟨none,.store 9 (.t 2) (.t 38),none⟩,⟨some 8,.mv (.t 39),none⟩]))) (.seq (.region [⟨some 40,.mv (.t 8),none⟩,⟨some 41,.bin .neq (.t 40) (.c (.v (.int .i64 0))),none⟩]) (.cond (.t 41) (.seq (.region [⟨some 42,.build [(.v .zsl),(.v (.int .i64 0)),(.v (.bool false)),(.v .zsl),(.v .zsl),(.v .zsl),(.v (.int .i64 0)),(.v (.int .i64 0)),(.v .zsl)] [],none⟩,⟨some 43,.mv (.t 8),none⟩,⟨none,.store 9 (.t 4) (.t 42),none⟩,⟨some 5,.mv (.t 43),none⟩]) .ret) .skip)))))) (.region [⟨some 44,.bin .add (.t 21) (.c (.v (.int .i64 1))),none⟩,⟨some 21,.mv (.t 44),none⟩]))))))) (.seq (.region [⟨some 45,.load (some 9) (.t 2),none⟩,⟨none,.store 9 (.t 4) (.t 45),none⟩,⟨some 5,.mv (.c (.v (.int .i64 0))),none⟩]) .ret))))))⟩
theorem ZIp:Zq Tryz.prog 27=some a_wRun:=by kernel_rfl
def ZHD:List (Nat×Nat):=[(5,5),(7,8),(21,44)]

noncomputable def ZB6 (w:Wd) (x:Int):Wd×Int:=if 0≤x then ZCK w x else ZCH w (-x)
noncomputable def ZJG (w:Wd):List Int→Wd×Int
 |[]=>(w,0)
 |x::r=>if (ZB6 w x).2=0 then ZJG (ZB6 w x).1 r else (wd0,(ZB6 w x).2)
theorem ZHN {w:Wd} (hw:WdV w) {x:Int} (h:(ZB6 w x).2=0):WdV (ZB6 w x).1:=by
 unfold ZB6 at h⊢
 split at h<;>rename_i h1
 ·rw[if_pos h1]
  unfold ZCK at h⊢
  rw[if_pos hw.to]at h⊢
  split at h<;>rename_i h2
  ·cases h
  rw[if_neg h2]
  split at h<;>rename_i h3
  ·rw[if_pos h3]
   exact Kc hw oM h3 h
  ·cases h
 ·rw[if_neg h1]
  unfold ZCH at h⊢
  rw[if_pos hw.to]at h⊢
  split at h<;>rename_i h2
  ·rw[if_pos h2];exact ZJW hw ⟨h2.1.1,h2.2⟩
  ·cases h
theorem ZL5 {w:Wd} {x:Int} (h:(ZB6 w x).2≠0):(ZB6 w x).1=wd0:=by
 unfold ZB6 at h⊢
 split at h<;>rename_i h1
 ·rw[if_pos h1]
  unfold ZCK at h⊢
  split at h<;>rename_i h2
  ·rw[if_pos h2]
   split at h<;>rename_i h3
   ·rw[if_pos h3]
   rw[if_neg h3]
   split at h<;>rename_i h4
   ·rw[if_pos h4];exact ZKj h
   ·rw[if_neg h4]
  ·rw[if_neg h2]
 ·rw[if_neg h1]
  unfold ZCH at h⊢
  split at h<;>rename_i h2
  ·rw[if_pos h2]
   split at h<;>rename_i h3
   ·exact absurd rfl h
   ·rw[if_neg h3]
  ·rw[if_neg h2]
theorem ZLK {w:Wd} {x:Int} (h0:x<0) (h1:-9223372036854775808≤x):ZCH w (IntKind.i64.wrap (-x))=ZCH w (-x):=by
 by_cases h:x=-9223372036854775808
 ·subst h
  have e1:IntKind.i64.wrap (-(-9223372036854775808))=-9223372036854775808:=by decide
  rw[e1]
  unfold ZCH
  rw[if_neg (by omega:¬((0≤(-9223372036854775808:Int)∧(-9223372036854775808:Int)≤1000000)∧w.now+-9223372036854775808≤1000000000)),if_neg (by omega:¬((0≤(-(-9223372036854775808):Int)∧(-(-9223372036854775808):Int)≤1000000)∧w.now+-(-9223372036854775808)≤1000000000))]
 ·rw[Z7 oM oM]
theorem ZIX {α:Type} {l:List α} {i:Nat} (h:i<l.length):l.drop i=l[i]::l.drop (i+1):=List.drop_eq_getElem_cons h
noncomputable def ZJF (w:Wd) (order:List Int):Wd×Int:=if wdB w=true then (if 1000<order.length then (wd0,5) else ZJG w order) else (wd0,1)
theorem ZG8 (w:Wd) (hS:Sm w.tr) (hN:Nm w.tr) (hSv:SvsS w.sv) (hSn:NwS w.net) (order:List Int) (hol:order.length≤1000000) (ho:∀x∈order,-9223372036854775808≤x) (b l:List Row):ZA Tryz.prog 27 [.agg ((eWd w).map .v),.v (.isl 1 (order.map eI))] b l (fun r b' l'=>r=.tup [.agg ((eWd (ZJF w order).1).map .v),.v (.int .i64 (ZJF w order).2)]∧b'=b∧l'=l):=by
 refine ZD ZIp rfl (by decide) ?_
 intro B g hB hR hE hA;simp only[Zn]at hA
 have cV:=fun b l=>Yy w hS hN hSv hSn b l
 rw[XE]at hA cV
 simp (disch:=first|decide|omega) only[a_wRun,hA,ZC,cellsOf,go_sem]
 refine ZA.nxt (cV _ _) ?_
 cases t1:wdB w
 ·have hr:ZJF w order=(wd0,1):=by unfold ZJF;rw[if_neg (by rw[t1];simp)]
  rw[hr]
  simp (disch:=first|decide|omega) only[hA,ZC,cellsOf,go_sem]
  exact Zs (.inr rfl) (xs:=[.agg [.v .zsl,.v (.int .i64 0),.v (.bool false),.v .zsl,.v .zsl,.v .zsl,.v (.int .i64 0),.v (.int .i64 0),.v .zsl],.v (.int .i64 1)]) (by simp (disch:=first|decide|omega) only[ZE,ZY,hA,go_sem]) (Ym 1) hR hB ⟨rfl,rfl,rfl⟩
 have hw:=WdV.of t1
 by_cases h2:1000<order.length
 ·have d2:decide ((order.length:Int)>1000)=true:=decide_eq_true oM
  have d2':decide ((1000:Int)<(order.length:Int))=true:=d2
  have hr:ZJF w order=(wd0,5):=by unfold ZJF;rw[if_pos t1,if_pos h2]
  rw[hr]
  simp (disch:=first|decide|omega) only[hA,d2,d2',ZC,cellsOf,List.length_map,go_sem]
  exact Zs (.inr rfl) (xs:=[.agg [.v .zsl,.v (.int .i64 0),.v (.bool false),.v .zsl,.v .zsl,.v .zsl,.v (.int .i64 0),.v (.int .i64 0),.v .zsl],.v (.int .i64 5)]) (by simp (disch:=first|decide|omega) only[ZE,ZY,hA,go_sem]) (Ym 5) hR hB ⟨rfl,rfl,rfl⟩
 have d2:decide ((order.length:Int)>1000)=false:=decide_eq_false oM
 have d2':decide ((1000:Int)<(order.length:Int))=false:=d2
 have hr:ZJF w order=ZJG w order:=by unfold ZJF;rw[if_pos t1,if_neg h2]
 rw[hr]
 have cC:=fun b l=>VX w hSv hw.small hSn (by have:=(ZCJ hw.sv).1;omega) hw.tr.lo b l
 rw[XE]at cC
 simp (disch:=first|decide|omega) only[hA,d2,d2',ZC,cellsOf,List.length_map,go_sem]
 refine ZA.nxt (cC _ _) ?_
 simp (disch:=first|decide|omega) only[hA,ZC,cellsOf,List.length_map,go_sem]
 refine QM (ι:=Nat×Wd) ZHD (fun z=>[(21,.v (.int .i64 z.1))]) 2 (fun z=>[.live 0 9 [(eWd z.2).map .v],.live 0 9 [[.v .zsl,.v (.int .i64 0),.v (.bool false),.v .zsl,.v .zsl,.v .zsl,.v (.int .i64 0),.v (.int .i64 0),.v .zsl]]])
  (fun z=>z.1≤order.length∧WdV z.2∧ZJG w order=ZJG z.2 (order.drop z.1)) (fun z=>order.length-z.1) (0,w) ⟨Nat.zero_le _,hw,by rw[List.drop_zero]⟩ (by (repeat (first|exact hE.mono oM|refine KLt.up ?_ kL))) (by ((try simp (disch:=decide) only[hA,go_sem])<;>exact kH)) (fun e=>Za.refl _ _ _) ?_
 rintro g1 hE1 hEE1 hg1 ⟨i,W⟩ ⟨hi,hW,hrl⟩
 simp only at hi hW hrl⊢
 by_cases hlt:i<order.length
 ·have hgo:=Jy hlt
  obtain⟨x,hx⟩:∃x,order[i]=x:=⟨_,rfl⟩
  rw[ZF hlt,hx]at hgo
  have hxm:-9223372036854775808≤x:=by rw[←hx];exact ho _ (List.getElem_mem hlt)
  rw[ZIX hlt,hx]at hrl
  rw[hrl]
  rw[XE]
  obtain⟨y,hy⟩:∃y,ZB6 W x=y:=⟨_,rfl⟩
  have hrr:ZJG W (x::order.drop (i+1))=if y.2=0 then ZJG y.1 (order.drop (i+1)) else (wd0,y.2):=by show (if (ZB6 W x).2=0 then ZJG (ZB6 W x).1 _ else _)=_;rw[hy]
  have hye:y.2=0→WdV y.1:=fun h=>by rw[←hy]at h⊢;exact ZHN hW h
  have hy0:y.2≠0→y.1=wd0:=fun h=>by rw[←hy]at h⊢;exact ZL5 h
  have cS:=fun b l=>ZFC W hW.small.sm hW.nm hW.svS hW.net.s x b l
  have cT:=fun b l=>ZFB W hW.small.sm hW.nm hW.svS hW.net.s (IntKind.i64.wrap (0-x)) b l
  rw[XE]at cS cT
  by_cases h0:0≤x
  case' pos =>
   have d0:decide (x≥0)=true:=decide_eq_true h0
   have d0':decide (0≤x)=true:=d0
   have hyo:ZCK W x=y:=by rw[←hy];unfold ZB6;rw[if_pos h0]
   rw[hyo,XE]at cS
   simp (disch:=first|decide|omega) only[hA,hg1,hgo,d0,d0',ZC,cellsOf,List.length_map,go_sem]
   refine ZA.nxt (cS _ _) ?_
  case' neg =>
   have d0:decide (x≥0)=false:=decide_eq_false h0
   have d0':decide (0≤x)=false:=d0
   have hyo:ZCH W (IntKind.i64.wrap (0-x))=y:=by rw[Int.zero_sub,ZLK oM hxm,←hy];unfold ZB6;rw[if_neg h0]
   rw[hyo,XE]at cT
   simp (disch:=first|decide|omega) only[hA,hg1,hgo,d0,d0',ZC,cellsOf,List.length_map,go_sem]
   refine ZA.nxt (cT _ _) ?_
  all_goals
   by_cases he:y.2=0
   ·have e0:(y.2 != 0)=false:=by rw[he];rfl
    have hrr2:=hrr
    rw[if_pos he]at hrr2
    have hWy:=hye he
    rw[hrr2]
    simp (disch:=first|decide|omega) only[hA,hg1,e0,ZC,cellsOf,List.length_map,go_sem]
    refine⟨(i+1,y.1),⟨hlt,hWy,by rw[←hrr2,←hrl]⟩,by simp only;omega,?_⟩
    simp only[XE]
    exact Za.kround (p:=ZHD) (k:=2) (by ((repeat refine (Z9 rfl).trans ?_);exact hEE1)) (by ((try simp (disch:=decide) only[hA,hg1,go_sem])<;>exact kH)) rfl hE1 (by simp) kV hR kL
   ·have e0:(y.2 != 0)=true:=bne_iff_ne.2 he
    rw[if_neg he]at hrr
    rw[hrr]
    simp (disch:=first|decide|omega) only[hA,hg1,e0,ZC,cellsOf,List.length_map,go_sem]
    exact Zs (.inr rfl) (xs:=[.agg [.v .zsl,.v (.int .i64 0),.v (.bool false),.v .zsl,.v .zsl,.v .zsl,.v (.int .i64 0),.v (.int .i64 0),.v .zsl],.v (.int .i64 y.2)]) (by simp (disch:=first|decide|omega) only[ZE,ZY,hA,hg1,go_sem]) (Ym y.2) hR hB ⟨rfl,rfl,rfl⟩
 ·obtain rfl:i=order.length:=by omega
  have hrn:ZJG w order=(W,0):=by rw[hrl,List.drop_length];rfl
  rw[hrn,XE]
  simp (disch:=first|decide|omega) only[hA,hg1,ZC,cellsOf,List.length_map,go_sem]
  exact ZB (xs:=[.agg [.v (.isl 6 (W.sv.map eSv)),.v (.int .i64 W.net.now),.v (.bool W.net.fifo),.v (.isl 4 (W.net.l.map eMs)),.v (.isl 1 (W.net.tm.map eI)),.v (.isl 2 (W.net.fates.map eFt)),.v (.int .i64 W.now),.v (.int .i64 W.sent),.v (.isl 3 (W.tr.map ePr))],.v (.int .i64 0)]) (.inr rfl) (by simp (disch:=first|decide|omega) only[ZE,ZY,go_sem,hA,hg1]) kO hR hB ⟨rfl,rfl,rfl⟩
def a_awk54:AFunc:=⟨0,76,[.tmp 0],(.seq (.region [⟨some 0,.mv (.c (.v (.bool false))),none⟩]) (.seq (.region [⟨some 8,.build [(.v (.int .i64 0)),(.v (.int .i64 0)),(.v (.int .i64 0))] [(0,1,(.c (.v (.int .i64 3)))),(1,1,(.c (.v (.int .i64 0)))),(2,1,(.c (.v (.int .i64 1))))],none⟩,⟨some 9,.build [(.v (.int .i64 0)),(.v (.int .i64 0)),(.v (.int .i64 0))] [(0,1,(.c (.v (.int .i64 8))))],none⟩,⟨some 10,.bslice 3 [(.v (.int .i64 0)),(.v (.int .i64 0)),(.v (.int .i64 0))] 2 [(0,(.t 8)),(1,(.t 9))],none⟩,⟨some 11,.bslice 1 [(.v (.int .i64 0))] 1 [(0,(.c (.v (.int .i64 5))))],none⟩,⟨some 12,.build [(.v (.str ⟨#[]⟩)),(.v .zsl),(.v (.int .i64 0)),(.v .zsl),(.v (.int .i64 0)),(.v (.int .i64 0))] [(0,1,(.c (.v (.str ⟨#[97]⟩)))),(1,1,(.t 10)),(3,1,(.t 11)),(5,1,(.c (.v (.int .i64 1000))))],none⟩,⟨some 13,.build [(.v (.int .i64 0)),(.v (.int .i64 0)),(.v (.int .i64 0))] [(0,1,(.c (.v (.int .i64 4))))],none⟩,⟨some 14,.build [(.v (.int .i64 0)),(.v (.int .i64 0)),(.v (.int .i64 0))] [(0,1,(.c (.v (.int .i64 2)))),(1,1,(.c (.v (.int .i64 0)))),(2,1,(.c (.v (.int .i64 1))))],none⟩,⟨some 15,.bslice 3 [(.v (.int .i64 0)),(.v (.int .i64 0)),(.v (.int .i64 0))] 2 [(0,(.t 13)),(1,(.t 14))],none⟩,⟨some 16,.bslice 1 [(.v (.int .i64 0))] 1 [(0,(.c (.v (.int .i64 0))))],none⟩,⟨some 17,.build [(.v (.str ⟨#[]⟩)),(.v .zsl),(.v (.int .i64 0)),(.v .zsl),(.v (.int .i64 0)),(.v (.int .i64 0))] [(0,1,(.c (.v (.str ⟨#[98]⟩)))),(1,1,(.t 15)),(3,1,(.t 16)),(5,1,(.c (.v (.int .i64 1000))))],none⟩,⟨some 18,.bslice 6 [(.v (.str ⟨#[]⟩)),(.v .zsl),(.v (.int .i64 0)),(.v .zsl),(.v (.int .i64 0)),(.v (.int .i64 0))] 2 [(0,(.t 12)),(1,(.t 17))],none⟩,⟨some 1,.mv (.t 18),none⟩]) (.seq (.region [⟨some 20,.mv (.t 1),none⟩,⟨some 21,.build [(.v (.int .i64 0)),(.v (.bool false)),(.v .zsl),(.v .zsl),(.v .zsl)] [],none⟩,⟨some 22,.call (.c (.fn 14 [])) [(.t 20),(.t 21)],none⟩,⟨some 19,.mv (.t 22),none⟩,⟨some 23,.extract 0 (.t 19),none⟩,⟨some 24,.extract 1 (.t 19),none⟩,⟨some 2,.alloc [(.v .zsl),(.v (.int .i64 0)),(.v (.bool false)),(.v .zsl),(.v .zsl),(.v .zsl),(.v (.int .i64 0)),(.v (.int .i64 0)),(.v .zsl)],none⟩,⟨none,.store 9 (.t 2) (.t 23),none⟩,⟨some 3,.mv (.t 24),none⟩]) (.seq (.region [⟨some 26,.load (some 9) (.t 2),none⟩,⟨some 27,.call (.c (.fn 33 [])) [(.t 26)],none⟩,⟨some 25,.mv (.t 27),none⟩,⟨some 28,.extract 0 (.t 25),none⟩,⟨some 29,.extract 1 (.t 25),none⟩,⟨some 4,.mv (.t 28),none⟩,⟨some 5,.mv (.t 29),none⟩]) (.seq (.region [⟨some 31,.load (some 9) (.t 2),none⟩,⟨some 32,.bslice 1 [(.v (.int .i64 0))] 3 [(0,(.c (.v (.int .i64 0)))),(1,(.c (.v (.int .i64 1)))),(2,(.c (.v (.int .i64 1))))],none⟩,⟨some 33,.call (.c (.fn 27 [])) [(.t 31),(.t 32)],none⟩,⟨some 30,.mv (.t 33),none⟩,⟨some 34,.extract 0 (.t 30),none⟩,⟨some 35,.extract 1 (.t 30),none⟩,⟨some 6,.alloc [(.v .zsl),(.v (.int .i64 0)),(.v (.bool false)),(.v .zsl),(.v .zsl),(.v .zsl),(.v (.int .i64 0)),(.v (.int .i64 0)),(.v .zsl)],none⟩,⟨none,.store 9 (.t 6) (.t 34),none⟩,⟨some 7,.mv (.t 35),none⟩]) (.seq (.region [⟨some 36,.mv (.t 3),none⟩,⟨some 37,.bin .eql (.t 36) (.c (.v (.int .i64 0))),none⟩,⟨some 38,.mv (.t 37),none⟩,⟨some 39,.mv (.t 5),some (38,true)⟩,⟨some 40,.bin .eql (.t 39) (.c (.v (.int .i64 0))),some (38,true)⟩,⟨some 41,.pick (.t 38) (.t 40) (.c (.v (.bool false))),none⟩,⟨some 42,.mv (.t 41),none⟩,⟨some 43,.mv (.t 4),some (42,true)⟩,⟨some 44,.bslice 1 [(.v (.int .i64 0))] 1 [(0,(.c (.v (.int .i64 0))))],some (42,true)⟩,⟨some 45,.call (.c (.fn 36 [])) [(.t 43),(.t 44)],some (42,true)⟩,⟨some 46,.pick (.t 42) (.t 45) (.c (.v (.bool false))),none⟩,⟨some 47,.mv (.t 46),none⟩,⟨some 48,.mv (.t 7),some (47,true)⟩,⟨some 49,.bin .eql (.t 48) (.c (.v (.int .i64 0))),some (47,true)⟩,⟨some 50,.pick (.t 47) (.t 49) (.c (.v (.bool false))),none⟩,⟨some 51,.mv (.t 50),none⟩,⟨some 52,.load (some 9) (.t 6),some (51,true)⟩,⟨some 53,.call (.c (.fn 35 [])) [(.t 52)],some (51,true)⟩,⟨some 54,.pick (.t 51) (.t 53) (.c (.v (.bool false))),none⟩,⟨some 55,.mv (.t 54),none⟩,⟨some 56,.faddr 0 (.t 6),some (55,true)⟩,⟨some 57,.load none (.t 56),some (55,true)⟩,⟨some 58,.len (.t 57),some (55,true)⟩,⟨some 59,.bin .eql (.t 58) (.c (.v (.int .i64 2))),some (55,true)⟩,⟨some 60,.pick (.t 55) (.t 59) (.c (.v (.bool false))),none⟩,⟨some 61,.mv (.t 60),none⟩,⟨some 62,.faddr 0 (.t 6),some (61,true)⟩,⟨some 63,.load none (.t 62),some (61,true)⟩,⟨some 64,.iaddr 6 (.t 63) (.c (.v (.int .i64 1))),some (61,true)⟩,⟨some 65,.faddr 3 (.t 64),some (61,true)⟩,⟨some 66,.load none (.t 65),some (61,true)⟩,⟨some 67,.bslice 1 [(.v (.int .i64 0))] 1 [(0,(.c (.v (.int .i64 6))))],some (61,true)⟩,⟨some 68,.call (.c (.fn 36 [])) [(.t 66),(.t 67)],some (61,true)⟩,⟨some 69,.pick (.t 61) (.t 68) (.c (.v (.bool false))),none⟩,⟨some 70,.mv (.t 69),none⟩,⟨some 71,.faddr 8 (.t 6),some (70,true)⟩,⟨some 72,.load (some 1) (.t 71),some (70,true)⟩,⟨some 73,.call (.c (.fn 47 [])) [(.t 72)],some (70,true)⟩,⟨some 74,.bin .eql (.t 73) (.c (.v (.int .i64 3))),some (70,true)⟩,⟨some 75,.pick (.t 70) (.t 74) (.c (.v (.bool false))),none⟩,⟨some 0,.mv (.t 75),none⟩]) .ret))))))⟩
theorem ZGN:Zq Tryz.prog 11=some a_awk54:=by kernel_rfl

theorem ZH2 {l:List Sv} (p:Nat):Zc (l.map npr) p=[]:=by
 unfold Zc
 rw[List.getD_eq_getElem?_getD,List.getElem?_map]
 cases l[p]? <;> rfl
theorem ZB7 {l:List Sv} (x:Nat×Nat):x∉ids (l.map npr):=fun hx=>by
 obtain⟨p,i⟩:=x
 obtain⟨i,rfl⟩:∃k,i=k+1:=⟨i-1,by have:=JF hx;simp only at this;omega⟩
 have:=(Xp.1 hx).2
 rw[ZH2]at this
 exact absurd this (by simp)
theorem ZJQ:∀i:Fin 8,Xo (UO i)=true:=by decide
theorem ZJR:∀i j:Fin 8,j<i→(UO j==UO i)=false:=by decide
theorem ZM5 {v:Int} (h:vlB v=true):ZCF v=true:=by
 unfold vlB at h;unfold ZCF
 simpa using h
theorem ZJm {l:List Sv} (h:VE l=true) {p:Nat} (hp:p<l.length):Xf (l.map npr) p=0:=by
 obtain⟨hv,hd⟩:=Ji h hp
 have hg:l.getD p dfSv=l[p]:=ZF hp
 rw[hg]at hv
 unfold Xf
 rw[ZH1 hp]
 have c1:((l.map npr).take p).any (fun y=>y.name.toList==(npr l[p]).name.toList)=false:=by
  rw[List.any_eq_false]
  intro y hy hc
  obtain⟨q,hq⟩:=List.mem_iff_getElem?.1 hy
  rw[List.getElem?_take]at hq
  split at hq
  ·rename_i hqp
   rw[List.getElem?_map,List.getElem?_eq_getElem oM]at hq
   cases hq
   rw[←beq_toListBytes]at hc
   have:=hd q hqp
   rw[hg,ZF oM]at this
   exact this (ZBt hc)
  ·cases hq
 have c3:Q0 (ZDK (npr l[p]).vars) (npr l[p]).vars.length=0:=by
  rw[Yf]
  intro i hi
  have hi:i<l[p].vars.length:=by rw[←J4 (l:=l[p].vars)];exact hi
  have h8:=hv.vl
  have hgi:∀j,j<l[p].vars.length→(npr l[p]).vars.getD j ZIZ=wVr l[p].vars j:=fun j hj=>ZIK hj
  unfold ZDK
  rw[hgi i hi]
  have a1:Xo (wVr l[p].vars i).name=true:=ZJQ ⟨i,by omega⟩
  have a2:((npr l[p]).vars.take i).any (fun y=>y.name.toList==(wVr l[p].vars i).name.toList)=false:=by
   rw[List.any_eq_false]
   intro y hy hc
   obtain⟨q,hq⟩:=List.mem_iff_getElem?.1 hy
   rw[List.getElem?_take]at hq
   split at hq
   ·rename_i hqi
    have e:=hgi q oM
    rw[List.getD_eq_getElem?_getD,hq,Option.getD_some]at e
    rw[e,←beq_toListBytes]at hc
    have:=ZJR ⟨i,by omega⟩ ⟨q,by omega⟩ hqi
    have hc2:(UO q==UO i)=true:=hc
    rw[hc2]at this;cases this
   ·cases hq
  have a3:ZCF (wVr l[p].vars i).init=true:=ZM5 (by show vlB (l[p].vars.getD i 0)=true;rw[ZF hi];exact hv.vs _ (List.getElem_mem hi))
  rw[a1,a2,a3];rfl
 have c0:Xo (npr l[p]).name=true:=hv.name
 have c2:¬8<(npr l[p]).vars.length:=by
  have:=hv.vl
  show ¬8<(Ks l[p].vars).length
  rw[J4];omega
 rw[c0,c1,c3]
 simp only[Bool.not_true,Bool.or_false,Bool.false_eq_true,if_false,ne_eq,not_true_eq_false]
 rw[if_neg c2]
 rfl
theorem ZLm {l:List Sv} (h:VE l=true):Vok (l.map npr):=by
 have hn:=ZCJ h
 exact⟨by rw[List.length_map];omega,by rw[List.length_map];omega,fun p hp=>ZJm h (by rwa [List.length_map]at hp),fun x hx=>absurd hx (ZB7 x),fun x hx=>absurd hx (ZB7 x),fun x hx=>absurd hx (ZB7 x)⟩
theorem ZFA (v:List Int):(Ks v).map (·.init)=v:=by
 apply List.ext_getElem?
 intro i
 rw[List.getElem?_map]
 by_cases hi:i<v.length
 ·unfold Ks
  rw[YV hi,List.getElem?_eq_getElem hi]
  show some (v.getD i 0)=_
  rw[ZF hi]
 ·rw[List.getElem?_eq_none (by rw[J4];omega),List.getElem?_eq_none oM];rfl
theorem ZLn (s:Sv) (now:Int):ZBf (npr s) s now=true:=by
 unfold ZBf
 have h1:((npr s).name==s.name)=true:=Ve _
 have h2:(npr s).vars.length=s.vars.length:=J4
 have h3:ZLp (npr s) s.vars.length=true:=by
  unfold ZLp
  rw[List.all_eq_true]
  intro i hi
  have e:(npr s).vars.getD i ZIZ=wVr s.vars i:=ZIK (List.mem_range.1 hi)
  rw[e];exact Ve _
 have h4:ZJL (npr s)=s.vars:=ZFA s.vars
 have h5:ZJV (npr s) (Uc s now)=true:=by unfold ZJV;exact decide_eq_true (.inl rfl)
 rw[h1,decide_eq_true h2,h3,decide_eq_true h4,h5];rfl
theorem ZH3 {l:List Sv}:∀k,cSd (l.map npr) k=0
 |0=>rfl
 |k+1=>by
   simp only[cSd]
   rw[ZH3 k,ZH2];rfl
theorem ZH6 {l:List Sv} {n:Nw} (h:VE l=true) (hn:NwV n) (h0:n.now=0) (hl:n.l=[]):WdV (ZKt l n):=by
 refine⟨h,⟨Int.le_refl _,by show (0:Int)≤1000000000;decide⟩,hn,h0,ZLm h,by show (l.map npr).length=l.length;rw[List.length_map],fun p hp=>?_,fun x hx=>absurd hx (ZB7 x),?_,fun m hm=>?_⟩
 ·have hp:p<l.length:=by rw[←List.length_map (f:=npr)];exact hp
  show ZBf ((l.map npr).getD p dfPr) (l.getD p dfSv) 0=true
  rw[ZH1 hp,ZF hp]
  exact ZLn _ _
 ·show ((cSd (l.map npr) _:Nat):Int)=0
  rw[ZH3];rfl
 ·have hm:m∈n.l:=hm
  rw[hl]at hm;cases hm
def awL:List Sv:=[⟨⟨#[97]⟩,[⟨3,0,1⟩,⟨8,0,0⟩],0,[5],0,1000⟩,⟨⟨#[98]⟩,[⟨4,0,0⟩,⟨2,0,1⟩],0,[0],0,1000⟩]
theorem ZIf:VE awL=true:=by kernel_rfl
theorem ZH0:nwB nw0=true:=by kernel_rfl
noncomputable def aw0:Wd:=ZKt awL nw0
noncomputable def aw1:Wd:=(stW aw0 0).1
noncomputable def aw2:Wd:=(stW aw1 1).1
noncomputable def aw3:Wd:=(stW aw2 1).1
theorem Ka:WdV aw0:=ZH6 ZIf (JE.1 ZH0) rfl rfl
theorem ZNa:J3 aw0 0=true:=by kernel_rfl
theorem ZN9:(stW aw0 0).2=0:=by kernel_rfl
theorem aw0_l:ZAo aw0 2=[0]:=by kernel_rfl
theorem ZN5:WdV aw1:=Kc Ka (by show 0<2;omega) ZNa ZN9
theorem ZN7:aw1.sv.length=2:=by kernel_rfl
theorem ZN8:J3 aw1 1=true:=by kernel_rfl
theorem ZN6:(stW aw1 1).2=0:=by kernel_rfl
theorem ZN1:WdV aw2:=Kc ZN5 (by rw[ZN7];omega) ZN8 ZN6
theorem ZN3:aw2.sv.length=2:=by kernel_rfl
theorem ZN4:J3 aw2 1=true:=by kernel_rfl
theorem ZN2:(stW aw2 1).2=0:=by kernel_rfl
theorem ZCl:WdV aw3:=Kc ZN1 (by rw[ZN3];omega) ZN4 ZN2
theorem aw3_n:aw3.sv.length=2:=by kernel_rfl
theorem aw3_x:aw3.sv.all ZBP=true:=by kernel_rfl
theorem ZN0:(ids aw3.tr).length=3:=by kernel_rfl
theorem aw3_r:(aw3.sv.map eSv)[1]? = some [.str ⟨#[98]⟩,.isl 3 [[.int .i64 4,.int .i64 0,.int .i64 0],[.int .i64 2,.int .i64 0,.int .i64 1]],.int .i64 2,.isl 1 [[.int .i64 6]],.int .i64 0,.int .i64 1000]:=by kernel_rfl
theorem ZHO {w:Wd} (hw:WdV w) {p:Nat} (hp:p<w.sv.length) (he:J3 w p=true):ZB6 w p=stW w p:=by
 unfold ZB6
 rw[if_pos oM]
 unfold ZCK
 rw[if_pos hw.to,if_neg oM,Int.toNat_natCast,if_pos he]
theorem ZNZ:ZJF aw0 [0,1,1]=(aw3,0):=by
 have h0:ZB6 aw0 0=stW aw0 0:=ZHO (p:=0) Ka (by show 0<2;omega) ZNa
 have h1:ZB6 aw1 1=stW aw1 1:=ZHO (p:=1) ZN5 (by rw[ZN7];omega) ZN8
 have h2:ZB6 aw2 1=stW aw2 1:=ZHO (p:=1) ZN1 (by rw[ZN3];omega) ZN4
 unfold ZJF
 rw[if_pos Ka.to,if_neg (by decide)]
 have e1:(stW aw0 0).1=aw1:=rfl
 have e2:(stW aw1 1).1=aw2:=rfl
 have e3:(stW aw2 1).1=aw3:=rfl
 simp only[ZJG]
 rw[h0,if_pos ZN9,e1,h1,if_pos ZN6,e2,h2,if_pos ZN2,e3]
theorem ZCk (b l:List Row):ZA Tryz.prog 11 [] b l (fun r b' l'=>r=.v (.bool true)∧b'=b∧l'=l):=by
 refine ZD ZGN rfl (by decide) ?_
 intro B g hB hR hE hA;simp only[Zn]at hA
 have cN:∀b l,ZA Tryz.prog 14 [.v (.isl 6 (awL.map eSv)),.agg [.v (.int .i64 0),.v (.bool false),.v .zsl,.v .zsl,.v .zsl]] b l (fun r b' l'=>r=.tup [.agg ((eWd aw0).map .v),.v (.int .i64 0)]∧b'=b∧l'=l):=fun b l=>by
  have hb:ZDB awL nw0=(aw0,0):=by
   unfold ZDB
   rw[if_pos ⟨ZIf,ZH0⟩,if_neg (by rintro (h|h|h);exact h rfl;exact absurd h (by decide);exact absurd h (by decide))];rfl
  have:=ZFD awL (ZMd ZIf) nw0 (JE.1 ZH0).s b l
  rw[hb]at this
  refine this.le rfl (fun i x y hx hy=>?_)
  match i,hx,hy with
  |0,hx,hy=>cases hx;cases hy;exact .refl _
  |1,hx,hy =>
    cases hx;cases hy
    refine .agg _ _ rfl (fun j u v hu hv=>?_)
    match j,hu,hv with
    |0,hu,hv=>cases hu;cases hv;exact .refl _
    |1,hu,hv=>cases hu;cases hv;exact .refl _
    |2,hu,hv=>cases hu;cases hv;exact .v _ _ (.zsl 4)
    |3,hu,hv=>cases hu;cases hv;exact .v _ _ (.zsl 1)
    |4,hu,hv=>cases hu;cases hv;exact .v _ _ (.zsl 2)
 have cE:=fun b l=>ZDI aw0 Ka.small Ka.nm Ka.svS Ka.net.s Ka.to b l
 have hq:ZDk aw0 aw0.sv.length=[[.int .i64 0]]:=by
  show (ZAo aw0 2).map _=_
  rw[aw0_l];rfl
 rw[hq]at cE
 have cR:=fun b l=>ZG8 aw0 Ka.small.sm Ka.nm Ka.svS Ka.net.s [0,1,1] (by simp) (by simp) b l
 rw[ZNZ]at cR
 have cD:=fun b l=>ZDH aw3 ZCl.small.sm ZCl.nm ZCl.svS ZCl.net.s b l
 have hd:ZNh aw3=true:=by unfold ZNh;rw[ZCl.to,aw3_x];rfl
 rw[hd]at cD
 have cC:=fun b l=>ZFk aw3.tr ZCl.small ZCl.nm b l (by rw[ZN0];omega)
 have hc:KW aw3.tr=3:=by unfold KW;rw[if_pos (Jh ZCl.tr),ZN0]
 rw[hc]at cC
 simp only[eT]at cC
 have q0:∀b l,ZA Tryz.prog 36 [.v (.isl 1 [[.int .i64 0]]),.v (.isl 1 [[.int .i64 0]])] b l (fun r b' l'=>r=.v (.bool true)∧b'=b∧l'=l):=fun b l=>ZBn [0] [0] (by simp) b l
 have q6:∀b l,ZA Tryz.prog 36 [.v (.isl 1 [[.int .i64 6]]),.v (.isl 1 [[.int .i64 6]])] b l (fun r b' l'=>r=.v (.bool true)∧b'=b∧l'=l):=fun b l=>ZBn [6] [6] (by simp) b l
 have g1:=aw3_r
 have n3:=aw3_n
 obtain⟨W,hW⟩:∃W,aw0=W:=⟨_,rfl⟩
 obtain⟨V,hV⟩:∃V,aw3=V:=⟨_,rfl⟩
 rw[hW]at cN cE cR
 rw[hV]at cR cD cC g1 n3
 simp only[XE]at cN cE cR cD
 have b1:((0:Int)==0)=true:=rfl
 have b2:((3:Int)==3)=true:=rfl
 have b3:(((3:Nat):Int)==3)=true:=rfl
 have b4:(((2:Nat):Int)==2)=true:=rfl
 have b5:((2:Int)==2)=true:=rfl
 have t1:Int.toNat 1=1:=rfl
 simp (disch:=first|decide|omega) only[a_awk54,hA,ZC,cellsOf,XZ,List.replicate_succ,List.replicate_zero,List.set_cons_zero,List.set_cons_succ,go_sem]
 refine ZA.deepMid (l1:=[]) (l2:=[]) (N:=[.live 0 3 [[.v (.int .i64 3),.v (.int .i64 0),.v (.int .i64 1)],[.v (.int .i64 8),.v (.int .i64 0),.v (.int .i64 0)]],.live 0 1 [[.v (.int .i64 5)]],.live 0 3 [[.v (.int .i64 4),.v (.int .i64 0),.v (.int .i64 0)],[.v (.int .i64 2),.v (.int .i64 0),.v (.int .i64 1)]],.live 0 1 [[.v (.int .i64 0)]],.live 0 6 [[.v (.str ⟨#[97]⟩),.sl B.length 0 0 2,.v (.int .i64 0),.sl (B.length+1) 0 0 1,.v (.int .i64 0),.v (.int .i64 1000)],[.v (.str ⟨#[98]⟩),.sl (B.length+2) 0 0 2,.v (.int .i64 0),.sl (B.length+3) 0 0 1,.v (.int .i64 0),.v (.int .i64 1000)]]]) (args':=[.v (.isl 6 (awL.map eSv)),.agg [.v (.int .i64 0),.v (.bool false),.v .zsl,.v .zsl,.v .zsl]]) rfl (fun i x y hx hy=>?_) ?_
 ·match i,hx,hy with
  |0,hx,hy =>
    cases hx;cases hy
    refine Dv.slR (i:=4) rfl (by simp) rfl (fun k r row h1 h2=>?_)
    match k,h1,h2 with
    |0,h1,h2=>cases h1;cases h2;exact DvR.cons (.v _) (DvR.cons (Dv.slV (i:=0) (rows:=[[.int .i64 3,.int .i64 0,.int .i64 1],[.int .i64 8,.int .i64 0,.int .i64 0]]) rfl rfl) (DvR.cons (.v _) (DvR.cons (Dv.slV (i:=1) (rows:=[[.int .i64 5]]) rfl rfl) (DvR.cons (.v _) (DvR.cons (.v _) DvR.nil)))))
    |1,h1,h2=>cases h1;cases h2;exact DvR.cons (.v _) (DvR.cons (Dv.slV (i:=2) (rows:=[[.int .i64 4,.int .i64 0,.int .i64 0],[.int .i64 2,.int .i64 0,.int .i64 1]]) rfl rfl) (DvR.cons (.v _) (DvR.cons (Dv.slV (i:=3) (rows:=[[.int .i64 0]]) rfl rfl) (DvR.cons (.v _) (DvR.cons (.v _) DvR.nil)))))
  |1,hx,hy=>cases hx;cases hy;exact Dv.aggL (.cons (.v _) (.cons (.v _) (.cons (.v _) (.cons (.v _) (.cons (.v _) .nil)))))
 refine ZA.nxt (cN _ _) ?_
 simp (disch:=first|decide|omega) only[hA,Yl,ZC,cellsOf,XZ,go_sem]
 refine ZA.nxt (cE _ _) ?_
 simp (disch:=first|decide|omega) only[hA,Yl,ZC,cellsOf,XZ,List.replicate_succ,List.replicate_zero,List.set_cons_zero,List.set_cons_succ,go_sem]
 refine ZA.frzB (i:=6) (ver:=0) (sz:=1) (rows:=[[.int .i64 0],[.int .i64 1],[.int .i64 1]]) (args':=[.agg [.v (.isl 6 (W.sv.map eSv)),.v (.int .i64 W.net.now),.v (.bool W.net.fifo),.v (.isl 4 (W.net.l.map eMs)),.v (.isl 1 (W.net.tm.map eI)),.v (.isl 2 (W.net.fates.map eFt)),.v (.int .i64 W.now),.v (.int .i64 W.sent),.v (.isl 3 (W.tr.map ePr))],.v (.isl 1 ([0,1,1].map eI))]) rfl (by simp[frz,Ja,eI]) ?_
 refine ZA.nxt (cR _ _) ?_
 simp (disch:=first|decide|omega) only[hA,b1,Yl,ZC,cellsOf,XZ,List.replicate_succ,List.replicate_zero,List.set_cons_zero,List.set_cons_succ,go_sem]
 refine ZA.frzB (i:=8) (ver:=0) (sz:=1) (rows:=[[.int .i64 0]]) (args':=[.v (.isl 1 [[.int .i64 0]]),.v (.isl 1 [[.int .i64 0]])]) rfl (by simp[frz,Ja]) ?_
 refine ZA.nxt (q0 _ _) ?_
 simp (disch:=first|decide|omega) only[hA,b1,ZC,cellsOf,XZ,go_sem]
 refine ZA.nxt (cD _ _) ?_
 simp (disch:=first|decide|omega) only[hA,b1,b4,b5,n3,t1,g1,ZC,cellsOf,XZ,List.length_map,List.replicate_succ,List.replicate_zero,List.set_cons_zero,List.set_cons_succ,go_sem]
 refine ZA.frzB (i:=9) (ver:=0) (sz:=1) (rows:=[[.int .i64 6]]) (args':=[.v (.isl 1 [[.int .i64 6]]),.v (.isl 1 [[.int .i64 6]])]) rfl (by simp[frz,Ja]) ?_
 refine ZA.nxt (q6 _ _) ?_
 simp (disch:=first|decide|omega) only[hA,b1,b4,b5,n3,t1,g1,ZC,cellsOf,XZ,go_sem]
 refine ZA.nxt (cC _ _) ?_
 simp (disch:=first|decide|omega) only[hA,b1,b2,b3,go_sem]
 exact ZB (xs:=[.v (.bool true)]) (.inr rfl) (by simp (disch:=first|decide|omega) only[ZE,ZY,go_sem,hA]) kO hR hB ⟨rfl,rfl,rfl⟩
def a_wClocks:AFunc:=⟨3,108,[.tmp 6],(.seq (.region [⟨some 3,.box (.t 0),none⟩,⟨some 6,.mv (.c (.v (.bool false))),none⟩]) (.seq (.seq (.region [⟨some 14,.call (.c (.fn 11 [])) [],none⟩,⟨some 15,.not (.t 14),none⟩]) (.cond (.t 15) (.seq (.region [⟨some 6,.mv (.c (.v (.bool false))),none⟩]) .ret) .skip)) (.seq (.region [⟨some 16,.mv (.t 1),none⟩,⟨some 17,.conv .i64 (.t 16),none⟩,⟨some 18,.bin .rem (.t 17) (.c (.v (.int .i64 1000000001))),none⟩,⟨some 19,.mv (.t 2),none⟩,⟨some 20,.conv .i64 (.t 19),none⟩,⟨some 21,.bin .rem (.t 20) (.c (.v (.int .i64 1000000001))),none⟩,⟨some 7,.mv (.t 18),none⟩,⟨some 8,.mv (.t 21),none⟩]) (.seq (.region [⟨some 22,.mv (.t 7),none⟩,⟨some 23,.mv (.t 8),none⟩,⟨some 24,.mm false (.t 22) (.t 23),none⟩,⟨some 25,.mv (.t 7),none⟩,⟨some 26,.mv (.t 8),none⟩,⟨some 27,.mm true (.t 25) (.t 26),none⟩,⟨some 7,.mv (.t 24),none⟩,⟨some 8,.mv (.t 27),none⟩]) (.seq (.region [⟨some 29,.load (some 6) (.t 3),none⟩,⟨some 30,.mv (.t 7),none⟩,⟨some 31,.call (.c (.fn 15 [])) [(.t 29),(.t 30)],none⟩,⟨some 28,.mv (.t 31),none⟩,⟨some 32,.extract 0 (.t 28),none⟩,⟨some 33,.extract 1 (.t 28),none⟩,⟨some 9,.mv (.t 32),none⟩,⟨some 10,.mv (.t 33),none⟩]) (.seq (.region [⟨some 35,.load (some 6) (.t 3),none⟩,⟨some 36,.mv (.t 8),none⟩,⟨some 37,.call (.c (.fn 15 [])) [(.t 35),(.t 36)],none⟩,⟨some 34,.mv (.t 37),none⟩,⟨some 38,.extract 0 (.t 34),none⟩,⟨some 39,.extract 1 (.t 34),none⟩,⟨some 11,.mv (.t 38),none⟩,⟨some 12,.mv (.t 39),none⟩]) (.seq (.seq (.region [⟨some 40,.mv (.t 10),none⟩,⟨some 41,.bin .neq (.t 40) (.c (.v (.int .i64 0))),none⟩,⟨some 42,.mv (.t 41),none⟩,⟨some 43,.mv (.t 12),some (42,false)⟩,⟨some 44,.bin .neq (.t 43) (.c (.v (.int .i64 0))),some (42,false)⟩,⟨some 45,.pick (.t 42) (.c (.v (.bool true))) (.t 44),none⟩]) (.cond (.t 45) (.seq (.region [⟨some 46,.mv (.t 10),none⟩,⟨some 47,.bin .eql (.t 46) (.c (.v (.int .i64 2))),none⟩,⟨some 48,.mv (.t 47),none⟩,⟨some 49,.mv (.t 12),some (48,true)⟩,⟨some 50,.bin .eql (.t 49) (.c (.v (.int .i64 2))),some (48,true)⟩,⟨some 51,.pick (.t 48) (.t 50) (.c (.v (.bool false))),none⟩,⟨some 52,.mv (.t 51),none⟩,⟨some 53,.mv (.t 9),some (52,true)⟩,⟨some 54,.bin .eql (.t 53) (.c (.v (.int .i64 0))),some (52,true)⟩,⟨some 55,.pick (.t 52) (.t 54) (.c (.v (.bool false))),none⟩,⟨some 56,.mv (.t 55),none⟩,⟨some 57,.mv (.t 11),some (56,true)⟩,⟨some 58,.bin .eql (.t 57) (.c (.v (.int .i64 0))),some (56,true)⟩,⟨some 59,.pick (.t 56) (.t 58) (.c (.v (.bool false))),none⟩,⟨some 60,.mv (.t 59),none⟩,⟨some 61,.faddr 4 (.t 3),some (60,true)⟩,⟨some 62,.load none (.t 61),some (60,true)⟩,⟨some 63,.bin .lss (.t 62) (.c (.v (.int .i64 0))),some (60,true)⟩,⟨some 64,.mv (.t 63),some (60,true)⟩,⟨some 65,.faddr 4 (.t 3),some (64,false)⟩,⟨some 66,.load none (.t 65),some (64,false)⟩,⟨some 67,.bin .gtr (.t 66) (.c (.v (.int .i64 1000000))),some (64,false)⟩,⟨some 68,.pick (.t 64) (.c (.v (.bool true))) (.t 67),some (60,true)⟩,⟨some 69,.mv (.t 68),some (60,true)⟩,⟨some 70,.faddr 5 (.t 3),some (69,false)⟩,⟨some 71,.load none (.t 70),some (69,false)⟩,⟨some 72,.bin .lss (.t 71) (.c (.v (.int .i64 500))),some (69,false)⟩,⟨some 73,.pick (.t 69) (.c (.v (.bool true))) (.t 72),some (60,true)⟩,⟨some 74,.mv (.t 73),some (60,true)⟩,⟨some 75,.faddr 5 (.t 3),some (74,false)⟩,⟨some 76,.load none (.t 75),some (74,false)⟩,⟨some 77,.bin .gtr (.t 76) (.c (.v (.int .i64 2000))),some (74,false)⟩,⟨some 78,.pick (.t 74) (.c (.v (.bool true))) (.t 77),some (60,true)⟩,⟨some 79,.pick (.t 60) (.t 78) (.c (.v (.bool false))),none⟩,⟨some 6,.mv (.t 79),none⟩]) .ret) .skip)) (.seq (.region [⟨some 80,.mv (.t 11),none⟩,⟨some 81,.mv (.t 9),none⟩,⟨some 82,.bin .sub (.t 80) (.t 81),none⟩,⟨some 83,.bin .mul (.c (.v (.int .i64 1000))) (.t 82),none⟩,⟨some 84,.faddr 5 (.t 3),none⟩,⟨some 85,.load none (.t 84),none⟩,⟨some 86,.mv (.t 8),none⟩,⟨some 87,.mv (.t 7),none⟩,⟨some 88,.bin .sub (.t 86) (.t 87),none⟩,⟨some 89,.bin .mul (.t 85) (.t 88),none⟩,⟨some 90,.bin .sub (.t 83) (.t 89),none⟩,⟨some 13,.mv (.t 90),none⟩]) (.seq (.region [⟨some 91,.mv (.t 9),none⟩,⟨some 92,.mv (.t 11),none⟩,⟨some 93,.bin .leq (.t 91) (.t 92),none⟩,⟨some 94,.mv (.t 93),none⟩,⟨some 95,.mv (.t 9),some (94,true)⟩,⟨some 96,.faddr 4 (.t 3),some (94,true)⟩,⟨some 97,.load none (.t 96),some (94,true)⟩,⟨some 98,.bin .geq (.t 95) (.t 97),some (94,true)⟩,⟨some 99,.pick (.t 94) (.t 98) (.c (.v (.bool false))),none⟩,⟨some 100,.mv (.t 99),none⟩,⟨some 101,.mv (.t 13),some (100,true)⟩,⟨some 102,.bin .gtr (.t 101) (.c (.v (.int .i64 (-1000)))),some (100,true)⟩,⟨some 103,.pick (.t 100) (.t 102) (.c (.v (.bool false))),none⟩,⟨some 104,.mv (.t 103),none⟩,⟨some 105,.mv (.t 13),some (104,true)⟩,⟨some 106,.bin .lss (.t 105) (.c (.v (.int .i64 1000))),some (104,true)⟩,⟨some 107,.pick (.t 104) (.t 106) (.c (.v (.bool false))),none⟩,⟨some 6,.mv (.t 107),none⟩]) .ret)))))))))⟩
theorem ZCs:Zq Tryz.prog 6=some a_wClocks:=by kernel_rfl

theorem rate_bad {s:Sv} (h:Vy s=false):(s.off<0∧True)∨(¬s.off<0∧s.off>1000000)∨(¬s.off<0∧¬s.off>1000000∧s.rate<500)∨(¬s.off<0∧¬s.off>1000000∧¬s.rate<500∧s.rate>2000):=by
 by_cases h1:s.off<0
 ·exact .inl ⟨h1,trivial⟩
 by_cases h2:s.off>1000000
 ·exact .inr (.inl ⟨h1,h2⟩)
 by_cases h3:s.rate<500
 ·exact .inr (.inr (.inl ⟨h1,h2,h3⟩))
 by_cases h4:s.rate>2000
 ·exact .inr (.inr (.inr ⟨h1,h2,h3,h4⟩))
 have:Vy s=true:=by
  unfold Vy inZ
  simp only[Bool.and_eq_true,decide_eq_true_eq]
  omega
 rw[this]at h;cases h
theorem Kp (hw:∀b l,ZA Tryz.prog 11 [] b l (fun r b' l'=>r=.v (.bool true)∧b'=b∧l'=l))
  (s:Sv) (n m:Nat) (hn:n<4294967296) (hm:m<4294967296) (b l:List Row) :
  ZA Tryz.prog 6 [.agg ((eSv s).map .v),.v (.int .u32 n),.v (.int .u32 m)] b l (fun r b' l'=>r=.v (.bool true)∧b'=b∧l'=l):=by
 refine ZD ZCs rfl (by decide) ?_
 intro B g hB hR hE hA;simp only[Zn]at hA
 have heS:(eSv s).map AV.v=[.v (.str s.name),.v (.isl 3 (s.code.map eIn)),.v (.int .i64 s.pc),.v (.isl 1 (s.vars.map eI)),.v (.int .i64 s.off),.v (.int .i64 s.rate)]:=rfl
 rw[heS]at hA
 simp (disch:=first|decide|omega) only[a_wClocks,hA,go_sem]
 refine ZA.nxt (hw _ _) ?_
 have w1:IntKind.i64.wrap ((n:Nat):Int)=(n:Int):=Z7 oM oM
 have w2:IntKind.i64.wrap ((m:Nat):Int)=(m:Int):=Z7 oM oM
 obtain⟨a,e1,ha0,ha1⟩:∃a:Int,Int.tmod (n:Int) 1000000001=a∧0≤a∧a≤1000000000:=⟨_,rfl,by
  rw[show Int.tmod (n:Int) 1000000001=((n % 1000000001:Nat):Int) from rfl];omega,by
  rw[show Int.tmod (n:Int) 1000000001=((n % 1000000001:Nat):Int) from rfl];omega⟩
 obtain⟨c,e2,hc0,hc1⟩:∃c:Int,Int.tmod (m:Int) 1000000001=c∧0≤c∧c≤1000000000:=⟨_,rfl,by
  rw[show Int.tmod (m:Int) 1000000001=((m % 1000000001:Nat):Int) from rfl];omega,by
  rw[show Int.tmod (m:Int) 1000000001=((m % 1000000001:Nat):Int) from rfl];omega⟩
 have n0:((1000000001:Int)=0)=False:=by decide
 have w3:IntKind.i64.wrap a=a:=Z7 oM oM
 have w4:IntKind.i64.wrap c=c:=Z7 oM oM
 obtain⟨u,v,hu,e3,e4,hu0,huv,hv1⟩:∃u v:Int,(if c<a then c else a)=u∧(if c<a then c else a)=u∧(if c>a then c else a)=v∧0≤u∧u≤v∧v≤1000000000:=⟨_,_,rfl,rfl,rfl,by split<;>omega,by split<;>split<;>omega,by split<;>omega⟩
 have e4':(if a<c then c else a)=v:=e4
 have iu:inZ u 0 1000000000=true:=by unfold inZ;simp;omega
 have iv:inZ v 0 1000000000=true:=by unfold inZ;simp;omega
 have cC:=fun now b l=>Vu (.str s.name) (.isl 3 (s.code.map eIn)) (.int .i64 s.pc) (.v (.isl 1 (s.vars.map eI))) s now b l (.inl ⟨_,rfl⟩)
 simp (disch:=first|decide|omega) only[hA,w1,w2,w3,w4,e1,e2,e3,e4,e4',n0,go_sem]
 cases hr:Vy s
 ·have ku:Jf s u=false:=by unfold Jf;rw[hr];rfl
  have kv:Jf s v=false:=by unfold Jf;rw[hr];rfl
  have vu:Uc s u=0:=by unfold Uc;rw[ku];rfl
  have vv:Uc s v=0:=by unfold Uc;rw[kv];rfl
  have cU:=cC u
  have cV:=cC v
  rw[ku,vu]at cU
  rw[kv,vv]at cV
  have n1:((2:Int) != 0)=true:=rfl
  have n2:((2:Int)==2)=true:=rfl
  have n3:((0:Int)==0)=true:=rfl
  rcases rate_bad hr with ⟨h,_⟩|⟨i1,h⟩|⟨i1,i2,h⟩|⟨i1,i2,i3,h⟩
  ·have d0:decide (s.off<0)=true:=decide_eq_true oM
   have e10:decide (0>s.off)=true:=d0
   refine ZA.nxt (cU _ _) ?_
   simp (disch:=first|decide|omega) only[hA,n1,n2,n3,d0,e10,go_sem]
   refine ZA.nxt (cV _ _) ?_
   simp (disch:=first|decide|omega) only[hA,n1,n2,n3,d0,e10,go_sem]
   exact ZB (xs:=[.v (.bool true)]) (.inr rfl) (by simp (disch:=first|decide|omega) only[ZE,ZY,go_sem,hA]) kO hR hB ⟨rfl,rfl,rfl⟩
  ·have d0:decide (s.off<0)=false:=decide_eq_false oM
   have e10:decide (0>s.off)=false:=d0
   have d1:decide (s.off>1000000)=true:=decide_eq_true oM
   have e11:decide (1000000<s.off)=true:=d1
   refine ZA.nxt (cU _ _) ?_
   simp (disch:=first|decide|omega) only[hA,n1,n2,n3,d0,e10,d1,e11,go_sem]
   refine ZA.nxt (cV _ _) ?_
   simp (disch:=first|decide|omega) only[hA,n1,n2,n3,d0,e10,d1,e11,go_sem]
   exact ZB (xs:=[.v (.bool true)]) (.inr rfl) (by simp (disch:=first|decide|omega) only[ZE,ZY,go_sem,hA]) kO hR hB ⟨rfl,rfl,rfl⟩
  ·have d0:decide (s.off<0)=false:=decide_eq_false oM
   have e10:decide (0>s.off)=false:=d0
   have d1:decide (s.off>1000000)=false:=decide_eq_false oM
   have e11:decide (1000000<s.off)=false:=d1
   have d2:decide (s.rate<500)=true:=decide_eq_true oM
   have e12:decide (500>s.rate)=true:=d2
   refine ZA.nxt (cU _ _) ?_
   simp (disch:=first|decide|omega) only[hA,n1,n2,n3,d0,e10,d1,e11,d2,e12,go_sem]
   refine ZA.nxt (cV _ _) ?_
   simp (disch:=first|decide|omega) only[hA,n1,n2,n3,d0,e10,d1,e11,d2,e12,go_sem]
   exact ZB (xs:=[.v (.bool true)]) (.inr rfl) (by simp (disch:=first|decide|omega) only[ZE,ZY,go_sem,hA]) kO hR hB ⟨rfl,rfl,rfl⟩
  ·have d0:decide (s.off<0)=false:=decide_eq_false oM
   have e10:decide (0>s.off)=false:=d0
   have d1:decide (s.off>1000000)=false:=decide_eq_false oM
   have e11:decide (1000000<s.off)=false:=d1
   have d2:decide (s.rate<500)=false:=decide_eq_false oM
   have e12:decide (500>s.rate)=false:=d2
   have d3:decide (s.rate>2000)=true:=decide_eq_true oM
   have e13:decide (2000<s.rate)=true:=d3
   refine ZA.nxt (cU _ _) ?_
   simp (disch:=first|decide|omega) only[hA,n1,n2,n3,d0,e10,d1,e11,d2,e12,d3,e13,go_sem]
   refine ZA.nxt (cV _ _) ?_
   simp (disch:=first|decide|omega) only[hA,n1,n2,n3,d0,e10,d1,e11,d2,e12,d3,e13,go_sem]
   exact ZB (xs:=[.v (.bool true)]) (.inr rfl) (by simp (disch:=first|decide|omega) only[ZE,ZY,go_sem,hA]) kO hR hB ⟨rfl,rfl,rfl⟩
 ·have ku:Jf s u=true:=by unfold Jf;rw[hr,iu];rfl
  have kv:Jf s v=true:=by unfold Jf;rw[hr,iv];rfl
  obtain⟨g1,g2,g3,g4,g5⟩:=ZEn ku
  obtain⟨_,_,_,f4,f5⟩:=ZEn kv
  have vu:Uc s u=s.off+u*s.rate / 1000:=by unfold Uc;rw[ku];rfl
  have vv:Uc s v=s.off+v*s.rate / 1000:=by unfold Uc;rw[kv];rfl
  have cU:=cC u
  have cV:=cC v
  rw[ku,vu]at cU
  rw[kv,vv]at cV
  have hPQ:u*s.rate≤v*s.rate:=Int.mul_le_mul_of_nonneg_right huv oM
  have hM:s.rate*(v-u)=v*s.rate-u*s.rate:=by rw[Int.mul_sub,Int.mul_comm s.rate v,Int.mul_comm s.rate u]
  obtain⟨P,hP⟩:∃P,u*s.rate=P:=⟨_,rfl⟩
  obtain⟨Q,hQ⟩:∃Q,v*s.rate=Q:=⟨_,rfl⟩
  rw[hP]at cU g4 g5 hPQ hM
  rw[hQ]at cV f4 f5 hPQ hM
  obtain⟨X,hX⟩:∃X,s.off+P / 1000=X:=⟨_,rfl⟩
  obtain⟨Y,hY⟩:∃Y,s.off+Q / 1000=Y:=⟨_,rfl⟩
  rw[hX]at cU
  rw[hY]at cV
  have n1:((0:Int) != 0)=false:=rfl
  have q1:IntKind.i64.wrap (Y-X)=Y-X:=Z7 oM oM
  have q2:IntKind.i64.wrap (1000*(Y-X))=1000*(Y-X):=Z7 oM oM
  have q3:IntKind.i64.wrap (v-u)=v-u:=Z7 oM oM
  have q4:IntKind.i64.wrap (s.rate*(v-u))=Q-P:=by rw[hM];exact Z7 oM oM
  have q5:IntKind.i64.wrap (1000*(Y-X)-(Q-P))=1000*(Y-X)-(Q-P):=Z7 oM oM
  have r1:decide (X≤Y)=true:=decide_eq_true oM
  have r2:decide (X≥s.off)=true:=decide_eq_true oM
  have r5:decide (s.off≤X)=true:=r2
  have r3:decide (1000*(Y-X)-(Q-P)>-1000)=true:=decide_eq_true oM
  have r6:decide (-1000<1000*(Y-X)-(Q-P))=true:=r3
  have r4:decide (1000*(Y-X)-(Q-P)<1000)=true:=decide_eq_true oM
  refine ZA.nxt (cU _ _) ?_
  simp (disch:=first|decide|omega) only[hA,n1,go_sem]
  refine ZA.nxt (cV _ _) ?_
  simp (disch:=first|decide|omega) only[hA,n1,q1,q2,q3,q4,q5,r1,r2,r3,r4,r5,r6,go_sem]
  exact ZB (xs:=[.v (.bool true)]) (.inr rfl) (by simp (disch:=first|decide|omega) only[ZE,ZY,go_sem,hA]) kO hR hB ⟨rfl,rfl,rfl⟩
end Go.Proofs.YtoccdlnoaindmaaGreatDoor
namespace Go.Proofs.YtoccdlnoaindmaaGreatDoor
theorem K0 (s:Sv) (n m:Int) (hn:0≤n∧n<4294967296) (hm:0≤m∧m<4294967296) (b l:List Row) :
  ZA Tryz.prog 6 [.agg ((eSv s).map .v),.v (.int .u32 n),.v (.int .u32 m)] b l (fun r b' l'=>r=.v (.bool true)∧b'=b∧l'=l):=by
 obtain⟨i,rfl⟩:∃i:Nat,n=i:=⟨n.toNat,by omega⟩
 obtain⟨j,rfl⟩:∃j:Nat,m=j:=⟨m.toNat,by omega⟩
 exact Kp ZCk s i j oM oM b l
end Go.Proofs.YtoccdlnoaindmaaGreatDoor
namespace Go.Proofs.YtoccdlnoaindmaaGreatDoor
open Go.RowKit Go.ChangeShapes Go.WideShapes Go.Deep
set_option linter.unusedVariables false

def RIs (w:World) (F:Nat→Prop) (row:List IV) (cs:List Value):Prop:=row.length=cs.length∧∀(j:Nat) (a:IV) (v:Value),row[j]? = some a→cs[j]? = some v→RepI w F a v
theorem RIs.nil {w:World} {F:Nat→Prop}:RIs w F [] []:=⟨rfl,fun j a v h=>by simp at h⟩
theorem RIs.one {w:World} {F:Nat→Prop} {a:IV} {v:Value} (h:RepI w F a v):RIs w F [a] [v]:=by
 refine⟨rfl,fun j x u hx hu=>?_⟩
 cases j with
 |zero=>simp at hx hu;subst hx;subst hu;exact h
 |succ j=>simp at hx
theorem RIs.append {w:World} {F:Nat→Prop} {r s:List IV} {cs ds:List Value} (h:RIs w F r cs) (k:RIs w F s ds):RIs w F (r++s) (cs++ds):=by
 refine⟨by simp[h.1,k.1],fun j a v ha hv=>?_⟩
 by_cases hj:j<r.length
 ·rw[List.getElem?_append_left hj]at ha
  rw[List.getElem?_append_left (by rw[←h.1];exact hj)]at hv
  exact h.2 j a v ha hv
 ·rw[List.getElem?_append_right oM]at ha
  rw[List.getElem?_append_right (by rw[←h.1];omega),←h.1]at hv
  exact k.2 _ a v ha hv
theorem RIs.repL {w:World} {F:Nat→Prop} {L:LMap} {r:List IV} {cs:List Value} (h:RIs w F r cs):QL w F L (r.map .v) cs:=by
 refine⟨by simpa using h.1,fun j x v hx hv=>?_⟩
 rw[List.getElem?_map]at hx
 cases hq:r[j]? with
 |none=>simp[hq]at hx
 |some y=>simp[hq]at hx;subst hx;exact .v _ _ (h.2 j y v hq hv)

def Low (w:World):Nat→Prop:=fun b=>b<w.heap.size

def TR {α:Type} (P:Program) (t:TypeId) (n:Nat) (enc:α→List IV) (good:α→Prop):Prop:=
 ∀(H:Type) (en:TypeId×Value→H) (w:World) (base:Nat) (spare:Nat→Bool) (held:Bool) (fuel:Nat) (cs:List Value) (x:DataW H×List MemPlace),cs.length=n→DataW.trod en P w base spare held fuel t cs=some x →
  ∃y,good y∧RIs w (Low w) (enc y) cs

section
variable {P:Program} {α β:Type}
theorem TR.map {t:TypeId} {n:Nat} {enc:α→List IV} {good:α→Prop} (h:TR P t n enc good) {enc':β→List IV} {good':β→Prop} (f:α→β) (he:∀y,enc' (f y)=enc y) (hg:∀y,good y→good' (f y)):TR P t n enc' good':=by
 intro H en w base spare held fuel cs x hl hx
 obtain⟨y,g,r⟩:=h H en w base spare held fuel cs x hl hx
 exact⟨f y,hg y g,by rw[he];exact r⟩
theorem ZKh {t:TypeId} {k:IntKind} (ht:P.underlying t=some (.int k)):TR P t 1 (fun n:Int=>[.int k n]) (fun n=>(Lit.int k n).wf=true):=by
 intro H en w base spare held fuel cs x hl hx
 obtain⟨n,rfl,_,hw⟩:=DataW.trod_int ht hx
 exact⟨n,hw,RIs.one (.int _ _)⟩
theorem ZGd {t:TypeId} (ht:P.underlying t=some .string):TR P t 1 (fun s:ByteArray=>[.str s]) (fun s=>s.size≤maxLen):=by
 intro H en w base spare held fuel cs x hl hx
 obtain⟨n,rfl,_,hm⟩:=DataW.trod_string ht hx
 exact⟨n,hm,RIs.one (.str _)⟩
theorem ZEJ {t e:TypeId} {n:Nat} {enc:α→List IV} {good:α→Prop} (h:TR P e n enc good) (ht:P.underlying t=some (.slice e)) (hC:P.cellsOf e=n) (h0:0<n) :
  TR P t 1 (fun ys:List α=>[.isl n (ys.map enc)]) (fun ys=>ys.length≤maxLen∧∀y∈ys,good y):=by
 intro H en w base spare held fuel cs x hl hx
 rcases open_slice ht hx with ⟨hv,_⟩|⟨a,len,cap,m,f,D,Pl,hv,hb,hll,hm,hmm,_,hel⟩
 ·subst hv
  exact⟨[],⟨by simp[maxLen],fun y hy=>by simp at hy⟩,RIs.one (.isl0 _ _ _ (by simp[maxLen]))⟩
 ·subst hv
  have hle:len≤m:=by rw[hmm];split<;>omega
  have key:∀i,i<len→∃y,(good y∧∃b off,a=⟨b,off,none⟩∧(enc y).length=n∧∀(j:Nat) (c:IV),(enc y)[j]? = some c→∃v,w.cell? ⟨b,off+i*n+j,none⟩=some v∧RepI w (Low w) c v):=by
   intro i hi
   obtain⟨cs',hc,ht'⟩:=hel i oM
   rw[hC]at hc
   obtain⟨_,hcl,hat⟩:=World.cells?_some hc
   obtain⟨cs0,hc0,_⟩:=hel 0 oM
   rw[hC]at hc0
   obtain⟨_,hcl0,hat0⟩:=World.cells?_some hc0
   have h00:=hat0 0 h0
   have e00:(a.add (0*n)).add 0=a:=by simp[Addr.add]
   rw[e00,List.getElem?_eq_getElem (show 0<cs0.length by omega)]at h00
   have hsp:=ZGl h00
   obtain⟨b,off,sp⟩:=a
   simp only at hsp
   subst hsp
   obtain⟨y,hg,hy⟩:=h H en w base spare held f cs' (D i,Pl i) hcl ht'
   refine⟨y,hg,b,off,rfl,by rw[hy.1,hcl],fun j c hj=>?_⟩
   have hjl:j<cs'.length:=by rw[←hy.1];exact (List.getElem?_eq_some_iff.1 hj).1
   have:=hat j oM
   have e1:((⟨b,off,none⟩:Addr).add (i*n)).add j=⟨b,off+i*n+j,none⟩:=by
    unfold Addr.add
    by_cases h1:i*n=0<;>by_cases h2:j=0<;>simp[h1,h2]
   rw[e1,List.getElem?_eq_getElem hjl]at this
   exact⟨_,this,hy.2 j c _ hj (List.getElem?_eq_getElem hjl)⟩
  obtain⟨xs,hxl,hxs⟩:=ZHp len key
  subst hxl
  refine⟨xs,⟨by omega,fun y hy=>?_⟩,RIs.one ?_⟩
  ·obtain⟨i,hi⟩:=List.mem_iff_getElem?.1 hy
   exact (hxs i y hi).1
  ·by_cases hpos:0<xs.length
   ·obtain⟨_,b,off,ha,_⟩:=hxs 0 xs[0] (List.getElem?_eq_getElem hpos)
    subst ha
    have hfacts:∀(k:Nat) (row:List IV),(xs.map enc)[k]? = some row→row.length=n∧∀(j:Nat) (c:IV),row[j]? = some c→∃v,w.cell? ⟨b,off+k*n+j,none⟩=some v∧RepI w (Low w) c v:=by
     intro k row hk
     rw[List.getElem?_map]at hk
     cases hq:xs[k]? with
     |none=>rw[hq]at hk;cases hk
     |some y =>
       rw[hq]at hk;cases hk
       obtain⟨_,b',off',hh,h1,h2⟩:=hxs k y hq
       injection hh with g1 g2
       subst g1;subst g2
       exact⟨h1,h2⟩
    have hlow:Low w b:=by
     obtain⟨r1,r2⟩:=hfacts 0 (enc xs[0]) (by rw[List.getElem?_map,List.getElem?_eq_getElem hpos];rfl)
     obtain⟨v,hv,_⟩:=r2 0 (enc xs[0])[0] (List.getElem?_eq_getElem oM)
     exact Zl hv
    have:=RepI.isl (w:=w) (F:=Low w) (xs.map enc) b off n cap (fun k j=>(w.cell? ⟨b,off+k*n+j,none⟩).getD undef) hlow (by simpa using hll) hm (fun k row hk=>(hfacts k row hk).1)
     (fun k row j c hk hj=>by
      obtain⟨v,hv,_⟩:=(hfacts k row hk).2 j c hj
      rw[hv];rfl)
     (fun k row j c hk hj=>by
      obtain⟨v,hv,hr⟩:=(hfacts k row hk).2 j c hj
      rw[hv];exact hr)
    rw[List.length_map]at this
    exact this
   ·have:xs=[]:=List.eq_nil_of_length_eq_zero oM
    subst this
    exact .isl0 _ _ _ hm

def TRF (P:Program) (fs:List Field) (o n:Nat) (enc:α→List IV) (good:α→Prop):Prop:=
 ∀(H:Type) (en:TypeId×Value→H) (w:World) (base:Nat) (spare:Nat→Bool) (held:Bool) (fuel:Nat) (cs:List Value),cs.length=o+n→(∀f∈fs,∃x,DataW.trod en P w base spare held fuel f.type ((cs.drop f.offset).take (P.cellsOf f.type))=some x) →
  ∃y,good y∧RIs w (Low w) (enc y) (cs.drop o)
theorem ZGc {o:Nat}:TRF P [] o 0 (fun _:Unit=>[]) (fun _=>True):=by
 intro H en w base spare held fuel cs hl _
 refine⟨(),trivial,?_⟩
 rw[List.drop_eq_nil_of_le oM]
 exact RIs.nil
theorem Yq {f:Field} {fs:List Field} {o n m:Nat} {enc:α→List IV} {good:α→Prop} {enc':β→List IV} {good':β→Prop} (h:TR P f.type n enc good) (hC:P.cellsOf f.type=n) (ho:f.offset=o) (k:TRF P fs (o+n) m enc' good') :
  TRF P (f::fs) o (n+m) (fun y:α×β=>enc y.1++enc' y.2) (fun y=>good y.1∧good' y.2):=by
 intro H en w base spare held fuel cs hl hfs
 obtain⟨x,hx⟩:=hfs f (by simp)
 rw[ho,hC]at hx
 obtain⟨y,hg,hy⟩:=h H en w base spare held fuel _ x (by simp;omega) hx
 obtain⟨z,hg',hz⟩:=k H en w base spare held fuel cs oM (fun f hf=>hfs f (by simp[hf]))
 refine⟨(y,z),⟨hg,hg'⟩,?_⟩
 have:cs.drop o=(cs.drop o).take n++cs.drop (o+n):=by rw[←List.drop_drop,List.take_append_drop]
 rw[this]
 exact hy.append hz
theorem ZCG {t:TypeId} {fs:Array Field} {n:Nat} {enc:α→List IV} {good:α→Prop} (ht:P.underlying t=some (.struct fs)) (h:TRF P fs.toList 0 n enc good):TR P t n enc good:=by
 intro H en w base spare held fuel cs x hl hx
 obtain⟨xs,m,_,_,_,hlen,hf⟩:=DataW.trod_struct ht hx
 obtain⟨y,hg,hy⟩:=h H en w base spare held m cs oM (fun f hm=>by
  obtain⟨i,hi⟩:=List.mem_iff_getElem?.1 hm
  have hi':fs[i]? = some f:=by simpa using hi
  have hlt:i<xs.length:=by rw[hlen];exact (Array.getElem?_eq_some_iff.1 hi').1
  exact⟨_,(hf i f hi').trans (List.getElem?_eq_getElem hlt)⟩)
 exact⟨y,hg,by simpa using hy⟩
theorem TR.one {t:TypeId} {enc:α→IV} {good:α→Prop} (h:TR P t 1 (fun y=>[enc y]) good) {H:Type} {en:TypeId×Value→H} {w:World} {v:Value} {d:DataW H} {p:List MemPlace} {base:Nat} {spare:Nat→Bool} {held:Bool}
  (hv:v.cells=#[v]) (hT:DataW.Trod en P w base spare held t v d p):∃y,good y∧RepI w (Low w) (enc y) v:=by
 obtain⟨fuel,hf⟩:=hT
 rw[hv]at hf
 obtain⟨y,hg,hy⟩:=h H en w base spare held fuel [v] (d,p) rfl hf
 exact⟨y,hg,hy.2 0 _ _ rfl rfl⟩
theorem TR.agg {t:TypeId} {n:Nat} {enc:α→List IV} {good:α→Prop} (h:TR P t n enc good) {fs:Array Field} (hs:P.underlying t=some (.struct fs)) (hC:P.cellsOf t=n) {H:Type} {en:TypeId×Value→H} {w:World} {v:Value} {d:DataW H} {p:List MemPlace} {base b0:Nat} {r:Reach} {spare:Nat→Bool} {held:Bool}
  (hv:Value.okWide P w r b0 t v) (hT:DataW.Trod en P w base spare held t v d p):∃y,good y∧RepA w (Low w) (fun _ _=>none) (.agg ((enc y).map .v)) v:=by
 obtain⟨cs,rfl,hsz⟩:=okWide_struct hs hv
 obtain⟨fuel,hf⟩:=hT
 obtain⟨y,hg,hy⟩:=h H en w base spare held fuel _ (d,p) (by simpa [Value.cells] using hsz.trans hC) hf
 exact⟨y,hg,QL.agg hy.repL⟩
end
end Go.Proofs.YtoccdlnoaindmaaGreatDoor
namespace Go.Proofs.YtoccdlnoaindmaaGreatDoor
open Go.RowKit
set_option linter.unusedVariables false
theorem ZDM:TR Tryz.prog 3 1 (fun n:Int=>[.int .i64 n]) (fun n=>(Lit.int .i64 n).wf=true):=ZKh Tryz.underlying3
theorem ZJT:TR Tryz.prog 24 1 (fun c:List Int=>[.isl 1 (c.map eI)]) (fun c=>c.length≤maxLen):=(ZEJ ZDM Tryz.underlying24 (by kernel_rfl) (by decide)).map id (fun _=>rfl) (fun _ h=>h.1)
theorem ZGb:TR Tryz.prog 64 1 (fun n:Int=>[.int .u32 n]) (fun n=>(Lit.int .u32 n).wf=true):=ZKh Tryz.underlying64
theorem ZKe {n:Int} (h:(Lit.int .u32 n).wf=true):0≤n∧n<4294967296:=by
 have h1:(decide (IntKind.min .u32≤n)&&decide (n≤IntKind.max .u32))=true:=h
 rw[show IntKind.min .u32=0 from rfl,show IntKind.max .u32=4294967295 from by decide]at h1
 simp at h1
 omega
end Go.Proofs.YtoccdlnoaindmaaGreatDoor
namespace Go.Proofs.YtoccdlnoaindmaaGreatDoor
open Go.RowKit
set_option linter.unusedVariables false
def OkPr (p:Pr):Prop:=(p.name.size≤maxLen∧∀v∈p.vars,v.name.size≤maxLen)∧p.vars.length≤maxLen∧p.evs.length≤maxLen
def OkTr (t:Tr):Prop:=t.length≤maxLen∧∀p∈t,OkPr p
theorem OkTr.nm {t:Tr} (h:OkTr t):Nm t:=fun p hp=>(h.2 p hp).1
theorem ZC0:maxLen=9223372036854775807:=by decide
end Go.Proofs.YtoccdlnoaindmaaGreatDoor
namespace Go.Proofs.YtoccdlnoaindmaaGreatDoor
open Go.RowKit
set_option linter.unusedVariables false
theorem trx_s:TR Tryz.prog 9 1 (fun s:ByteArray=>[.str s]) (fun s=>s.size≤maxLen):=ZGd Tryz.underlying9
theorem ZM7:TR Tryz.prog 61 3 eIn (fun _=>True):=
 (ZCG Tryz.underlying61 (Yq ZDM (by kernel_rfl) rfl (Yq ZDM (by kernel_rfl) rfl (Yq ZDM (by kernel_rfl) rfl ZGc)))).map (fun y=>⟨y.1,y.2.1,y.2.2.1⟩) (fun _=>rfl) (fun _ _=>trivial)
theorem ZLG:TR Tryz.prog 28 1 (fun l:List In=>[.isl 3 (l.map eIn)]) (fun l=>l.length≤maxLen):=
 (ZEJ ZM7 Tryz.underlying28 (by kernel_rfl) (by decide)).map id (fun _=>rfl) (fun _ h=>h.1)
def OkSv (s:Sv):Prop:=s.name.size≤maxLen∧s.code.length≤maxLen∧s.vars.length≤maxLen
theorem tr_sv:TR Tryz.prog 30 6 eSv OkSv:=
 (ZCG Tryz.underlying30 (Yq trx_s (by kernel_rfl) rfl (Yq ZLG (by kernel_rfl) rfl (Yq ZDM (by kernel_rfl) rfl (Yq ZJT (by kernel_rfl) rfl (Yq ZDM (by kernel_rfl) rfl (Yq ZDM (by kernel_rfl) rfl ZGc))))))).map
  (fun y=>⟨y.1,y.2.1,y.2.2.1,y.2.2.2.1,y.2.2.2.2.1,y.2.2.2.2.2.1⟩) (fun _=>rfl) (fun _ h=>⟨h.1,h.2.1,h.2.2.2.1⟩)
def ZM2 (w:Wd):Prop:=((w.sv.length≤maxLen∧∀s∈w.sv,OkSv s)∧(w.net.l.length≤maxLen∧w.net.tm.length≤maxLen∧w.net.fates.length≤maxLen))∧OkTr w.tr
theorem ZM2.nm {w:Wd} (h:ZM2 w):Nm w.tr:=h.2.nm
theorem ZM2.tl {w:Wd} (h:ZM2 w):w.tr.length≤9223372036854775807:=by have:=h.2.1;rwa [ZC0]at this
theorem ZM2.ev {w:Wd} (h:ZM2 w):∀x∈w.tr,x.evs.length≤9223372036854775807:=fun x hx=>by have:=(h.2.2 x hx).2.2;rwa [ZC0]at this
end Go.Proofs.YtoccdlnoaindmaaGreatDoor
