/- Texts of one proof, laid together: NE, NF, NH, B1, WV, PB, WL, PF, WJ, WK, WY, B2, B3, B5, DP, B6, B9, BA, CQ, BB, B7, HA, OD, VS, BC, B0, BD. No condition. -/
import Derived.Test.YtoccdlnoaindmaaGreatDoorWC5
import Derived.Test.YtoccdlnoaindmaaGreatDoorWC3
import Derived.Test.YtoccdlnoaindmaaGreatDoorWC4
import Derived.Test.YtoccdlnoaindmaaGreatDoorWC2
import Derived.KernelRfl
import Derived.Test.YtoccdlnoaindmaaGreatDoorProg
import Derived.WalkKit
set_option maxHeartbeats 8000000
set_option maxRecDepth 100000
namespace Go.Proofs.YtoccdlnoaindmaaGreatDoor
set_option linter.unusedVariables false
set_option linter.unusedSimpArgs false
attribute [local go_sem ↓] Zz Z0 QB QD Q8 Zg QA Q9 QC Qk ZM Zf Zy ZL Ze Zx ZS Zk QJ Z1 ZN QE Zh Zi Z4 Zj Z5 Zt Zd Qa QF Qc Qd XQ Qj XR XS Q6 Qo
attribute [local go_sem] Z2 ZO XT Z6 ZR XP Qh Qf Qe KT KU Qi QG QH QI Q7 ZI Zv ZQ Zu ZP Z3 aop YC XG XB Q2 XC QU XD Uh Y4 YZ amm YK QT Zp YQ XA Y0 comma Qx Y3 Ug Y2 Y1 UL YO YM XJ UK eqC eqF Jg cellsOf ZC Xm Xg YN Vx rd rdI Xs mk Qr AV.cell List.all_cons List.all_nil Bool.and_true Bool.true_and Bool.and_self List.length_cons List.length_nil List.length_append Nat.reduceAdd Nat.reduceSub Nat.reduceMul Nat.zero_add Nat.add_zero List.cons_append List.nil_append List.append_assoc List.append_nil List.getElem?_cons_zero List.getElem?_cons_succ List.getElem?_nil List.set_cons_zero List.set_cons_succ List.drop_zero List.drop_succ_cons List.take_zero List.take_succ_cons List.take_nil List.drop_nil List.map_cons List.map_nil Option.map_some if_true if_false Bool.false_eq_true and_self true_and and_true Nat.reduceLeDiff Nat.reduceLT Nat.le_refl Nat.reduceEqDiff ite_true ite_false beq_self_eq_true beq_true beq_false Bool.not_true Bool.not_false Bool.true_beq Bool.false_beq Xl Q4 Zr Qt Qw QZ QY QX QW Qv Qu Xi Z7 ZAR Ke ZAS ZAP JJ JH JK JI geI gtI JM decide_true decide_false room List.getElem?_map List.length_map List.length_take Int.toNat_natCast Nat.min_def Nat.min_self XU XM Xk QR Xb VC Zn List.getElem_cons_zero List.getElem_cons_succ
def a_nSend:AFunc:=⟨2,115,[.cell 4 (some 5),.tmp 5],(.seq (.region [⟨some 2,.box (.t 0),none⟩,⟨some 3,.box (.t 1),none⟩,⟨some 4,.alloc [(.v (.int .i64 0)),(.v (.bool false)),(.v .zsl),(.v .zsl),(.v .zsl)],none⟩,⟨some 5,.mv (.c (.v (.int .i64 0))),none⟩]) (.seq (.seq (.region [⟨some 12,.load (some 5) (.t 2),none⟩,⟨some 13,.call (.c (.fn 56 [])) [(.t 12)],none⟩,⟨some 14,.not (.t 13),none⟩,⟨some 15,.mv (.t 14),none⟩,⟨some 16,.load (some 4) (.t 3),some (15,false)⟩,⟨some 17,.call (.c (.fn 115 [])) [(.t 16)],some (15,false)⟩,⟨some 18,.not (.t 17),some (15,false)⟩,⟨some 19,.pick (.t 15) (.c (.v (.bool true))) (.t 18),none⟩]) (.cond (.t 19) (.seq (.region [⟨some 20,.build [(.v (.int .i64 0)),(.v (.bool false)),(.v .zsl),(.v .zsl),(.v .zsl)] [],none⟩,⟨none,.store 5 (.t 4) (.t 20),none⟩,⟨some 5,.mv (.c (.v (.int .i64 1))),none⟩]) .ret) .skip)) (.seq (.region [⟨some 21,.load (some 5) (.t 2),none⟩,⟨some 22,.call (.c (.fn 130 [])) [(.t 21)],none⟩,⟨none,.store 5 (.t 2) (.t 22),none⟩]) (.seq (.region [⟨some 23,.build [(.v (.int .i64 0)),(.v (.int .i64 0))] [(0,1,(.c (.v (.int .i64 1))))],none⟩,⟨some 6,.alloc [(.v (.int .i64 0)),(.v (.int .i64 0))],none⟩,⟨none,.store 2 (.t 6) (.t 23),none⟩]) (.seq (.seq (.region [⟨some 24,.faddr 4 (.t 2),none⟩,⟨some 25,.load none (.t 24),none⟩,⟨some 26,.len (.t 25),none⟩,⟨some 27,.bin .gtr (.t 26) (.c (.v (.int .i64 0))),none⟩]) (.cond (.t 27) (.draw [⟨0,⟨some 28,.faddr 4 (.t 2),none⟩,[]⟩,⟨1,⟨some 29,.load none (.t 28),none⟩,[]⟩,⟨2,⟨some 30,.iaddr 2 (.t 29) (.c (.v (.int .i64 0))),none⟩,[]⟩,⟨3,⟨some 31,.load (some 2) (.t 30),none⟩,[]⟩,⟨4,⟨some 32,.faddr 4 (.t 2),none⟩,[]⟩,⟨5,⟨some 33,.load none (.t 32),none⟩,[]⟩,⟨6,⟨some 34,.slice 2 (.t 33) (some (.c (.v (.int .i64 1)))) none,none⟩,[]⟩,⟨7,⟨none,.store 2 (.t 6) (.t 31),none⟩,[⟨some 32,.faddr 4 (.t 2),none⟩,⟨some 33,.load none (.t 32),none⟩,⟨some 34,.slice 2 (.t 33) (some (.c (.v (.int .i64 1)))) none,none⟩]⟩,⟨8,⟨some 35,.faddr 4 (.t 2),none⟩,[]⟩,⟨9,⟨none,.store 1 (.t 35) (.t 34),none⟩,[]⟩]) .skip)) (.seq (.region [⟨some 36,.faddr 0 (.t 2),none⟩,⟨some 37,.load none (.t 36),none⟩,⟨some 38,.faddr 1 (.t 6),none⟩,⟨some 39,.load none (.t 38),none⟩,⟨some 40,.bin .add (.t 37) (.t 39),none⟩,⟨some 7,.mv (.t 40),none⟩]) (.seq (.seq (.region [⟨some 41,.faddr 2 (.t 2),none⟩,⟨some 42,.load none (.t 41),none⟩,⟨some 43,.len (.t 42),none⟩,⟨some 44,.mv (.c (.v (.int .i64 0))),none⟩]) (.block 0 (.loop (.seq (.region [⟨some 45,.bin .lss (.t 44) (.t 43),none⟩]) (.seq (.cond (.t 45) .skip (.exit 0)) (.seq (.block 1 (.seq (.region [⟨some 46,.mv (.t 44),none⟩,⟨some 47,.iaddr 4 (.t 42) (.t 44),none⟩,⟨some 48,.load (some 4) (.t 47),none⟩,⟨some 9,.alloc [(.v (.int .i64 0)),(.v (.int .i64 0)),(.v (.int .i64 0)),(.v .zsl)],none⟩,⟨some 8,.mv (.t 46),none⟩,⟨none,.store 4 (.t 9) (.t 48),none⟩]) (.seq (.region [⟨some 49,.faddr 1 (.t 2),none⟩,⟨some 50,.load none (.t 49),none⟩,⟨some 51,.mv (.t 50),none⟩,⟨some 52,.faddr 0 (.t 9),some (51,true)⟩,⟨some 53,.load none (.t 52),some (51,true)⟩,⟨some 54,.faddr 0 (.t 3),some (51,true)⟩,⟨some 55,.load none (.t 54),some (51,true)⟩,⟨some 56,.bin .eql (.t 53) (.t 55),some (51,true)⟩,⟨some 57,.pick (.t 51) (.t 56) (.c (.v (.bool false))),none⟩,⟨some 58,.mv (.t 57),none⟩,⟨some 59,.faddr 1 (.t 9),some (58,true)⟩,⟨some 60,.load none (.t 59),some (58,true)⟩,⟨some 61,.faddr 1 (.t 3),some (58,true)⟩,⟨some 62,.load none (.t 61),some (58,true)⟩,⟨some 63,.bin .eql (.t 60) (.t 62),some (58,true)⟩,⟨some 64,.pick (.t 58) (.t 63) (.c (.v (.bool false))),none⟩]) (.cond (.t 64) (.region [⟨some 65,.mv (.t 7),none⟩,⟨some 66,.faddr 3 (.t 2),none⟩,⟨some 67,.load none (.t 66),none⟩,⟨some 68,.mv (.t 8),none⟩,⟨some 69,.iaddr 1 (.t 67) (.t 68),none⟩,⟨some 70,.load none (.t 69),none⟩,⟨some 71,.mm true (.t 65) (.t 70),none⟩,⟨some 7,.mv (.t 71),none⟩]) .skip)))) (.region [⟨some 72,.bin .add (.t 44) (.c (.v (.int .i64 1))),none⟩,⟨some 44,.mv (.t 72),none⟩]))))))) (.seq (.block 2 (.seq (.region [⟨some 74,.mv (.t 7),none⟩,⟨some 75,.bin .gtr (.t 74) (.c (.v (.int .i64 1099512627776))),none⟩,⟨some 73,.mv (.t 75),none⟩]) (.cond (.t 73) (.seq (.region [⟨some 76,.build [(.v (.int .i64 0)),(.v (.bool false)),(.v .zsl),(.v .zsl),(.v .zsl)] [],none⟩,⟨none,.store 5 (.t 4) (.t 76),none⟩,⟨some 5,.mv (.c (.v (.int .i64 9))),none⟩]) .ret) (.seq (.region [⟨some 78,.faddr 2 (.t 2),none⟩,⟨some 79,.load none (.t 78),none⟩,⟨some 80,.len (.t 79),none⟩,⟨some 81,.faddr 0 (.t 6),none⟩,⟨some 82,.load none (.t 81),none⟩,⟨some 83,.bin .add (.t 80) (.t 82),none⟩,⟨some 84,.bin .gtr (.t 83) (.c (.v (.int .i64 1000))),none⟩,⟨some 77,.mv (.t 84),none⟩]) (.cond (.t 77) (.seq (.region [⟨some 85,.build [(.v (.int .i64 0)),(.v (.bool false)),(.v .zsl),(.v .zsl),(.v .zsl)] [],none⟩,⟨none,.store 5 (.t 4) (.t 85),none⟩,⟨some 5,.mv (.c (.v (.int .i64 5))),none⟩]) .ret) .skip))))) (.seq (.region [⟨some 87,.faddr 3 (.t 2),none⟩,⟨some 88,.load none (.t 87),none⟩,⟨some 89,.mv (.t 7),none⟩,⟨some 90,.bin .add (.t 89) (.c (.v (.int .i64 1))),none⟩,⟨some 91,.call (.c (.fn 185 [])) [(.t 88),(.t 90),(.c (.fn 186 []))],none⟩,⟨some 86,.mv (.t 91),none⟩,⟨some 92,.extract 0 (.t 86),none⟩,⟨some 93,.extract 1 (.t 86),none⟩,⟨some 10,.mv (.t 92),none⟩,⟨some 11,.mv (.t 93),none⟩]) (.seq (.seq (.region [⟨some 94,.faddr 0 (.t 6),none⟩,⟨some 95,.load none (.t 94),none⟩,⟨some 96,.mv (.c (.v (.int .i64 0))),none⟩]) (.block 3 (.loop (.seq (.region [⟨some 97,.bin .lss (.t 96) (.t 95),none⟩]) (.seq (.cond (.t 97) .skip (.exit 3)) (.seq (.block 4 (.seq (.draw [⟨0,⟨some 98,.faddr 2 (.t 2),none⟩,[]⟩,⟨1,⟨some 99,.load none (.t 98),none⟩,[]⟩,⟨2,⟨some 100,.mv (.t 10),none⟩,[]⟩,⟨3,⟨some 101,.load (some 4) (.t 3),none⟩,[]⟩,⟨4,⟨some 102,.call (.c (.fn 162 [])) [(.t 101)],none⟩,[⟨some 98,.faddr 2 (.t 2),none⟩,⟨some 99,.load none (.t 98),none⟩,⟨some 100,.mv (.t 10),none⟩]⟩,⟨5,⟨some 103,.bslice 4 [(.v (.int .i64 0)),(.v (.int .i64 0)),(.v (.int .i64 0)),(.v .zsl)] 1 [(0,(.t 102))],none⟩,[⟨some 98,.faddr 2 (.t 2),none⟩,⟨some 99,.load none (.t 98),none⟩,⟨some 100,.mv (.t 10),none⟩]⟩,⟨6,⟨some 104,.call (.c (.fn 187 [])) [(.t 99),(.t 100),(.t 103)],none⟩,[]⟩,⟨7,⟨some 105,.faddr 2 (.t 2),none⟩,[]⟩,⟨8,⟨none,.store 1 (.t 105) (.t 104),none⟩,[]⟩]) (.region [⟨some 106,.faddr 3 (.t 2),none⟩,⟨some 107,.load none (.t 106),none⟩,⟨some 108,.mv (.t 10),none⟩,⟨some 109,.mv (.t 7),none⟩,⟨some 110,.bslice 1 [(.v (.int .i64 0))] 1 [(0,(.t 109))],none⟩,⟨some 111,.call (.c (.fn 188 [])) [(.t 107),(.t 108),(.t 110)],none⟩,⟨some 112,.faddr 3 (.t 2),none⟩,⟨none,.store 1 (.t 112) (.t 111),none⟩]))) (.region [⟨some 113,.bin .add (.t 96) (.c (.v (.int .i64 1))),none⟩,⟨some 96,.mv (.t 113),none⟩]))))))) (.seq (.region [⟨some 114,.load (some 5) (.t 2),none⟩,⟨none,.store 5 (.t 4) (.t 114),none⟩,⟨some 5,.mv (.c (.v (.int .i64 0))),none⟩]) .ret)))))))))))⟩
theorem ZGG:Zq Tryz.prog 169=some a_nSend:=by kernel_rfl
def UY:List (Nat×Nat):=[(7,9),(44,72)]
def ZEY:List (Nat×Nat):=[(96,113)]

theorem Za.namedAll {N:Nat} {f:Nat→AV} {b l:List Row} (ov:List (Nat×AV)) (h:VC f ov):Za (kOf N f) b l (kOf N (kOv ov (fun _=>.any))) b l:=by
 intro F L w a s he
 refine⟨F,L,s,⟨he.1,by rw[he.2.1,Jp,Jp],fun i x v hx hv=>?_⟩,Step.refl _ _ _ _ _,rfl⟩
 rw[YF]at hx
 split at hx
 ·rename_i hi
  cases hx
  rcases kOv_get (ov:=ov) (f:=fun _=>AV.any) (i:=i) with hg|hg
  ·rw[hg];exact .any v
  ·rw[←h.mem hg]
   exact he.2.2 i _ v (by rw[YF,if_pos hi]) hv
 ·cases hx
def hdF (n:Nw):Int×Int:=n.fates.headD (1,0)
def ZJk (n:Nw):Nat:=if n.fates=[] then 0 else 1
def sdX (n:Nw) (m:Ms) (k:Nat):Nat→List (Ms×Nat)
 |0=>(Q5 n).xs
 |c+1=>(sdX n m k c).take k++[(m,n.l.length+c)]++(sdX n m k c).drop k
def sdT (n:Nw) (a:Int) (k:Nat):Nat→List Int
 |0=>n.tm
 |c+1=>(sdT n a k c).take k++[a]++(sdT n a k c).drop k
theorem ZHy {α:Type} {l:List α} {x:α} {k:Nat}:(l.take k++[x]++l.drop k).length=l.length+1:=by
 simp only[List.length_append,List.length_take,List.length_drop,List.length_cons,List.length_nil];omega
theorem Ky {n:Nw} {m:Ms} {k:Nat}:∀c,(sdX n m k c).length=n.l.length+c
 |0=>QO
 |c+1=>by rw[sdX,ZHy,Ky c];omega
theorem Kz {n:Nw} {a:Int} {k:Nat}:∀c,(sdT n a k c).length=n.tm.length+c
 |0=>rfl
 |c+1=>by rw[sdT,ZHy,Kz c];omega
theorem ZHx {α:Type} {l:List α} {x:α} {k c:Nat} (hk:k≤l.length):(l.take k++List.replicate c x++l.drop k).take k++[x]++(l.take k++List.replicate c x++l.drop k).drop k=l.take k++List.replicate (c+1) x++l.drop k:=by
 have hl:(l.take k).length=k:=by rw[List.length_take];omega
 rw[List.append_assoc (l.take k),List.take_append_of_le_length oM,List.drop_append_of_le_length oM,List.take_of_length_le (l:=l.take k) oM,List.drop_of_length_le (l:=l.take k) oM,List.replicate_succ]
 simp
theorem ZGs {n:Nw} {m:Ms} {k:Nat} (hk:k≤n.l.length):∀c,(sdX n m k c).map (·.1)=n.l.take k++List.replicate c m++n.l.drop k
 |0=>by
   have:(Q5 n).xs.map (·.1)=n.l:=congrArg Nw.l (ZAe n)
   rw[sdX,this,List.replicate_zero,List.append_nil,List.take_append_drop]
 |c+1=>by
   rw[sdX,List.map_append,List.map_append,List.map_take,List.map_drop,ZGs hk c]
   exact ZHx hk
theorem ZKl {n:Nw} {a:Int} {k:Nat} (hk:k≤n.tm.length):∀c,sdT n a k c=n.tm.take k++List.replicate c a++n.tm.drop k
 |0=>by simp[sdT]
 |c+1=>by rw[sdT,ZKl hk c,ZHx hk]
def sdB (n:Nw) (m:Ms) (j:Nat):List Int:=if j<n.l.length then (n.l.getD j dfMs).body else m.body
def ZKm (n:Nw) (m:Ms) (c:Nat):Lv:=⟨n.now,n.fifo,1+c,1+c,ZJk n,sdX n m (leN n.tm (V3 n m)) c,sdT n (V3 n m) (leN n.tm (V3 n m)) c,n.fates,fl (n.l.length+c) (sdB n m)⟩
theorem ZES {n:Nw} {m:Ms} {k:Nat}:∀c,∀x∈sdX n m k c,x.2<n.l.length+c∧sdB n m x.2=x.1.body
 |0,x,hx=>by
   obtain⟨i,hi,rfl⟩:=List.mem_map.1 hx
   have hi:=List.mem_range.1 hi
   refine⟨hi,?_⟩
   unfold sdB;rw[if_pos hi]
 |c+1,x,hx=>by
   rw[sdX]at hx
   simp only[List.mem_append,List.mem_singleton]at hx
   have ih:=ZES (n:=n) (m:=m) (k:=k) c
   rcases hx with (hx|rfl)|hx
   ·have:=ih x (List.mem_of_mem_take hx);exact⟨by omega,this.2⟩
   ·refine⟨by simp only;omega,?_⟩
    unfold sdB;rw[if_neg (by simp only;omega)]
   ·have:=ih x (List.mem_of_mem_drop hx);exact⟨by omega,this.2⟩
theorem ZLl {n:Nw}:ZJk n≤n.fates.length:=by
 unfold ZJk
 split
 ·exact Nat.zero_le _
 ·rename_i h
  cases hf:n.fates with
  |nil=>exact absurd hf h
  |cons x r=>simp
theorem ZGt {n:Nw} {m:Ms} {c:Nat}:(ZKm n m c).ok:=by
 refine⟨ZLl,fun x hx=>?_⟩
 obtain⟨h1,h2⟩:=ZES c x hx
 show (fl (n.l.length+c) (sdB n m))[x.2]? = _
 rw[YV h1,h2]
def ZEP (n:Nw) (m:Ms):Int:=if nwB n=true then (if msB m=true then sdE n m else 1) else 1
def ZKk (n:Nw) (m:Ms):Option Lv:=if ZEP n m=0 then some (ZKm n m (ZGY n).toNat) else none
def ZMg (n:Nw) (m:Ms):Nw:=if ZEP n m=0 then ZGW n m (V3 n m) (ZGY n).toNat else nw0
theorem ZLO {n:Nw} {m:Ms}:∀y,ZKk n m=some y→y.ok:=by
 intro y h
 unfold ZKk at h
 split at h
 ·cases h;exact ZGt
 ·cases h
theorem ZHZ {n:Nw}:n.fates.drop (ZJk n)=n.fates.drop 1:=by
 unfold ZJk
 split
 ·rename_i h;rw[h];rfl
 ·rfl
theorem ZLP {n:Nw} {m:Ms}:ZL3 (ZKk n m)=ZMg n m:=by
 unfold ZKk ZMg
 split
 ·rename_i h
  have hv:NwV n:=by
   unfold ZEP at h
   split at h
   ·rename_i h1;exact JE.1 h1
   ·cases h
  have hl:=hv.len
  have hle:=ZC2 (l:=n.tm) (a:=V3 n m)
  unfold ZL3 Lv.nw ZKm ZGW
  simp only
  rw[ZGs oM,ZKl hle,ZHZ]
 ·rfl
theorem UI {n:Nw} {base:Nat}:(Q5 n).rows base=.live 1 4 ((Q5 n).xs.map (lvE base))::.live 1 1 (vs (n.tm.map eI))::.live 1 2 (vs (n.fates.map eFt))::fl n.l.length (clB n):=by
 have h:(n.l.map (·.body)).map bdR=fl n.l.length (clB n):=by
  apply List.ext_getElem?
  intro j
  by_cases hj:j<n.l.length
  ·rw[YV hj,List.map_map,List.getElem?_map,List.getElem?_eq_getElem hj]
   unfold clB;rw[ZF hj];rfl
  ·rw[UD oM,List.getElem?_eq_none (by simp;omega)]
 unfold Lv.rows
 show _::_::_::(n.l.map (·.body)).map bdR=_
 rw[h];rfl
theorem ZKS {n:Nw} {base i:Nat} (h:i<n.l.length):((Q5 n).xs.map (lvE base))[i]? = some [.v (.int .i64 n.l[i].fr),.v (.int .i64 n.l[i].to),.v (.int .i64 n.l[i].nu),.sl (base+(3+i)) 1 0 n.l[i].body.length]:=by
 have hx:(Q5 n).xs=fl n.l.length (fun i=>(n.l.getD i dfMs,i)):=rfl
 rw[hx,List.getElem?_map,YV h,ZF h];rfl
def sdN (n:Nw) (B:Nat) (vL vA kL kA:Nat):Row:=.live 0 5 [[.v (.int .i64 n.now),.v (.bool n.fifo),.sl (B+3) vL 0 kL,.sl (B+4) vA 0 kA,.sl (B+5) 1 (ZJk n) (n.fates.length-ZJk n)]]
def sdM (m:Ms):Row:=.live 0 4 [[.v (.int .i64 m.fr),.v (.int .i64 m.to),.v (.int .i64 m.nu),.v (.isl 1 (m.body.map eI))]]
def sdO:Row:=.live 0 5 [[.v (.int .i64 0),.v (.bool false),.v .zsl,.v .zsl,.v .zsl]]
def sdF (n:Nw):Row:=.live 0 2 [[.v (.int .i64 (hdF n).1),.v (.int .i64 (hdF n).2)]]
theorem Za.ktrim {N:Nat} {f:Nat→AV} {b l l1 junk:List Row} (ov:List (Nat×AV)) (h:VC f ov) (hl:l=l1++junk) (ho:Kb (b.length+l1.length) ov) (hb:Z8 b.length b) (h1:Z8 (b.length+l1.length) l1) :
  Za (kOf N f) b l (kOf N (kOv ov (fun _=>.any))) b l1:=by
 have hE:KLt (b.length+l1.length) (fun _=>AV.any):=fun _=>.any
 exact (Za.namedAll ov h).trans (Za.trim hl ((hE.ov ho).env) (hb.mono oM) h1)
theorem ZKu {xs:List (Ms×Nat)} {c base M:Nat} (h:∀x∈xs,x.2<c) (hM:base+(3+c)≤M):∀row∈xs.map (lvE base),∀a∈row,AVlt M a:=by
 intro row hr a ha
 obtain⟨x,hx,rfl⟩:=List.mem_map.1 hr
 have:=h x hx
 unfold lvE at ha
 simp only[List.mem_cons,List.not_mem_nil,or_false]at ha
 rcases ha with rfl|rfl|rfl|rfl
 ·exact .v _
 ·exact .v _
 ·exact .v _
 ·exact .sl _ _ _ _ oM
theorem ZCN {n:Nw} {m:Ms} {B vL vA kL kA M wL wA:Nat} {X:List (List AV)} {tv fv:List (List IV)} {T:List Row} (hM:B+6≤M) (hX:∀row∈X,∀c∈row,AVlt M c) (hT:Z8 M T) :
  Z8 M (sdN n B vL vA kL kA::sdM m::sdO::.live wL 4 X::.live wA 1 (vs tv)::.live 1 2 (vs fv)::T):=by
 unfold sdN sdM sdO
 refine XY.2 ⟨by simp (disch:=omega) only[lts.down,Nat.reduceLT,Nat.reduceAdd],XY.2 ⟨by simp (disch:=omega) only[lts.down,Nat.reduceLT,Nat.reduceAdd],XY.2 ⟨by simp (disch:=omega) only[lts.down,Nat.reduceLT,Nat.reduceAdd],XY.2 ⟨hX,XY.2 ⟨Ui.2 trivial,XY.2 ⟨Ui.2 trivial,hT⟩⟩⟩⟩⟩⟩
theorem Z8.app {M:Nat} {a c:List Row} (h1:Z8 M a) (h2:Z8 M c):Z8 M (a++c):=by
 intro id ver sz els h
 by_cases hid:id<a.length
 ·rw[List.getElem?_append_left hid]at h;exact h1 id ver sz els h
 ·rw[List.getElem?_append_right oM]at h;exact h2 _ ver sz els h
theorem Z8.flB {M k:Nat} {g:Nat→List Int}:Z8 M (fl k fun j=>bdR (g j)):=by
 intro id ver sz els h row hr c hc
 by_cases hid:id<k
 ·rw[YV hid]at h
  cases h
  obtain⟨r0,_,rfl⟩:=List.mem_map.1 hr
  obtain⟨x0,_,rfl⟩:=List.mem_map.1 hc
  exact .v _
 ·rw[UD oM]at h;cases h
theorem ZMQ {n:Nw}:∀x∈(Q5 n).xs,x.2<n.l.length:=fun x hx=>(ZES (n:=n) (m:=dfMs) (k:=0) 0 x hx).1
def JU (n:Nw) (m:Ms) (B c:Nat):List Row:=sdN n B (1+c) (1+c) (n.l.length+c) (n.tm.length+c)::sdM m::sdO::.live (1+c) 4 ((sdX n m (leN n.tm (V3 n m)) c).map (lvE (B+3)))::.live (1+c) 1 (vs ((sdT n (V3 n m) (leN n.tm (V3 n m)) c).map eI))::.live 1 2 (vs (n.fates.map eFt))::fl (n.l.length+c) (fun j=>bdR (sdB n m j))
theorem V5 {n:Nw} {m:Ms} {B c:Nat}:(JU n m B c).length=n.l.length+c+6:=by unfold JU;simp[QO]
theorem ZCM {n:Nw} {m:Ms} {B c:Nat}:Z8 (B+(JU n m B c).length) (JU n m B c):=by
 rw[V5]
 exact ZCN oM (ZKu (fun x hx=>(ZES c x hx).1) oM) Z8.flB
theorem ZDP {n:Nw} {m:Ms} {B:Nat}:JU n m B 0=sdN n B 1 1 n.l.length n.tm.length::sdM m::sdO::.live 1 4 ((Q5 n).xs.map (lvE (B+3)))::.live 1 1 (vs (n.tm.map eI))::.live 1 2 (vs (n.fates.map eFt))::fl n.l.length (clB n):=by
 have h:fl (n.l.length+0) (fun j=>bdR (sdB n m j))=fl n.l.length (clB n):=by
  refine ZKC (fun i hi=>?_)
  unfold clB sdB
  rw[if_pos oM]
 unfold JU
 rw[h]
 rfl
theorem ZDQ {n:Nw} {m:Ms} {B c K:Nat} (hK:leN n.tm (V3 n m)=K):JU n m B (c+1)=sdN n B (1+c+1) (1+c+1) (n.l.length+c+1) (n.tm.length+c+1)::sdM m::sdO ::
  .live (1+c+1) 4 (((sdX n m K c).map (lvE (B+3))).take K++[.v (.int .i64 m.fr),.v (.int .i64 m.to),.v (.int .i64 m.nu),.sl (B+(n.l.length+c+1+1+1+1+1+1)) 1 0 m.body.length]::((sdX n m K c).map (lvE (B+3))).drop K) ::
  .live (1+c+1) 1 (vs (((sdT n (V3 n m) K c).map eI).take K++[[.int .i64 (V3 n m)]])++vs (((sdT n (V3 n m) K c).map eI).drop K))::.live 1 2 (vs (n.fates.map eFt))::(fl (n.l.length+c) (fun j=>bdR (sdB n m j))++[.live 1 1 (vs (m.body.map eI))]):=by
 have h1:fl (n.l.length+(c+1)) (fun j=>bdR (sdB n m j))=fl (n.l.length+c) (fun j=>bdR (sdB n m j))++[.live 1 1 (vs (m.body.map eI))]:=by
  unfold fl
  rw[←Nat.add_assoc,List.range_succ,List.map_append]
  simp only[List.map_cons,List.map_nil]
  have:sdB n m (n.l.length+c)=m.body:=if_neg oM
  rw[this];rfl
 have h2:(sdX n m K (c+1)).map (lvE (B+3))=((sdX n m K c).map (lvE (B+3))).take K++[.v (.int .i64 m.fr),.v (.int .i64 m.to),.v (.int .i64 m.nu),.sl (B+(n.l.length+c+1+1+1+1+1+1)) 1 0 m.body.length]::((sdX n m K c).map (lvE (B+3))).drop K:=by
  rw[sdX,List.map_append,List.map_append,List.map_take,List.map_drop]
  have:lvE (B+3) (m,n.l.length+c)=[.v (.int .i64 m.fr),.v (.int .i64 m.to),.v (.int .i64 m.nu),.sl (B+(n.l.length+c+1+1+1+1+1+1)) 1 0 m.body.length]:=by
   unfold lvE
   rw[show B+3+(3+(m,n.l.length+c).2)=B+(n.l.length+c+1+1+1+1+1+1) by simp only;omega]
  simp only[List.map_cons,List.map_nil,this,List.append_assoc,List.cons_append,List.nil_append]
 have h3:vs ((sdT n (V3 n m) K (c+1)).map eI)=vs (((sdT n (V3 n m) K c).map eI).take K++[[.int .i64 (V3 n m)]])++vs (((sdT n (V3 n m) K c).map eI).drop K):=by
  rw[sdT,List.map_append,List.map_append,List.map_take,List.map_drop,ZKf]
  rfl
 unfold JU
 rw[hK,h1,h2,h3]
 rfl
theorem ZH8 (n:Nw) (m:Ms) (b l:List Row):ZA Tryz.prog 169 [.agg ((eNw n).map .v),.agg [.v (.int .i64 m.fr),.v (.int .i64 m.to),.v (.int .i64 m.nu),.v (.isl 1 (m.body.map eI))]] b l
  (fun r b' l'=>r=.tup [ZM0 (b.length+l.length) (ZKk n m),.v (.int .i64 (ZEP n m))]∧b'=b∧l'=l++ZHL (b.length+l.length) (ZKk n m)):=by
 refine ZD ZGG rfl (by decide) ?_
 intro B g hB hR hE hA;simp only[Zn]at hA
 have hV:=Y8 n
 have hC:=UC n
 unfold eNw at hV hC
 simp only[List.map_cons,List.map_nil]at hV hC
 have bad:ZEP n m≠0→ZKk n m=none:=fun h=>if_neg h
 simp (disch:=first|decide|omega) only[a_nSend,hA,eNw,go_sem]
 refine ZA.nxt (hV _ _) ?_
 cases h1:nwB n
 ·have he:ZEP n m=1:=by unfold ZEP;rw[h1];rfl
  rw[bad (by rw[he];decide),he]
  simp (disch:=first|decide|omega) only[hA,ZC,cellsOf,go_sem]
  exact ZB (.inr rfl) (xs:=[zNw,.v (.int .i64 1)]) (by simp (disch:=first|decide|omega) only[ZE,ZY,hA,zNw,go_sem]) (by simp only[one,zNw,lts.down,Nat.reduceLT,Nat.reduceAdd]) hR hB ⟨rfl,rfl,by simp[ZHL]⟩
 simp (disch:=first|decide|omega) only[hA,go_sem]
 refine ZA.nxt (ZCW m _ _) ?_
 cases h2:msB m
 ·have he:ZEP n m=1:=by unfold ZEP;rw[if_pos h1,h2];rfl
  rw[bad (by rw[he];decide),he]
  simp (disch:=first|decide|omega) only[hA,ZC,cellsOf,go_sem]
  exact ZB (.inr rfl) (xs:=[zNw,.v (.int .i64 1)]) (by simp (disch:=first|decide|omega) only[ZE,ZY,hA,zNw,go_sem]) (by simp only[one,zNw,lts.down,Nat.reduceLT,Nat.reduceAdd]) hR hB ⟨rfl,rfl,by simp[ZHL]⟩
 have hes:ZEP n m=sdE n m:=by unfold ZEP;rw[if_pos h1,if_pos h2]
 rw[hes]at bad⊢
 have hv:=JE.1 h1
 have hnow:=hv.now
 have htl:=hv.l
 have hlen:=hv.len
 have hfl:=hv.fl
 have hhd:=ZBc hv
 have hbl:=ZE6 h2
 simp (disch:=first|decide|omega) only[hA,go_sem]
 refine ZA.nxt (hC hv.s _ _) ?_
 have hxl:(Q5 n).xs.length=n.l.length:=QO
 have hav:∀base,(Q5 n).av base=.agg [.v (.int .i64 n.now),.v (.bool n.fifo),.sl base 1 0 n.l.length,.sl (base+1) 1 0 n.tm.length,.sl (base+2) 1 0 n.fates.length]:=fun base=>by
  unfold Lv.av;rw[hxl];rfl
 have e1:B.length+3+1=B.length+4:=rfl
 have e2:B.length+3+2=B.length+5:=rfl
 have hrw:=UI (n:=n) (base:=B.length+3)
 have ha0:UM n m 0=n.now+(hdF n).2:=rfl
 have hdc:0≤(hdF n).1∧(hdF n).1≤3:=hhd.1
 have hda:0≤(hdF n).2∧(hdF n).2≤1000000:=hhd.2
 by_cases hf:n.fates=[]
 case' pos =>
  have d1:decide ((0:Int)<(n.fates.length:Int))=false:=by rw[hf];rfl
  have h1f:(hdF n).1=1:=by unfold hdF;rw[hf];rfl
  have h2f:(hdF n).2=0:=by unfold hdF;rw[hf];rfl
  have ho:ZJk n=0:=if_pos hf
  have hff:Row.live 0 2 [[.v (.int .i64 1),.v (.int .i64 0)]]=sdF n:=by unfold sdF;rw[h1f,h2f]
  have hat:n.now+0=UM n m 0:=by rw[ha0,h2f]
  have hn0:Row.live 0 5 [[.v (.int .i64 n.now),.v (.bool n.fifo),.sl (B.length+3) 1 0 n.l.length,.sl (B.length+4) 1 0 n.tm.length,.sl (B.length+5) 1 0 n.fates.length]]=sdN n B.length 1 1 n.l.length n.tm.length:=by unfold sdN;rw[ho];rfl
  simp (disch:=first|decide|omega) only[hA,hav,hrw,e1,e2,QO,XK,XO,Zw,QQ,d1,ZC,cellsOf,go_sem]
 case' neg =>
  have hpos:0<n.fates.length:=by
   cases hq:n.fates with
   |nil=>exact absurd hq hf
   |cons x r=>simp
  have d1:decide ((0:Int)<(n.fates.length:Int))=true:=decide_eq_true oM
  have ho:ZJk n=1:=if_neg hf
  have hg0:(n.fates.map eFt)[Int.toNat 0]? = some [.int .i64 (hdF n).1,.int .i64 (hdF n).2]:=by
   show (n.fates.map eFt)[0]? = _
   unfold hdF
   cases hq:n.fates with
   |nil=>exact absurd hq hf
   |cons x r=>rfl
  have hff:Row.live 0 2 [[.v (.int .i64 (hdF n).1),.v (.int .i64 (hdF n).2)]]=sdF n:=rfl
  have hn0:Row.live 0 5 [[.v (.int .i64 n.now),.v (.bool n.fifo),.sl (B.length+3) 1 0 n.l.length,.sl (B.length+4) 1 0 n.tm.length,.sl (B.length+5) 1 (Int.toNat 1) (n.fates.length-Int.toNat 1)]]=sdN n B.length 1 1 n.l.length n.tm.length:=by unfold sdN;rw[ho];rfl
  have hat:n.now+(hdF n).2=UM n m 0:=rfl
  simp (disch:=first|decide|omega) only[hA,hav,hrw,e1,e2,QO,XK,XO,Zw,QQ,d1,hg0,Zr,ZC,cellsOf,go_sem]
 all_goals
  refine QM (ι:=Nat) UY (fun i=>[(7,.v (.int .i64 (UM n m i))),(44,.v (.int .i64 i))]) (n.l.length+7) (fun _=>sdN n B.length 1 1 n.l.length n.tm.length::sdM m::sdO::.live 1 4 ((Q5 n).xs.map (lvE (B.length+3)))::.live 1 1 (vs (n.tm.map eI))::.live 1 2 (vs (n.fates.map eFt))::(fl n.l.length (clB n)++[sdF n]))
   (fun i=>i≤n.l.length) (fun i=>n.l.length-i) 0 (Nat.zero_le _) (by (repeat (first|exact hE.mono oM|refine KLt.up ?_ kL))) (by ((try simp (disch:=decide) only[hA,hat,go_sem])<;>exact kH)) (fun e=>by rw[hn0,hff];exact Za.refl _ _ _) ?_
  intro g1 hE1 hEE1 hg1 i hi
  have hrl:Z8 (B.length+(sdN n B.length 1 1 n.l.length n.tm.length::sdM m::sdO::.live 1 4 ((Q5 n).xs.map (lvE (B.length+3)))::.live 1 1 (vs (n.tm.map eI))::.live 1 2 (vs (n.fates.map eFt))::(fl n.l.length (clB n)++[sdF n])).length) (sdN n B.length 1 1 n.l.length n.tm.length::sdM m::sdO::.live 1 4 ((Q5 n).xs.map (lvE (B.length+3)))::.live 1 1 (vs (n.tm.map eI))::.live 1 2 (vs (n.fates.map eFt))::(fl n.l.length (clB n)++[sdF n])):=by
   refine ZCN (by simp) (ZKu ZMQ (by simp[QO];omega)) (Z8.app Z8.flB ?_)
   unfold sdF
   simp (disch:=omega) only[lts.down,Nat.reduceLT,Nat.reduceAdd]
  by_cases hlt:i<n.l.length
  ·have hxg:=ZKS (n:=n) (base:=B.length+3) hlt
   have htg:=Jy (l:=n.tm) (i:=i) oM
   have hbd:=ZAg hv (m:=m) i oM
   cases hfi:(n.fifo==true)
   case false =>
    have hfb:(n.fifo=true)=False:=by simpa using hfi
    have hst:UM n m (i+1)=UM n m i:=by simp only[UM];rw[if_neg (fun h=>by rw[hfb]at h;exact h.1)]
    simp (disch:=first|decide|omega) only[hA,hg1,hxg,htg,hfi,hfb,QO,XK,XO,Zw,QQ,Zr,sdN,sdM,sdO,sdF,ZC,cellsOf,go_sem]
    refine⟨i+1,hlt,by simp only;omega,?_⟩
    exact Za.kround (p:=UY) (k:=n.l.length+7) (l1:=sdN n B.length 1 1 n.l.length n.tm.length::sdM m::sdO::.live 1 4 ((Q5 n).xs.map (lvE (B.length+3)))::.live 1 1 (vs (n.tm.map eI))::.live 1 2 (vs (n.fates.map eFt))::(fl n.l.length (clB n)++[sdF n])) (junk:=[_]) (by ((repeat refine (Z9 rfl).trans ?_);exact hEE1)) (by ((try simp (disch:=decide) only[hst,hA,go_sem])<;>exact kH)) (by simp only[sdN,sdM,sdO,sdF,List.cons_append,List.append_assoc,List.nil_append];rfl) hE1 (by simp[QO]) kV hR hrl
   case true =>
    have hfb:(n.fifo=true)=True:=by simpa using hfi
    by_cases hfr:n.l[i].fr=m.fr
    case neg =>
     have d1:(n.l[i].fr==m.fr)=false:=beq_eq_false_iff_ne.2 hfr
     have hst:UM n m (i+1)=UM n m i:=by simp only[UM];rw[if_neg (fun h=>hfr (by have:=h.2.1;rwa [ZF hlt]at this))]
     simp (disch:=first|decide|omega) only[hA,hg1,hxg,htg,hfi,hfb,d1,QO,XK,XO,Zw,QQ,Zr,sdN,sdM,sdO,sdF,ZC,cellsOf,go_sem]
     refine⟨i+1,hlt,by simp only;omega,?_⟩
     exact Za.kround (p:=UY) (k:=n.l.length+7) (l1:=sdN n B.length 1 1 n.l.length n.tm.length::sdM m::sdO::.live 1 4 ((Q5 n).xs.map (lvE (B.length+3)))::.live 1 1 (vs (n.tm.map eI))::.live 1 2 (vs (n.fates.map eFt))::(fl n.l.length (clB n)++[sdF n])) (junk:=[_]) (by ((repeat refine (Z9 rfl).trans ?_);exact hEE1)) (by ((try simp (disch:=decide) only[hst,hA,go_sem])<;>exact kH)) (by simp only[sdN,sdM,sdO,sdF,List.cons_append,List.append_assoc,List.nil_append];rfl) hE1 (by simp[QO]) kV hR hrl
    have d1:(n.l[i].fr==m.fr)=true:=by rw[hfr];simp
    by_cases hto:n.l[i].to=m.to
    case neg =>
     have d2:(n.l[i].to==m.to)=false:=beq_eq_false_iff_ne.2 hto
     have hst:UM n m (i+1)=UM n m i:=by simp only[UM];rw[if_neg (fun h=>hto (by have:=h.2.2;rwa [ZF hlt]at this))]
     simp (disch:=first|decide|omega) only[hA,hg1,hxg,htg,hfi,hfb,d1,d2,QO,XK,XO,Zw,QQ,Zr,sdN,sdM,sdO,sdF,ZC,cellsOf,go_sem]
     refine⟨i+1,hlt,by simp only;omega,?_⟩
     exact Za.kround (p:=UY) (k:=n.l.length+7) (l1:=sdN n B.length 1 1 n.l.length n.tm.length::sdM m::sdO::.live 1 4 ((Q5 n).xs.map (lvE (B.length+3)))::.live 1 1 (vs (n.tm.map eI))::.live 1 2 (vs (n.fates.map eFt))::(fl n.l.length (clB n)++[sdF n])) (junk:=[_]) (by ((repeat refine (Z9 rfl).trans ?_);exact hEE1)) (by ((try simp (disch:=decide) only[hst,hA,go_sem])<;>exact kH)) (by simp only[sdN,sdM,sdO,sdF,List.cons_append,List.append_assoc,List.nil_append];rfl) hE1 (by simp[QO]) kV hR hrl
    have d2:(n.l[i].to==m.to)=true:=by rw[hto];simp
    have hst:(if UM n m i<n.tm.getD i 0 then n.tm.getD i 0 else UM n m i)=UM n m (i+1):=by
     simp only[UM]
     rw[if_pos (show n.fifo=true∧_ from⟨by rw[hfb];trivial,by rw[ZF hlt];exact hfr,by rw[ZF hlt];exact hto⟩)]
     split<;>omega
    simp (disch:=first|decide|omega) only[hA,hg1,hxg,htg,hfi,hfb,d1,d2,QO,XK,XO,Zw,QQ,Zr,sdN,sdM,sdO,sdF,ZC,cellsOf,go_sem]
    refine⟨i+1,hlt,by simp only;omega,?_⟩
    exact Za.kround (p:=UY) (k:=n.l.length+7) (l1:=sdN n B.length 1 1 n.l.length n.tm.length::sdM m::sdO::.live 1 4 ((Q5 n).xs.map (lvE (B.length+3)))::.live 1 1 (vs (n.tm.map eI))::.live 1 2 (vs (n.fates.map eFt))::(fl n.l.length (clB n)++[sdF n])) (junk:=[_]) (by ((repeat refine (Z9 rfl).trans ?_);exact hEE1)) (by ((try simp (disch:=decide) only[hst,hA,go_sem])<;>exact kH)) (by simp only[sdN,sdM,sdO,sdF,List.cons_append,List.append_assoc,List.nil_append];rfl) hE1 (by simp[QO]) kV hR hrl
  ·obtain rfl:i=n.l.length:=by omega
   have htim:UM n m n.l.length=V3 n m:=rfl
   have hbd:=ZAg hv (m:=m) n.l.length (Nat.le_refl _)
   rw[htim]at hbd
   have d1:decide (1099512627776<V3 n m)=false:=decide_eq_false oM
   by_cases hfull:1000<(n.l.length:Int)+(hdF n).1
   ·have d2:=decide_eq_true hfull
    have he:sdE n m=5:=by unfold sdE;rw[if_neg oM,if_pos (show (n.l.length:Int)+ZGY n>1000 from hfull)]
    rw[bad (by rw[he];decide),he]
    simp (disch:=first|decide|omega) only[hA,hg1,htim,d1,d2,QO,XK,XO,Zw,QQ,Zr,sdN,sdM,sdO,sdF,ZC,cellsOf,go_sem]
    exact ZB (.inr rfl) (xs:=[zNw,.v (.int .i64 5)]) (by simp (disch:=first|decide|omega) only[ZE,ZY,hA,hg1,zNw,go_sem]) (by simp only[one,zNw,lts.down,Nat.reduceLT,Nat.reduceAdd]) hR hB ⟨rfl,rfl,by simp[ZHL]⟩
   have d2:=decide_eq_false hfull
   have he:sdE n m=0:=by unfold sdE;rw[if_neg oM,if_neg (show ¬(n.l.length:Int)+ZGY n>1000 from hfull)]
   have hZ:ZKk n m=some (ZKm n m (ZGY n).toNat):=if_pos (by rw[hes,he])
   rw[hZ,he]
   simp (disch:=first|decide|omega) only[hA,hg1,htim,d1,d2,QO,XK,XO,Zw,QQ,Zr,sdN,sdM,sdO,sdF,ZC,cellsOf,go_sem]
   refine ZA.nxt (ZId n.tm oM hv.sorted (V3 n m) (B.length+4) 1 _ _ (by rw[List.getElem?_append_right oM,Nat.add_sub_cancel_left];rfl)) ?_
   simp (disch:=first|decide|omega) only[hA,hg1,htim,d1,d2,QO,XK,XO,Zw,QQ,Zr,ZC,cellsOf,go_sem]
   have hleB:=ZC2 (l:=n.tm) (a:=V3 n m)
   obtain⟨C,hC1⟩:∃C:Nat,(hdF n).1=(C:Int):=⟨(hdF n).1.toNat,by omega⟩
   have hCc:(ZGY n).toNat=C:=by show (hdF n).1.toNat=C;omega
   rw[hC1]
   refine Vo (f':=kOv [(2,.ptr B.length 0 0 0),(3,.ptr (B.length+1) 0 0 0),(4,.ptr (B.length+2) 0 0 0),(5,.v (.int .i64 0)),(7,.v (.int .i64 (V3 n m))),(10,.v (.int .i64 (leN n.tm (V3 n m)))),(95,.v (.int .i64 C)),(96,.v (.int .i64 0))] (fun _=>.any)) (l':=JU n m B.length 0)
    (ι:=Nat) ZEY (fun c=>[(96,.v (.int .i64 c))]) 6 (fun c=>JU n m B.length c) (fun c=>c≤C) (fun c=>C-c) 0 (Nat.zero_le _)
    (Za.ktrim (junk:=[sdF n]) _ (by ((try simp (disch:=decide) only[hA,hg1,go_sem])<;>exact kH)) (by rw[ZDP,hC1.symm];rfl) (by rw[V5];simp (disch:=omega) only[Kb,lts.down,Nat.reduceLT,Nat.reduceAdd]) hR ZCM) (KLt.ov (fun _=>.any) kV) (by ((try simp (disch:=decide) only[hA,go_sem])<;>exact kH)) (fun e=>Za.refl _ _ _) ?_
   intro g2 hE2 hEE2 hg2 c hc
   by_cases hlc:c<C
   ·simp (disch:=first|decide|omega) only[hA,hg2,QO,XK,XO,Zw,QQ,Zr,JU,sdN,sdM,sdO,ZC,cellsOf,go_sem]
    refine ZA.nxt (ZAL m oM _ _) ?_
    simp (disch:=first|decide|omega) only[hA,hg2,QO,XK,XO,Zw,QQ,Zr,ZC,cellsOf,List.replicate_succ,List.replicate_zero,go_sem]
    obtain⟨K,hK⟩:∃K,K=leN n.tm (V3 n m):=⟨_,rfl⟩
    have hK2:leN n.tm (V3 n m)=K:=hK.symm
    rw[←hK]at hleB⊢
    have hM:=fun b l hid hv=>ZJu (B.length+3) (1+c) K (B.length+(n.l.length+c+1+1+1+1+1+1+1)) 0 ((sdX n m K c).map (lvE (B.length+3))) [.v (.int .i64 m.fr),.v (.int .i64 m.to),.v (.int .i64 m.nu),.sl (B.length+(n.l.length+c+1+1+1+1+1+1)) 1 0 m.body.length] b l hid hv oM (by rw[List.length_map,Ky];omega) (by rw[List.length_map,Ky];omega)
    simp only[List.length_map,Ky]at hM
    refine ZA.nxt (hM _ _ (by rw[List.getElem?_append_right oM,Nat.add_sub_cancel_left];rfl) (by rw[List.getElem?_append_right oM,Nat.add_sub_cancel_left];simp only[List.getElem?_cons_succ];rw[XO];rfl)) ?_
    simp (disch:=first|decide|omega) only[hA,hg2,QO,XK,XO,Zw,QQ,Zr,ZC,cellsOf,List.replicate_succ,List.replicate_zero,go_sem]
    have hI:=fun b l hid hv=>ZJv (B.length+4) (1+c) K (B.length+(n.l.length+c+2+1+1+1+1+1+1)) 0 (vs ((sdT n (V3 n m) K c).map eI)) [.v (.int .i64 (V3 n m))] b l hid hv oM (by rw[Q4,List.length_map,Kz];omega) (by rw[Q4,List.length_map,Kz];omega)
    simp only[Q4,List.length_map,Kz]at hI
    rw[hK2]
    refine ZA.nxt (hI _ _ (by rw[List.getElem?_append_right oM,Nat.add_sub_cancel_left];rfl) (by rw[List.getElem?_append_right oM,Nat.add_sub_cancel_left];simp only[List.getElem?_cons_succ];rw[XO];rfl)) ?_
    simp (disch:=first|decide|omega) only[hA,hg2,QO,XK,XO,Zw,QQ,Zr,ZC,cellsOf,List.replicate_succ,List.replicate_zero,go_sem]
    subst hK
    refine⟨c+1,hlc,by simp only;omega,?_⟩
    show Za _ B _ (kOf 115 (kOv [(96,.v (.int .i64 ((c+1:Nat):Int)))] g2)) B (JU n m B.length (c+1))
    exact Za.kround (p:=ZEY) (k:=6) (l1:=JU n m B.length (c+1)) (junk:=[_,_]) (by ((repeat refine (Z9 rfl).trans ?_);exact hEE2)) (by ((try simp (disch:=decide) only[hA,go_sem])<;>exact kH)) (by rw[ZDQ hK2];simp only[sdN,sdM,sdO,List.cons_append,List.append_assoc,List.nil_append];rfl) hE2 (by rw[V5];omega) (by rw[V5];simp (disch:=omega) only[Kb,lts.down,Nat.reduceLT,Nat.reduceAdd]) hR ZCM
   ·obtain rfl:c=C:=by omega
    simp (disch:=first|decide|omega) only[hA,hg2,QO,XK,XO,Zw,QQ,Zr,JU,sdN,sdM,sdO,ZC,cellsOf,go_sem]
    rw[hCc]
    have hzx:(ZKm n m c).xs.length=n.l.length+c:=Ky c
    have hzt:(ZKm n m c).tm.length=n.tm.length+c:=Kz c
    refine ZEa (.inr rfl) (z:=ZKm n m c) ZGt (s:=3) (c:=.int .i64 0) (junk:=[]) (by simp (disch:=first|decide|omega) only[ZE,ZY,hA,hg2,Lv.av,hzx,hzt,go_sem];rfl) ?_ hR hB ⟨by rw[hB,List.length_append];rfl,rfl,by rw[hB,List.length_append];rfl⟩
    rw[List.append_nil]
    unfold Lv.rows
    rw[show (ZKm n m c).bd.map bdR=fl (n.l.length+c) (fun j=>bdR (sdB n m j)) from ZKx]
    rfl
theorem ZFX (n:Nw) (m:Ms) (b l:List Row):ZA Tryz.prog 169 [.agg ((eNw n).map .v),.agg [.v (.int .i64 m.fr),.v (.int .i64 m.to),.v (.int .i64 m.nu),.v (.isl 1 (m.body.map eI))]] b l
  (fun r b' l'=>r=.tup [nwA (ZMg n m),.v (.int .i64 (ZEP n m))]∧b'=b∧l'=l):=by
 rw[←ZLP]
 exact ZA.ownV ZLO (ZH8 n m b l)
def a_nRecv:AFunc:=⟨2,59,[.cell 4 (some 5),.cell 5 (some 4),.tmp 6],(.seq (.region [⟨some 2,.box (.t 0),none⟩,⟨some 4,.alloc [(.v (.int .i64 0)),(.v (.bool false)),(.v .zsl),(.v .zsl),(.v .zsl)],none⟩,⟨some 5,.alloc [(.v (.int .i64 0)),(.v (.int .i64 0)),(.v (.int .i64 0)),(.v .zsl)],none⟩,⟨some 6,.mv (.c (.v (.int .i64 0))),none⟩]) (.seq (.block 0 (.seq (.region [⟨some 10,.load (some 5) (.t 2),none⟩,⟨some 11,.call (.c (.fn 56 [])) [(.t 10)],none⟩,⟨some 12,.not (.t 11),none⟩,⟨some 9,.mv (.t 12),none⟩]) (.cond (.t 9) (.seq (.region [⟨some 13,.build [(.v (.int .i64 0)),(.v (.bool false)),(.v .zsl),(.v .zsl),(.v .zsl)] [],none⟩,⟨some 14,.build [(.v (.int .i64 0)),(.v (.int .i64 0)),(.v (.int .i64 0)),(.v .zsl)] [],none⟩,⟨none,.store 5 (.t 4) (.t 13),none⟩,⟨none,.store 4 (.t 5) (.t 14),none⟩,⟨some 6,.mv (.c (.v (.int .i64 1))),none⟩]) .ret) (.seq (.region [⟨some 16,.mv (.t 1),none⟩,⟨some 17,.call (.c (.fn 155 [])) [(.t 16)],none⟩,⟨some 18,.not (.t 17),none⟩,⟨some 15,.mv (.t 18),none⟩]) (.cond (.t 15) (.seq (.region [⟨some 19,.build [(.v (.int .i64 0)),(.v (.bool false)),(.v .zsl),(.v .zsl),(.v .zsl)] [],none⟩,⟨some 20,.build [(.v (.int .i64 0)),(.v (.int .i64 0)),(.v (.int .i64 0)),(.v .zsl)] [],none⟩,⟨none,.store 5 (.t 4) (.t 19),none⟩,⟨none,.store 4 (.t 5) (.t 20),none⟩,⟨some 6,.mv (.c (.v (.int .i64 2))),none⟩]) .ret) .skip))))) (.seq (.seq (.region [⟨some 21,.faddr 2 (.t 2),none⟩,⟨some 22,.load none (.t 21),none⟩,⟨some 23,.len (.t 22),none⟩,⟨some 24,.mv (.c (.v (.int .i64 0))),none⟩]) (.block 1 (.loop (.seq (.region [⟨some 25,.bin .lss (.t 24) (.t 23),none⟩]) (.seq (.cond (.t 25) .skip (.exit 1)) (.seq (.block 2 (.seq (.region [⟨some 26,.mv (.t 24),none⟩,⟨some 7,.mv (.t 26),none⟩]) (.seq (.seq (.region [⟨some 27,.load (some 5) (.t 2),none⟩,⟨some 28,.mv (.t 7),none⟩,⟨some 29,.mv (.t 1),none⟩,⟨some 30,.call (.c (.fn 168 [])) [(.t 27),(.t 28),(.t 29)],none⟩,⟨some 31,.not (.t 30),none⟩]) (.cond (.t 31) (.exit 2) .skip)) (.seq (.region [⟨some 32,.faddr 2 (.t 2),none⟩,⟨some 33,.load none (.t 32),none⟩,⟨some 34,.mv (.t 7),none⟩,⟨some 35,.iaddr 4 (.t 33) (.t 34),none⟩,⟨some 36,.load (some 4) (.t 35),none⟩,⟨some 37,.call (.c (.fn 162 [])) [(.t 36)],none⟩,⟨some 8,.alloc [(.v (.int .i64 0)),(.v (.int .i64 0)),(.v (.int .i64 0)),(.v .zsl)],none⟩,⟨none,.store 4 (.t 8) (.t 37),none⟩]) (.seq (.region [⟨some 38,.load (some 5) (.t 2),none⟩,⟨some 39,.call (.c (.fn 130 [])) [(.t 38)],none⟩,⟨none,.store 5 (.t 2) (.t 39),none⟩]) (.seq (.draw [⟨0,⟨some 40,.faddr 2 (.t 2),none⟩,[]⟩,⟨1,⟨some 41,.load none (.t 40),none⟩,[]⟩,⟨2,⟨some 42,.mv (.t 7),none⟩,[]⟩,⟨3,⟨some 43,.mv (.t 7),none⟩,[]⟩,⟨4,⟨some 44,.bin .add (.t 43) (.c (.v (.int .i64 1))),none⟩,[]⟩,⟨6,⟨some 46,.faddr 3 (.t 2),none⟩,[]⟩,⟨7,⟨some 47,.load none (.t 46),none⟩,[]⟩,⟨8,⟨some 48,.mv (.t 7),none⟩,[]⟩,⟨9,⟨some 49,.mv (.t 7),none⟩,[]⟩,⟨10,⟨some 50,.bin .add (.t 49) (.c (.v (.int .i64 1))),none⟩,[]⟩,⟨5,⟨some 45,.call (.c (.fn 189 [])) [(.t 41),(.t 42),(.t 44)],none⟩,[⟨some 46,.faddr 3 (.t 2),none⟩,⟨some 47,.load none (.t 46),none⟩,⟨some 48,.mv (.t 7),none⟩,⟨some 49,.mv (.t 7),none⟩,⟨some 50,.bin .add (.t 49) (.c (.v (.int .i64 1))),none⟩]⟩,⟨12,⟨some 52,.faddr 2 (.t 2),none⟩,[]⟩,⟨11,⟨some 51,.call (.c (.fn 190 [])) [(.t 47),(.t 48),(.t 50)],none⟩,[⟨some 52,.faddr 2 (.t 2),none⟩]⟩,⟨13,⟨none,.store 1 (.t 52) (.t 45),none⟩,[]⟩,⟨14,⟨some 53,.faddr 3 (.t 2),none⟩,[]⟩,⟨15,⟨none,.store 1 (.t 53) (.t 51),none⟩,[]⟩]) (.seq (.draw [⟨0,⟨some 54,.load (some 5) (.t 2),none⟩,[]⟩,⟨1,⟨some 55,.load (some 4) (.t 8),none⟩,[]⟩,⟨2,⟨none,.store 5 (.t 4) (.t 54),none⟩,[⟨some 55,.load (some 4) (.t 8),none⟩]⟩,⟨3,⟨none,.store 4 (.t 5) (.t 55),none⟩,[]⟩,⟨4,⟨some 6,.mv (.c (.v (.int .i64 0))),none⟩,[]⟩]) .ret))))))) (.region [⟨some 56,.bin .add (.t 24) (.c (.v (.int .i64 1))),none⟩,⟨some 24,.mv (.t 56),none⟩]))))))) (.seq (.region [⟨some 57,.build [(.v (.int .i64 0)),(.v (.bool false)),(.v .zsl),(.v .zsl),(.v .zsl)] [],none⟩,⟨some 58,.build [(.v (.int .i64 0)),(.v (.int .i64 0)),(.v (.int .i64 0)),(.v .zsl)] [],none⟩,⟨none,.store 5 (.t 4) (.t 57),none⟩,⟨none,.store 4 (.t 5) (.t 58),none⟩,⟨some 6,.mv (.c (.v (.int .i64 7))),none⟩]) .ret))))⟩
theorem ZGH:Zq Tryz.prog 170=some a_nRecv:=by kernel_rfl
def ZEZ:List (Nat×Nat):=[(6,8),(24,56)]

def rcE (n:Nw) (to:Int):Int:=if nwB n=true then (if ptB to=true then (if fiR n to<0 then 7 else 0) else 2) else 1
def K5 (n:Nw) (k:Nat):Lv:=⟨n.now,n.fifo,2,2,0,(Q5 n).xs.take k++(Q5 n).xs.drop (k+1),n.tm.take k++n.tm.drop (k+1),n.fates,n.l.map (·.body)⟩
def rcZ (n:Nw) (to:Int):Option Lv:=if rcE n to=0 then some (K5 n (fiR n to).toNat) else none
def rcN (n:Nw) (to:Int):Nw:=if rcE n to=0 then woN n (fiR n to).toNat else nw0
def rcM (n:Nw) (to:Int):Ms:=if rcE n to=0 then n.l.getD (fiR n to).toNat dfMs else dfMs
def ZLZ (n:Nw) (to:Int) (base:Nat):AV:=if rcE n to=0 then .agg [.v (.int .i64 (rcM n to).fr),.v (.int .i64 (rcM n to).to),.v (.int .i64 (rcM n to).nu),.sl (base+(3+n.l.length)) 1 0 (rcM n to).body.length] else .agg [.v (.int .i64 0),.v (.int .i64 0),.v (.int .i64 0),.v .zsl]
def rcR (n:Nw) (to:Int) (base:Nat):List Row:=if rcE n to=0 then (K5 n (fiR n to).toNat).rows base++[bdR (rcM n to).body] else []
theorem ZGz {n:Nw} {k:Nat}:(K5 n k).ok:=by
 refine⟨Nat.zero_le _,fun x hx=>?_⟩
 refine (ZAd n).bd x ?_
 rcases List.mem_append.1 hx with h|h
 ·exact List.mem_of_mem_take h
 ·exact List.mem_of_mem_drop h
theorem ZL0 {n:Nw} {k:Nat}:(K5 n k).nw=woN n k:=by
 have h:(Q5 n).xs.map (·.1)=n.l:=congrArg Nw.l (ZAe n)
 unfold Lv.nw K5 woN
 simp only[List.map_append,List.map_take,List.map_drop,h,List.drop_zero]
theorem ZMl {n:Nw} {to:Int}:ZL3 (rcZ n to)=rcN n to:=by
 unfold rcZ rcN
 split
 ·exact ZL0
 ·rfl
theorem ZGy {n:Nw} {k base:Nat}:(K5 n k).rows base=.live 2 4 (((Q5 n).xs.map (lvE base)).take k++((Q5 n).xs.map (lvE base)).drop (k+1))::.live 2 1 (vs ((n.tm.map eI).take k)++vs ((n.tm.map eI).drop (k+1)))::.live 1 2 (vs (n.fates.map eFt))::fl n.l.length (clB n):=by
 have h:=UI (n:=n) (base:=base)
 unfold Lv.rows at h⊢
 have h2:=(List.cons.inj (List.cons.inj (List.cons.inj h).2).2).2
 have h3:(K5 n k).bd.map bdR=fl n.l.length (clB n):=h2
 rw[h3]
 unfold K5
 simp only[List.map_append,List.map_take,List.map_drop,ZKf]
theorem ZHb (n:Nw) (to:Int) (b l:List Row):ZA Tryz.prog 170 [.agg ((eNw n).map .v),.v (.int .i64 to)] b l
  (fun r b' l'=>r=.tup [ZM0 (b.length+l.length) (rcZ n to),ZLZ n to (b.length+l.length),.v (.int .i64 (rcE n to))]∧b'=b∧l'=l++rcR n to (b.length+l.length)):=by
 refine ZD ZGH rfl (by decide) ?_
 intro B g hB hR hE hA;simp only[Zn]at hA
 have hV:=Y8 n
 have hC:=UC n
 unfold eNw at hV hC
 simp only[List.map_cons,List.map_nil]at hV hC
 have bad:rcE n to≠0→rcZ n to=none∧ZLZ n to (b.length+l.length)=.agg [.v (.int .i64 0),.v (.int .i64 0),.v (.int .i64 0),.v .zsl]∧rcR n to (b.length+l.length)=[]:=fun h=>⟨if_neg h,if_neg h,if_neg h⟩
 simp (disch:=first|decide|omega) only[a_nRecv,hA,eNw,go_sem]
 refine ZA.nxt (hV _ _) ?_
 cases h1:nwB n
 ·have he:rcE n to=1:=by unfold rcE;rw[h1];rfl
  obtain⟨b1,b2,b3⟩:=bad (by rw[he];decide)
  rw[b1,b2,b3,he]
  simp (disch:=first|decide|omega) only[hA,ZC,cellsOf,go_sem]
  exact ZB (.inr rfl) (xs:=[zNw,.agg [.v (.int .i64 0),.v (.int .i64 0),.v (.int .i64 0),.v .zsl],.v (.int .i64 1)]) (by simp (disch:=first|decide|omega) only[ZE,ZY,hA,zNw,go_sem]) (by simp only[one,zNw,lts.down,Nat.reduceLT,Nat.reduceAdd]) hR hB ⟨rfl,rfl,by simp⟩
 simp (disch:=first|decide|omega) only[hA,go_sem]
 refine ZA.nxt (Jm to _ _) ?_
 cases h2:ptB to
 ·have he:rcE n to=2:=by unfold rcE;rw[if_pos h1,h2];rfl
  obtain⟨b1,b2,b3⟩:=bad (by rw[he];decide)
  rw[b1,b2,b3,he]
  simp (disch:=first|decide|omega) only[hA,ZC,cellsOf,go_sem]
  exact ZB (.inr rfl) (xs:=[zNw,.agg [.v (.int .i64 0),.v (.int .i64 0),.v (.int .i64 0),.v .zsl],.v (.int .i64 2)]) (by simp (disch:=first|decide|omega) only[ZE,ZY,hA,zNw,go_sem]) (by simp only[one,zNw,lts.down,Nat.reduceLT,Nat.reduceAdd]) hR hB ⟨rfl,rfl,by simp⟩
 have hv:=JE.1 h1
 have htl:=hv.l
 have hlen:=hv.len
 simp (disch:=first|decide|omega) only[hA,go_sem]
 refine QM (ι:=Nat) ZEZ (fun i=>[(24,.v (.int .i64 i))]) 3 (fun _=>[.live 0 5 [[.v (.int .i64 n.now),.v (.bool n.fifo),.v (.isl 4 (n.l.map eMs)),.v (.isl 1 (n.tm.map eI)),.v (.isl 2 (n.fates.map eFt))]],.live 0 5 [[.v (.int .i64 0),.v (.bool false),.v .zsl,.v .zsl,.v .zsl]],.live 0 4 [[.v (.int .i64 0),.v (.int .i64 0),.v (.int .i64 0),.v .zsl]]])
  (fun i=>i≤n.l.length∧∀j,j<i→arB n to j=false) (fun i=>n.l.length-i) 0 ⟨Nat.zero_le _,fun j hj=>by omega⟩ (by (repeat (first|exact hE.mono oM|refine KLt.up ?_ kL))) (by ((try simp (disch:=decide) only[hA,go_sem])<;>exact kH)) (fun e=>Za.refl _ _ _) ?_
 rintro g1 hE1 hEE1 hg1 k ⟨hk,h0⟩
 by_cases hlt:k<n.l.length
 ·simp (disch:=first|decide|omega) only[hA,hg1,List.length_map,go_sem]
  refine ZA.nxt (ZCX n k hlt oM to _ _) ?_
  cases q:arB n to k
  ·simp (disch:=first|decide|omega) only[hA,hg1,go_sem]
   refine⟨k+1,⟨hlt,fun j hj=>?_⟩,by simp only;omega,?_⟩
   ·rcases Nat.lt_or_ge j k with hji|hji
    ·exact h0 j hji
    ·obtain rfl:j=k:=by omega
     exact q
   ·exact Za.kround (p:=ZEZ) (k:=3) (by ((repeat refine (Z9 rfl).trans ?_);exact hEE1)) (by ((try simp (disch:=decide) only[hA,go_sem])<;>exact kH)) rfl hE1 (by simp) kV hR kL
  have hfi:fiR n to=k:=ZG9 hlt h0 q
  have he:rcE n to=0:=by unfold rcE;rw[if_pos h1,if_pos h2,hfi,if_neg oM]
  have hkk:(fiR n to).toNat=k:=by rw[hfi];rfl
  have hZ:rcZ n to=some (K5 n k):=by unfold rcZ;rw[if_pos he,hkk]
  have hM:rcM n to=n.l[k]:=by unfold rcM;rw[if_pos he,hkk,ZF hlt]
  have hMA:ZLZ n to (b.length+l.length)=.agg [.v (.int .i64 n.l[k].fr),.v (.int .i64 n.l[k].to),.v (.int .i64 n.l[k].nu),.sl (b.length+l.length+(3+n.l.length)) 1 0 n.l[k].body.length]:=by unfold ZLZ;rw[if_pos he,hM]
  have hRR:rcR n to (b.length+l.length)=(K5 n k).rows (b.length+l.length)++[bdR n.l[k].body]:=by unfold rcR;rw[if_pos he,hkk,hM]
  rw[hZ,hMA,hRR,he]
  have hmg:=ZDn hlt
  simp (disch:=first|decide|omega) only[hA,hg1,hmg,List.length_map,go_sem]
  refine ZA.nxt (ZAL n.l[k] (hv.s.body _ (List.getElem_mem hlt)) _ _) ?_
  simp (disch:=first|decide|omega) only[hA,hg1,ZC,cellsOf,go_sem]
  refine ZA.nxt (hC hv.s _ _) ?_
  have hxl:(Q5 n).xs.length=n.l.length:=QO
  have hav:∀base,(Q5 n).av base=.agg [.v (.int .i64 n.now),.v (.bool n.fifo),.sl base 1 0 n.l.length,.sl (base+1) 1 0 n.tm.length,.sl (base+2) 1 0 n.fates.length]:=fun base=>by
   unfold Lv.av;rw[hxl];rfl
  have e1:B.length+5+1=B.length+6:=rfl
  have e2:B.length+5+2=B.length+7:=rfl
  have hrw:=UI (n:=n) (base:=B.length+5)
  simp (disch:=first|decide|omega) only[hA,hg1,hav,hrw,e1,e2,ZC,cellsOf,go_sem]
  have hD:=fun b l hid=>ZKN (B.length+5) 1 k ((Q5 n).xs.map (lvE (B.length+5))) b l hid (by rw[List.length_map,hxl];exact hlt)
  simp only[List.length_map,hxl]at hD
  refine ZA.nxt (hD _ _ (by rw[List.getElem?_append_right oM,Nat.add_sub_cancel_left];rfl)) ?_
  simp (disch:=first|decide|omega) only[hA,hg1,ZC,cellsOf,go_sem]
  have hI:=fun b l hid=>ZKO (B.length+6) 1 k (vs (n.tm.map eI)) b l hid (by rw[Q4,List.length_map];omega)
  simp only[List.length_map,Q4]at hI
  refine ZA.nxt (hI _ _ (by rw[List.getElem?_append_right oM,Nat.add_sub_cancel_left];rfl)) ?_
  simp (disch:=first|decide|omega) only[hA,hg1,ZC,cellsOf,go_sem]
  rw[←ZGy]
  obtain⟨σ,s1,s2⟩:∃σ:Nat→Nat,(∀j,j<n.l.length+3→σ j=j+5)∧σ (n.l.length+3)=3:=⟨fun j=>if j<n.l.length+3 then j+5 else 3,fun j h=>if_pos h,if_neg oM⟩
  have hbd:(K5 n k).bd.length=n.l.length:=by unfold K5;simp
  have hrl:((K5 n k).rows B.length).length=n.l.length+3:=by unfold Lv.rows;simp[hbd]
  have hzx:(K5 n k).xs.length=n.l.length-1:=by
   unfold K5
   simp only[List.length_append,List.length_take,List.length_drop,hxl];omega
  have hzt:(K5 n k).tm.length=n.tm.length-1:=by
   unfold K5
   simp only[List.length_append,List.length_take,List.length_drop];omega
  have hza:(K5 n k).av (B.length+5)=.agg [.v (.int .i64 n.now),.v (.bool n.fifo),.sl (B.length+5) 2 0 (n.l.length-1),.sl (B.length+6) 2 0 (n.tm.length-1),.sl (B.length+7) 1 0 n.fates.length]:=by
   unfold Lv.av
   rw[hzx,hzt]
   rfl
  refine VP (.inr rfl) (xs:=[(K5 n k).av (B.length+5),.agg [.v (.int .i64 n.l[k].fr),.v (.int .i64 n.l[k].to),.v (.int .i64 n.l[k].nu),.sl (B.length+3) 1 0 n.l[k].body.length],.v (.int .i64 0)]) (y:=.tup [(K5 n k).av B.length,.agg [.v (.int .i64 n.l[k].fr),.v (.int .i64 n.l[k].to),.v (.int .i64 n.l[k].nu),.sl (B.length+(3+n.l.length)) 1 0 n.l[k].body.length],.v (.int .i64 0)]) (l':=(K5 n k).rows B.length++[bdR n.l[k].body]) (by simp (disch:=first|decide|omega) only[ZE,ZY,hA,hg1,hza,go_sem]) (m:=n.l.length+4) (by rw[List.length_append,hrl];rfl) σ (fun a c ha hc h=>?_) (fun j r' h=>?_) ?_ hR hB ⟨by rw[hB,List.length_append];rfl,rfl,by rw[hB,List.length_append]⟩
  ·by_cases h1:a<n.l.length+3<;>by_cases h2:c<n.l.length+3
   ·rw[s1 a h1,s1 c h2]at h;omega
   ·rw[s1 a h1,show c=n.l.length+3 by omega,s2]at h;omega
   ·rw[s1 c h2,show a=n.l.length+3 by omega,s2]at h;omega
   ·omega
  ·by_cases hj:j<n.l.length+3
   ·rw[List.getElem?_append_left oM]at h
    have key:∀pre:List Row,pre.length=5→∃r,(pre++(K5 n k).rows (B.length+5))[σ j]? = some r∧RnR B.length (n.l.length+4) σ r r':=fun pre hp=>by
     have:=Lv.rnR (z:=K5 n k) ZGz (n:=B.length) (s:=5) (m:=n.l.length+4) oM (σ:=σ) (fun j hj=>s1 j oM) (pre:=pre) (junk:=[]) hp j r' h
     rwa [List.append_nil]at this
    exact key [_,_,_,_,_] rfl
   ·have hl:=(List.getElem?_eq_some_iff.1 h).1
    rw[List.length_append,hrl]at hl
    have hl:j<n.l.length+3+1:=hl
    obtain rfl:j=n.l.length+3:=by omega
    rw[List.getElem?_append_right oM,hrl,Nat.sub_self]at h
    cases h
    rw[s2]
    exact⟨_,rfl,RnR.plain⟩
  ·refine Rn.tupL (.cons (Lv.rnA oM (fun j hj=>s1 j oM)) (.cons (Rn.aggL (.cons (.v _) (.cons (.v _) (.cons (.v _) (.cons ?_ .nil))))) (.cons (.v _) .nil)))
   exact Rn.slE (by rw[Nat.add_comm 3];exact s2) oM
 ·obtain rfl:k=n.l.length:=by omega
  have hfi:fiR n to=-1:=ZCD h0
  have he:rcE n to=7:=by unfold rcE;rw[if_pos h1,if_pos h2,hfi];rfl
  obtain⟨b1,b2,b3⟩:=bad (by rw[he];decide)
  rw[b1,b2,b3,he]
  simp (disch:=first|decide|omega) only[hA,hg1,ZC,cellsOf,go_sem]
  exact ZB (.inr rfl) (xs:=[zNw,.agg [.v (.int .i64 0),.v (.int .i64 0),.v (.int .i64 0),.v .zsl],.v (.int .i64 7)]) (by simp (disch:=first|decide|omega) only[ZE,ZY,hA,hg1,zNw,go_sem]) (by simp only[one,zNw,lts.down,Nat.reduceLT,Nat.reduceAdd]) hR hB ⟨rfl,rfl,by simp⟩
theorem ZLY {n:Nw} {to:Int} {base:Nat}:Dv base (rcR n to base) (ZLZ n to base) (.agg ((eMs (rcM n to)).map .v)):=by
 by_cases he:rcE n to=0
 ·unfold ZLZ rcR
  rw[if_pos he,if_pos he]
  unfold eMs
  refine Dv.aggL (.cons (.v _) (.cons (.v _) (.cons (.v _) (.cons ?_ .nil))))
  refine Dv.slV (rows:=(rcM n to).body.map eI) ?_ (by simp)
  have hrl:((K5 n (fiR n to).toNat).rows base).length=3+n.l.length:=by unfold Lv.rows K5;simp;omega
  rw[List.getElem?_append_right oM,hrl,Nat.sub_self]
  rfl
 ·unfold ZLZ rcM
  rw[if_neg he,if_neg he]
  exact Dv.aggL (.cons (.v _) (.cons (.v _) (.cons (.v _) (.cons (.z 1) .nil))))
theorem ZMm {n:Nw} {to:Int} {base:Nat}:Dv base (rcR n to base) (ZM0 base (rcZ n to)) (nwA (rcN n to)):=by
 rw[←ZMl]
 by_cases he:rcE n to=0
 ·unfold rcZ rcR
  rw[if_pos he,if_pos he]
  exact (Lv.dv ZGz base).more _
 ·unfold rcZ
  rw[if_neg he]
  exact ZKa
theorem ZFY (n:Nw) (to:Int) (b l:List Row):ZA Tryz.prog 170 [.agg ((eNw n).map .v),.v (.int .i64 to)] b l
  (fun r b' l'=>r=.tup [nwA (rcN n to),.agg ((eMs (rcM n to)).map .v),.v (.int .i64 (rcE n to))]∧b'=b∧l'=l):=
 ZA.deep (Dv.tupL (.cons ZMm (.cons ZLY (.cons (.v _) .nil)))) (ZHb n to b l)
def inZ (x lo hi:Int):Bool:=decide (lo≤x∧x≤hi)
end Go.Proofs.YtoccdlnoaindmaaGreatDoor
namespace Go.Proofs.YtoccdlnoaindmaaGreatDoor
set_option linter.unusedVariables false
structure In where
 op:Int
 a:Int
 b:Int
structure Sv where
 name:ByteArray
 code:List In
 pc:Int
 vars:List Int
 off:Int
 rate:Int
structure Wd where
 sv:List Sv
 net:Nw
 now:Int
 sent:Int
 tr:Tr
def eIn (x:In):List IV:=[.int .i64 x.op,.int .i64 x.a,.int .i64 x.b]
def eSv (s:Sv):List IV:=[.str s.name,.isl 3 (s.code.map eIn),.int .i64 s.pc,.isl 1 (s.vars.map eI),.int .i64 s.off,.int .i64 s.rate]
def eWd (w:Wd):List IV:=[.isl 6 (w.sv.map eSv),.int .i64 w.net.now,.bool w.net.fifo,.isl 4 (w.net.l.map eMs),.isl 1 (w.net.tm.map eI),.isl 2 (w.net.fates.map eFt),.int .i64 w.now,.int .i64 w.sent,.isl 3 (w.tr.map ePr)]
def ZI0:In:=⟨0,0,0⟩
def dfSv:Sv:=⟨⟨#[]⟩,[],0,[],0,0⟩
def wd0:Wd:=⟨[],nw0,0,0,[]⟩
def Vp (k c p n:Int) (x:In):Bool:=
 if x.op=1∨x.op=2 then inZ x.a 0 (k-1)&&vlB x.b
 else if x.op=3 then inZ x.a 0 (k-1)&&(inZ x.b 0 (n-1)&&decide (x.b≠p))
 else if x.op=4 then inZ x.a 0 (k-1)
 else if x.op=5 then inZ x.a 0 (k-1)&&inZ x.b 0 (c-1)
 else if x.op=6 then inZ x.a 0 (c-1)&&inZ x.b 0 (k-1)
 else decide (x.op=7∨x.op=8)
def Vy (s:Sv):Bool:=inZ s.off 0 1000000&&inZ s.rate 500 2000
def Jf (s:Sv) (now:Int):Bool:=Vy s&&inZ now 0 1000000000
def Uc (s:Sv) (now:Int):Int:=if Jf s now=true then s.off+now*s.rate / 1000 else 0
def sv1 (s:Sv) (p n:Int):Bool:=Xo s.name&&(inZ s.code.length 1 100&&(decide (s.vars.length≤8)&&(inZ s.pc 0 s.code.length&&(Vy s&&(s.vars.all vlB&&s.code.all (Vp s.vars.length s.code.length p n))))))
def svB (l:List Sv) (p:Nat):Bool:=sv1 (l.getD p dfSv) p l.length&&(l.take p).all fun x=>!(x.name==(l.getD p dfSv).name)
def VE (l:List Sv):Bool:=inZ l.length 1 8&&(List.range l.length).all (svB l)
structure SvS (s:Sv):Prop where
 name:s.name.size≤1000000
 code:s.code.length≤1000000
 vars:s.vars.length≤1000000
structure SvsS (l:List Sv):Prop where
 len:l.length≤1000000
 all:∀s∈l,SvS s
theorem ZA6 {l:List Sv} {i:Nat} (h:i<l.length):(l.map eSv)[i]? = some [.str l[i].name,.isl 3 (l[i].code.map eIn),.int .i64 l[i].pc,.isl 1 (l[i].vars.map eI),.int .i64 l[i].off,.int .i64 l[i].rate]:=by
 rw[List.getElem?_map,List.getElem?_eq_getElem h];rfl
theorem ZBp {l:List In} {i:Nat} (h:i<l.length):(l.map eIn)[i]? = some [.int .i64 l[i].op,.int .i64 l[i].a,.int .i64 l[i].b]:=by
 rw[List.getElem?_map,List.getElem?_eq_getElem h];rfl
theorem ZFE (s:ByteArray):Xv [⟨s,[],[]⟩]=Xo s:=by
 have h1:Xf [⟨s,[],[]⟩] 0=if Xo s=true then 0 else 13:=by
  unfold Xf
  cases h:Xo s<;>simp[h,Q0]
 have h2:ids [⟨s,[],[]⟩]=[]:=by simp[ids,ZAX,Zc]
 unfold Xv Y6
 rw[h2,if_neg (by simp)]
 cases h:Xo s
 ·rw[h]at h1
  simp[h1]
 ·rw[h]at h1
  simp[h1]
end Go.Proofs.YtoccdlnoaindmaaGreatDoor
namespace Go.Proofs.YtoccdlnoaindmaaGreatDoor
set_option linter.unusedVariables false

def idA (x:Nat×Nat):AV:=.agg [.v (.int .i64 x.1),.v (.int .i64 x.2)]
theorem ZIB (w:World) (F:Nat→Prop) (L:LMap) (x:Nat×Nat):RepA w F L (idA x) (Zo x):=by
 refine QL.agg (vs:=#[.int .i64 x.1,.int .i64 x.2]) ?_
 exact QL.cons (.v _ _ (.int _ _)) (QL.cons (.v _ _ (.int _ _)) QL.nil)
theorem Xy {w:World} {F:Nat→Prop} {L:LMap} {x:AV} {xs:List AV} {vs:List Value} (h:QL w F L (x::xs) vs):∃v us,vs=v::us∧RepA w F L x v∧QL w F L xs us:=by
 obtain⟨h1,h2⟩:=h
 cases vs with
 |nil=>simp at h1
 |cons v us=>exact⟨v,us,rfl,h2 0 x v rfl rfl,by simpa using h1,fun i a u ha hu=>h2 (i+1) a u ha hu⟩
theorem JX {w:World} {F:Nat→Prop} {L:LMap} {vs:List Value} (h:QL w F L [] vs):vs=[]:=by
 have:=h.1
 exact List.eq_nil_of_length_eq_zero (by simpa using this.symm)
theorem ZB0 {w:World} {F:Nat→Prop} {L:LMap} {t:Tr} {xs:List AV} {vs:Array Value} (hn:Nm t) (h:QL w F L (.agg [.v (eT t)]::xs) vs.toList):∃u us,vs=(.agg #[u]::us).toArray∧SlR 3 RPr w u t∧QL w F L xs us:=by
 obtain⟨v,us,h1,h2,h3⟩:=Xy h
 obtain⟨cs,rfl,h4⟩:=h2.aggL
 obtain⟨u,rest,h5,h6,h7⟩:=Xy h4
 have:=JX h7
 subst this
 have hcs:cs=#[u]:=Array.toList_inj.1 (by rw[h5])
 subst hcs
 exact⟨u,us,Array.toList_inj.1 (by rw[h1]),tr_in hn h6.vI,h3⟩

section
theorem Kt (t:Tr) (hS:Sm t) (hN:Nm t) (b l:List Row):ZA Tryz.prog 44 [.agg [.v (eT t)]] b l (fun r b' l'=>r=.v (.bool (Xv t))∧b'=b∧l'=l):=by
 refine ZA.of_ext ⟨_,Tryz.func44,by kernel_rfl,by kernel_rfl⟩ (fun F L w vs hr=>?_)
 obtain⟨u,us,rfl,hs,hr2⟩:=ZB0 hN hr
 obtain rfl:=JX hr2
 refine (ZAh u t w hS hs).mono ?_
 rintro e w' ⟨rfl,he⟩
 exact⟨he,_,_,rfl,.v _ _ (.bool _),rfl,rfl,rfl⟩
theorem ZAt (t:Tr) (hS:Small t) (hN:Nm t) (b l:List Row):ZA Tryz.prog 44 [.agg [.v (eT t)]] b l (fun r b' l'=>r=.v (.bool (Xv t))∧b'=b∧l'=l):=Kt t hS.sm hN b l
end
end Go.Proofs.YtoccdlnoaindmaaGreatDoor
namespace Go.Proofs.YtoccdlnoaindmaaGreatDoor
set_option linter.unusedVariables false
set_option linter.unusedSimpArgs false
section
variable (cs:List Int) (lr:List IV) (p i:Nat) (kd pr mg:Int) (x4 x5:AV) (B l:List Row)
end

theorem ZGo {F:Nat→Prop} {W:World} (hF:∀b,F b→b<W.heap.size) (hG:ZM3 W F:=by intro _ _ h;cases h):Sim F (fun _ _=>none) ([]++[]) W:=
 ⟨fun i v z els hi=>by simp at hi,fun i v q hq=>(by cases hq),fun i i' v v' z z' e1 e2 bb q q' h1=>by simp at h1,fun b hb=>⟨hF b hb,by rintro⟨i,v,s,e1,q,h1,h2,h3⟩;cases h2⟩,hG⟩
def L2 (b4 b5:Nat):LMap:=fun id ver=>if id=0∧ver=0 then some (.pl b4 0 1 1) else if id=1∧ver=0 then some (.pl b5 0 1 1) else none
end Go.Proofs.YtoccdlnoaindmaaGreatDoor
namespace Go.Proofs.YtoccdlnoaindmaaGreatDoor
set_option linter.unusedVariables false
set_option linter.unusedSimpArgs false
structure CutOk (t:Tr) (c:List Int):Prop where
 len:c.length=t.length
 np:t.length≤1000000
 nv:∀x∈t,x.vars.length≤1000000
 ne:∀x∈t,x.evs.length≤1000000
 na:∀x∈t,∀e∈x.evs,e.asg.length≤1000000
 le:∀(k:Nat) (h:k<t.length) (h2:k<c.length),0≤c[k]∧c[k]≤t[k].evs.length
end Go.Proofs.YtoccdlnoaindmaaGreatDoor
namespace Go.Proofs.YtoccdlnoaindmaaGreatDoor
open Go.RowKit
set_option linter.unusedVariables false
attribute [local go_sem] Oper.semAt_some

def RInt (w:World) (b o:Nat) (x:Int):Prop:=w.cell? ⟨b,o,none⟩=some (.int .i64 x)
theorem RInt.keeps:ZEI RInt:=fun _ _ _ _ _ he h=>he.cellAt h
def cAt (cs:List Int) (p:Nat):Int:=cs.getD p 0
end Go.Proofs.YtoccdlnoaindmaaGreatDoor
namespace Go.Proofs.YtoccdlnoaindmaaGreatDoor
set_option linter.unusedVariables false

section
theorem ZDO (t:Tr) (hS:Small t) (hN:Nm t) (b l:List Row) (m:Int):ZA Tryz.prog 41 [.agg [.v (eT t)],.v (.int .i64 m)] b l (fun r b' l'=>r=.tup [idA (Qs t 2 m),.v (.bool (decide (0<(Qs t 2 m).2)))]∧b'=b∧l'=l):=by
 refine ZA.of_ext ⟨_,Tryz.func41,by kernel_rfl,by kernel_rfl⟩ (fun F L w vs hr=>?_)
 obtain⟨u,us,rfl,hs,hr2⟩:=ZB0 hN hr
 obtain⟨v,us,rfl,h3,hr2⟩:=Xy hr2
 obtain rfl:=JX hr2
 cases h3.vI
 refine (ZGO u t m w hS hs).mono ?_
 rintro e w' ⟨rfl,he⟩
 exact⟨he,_,_,rfl,QL.tup (QL.cons (ZIB _ _ _ _) (QL.cons (.v _ _ (.bool _)) QL.nil)),rfl,rfl,rfl⟩
theorem ZB1 (t:Tr) (hS:Small t) (hN:Nm t) (b l:List Row) (m:Int):ZA Tryz.prog 171 [.agg [.v (eT t)],.v (.int .i64 m)] b l (fun r b' l'=>r=.tup [idA (Qs t 3 m),.v (.bool (decide (0<(Qs t 3 m).2)))]∧b'=b∧l'=l):=by
 refine ZA.of_ext ⟨_,Tryz.func171,by kernel_rfl,by kernel_rfl⟩ (fun F L w vs hr=>?_)
 obtain⟨u,us,rfl,hs,hr2⟩:=ZB0 hN hr
 obtain⟨v,us,rfl,h3,hr2⟩:=Xy hr2
 obtain rfl:=JX hr2
 cases h3.vI
 refine (ZCv u t m w hS hs).mono ?_
 rintro e w' ⟨rfl,he⟩
 exact⟨he,_,_,rfl,QL.tup (QL.cons (ZIB _ _ _ _) (QL.cons (.v _ _ (.bool _)) QL.nil)),rfl,rfl,rfl⟩
theorem ZFk (t:Tr) (hS:Small t) (hN:Nm t) (b l:List Row) (hM:(ids t).length≤1000000):ZA Tryz.prog 47 [.agg [.v (eT t)]] b l (fun r b' l'=>r=.v (.int .i64 (KW t))∧b'=b∧l'=l):=by
 refine ZA.of_ext ⟨_,Tryz.func47,by kernel_rfl,by kernel_rfl⟩ (fun F L w vs hr=>?_)
 obtain⟨u,us,rfl,hs,hr2⟩:=ZB0 hN hr
 obtain rfl:=JX hr2
 refine (ZJD u t w hS hM hs).mono ?_
 rintro e w' ⟨rfl,he⟩
 exact⟨he,_,_,rfl,.v _ _ (.int _ _),rfl,rfl,rfl⟩
end
end Go.Proofs.YtoccdlnoaindmaaGreatDoor
namespace Go.Proofs.YtoccdlnoaindmaaGreatDoor
set_option linter.unusedVariables false
set_option linter.unusedSimpArgs false
theorem ZA.frz {P:Program} {f i ver sz:Nat} {args:List AV} {rows:List (List IV)} {b l:List Row} {Q:AV→List Row→List Row→Prop} (hi:l[i]? = some (.live ver sz (vs rows))) (h:ZA P f (args.map (frz (b.length+i) ver sz rows)) b (l.set i (.dead ver)) Q):ZA P f args b l Q:=by
 refine⟨h.1,fun F L w us s hr=>?_⟩
 obtain⟨F',s1,he1,st1,_⟩:=Jr (e:=args) hi F L w {tmps:=us,defers:=[]} s ⟨rfl,by have:=hr.1;simpa using this.symm,fun j x v hx hv=>hr.2 j x v hx (by simpa using hv)⟩
 refine Calls.mono (h.2 F' L w us s1 ⟨by have:=hr.1;simpa using this,fun j x v hx hv=>he1.2.2 j x v hx (by simpa using hv)⟩) ?_
 rintro en w' ⟨v,x,b',l',F2,L2,h1,h2,h3,h4,h5,h6⟩
 have hlen:(b++l.set i (.dead ver)).length=(b++l).length:=by simp
 have st:Step (b++l).length F L (b++l) w F' L (b++l.set i (.dead ver)) w:=by
  refine⟨st1.imm,fun _ _ _ _ hl=>hl,rfl,rfl,rfl,Nat.le_refl _,fun _ _ _=>rfl,st1.own,fun id hid v hv=>?_,st1.fnew⟩
  by_cases hj:id<b.length
  ·rw[List.getElem?_append_left hj]at hv⊢;exact hv
  ·rw[List.getElem?_append_right oM]at hv⊢
   by_cases hji:i=id-b.length
   ·rw[←hji,hi]at hv;cases hv
   ·rw[List.getElem?_set_ne hji];exact hv
 exact⟨v,x,b',l',F2,L2,h1,h2,h3,st.trans (hlen▸h4),h5,h6⟩

end Go.Proofs.YtoccdlnoaindmaaGreatDoor
namespace Go.Proofs.YtoccdlnoaindmaaGreatDoor
set_option linter.unusedVariables false
def kB (n:Nat) (f:Nat→Row):List Row:=(List.range n).map f
def rUp (f:Nat→Row) (i:Nat) (r:Row):Nat→Row:=fun j=>if i=j then r else f j
theorem Yt {f:Nat→Row} {i:Nat} {r:Row}:rUp f i r i=r:=by unfold rUp;rw[if_pos rfl]
theorem ZV {f:Nat→Row} {i j:Nat} {r:Row} (h:i≠j):rUp f i r j=f j:=by unfold rUp;rw[if_neg h]
theorem Zb {n:Nat} {f:Nat→Row}:(kB n f).length=n:=by simp[kB]
theorem JZ {n i:Nat} {f:Nat→Row} (h:i<n):(kB n f)[i]? = some (f i):=by
 unfold kB;rw[List.getElem?_map,List.getElem?_range h];rfl
theorem ZNJ {n i:Nat} {f:Nat→Row} {r:Row}:(kB n f).set i r=kB n (rUp f i r):=by
 apply List.ext_getElem?
 intro j
 by_cases hj:j<n
 ·rw[JZ hj]
  by_cases hij:i=j
  ·subst hij;rw[List.getElem?_set_self (by rw[Zb];exact hj),Yt]
  ·rw[List.getElem?_set_ne hij,JZ hj,ZV hij]
 ·rw[List.getElem?_eq_none (by rw[List.length_set,Zb];omega),List.getElem?_eq_none (by rw[Zb];omega)]
theorem J0 {n i:Nat} {f:Nat→Row} {l:List Row} (h:i<n):hget (kB n f) l i=some (f i):=by
 unfold hget;rw[if_pos (by rw[Zb];exact h),JZ h]
theorem Kh {n i:Nat} {f:Nat→Row} {l:List Row}:hget (kB n f) l (n+i)=l[i]?:=by
 unfold hget;rw[if_neg (by rw[Zb];omega),Zb,Nat.add_sub_cancel_left]
theorem ZBb {n:Nat} {f:Nat→Row} {l:List Row}:hget (kB n f) l n=l[0]?:=Kh (i:=0)
theorem Vc {n i:Nat} {f:Nat→Row} {r:Row} (h:i<n):YA (kB n f) i r=kB n (rUp f i r):=by
 unfold YA;rw[if_pos (by rw[Zb];exact h),ZNJ]
theorem Vb {n i:Nat} {f:Nat→Row} {l:List Row} {r:Row} (h:i<n):YP (kB n f) l i r=l:=by
 unfold YP;rw[if_pos (by rw[Zb];exact h)]
theorem U3 {n i:Nat} {f:Nat→Row} {r:Row}:YA (kB n f) (n+i) r=kB n f:=by
 unfold YA;rw[if_neg (by rw[Zb];omega)]
theorem ZAZ {n:Nat} {f:Nat→Row} {r:Row}:YA (kB n f) n r=kB n f:=U3 (i:=0)
theorem U2 {n i:Nat} {f:Nat→Row} {l:List Row} {r:Row}:YP (kB n f) l (n+i) r=l.set i r:=by
 unfold YP;rw[if_neg (by rw[Zb];omega),Zb,Nat.add_sub_cancel_left]
theorem ZAY {n:Nat} {f:Nat→Row} {l:List Row} {r:Row}:YP (kB n f) l n r=l.set 0 r:=U2 (i:=0)
theorem ZNK (B:List Row):∃n f,n=B.length∧B=kB n f∧∀i r,B[i]? = some r→f i=r:=by
 refine⟨B.length,fun i=>B.getD i (.dead 0),rfl,?_,fun i r h=>by simp only[List.getD_eq_getElem?_getD,h];rfl⟩
 apply List.ext_getElem?
 intro j
 by_cases hj:j<B.length
 ·rw[JZ hj,List.getD_eq_getElem?_getD,List.getElem?_eq_getElem hj];rfl
 ·rw[List.getElem?_eq_none oM,List.getElem?_eq_none (by rw[Zb];omega)]
def ZGP (m:Nat) (r:Row):Prop:=∀ver sz els,r=.live ver sz els→∀row∈els,∀c∈row,AVlt m c
theorem ZGP.live {m ver sz:Nat} {els:List (List AV)} (h:∀row∈els,∀c∈row,AVlt m c):ZGP m (.live ver sz els):=fun v s e he=>by cases he;exact h
theorem ZGP.dead {m ver:Nat}:ZGP m (.dead ver):=fun v s e he=>by cases he
theorem ZGP.vs {m ver sz:Nat} {rows:List (List IV)}:ZGP m (.live ver sz (vs rows)):=.live (Ui.2 trivial)
theorem XZ {α:Type} (x:α):List.replicate 1 x=[x]:=rfl
end Go.Proofs.YtoccdlnoaindmaaGreatDoor
namespace Go.Proofs.YtoccdlnoaindmaaGreatDoor
set_option linter.unusedVariables false
set_option linter.unusedSimpArgs false
attribute [local go_sem ↓] Zz Z0 QB QD Q8 Zg QA Q9 QC Qk ZM Zf Zy ZL Ze Zx ZS Zk QJ Z1 ZN QE Zh Zi Z4 Zj Z5 Zt Zd Qa QF Qc Qd XQ Qj XR XS Q6 Qo
attribute [local go_sem] Z2 ZO XT Z6 ZR XP Qh Qf Qe KT KU Qi QG QH QI Q7 ZI Zv ZQ Zu ZP Z3 aop YC XG XB Q2 XC QU XD Uh Y4 YZ amm YK QT Zp YQ XA Y0 comma Qx Y3 Ug Y2 Y1 UL YO YM XJ UK eqC eqF Jg cellsOf ZC Xm Xg YN Vx rd rdI Xs mk Qr AV.cell List.all_cons List.all_nil Bool.and_true Bool.true_and Bool.and_self List.length_cons List.length_nil List.length_append Nat.reduceAdd Nat.reduceSub Nat.reduceMul Nat.zero_add Nat.add_zero List.cons_append List.nil_append List.append_assoc List.append_nil List.getElem?_cons_zero List.getElem?_cons_succ List.getElem?_nil List.set_cons_zero List.set_cons_succ List.drop_zero List.drop_succ_cons List.take_zero List.take_succ_cons List.take_nil List.drop_nil List.map_cons List.map_nil Option.map_some if_true if_false Bool.false_eq_true and_self true_and and_true Nat.reduceLeDiff Nat.reduceLT Nat.le_refl Nat.reduceEqDiff ite_true ite_false beq_self_eq_true beq_true beq_false Bool.not_true Bool.not_false Bool.true_beq Bool.false_beq Xl Q4 Zr Qt Qw QZ QY QX QW Qv Qu Xi Z7 ZAR Ke ZAS ZAP JJ JH JK JI geI gtI JM decide_true decide_false room List.getElem?_map List.length_map List.length_take Int.toNat_natCast Nat.min_def Nat.min_self XU XM Xk QR Xb VC Zn List.getElem_cons_zero List.getElem_cons_succ
def a_within:AFunc:=⟨3,15,[.tmp 6],(.seq (.region [⟨some 6,.mv (.c (.v (.bool false))),none⟩]) (.seq (.region [⟨some 7,.mv (.t 0),none⟩,⟨some 8,.mv (.t 1),none⟩,⟨some 9,.bin .geq (.t 7) (.t 8),none⟩,⟨some 10,.mv (.t 9),none⟩,⟨some 11,.mv (.t 0),some (10,true)⟩,⟨some 12,.mv (.t 2),some (10,true)⟩,⟨some 13,.bin .leq (.t 11) (.t 12),some (10,true)⟩,⟨some 14,.pick (.t 10) (.t 13) (.c (.v (.bool false))),none⟩,⟨some 6,.mv (.t 14),none⟩]) .ret))⟩
theorem ZDu:Zq Tryz.prog 61=some a_within:=by kernel_rfl
def a_wval:AFunc:=⟨1,5,[.tmp 2],(.seq (.region [⟨some 2,.mv (.c (.v (.bool false))),none⟩]) (.seq (.region [⟨some 3,.mv (.t 0),none⟩,⟨some 4,.call (.c (.fn 61 [])) [(.t 3),(.c (.v (.int .i64 (-1073741824)))),(.c (.v (.int .i64 1073741824)))],none⟩,⟨some 2,.mv (.t 4),none⟩]) .ret))⟩
theorem ZIl:Zq Tryz.prog 110=some a_wval:=by kernel_rfl
def a_wclock:AFunc:=⟨1,11,[.tmp 2],(.seq (.region [⟨some 1,.box (.t 0),none⟩,⟨some 2,.mv (.c (.v (.bool false))),none⟩]) (.seq (.region [⟨some 3,.faddr 4 (.t 1),none⟩,⟨some 4,.load none (.t 3),none⟩,⟨some 5,.call (.c (.fn 61 [])) [(.t 4),(.c (.v (.int .i64 0))),(.c (.v (.int .i64 1000000)))],none⟩,⟨some 6,.mv (.t 5),none⟩,⟨some 7,.faddr 5 (.t 1),some (6,true)⟩,⟨some 8,.load none (.t 7),some (6,true)⟩,⟨some 9,.call (.c (.fn 61 [])) [(.t 8),(.c (.v (.int .i64 500))),(.c (.v (.int .i64 2000)))],some (6,true)⟩,⟨some 10,.pick (.t 6) (.t 9) (.c (.v (.bool false))),none⟩,⟨some 2,.mv (.t 10),none⟩]) .ret))⟩
theorem ZDw:Zq Tryz.prog 60=some a_wclock:=by kernel_rfl
def a_wClock:AFunc:=⟨2,22,[.tmp 4,.tmp 5],(.seq (.region [⟨some 2,.box (.t 0),none⟩,⟨some 4,.mv (.c (.v (.int .i64 0))),none⟩,⟨some 5,.mv (.c (.v (.int .i64 0))),none⟩]) (.seq (.seq (.region [⟨some 6,.load (some 6) (.t 2),none⟩,⟨some 7,.call (.c (.fn 60 [])) [(.t 6)],none⟩,⟨some 8,.not (.t 7),none⟩,⟨some 9,.mv (.t 8),none⟩,⟨some 10,.mv (.t 1),some (9,false)⟩,⟨some 11,.call (.c (.fn 61 [])) [(.t 10),(.c (.v (.int .i64 0))),(.c (.v (.int .i64 1000000000)))],some (9,false)⟩,⟨some 12,.not (.t 11),some (9,false)⟩,⟨some 13,.pick (.t 9) (.c (.v (.bool true))) (.t 12),none⟩]) (.cond (.t 13) (.seq (.region [⟨some 4,.mv (.c (.v (.int .i64 0))),none⟩,⟨some 5,.mv (.c (.v (.int .i64 2))),none⟩]) .ret) .skip)) (.seq (.region [⟨some 14,.faddr 4 (.t 2),none⟩,⟨some 15,.load none (.t 14),none⟩,⟨some 16,.mv (.t 1),none⟩,⟨some 17,.faddr 5 (.t 2),none⟩,⟨some 18,.load none (.t 17),none⟩,⟨some 19,.bin .mul (.t 16) (.t 18),none⟩,⟨some 20,.bin .quo (.t 19) (.c (.v (.int .i64 1000))),none⟩,⟨some 21,.bin .add (.t 15) (.t 20),none⟩,⟨some 4,.mv (.t 21),none⟩,⟨some 5,.mv (.c (.v (.int .i64 0))),none⟩]) .ret)))⟩
theorem ZEC:Zq Tryz.prog 15=some a_wClock:=by kernel_rfl
def a_wright:AFunc:=⟨4,79,[.tmp 8],(.seq (.region [⟨some 4,.box (.t 0),none⟩,⟨some 7,.box (.t 3),none⟩,⟨some 8,.mv (.c (.v (.bool false))),none⟩]) (.seq (.region [⟨some 11,.mkfn 153 [(.t 4)],none⟩,⟨some 9,.mv (.t 11),none⟩]) (.seq (.region [⟨some 12,.mkfn 154 [(.t 4)],none⟩,⟨some 10,.mv (.t 12),none⟩]) (.seq (.seq (.region [⟨some 13,.faddr 0 (.t 7),none⟩,⟨some 14,.load none (.t 13),none⟩]) (.block 0 (.seq (.seq (.region [⟨some 16,.bin .eql (.t 14) (.c (.v (.int .i64 1))),none⟩,⟨some 15,.mv (.t 16),none⟩]) (.cond (.t 15) .skip (.region [⟨some 17,.bin .eql (.t 14) (.c (.v (.int .i64 2))),none⟩,⟨some 15,.mv (.t 17),none⟩]))) (.cond (.t 15) (.seq (.region [⟨some 18,.mv (.t 9),none⟩,⟨some 19,.faddr 1 (.t 7),none⟩,⟨some 20,.load none (.t 19),none⟩,⟨some 21,.call (.t 18) [(.t 20)],none⟩,⟨some 22,.mv (.t 21),none⟩,⟨some 23,.faddr 2 (.t 7),some (22,true)⟩,⟨some 24,.load none (.t 23),some (22,true)⟩,⟨some 25,.call (.c (.fn 110 [])) [(.t 24)],some (22,true)⟩,⟨some 26,.pick (.t 22) (.t 25) (.c (.v (.bool false))),none⟩,⟨some 8,.mv (.t 26),none⟩]) .ret) (.seq (.region [⟨some 28,.bin .eql (.t 14) (.c (.v (.int .i64 3))),none⟩,⟨some 27,.mv (.t 28),none⟩]) (.cond (.t 27) (.seq (.region [⟨some 29,.mv (.t 9),none⟩,⟨some 30,.faddr 1 (.t 7),none⟩,⟨some 31,.load none (.t 30),none⟩,⟨some 32,.call (.t 29) [(.t 31)],none⟩,⟨some 33,.mv (.t 32),none⟩,⟨some 34,.faddr 2 (.t 7),some (33,true)⟩,⟨some 35,.load none (.t 34),some (33,true)⟩,⟨some 36,.mv (.t 2),some (33,true)⟩,⟨some 37,.bin .sub (.t 36) (.c (.v (.int .i64 1))),some (33,true)⟩,⟨some 38,.call (.c (.fn 61 [])) [(.t 35),(.c (.v (.int .i64 0))),(.t 37)],some (33,true)⟩,⟨some 39,.pick (.t 33) (.t 38) (.c (.v (.bool false))),none⟩,⟨some 40,.mv (.t 39),none⟩,⟨some 41,.faddr 2 (.t 7),some (40,true)⟩,⟨some 42,.load none (.t 41),some (40,true)⟩,⟨some 43,.mv (.t 1),some (40,true)⟩,⟨some 44,.bin .neq (.t 42) (.t 43),some (40,true)⟩,⟨some 45,.pick (.t 40) (.t 44) (.c (.v (.bool false))),none⟩,⟨some 8,.mv (.t 45),none⟩]) .ret) (.seq (.region [⟨some 47,.bin .eql (.t 14) (.c (.v (.int .i64 4))),none⟩,⟨some 46,.mv (.t 47),none⟩]) (.cond (.t 46) (.seq (.region [⟨some 48,.mv (.t 9),none⟩,⟨some 49,.faddr 1 (.t 7),none⟩,⟨some 50,.load none (.t 49),none⟩,⟨some 51,.call (.t 48) [(.t 50)],none⟩,⟨some 8,.mv (.t 51),none⟩]) .ret) (.seq (.region [⟨some 53,.bin .eql (.t 14) (.c (.v (.int .i64 5))),none⟩,⟨some 52,.mv (.t 53),none⟩]) (.cond (.t 52) (.seq (.region [⟨some 54,.mv (.t 9),none⟩,⟨some 55,.faddr 1 (.t 7),none⟩,⟨some 56,.load none (.t 55),none⟩,⟨some 57,.call (.t 54) [(.t 56)],none⟩,⟨some 58,.mv (.t 57),none⟩,⟨some 59,.mv (.t 10),some (58,true)⟩,⟨some 60,.faddr 2 (.t 7),some (58,true)⟩,⟨some 61,.load none (.t 60),some (58,true)⟩,⟨some 62,.call (.t 59) [(.t 61)],some (58,true)⟩,⟨some 63,.pick (.t 58) (.t 62) (.c (.v (.bool false))),none⟩,⟨some 8,.mv (.t 63),none⟩]) .ret) (.seq (.region [⟨some 65,.bin .eql (.t 14) (.c (.v (.int .i64 6))),none⟩,⟨some 64,.mv (.t 65),none⟩]) (.cond (.t 64) (.seq (.region [⟨some 66,.mv (.t 10),none⟩,⟨some 67,.faddr 1 (.t 7),none⟩,⟨some 68,.load none (.t 67),none⟩,⟨some 69,.call (.t 66) [(.t 68)],none⟩,⟨some 70,.mv (.t 69),none⟩,⟨some 71,.mv (.t 9),some (70,true)⟩,⟨some 72,.faddr 2 (.t 7),some (70,true)⟩,⟨some 73,.load none (.t 72),some (70,true)⟩,⟨some 74,.call (.t 71) [(.t 73)],some (70,true)⟩,⟨some 75,.pick (.t 70) (.t 74) (.c (.v (.bool false))),none⟩,⟨some 8,.mv (.t 75),none⟩]) .ret) (.seq (.seq (.region [⟨some 77,.bin .eql (.t 14) (.c (.v (.int .i64 7))),none⟩,⟨some 76,.mv (.t 77),none⟩]) (.cond (.t 76) .skip (.region [⟨some 78,.bin .eql (.t 14) (.c (.v (.int .i64 8))),none⟩,⟨some 76,.mv (.t 78),none⟩]))) (.cond (.t 76) (.seq (.region [⟨some 8,.mv (.c (.v (.bool true))),none⟩]) .ret) .skip)))))))))))))) (.seq (.region [⟨some 8,.mv (.c (.v (.bool false))),none⟩]) .ret)))))⟩
theorem ZDt:Zq Tryz.prog 113=some a_wright:=by kernel_rfl
def a_wright1:AFunc:=⟨2,10,[.tmp 3],(.seq (.region [⟨some 3,.mv (.c (.v (.bool false))),none⟩]) (.seq (.region [⟨some 4,.mv (.t 0),none⟩,⟨some 5,.faddr 3 (.t 1),none⟩,⟨some 6,.load none (.t 5),none⟩,⟨some 7,.len (.t 6),none⟩,⟨some 8,.bin .sub (.t 7) (.c (.v (.int .i64 1))),none⟩,⟨some 9,.call (.c (.fn 61 [])) [(.t 4),(.c (.v (.int .i64 0))),(.t 8)],none⟩,⟨some 3,.mv (.t 9),none⟩]) .ret))⟩
theorem ZCp:Zq Tryz.prog 153=some a_wright1:=by kernel_rfl
def a_wright2:AFunc:=⟨2,10,[.tmp 3],(.seq (.region [⟨some 3,.mv (.c (.v (.bool false))),none⟩]) (.seq (.region [⟨some 4,.mv (.t 0),none⟩,⟨some 5,.faddr 1 (.t 1),none⟩,⟨some 6,.load none (.t 5),none⟩,⟨some 7,.len (.t 6),none⟩,⟨some 8,.bin .sub (.t 7) (.c (.v (.int .i64 1))),none⟩,⟨some 9,.call (.c (.fn 61 [])) [(.t 4),(.c (.v (.int .i64 0))),(.t 8)],none⟩,⟨some 3,.mv (.t 9),none⟩]) .ret))⟩
theorem ZCo:Zq Tryz.prog 154=some a_wright2:=by kernel_rfl

theorem Qp (x lo hi:Int) (b l:List Row):ZA Tryz.prog 61 [.v (.int .i64 x),.v (.int .i64 lo),.v (.int .i64 hi)] b l (fun r b' l'=>r=.v (.bool (inZ x lo hi))∧b'=b∧l'=l):=by
 refine ZD ZDu rfl (by decide) ?_
 intro B g hB hR hE hA;simp only[Zn]at hA
 by_cases h1:lo≤x
 ·have d1:decide (x≥lo)=true:=decide_eq_true h1
  have d1':decide (lo≤x)=true:=decide_eq_true h1
  simp (disch:=first|decide|omega) only[a_within,hA,d1,d1',go_sem]
  exact ZB (xs:=[.v (.bool (decide (x≤hi)))]) (.inr rfl) (by simp (disch:=first|decide|omega) only[ZE,ZY,go_sem,hA]) kO hR hB ⟨by simp[inZ,h1,one],rfl,rfl⟩
 ·have d1:decide (x≥lo)=false:=decide_eq_false h1
  have d1':decide (lo≤x)=false:=decide_eq_false h1
  simp (disch:=first|decide|omega) only[a_within,hA,d1,d1',go_sem]
  exact ZB (xs:=[.v (.bool false)]) (.inr rfl) (by simp (disch:=first|decide|omega) only[ZE,ZY,go_sem,hA]) kO hR hB ⟨by simp[inZ,h1,one],rfl,rfl⟩
theorem UN (x:Int) (b l:List Row):ZA Tryz.prog 110 [.v (.int .i64 x)] b l (fun r b' l'=>r=.v (.bool (vlB x))∧b'=b∧l'=l):=by
 refine ZD ZIl rfl (by decide) ?_
 intro B g hB hR hE hA;simp only[Zn]at hA
 simp (disch:=first|decide|omega) only[a_wval,hA,go_sem]
 refine ZA.nxt (Qp _ _ _ _ _) ?_
 simp (disch:=first|decide|omega) only[hA,go_sem]
 exact ZB (xs:=[.v (.bool (inZ x (-1073741824) 1073741824))]) (.inr rfl) (by simp (disch:=first|decide|omega) only[ZE,ZY,go_sem,hA]) kO hR hB ⟨rfl,rfl,rfl⟩
def LstC (x:AV):Prop:=(∃y,x=.v y)∨∃id ver o n,x=.sl id ver o n
theorem Kr (y0 y1 y2:IV) (x3:AV) (off rate:Int) (b l:List Row) (h3:LstC x3):ZA Tryz.prog 60 [.agg [.v y0,.v y1,.v y2,x3,.v (.int .i64 off),.v (.int .i64 rate)]] b l (fun r b' l'=>r=.v (.bool (inZ off 0 1000000&&inZ rate 500 2000))∧b'=b∧l'=l):=by
 refine ZD ZDw rfl (by decide) ?_
 intro B g hB hR hE hA;simp only[Zn]at hA
 rcases h3 with ⟨y,rfl⟩|⟨id,ver,o,n,rfl⟩
 all_goals
  simp (disch:=first|decide|omega) only[a_wclock,hA,go_sem]
  refine ZA.nxt (Qp _ _ _ _ _) ?_
  cases h1:inZ off 0 1000000
  ·simp (disch:=first|decide|omega) only[hA,go_sem]
   exact ZB (xs:=[.v (.bool false)]) (.inr rfl) (by simp (disch:=first|decide|omega) only[ZE,ZY,go_sem,hA]) kO hR hB ⟨by simp[one],rfl,rfl⟩
  ·simp (disch:=first|decide|omega) only[hA,go_sem]
   refine ZA.nxt (Qp _ _ _ _ _) ?_
   simp (disch:=first|decide|omega) only[hA,go_sem]
   exact ZB (xs:=[.v (.bool (inZ rate 500 2000))]) (.inr rfl) (by simp (disch:=first|decide|omega) only[ZE,ZY,go_sem,hA]) kO hR hB ⟨by simp[one],rfl,rfl⟩
theorem ZEn {s:Sv} {now:Int} (h:Jf s now=true):(0≤s.off∧s.off≤1000000)∧(500≤s.rate∧s.rate≤2000)∧(0≤now∧now≤1000000000)∧0≤now*s.rate∧now*s.rate≤2000000000000:=by
 unfold Jf Vy inZ at h
 simp only[Bool.and_eq_true,decide_eq_true_eq]at h
 obtain⟨⟨h1,h2⟩,h3⟩:=h
 refine⟨h1,h2,h3,Int.mul_nonneg h3.1 oM,?_⟩
 have:=Int.mul_le_mul h3.2 h2.2 oM oM
 omega
theorem Vu (y0 y1 y2:IV) (x3:AV) (s:Sv) (now:Int) (b l:List Row) (h3:LstC x3):ZA Tryz.prog 15 [.agg [.v y0,.v y1,.v y2,x3,.v (.int .i64 s.off),.v (.int .i64 s.rate)],.v (.int .i64 now)] b l (fun r b' l'=>r=.tup [.v (.int .i64 (Uc s now)),.v (.int .i64 (if Jf s now=true then 0 else 2))]∧b'=b∧l'=l):=by
 refine ZD ZEC rfl (by decide) ?_
 intro B g hB hR hE hA;simp only[Zn]at hA
 have cC:=fun b l=>Kr y0 y1 y2 x3 s.off s.rate b l h3
 have e1:(inZ s.off 0 1000000&&inZ s.rate 500 2000)=Vy s:=rfl
 rw[e1]at cC
 rcases h3 with ⟨y,rfl⟩|⟨id,ver,o,n,rfl⟩
 all_goals
  simp (disch:=first|decide|omega) only[a_wClock,hA,go_sem]
  refine ZA.nxt (cC _ _) ?_
  cases h1:Vy s
  ·have hk:Jf s now=false:=by unfold Jf;rw[h1];rfl
   simp (disch:=first|decide|omega) only[hA,go_sem]
   exact ZB (xs:=[.v (.int .i64 0),.v (.int .i64 2)]) (.inr rfl) (by simp (disch:=first|decide|omega) only[ZE,ZY,go_sem,hA]) kO hR hB ⟨by unfold Uc;rw[hk];rfl,rfl,rfl⟩
  ·simp (disch:=first|decide|omega) only[hA,go_sem]
   refine ZA.nxt (Qp _ _ _ _ _) ?_
   cases h2:inZ now 0 1000000000
   ·have hk:Jf s now=false:=by unfold Jf;rw[h1,h2];rfl
    simp (disch:=first|decide|omega) only[hA,go_sem]
    exact ZB (xs:=[.v (.int .i64 0),.v (.int .i64 2)]) (.inr rfl) (by simp (disch:=first|decide|omega) only[ZE,ZY,go_sem,hA]) kO hR hB ⟨by unfold Uc;rw[hk];rfl,rfl,rfl⟩
   ·have hk:Jf s now=true:=by unfold Jf;rw[h1,h2];rfl
    obtain⟨g1,g2,g3,g4,g5⟩:=ZEn hk
    have hd:Int.tdiv (now*s.rate) 1000=now*s.rate / 1000:=Int.tdiv_eq_ediv_of_nonneg g4
    have hw1:IntKind.i64.wrap (now*s.rate)=now*s.rate:=Z7 oM oM
    have hw2:IntKind.i64.wrap (now*s.rate / 1000)=now*s.rate / 1000:=Z7 oM oM
    have hw3:IntKind.i64.wrap (s.off+now*s.rate / 1000)=s.off+now*s.rate / 1000:=Z7 oM oM
    have n0:((1000:Int)=0)=False:=by decide
    simp (disch:=first|decide|omega) only[hA,hd,hw1,hw2,hw3,n0,go_sem]
    exact ZB (xs:=[.v (.int .i64 (s.off+now*s.rate / 1000)),.v (.int .i64 0)]) (.inr rfl) (by simp (disch:=first|decide|omega) only[ZE,ZY,go_sem,hA]) kO hR hB ⟨by unfold Uc;rw[hk];rfl,rfl,rfl⟩
def Vh (s:Sv):Row:=.live 0 6 [[.v (.str s.name),.v (.isl 3 (s.code.map eIn)),.v (.int .i64 s.pc),.v (.isl 1 (s.vars.map eI)),.v (.int .i64 s.off),.v (.int .i64 s.rate)]]
theorem YL (s:Sv) (hS:SvS s) (x:Int) (id:Nat) (b l:List Row) (hg:hget b l id=some (Vh s)):ZA Tryz.prog 153 [.v (.int .i64 x),.ptr id 0 0 0] b l (fun r b' l'=>r=.v (.bool (inZ x 0 (s.vars.length-1)))∧b'=b∧l'=l):=by
 refine ZD ZCp rfl (by decide) ?_
 intro B g hB hR hE hA;simp only[Zn]at hA
 have hv:=hS.vars
 have hg2:∀l',hget B l' id=some (Vh s):=fun l'=>by
  rw[Qq]at hg
  rw[Qq,List.getElem?_append_left (by rw[hB];exact (List.getElem?_eq_some_iff.1 hg).1),hB];exact hg
 unfold Vh at hg2
 simp (disch:=first|decide|omega) only[a_wright1,hA,hg2,List.length_map,go_sem]
 refine ZA.nxt (Qp _ _ _ _ _) ?_
 simp (disch:=first|decide|omega) only[hA,go_sem]
 exact ZB (xs:=[.v (.bool (inZ x 0 (s.vars.length-1)))]) (.inr rfl) (by simp (disch:=first|decide|omega) only[ZE,ZY,go_sem,hA]) kO hR hB ⟨rfl,rfl,rfl⟩
theorem KJ (s:Sv) (hS:SvS s) (x:Int) (id:Nat) (b l:List Row) (hg:hget b l id=some (Vh s)):ZA Tryz.prog 154 [.v (.int .i64 x),.ptr id 0 0 0] b l (fun r b' l'=>r=.v (.bool (inZ x 0 (s.code.length-1)))∧b'=b∧l'=l):=by
 refine ZD ZCo rfl (by decide) ?_
 intro B g hB hR hE hA;simp only[Zn]at hA
 have hv:=hS.code
 have hg2:∀l',hget B l' id=some (Vh s):=fun l'=>by
  rw[Qq]at hg
  rw[Qq,List.getElem?_append_left (by rw[hB];exact (List.getElem?_eq_some_iff.1 hg).1),hB];exact hg
 unfold Vh at hg2
 simp (disch:=first|decide|omega) only[a_wright2,hA,hg2,List.length_map,go_sem]
 refine ZA.nxt (Qp _ _ _ _ _) ?_
 simp (disch:=first|decide|omega) only[hA,go_sem]
 exact ZB (xs:=[.v (.bool (inZ x 0 (s.code.length-1)))]) (.inr rfl) (by simp (disch:=first|decide|omega) only[ZE,ZY,go_sem,hA]) kO hR hB ⟨rfl,rfl,rfl⟩
theorem ZDF (s:Sv) (hS:SvS s) (p n:Int) (hn:0≤n∧n≤1000000) (x:In) (b l:List Row):ZA Tryz.prog 113 [.agg [.v (.str s.name),.v (.isl 3 (s.code.map eIn)),.v (.int .i64 s.pc),.v (.isl 1 (s.vars.map eI)),.v (.int .i64 s.off),.v (.int .i64 s.rate)],.v (.int .i64 p),.v (.int .i64 n),.agg [.v (.int .i64 x.op),.v (.int .i64 x.a),.v (.int .i64 x.b)]] b l (fun r b' l'=>r=.v (.bool (Vp s.vars.length s.code.length p n x))∧b'=b∧l'=l):=by
 refine ZD ZDt rfl (by decide) ?_
 intro B g hB hR hE hA;simp only[Zn]at hA
 have hv:=hS.vars
 have hc:=hS.code
 have hwn:IntKind.i64.wrap (n-1)=n-1:=Z7 oM oM
 by_cases o:x.op=1
 ·have hr:Vp s.vars.length s.code.length p n x=(inZ x.a 0 (s.vars.length-1)&&vlB x.b):=by unfold Vp;rw[if_pos oM]
  rw[hr]
  have e1:(x.op==1)=true:=by simp[o]
  have e2:(x.op==2)=false:=by simp[o]
  have e3:(x.op==3)=false:=by simp[o]
  have e4:(x.op==4)=false:=by simp[o]
  have e5:(x.op==5)=false:=by simp[o]
  have e6:(x.op==6)=false:=by simp[o]
  have e7:(x.op==7)=false:=by simp[o]
  have e8:(x.op==8)=false:=by simp[o]
  simp (disch:=first|decide|omega) only[a_wright,hA,e1,e2,e3,e4,e5,e6,e7,e8,go_sem]
  refine ZA.nxt (YL s hS x.a B.length B _ (by rw[ZI];rfl)) ?_
  cases h1:inZ x.a 0 (s.vars.length-1)
  ·simp (disch:=first|decide|omega) only[hA,go_sem]
   exact ZB (xs:=[.v (.bool false)]) (.inr rfl) (by simp (disch:=first|decide|omega) only[ZE,ZY,go_sem,hA]) kO hR hB ⟨by simp[one],rfl,rfl⟩
  ·simp (disch:=first|decide|omega) only[hA,go_sem]
   refine ZA.nxt (UN _ _ _) ?_
   simp (disch:=first|decide|omega) only[hA,go_sem]
   exact ZB (xs:=[.v (.bool (vlB x.b))]) (.inr rfl) (by simp (disch:=first|decide|omega) only[ZE,ZY,go_sem,hA]) kO hR hB ⟨by simp[one],rfl,rfl⟩
 have o1:=o
 clear o
 by_cases o:x.op=2
 ·have hr:Vp s.vars.length s.code.length p n x=(inZ x.a 0 (s.vars.length-1)&&vlB x.b):=by unfold Vp;rw[if_pos oM]
  rw[hr]
  have e1:(x.op==1)=false:=by simp[o]
  have e2:(x.op==2)=true:=by simp[o]
  have e3:(x.op==3)=false:=by simp[o]
  have e4:(x.op==4)=false:=by simp[o]
  have e5:(x.op==5)=false:=by simp[o]
  have e6:(x.op==6)=false:=by simp[o]
  have e7:(x.op==7)=false:=by simp[o]
  have e8:(x.op==8)=false:=by simp[o]
  simp (disch:=first|decide|omega) only[a_wright,hA,e1,e2,e3,e4,e5,e6,e7,e8,go_sem]
  refine ZA.nxt (YL s hS x.a B.length B _ (by rw[ZI];rfl)) ?_
  cases h1:inZ x.a 0 (s.vars.length-1)
  ·simp (disch:=first|decide|omega) only[hA,go_sem]
   exact ZB (xs:=[.v (.bool false)]) (.inr rfl) (by simp (disch:=first|decide|omega) only[ZE,ZY,go_sem,hA]) kO hR hB ⟨by simp[one],rfl,rfl⟩
  ·simp (disch:=first|decide|omega) only[hA,go_sem]
   refine ZA.nxt (UN _ _ _) ?_
   simp (disch:=first|decide|omega) only[hA,go_sem]
   exact ZB (xs:=[.v (.bool (vlB x.b))]) (.inr rfl) (by simp (disch:=first|decide|omega) only[ZE,ZY,go_sem,hA]) kO hR hB ⟨by simp[one],rfl,rfl⟩
 have o2:=o
 clear o
 by_cases o:x.op=3
 ·have hr:Vp s.vars.length s.code.length p n x=(inZ x.a 0 (s.vars.length-1)&&(inZ x.b 0 (n-1)&&decide (x.b≠p))):=by unfold Vp;rw[if_neg oM,if_pos o]
  rw[hr]
  have e1:(x.op==1)=false:=by simp[o]
  have e2:(x.op==2)=false:=by simp[o]
  have e3:(x.op==3)=true:=by simp[o]
  have e4:(x.op==4)=false:=by simp[o]
  have e5:(x.op==5)=false:=by simp[o]
  have e6:(x.op==6)=false:=by simp[o]
  have e7:(x.op==7)=false:=by simp[o]
  have e8:(x.op==8)=false:=by simp[o]
  simp (disch:=first|decide|omega) only[a_wright,hA,e1,e2,e3,e4,e5,e6,e7,e8,go_sem]
  refine ZA.nxt (YL s hS x.a B.length B _ (by rw[ZI];rfl)) ?_
  cases h1:inZ x.a 0 (s.vars.length-1)
  ·simp (disch:=first|decide|omega) only[hA,go_sem]
   exact ZB (xs:=[.v (.bool false)]) (.inr rfl) (by simp (disch:=first|decide|omega) only[ZE,ZY,go_sem,hA]) kO hR hB ⟨by simp[one],rfl,rfl⟩
  ·simp (disch:=first|decide|omega) only[hA,hwn,go_sem]
   refine ZA.nxt (Qp _ _ _ _ _) ?_
   cases h2:inZ x.b 0 (n-1)
   ·simp (disch:=first|decide|omega) only[hA,go_sem]
    exact ZB (xs:=[.v (.bool false)]) (.inr rfl) (by simp (disch:=first|decide|omega) only[ZE,ZY,go_sem,hA]) kO hR hB ⟨by simp[one],rfl,rfl⟩
   ·have hb:(x.b != p)=decide (x.b≠p):=by by_cases h:x.b=p<;>simp[h]
    simp (disch:=first|decide|omega) only[hA,hb,go_sem]
    exact ZB (xs:=[.v (.bool (decide (x.b≠p)))]) (.inr rfl) (by simp (disch:=first|decide|omega) only[ZE,ZY,go_sem,hA]) kO hR hB ⟨by simp[one],rfl,rfl⟩
 have o3:=o
 clear o
 by_cases o:x.op=4
 ·have hr:Vp s.vars.length s.code.length p n x=inZ x.a 0 (s.vars.length-1):=by unfold Vp;rw[if_neg oM,if_neg oM,if_pos o]
  rw[hr]
  have e1:(x.op==1)=false:=by simp[o]
  have e2:(x.op==2)=false:=by simp[o]
  have e3:(x.op==3)=false:=by simp[o]
  have e4:(x.op==4)=true:=by simp[o]
  have e5:(x.op==5)=false:=by simp[o]
  have e6:(x.op==6)=false:=by simp[o]
  have e7:(x.op==7)=false:=by simp[o]
  have e8:(x.op==8)=false:=by simp[o]
  simp (disch:=first|decide|omega) only[a_wright,hA,e1,e2,e3,e4,e5,e6,e7,e8,go_sem]
  refine ZA.nxt (YL s hS x.a B.length B _ (by rw[ZI];rfl)) ?_
  simp (disch:=first|decide|omega) only[hA,go_sem]
  exact ZB (xs:=[.v (.bool (inZ x.a 0 (s.vars.length-1)))]) (.inr rfl) (by simp (disch:=first|decide|omega) only[ZE,ZY,go_sem,hA]) kO hR hB ⟨rfl,rfl,rfl⟩
 have o4:=o
 clear o
 by_cases o:x.op=5
 ·have hr:Vp s.vars.length s.code.length p n x=(inZ x.a 0 (s.vars.length-1)&&inZ x.b 0 (s.code.length-1)):=by unfold Vp;rw[if_neg oM,if_neg oM,if_neg oM,if_pos o]
  rw[hr]
  have e1:(x.op==1)=false:=by simp[o]
  have e2:(x.op==2)=false:=by simp[o]
  have e3:(x.op==3)=false:=by simp[o]
  have e4:(x.op==4)=false:=by simp[o]
  have e5:(x.op==5)=true:=by simp[o]
  have e6:(x.op==6)=false:=by simp[o]
  have e7:(x.op==7)=false:=by simp[o]
  have e8:(x.op==8)=false:=by simp[o]
  simp (disch:=first|decide|omega) only[a_wright,hA,e1,e2,e3,e4,e5,e6,e7,e8,go_sem]
  refine ZA.nxt (YL s hS x.a B.length B _ (by rw[ZI];rfl)) ?_
  cases h1:inZ x.a 0 (s.vars.length-1)
  ·simp (disch:=first|decide|omega) only[hA,go_sem]
   exact ZB (xs:=[.v (.bool false)]) (.inr rfl) (by simp (disch:=first|decide|omega) only[ZE,ZY,go_sem,hA]) kO hR hB ⟨by simp[one],rfl,rfl⟩
  ·simp (disch:=first|decide|omega) only[hA,go_sem]
   refine ZA.nxt (KJ s hS x.b B.length B _ (by rw[ZI];rfl)) ?_
   simp (disch:=first|decide|omega) only[hA,go_sem]
   exact ZB (xs:=[.v (.bool (inZ x.b 0 (s.code.length-1)))]) (.inr rfl) (by simp (disch:=first|decide|omega) only[ZE,ZY,go_sem,hA]) kO hR hB ⟨by simp[one],rfl,rfl⟩
 have o5:=o
 clear o
 by_cases o:x.op=6
 ·have hr:Vp s.vars.length s.code.length p n x=(inZ x.a 0 (s.code.length-1)&&inZ x.b 0 (s.vars.length-1)):=by unfold Vp;rw[if_neg oM,if_neg oM,if_neg oM,if_neg oM,if_pos o]
  rw[hr]
  have e1:(x.op==1)=false:=by simp[o]
  have e2:(x.op==2)=false:=by simp[o]
  have e3:(x.op==3)=false:=by simp[o]
  have e4:(x.op==4)=false:=by simp[o]
  have e5:(x.op==5)=false:=by simp[o]
  have e6:(x.op==6)=true:=by simp[o]
  have e7:(x.op==7)=false:=by simp[o]
  have e8:(x.op==8)=false:=by simp[o]
  simp (disch:=first|decide|omega) only[a_wright,hA,e1,e2,e3,e4,e5,e6,e7,e8,go_sem]
  refine ZA.nxt (KJ s hS x.a B.length B _ (by rw[ZI];rfl)) ?_
  cases h1:inZ x.a 0 (s.code.length-1)
  ·simp (disch:=first|decide|omega) only[hA,go_sem]
   exact ZB (xs:=[.v (.bool false)]) (.inr rfl) (by simp (disch:=first|decide|omega) only[ZE,ZY,go_sem,hA]) kO hR hB ⟨by simp[one],rfl,rfl⟩
  ·simp (disch:=first|decide|omega) only[hA,go_sem]
   refine ZA.nxt (YL s hS x.b B.length B _ (by rw[ZI];rfl)) ?_
   simp (disch:=first|decide|omega) only[hA,go_sem]
   exact ZB (xs:=[.v (.bool (inZ x.b 0 (s.vars.length-1)))]) (.inr rfl) (by simp (disch:=first|decide|omega) only[ZE,ZY,go_sem,hA]) kO hR hB ⟨by simp[one],rfl,rfl⟩
 have o6:=o
 clear o
 have hr:Vp s.vars.length s.code.length p n x=decide (x.op=7∨x.op=8):=by unfold Vp;rw[if_neg oM,if_neg oM,if_neg oM,if_neg oM,if_neg oM]
 rw[hr]
 have e1:(x.op==1)=false:=by simpa using o1
 have e2:(x.op==2)=false:=by simpa using o2
 have e3:(x.op==3)=false:=by simpa using o3
 have e4:(x.op==4)=false:=by simpa using o4
 have e5:(x.op==5)=false:=by simpa using o5
 have e6:(x.op==6)=false:=by simpa using o6
 by_cases o7:x.op=7
 ·have e7:(x.op==7)=true:=by simpa using o7
  simp (disch:=first|decide|omega) only[a_wright,hA,e1,e2,e3,e4,e5,e6,e7,go_sem]
  exact ZB (xs:=[.v (.bool true)]) (.inr rfl) (by simp (disch:=first|decide|omega) only[ZE,ZY,go_sem,hA]) kO hR hB ⟨by simp[one,o7],rfl,rfl⟩
 ·have e7:(x.op==7)=false:=by simpa using o7
  by_cases o8:x.op=8
  ·have e8:(x.op==8)=true:=by simpa using o8
   simp (disch:=first|decide|omega) only[a_wright,hA,e1,e2,e3,e4,e5,e6,e7,e8,go_sem]
   exact ZB (xs:=[.v (.bool true)]) (.inr rfl) (by simp (disch:=first|decide|omega) only[ZE,ZY,go_sem,hA]) kO hR hB ⟨by simp[one,o8],rfl,rfl⟩
  ·have e8:(x.op==8)=false:=by simpa using o8
   simp (disch:=first|decide|omega) only[a_wright,hA,e1,e2,e3,e4,e5,e6,e7,e8,go_sem]
   exact ZB (xs:=[.v (.bool false)]) (.inr rfl) (by simp (disch:=first|decide|omega) only[ZE,ZY,go_sem,hA]) kO hR hB ⟨by simp[one,o7,o8],rfl,rfl⟩
def a_wname:AFunc:=⟨1,8,[.tmp 2],(.seq (.region [⟨some 2,.mv (.c (.v (.bool false))),none⟩]) (.seq (.region [⟨some 3,.mv (.t 0),none⟩,⟨some 4,.build [(.v (.str ⟨#[]⟩)),(.v .zsl),(.v .zsl)] [(0,1,(.t 3))],none⟩,⟨some 5,.bslice 3 [(.v (.str ⟨#[]⟩)),(.v .zsl),(.v .zsl)] 1 [(0,(.t 4))],none⟩,⟨some 6,.build [(.v .zsl)] [(0,1,(.t 5))],none⟩,⟨some 7,.call (.c (.fn 44 [])) [(.t 6)],none⟩,⟨some 2,.mv (.t 7),none⟩]) .ret))⟩
theorem ZFw:Zq Tryz.prog 107=some a_wname:=by kernel_rfl
def a_wsvc1:AFunc:=⟨1,6,[.tmp 2],(.seq (.region [⟨some 2,.mv (.c (.v (.bool false))),none⟩]) (.seq (.region [⟨some 3,.mv (.t 0),none⟩,⟨some 4,.call (.c (.fn 110 [])) [(.t 3)],none⟩,⟨some 5,.not (.t 4),none⟩,⟨some 2,.mv (.t 5),none⟩]) .ret))⟩
theorem ZFu:Zq Tryz.prog 109=some a_wsvc1:=by kernel_rfl
def a_wsvc2:AFunc:=⟨4,13,[.tmp 5],(.seq (.region [⟨some 4,.box (.t 0),none⟩,⟨some 5,.mv (.c (.v (.bool false))),none⟩]) (.seq (.region [⟨some 6,.load (some 6) (.t 1),none⟩,⟨some 7,.load none (.t 2),none⟩,⟨some 8,.load none (.t 3),none⟩,⟨some 9,.len (.t 8),none⟩,⟨some 10,.load (some 3) (.t 4),none⟩,⟨some 11,.call (.c (.fn 113 [])) [(.t 6),(.t 7),(.t 9),(.t 10)],none⟩,⟨some 12,.not (.t 11),none⟩,⟨some 5,.mv (.t 12),none⟩]) .ret))⟩
theorem ZFt:Zq Tryz.prog 112=some a_wsvc2:=by kernel_rfl
def a_wsvc3:AFunc:=⟨2,9,[.tmp 3],(.seq (.region [⟨some 2,.box (.t 0),none⟩,⟨some 3,.mv (.c (.v (.bool false))),none⟩]) (.seq (.region [⟨some 4,.faddr 0 (.t 2),none⟩,⟨some 5,.load none (.t 4),none⟩,⟨some 6,.faddr 0 (.t 1),none⟩,⟨some 7,.load none (.t 6),none⟩,⟨some 8,.binS .eql (.t 5) (.t 7),none⟩,⟨some 3,.mv (.t 8),none⟩]) .ret))⟩
theorem ZFs:Zq Tryz.prog 114=some a_wsvc3:=by kernel_rfl
def a_wsvcs:AFunc:=⟨1,62,[.tmp 2],(.seq (.region [⟨some 1,.box (.t 0),none⟩,⟨some 2,.mv (.c (.v (.bool false))),none⟩]) (.seq (.seq (.region [⟨some 5,.load none (.t 1),none⟩,⟨some 6,.len (.t 5),none⟩,⟨some 7,.call (.c (.fn 61 [])) [(.t 6),(.c (.v (.int .i64 1))),(.c (.v (.int .i64 8)))],none⟩,⟨some 8,.not (.t 7),none⟩]) (.cond (.t 8) (.seq (.region [⟨some 2,.mv (.c (.v (.bool false))),none⟩]) .ret) .skip)) (.seq (.seq (.region [⟨some 9,.load none (.t 1),none⟩,⟨some 10,.len (.t 9),none⟩,⟨some 11,.mv (.c (.v (.int .i64 0))),none⟩]) (.block 0 (.loop (.seq (.region [⟨some 12,.bin .lss (.t 11) (.t 10),none⟩]) (.seq (.cond (.t 12) .skip (.exit 0)) (.seq (.block 1 (.seq (.region [⟨some 13,.mv (.t 11),none⟩,⟨some 14,.iaddr 6 (.t 9) (.t 11),none⟩,⟨some 15,.load (some 6) (.t 14),none⟩,⟨some 3,.alloc [(.v (.int .i64 0))],none⟩,⟨some 4,.alloc [(.v (.str ⟨#[]⟩)),(.v .zsl),(.v (.int .i64 0)),(.v .zsl),(.v (.int .i64 0)),(.v (.int .i64 0))],none⟩,⟨none,.store 1 (.t 3) (.t 13),none⟩,⟨none,.store 6 (.t 4) (.t 15),none⟩]) (.seq (.seq (.region [⟨some 16,.faddr 0 (.t 4),none⟩,⟨some 17,.load none (.t 16),none⟩,⟨some 18,.call (.c (.fn 107 [])) [(.t 17)],none⟩,⟨some 19,.not (.t 18),none⟩,⟨some 20,.mv (.t 19),none⟩,⟨some 21,.faddr 1 (.t 4),some (20,false)⟩,⟨some 22,.load none (.t 21),some (20,false)⟩,⟨some 23,.len (.t 22),some (20,false)⟩,⟨some 24,.call (.c (.fn 61 [])) [(.t 23),(.c (.v (.int .i64 1))),(.c (.v (.int .i64 100)))],some (20,false)⟩,⟨some 25,.not (.t 24),some (20,false)⟩,⟨some 26,.pick (.t 20) (.c (.v (.bool true))) (.t 25),none⟩,⟨some 27,.mv (.t 26),none⟩,⟨some 28,.faddr 3 (.t 4),some (27,false)⟩,⟨some 29,.load none (.t 28),some (27,false)⟩,⟨some 30,.len (.t 29),some (27,false)⟩,⟨some 31,.bin .gtr (.t 30) (.c (.v (.int .i64 8))),some (27,false)⟩,⟨some 32,.pick (.t 27) (.c (.v (.bool true))) (.t 31),none⟩,⟨some 33,.mv (.t 32),none⟩,⟨some 34,.faddr 2 (.t 4),some (33,false)⟩,⟨some 35,.load none (.t 34),some (33,false)⟩,⟨some 36,.faddr 1 (.t 4),some (33,false)⟩,⟨some 37,.load none (.t 36),some (33,false)⟩,⟨some 38,.len (.t 37),some (33,false)⟩,⟨some 39,.call (.c (.fn 61 [])) [(.t 35),(.c (.v (.int .i64 0))),(.t 38)],some (33,false)⟩,⟨some 40,.not (.t 39),some (33,false)⟩,⟨some 41,.pick (.t 33) (.c (.v (.bool true))) (.t 40),none⟩,⟨some 42,.mv (.t 41),none⟩,⟨some 43,.load (some 6) (.t 4),some (42,false)⟩,⟨some 44,.call (.c (.fn 60 [])) [(.t 43)],some (42,false)⟩,⟨some 45,.not (.t 44),some (42,false)⟩,⟨some 46,.pick (.t 42) (.c (.v (.bool true))) (.t 45),none⟩]) (.cond (.t 46) (.seq (.region [⟨some 2,.mv (.c (.v (.bool false))),none⟩]) .ret) .skip)) (.seq (.seq (.region [⟨some 47,.faddr 3 (.t 4),none⟩,⟨some 48,.load none (.t 47),none⟩,⟨some 49,.call (.c (.fn 108 [])) [(.t 48),(.c (.fn 109 []))],none⟩,⟨some 50,.mv (.t 49),none⟩,⟨some 51,.faddr 1 (.t 4),some (50,false)⟩,⟨some 52,.load none (.t 51),some (50,false)⟩,⟨some 53,.mkfn 112 [(.t 4),(.t 3),(.t 1)],some (50,false)⟩,⟨some 54,.call (.c (.fn 111 [])) [(.t 52),(.t 53)],some (50,false)⟩,⟨some 55,.pick (.t 50) (.c (.v (.bool true))) (.t 54),none⟩]) (.cond (.t 55) (.seq (.region [⟨some 2,.mv (.c (.v (.bool false))),none⟩]) .ret) .skip)) (.seq (.region [⟨some 56,.load none (.t 1),none⟩,⟨some 57,.load none (.t 3),none⟩,⟨some 58,.slice 6 (.t 56) none (some (.t 57)),none⟩,⟨some 59,.mkfn 114 [(.t 4)],none⟩,⟨some 60,.call (.c (.fn 20 [])) [(.t 58),(.t 59)],none⟩]) (.cond (.t 60) (.seq (.region [⟨some 2,.mv (.c (.v (.bool false))),none⟩]) .ret) .skip)))))) (.region [⟨some 61,.bin .add (.t 11) (.c (.v (.int .i64 1))),none⟩,⟨some 11,.mv (.t 61),none⟩]))))))) (.seq (.region [⟨some 2,.mv (.c (.v (.bool true))),none⟩]) .ret))))⟩
theorem ZFr:Zq Tryz.prog 55=some a_wsvcs:=by kernel_rfl
def ZEV:List (Nat×Nat):=[(2,4),(11,61)]

theorem KE:Zq Tryz.prog 68=some (Vf 6):=by kernel_rfl
theorem KG:Zq Tryz.prog 20=some (JT 68):=by kernel_rfl
theorem ZGK:Zq Tryz.prog 152=some (Vf 3):=by kernel_rfl
theorem ZGM:Zq Tryz.prog 111=some (JT 152):=by kernel_rfl
theorem ZNA {s:ByteArray} (hs:s.size≤maxLen):Nm [⟨s,[],[]⟩]:=fun p hp=>by
 simp at hp;subst hp
 exact⟨hs,fun v hv=>by simp at hv⟩
theorem ZGm (s:ByteArray):Small [⟨s,[],[]⟩]:=by
 refine⟨by simp,fun x hx=>?_,fun x hx=>?_,fun x hx e he=>?_⟩<;>simp at hx<;>subst hx<;>simp at *
theorem ZEz (s:ByteArray) (hs:s.size≤maxLen) (b l:List Row):ZA Tryz.prog 107 [.v (.str s)] b l (fun r b' l'=>r=.v (.bool (Xo s))∧b'=b∧l'=l):=by
 refine ZD ZFw rfl (by decide) ?_
 intro B g hB hR hE hA;simp only[Zn]at hA
 have cV:=fun b l=>ZAt [⟨s,[],[]⟩] (ZGm s) (ZNA hs) b l
 rw[ZFE]at cV
 simp (disch:=first|decide|omega) only[a_wname,hA,Xm,Xg,XZ,go_sem]
 refine ZA.frzB (i:=0) (ver:=0) (sz:=3) (rows:=[[.str s,.zsl,.zsl]]) (args':=[.agg [.v (.isl 3 [[.str s,.zsl,.zsl]])]]) rfl (by simp[frz,Ja]) ?_
 refine ZA.nxt ((cV _ _).le rfl (fun i x y hx hy=>?_)) ?_
 ·match i,hx,hy with
  |0,hx,hy =>
    cases hx;cases hy
    refine .agg _ _ rfl (fun j u v hu hv=>?_)
    match j,hu,hv with
    |0,hu,hv =>
      cases hu;cases hv
      refine .v _ _ (IVle.rows ⟨⟨rfl,fun k a c ha hc=>?_⟩,trivial⟩)
      match k,ha,hc with
      |0,ha,hc=>cases ha;cases hc;exact .refl _
      |1,ha,hc=>cases ha;cases hc;exact .zsl 2
      |2,ha,hc=>cases ha;cases hc;exact .zsl 5
 simp (disch:=first|decide|omega) only[hA,go_sem]
 exact ZB (xs:=[.v (.bool (Xo s))]) (.inr rfl) (by simp (disch:=first|decide|omega) only[ZE,ZY,go_sem,hA]) kO hR hB ⟨rfl,rfl,rfl⟩
theorem ZEx (x:Int) (b l:List Row):ZA Tryz.prog 109 [.v (.int .i64 x)] b l (fun r b' l'=>r=.v (.bool (!vlB x))∧b'=b∧l'=l):=by
 refine ZD ZFu rfl (by decide) ?_
 intro B g hB hR hE hA;simp only[Zn]at hA
 simp (disch:=first|decide|omega) only[a_wsvc1,hA,go_sem]
 refine ZA.nxt (UN _ _ _) ?_
 simp (disch:=first|decide|omega) only[hA,go_sem]
 exact ZB (xs:=[.v (.bool (!vlB x))]) (.inr rfl) (by simp (disch:=first|decide|omega) only[ZE,ZY,go_sem,hA]) kO hR hB ⟨rfl,rfl,rfl⟩
theorem ZEw (s:Sv) (hS:SvS s) (p:Nat) (ls:List Sv) (hls:ls.length≤1000000) (x:In) (i0 i1 i2:Nat) (b l:List Row) (h0:hget b l i0=some (Vh s)) (h1:hget b l i1=some (.live 0 1 [[.v (.int .i64 p)]])) (h2:hget b l i2=some (.live 0 1 [[.v (.isl 6 (ls.map eSv))]])) :
  ZA Tryz.prog 112 [.agg [.v (.int .i64 x.op),.v (.int .i64 x.a),.v (.int .i64 x.b)],.ptr i0 0 0 0,.ptr i1 0 0 0,.ptr i2 0 0 0] b l (fun r b' l'=>r=.v (.bool (!Vp s.vars.length s.code.length p ls.length x))∧b'=b∧l'=l):=by
 refine ZD ZFt rfl (by decide) ?_
 intro B g hB hR hE hA;simp only[Zn]at hA
 have up:∀{i:Nat} {r:Row},hget b l i=some r→∀l',hget B l' i=some r:=fun hg l'=>by
  rw[Qq]at hg
  rw[Qq,List.getElem?_append_left (by rw[hB];exact (List.getElem?_eq_some_iff.1 hg).1),hB];exact hg
 have g0:=up h0
 have g1:=up h1
 have g2:=up h2
 unfold Vh at g0
 simp (disch:=first|decide|omega) only[a_wsvc2,hA,g0,g1,g2,List.length_map,go_sem]
 refine ZA.nxt (ZDF s hS _ _ oM x _ _) ?_
 simp (disch:=first|decide|omega) only[hA,go_sem]
 exact ZB (xs:=[.v (.bool (!Vp s.vars.length s.code.length p ls.length x))]) (.inr rfl) (by simp (disch:=first|decide|omega) only[ZE,ZY,go_sem,hA]) kO hR hB ⟨rfl,rfl,rfl⟩
theorem ZEv (s x:Sv) (i0:Nat) (b l:List Row) (h0:hget b l i0=some (Vh s)) :
  ZA Tryz.prog 114 [.agg ((eSv x).map .v),.ptr i0 0 0 0] b l (fun r b' l'=>r=.v (.bool (x.name==s.name))∧b'=b∧l'=l):=by
 refine ZD ZFs rfl (by decide) ?_
 intro B g hB hR hE hA;simp only[Zn]at hA
 have g0:∀l',hget B l' i0=some (Vh s):=fun l'=>by
  rw[Qq]at h0
  rw[Qq,List.getElem?_append_left (by rw[hB];exact (List.getElem?_eq_some_iff.1 h0).1),hB];exact h0
 unfold Vh at g0
 simp (disch:=first|decide|omega) only[a_wsvc3,hA,g0,eSv,go_sem]
 exact ZB (xs:=[.v (.bool (x.name==s.name))]) (.inr rfl) (by simp (disch:=first|decide|omega) only[ZE,ZY,go_sem,hA]) kO hR hB ⟨rfl,rfl,rfl⟩
theorem ZJZ {l:List Sv} {i:Nat} (hi:i<l.length) (h:svB l i=false):VE l=false:=by
 unfold VE
 rw[Bool.and_eq_false_iff]
 right
 rw[List.all_eq_false]
 exact⟨i,List.mem_range.2 hi,by rw[h];simp⟩
theorem ZGf {l:List Sv} (hl:inZ l.length 1 8=true) (h:∀i,i<l.length→svB l i=true):VE l=true:=by
 unfold VE
 rw[hl,Bool.true_and,List.all_eq_true]
 exact fun i hi=>h i (List.mem_range.1 hi)
theorem ZDm {l:List Sv}:∀row∈l.map eSv,row.length=6:=by
 intro row h
 obtain⟨s,_,rfl⟩:=List.mem_map.1 h
 rfl
theorem ZMN {l:List In}:∀row∈l.map eIn,row.length=3:=by
 intro row h
 obtain⟨s,_,rfl⟩:=List.mem_map.1 h
 rfl
theorem Vk (ls:List Sv) (hS:SvsS ls) (b l:List Row):ZA Tryz.prog 55 [.v (.isl 6 (ls.map eSv))] b l (fun r b' l'=>r=.v (.bool (VE ls))∧b'=b∧l'=l):=by
 refine ZD ZFr rfl (by decide) ?_
 intro B g hB hR hE hA;simp only[Zn]at hA
 have hln:=hS.len
 simp (disch:=first|decide|omega) only[a_wsvcs,hA,List.length_map,go_sem]
 refine ZA.nxt (Qp _ _ _ _ _) ?_
 cases hin:inZ ls.length 1 8
 ·simp (disch:=first|decide|omega) only[hA,go_sem]
  exact ZB (xs:=[.v (.bool false)]) (.inr rfl) (by simp (disch:=first|decide|omega) only[ZE,ZY,go_sem,hA]) kO hR hB ⟨by unfold VE;rw[hin];rfl,rfl,rfl⟩
 simp (disch:=first|decide|omega) only[hA,List.length_map,go_sem]
 refine QM (ι:=Nat) ZEV (fun i=>[(11,.v (.int .i64 i))]) 1 (fun _=>[.live 0 1 [[.v (.isl 6 (ls.map eSv))]]])
  (fun i=>i≤ls.length∧∀j,j<i→svB ls j=true) (fun i=>ls.length-i) 0 ⟨Nat.zero_le _,fun j hj=>by omega⟩ (by (repeat (first|exact hE.mono oM|refine KLt.up ?_ kL))) (by ((try simp (disch:=decide) only[hA,go_sem])<;>exact kH)) (fun e=>Za.refl _ _ _) ?_
 rintro g1 hE1 hEE1 hg1 i ⟨hi,h0⟩
 by_cases hlt:i<ls.length
 case neg =>
  obtain rfl:i=ls.length:=by omega
  simp (disch:=first|decide|omega) only[hA,hg1,go_sem]
  exact ZB (xs:=[.v (.bool true)]) (.inr rfl) (by simp (disch:=first|decide|omega) only[ZE,ZY,go_sem,hA,hg1]) kO hR hB ⟨by rw[ZGf hin h0];rfl,rfl,rfl⟩
 obtain⟨s,hs⟩:∃s,ls[i]=s:=⟨_,rfl⟩
 have hgd:ls.getD i dfSv=s:=by rw[ZF hlt,hs]
 have hSs:=hS.all s (by rw[←hs];exact List.getElem_mem hlt)
 have hgs:=ZA6 hlt
 rw[hs]at hgs
 have hsn:=hSs.name
 have hsc:=hSs.code
 have hsv:=hSs.vars
 have hB1:svB ls i=(sv1 s i ls.length&&(ls.take i).all fun x=>!(x.name==s.name)):=by unfold svB;rw[hgd]
 have bad:svB ls i=false→AV.v (.bool (VE ls))=.v (.bool false):=fun h=>by rw[ZJZ hlt h]
 simp (disch:=first|decide|omega) only[hA,hg1,hgs,ZC,cellsOf,List.length_map,go_sem]
 refine ZA.nxt (ZEz _ (by simp only[maxLen];omega) _ _) ?_
 cases t1:Xo s.name
 ·simp (disch:=first|decide|omega) only[hA,hg1,go_sem]
  exact ZB (xs:=[.v (.bool false)]) (.inr rfl) (by simp (disch:=first|decide|omega) only[ZE,ZY,go_sem,hA,hg1]) kO hR hB ⟨by rw[bad (by rw[hB1];unfold sv1;rw[t1];rfl)];rfl,rfl,rfl⟩
 simp (disch:=first|decide|omega) only[hA,hg1,List.length_map,go_sem]
 refine ZA.nxt (Qp _ _ _ _ _) ?_
 cases t2:inZ s.code.length 1 100
 ·simp (disch:=first|decide|omega) only[hA,hg1,go_sem]
  exact ZB (xs:=[.v (.bool false)]) (.inr rfl) (by simp (disch:=first|decide|omega) only[ZE,ZY,go_sem,hA,hg1]) kO hR hB ⟨by rw[bad (by rw[hB1];unfold sv1;rw[t1,t2];rfl)];rfl,rfl,rfl⟩
 by_cases t3:s.vars.length≤8
 case neg =>
  have d3:decide ((s.vars.length:Int)>8)=true:=decide_eq_true oM
  have d3':decide ((8:Int)<(s.vars.length:Int))=true:=d3
  simp (disch:=first|decide|omega) only[hA,hg1,d3,d3',List.length_map,go_sem]
  exact ZB (xs:=[.v (.bool false)]) (.inr rfl) (by simp (disch:=first|decide|omega) only[ZE,ZY,go_sem,hA,hg1]) kO hR hB ⟨by rw[bad (by rw[hB1];unfold sv1;rw[t1,t2,decide_eq_false t3];rfl)];rfl,rfl,rfl⟩
 have d3:decide ((s.vars.length:Int)>8)=false:=decide_eq_false oM
 have d3':decide ((8:Int)<(s.vars.length:Int))=false:=d3
 simp (disch:=first|decide|omega) only[hA,hg1,d3,d3',List.length_map,go_sem]
 refine ZA.nxt (Qp _ _ _ _ _) ?_
 cases t4:inZ s.pc 0 s.code.length
 ·simp (disch:=first|decide|omega) only[hA,hg1,go_sem]
  exact ZB (xs:=[.v (.bool false)]) (.inr rfl) (by simp (disch:=first|decide|omega) only[ZE,ZY,go_sem,hA,hg1]) kO hR hB ⟨by rw[bad (by rw[hB1];unfold sv1;rw[t1,t2,decide_eq_true t3,t4];rfl)];rfl,rfl,rfl⟩
 simp (disch:=first|decide|omega) only[hA,hg1,List.length_map,go_sem]
 refine ZA.nxt (Kr _ _ _ _ _ _ _ _ (.inl ⟨_,rfl⟩)) ?_
 have hrt:(inZ s.off 0 1000000&&inZ s.rate 500 2000)=Vy s:=rfl
 rw[hrt]
 cases t5:Vy s
 ·simp (disch:=first|decide|omega) only[hA,hg1,go_sem]
  exact ZB (xs:=[.v (.bool false)]) (.inr rfl) (by simp (disch:=first|decide|omega) only[ZE,ZY,go_sem,hA,hg1]) kO hR hB ⟨by rw[bad (by rw[hB1];unfold sv1;rw[t1,t2,decide_eq_true t3,t4,t5];rfl)];rfl,rfl,rfl⟩
 simp (disch:=first|decide|omega) only[hA,hg1,List.length_map,go_sem]
 refine ZA.nxt (Vq s.vars _ [] (fun j=>!vlB (s.vars.getD j 0)) hsv _ _ (fun j hj=>by
  simp only[ZF hj]
  exact ZEx _ _ _)) ?_
 rw[Yh (p:=fun x=>!vlB x),YJ]
 cases t6:s.vars.all vlB
 ·simp (disch:=first|decide|omega) only[hA,hg1,go_sem]
  exact ZB (xs:=[.v (.bool false)]) (.inr rfl) (by simp (disch:=first|decide|omega) only[ZE,ZY,go_sem,hA,hg1]) kO hR hB ⟨by rw[bad (by rw[hB1];unfold sv1;rw[t1,t2,decide_eq_true t3,t4,t5,t6];rfl)];rfl,rfl,rfl⟩
 obtain⟨R,hR3⟩:∃R:List Row,R=[.live 0 1 [[.v (.isl 6 (ls.map eSv))]],.live 0 1 [[.v (.int .i64 i)]],Vh s]:=⟨_,rfl⟩
 have q0:hget (B++R) [] (B.length+2)=some (Vh s):=by rw[Qq,List.append_nil,List.getElem?_append_right oM,Nat.add_sub_cancel_left,hR3];rfl
 have q1:hget (B++R) [] (B.length+1)=some (.live 0 1 [[.v (.int .i64 i)]]):=by rw[Qq,List.append_nil,List.getElem?_append_right oM,Nat.add_sub_cancel_left,hR3];rfl
 have q2:hget (B++R) [] B.length=some (.live 0 1 [[.v (.isl 6 (ls.map eSv))]]):=by rw[Qq,List.append_nil,List.getElem?_append_right oM,Nat.sub_self,hR3];rfl
 have cK:=Xt ZGM ZGK (s.code.map eIn) 112 [.ptr (B.length+2) 0 0 0,.ptr (B.length+1) 0 0 0,.ptr B.length 0 0 0] (fun j=>!Vp s.vars.length s.code.length i ls.length (s.code.getD j ZI0)) ZMN (by rw[List.length_map];exact hsc) B R (fun j row hj=>by
  have hjl:j<s.code.length:=by have:=(List.getElem?_eq_some_iff.1 hj).1;rwa [List.length_map]at this
  rw[ZBp hjl]at hj
  cases hj
  simp only[ZF hjl]
  exact ZEw s hSs i ls hln _ _ _ _ _ _ q0 q1 q2)
 rw[List.length_map,Yh (p:=fun x=>!Vp s.vars.length s.code.length i ls.length x),YJ]at cK
 have hnl:(ls.take i).length=i:=by rw[List.length_take];omega
 have cN:=Xt KG KE ((ls.take i).map eSv) 114 [.ptr (B.length+2) 0 0 0] (fun j=>(((ls.take i).getD j dfSv).name==s.name)) ZDm (by rw[List.length_map];omega) B R (fun j row hj=>by
  have hjl:j<(ls.take i).length:=by have:=(List.getElem?_eq_some_iff.1 hj).1;rwa [List.length_map]at this
  rw[List.getElem?_map,List.getElem?_eq_getElem hjl]at hj
  cases hj
  simp only[ZF hjl]
  exact ZEv s _ _ _ _ q0)
 rw[List.length_map,Yh (d:=dfSv) (p:=fun x:Sv=>x.name==s.name)]at cN
 rw[hR3]at cK cN
 unfold Vh at cK cN
 simp (disch:=first|decide|omega) only[hA,hg1,List.length_map,go_sem]
 refine ZA.nxt cK ?_
 cases t7:s.code.all (Vp s.vars.length s.code.length i ls.length)
 ·simp (disch:=first|decide|omega) only[hA,hg1,go_sem]
  exact ZB (xs:=[.v (.bool false)]) (.inr rfl) (by simp (disch:=first|decide|omega) only[ZE,ZY,go_sem,hA,hg1]) kO hR hB ⟨by rw[bad (by rw[hB1];unfold sv1;rw[t1,t2,decide_eq_true t3,t4,t5,t6,t7];rfl)];rfl,rfl,rfl⟩
 have hs1:sv1 s i ls.length=true:=by unfold sv1;rw[t1,t2,decide_eq_true t3,t4,t5,t6,t7];rfl
 rw[List.map_take]at cN
 simp (disch:=first|decide|omega) only[hA,hg1,List.length_map,go_sem]
 refine ZA.nxt cN ?_
 have hna:(ls.take i).all (fun x=>!(x.name==s.name))=!(ls.take i).any (fun x=>x.name==s.name):=by
  rw[Bool.eq_iff_iff]
  simp[List.all_eq_true,List.any_eq_false]
 cases t8:(ls.take i).any (fun x=>x.name==s.name)
 ·simp (disch:=first|decide|omega) only[hA,hg1,go_sem]
  refine⟨i+1,⟨hlt,fun j hj=>?_⟩,by simp only;omega,?_⟩
  ·rcases Nat.lt_or_ge j i with hji|hji
   ·exact h0 j hji
   ·obtain rfl:j=i:=by omega
    rw[hB1,hs1,hna,t8];rfl
  ·exact Za.kround (p:=ZEV) (k:=1) (by ((repeat refine (Z9 rfl).trans ?_);exact hEE1)) (by ((try simp (disch:=decide) only[hA,hg1,go_sem])<;>exact kH)) rfl hE1 (by simp) kV hR kL
 ·simp (disch:=first|decide|omega) only[hA,hg1,go_sem]
  exact ZB (xs:=[.v (.bool false)]) (.inr rfl) (by simp (disch:=first|decide|omega) only[ZE,ZY,go_sem,hA,hg1]) kO hR hB ⟨by rw[bad (by rw[hB1,hs1,hna,t8];rfl)];rfl,rfl,rfl⟩
end Go.Proofs.YtoccdlnoaindmaaGreatDoor
namespace Go.Proofs.YtoccdlnoaindmaaGreatDoor
set_option linter.unusedVariables false
set_option linter.unusedSimpArgs false
open Go.RowKit Go.Extern.Stop Go.Stop Go.Extern
def dgt (n:Nat):ByteArray:=⟨#[UInt8.ofNat (48+n)]⟩
theorem ZMh (n:Nat) (hn:n≤7) (w:World):Calls Tryz.prog 195 #[.int .i64 n] w fun e w'=>e=.returned (.string (dgt n))∧w'=w:=by
 obtain rfl|rfl|rfl|rfl|rfl|rfl|rfl|rfl:n=0∨n=1∨n=2∨n=3∨n=4∨n=5∨n=6∨n=7:=by omega
 all_goals
  go_enter Tryz.func195,Tryz.ntmps195
  go_wp2
  go_ret
  exact⟨rfl,rfl⟩
theorem ZMF (n:Nat) (hn:n≤7) (w:World):Calls Tryz.prog 182 #[.int .i64 n,.int .i64 10] w fun e w'=>e=.returned (.string (dgt n))∧w'=w:=by
 have S:=ZMh n hn w
 obtain rfl|rfl|rfl|rfl|rfl|rfl|rfl|rfl:n=0∨n=1∨n=2∨n=3∨n=4∨n=5∨n=6∨n=7:=by omega
 all_goals
  go_enter Tryz.func182,Tryz.ntmps182
  go_wp2_with (go_at_call 195;refine S.mono ?_;rintro e w' ⟨rfl,rfl⟩)
  go_ret
  exact⟨rfl,rfl⟩
theorem ZNL (n:Nat) (hn:n≤7) (w:World):Calls Tryz.prog 157 #[.int .i64 n] w fun e w'=>e=.returned (.string (dgt n))∧w'=w:=by
 have S:=ZMF n hn w
 go_enter Tryz.func157,Tryz.ntmps157
 go_wp2_with (go_at_call 182;refine S.mono ?_;rintro e w' ⟨rfl,rfl⟩)
 go_ret
 exact⟨rfl,rfl⟩
theorem itoa8 (n:Nat) (hn:n≤7) (w:World):Calls Tryz.prog 116 #[.int .i64 n] w fun e w'=>e=.returned (.string (dgt n))∧w'=w:=by
 have S:=ZNL n hn w
 go_enter Tryz.func116,Tryz.ntmps116
 go_wp2_with (go_at_call 157;refine S.mono ?_;rintro e w' ⟨rfl,rfl⟩)
 go_ret
 exact⟨rfl,rfl⟩
theorem ZHt (n:Nat) (hn:n≤7) (b l:List Row):ZA Tryz.prog 116 [.v (.int .i64 n)] b l (fun r b' l'=>r=.v (.str (dgt n))∧b'=b∧l'=l):=by
 refine ZA.of_ext ⟨_,Tryz.func116,by kernel_rfl,by kernel_rfl⟩ (fun F L w vs hr=>?_)
 obtain⟨u,us,h1,h2,h3⟩:=Xy hr
 have:=JX h3
 subst this
 obtain rfl:vs=#[u]:=Array.toList_inj.1 (by rw[h1])
 cases h2.vI
 refine (itoa8 n hn w).mono ?_
 rintro e w' ⟨rfl,rfl⟩
 exact⟨Ext.refl _,_,_,rfl,.v _ _ (.str _),rfl,rfl,rfl⟩
end Go.Proofs.YtoccdlnoaindmaaGreatDoor
namespace Go.Proofs.YtoccdlnoaindmaaGreatDoor
set_option linter.unusedVariables false
def Pln (x:AV):Prop:=∀(w:World) (F:Nat→Prop) (L:LMap) (w':World) (F':Nat→Prop) (L':LMap) (v:Value),RepA w F L x v→RepA w' F' L' x v
theorem Pln.int {k:IntKind} {n:Int}:Pln (.v (.int k n)):=fun w F L w' F' L' v h=>by
 cases h.vI;exact .v _ _ (.int _ _)
theorem Pln.bool {t:Bool}:Pln (.v (.bool t)):=fun w F L w' F' L' v h=>by
 cases h.vI;exact .v _ _ (.bool _)
theorem Pln.str {t:ByteArray}:Pln (.v (.str t)):=fun w F L w' F' L' v h=>by
 cases h.vI;exact .v _ _ (.str _)
theorem Pln.agg {cs:List AV} (hc:∀c∈cs,Pln c):Pln (.agg cs):=fun w F L w' F' L' v h=>by
 obtain⟨us,rfl,hu⟩:=h.aggL
 exact QL.agg ⟨hu.1,fun j d u hd hju=>hc d (List.mem_of_getElem? hd) w F L w' F' L' u (hu.2 j d u hd hju)⟩
theorem Pln.tup {cs:List AV} (hc:∀c∈cs,Pln c):Pln (.tup cs):=fun w F L w' F' L' v h=>by
 obtain⟨us,rfl,hu⟩:=h.tupL
 exact QL.tup ⟨hu.1,fun j d u hd hju=>hc d (List.mem_of_getElem? hd) w F L w' F' L' u (hu.2 j d u hd hju)⟩
theorem ZA.peek {P:Program} {f:Nat} {args args':List AV} {b l:List Row} {x:AV} (hl:args.length=args'.length)
  (hd:∀(i:Nat) (z y:AV),args[i]? = some z→args'[i]? = some y→Dv 0 (b++l) z y) (hx:Pln x)
  (h:ZA P f args' ((b++l).map Yl) [] (fun r b' l'=>r=x∧b'=(b++l).map Yl∧l'=[])):ZA P f args b l (fun r b' l'=>r=x∧b'=b∧l'=l):=by
 refine⟨h.1,fun F L w us s hr=>?_⟩
 obtain⟨H,hH⟩:∃H,H=b++l:=⟨_,rfl⟩
 rw[←hH]at s hd h
 have s0:Sim F L ([]++H) w:=s
 have hget:∀{j v z:Nat} {els:List (List AV)},(H.map Yl++[])[j]? = some (.live v z els)→False:=fun {j v z els} hj=>by
  rw[List.append_nil,List.getElem?_map]at hj
  cases hq:H[j]? with
  |none=>rw[hq]at hj;cases hj
  |some r=>rw[hq]at hj;cases hj
 have hno:∀k,¬Qz L (H.map Yl++[]) k:=by
  rintro k ⟨j,v,z,els,q,h1,h2,h3⟩
  exact hget h1
 have s1:Sim (FD F L 0 H) L (H.map Yl++[]) w:=by
  refine⟨fun j v z els hj=>(hget hj).elim,fun j v q hq=>?_,fun j j' v v' z z' e1 e2 bb q1 q2 h1 h2=>(hget h1).elim,fun k hk=>⟨?_,hno k⟩,s.glob.mono (fun _ h=>.inl h) (fun _ _=>rfl)⟩
  ·obtain⟨r,h1,h2⟩:=s.born j v q hq
   exact⟨Yl r,by rw[List.append_nil,List.getElem?_map,h1];rfl,h2⟩
  ·rcases hk with hk|⟨i,ver,sz,els,q,h1,h2,h3⟩
   ·exact (s.imm k hk).1
   ·rw[Nat.zero_add]at h2
    obtain⟨q',g1,g2⟩:=s.row _ _ _ _ h1
    rw[h2]at g1;cases g1
    exact g2.lt h3
 have hrep:QL w (FD F L 0 H) L args' us.toList:=⟨by rw[←hl];exact hr.1,fun j y v hy hv=>by
  have hil:=(List.getElem?_eq_some_iff.1 hy).1
  have hx:args[j]? = some args[j]:=List.getElem?_eq_getElem oM
  exact (hd j _ y hx hy).rep s0 v (hr.2 j _ v hx hv)⟩
 refine Calls.mono (h.2 _ L w us s1 hrep) ?_
 rintro en w' ⟨v,x',b',l',F2,L2,h1,h2,h3,h4,h5,rfl,rfl,rfl⟩
 have hsame:∀k,k<w.heap.size→w'.heap[k]? = w.heap[k]?:=fun k hk=>h4.block k hk (hno k)
 have himm:∀k,F k→w'.heap[k]? = w.heap[k]?:=fun k hk=>hsame k (s.imm k hk).1
 subst hH
 refine⟨v,x',b,l,F,L,h1,hx _ _ _ _ _ _ _ h2,⟨fun j ver z els hj=>?_,s.born,s.apart,fun k hk=>⟨Nat.lt_of_lt_of_le (s.imm k hk).1 h4.size,(s.imm k hk).2⟩,s.glob.mono (fun _ h=>h) himm⟩,
  ⟨fun _ h=>h,fun _ _ _ _ h=>h,h4.os,h4.tape,h4.output,h4.size,fun k hk _=>hsame k hk,fun _ _ h=>h,fun _ _ _ h=>h,fun _ _ h=>.inl h⟩,rfl,rfl,rfl,rfl⟩
 obtain⟨q,g1,g2⟩:=s.row j ver z els hj
 exact⟨q,g1,g2.mono (fun k hk=>hsame k (g2.lt hk)) (fun _ _ h=>h.mono (fun _ h=>h) himm (fun _ _ _ h=>h))⟩
end Go.Proofs.YtoccdlnoaindmaaGreatDoor
namespace Go.Proofs.YtoccdlnoaindmaaGreatDoor
set_option linter.unusedVariables false
set_option linter.unusedSimpArgs false
attribute [local go_sem ↓] Zz Z0 QB QD Q8 Zg QA Q9 QC Qk ZM Zf Zy ZL Ze Zx ZS Zk QJ Z1 ZN QE Zh Zi Z4 Zj Z5 Zt Zd Qa QF Qc Qd XQ Qj XR XS Q6 Qo
attribute [local go_sem] Z2 ZO XT Z6 ZR XP Qh Qf Qe KT KU Qi QG QH QI Q7 ZI Zv ZQ Zu ZP Z3 aop YC XG XB Q2 XC QU XD Uh Y4 YZ amm YK QT Zp YQ XA Y0 comma Qx Y3 Ug Y2 Y1 UL YO YM XJ UK eqC eqF Jg cellsOf ZC Xm Xg YN Vx rd rdI Xs mk Qr AV.cell List.all_cons List.all_nil Bool.and_true Bool.true_and Bool.and_self List.length_cons List.length_nil List.length_append Nat.reduceAdd Nat.reduceSub Nat.reduceMul Nat.zero_add Nat.add_zero List.cons_append List.nil_append List.append_assoc List.append_nil List.getElem?_cons_zero List.getElem?_cons_succ List.getElem?_nil List.set_cons_zero List.set_cons_succ List.drop_zero List.drop_succ_cons List.take_zero List.take_succ_cons List.take_nil List.drop_nil List.map_cons List.map_nil Option.map_some if_true if_false Bool.false_eq_true and_self true_and and_true Nat.reduceLeDiff Nat.reduceLT Nat.le_refl Nat.reduceEqDiff ite_true ite_false beq_self_eq_true beq_true beq_false Bool.not_true Bool.not_false Bool.true_beq Bool.false_beq Xl Q4 Zr Qt Qw QZ QY QX QW Qv Qu Xi Z7 ZAR Ke ZAS ZAP JJ JH JK JI geI gtI JM decide_true decide_false room List.getElem?_map List.length_map List.length_take Int.toNat_natCast Nat.min_def Nat.min_self XU XM Xk QR Xb VC Zn List.getElem_cons_zero List.getElem_cons_succ
def a_wvars:AFunc:=⟨1,23,[.tmp 2],(.seq (.region [⟨some 2,.mv (.c (.v .zsl)),none⟩]) (.seq (.region [⟨some 3,.mv (.c (.v .zsl)),none⟩]) (.seq (.seq (.region [⟨some 6,.mv (.t 0),none⟩,⟨some 7,.len (.t 6),none⟩,⟨some 8,.mv (.c (.v (.int .i64 0))),none⟩]) (.block 0 (.loop (.seq (.region [⟨some 9,.bin .lss (.t 8) (.t 7),none⟩]) (.seq (.cond (.t 9) .skip (.exit 0)) (.seq (.block 1 (.seq (.region [⟨some 10,.mv (.t 8),none⟩,⟨some 11,.iaddr 1 (.t 6) (.t 8),none⟩,⟨some 12,.load none (.t 11),none⟩,⟨some 4,.mv (.t 10),none⟩,⟨some 5,.mv (.t 12),none⟩]) (.region [⟨some 13,.mv (.t 3),none⟩,⟨some 14,.mv (.t 4),none⟩,⟨some 15,.call (.c (.fn 116 [])) [(.t 14)],none⟩,⟨some 16,.binS .add (.c (.v (.str ⟨#[118]⟩))) (.t 15),none⟩,⟨some 17,.mv (.t 5),none⟩,⟨some 18,.build [(.v (.str ⟨#[]⟩)),(.v (.int .i64 0))] [(0,1,(.t 16)),(1,1,(.t 17))],none⟩,⟨some 19,.bslice 2 [(.v (.str ⟨#[]⟩)),(.v (.int .i64 0))] 1 [(0,(.t 18))],none⟩,⟨some 20,.append 2 24 (.t 13) (.t 19),none⟩,⟨some 3,.mv (.t 20),none⟩]))) (.region [⟨some 21,.bin .add (.t 8) (.c (.v (.int .i64 1))),none⟩,⟨some 8,.mv (.t 21),none⟩]))))))) (.seq (.region [⟨some 22,.mv (.t 3),none⟩,⟨some 2,.mv (.t 22),none⟩]) .ret))))⟩
theorem ZFq:Zq Tryz.prog 58=some a_wvars:=by kernel_rfl
def ZEU:List (Nat×Nat):=[(3,5),(8,21)]

def UO (i:Nat):ByteArray:=⟨#[118,UInt8.ofNat (48+i)]⟩
def wVr (l:List Int) (i:Nat):Vr:=⟨UO i,l.getD i 0⟩
def Ks (l:List Int):List Vr:=fl l.length (wVr l)
theorem ZJS (i:Nat):(⟨#[118]⟩:ByteArray)++dgt i=UO i:=rfl
theorem J4 {l:List Int}:(Ks l).length=l.length:=QO
theorem ZKB (l:List Int) (i:Nat):(fl i (wVr l)).map eVr++[[.str (UO i),.int .i64 (l.getD i 0)]]=(fl (i+1) (wVr l)).map eVr:=by
 have h:fl (i+1) (wVr l)=fl i (wVr l)++[wVr l i]:=by unfold fl;rw[List.range_succ,List.map_append];rfl
 rw[h,List.map_append];rfl
theorem ZAq (l0:List Int) (h8:l0.length≤8) (b l:List Row):ZA Tryz.prog 58 [.v (.isl 1 (l0.map eI))] b l (fun r b' l'=>r=.v (.isl 2 ((Ks l0).map eVr))∧b'=b∧l'=l):=by
 refine ZD ZFq rfl (by decide) ?_
 intro B g hB hR hE hA;simp only[Zn]at hA
 simp (disch:=first|decide|omega) only[a_wvars,hA,List.length_map,go_sem]
 refine Jo (ι:=Nat) 3 2 ZEU (fun i=>[(8,.v (.int .i64 i)),(3,.sl B.length i 0 i)]) 1 (fun i=>[.live i 2 (vs ((fl i (wVr l0)).map eVr))])
  (fun i=>i≤l0.length) (fun i=>l0.length-i) 0 (Nat.zero_le _) (by simp (disch:=first|decide|omega) only[hA,go_sem]) (by decide) rfl (by (repeat (first|exact hE.mono oM|refine KLt.up ?_ kL))) (by ((try simp (disch:=decide) only[hA,go_sem])<;>exact kH)) (fun e=>Za.refl _ _ _) ?_
 intro g1 hE1 hEE1 hg1 i hi
 by_cases hlt:i<l0.length
 ·have hgi:=Jy hlt
  have hfl:((fl i (wVr l0)).map eVr).length=i:=by rw[List.length_map,QO]
  have htk:((fl i (wVr l0)).map eVr).take i=(fl i (wVr l0)).map eVr:=List.take_of_length_le (by rw[hfl];omega)
  have hn:=ZJS i
  simp (disch:=first|decide|omega) only[hA,hg1,hgi,List.length_map,hfl,go_sem]
  refine ZA.nxt (ZHt i oM _ _) ?_
  have hsz:((#[118]:Array UInt8).size+(dgt i).size≤9223372036854775807)=True:=eq_true (by show 1+1≤_;omega)
  simp (disch:=first|decide|omega) only[hA,hg1,hgi,hn,hsz,XZ,hfl,htk,ZKB,List.length_map,go_sem]

  refine⟨i+1,hlt,by simp only;omega,?_⟩
  exact Za.kround (p:=ZEU) (k:=1) (by ((repeat refine (Z9 rfl).trans ?_);exact hEE1)) (by ((try simp (disch:=decide) only[hA,hg1,go_sem])<;>exact kH)) rfl hE1 (by simp) kV hR kL
 ·obtain rfl:i=l0.length:=by omega
  have hfl:((fl l0.length (wVr l0)).map eVr).length=l0.length:=by rw[List.length_map,QO]
  simp (disch:=first|decide|omega) only[hA,hg1,List.length_map,go_sem]
  exact ZHq (i:=0) (ver:=l0.length) (sz:=2) (n:=l0.length) (rows:=(fl l0.length (wVr l0)).map eVr) (.inr rfl) (by simp (disch:=first|decide|omega) only[ZE,ZY,hA,hg1,go_sem]) rfl hfl.symm hR hB ⟨rfl,rfl,rfl⟩
def apA (v:List Int) (a:Asg):List Int:=v.set a.v.toNat a.val
def ZGZ (v:List Int) (l:List Asg) (j:Nat):List Int:=(l.take j).foldl apA v
def apE (v:List Int) (e:Ev):List Int:=ZGZ v e.asg e.asg.length
def stV (p:Pr):Nat→List Int
 |0=>p.vars.map (·.init)
 |k+1=>apE (stV p k) (p.evs.getD k ZA8)
def ZJL (p:Pr):List Int:=stV p p.evs.length
def OkA (p:Pr):Prop:=∀e∈p.evs,∀a∈e.asg,0≤a.v∧a.v<p.vars.length
theorem ZBW:∀(l:List Asg) (v:List Int),(l.foldl apA v).length=v.length
 |[],v=>rfl
 |a::l,v=>by rw[List.foldl_cons,ZBW l];unfold apA;simp
theorem ZBv {v:List Int} {l:List Asg} {j:Nat}:(ZGZ v l j).length=v.length:=ZBW _ _
theorem ZIh {v:List Int} {l:List Asg} {j:Nat} (h:j<l.length):ZGZ v l (j+1)=(ZGZ v l j).set l[j].v.toNat l[j].val:=by
 unfold ZGZ
 rw[ZCI h,List.foldl_append];rfl
theorem VF {p:Pr}:∀k,(stV p k).length=p.vars.length
 |0=>by simp[stV]
 |k+1=>by simp only[stV,apE,ZBv];exact VF k
theorem ZIW {l:List Vr} {i:Nat} (h:i<l.length):(l.map eVr)[i]? = some [.str l[i].name,.int .i64 l[i].init]:=by
 rw[List.getElem?_map,List.getElem?_eq_getElem h];rfl
theorem UH {l:List Ev} {i:Nat} (h:i<l.length):(l.map eEv)[i]? = some [.int .i64 l[i].kind,.int .i64 l[i].peer,.int .i64 l[i].msg,.int .i64 l[i].time,.isl 2 (l[i].asg.map ZCz)]:=by
 rw[List.getElem?_map,List.getElem?_eq_getElem h];rfl
theorem ZKL {l:List Asg} {i:Nat} (h:i<l.length):(l.map ZCz)[i]? = some [.int .i64 l[i].v,.int .i64 l[i].val]:=by
 rw[List.getElem?_map,List.getElem?_eq_getElem h];rfl
structure PrS (p:Pr):Prop where
 nv:p.vars.length≤1000000
 ne:p.evs.length≤1000000
 na:∀e∈p.evs,e.asg.length≤1000000
def ZJ8 (p:Pr):Row:=.live 0 3 [[.v (.str p.name),.v (.isl 2 (p.vars.map eVr)),.v (.isl 5 (p.evs.map eEv))]]
open Go.RowKit
def a_wst1:AFunc:=⟨2,58,[],(.seq (.region [⟨some 3,.mv (.c (.v .zsl)),none⟩]) (.seq (.seq (.region [⟨some 10,.faddr 1 (.t 1),none⟩,⟨some 11,.load none (.t 10),none⟩,⟨some 12,.len (.t 11),none⟩,⟨some 13,.mv (.c (.v (.int .i64 0))),none⟩]) (.block 0 (.loop (.seq (.region [⟨some 14,.bin .lss (.t 13) (.t 12),none⟩]) (.seq (.cond (.t 14) .skip (.exit 0)) (.seq (.block 1 (.seq (.region [⟨some 15,.iaddr 2 (.t 11) (.t 13),none⟩,⟨some 16,.load (some 2) (.t 15),none⟩,⟨some 5,.alloc [(.v (.str ⟨#[]⟩)),(.v (.int .i64 0))],none⟩,⟨none,.store 2 (.t 5) (.t 16),none⟩]) (.region [⟨some 17,.mv (.t 3),none⟩,⟨some 18,.faddr 1 (.t 5),none⟩,⟨some 19,.load none (.t 18),none⟩,⟨some 20,.bslice 1 [(.v (.int .i64 0))] 1 [(0,(.t 19))],none⟩,⟨some 21,.append 1 8 (.t 17) (.t 20),none⟩,⟨some 3,.mv (.t 21),none⟩]))) (.region [⟨some 22,.bin .add (.t 13) (.c (.v (.int .i64 1))),none⟩,⟨some 13,.mv (.t 22),none⟩]))))))) (.seq (.seq (.region [⟨some 23,.mv (.t 0),none⟩,⟨some 24,.mv (.t 3),none⟩,⟨some 25,.call (.c (.fn 119 [])) [(.t 24)],none⟩,⟨some 26,.call (.t 23) [(.c (.v (.int .i64 0))),(.t 25)],none⟩,⟨some 27,.not (.t 26),none⟩]) (.cond (.t 27) .ret .skip)) (.seq (.region [⟨some 28,.faddr 2 (.t 1),none⟩,⟨some 29,.load none (.t 28),none⟩,⟨some 30,.len (.t 29),none⟩,⟨some 31,.mv (.c (.v (.int .i64 0))),none⟩]) (.block 2 (.loop (.seq (.region [⟨some 32,.bin .lss (.t 31) (.t 30),none⟩]) (.seq (.cond (.t 32) .skip (.exit 2)) (.seq (.block 3 (.seq (.region [⟨some 33,.mv (.t 31),none⟩,⟨some 34,.iaddr 5 (.t 29) (.t 31),none⟩,⟨some 35,.load (some 5) (.t 34),none⟩,⟨some 7,.alloc [(.v (.int .i64 0)),(.v (.int .i64 0)),(.v (.int .i64 0)),(.v (.int .i64 0)),(.v .zsl)],none⟩,⟨some 6,.mv (.t 33),none⟩,⟨none,.store 5 (.t 7) (.t 35),none⟩]) (.seq (.seq (.region [⟨some 36,.faddr 4 (.t 7),none⟩,⟨some 37,.load none (.t 36),none⟩,⟨some 38,.len (.t 37),none⟩,⟨some 39,.mv (.c (.v (.int .i64 0))),none⟩]) (.block 4 (.loop (.seq (.region [⟨some 40,.bin .lss (.t 39) (.t 38),none⟩]) (.seq (.cond (.t 40) .skip (.exit 4)) (.seq (.block 5 (.seq (.region [⟨some 41,.iaddr 2 (.t 37) (.t 39),none⟩,⟨some 42,.load (some 2) (.t 41),none⟩,⟨some 9,.alloc [(.v (.int .i64 0)),(.v (.int .i64 0))],none⟩,⟨none,.store 2 (.t 9) (.t 42),none⟩]) (.region [⟨some 43,.mv (.t 3),none⟩,⟨some 44,.faddr 0 (.t 9),none⟩,⟨some 45,.load none (.t 44),none⟩,⟨some 46,.faddr 1 (.t 9),none⟩,⟨some 47,.load none (.t 46),none⟩,⟨some 48,.iaddr 1 (.t 43) (.t 45),none⟩,⟨none,.store 1 (.t 48) (.t 47),none⟩]))) (.region [⟨some 49,.bin .add (.t 39) (.c (.v (.int .i64 1))),none⟩,⟨some 39,.mv (.t 49),none⟩]))))))) (.seq (.region [⟨some 50,.mv (.t 0),none⟩,⟨some 51,.mv (.t 6),none⟩,⟨some 52,.bin .add (.t 51) (.c (.v (.int .i64 1))),none⟩,⟨some 53,.mv (.t 3),none⟩,⟨some 54,.call (.c (.fn 119 [])) [(.t 53)],none⟩,⟨some 55,.call (.t 50) [(.t 52),(.t 54)],none⟩,⟨some 56,.not (.t 55),none⟩]) (.cond (.t 56) .ret .skip))))) (.region [⟨some 57,.bin .add (.t 31) (.c (.v (.int .i64 1))),none⟩,⟨some 31,.mv (.t 57),none⟩]))))))))))⟩
theorem ZNd:Zq Tryz.prog 172=some a_wst1:=by kernel_rfl
def ZHB:List (Nat×Nat):=[(3,3),(5,5),(13,22)]
def Yk:List (Nat×Nat):=[(6,7),(9,9),(31,57)]
def ZHA:List (Nat×Nat):=[(9,9),(39,49)]

theorem ZK {α:Type} {T:List α} {n:Nat} (h:T.length=n+1):∃a U,T=a::U∧U.length=n:=by
 cases T with
 |nil=>cases h
 |cons a U=>exact⟨a,U,rfl,by simpa using h⟩
theorem ZNG {α:Type} (T:List α) (h:T.length=58):∃v0 v1 v2 v3 v4 v5 v6 v7 v8 v9 v10 v11 v12 v13 v14 v15 v16 v17 v18 v19 v20 v21 v22 v23 v24 v25 v26 v27 v28 v29 v30 v31 v32 v33 v34 v35 v36 v37 v38 v39 v40 v41 v42 v43 v44 v45 v46 v47 v48 v49 v50 v51 v52 v53 v54 v55 v56 v57:α,T=[v0,v1,v2,v3,v4,v5,v6,v7,v8,v9,v10,v11,v12,v13,v14,v15,v16,v17,v18,v19,v20,v21,v22,v23,v24,v25,v26,v27,v28,v29,v30,v31,v32,v33,v34,v35,v36,v37,v38,v39,v40,v41,v42,v43,v44,v45,v46,v47,v48,v49,v50,v51,v52,v53,v54,v55,v56,v57]:=by
 obtain⟨v0,T0,rfl,h0⟩:=ZK h
 obtain⟨v1,T1,rfl,h1⟩:=ZK h0
 obtain⟨v2,T2,rfl,h2⟩:=ZK h1
 obtain⟨v3,T3,rfl,h3⟩:=ZK h2
 obtain⟨v4,T4,rfl,h4⟩:=ZK h3
 obtain⟨v5,T5,rfl,h5⟩:=ZK h4
 obtain⟨v6,T6,rfl,h6⟩:=ZK h5
 obtain⟨v7,T7,rfl,h7⟩:=ZK h6
 obtain⟨v8,T8,rfl,h8⟩:=ZK h7
 obtain⟨v9,T9,rfl,h9⟩:=ZK h8
 obtain⟨v10,T10,rfl,h10⟩:=ZK h9
 obtain⟨v11,T11,rfl,h11⟩:=ZK h10
 obtain⟨v12,T12,rfl,h12⟩:=ZK h11
 obtain⟨v13,T13,rfl,h13⟩:=ZK h12
 obtain⟨v14,T14,rfl,h14⟩:=ZK h13
 obtain⟨v15,T15,rfl,h15⟩:=ZK h14
 obtain⟨v16,T16,rfl,h16⟩:=ZK h15
 obtain⟨v17,T17,rfl,h17⟩:=ZK h16
 obtain⟨v18,T18,rfl,h18⟩:=ZK h17
 obtain⟨v19,T19,rfl,h19⟩:=ZK h18
 obtain⟨v20,T20,rfl,h20⟩:=ZK h19
 obtain⟨v21,T21,rfl,h21⟩:=ZK h20
 obtain⟨v22,T22,rfl,h22⟩:=ZK h21
 obtain⟨v23,T23,rfl,h23⟩:=ZK h22
 obtain⟨v24,T24,rfl,h24⟩:=ZK h23
 obtain⟨v25,T25,rfl,h25⟩:=ZK h24
 obtain⟨v26,T26,rfl,h26⟩:=ZK h25
 obtain⟨v27,T27,rfl,h27⟩:=ZK h26
 obtain⟨v28,T28,rfl,h28⟩:=ZK h27
 obtain⟨v29,T29,rfl,h29⟩:=ZK h28
 obtain⟨v30,T30,rfl,h30⟩:=ZK h29
 obtain⟨v31,T31,rfl,h31⟩:=ZK h30
 obtain⟨v32,T32,rfl,h32⟩:=ZK h31
 obtain⟨v33,T33,rfl,h33⟩:=ZK h32
 obtain⟨v34,T34,rfl,h34⟩:=ZK h33
 obtain⟨v35,T35,rfl,h35⟩:=ZK h34
 obtain⟨v36,T36,rfl,h36⟩:=ZK h35
 obtain⟨v37,T37,rfl,h37⟩:=ZK h36
 obtain⟨v38,T38,rfl,h38⟩:=ZK h37
 obtain⟨v39,T39,rfl,h39⟩:=ZK h38
 obtain⟨v40,T40,rfl,h40⟩:=ZK h39
 obtain⟨v41,T41,rfl,h41⟩:=ZK h40
 obtain⟨v42,T42,rfl,h42⟩:=ZK h41
 obtain⟨v43,T43,rfl,h43⟩:=ZK h42
 obtain⟨v44,T44,rfl,h44⟩:=ZK h43
 obtain⟨v45,T45,rfl,h45⟩:=ZK h44
 obtain⟨v46,T46,rfl,h46⟩:=ZK h45
 obtain⟨v47,T47,rfl,h47⟩:=ZK h46
 obtain⟨v48,T48,rfl,h48⟩:=ZK h47
 obtain⟨v49,T49,rfl,h49⟩:=ZK h48
 obtain⟨v50,T50,rfl,h50⟩:=ZK h49
 obtain⟨v51,T51,rfl,h51⟩:=ZK h50
 obtain⟨v52,T52,rfl,h52⟩:=ZK h51
 obtain⟨v53,T53,rfl,h53⟩:=ZK h52
 obtain⟨v54,T54,rfl,h54⟩:=ZK h53
 obtain⟨v55,T55,rfl,h55⟩:=ZK h54
 obtain⟨v56,T56,rfl,h56⟩:=ZK h55
 obtain⟨v57,T57,rfl,h57⟩:=ZK h56
 obtain rfl:=List.eq_nil_of_length_eq_zero h57
 exact⟨v0,v1,v2,v3,v4,v5,v6,v7,v8,v9,v10,v11,v12,v13,v14,v15,v16,v17,v18,v19,v20,v21,v22,v23,v24,v25,v26,v27,v28,v29,v30,v31,v32,v33,v34,v35,v36,v37,v38,v39,v40,v41,v42,v43,v44,v45,v46,v47,v48,v49,v50,v51,v52,v53,v54,v55,v56,v57,rfl⟩
def s1A:ACode:=.region [⟨(some 3),.mv (.c (.v .zsl)),none⟩]
def s1V:ACode:=.seq (.region [⟨(some 10),.faddr 1 (.t 1),none⟩,⟨(some 11),.load none (.t 10),none⟩,⟨(some 12),.len (.t 11),none⟩,⟨(some 13),.mv (.c (.v (.int .i64 0))),none⟩])
 (.block 0 (.loop (.seq (.region [⟨(some 14),.bin .lss (.t 13) (.t 12),none⟩])
 (.seq (.cond (.t 14) .skip
 (.exit 0))
 (.seq (.block 1 (.seq (.region [⟨(some 15),.iaddr 2 (.t 11) (.t 13),none⟩,⟨(some 16),.load (some 2) (.t 15),none⟩,⟨(some 5),.alloc [(.v (.str ⟨#[]⟩)),(.v (.int .i64 0))],none⟩,⟨none,.store 2 (.t 5) (.t 16),none⟩])
 (.region [⟨(some 17),.mv (.t 3),none⟩,⟨(some 18),.faddr 1 (.t 5),none⟩,⟨(some 19),.load none (.t 18),none⟩,⟨(some 20),.bslice 1 [(.v (.int .i64 0))] 1 [(0,(.t 19))],none⟩,⟨(some 21),.append 1 8 (.t 17) (.t 20),none⟩,⟨(some 3),.mv (.t 21),none⟩])))
 (.region [⟨(some 22),.bin .add (.t 13) (.c (.v (.int .i64 1))),none⟩,⟨(some 13),.mv (.t 22),none⟩]))))))
def s1R:ACode:=.region [⟨(some 28),.faddr 2 (.t 1),none⟩,⟨(some 29),.load none (.t 28),none⟩,⟨(some 30),.len (.t 29),none⟩,⟨(some 31),.mv (.c (.v (.int .i64 0))),none⟩]
def s1C:ACode:=.region [⟨(some 32),.bin .lss (.t 31) (.t 30),none⟩]
def s1E:ACode:=.region [⟨(some 33),.mv (.t 31),none⟩,⟨(some 34),.iaddr 5 (.t 29) (.t 31),none⟩,⟨(some 35),.load (some 5) (.t 34),none⟩,⟨(some 7),.alloc [(.v (.int .i64 0)),(.v (.int .i64 0)),(.v (.int .i64 0)),(.v (.int .i64 0)),(.v .zsl)],none⟩,⟨(some 6),.mv (.t 33),none⟩,⟨none,.store 5 (.t 7) (.t 35),none⟩]
def s1I:ACode:=.seq (.region [⟨(some 36),.faddr 4 (.t 7),none⟩,⟨(some 37),.load none (.t 36),none⟩,⟨(some 38),.len (.t 37),none⟩,⟨(some 39),.mv (.c (.v (.int .i64 0))),none⟩])
 (.block 4 (.loop (.seq (.region [⟨(some 40),.bin .lss (.t 39) (.t 38),none⟩])
 (.seq (.cond (.t 40) .skip
 (.exit 4))
 (.seq (.block 5 (.seq (.region [⟨(some 41),.iaddr 2 (.t 37) (.t 39),none⟩,⟨(some 42),.load (some 2) (.t 41),none⟩,⟨(some 9),.alloc [(.v (.int .i64 0)),(.v (.int .i64 0))],none⟩,⟨none,.store 2 (.t 9) (.t 42),none⟩])
 (.region [⟨(some 43),.mv (.t 3),none⟩,⟨(some 44),.faddr 0 (.t 9),none⟩,⟨(some 45),.load none (.t 44),none⟩,⟨(some 46),.faddr 1 (.t 9),none⟩,⟨(some 47),.load none (.t 46),none⟩,⟨(some 48),.iaddr 1 (.t 43) (.t 45),none⟩,⟨none,.store 1 (.t 48) (.t 47),none⟩])))
 (.region [⟨(some 49),.bin .add (.t 39) (.c (.v (.int .i64 1))),none⟩,⟨(some 39),.mv (.t 49),none⟩]))))))
def s1N:ACode:=.region [⟨(some 57),.bin .add (.t 31) (.c (.v (.int .i64 1))),none⟩,⟨(some 31),.mv (.t 57),none⟩]
structure StF (yl:Nat) (p:Pr) (B:List Row) (n:Nat) (f:Nat→AV):Prop where
 lt:KLt (B.length+1) f
 s0:f 0=.v (.yl yl)
 s1:f 1=.v (.iptr [.str p.name,.isl 2 (p.vars.map eVr),.isl 5 (p.evs.map eEv)] 0)
 s3:f 3=.sl B.length n 0 n
theorem ZLQ (yl:Nat) (p:Pr) (hS:PrS p) (B:List Row) (hR:Z8 B.length B) (g:Nat→AV) (hE:KLt B.length g) (h0:g 0=.v (.yl yl)) (h1:g 1=.v (.iptr [.str p.name,.isl 2 (p.vars.map eVr),.isl 5 (p.evs.map eEv)] 0)) (h3:g 3=.v .zsl) :
  run (ZA Tryz.prog) Za s1V (kOf 58 g) B [] (fun ax e b l=>ax=.normal∧b=B∧l=[.live p.vars.length 1 (vs ((stV p 0).map eI))]∧∃f,e=kOf 58 f∧StF yl p B p.vars.length f):=by
 have hnv:=hS.nv
 simp (disch:=first|decide|omega) only[s1V,h0,h1,h3,List.length_map,go_sem]
 refine Jo (ι:=Nat) 3 1 ZHB (fun i=>[(13,.v (.int .i64 i)),(3,.sl B.length i 0 i)]) 1 (fun i=>[.live i 1 (vs (((p.vars.take i).map (·.init)).map eI))])
  (fun i=>i≤p.vars.length) (fun i=>p.vars.length-i) 0 (Nat.zero_le _) (by simp (disch:=first|decide|omega) only[h3,go_sem]) (by decide) rfl (by (repeat (first|exact hE.mono oM|refine KLt.up ?_ kL))) (by ((try simp (disch:=decide) only[h0,h1,go_sem])<;>exact kH)) (fun e=>Za.refl _ _ _) ?_
 intro g1 hE1 hEE1 hg1 i hi
 by_cases hlt:i<p.vars.length
 ·have hgi:=ZIW hlt
  have hfl:(((p.vars.take i).map (·.init)).map eI).length=i:=by rw[List.length_map,List.length_map,List.length_take];omega
  have htk:(((p.vars.take i).map (·.init)).map eI).take i=((p.vars.take i).map (·.init)).map eI:=List.take_of_length_le (by rw[hfl];omega)
  have hsn:((p.vars.take i).map (·.init)).map eI++[[.int .i64 p.vars[i].init]]=((p.vars.take (i+1)).map (·.init)).map eI:=by rw[ZCI hlt,List.map_append,List.map_append];rfl
  simp (disch:=first|decide|omega) only[h0,h1,h3,hg1,hgi,XZ,hfl,htk,hsn,ZC,cellsOf,List.length_map,go_sem]
  refine⟨i+1,hlt,by simp only;omega,?_⟩
  exact Za.kround (p:=ZHB) (k:=1) (by ((repeat refine (Z9 rfl).trans ?_);exact hEE1)) (by ((try simp (disch:=decide) only[h0,h1,hg1,go_sem])<;>exact kH)) rfl hE1 (by simp) kV hR kL
 ·obtain rfl:i=p.vars.length:=by omega
  have hst:(p.vars.take p.vars.length).map (·.init)=stV p 0:=by rw[List.take_length];rfl
  simp (disch:=first|decide|omega) only[h0,h1,h3,hg1,List.length_map,go_sem]
  refine⟨by rw[hst],_,rfl,⟨?_,?_,?_,?_⟩⟩
  ·(repeat (first|exact hE1.mono oM|refine KLt.up ?_ kL))
  ·simp (disch:=first|decide|omega) only[h0,h1,hg1,go_sem]
  ·simp (disch:=first|decide|omega) only[h0,h1,hg1,go_sem]
  ·simp (disch:=first|decide|omega) only[h0,h1,hg1,go_sem]
structure StG (yl:Nat) (p:Pr) (B:List Row) (n k i:Nat) (f:Nat→AV):Prop where
 lt:KLt (B.length+k) f
 s0:f 0=.v (.yl yl)
 s1:f 1=.v (.iptr [.str p.name,.isl 2 (p.vars.map eVr),.isl 5 (p.evs.map eEv)] 0)
 s3:f 3=.sl B.length n 0 n
 s29:f 29=.v (.isl 5 (p.evs.map eEv))
 s30:f 30=.v (.int .i64 p.evs.length)
 s31:f 31=.v (.int .i64 i)
theorem ZLR (yl:Nat) (p:Pr) (hS:PrS p) (B:List Row) (n:Nat) (l:List Row) (f:Nat→AV) (h:StF yl p B n f) :
  run (ZA Tryz.prog) Za s1R (kOf 58 f) B l (fun ax e b l'=>ax=.normal∧b=B∧l'=l∧∃f',e=kOf 58 f'∧StG yl p B n 1 0 f'):=by
 have hne:=hS.ne
 have h1:=h.s1
 simp (disch:=first|decide|omega) only[s1R,h1,List.length_map,go_sem]
 refine⟨_,rfl,⟨?_,?_,?_,?_,?_,?_,?_⟩⟩
 ·have hE:=h.lt
  (repeat (first|exact hE.mono oM|refine KLt.up ?_ kL))
 ·have:=h.s0
  simp (disch:=first|decide|omega) only[this,go_sem]
 ·simp (disch:=first|decide|omega) only[h1,go_sem]
 ·have:=h.s3
  simp (disch:=first|decide|omega) only[this,go_sem]
 ·simp (disch:=first|decide|omega) only[h1,go_sem]
 ·simp (disch:=first|decide|omega) only[h1,go_sem]
 ·simp (disch:=first|decide|omega) only[h1,go_sem];rfl
theorem ZLV (yl:Nat) (p:Pr) (B:List Row) (n i k:Nat) (l:List Row) (f:Nat→AV) (h:StG yl p B n k i f) :
  run (ZA Tryz.prog) Za s1C (kOf 58 f) B l (fun ax e b l'=>ax=.normal∧b=B∧l'=l∧∃f',e=kOf 58 f'∧StG yl p B n k i f'∧f' 32=.v (.bool (decide ((i:Int)<(p.evs.length:Int))))):=by
 have h1:=h.s30
 have h2:=h.s31
 simp (disch:=first|decide|omega) only[s1C,h1,h2,go_sem]
 refine⟨_,rfl,⟨?_,?_,?_,?_,?_,?_,?_⟩,?_⟩
 ·have hE:=h.lt
  (repeat (first|exact hE.mono oM|refine KLt.up ?_ kL))
 ·have:=h.s0
  simp (disch:=first|decide|omega) only[this,go_sem]
 ·have:=h.s1
  simp (disch:=first|decide|omega) only[this,go_sem]
 ·have:=h.s3
  simp (disch:=first|decide|omega) only[this,go_sem]
 ·have:=h.s29
  simp (disch:=first|decide|omega) only[this,go_sem]
 ·simp (disch:=first|decide|omega) only[h1,go_sem]
 ·simp (disch:=first|decide|omega) only[h2,go_sem]
 ·simp (disch:=first|decide|omega) only[h2,go_sem]
def ZDh (e:Ev):Row:=.live 0 5 [[.v (.int .i64 e.kind),.v (.int .i64 e.peer),.v (.int .i64 e.msg),.v (.int .i64 e.time),.v (.isl 2 (e.asg.map ZCz))]]
theorem ZLU (yl:Nat) (p:Pr) (B:List Row) (n i:Nat) (hi:i<p.evs.length) (r:Row) (f:Nat→AV) (h:StG yl p B n 1 i f) :
  run (ZA Tryz.prog) Za s1E (kOf 58 f) B [r] (fun ax e b l'=>ax=.normal∧b=B∧l'=[r,ZDh p.evs[i]]∧∃f',e=kOf 58 f'∧StG yl p B n 2 i f'∧(f' 6=.v (.int .i64 i)∧f' 7=.ptr (B.length+1) 0 0 0)∧KLt (B.length+1) (J8 Yk f')):=by
 have h1:=h.s29
 have h2:=h.s31
 have hge:=UH hi
 simp (disch:=first|decide|omega) only[s1E,h1,h2,hge,ZC,cellsOf,go_sem]
 refine⟨rfl,_,rfl,⟨?_,?_,?_,?_,?_,?_,?_⟩,⟨?_,?_⟩,?_⟩
 ·have hE:=h.lt
  (repeat (first|exact hE.mono oM|refine KLt.up ?_ kL))
 ·have:=h.s0
  simp (disch:=first|decide|omega) only[this,go_sem]
 ·have:=h.s1
  simp (disch:=first|decide|omega) only[this,go_sem]
 ·have:=h.s3
  simp (disch:=first|decide|omega) only[this,go_sem]
 ·simp (disch:=first|decide|omega) only[h1,go_sem]
 ·have:=h.s30
  simp (disch:=first|decide|omega) only[this,go_sem]
 ·simp (disch:=first|decide|omega) only[h2,go_sem]
 ·simp (disch:=first|decide|omega) only[h2,go_sem]
 ·simp (disch:=first|decide|omega) only[h2,go_sem]
 ·have e1:∀f',J8 Yk f'=J8 Yk f→KLt (B.length+1) (J8 Yk f'):=fun f' he=>by rw[he];exact h.lt.any
  exact e1 _ (by (repeat refine (Z9 rfl).trans ?_);rfl)
theorem ZLT (yl:Nat) (p:Pr) (hS:PrS p) (hO:OkA p) (B:List Row) (hR:Z8 B.length B) (i:Nat) (hi:i<p.evs.length) (f:Nat→AV) (h:StG yl p B p.vars.length 2 i f) (h6:f 6=.v (.int .i64 i)) (h7:f 7=.ptr (B.length+1) 0 0 0) (hlo:KLt (B.length+1) (J8 Yk f)) :
  run (ZA Tryz.prog) Za s1I (kOf 58 f) B [.live p.vars.length 1 (vs ((stV p i).map eI)),ZDh p.evs[i]] (fun ax e b l'=>ax=.normal∧b=B∧l'=[.live p.vars.length 1 (vs ((stV p (i+1)).map eI)),ZDh p.evs[i]]∧∃f',e=kOf 58 f'∧StG yl p B p.vars.length 2 i f'∧f' 6=.v (.int .i64 i)∧KLt (B.length+1) (J8 Yk f')):=by
 obtain⟨e,he⟩:∃e,p.evs[i]=e:=⟨_,rfl⟩
 rw[he]
 have hme:e∈p.evs:=by rw[←he];exact List.getElem_mem hi
 have hna:=hS.na e hme
 have hnv:=hS.nv
 have hst:stV p (i+1)=ZGZ (stV p i) e.asg e.asg.length:=by simp only[stV,apE,ZF hi,he]
 have hE:=h.lt
 have h3:=h.s3
 unfold ZDh
 simp (disch:=first|decide|omega) only[s1I,h7,List.length_map,go_sem]
 refine QM (ι:=Nat) ZHA (fun j=>[(39,.v (.int .i64 j))]) 2 (fun j=>[.live p.vars.length 1 (vs ((ZGZ (stV p i) e.asg j).map eI)),ZDh e])
  (fun j=>j≤e.asg.length) (fun j=>e.asg.length-j) 0 (Nat.zero_le _) (by (repeat (first|exact hE.mono oM|refine KLt.up ?_ kL))) (by ((try simp (disch:=decide) only[h7,go_sem])<;>exact kH)) (fun e=>Za.refl _ _ _) ?_
 intro g3 hE3 hEE3 hg3 j hj
 unfold ZDh
 by_cases hlj:j<e.asg.length
 ·have hga:=ZKL hlj
  have hv:=hO e hme e.asg[j] (List.getElem_mem hlj)
  have hfl:((ZGZ (stV p i) e.asg j).map eI).length=p.vars.length:=by rw[List.length_map,ZBv,VF]
  obtain⟨q,hq⟩:∃q:Nat,e.asg[j].v=q:=⟨e.asg[j].v.toNat,by omega⟩
  have hqn:q<p.vars.length:=by omega
  have hqg:((ZGZ (stV p i) e.asg j).map eI)[q]? = some [.int .i64 ((ZGZ (stV p i) e.asg j).getD q 0)]:=Jy (by rw[ZBv,VF];exact hqn)
  have hset:((ZGZ (stV p i) e.asg j).map eI).set q [.int .i64 e.asg[j].val]=(ZGZ (stV p i) e.asg (j+1)).map eI:=by rw[ZIh hlj,hq,Int.toNat_natCast,List.map_set];rfl
  simp (disch:=first|decide|omega) only[h3,h7,hg3,hga,hq,hqg,hset,hfl,ZC,cellsOf,List.length_map,go_sem]
  refine⟨j+1,hlj,by simp only;omega,?_⟩
  exact Za.kround (p:=ZHA) (k:=2) (by ((repeat refine (Z9 rfl).trans ?_);exact hEE3)) (by ((try simp (disch:=decide) only[h3,h7,hg3,go_sem])<;>exact kH)) rfl hE3 (by simp) kV hR kL
 ·obtain rfl:j=e.asg.length:=by omega
  simp (disch:=first|decide|omega) only[h3,h7,hg3,List.length_map,go_sem]
  rw[hst]
  refine⟨rfl,_,rfl,⟨?_,?_,?_,?_,?_,?_,?_⟩,?_,?_⟩
  ·(repeat (first|exact hE3.mono oM|refine KLt.up ?_ kL))
  ·have:=h.s0
   simp (disch:=first|decide|omega) only[this,hg3,go_sem]
  ·have:=h.s1
   simp (disch:=first|decide|omega) only[this,hg3,go_sem]
  ·simp (disch:=first|decide|omega) only[h3,hg3,go_sem]
  ·have:=h.s29
   simp (disch:=first|decide|omega) only[this,hg3,go_sem]
  ·have:=h.s30
   simp (disch:=first|decide|omega) only[this,hg3,go_sem]
  ·have:=h.s31
   simp (disch:=first|decide|omega) only[this,hg3,go_sem]
  ·simp (disch:=first|decide|omega) only[h6,hg3,go_sem]
  ·have e1:∀f',J8 Yk f'=J8 Yk f→KLt (B.length+1) (J8 Yk f'):=fun f' he=>by rw[he];exact hlo
   exact e1 _ (by (repeat refine (Z9 rfl).trans ?_);refine (UZ hg3 (Uq rfl)).trans ?_;(repeat refine (Z9 rfl).trans ?_);rfl)
theorem ZLS (yl:Nat) (p:Pr) (hS:PrS p) (B:List Row) (n i k:Nat) (hi:i<p.evs.length) (l:List Row) (f:Nat→AV) (h:StG yl p B n k i f) :
  run (ZA Tryz.prog) Za s1N (kOf 58 f) B l (fun ax e b l'=>ax=.normal∧b=B∧l'=l∧∃f',e=kOf 58 f'∧StG yl p B n k (i+1) f'):=by
 have hne:=hS.ne
 have h2:=h.s31
 simp (disch:=first|decide|omega) only[s1N,h2,go_sem]
 refine⟨_,rfl,⟨?_,?_,?_,?_,?_,?_,?_⟩⟩
 ·have hE:=h.lt
  (repeat (first|exact hE.mono oM|refine KLt.up ?_ kL))
 ·have:=h.s0
  simp (disch:=first|decide|omega) only[this,go_sem]
 ·have:=h.s1
  simp (disch:=first|decide|omega) only[this,go_sem]
 ·have:=h.s3
  simp (disch:=first|decide|omega) only[this,go_sem]
 ·have:=h.s29
  simp (disch:=first|decide|omega) only[this,go_sem]
 ·have:=h.s30
  simp (disch:=first|decide|omega) only[this,go_sem]
 ·simp (disch:=first|decide|omega) only[h2,go_sem];rfl
end Go.Proofs.YtoccdlnoaindmaaGreatDoor
namespace Go.Proofs.YtoccdlnoaindmaaGreatDoor
open Go.RowKit
set_option linter.unusedVariables false
set_option linter.unusedSimpArgs false
attribute [local go_sem] Oper.semAt_some
theorem ZLw {P:Program} {nn N:Nat} {F0:Nat→Prop} {m0:Nat} {J:World→Prop} {f:Nat→AV} {l:List Row} {a:Act} {w:World} {s:Nat} {t:Bool} {x y:Code} {K:Exit→Act→World→Prop} (h:ZDD F0 m0 J (kOf N f) l a w) (hs:s<N) (hf:f s=.v (.bool t))
  (hx:(if t=true then x else y).wpIn Fence.wide nn P K a w):(Code.cond (.tmp s) x y).wpIn Fence.wide nn P K a w:=by
 obtain⟨F,L,s',he,_⟩:=h
 have hr:=he.nth s
 rw[XU hs,hf]at hr
 refine wpIn_cond (ZAz hr) ?_
 cases t
 ·exact hx
 ·exact hx
theorem ZLv {F0:Nat→Prop} {m0:Nat} {J:World→Prop} {B:List Row} (hB:B=[]) {e e':List AV} {l l':List Row} (hw:Za e B l e' B l') {a:Act} {w:World} (h:ZDD F0 m0 J e l a w):ZDD F0 m0 J e' l' a w:=by
 subst hB
 obtain⟨F,L,s,he,h1,h2,h3,h4,h5⟩:=h
 obtain⟨F',L',s',he',st,_⟩:=hw F L w a s he
 refine⟨F',L',s',he',fun k hk=>st.imm k (h1 k hk),fun k hk=>?_,fun k hk=>?_,h4,h5⟩
 ·rcases Nat.lt_or_ge k w.heap.size with hlt|hge
  ·rcases st.fnew k hlt hk with hf|ho
   ·exact h2 k hf
   ·exact .inr (h3 k ho)
  ·exact .inr oM
 ·rcases Nat.lt_or_ge k w.heap.size with hlt|hge
  ·exact h3 k (st.own k hlt hk)
  ·omega
theorem ZEe {w:World} {F:Nat→Prop} {v:List Int} {u:Value} (h:RepI w F (.isl 1 (v.map eI)) u):RepI w (fun k=>k<w.heap.size) (.isl 1 (v.map eI)) u:=by
 obtain⟨A,c,rfl,h2,h3,h4⟩:=Jk h
 refine ZB9 h2 h3 (fun h0=>?_)
 obtain⟨b,off,h5,h6,h7⟩:=h4 h0
 have hlt:b<w.heap.size:=by
  have hk:0<(v.map eI).length:=h0
  obtain⟨g1,g2⟩:=h7 0 (v.map eI)[0] (List.getElem?_eq_getElem hk)
  have hj:0<((v.map eI)[0]).length:=by rw[g1];decide
  obtain⟨x,hx,_⟩:=g2 0 _ (List.getElem?_eq_getElem hj)
  obtain⟨o,ho,_⟩:=not_walk_of_cell hx
  exact (Array.getElem?_eq_some_iff.1 ho).1
 refine⟨b,off,h5,hlt,fun k row hk=>?_⟩
 obtain⟨g1,g2⟩:=h7 k row hk
 refine⟨g1,fun j a hj=>?_⟩
 obtain⟨x,hx,hr⟩:=g2 j a hj
 refine⟨x,hx,?_⟩
 rw[List.getElem?_map]at hk
 cases hq:v[k]? with
 |none=>rw[hq]at hk;cases hk
 |some z =>
   rw[hq]at hk;cases hk
   cases j with
   |zero=>simp[eI]at hj;subst hj;cases hr;exact .int _ _
   |succ j=>simp[eI]at hj
theorem ZAc (v:List Int) (hn:v.length≤1000000) (w:World) (u:Value) (hu:RepI w (fun k=>k<w.heap.size) (.isl 1 (v.map eI)) u):Calls Tryz.prog 119 #[u] w fun e w'=>∃vv,e=.returned vv∧Ext w w'∧RepI w' (fun k=>w.heap.size≤k∧k<w'.heap.size) (.isl 1 (v.map eI)) vv:=by
 have no:∀k,¬Qz (fun _ _=>none) ([]++[]) k:=by rintro k ⟨i,v,s,e1,q,h1,h2,h3⟩;cases h2
 have h:=(Je v hn [] []).2 (fun k=>k<w.heap.size) (fun _ _=>none) w #[u] (ZGo (fun _ h=>h)) (QL.cons (.v _ _ hu) QL.nil)
 refine Calls.mono h ?_
 rintro en w' ⟨vv,x,b',l',F',L',h1,h2,h3,h4,h5,rfl,rfl,rfl⟩
 refine⟨vv,h1,⟨h4.os,h4.tape,h4.output,h4.size,fun k hk=>h4.block k hk (no k)⟩,?_⟩
 have hrow:=h3.row 0 1 1 (vs (v.map eI)) rfl
 have hd:RepA w' (FD F' L' 0 [.live 1 1 (vs (v.map eI))]) L' (.v (.isl 1 (v.map eI))) vv:=(Dv.slV (n:=0) (i:=0) rfl (by rw[List.length_map])).rep (b:=[]) h3 vv h2
 obtain⟨A,c,rfl,g2,g3,g4⟩:=Jk hd.vI
 refine ZB9 g2 g3 (fun h0=>?_)
 obtain⟨b,off,rfl,h6,h7⟩:=g4 h0
 have hfresh:w.heap.size≤b:=by
  rcases Nat.lt_or_ge b w.heap.size with hlt|hge
  ·exfalso
   have hb:F' b:=h4.imm b hlt
   refine (h3.imm b hb).2 ?_
   obtain⟨q,g5,g6⟩:=hrow
   refine⟨0,1,1,_,q,rfl,g5,?_⟩
   generalize hvv:Value.slice (some ⟨b,off,none⟩) (v.map eI).length c=vv at h2
   generalize hll:v.length=ll at h2
   cases h2 with
   |sl id ver off' len b0 o sz cap hL hle hm =>
     rw[show ([]:List Row).length+([]:List Row).length=0 from rfl]at hL
     rw[hL]at g5;cases g5
     injection hvv with e1 e2 e3
     injection e1 with e4
     injection e4 with e5 e6
     exact e5.symm
   |slz id ver off' b0 o sz cap x hL he =>
     injection hvv with e1 e2 e3
     omega
   |sln id ver ad hL =>
     injection hvv with e1 e2 e3
     omega
  ·exact hge
 have hin:b<w'.heap.size:=by
  have hk:0<(v.map eI).length:=h0
  obtain⟨g1,g2⟩:=h7 0 (v.map eI)[0] (List.getElem?_eq_getElem hk)
  have hj:0<((v.map eI)[0]).length:=by rw[g1];decide
  obtain⟨x,hx,_⟩:=g2 0 _ (List.getElem?_eq_getElem hj)
  obtain⟨o,ho,_⟩:=not_walk_of_cell hx
  exact (Array.getElem?_eq_some_iff.1 ho).1
 refine⟨b,off,rfl,⟨hfresh,hin⟩,fun k row hk=>?_⟩
 obtain⟨g1,g2⟩:=h7 k row hk
 refine⟨g1,fun j a hj=>?_⟩
 obtain⟨x,hx,hr⟩:=g2 j a hj
 refine⟨x,hx,?_⟩
 rw[List.getElem?_map]at hk
 cases hq:v[k]? with
 |none=>rw[hq]at hk;cases hk
 |some z =>
   rw[hq]at hk;cases hk
   cases j with
   |zero=>simp[eI]at hj;subst hj;cases hr;exact .int _ _
   |succ j=>simp[eI]at hj
theorem Jw {N s:Nat} {F0:Nat→Prop} {m0:Nat} {J:World→Prop} {f:Nat→AV} {l:List Row} {a:Act} {w:World} {v:Value} (h:ZDD F0 m0 J (kOf N f) l a w):ZDD F0 m0 J (kOf N (kUp f s .any)) l (a.put (some s) v) w:=by
 obtain⟨F,L,s',he,h⟩:=h
 refine⟨F,L,s',?_,h⟩
 have:=he.put (some s) (RepA.any (w:=w) (F:=F) (L:=L) v)
 rwa [XM]at this
theorem ZLW (B:List Row) (g:Nat→AV):run (ZA Tryz.prog) Za s1A (kOf 58 g) B [] (fun ax e b l=>ax=.normal∧b=B∧l=[]∧e=kOf 58 (kUp g 3 (.v .zsl))):=⟨rfl,rfl,rfl,XM (n:=3)⟩
theorem ZFG (n:Nat) (hn:1≤n) (p:Pr) (hS:PrS p) (hO:OkA p) (l Bt:Nat) (W:World) (F0:Nat→Prop) (hF0:∀k,F0 k→k<W.heap.size)
  (hp:RepI W F0 (.iptr [.str p.name,.isl 2 (p.vars.map eVr),.isl 5 (p.evs.map eEv)] 0) (.pointer (some ⟨Bt,0,none⟩))) (J:Nat→World→Prop) (Jx:World→Prop)
  (hJ:∀i A B,J i A→Below W.heap.size A B→J i B)
  (hY:∀i v W1,i≤p.evs.length→J i W1→W.heap.size≤W1.heap.size→RepI W1 (fun k=>W.heap.size≤k∧k<W1.heap.size) (.isl 1 ((stV p i).map eI)) v →
   YieldAt Fence.wide (n-1) Tryz.prog l #[.int .i64 i,v] W1 fun e W'=>(e=.returned (.bool true)∧J (i+1) W'∧KeepF F0 W.heap.size W1 W')∨(e=.returned (.bool false)∧Jx W'))
  (h0:J 0 W) :
  CallsIn Fence.wide n Tryz.prog 172 #[.func (.yield l) #[] #[],.pointer (some ⟨Bt,0,none⟩)] W fun e W'=>(∃v,e=.returned v)∧(J (p.evs.length+1) W'∨Jx W'):=by
 obtain⟨B,hB⟩:∃B:List Row,B=[]:=⟨[],rfl⟩
 have hR:Z8 B.length B:=by rw[hB];exact Xu
 obtain⟨m0,hm0⟩:∃m0,m0=W.heap.size:=⟨_,rfl⟩
 rw[←hm0]at hJ hY
 have hJ0:∀i,∀A B,J i A→Low0 m0 A B→J i B:=fun i A B h k=>hJ i A B h k
 refine callsIn_of_wp Tryz.func172 rfl trivial ?_ rfl
 rw[Tryz.ntmps172]
 have hrep:QL W F0 (fun _ _=>none) [.v (.yl l),.v (.iptr [.str p.name,.isl 2 (p.vars.map eVr),.isl 5 (p.evs.map eEv)] 0)] (#[.func (.yield l) #[] #[],.pointer (some ⟨Bt,0,none⟩)]:Array Value).toList:=QL.cons (.v _ _ (.yl l)) (QL.cons (.v _ _ hp) QL.nil)
 have hes:=ZIU hrep 58 (by simp)
 obtain⟨a0,ha0⟩:∃a0:Act,a0={tmps:=#[.func (.yield l) #[] #[],.pointer (some ⟨Bt,0,none⟩)]++Array.replicate (58-(#[.func (.yield l) #[] #[],.pointer (some ⟨Bt,0,none⟩)]:Array Value).size) undef,defers:=[]}:=⟨_,rfl⟩
 rw[←ha0]at hes⊢
 obtain⟨g0,hg0⟩:∃g0:Nat→AV,g0=fun i=>([.v (.yl l),.v (.iptr [.str p.name,.isl 2 (p.vars.map eVr),.isl 5 (p.evs.map eEv)] 0)]:List AV).getD i (.tup []):=⟨_,rfl⟩
 rw[←hg0]at hes
 have z0:g0 0=.v (.yl l):=by rw[hg0];rfl
 have z1:g0 1=.v (.iptr [.str p.name,.isl 2 (p.vars.map eVr),.isl 5 (p.evs.map eEv)] 0):=by rw[hg0];rfl
 have hE0:KLt B.length g0:=fun i=>by
  rw[hg0]
  match i with
  |0=>exact .v _
  |1=>exact .v _
  |i+2=>exact .tup _ (by simp)
 clear hg0 ha0
 have at0:ZDD F0 m0 (J 0) (kOf 58 g0) [] a0 W:=by
  refine⟨F0,fun _ _=>none,ZGo hF0,hes,fun _ h=>h,fun _ h=>.inl h,fun k hk=>?_,by rw[hm0];exact Nat.le_refl _,h0⟩
  obtain⟨i,ver,sz,els,q,h1,h2,h3⟩:=hk
  cases h2
 refine wpIn_seq (Jq (ac:=s1A) (hJ0 0) (by kernel_rfl) hB (Q:=fun ax e b l=>ax=.normal∧b=B∧l=[]∧e=kOf 58 (kUp g0 3 (.v .zsl))) (ZLW B g0) at0 ?_)
 rintro ex a1 w1 ax e1 l1 hex ⟨rfl,_,rfl,rfl⟩ at1
 cases ex<;>first|exact hex.elim|skip
 simp only[Exit.then]
 refine wpIn_seq (Jq (ac:=s1V) (hJ0 0) (by kernel_rfl) hB (ZLQ l p hS B hR _ (hE0.up (.v _)) ?_ ?_ Q6) at1 ?_)
 ·rw[Qo (by decide)];exact z0
 ·rw[Qo (by decide)];exact z1
 clear at0 at1 hes hE0
 rintro ex a2 w2 ax e2 l2 hex ⟨rfl,_,rfl,f,rfl,hf⟩ at2
 cases ex<;>first|exact hex.elim|skip
 simp only[Exit.then]
 refine wpIn_seq ?_
 generalize hK:Exit.then _ _=K
 obtain⟨F,L,s,he,q1,q2,q3,q4,q5⟩:=at2
 obtain⟨tm,df⟩:=a2
 obtain rfl:df=[]:=he.1
 have hsz:tm.toList.length=58:=by have:=he.2.1;rw[Jp]at this;simpa using this
 obtain⟨v0,v1,v2,v3,v4,v5,v6,v7,v8,v9,v10,v11,v12,v13,v14,v15,v16,v17,v18,v19,v20,v21,v22,v23,v24,v25,v26,v27,v28,v29,v30,v31,v32,v33,v34,v35,v36,v37,v38,v39,v40,v41,v42,v43,v44,v45,v46,v47,v48,v49,v50,v51,v52,v53,v54,v55,v56,v57,hT⟩:=ZNG tm.toList hsz
 obtain rfl:tm=#[v0,v1,v2,v3,v4,v5,v6,v7,v8,v9,v10,v11,v12,v13,v14,v15,v16,v17,v18,v19,v20,v21,v22,v23,v24,v25,v26,v27,v28,v29,v30,v31,v32,v33,v34,v35,v36,v37,v38,v39,v40,v41,v42,v43,v44,v45,v46,v47,v48,v49,v50,v51,v52,v53,v54,v55,v56,v57]:=Array.toList_inj.1 (by rw[hT])
 have e0:RepA w2 F L (f 0) v0:=he.2.2 0 _ v0 (by rw[YF];rfl) rfl
 have e3:RepA w2 F L (f 3) v3:=he.2.2 3 _ v3 (by rw[YF];rfl) rfl
 rw[hf.s0]at e0
 cases e0.vI
 rw[hf.s3,hB]at e3
 have hp3:RepI w2 (fun k=>k<w2.heap.size) (.isl 1 ((stV p 0).map eI)) v3:=by
  have hd:Dv ([]:List Row).length [.live p.vars.length 1 (vs ((stV p 0).map eI))] (.sl 0 p.vars.length 0 p.vars.length) (.v (.isl 1 ((stV p 0).map eI))):=Dv.slV (n:=0) (i:=0) rfl (by rw[List.length_map,VF])
  exact ZEe (hd.rep (b:=[]) s v3 e3).vI
 obtain⟨A3,c3,hv3,_⟩:=Jk hp3
 rw[List.length_map]at hv3
 subst hv3
 have hC:=ZAc (stV p 0) (by rw[VF];exact hS.nv) w2 _ hp3
 have hCe:=ZU hC
 clear hC hp3 e3 hT hsz
 gi_wp2
 refine⟨trivial,CallsIn.mono (callsIn_wide.2 hCe.out) ?_⟩
 rintro en w3 ⟨vv,rfl,hext,hx⟩
 have hi3:=hx.mono (F':=fun k=>m0≤k∧k<w3.heap.size) (fun b hb=>⟨Nat.le_trans q4 hb.1,hb.2⟩) (fun _ _=>rfl)
 have hJ3:=hJ 0 w2 w3 q5 (Below.mono hext q4)
 obtain⟨fn,tmps,assign,body,hy,hRd⟩:=hY 0 vv w3 (Nat.zero_le _) hJ3 (Nat.le_trans q4 hext.size) hi3
 have hy0:(Instr.yield l #[.int .i64 0,vv]).run Tryz.prog w3=.ok (.round l fn tmps assign body) w3:=hy
 clear hy
 have hRe:=ZU hRd
 clear hRd hi3 hx
 gi_wp2
 have hkp:KeepF F0 m0 w2 w3:=⟨hext.size,hext.os,hext.tape,hext.output,fun k hk _=>hext.block k hk⟩
 refine hRe.out.mono ?_
 rintro e W3 (⟨rfl,hJ4,hk4⟩|⟨rfl,hJx4⟩)
 case inr =>
  gi_wp2
  rw[←hK]
  simp only[Exit.then]
  refine bodyPost_ret (results_none rfl _ _ _) rfl ?_
  exact⟨⟨_,rfl⟩,.inr hJx4⟩
 gi_wp2
 rw[←hK]
 simp only[Exit.then]
 have at3:=Jw (s:=27) (v:=.bool false) (Jw (s:=26) (v:=.bool true) (Jw (s:=25) (v:=vv) (Jw (s:=24) (v:=.slice A3 (stV p 0).length c3) (Jw (s:=23) (v:=.func (.yield l) #[] #[])
  (ZDD.keep (J':=J 1) (⟨F,L,s,he,q1,q2,q3,q4,q5⟩:ZDD F0 m0 (J 0) _ _ _ w2) (hkp.trans hk4) rfl hJ4)))))
 clear hK he s q1 q2 q3
 have hf2:StF l p B p.vars.length (kUp (kUp (kUp (kUp (kUp f 23 .any) 24 .any) 25 .any) 26 .any) 27 .any):=by
  refine⟨?_,?_,?_,?_⟩
  ·have hE:=hf.lt
   exact ((((hE.up .any).up .any).up .any).up .any).up .any
  ·simp only[Qo,ne_eq,Nat.reduceEqDiff,not_false_eq_true];exact hf.s0
  ·simp only[Qo,ne_eq,Nat.reduceEqDiff,not_false_eq_true];exact hf.s1
  ·simp only[Qo,ne_eq,Nat.reduceEqDiff,not_false_eq_true];exact hf.s3
 generalize hK:bodyPost _ _ _=K2
 refine wpIn_seq (Jq (ac:=s1R) (hJ0 1) (by kernel_rfl) hB (ZLR l p hS B _ _ _ hf2) at3 ?_)
 clear at3
 rintro ex a4 w4 ax e4 l4 hex ⟨rfl,_,rfl,f4,rfl,hg4⟩ at4
 cases ex<;>first|exact hex.elim|skip
 simp only[Exit.then]
 refine wpIn_block ?_
 refine wpIn_loop_ghost (fun m a w=>∃i f,m=p.evs.length-i∧i≤p.evs.length∧StG l p B p.vars.length 1 i f∧ZDD F0 m0 (J (i+1)) (kOf 58 f) [.live p.vars.length 1 (vs ((stV p i).map eI))] a w) _ ⟨0,f4,rfl,Nat.zero_le _,hg4,at4⟩ ?_
 clear at4 hg4 hf2 hf
 rintro m a5 w5 ⟨i,f5,rfl,hi,hg5,at5⟩
 generalize hK3:Exit.then _ _=K3
 refine wpIn_seq (Jq (ac:=s1C) (hJ0 (i+1)) (by kernel_rfl) hB (ZLV l p B _ i 1 _ f5 hg5) at5 ?_)
 clear at5 hg5
 rintro ex a6 w6 ax e6 l6 hex ⟨rfl,_,rfl,f6,rfl,hg6,hb6⟩ at6
 cases ex<;>first|exact hex.elim|skip
 simp only[Exit.then]
 refine wpIn_seq (ZLw (s:=32) at6 (by decide) hb6 ?_)
 by_cases hlt:i<p.evs.length
 case neg =>
  obtain rfl:i=p.evs.length:=by omega
  rw[if_neg (by simp)]
  refine wpIn_exit ?_
  simp only[Exit.then]
  rw[←hK3]
  simp only[Exit.then,Exit.inBlock,if_true]
  rw[←hK]
  obtain⟨F6,L6,s6,he6,_,_,_,_,hJ6⟩:=at6
  exact bodyPost_end (results_none rfl _ _ _) he6.1 ⟨⟨_,rfl⟩,.inl hJ6⟩
 rw[if_pos (by simp;omega)]
 refine wpIn_skip ?_
 simp only[Exit.then]
 refine wpIn_seq (wpIn_block ?_)
 generalize hK4:Exit.inBlock _ _=K4
 refine wpIn_seq (Jq (ac:=s1E) (hJ0 (i+1)) (by kernel_rfl) hB (ZLU l p B _ i hlt _ f6 hg6) at6 ?_)
 clear at6 hg6
 rintro ex a7 w7 ax e7 l7 hex ⟨rfl,_,rfl,f7,rfl,hg7,⟨h76,h77⟩,hlo7⟩ at7
 cases ex<;>first|exact hex.elim|skip
 simp only[Exit.then]
 refine wpIn_seq (Jq (ac:=s1I) (hJ0 (i+1)) (by kernel_rfl) hB (ZLT l p hS hO B hR i hlt f7 hg7 h76 h77 hlo7) at7 ?_)
 clear at7 hg7 h76 h77 hlo7
 rintro ex a8 w8 ax e8 l8 hex ⟨rfl,_,rfl,f8,rfl,hg8,h86,hlo8⟩ at8
 cases ex<;>first|exact hex.elim|skip
 simp only[Exit.then]
 have at9:=ZLv hB (Za.kround (p:=Yk) (ov:=[(6,.v (.int .i64 i)),(31,.v (.int .i64 i))]) (l1:=[.live p.vars.length 1 (vs ((stV p (i+1)).map eI))]) (junk:=[ZDh p.evs[i]]) (k:=1) rfl ⟨h86,hg8.s31,trivial⟩ rfl hlo8 (by simp) ⟨.v _,.v _,trivial⟩ hR (by simp only[XY,Ui,Xu,and_self])) at8
 obtain⟨f9,hf9⟩:∃f9,f9=kOv [(6,.v (.int .i64 i)),(31,.v (.int .i64 i))] (J8 Yk f8):=⟨_,rfl⟩
 rw[←hf9]at at9
 have hg9:StG l p B p.vars.length 1 i f9:=by
  have hn:∀s,kIn Yk s=false→f9 s=f8 s:=fun s hs=>by
   rw[hf9,QR,QR,Xb]
   have h6:6≠s:=fun e=>by subst e;cases hs
   have h31:31≠s:=fun e=>by subst e;cases hs
   rw[Qo h6,Qo h31,ZB8 hs]
  refine⟨?_,?_,?_,?_,?_,?_,?_⟩
  ·rw[hf9];exact (hlo8).ov (ov:=[(6,.v (.int .i64 i)),(31,.v (.int .i64 i))]) ⟨.v _,.v _,trivial⟩
  ·rw[hn 0 rfl];exact hg8.s0
  ·rw[hn 1 rfl];exact hg8.s1
  ·rw[hn 3 rfl];exact hg8.s3
  ·rw[hn 29 rfl];exact hg8.s29
  ·rw[hn 30 rfl];exact hg8.s30
  ·rw[hf9,QR,QR,Qo (by decide),Q6]
 have h96:f9 6=.v (.int .i64 i):=by rw[hf9,QR,Q6]
 clear hf9 hg8 hlo8 h86 at8
 refine wpIn_seq ?_
 obtain⟨F,L,s,he,q1,q2,q3,q4,q5⟩:=at9
 obtain⟨tm,df⟩:=a8
 obtain rfl:df=[]:=he.1
 have hsz:tm.toList.length=58:=by have:=he.2.1;rw[Jp]at this;simpa using this
 obtain⟨u0,u1,u2,u3,u4,u5,u6,u7,u8,u9,u10,u11,u12,u13,u14,u15,u16,u17,u18,u19,u20,u21,u22,u23,u24,u25,u26,u27,u28,u29,u30,u31,u32,u33,u34,u35,u36,u37,u38,u39,u40,u41,u42,u43,u44,u45,u46,u47,u48,u49,u50,u51,u52,u53,u54,u55,u56,u57,hT⟩:=ZNG tm.toList hsz
 obtain rfl:tm=#[u0,u1,u2,u3,u4,u5,u6,u7,u8,u9,u10,u11,u12,u13,u14,u15,u16,u17,u18,u19,u20,u21,u22,u23,u24,u25,u26,u27,u28,u29,u30,u31,u32,u33,u34,u35,u36,u37,u38,u39,u40,u41,u42,u43,u44,u45,u46,u47,u48,u49,u50,u51,u52,u53,u54,u55,u56,u57]:=Array.toList_inj.1 (by rw[hT])
 have e0:RepA w8 F L (f9 0) u0:=he.2.2 0 _ u0 (by rw[YF];rfl) rfl
 have e3:RepA w8 F L (f9 3) u3:=he.2.2 3 _ u3 (by rw[YF];rfl) rfl
 have e6:RepA w8 F L (f9 6) u6:=he.2.2 6 _ u6 (by rw[YF];rfl) rfl
 rw[hg9.s0]at e0
 cases e0.vI
 rw[h96]at e6
 cases e6.vI
 rw[hg9.s3,hB]at e3
 have hp3:RepI w8 (fun k=>k<w8.heap.size) (.isl 1 ((stV p (i+1)).map eI)) u3:=by
  have hd:Dv ([]:List Row).length [.live p.vars.length 1 (vs ((stV p (i+1)).map eI))] (.sl 0 p.vars.length 0 p.vars.length) (.v (.isl 1 ((stV p (i+1)).map eI))):=Dv.slV (n:=0) (i:=0) rfl (by rw[List.length_map,VF])
  exact ZEe (hd.rep (b:=[]) s u3 e3).vI
 obtain⟨A3,c3,hv3,_⟩:=Jk hp3
 rw[List.length_map]at hv3
 subst hv3
 have hC:=ZAc (stV p (i+1)) (by rw[VF];exact hS.nv) w8 _ hp3
 have hCe:=ZU hC
 have hne:=hS.ne
 have hwi:IntKind.i64.wrap ((i:Int)+1)=((i+1:Nat):Int):=by rw[Z7 oM oM];omega
 clear hC hp3 e3 hT hsz
 gi_wp2
 refine⟨trivial,CallsIn.mono (callsIn_wide.2 hCe.out) ?_⟩
 rintro en w9 ⟨vv,rfl,hext,hx⟩
 have hi3:=hx.mono (F':=fun k=>m0≤k∧k<w9.heap.size) (fun b hb=>⟨Nat.le_trans q4 hb.1,hb.2⟩) (fun _ _=>rfl)
 have hJ3:=hJ (i+1) w8 w9 q5 (Below.mono hext q4)
 obtain⟨fn,tmps,assign,body,hy,hRd⟩:=hY (i+1) vv w9 oM hJ3 (Nat.le_trans q4 hext.size) hi3
 have hy1:(Instr.yield l #[.int .i64 ((i:Int)+1),vv]).run Tryz.prog w9=.ok (.round l fn tmps assign body) w9:=hy
 clear hy
 have hRe:=ZU hRd
 clear hRd hi3 hx
 gi_wp2
 have hkp:KeepF F0 m0 w8 w9:=⟨hext.size,hext.os,hext.tape,hext.output,fun k hk _=>hext.block k hk⟩
 refine hRe.out.mono ?_
 rintro e W3 (⟨rfl,hJ4,hk4⟩|⟨rfl,hJx4⟩)
 case inr =>
  gi_wp2
  rw[←hK4]
  simp only[Exit.then,Exit.inBlock]
  rw[←hK3]
  simp only[Exit.then,Exit.inBlock]
  rw[←hK]
  refine bodyPost_ret (results_none rfl _ _ _) rfl ?_
  exact⟨⟨_,rfl⟩,.inr hJx4⟩
 gi_wp2
 rw[←hK4]
 simp only[Exit.then,Exit.inBlock]
 have ata:=Jw (s:=56) (v:=.bool false) (Jw (s:=55) (v:=.bool true) (Jw (s:=54) (v:=vv) (Jw (s:=53) (v:=.slice A3 (stV p (i+1)).length c3) (Jw (s:=52) (v:=.int .i64 ((i+1:Nat):Int)) (Jw (s:=51) (v:=.int .i64 i) (Jw (s:=50) (v:=.func (.yield l) #[] #[])
  (ZDD.keep (J':=J (i+1+1)) (⟨F,L,s,he,q1,q2,q3,q4,q5⟩:ZDD F0 m0 (J (i+1)) _ _ _ w8) (hkp.trans hk4) rfl hJ4)))))))
 have hga:StG l p B p.vars.length 1 i (kUp (kUp (kUp (kUp (kUp (kUp (kUp f9 50 .any) 51 .any) 52 .any) 53 .any) 54 .any) 55 .any) 56 .any):=by
  refine⟨?_,?_,?_,?_,?_,?_,?_⟩
  ·have hE:=hg9.lt
   exact ((((((hE.up .any).up .any).up .any).up .any).up .any).up .any).up .any
  ·simp only[Qo,ne_eq,Nat.reduceEqDiff,not_false_eq_true];exact hg9.s0
  ·simp only[Qo,ne_eq,Nat.reduceEqDiff,not_false_eq_true];exact hg9.s1
  ·simp only[Qo,ne_eq,Nat.reduceEqDiff,not_false_eq_true];exact hg9.s3
  ·simp only[Qo,ne_eq,Nat.reduceEqDiff,not_false_eq_true];exact hg9.s29
  ·simp only[Qo,ne_eq,Nat.reduceEqDiff,not_false_eq_true];exact hg9.s30
  ·simp only[Qo,ne_eq,Nat.reduceEqDiff,not_false_eq_true];exact hg9.s31
 refine Jq (ac:=s1N) (hJ0 (i+1+1)) (by kernel_rfl) hB (ZLS l p hS B _ i 1 hlt _ _ hga) ata ?_
 rintro ex ab wb ax eb lb hex ⟨rfl,_,rfl,fb,rfl,hgb⟩ atb
 cases ex<;>first|exact hex.elim|skip
 rw[←hK3]
 exact⟨p.evs.length-(i+1),by omega,i+1,fb,rfl,hlt,hgb,atb⟩
end Go.Proofs.YtoccdlnoaindmaaGreatDoor
namespace Go.Proofs.YtoccdlnoaindmaaGreatDoor
set_option linter.unusedVariables false

theorem ZA.of_newA {P:Program} {f:Nat} {args:List AV} {b l:List Row} {Q:AV→List Row→List Row→Prop} (hf:∃fn,P.funcs[f]? = some fn∧(fn.name == "runtime.NumGoroutine")=false∧fn.body.isSome=true)
  (h:∀F L w (vs:Array Value),(∀b,F b→b<w.heap.size)→QL w F L args vs.toList→Calls P f vs w fun en w'=>Ext w w'∧∃v x F',en=.returned v∧(∀b,F b→F' b)∧(∀b,b<w.heap.size→F' b→F b)∧(∀b,F' b→b<w'.heap.size)∧RepA w' F' (fun _ _=>none) x v∧Q x b l):ZA P f args b l Q:=by
 refine⟨hf,fun F L w vs s hr=>Calls.mono (h F L w vs (fun b hb=>(s.imm b hb).1) hr) ?_⟩
 rintro en w' ⟨he,v,x,F',h1,h2,h3,h4,h5,h6⟩
 have hblk:∀k,k<w.heap.size→w'.heap[k]? = w.heap[k]?:=he.block
 have hown:∀k,Qz L (b++l) k→k<w.heap.size:=by
  rintro k ⟨id,ver,sz,els,q0,k1,k2,k3⟩
  obtain⟨q,q1,q2⟩:=s.row id ver sz els k1
  rw[k2]at q1;cases q1
  exact q2.lt k3
 refine⟨v,x,b,l,F',L,h1,h5.mono (fun _ h=>h) (fun _ _=>rfl) (fun _ _ _ h=>by cases h),⟨fun i v z els hi=>?_,s.born,s.apart,fun k hk=>⟨h4 k hk,fun ho=>(s.imm k (h3 k (hown k ho) hk)).2 ho⟩,s.glob.mono h2 (fun k hk=>hblk k (s.imm k hk).1)⟩,
  ⟨h2,fun _ _ _ _ h=>h,he.os,he.tape,he.output,he.size,fun k hk _=>hblk k hk,fun _ _ h=>h,fun _ _ _ h=>h,fun k hk hf=>.inl (h3 k hk hf)⟩,rfl,h6⟩
 obtain⟨q,g1,g2⟩:=s.row i v z els hi
 exact⟨q,g1,g2.mono (fun k hk=>hblk k (g2.lt hk)) (fun _ _ hx=>hx.mono h2 (fun k hk=>hblk k (s.imm k hk).1) (fun _ _ _ h=>h))⟩

end Go.Proofs.YtoccdlnoaindmaaGreatDoor
namespace Go.Proofs.YtoccdlnoaindmaaGreatDoor
open Go.RowKit
set_option linter.unusedVariables false
set_option linter.unusedSimpArgs false
attribute [local go_sem] Oper.semAt_some
theorem ZFF (u0 u1 u2:Value) (w:World):Calls Tryz.prog 143 #[.agg #[u0,u1,u2]] w fun e w'=>e=.returned (.func (.func 172) #[] #[.pointer (some ⟨w.heap.size,0,none⟩)])∧w'=w.alloc (.cells #[u0,u1,u2] 76):=by
 go_enter Tryz.func143,Tryz.ntmps143
 go_wp2_with fail
 go_ret
 exact⟨rfl,rfl⟩
theorem ZFK {F:Fence} (hro:F.round=none) (hFa:∀f,F.fn f) {P:Program} {n:Nat} {g:Operand} {ps:Array Tmp} {assign body:Code} {Q:Exit→Act→World→Prop} {a:Act} {w:World} (h1:1≤n) {gf:Nat} {lb:Array Value} (hg:a.eval g=.func (.func gf) #[] lb) (eg:∀args w,(callFunc gf args).run P w=.ok (.enter gf args) w)
  (hcall:∀(fn:FuncId) (rec:LoopState→Option Code→Loop) (W1:World),(rec=fun st pe=>{state:=st,pending:=pe,fn:=fn,tmps:=a.tmps,params:=ps,assign:=assign,body:=body,defers:=w.heap.size}) →
   (w.alloc (.deferred (some []))).alloc (.loop (rec .ready none))=W1 →
   CallsIn F (n-1) P gf (#[.func (.yield (w.heap.size+1)) #[] #[]]++lb) W1 (rangePost F n P (w.heap.size+1) Q {a with defers:={target:=.collected w.heap.size,args:=#[]}::a.defers})) :
  (Code.rangeFunc g ps assign body).wpIn F n P Q a w:=by
 refine wpIn_rangeFunc ?_
 intro fn hfn
 rw[hro]
 obtain⟨rec,hrec⟩:∃rec:LoopState→Option Code→Loop,rec=fun st pe=>{state:=st,pending:=pe,fn:=fn,tmps:=a.tmps,params:=ps,assign:=assign,body:=body,defers:=w.heap.size}:=⟨_,rfl⟩
 obtain⟨W1,hW1⟩:∃W1,(w.alloc (.deferred (some []))).alloc (.loop (rec .ready none))=W1:=⟨_,rfl⟩
 have hh:=hcall fn rec W1 hrec hW1
 clear hcall
 refine⟨w.heap.size+1,[{target:=.collected w.heap.size,args:=#[]}],W1,{target:=.fn (.func gf) lb,args:=#[.func (.yield (w.heap.size+1)) #[] #[]]},W1,gf,
  #[.func (.yield (w.heap.size+1)) #[] #[]]++lb,W1,?_,?_,?_,?_,?_,?_⟩
 ·rw[←hW1,hrec];exact run_enterLoop_outer _ _ _ _ _
 ·simp only[resolve,hg]
  simp[go_sem]
 ·intro f1 hf1
  exact hFa f1
 ·simp[invoke,go_sem,eg]
 ·exact fun _=>h1
 ·exact hh
theorem ZGj (p:Pr) (hS:PrS p) (hO:OkA p) (k:Nat) (hk:k≤p.evs.length) (u0 u1 u2:Value) (W:World) (h0:RepI W (fun b=>b<W.heap.size) (.str p.name) u0) (h1:RepI W (fun b=>b<W.heap.size) (.isl 2 (p.vars.map eVr)) u1) (h2:RepI W (fun b=>b<W.heap.size) (.isl 5 (p.evs.map eEv)) u2) :
  Calls Tryz.prog 96 #[.agg #[u0,u1,u2],.int .i64 k] W fun e w'=>∃vv,e=.returned vv∧Ext W w'∧RepI w' (fun b=>W.heap.size≤b∧b<w'.heap.size) (.isl 1 ((stV p k).map eI)) vv:=by
 refine (callsIn_wide (n:=5)).1 ?_
 refine callsIn_of_wp_marks Tryz.func96 rfl trivial ?_ rfl
 simp only[Tryz.ntmps96,List.size_toArray,List.length_cons,List.length_nil,Nat.reduceAdd,Nat.reduceSub,Array.replicate_succ,Array.replicate_zero,List.push_toArray,List.append_toArray,List.nil_append,List.cons_append]
 have hSt:=fun w=>ZFF u0 u1 u2 w
 have H0:=ZU h0
 have H1:=ZU h1
 have H2:=ZU h2
 have HK:=ZU hk
 clear h0 h1 h2 hk
 gi_wp2_with (refine⟨trivial,?_⟩;gi_at_call 143;refine (callsIn_wide.2 (hSt _)).mono ?_;rintro e w ⟨rfl,rfl⟩)
 generalize hK:Exit.inBlock _ _=K
 obtain⟨W0,hW0⟩:∃W0,(((W.alloc (.cells #[u0,u1,u2] 76)).alloc (.cells #[.int .i64 k] 3)).alloc (.cells #[.slice none 0 0] 24)).alloc (.cells #[u0,u1,u2] 76)=W0:=⟨_,rfl⟩
 have hsz0:W0.heap.size=W.heap.size+4:=by rw[←hW0];simp
 have hb0:Below W.heap.size W W0:=by rw[←hW0];exact ((((Below.refl _ W).alloc (by simp) _).alloc (by simp) _).alloc (by simp;omega) _).alloc (by simp;omega) _
 have c1:W0.heap[W.heap.size+1]? = some (.cells #[.int .i64 k] 3):=by
  rw[←hW0,Below.heap_alloc _ _ _ (by simp),Below.heap_alloc _ _ _ (by simp)]
  have:=World.alloc_heap_new (W.alloc (.cells #[u0,u1,u2] 76)) (.cells #[.int .i64 k] 3)
  rwa [World.size_alloc]at this
 have c2:W0.heap[W.heap.size+2]? = some (.cells #[.slice none 0 0] 24):=by
  rw[←hW0,Below.heap_alloc _ _ _ (by simp)]
  have:=World.alloc_heap_new ((W.alloc (.cells #[u0,u1,u2] 76)).alloc (.cells #[.int .i64 k] 3)) (.cells #[.slice none 0 0] 24)
  rwa [World.size_alloc,World.size_alloc]at this
 have c3:W0.heap[W.heap.size+3]? = some (.cells #[u0,u1,u2] 76):=by
  rw[←hW0]
  have:=World.alloc_heap_new (((W.alloc (.cells #[u0,u1,u2] 76)).alloc (.cells #[.int .i64 k] 3)).alloc (.cells #[.slice none 0 0] 24)) (.cells #[u0,u1,u2] 76)
  rwa [World.size_alloc,World.size_alloc,World.size_alloc]at this
 clear hSt
 rw[hW0]
 clear hW0
 refine ZFK (F:=Fence.wide) rfl (fun _=>trivial) oM (gf:=172) (lb:=#[.pointer (some ⟨W.heap.size+1+1+1,0,none⟩)]) rfl (QV Tryz.func172 (by decide) rfl) ?_
 intro fn rec W1 hrec hW1
 have hs1:W1.heap.size=W.heap.size+6:=by rw[←hW1];simp;omega
 have hb1:Below W0.heap.size W0 W1:=by rw[←hW1];exact ((Below.refl _ W0).alloc (by simp) _).alloc (by simp) _
 have hl1:W1.heap[W0.heap.size+1]? = some (.loop (rec .ready none)):=by
  rw[←hW1];have:=World.alloc_heap_new (W0.alloc (.deferred (some []))) (.loop (rec .ready none));rwa [World.size_alloc]at this
 have hd1:W1.heap[W0.heap.size]? = some (.deferred (some [])):=by
  rw[←hW1];exact (Below.heap_alloc _ _ _ (by simp)).trans (World.alloc_heap_new W0 _)
 have hp:RepI W1 (fun b=>b<W.heap.size∨b=W.heap.size+3) (.iptr [.str p.name,.isl 2 (p.vars.map eVr),.isl 5 (p.evs.map eEv)] 0) (.pointer (some ⟨W.heap.size+3,0,none⟩)):=by
  have hm:∀{x:IV} {u:Value},RepI W (fun b=>b<W.heap.size) x u→RepI W1 (fun b=>b<W.heap.size∨b=W.heap.size+3) x u:=fun h=>h.mono (fun _ h=>.inl h) (fun b hb=>((hb1.block b oM).trans (hb0.block b hb)))
  have hc3:W1.heap[W.heap.size+3]? = some (.cells #[u0,u1,u2] 76):=(hb1.block _ oM).trans c3
  refine .iptr _ 0 (W.heap.size+3) 0 (fun j=>match j with|0=>u0|1=>u1|_=>u2) (.inr rfl) (fun j a hj=>?_) (fun j a hj=>?_)
  ·match j,hj with
   |0,_=>simp[World.cell?,hc3]
   |1,_=>simp[World.cell?,hc3]
   |2,_=>simp[World.cell?,hc3]
  ·match j,hj with
   |0,hj=>cases hj;exact hm H0.out
   |1,hj=>cases hj;exact hm H1.out
   |2,hj=>cases hj;exact hm H2.out
 refine (ZFG 4 oM p hS hO (W0.heap.size+1) (W.heap.size+3) W1 (fun b=>b<W.heap.size∨b=W.heap.size+3) (fun b hb=>by omega) hp
  (fun i A=>Below W1.heap.size W1 A∧i≤k)
  (fun A=>Below W.heap.size W A∧A.heap[W0.heap.size]? = some (.deferred (some []))∧A.heap[W0.heap.size+1]? = some (.loop (rec .done (some .ret)))∧W1.heap.size≤A.heap.size∧∃vv,A.heap[W.heap.size+2]? = some (.cells #[vv] 24)∧RepI A (fun b=>W1.heap.size≤b∧b<A.heap.size) (.isl 1 ((stV p k).map eI)) vv)
  (fun i A B h hb=>⟨h.1.trans hb,h.2⟩) ?yield ⟨Below.refl _ _,Nat.zero_le _⟩).mono ?after
 case after =>
  rintro e w' ⟨⟨v,rfl⟩,⟨_,hcon⟩|⟨hbw,hdw,hlw,hsw,vv,hcw,hvw⟩⟩
  ·exact absurd hcon (by have:=HK.out;omega)
  ·have hE:=run_endLoop (P:=Tryz.prog) hlw (by rw[hrec];simp)
   rw[hrec]at hE
   refine⟨some .ret,_,hE,?_⟩
   refine wpIn_ret ?_
   rw[←hK]
   simp only[Exit.inBlock,Exit.then]
   clear hE
   generalize hlp:Obj.loop _=lo
   have hd2:(w'.putObj (W0.heap.size+1) lo).heap[W0.heap.size]? = some (.deferred (some [])):=by rw[World.putObj_heap_other oM];exact hdw
   refine⟨by simp,.inl ⟨_,_,rfl,run_takeDeferred hd2,?_⟩⟩
   have hc4:(((w'.putObj (W0.heap.size+1) lo).putObj W0.heap.size (.deferred none)).heap[W.heap.size+2]?)=some (.cells #[vv] 24):=by
    rw[World.putObj_heap_other oM,World.putObj_heap_other oM];exact hcw
   have hcc:((w'.putObj (W0.heap.size+1) lo).putObj W0.heap.size (.deferred none)).cell? ⟨W.heap.size+1+1,0,none⟩=some vv:=by simp[World.cell?,hc4]
   refine⟨vv,?_,vv,rfl,⟨hbw.os,hbw.tape,hbw.output,by simp;exact hbw.size,fun b hb=>by rw[World.putObj_heap_other oM,World.putObj_heap_other oM];exact hbw.block b hb⟩,?_⟩
   ·simp[results,Tryz.f96,go_sem,hcc]
   ·refine hvw.mono (fun b hb=>⟨by omega,by simp;exact hb.2⟩) (fun b hb=>?_)
    rw[World.putObj_heap_other oM,World.putObj_heap_other oM]
 case yield =>
  rintro i v Wy hi ⟨hby,hik⟩ hsy hvy
  have hly:Wy.heap[W0.heap.size+1]? = some (.loop (rec .ready none)):=(hby.block _ oM).trans hl1
  have hdy:Wy.heap[W0.heap.size]? = some (.deferred (some [])):=(hby.block _ oM).trans hd1
  have hy:=run_yield (P:=Tryz.prog) (args:=#[.int .i64 i,v]) hly (by rw[hrec];rfl)
  refine⟨_,_,_,_,hy,roundIn_of_wpIn trivial ?_⟩
  have hbr:=run_beginRound (P:=Tryz.prog) hly (by rw[hrec])
  have hrc:rec=rec:=rfl
  obtain⟨Wb,hWb⟩:∃Wb,Wy.putObj (W0.heap.size+1) (.loop {rec .ready none with state:=.busy})=Wb:=⟨_,rfl⟩
  have hlb:Wb.heap[W0.heap.size+1]? = some (.loop {rec .ready none with state:=.busy}):=by rw[←hWb];exact World.putObj_heap_same oM
  have hob:∀b,b≠W0.heap.size+1→Wb.heap[b]? = Wy.heap[b]?:=fun b hb=>by rw[←hWb];exact World.putObj_heap_other hb
  have hsb:Wb.heap.size=Wy.heap.size:=by rw[←hWb];simp
  have hosb:Wb.os=Wy.os∧Wb.tape=Wy.tape∧Wb.output=Wy.output:=by rw[←hWb];exact⟨rfl,rfl,rfl⟩
  rw[hWb]at hbr
  clear hWb hy
  have hE1:=fun jump=>run_endRound (P:=Tryz.prog) jump hlb
  rw[hrec]at hE1⊢
  simp only at hE1⊢
  have k1:Wb.cell? ⟨W.heap.size+1,0,none⟩=some (.int .i64 k):=by
   have hcb:Wb.heap[W.heap.size+1]? = some (.cells #[.int .i64 k] 3):=(hob _ oM).trans ((hby.block _ oM).trans ((hb1.block _ oM).trans c1))
   simp[World.cell?,hcb]
  have hcb2:Wb.heap[W.heap.size+2]? = some (.cells #[.slice none 0 0] 24):=(hob _ oM).trans ((hby.block _ oM).trans ((hb1.block _ oM).trans c2))
  have k2:Wb.cell? ⟨W.heap.size+1+1,0,none⟩=some (.slice none 0 0):=by simp[World.cell?,hcb2]
  have k3:Wb.frozen? ⟨W.heap.size+1+1,0,none⟩=false:=by simp[World.frozen?,hcb2]
  have HS:=ZU (show W0.heap.size=W.heap.size+4∧W1.heap.size=W.heap.size+6∧Wb.heap.size=Wy.heap.size∧W1.heap.size≤Wy.heap.size from⟨hsz0,hs1,hsb,hsy⟩)
  obtain⟨A,c,hv,_⟩:=Jk hvy
  rw[List.length_map]at hv
  subst hv
  have HV:=ZU hvy
  have HL:=ZU (And.intro hly (And.intro hdy hlb))
  have HB:=ZU (And.intro hob hosb)
  have HC:=ZU hcb2
  have HE:=ZU hE1
  clear hsz0 hs1 hsb hsy c1 c2 c3 hl1 hd1 hvy hly hdy hlb hob hosb hcb2 hE1
  generalize W0.heap.size=d0 at *
  generalize hl0:d0+1=l0 at *
  have HIK:=ZU hik
  clear hik
  by_cases hek:i=k
  ·have heq:((i:Int)==(k:Int))=true:=by rw[hek];simp
   have HEK:=ZU hek
   clear hek
   gi_wp2
   obtain⟨hob,hosb1,hosb2,hosb3⟩:=HB.out
   obtain⟨hly,hdy,hlb⟩:=HL.out
   obtain⟨z0,z1,z2,z3⟩:=HS.out
   obtain⟨Wc,hWc⟩:∃Wc,Wb.setCell ⟨W.heap.size+1+1,0,none⟩ (.slice A (stV p i).length c)=Wc:=⟨_,rfl⟩
   have hoc:∀b,b≠W.heap.size+2→Wc.heap[b]? = Wb.heap[b]?:=fun b hb=>by rw[←hWc];exact Below.heap_setCell _ _ _ _ (by simp;omega)
   have hsc:Wc.heap.size=Wb.heap.size:=by rw[←hWc];simp[World.setCell]
   have hocs:Wc.os=Wb.os∧Wc.tape=Wb.tape∧Wc.output=Wb.output:=by rw[←hWc];exact⟨rfl,rfl,rfl⟩
   have hcc:Wc.heap[W.heap.size+2]? = some (.cells #[.slice A (stV p i).length c] 24):=by
    have hc2:Wb.heap[W.heap.size+1+1]? = some (.cells #[.slice none 0 0] 24):=HC.out
    rw[←hWc]
    show _[W.heap.size+1+1]? = _
    simp[World.setCell,Array.getElem?_modify,hc2]
   rw[hWc]
   have hlc:Wc.heap[l0]? = some (.loop {rec .ready none with state:=.busy}):=(hoc _ oM).trans hlb
   have hE:=run_endRound (P:=Tryz.prog) (some .ret) hlc
   rw[hrec]at hE
   refine⟨_,_,hE,.inr ⟨rfl,⟨?_,?_,?_,?_,?_⟩,?_,?_,?_,.slice A (stV p i).length c,?_,?_⟩⟩
   ·exact hocs.1.trans (hosb1.trans (hby.os.trans (hb1.os.trans hb0.os)))
   ·exact hocs.2.1.trans (hosb2.trans (hby.tape.trans (hb1.tape.trans hb0.tape)))
   ·exact hocs.2.2.trans (hosb3.trans (hby.output.trans (hb1.output.trans hb0.output)))
   ·simp;omega
   ·intro b hb
    rw[World.putObj_heap_other oM,hoc _ oM,hob _ oM,hby.block b oM,hb1.block b oM,hb0.block b hb]
   ·rw[World.putObj_heap_other oM,hoc _ oM,hob _ oM];exact hdy
   ·exact World.putObj_heap_same oM
   ·simp;omega
   ·rw[World.putObj_heap_other oM];exact hcc
   ·rw[←HEK.out]
    refine HV.out.mono (fun b hb=>⟨hb.1,by simp;omega⟩) (fun b hb=>?_)
    rw[World.putObj_heap_other oM,hoc _ oM,hob _ oM]
  ·have heq:((i:Int)==(k:Int))=false:=by simp;omega
   have HEK:=ZU hek
   clear hek
   gi_wp2
   obtain⟨hob,hosb1,hosb2,hosb3⟩:=HB.out
   obtain⟨hly,hdy,hlb⟩:=HL.out
   obtain⟨z0,z1,z2,z3⟩:=HS.out
   have hE:=run_endRound (P:=Tryz.prog) none hlb
   rw[hrec]at hE
   refine⟨_,_,hE,.inl ⟨rfl,⟨⟨?_,?_,?_,?_,?_⟩,?_⟩,⟨?_,?_,?_,?_,?_⟩⟩⟩
   ·exact hosb1.trans hby.os
   ·exact hosb2.trans hby.tape
   ·exact hosb3.trans hby.output
   ·simp;omega
   ·intro b hb
    by_cases hbl:b=l0
    ·subst hbl
     refine (World.putObj_heap_same oM).trans ?_
     rw[←hby.block _ hb,hly,hrec]
     rfl
    ·rw[World.putObj_heap_other hbl,hob _ hbl,hby.block b hb]
   ·have:=HIK.out;have:=HEK.out;omega
   ·simp;omega
   ·exact hosb1
   ·exact hosb2
   ·exact hosb3
   ·intro b hb hf
    rw[World.putObj_heap_other oM,hob _ oM]
attribute [local go_sem ↓] Zz Z0 QB QD Q8 Zg QA Q9 QC Qk ZM Zf Zy ZL Ze Zx ZS Zk QJ Z1 ZN QE Zh Zi Z4 Zj Z5 Zt Zd Qa QF Qc Qd XQ Qj XR XS Q6 Qo
attribute [local go_sem] Z2 ZO XT Z6 ZR XP Qh Qf Qe KT KU Qi QG QH QI Q7 ZI Zv ZQ Zu ZP Z3 aop YC XG XB Q2 XC QU XD Uh Y4 YZ amm YK QT Zp YQ XA Y0 comma Qx Y3 Ug Y2 Y1 UL YO YM XJ UK eqC eqF Jg cellsOf ZC Xm Xg YN Vx rd rdI Xs mk Qr AV.cell List.all_cons List.all_nil Bool.and_true Bool.true_and Bool.and_self List.length_cons List.length_nil List.length_append Nat.reduceAdd Nat.reduceSub Nat.reduceMul Nat.zero_add Nat.add_zero List.cons_append List.nil_append List.append_assoc List.append_nil List.getElem?_cons_zero List.getElem?_cons_succ List.getElem?_nil List.set_cons_zero List.set_cons_succ List.drop_zero List.drop_succ_cons List.take_zero List.take_succ_cons List.take_nil List.drop_nil List.map_cons List.map_nil Option.map_some if_true if_false Bool.false_eq_true and_self true_and and_true Nat.reduceLeDiff Nat.reduceLT Nat.le_refl Nat.reduceEqDiff ite_true ite_false beq_self_eq_true beq_true beq_false Bool.not_true Bool.not_false Bool.true_beq Bool.false_beq Xl Q4 Zr Qt Qw QZ QY QX QW Qv Qu Xi Z7 ZAR Ke ZAS ZAP JJ JH JK JI geI gtI JM decide_true decide_false room List.getElem?_map List.length_map List.length_take Int.toNat_natCast Nat.min_def Nat.min_self XU XM Xk QR Xb VC Zn List.getElem_cons_zero List.getElem_cons_succ
def a_vState:AFunc:=⟨3,44,[.tmp 6,.tmp 7],(.seq (.region [⟨some 3,.box (.t 0),none⟩,⟨some 6,.mv (.c (.v .zsl)),none⟩,⟨some 7,.mv (.c (.v (.int .i64 0))),none⟩]) (.seq (.block 0 (.seq (.region [⟨some 9,.load (some 1) (.t 3),none⟩,⟨some 10,.call (.c (.fn 44 [])) [(.t 9)],none⟩,⟨some 11,.not (.t 10),none⟩,⟨some 8,.mv (.t 11),none⟩]) (.cond (.t 8) (.seq (.region [⟨some 6,.mv (.c (.v .zsl)),none⟩,⟨some 7,.mv (.c (.v (.int .i64 1))),none⟩]) .ret) (.seq (.region [⟨some 13,.mv (.t 1),none⟩,⟨some 14,.bin .lss (.t 13) (.c (.v (.int .i64 0))),none⟩,⟨some 15,.mv (.t 14),none⟩,⟨some 16,.mv (.t 1),some (15,false)⟩,⟨some 17,.faddr 0 (.t 3),some (15,false)⟩,⟨some 18,.load none (.t 17),some (15,false)⟩,⟨some 19,.len (.t 18),some (15,false)⟩,⟨some 20,.bin .geq (.t 16) (.t 19),some (15,false)⟩,⟨some 21,.pick (.t 15) (.c (.v (.bool true))) (.t 20),none⟩,⟨some 22,.mv (.t 21),none⟩,⟨some 23,.mv (.t 2),some (22,false)⟩,⟨some 24,.bin .lss (.t 23) (.c (.v (.int .i64 0))),some (22,false)⟩,⟨some 25,.pick (.t 22) (.c (.v (.bool true))) (.t 24),none⟩,⟨some 26,.mv (.t 25),none⟩,⟨some 27,.mv (.t 2),some (26,false)⟩,⟨some 28,.faddr 0 (.t 3),some (26,false)⟩,⟨some 29,.load none (.t 28),some (26,false)⟩,⟨some 30,.mv (.t 1),some (26,false)⟩,⟨some 31,.iaddr 3 (.t 29) (.t 30),some (26,false)⟩,⟨some 32,.faddr 2 (.t 31),some (26,false)⟩,⟨some 33,.load none (.t 32),some (26,false)⟩,⟨some 34,.len (.t 33),some (26,false)⟩,⟨some 35,.bin .gtr (.t 27) (.t 34),some (26,false)⟩,⟨some 36,.pick (.t 26) (.c (.v (.bool true))) (.t 35),none⟩,⟨some 12,.mv (.t 36),none⟩]) (.cond (.t 12) (.seq (.region [⟨some 6,.mv (.c (.v .zsl)),none⟩,⟨some 7,.mv (.c (.v (.int .i64 2))),none⟩]) .ret) .skip))))) (.seq (.region [⟨some 37,.faddr 0 (.t 3),none⟩,⟨some 38,.load none (.t 37),none⟩,⟨some 39,.mv (.t 1),none⟩,⟨some 40,.iaddr 3 (.t 38) (.t 39),none⟩,⟨some 41,.load (some 3) (.t 40),none⟩,⟨some 42,.mv (.t 2),none⟩,⟨some 43,.call (.c (.fn 96 [])) [(.t 41),(.t 42)],none⟩,⟨some 6,.mv (.t 43),none⟩,⟨some 7,.mv (.c (.v (.int .i64 0))),none⟩]) .ret)))⟩
theorem ZED:Zq Tryz.prog 42=some a_vState:=by kernel_rfl

theorem ZDJ (p:Pr) (hS:PrS p) (hO:OkA p) (k:Nat) (hk:k≤p.evs.length) (b l:List Row):ZA Tryz.prog 96 [.agg [.v (.str p.name),.v (.isl 2 (p.vars.map eVr)),.v (.isl 5 (p.evs.map eEv))],.v (.int .i64 k)] b l (fun r b' l'=>r=.v (.isl 1 ((stV p k).map eI))∧b'=b∧l'=l):=by
 refine ZA.of_newA ⟨_,Tryz.func96,by kernel_rfl,by kernel_rfl⟩ (fun F L w us hF hr=>?_)
 obtain⟨v,u1,e1,r1,hr1⟩:=Xy hr
 obtain⟨kv,u2,e2,r2,hr2⟩:=Xy hr1
 have:=JX hr2
 subst this
 obtain rfl:us=#[v,kv]:=Array.toList_inj.1 (by rw[e1,e2])
 cases r2.vI
 obtain⟨cs,rfl,hc⟩:=r1.aggL
 obtain⟨c0,t0,f0,q0,hc0⟩:=Xy hc
 obtain⟨c1,t1,f1,q1,hc1⟩:=Xy hc0
 obtain⟨c2,t2,f2,q2,hc2⟩:=Xy hc1
 have:=JX hc2
 subst this
 obtain rfl:cs=#[c0,c1,c2]:=Array.toList_inj.1 (by rw[f0,f1,f2])
 have up:∀{x:IV} {u:Value},RepA w F L (.v x) u→RepI w (fun b=>b<w.heap.size) x u:=fun h=>h.vI.mono hF (fun _ _=>rfl)
 refine (ZGj p hS hO k hk c0 c1 c2 w (up q0) (up q1) (up q2)).mono ?_
 rintro e w' ⟨vv,rfl,he,hv⟩
 refine⟨he,vv,_,fun b=>F b∨(w.heap.size≤b∧b<w'.heap.size),rfl,fun _ h=>.inl h,fun b hb h=>h.elim id (fun h=>by omega),fun b h=>h.elim (fun h=>Nat.lt_of_lt_of_le (hF b h) he.size) (fun h=>h.2),.v _ _ (hv.mono (fun _ h=>.inr h) (fun _ _=>rfl)),rfl,rfl,rfl⟩
end Go.Proofs.YtoccdlnoaindmaaGreatDoor
namespace Go.Proofs.YtoccdlnoaindmaaGreatDoor
set_option linter.unusedVariables false
set_option linter.unusedSimpArgs false
attribute [local go_sem ↓] Zz Z0 QB QD Q8 Zg QA Q9 QC Qk ZM Zf Zy ZL Ze Zx ZS Zk QJ Z1 ZN QE Zh Zi Z4 Zj Z5 Zt Zd Qa QF Qc Qd XQ Qj XR XS Q6 Qo
attribute [local go_sem] Z2 ZO XT Z6 ZR XP Qh Qf Qe KT KU Qi QG QH QI Q7 ZI Zv ZQ Zu ZP Z3 aop YC XG XB Q2 XC QU XD Uh Y4 YZ amm YK QT Zp YQ XA Y0 comma Qx Y3 Ug Y2 Y1 UL YO YM XJ UK eqC eqF Jg cellsOf ZC Xm Xg YN Vx rd rdI Xs mk Qr AV.cell List.all_cons List.all_nil Bool.and_true Bool.true_and Bool.and_self List.length_cons List.length_nil List.length_append Nat.reduceAdd Nat.reduceSub Nat.reduceMul Nat.zero_add Nat.add_zero List.cons_append List.nil_append List.append_assoc List.append_nil List.getElem?_cons_zero List.getElem?_cons_succ List.getElem?_nil List.set_cons_zero List.set_cons_succ List.drop_zero List.drop_succ_cons List.take_zero List.take_succ_cons List.take_nil List.drop_nil List.map_cons List.map_nil Option.map_some if_true if_false Bool.false_eq_true and_self true_and and_true Nat.reduceLeDiff Nat.reduceLT Nat.le_refl Nat.reduceEqDiff ite_true ite_false beq_self_eq_true beq_true beq_false Bool.not_true Bool.not_false Bool.true_beq Bool.false_beq Xl Q4 Zr Qt Qw QZ QY QX QW Qv Qu Xi Z7 ZAR Ke ZAS ZAP JJ JH JK JI geI gtI JM decide_true decide_false room List.getElem?_map List.length_map List.length_take Int.toNat_natCast Nat.min_def Nat.min_self XU XM Xk QR Xb VC Zn List.getElem_cons_zero List.getElem_cons_succ
def ZLp (p:Pr) (k:Nat):Bool:=(List.range k).all fun i=>(p.vars.getD i ZIZ).name==UO i
def ZJV (p:Pr) (c:Int):Bool:=decide (p.evs.length=0∨(p.evs.getD (p.evs.length-1) ZA8).time≤c)
def ZBf (p:Pr) (s:Sv) (now:Int):Bool:=(p.name==s.name)&&(decide (p.vars.length=s.vars.length)&&(ZLp p s.vars.length&&(decide (ZJL p=s.vars)&&ZJV p (Uc s now))))
end Go.Proofs.YtoccdlnoaindmaaGreatDoor
namespace Go.Proofs.YtoccdlnoaindmaaGreatDoor
set_option linter.unusedVariables false
set_option linter.unusedSimpArgs false
structure Pst (t:Tr) (x:Nat×Nat) (c:Nat→Nat) (Q:List (Nat×Nat)):Prop where
 q:∀y∈Q,y∈ids t∧Le t y x
 le:∀p i,i<c p→p<t.length∧i<(Zc t p).length∧Le t (p,i+1) x
 src:x∈Q∨x.2≤c x.1
 cl:∀z∈ids t,z.2≤c z.1→∀y∈ZBu t z,y∈Q∨y.2≤c y.1
theorem Pst.start {t:Tr} {x:Nat×Nat} (hx:x∈ids t):Pst t x (fun _=>0) [x]:=by
 refine⟨fun y hy=>?_,fun p i h=>by simp at h,.inl (by simp),fun z hz h=>?_⟩
 ·simp only[List.mem_singleton]at hy;subst hy;exact⟨hx,.refl _⟩
 ·have:=(XW.1 hz).2.1
  omega
theorem Pst.cle {t:Tr} {x:Nat×Nat} {c:Nat→Nat} {Q:List (Nat×Nat)} (h:Pst t x c Q) (p:Nat):c p≤(Zc t p).length:=by
 cases hc:c p with
 |zero=>omega
 |succ n=>have:=(h.le p n oM).2.1;omega
theorem Pst.skip {t:Tr} {x y:Nat×Nat} {c:Nat→Nat} {Q:List (Nat×Nat)} (h:Pst t x c (y::Q)) (hc:y.2≤c y.1):Pst t x c Q:=by
 refine⟨fun z hz=>h.q z (by simp[hz]),h.le,?_,fun z hz hzc w hw=>?_⟩
 ·rcases h.src with h1|h1
  ·rcases List.mem_cons.1 h1 with rfl|h2
   ·exact .inr hc
   ·exact .inl h2
  ·exact .inr h1
 ·rcases h.cl z hz hzc w hw with h1|h1
  ·rcases List.mem_cons.1 h1 with rfl|h2
   ·exact .inr hc
   ·exact .inl h2
  ·exact .inr h1
theorem Pst.all {t:Tr} (hv:Vok t) {x:Nat×Nat} {c:Nat→Nat} (h:Pst t x c []):∀n z,rk t z=n→z∈ids t→z.2≤c z.1→∀w∈ids t,Le t w z→w.2≤c w.1:=by
 intro n
 induction n using Nat.strongRecOn with
 |_ n ih =>
   intro z hn hz hzc w hw hl
   rcases (ZLt hv hz hw).1 hl with rfl|⟨y,hy,hl2⟩
   ·exact hzc
   ·obtain⟨h1,h2⟩:=ZKX hv hz hy
    rcases h.cl z hz hzc y hy with h3|h3
    ·simp at h3
    ·exact ih (rk t y) (by rw[←hn];exact rk_lt hv hz h2) y rfl h1 h3 w hw hl2
theorem Pst.done {t:Tr} (hv:Vok t) {x:Nat×Nat} (hx:x∈ids t) {c:Nat→Nat} (h:Pst t x c []) {p:Nat} (hp:p<t.length):c p=vc t x p:=by
 refine ZMb (n:=(Zc t p).length) (h.cle p) vc_le (fun j hj=>?_)
 rw[←ZM6 hj]
 constructor
 ·exact fun hl=>(h.le p j hl).2.2
 ·intro hl
  have hs:x.2≤c x.1:=h.src.resolve_left (by simp)
  have:=h.all hv (rk t x) x rfl hx hs (p,j+1) (Xp.2 ⟨hp,hj⟩) hl
  exact this
end Go.Proofs.YtoccdlnoaindmaaGreatDoor
namespace Go.Proofs.YtoccdlnoaindmaaGreatDoor
set_option linter.unusedVariables false
set_option linter.unusedSimpArgs false
theorem ZC6 {t:Tr} {x:Nat×Nat}:Xq t x=0↔QN t.length x.1 (Zm t x)=true∧inB (Zm t x).time 0 1099511627776=true∧¬(Zm t x).time<ZAl t x∧(Zm t x).asg.length≤8∧Q0 (ZBV (t.getD x.1 dfPr).vars.length (Zm t x).asg) (Zm t x).asg.length=0:=by
 unfold Xq
 cases h1:QN t.length x.1 (Zm t x)
 ·simp
 cases h2:inB (Zm t x).time 0 1099511627776
 ·simp
 by_cases h3:(Zm t x).time<ZAl t x
 ·simp[h3]
 by_cases h4:8<(Zm t x).asg.length
 ·have h5:¬(Zm t x).asg.length≤8:=by omega
  simp[h3,h4,h5]
 ·have h5:(Zm t x).asg.length≤8:=by omega
  simp[h3,h4,h5]
theorem ZA1 {t:Tr} (h:Vok t) {x:Nat×Nat} (hx:x∈ids t) {k:Int} (hk:k=2∨k=3) (hkx:(Zm t x).kind=k):Xc t k (Zm t x).msg=some x:=by
 rcases hk with rfl|rfl
 ·exact h.paired.send hx hkx
 ·exact (h.paired.recv hx hkx).1
theorem ZKI {t:Tr} {x:Nat×Nat} (hx:x∈ids t):Zm t x∈Zc t x.1:=by
 obtain⟨p,i⟩:=x
 obtain⟨hp,h1,h2⟩:=XW.1 hx
 unfold Zm
 simp only at *
 rw[Yc hp,QS ZA8 _ (show i-1<t[p].evs.length by omega)]
 exact List.getElem_mem _
theorem ZJr {t:Tr} {p:Nat} {e:Ev} (hp:p<t.length) (he:e∈Zc t p):∃i,(p,i+1)∈ids t∧Zm t (p,i+1)=e:=by
 obtain⟨i,hi,rfl⟩:=List.getElem_of_mem he
 refine⟨i,Xp.2 ⟨hp,hi⟩,?_⟩
 unfold Zm
 simp only[Nat.add_sub_cancel]
 exact QS ZA8 _ hi
def Qb (t:Tr) (k j:Nat) (x y:Nat×Nat):Prop:=Hb t x y∧(y=(k,j+2)→Le t x (k,j)∨((Zm t (k,j+2)).kind=3∧Le t x (sndr t (k,j+2))))
theorem Qb.trans {t:Tr} {k j:Nat} {x y z:Nat×Nat} (h:Qb t k j x y) (g:Qb t k j y z):Qb t k j x z:=by
 refine⟨h.1.trans g.1,fun e=>?_⟩
 rcases g.2 e with a|⟨a,c⟩
 ·exact .inl ((Le.trans (.inr h.1) a))
 ·exact .inr ⟨a,(Le.trans (.inr h.1) c)⟩
theorem Hb.pos {t:Tr} {x y:Nat×Nat} (h:Hb t x y):1≤y.2:=by
 have d:∀{a c:Nat×Nat},Dir t a c→1≤c.2:=fun {a c} d=>by
  rcases d with ⟨rfl,_⟩|⟨_,hf⟩
  ·exact Nat.le_add_left _ _
  ·exact (Qg hf).2.1
 cases h with
 |one h=>exact d h
 |more _ h=>exact d h
end Go.Proofs.YtoccdlnoaindmaaGreatDoor
namespace Go.Proofs.YtoccdlnoaindmaaGreatDoor
set_option linter.unusedVariables false
set_option linter.unusedSimpArgs false
attribute [local go_sem ↓] Zz Z0 QB QD Q8 Zg QA Q9 QC Qk ZM Zf Zy ZL Ze Zx ZS Zk QJ Z1 ZN QE Zh Zi Z4 Zj Z5 Zt Zd Qa QF Qc Qd XQ Qj XR XS Q6 Qo
attribute [local go_sem] Z2 ZO XT Z6 ZR XP Qh Qf Qe KT KU Qi QG QH QI Q7 ZI Zv ZQ Zu ZP Z3 aop YC XG XB Q2 XC QU XD Uh Y4 YZ amm YK QT Zp YQ XA Y0 comma Qx Y3 Ug Y2 Y1 UL YO YM XJ UK eqC eqF Jg cellsOf ZC Xm Xg YN Vx rd rdI Xs mk Qr AV.cell List.all_cons List.all_nil Bool.and_true Bool.true_and Bool.and_self List.length_cons List.length_nil List.length_append Nat.reduceAdd Nat.reduceSub Nat.reduceMul Nat.zero_add Nat.add_zero List.cons_append List.nil_append List.append_assoc List.append_nil List.getElem?_cons_zero List.getElem?_cons_succ List.getElem?_nil List.set_cons_zero List.set_cons_succ List.drop_zero List.drop_succ_cons List.take_zero List.take_succ_cons List.take_nil List.drop_nil List.map_cons List.map_nil Option.map_some if_true if_false Bool.false_eq_true and_self true_and and_true Nat.reduceLeDiff Nat.reduceLT Nat.le_refl Nat.reduceEqDiff ite_true ite_false beq_self_eq_true beq_true beq_false Bool.not_true Bool.not_false Bool.true_beq Bool.false_beq Xl Q4 Zr Qt Qw QZ QY QX QW Qv Qu Xi Z7 ZAR Ke ZAS ZAP JJ JH JK JI geI gtI JM decide_true decide_false room List.getElem?_map List.length_map List.length_take Int.toNat_natCast Nat.min_def Nat.min_self XU XM Xk QR Xb VC Zn List.getElem_cons_zero List.getElem_cons_succ
theorem ZBn (v w:List Int) (hv:v.length≤1000000) (b l:List Row):ZA Tryz.prog 36 [.v (.isl 1 (v.map eI)),.v (.isl 1 (w.map eI))] b l (fun r b' l'=>r=.v (.bool (decide (v=w)))∧b'=b∧l'=l):=by
 refine ZD ZK3 rfl (by decide) ?_
 intro B g hB hR hE hA;simp only[Zn]at hA
 by_cases hl:v.length=w.length
 ·have hd:((v.length:Int) != (w.length:Int))=false:=by simp[hl]
  simp (disch:=first|decide|omega) only[a_Eq1,hA,List.length_map,hd,go_sem]
  refine QM (ι:=Nat) ZKp (fun i=>[(13,.v (.int .i64 i))]) 0 (fun _=>[])
   (fun i=>i≤v.length∧∀j,j<i→v.getD j 0=w.getD j 0) (fun i=>v.length-i) 0 ⟨Nat.zero_le _,fun j hj=>by omega⟩ (by (repeat (first|exact hE.mono oM|refine KLt.up ?_ kL))) (by ((try simp (disch:=decide) only[hA,go_sem])<;>exact kH)) (fun e=>Za.refl _ _ _) ?_
  rintro g1 hE1 hEE1 hg1 i ⟨hi,h0⟩
  by_cases hlt:i<v.length
  ·have hlw:i<w.length:=by omega
   by_cases he:v[i]=w[i]
   ·have hd2:(v[i] != w[i])=false:=by simp[he]
    simp (disch:=first|decide|omega) only[hA,hg1,eI,hd2,go_sem]
    refine⟨i+1,⟨hlt,fun j hj=>?_⟩,by simp only;omega,?_⟩
    ·rcases Nat.lt_or_ge j i with hji|hji
     ·exact h0 j hji
     ·have:j=i:=by omega
      subst this
      rw[ZF hlt,ZF hlw,he]
    exact Za.kround (p:=ZKp) (k:=0) (by ((repeat refine (Z9 rfl).trans ?_);exact hEE1)) (by ((try simp (disch:=decide) only[hA,go_sem])<;>exact kH)) rfl hE1 (by simp) kV hR kL
   ·have hd2:(v[i] != w[i])=true:=by simp[he]
    have hne:decide (v=w)=false:=by
     rw[decide_eq_false_iff_not];intro h;subst h;exact he rfl
    simp (disch:=first|decide|omega) only[hA,hg1,eI,hd2,go_sem]
    exact ZB (xs:=[.v (.bool false)]) (.inr rfl) (by simp (disch:=first|decide|omega) only[ZE,ZY,go_sem,hA,hg1]) kO hR hB ⟨by rw[hne];rfl,rfl,rfl⟩
  ·simp (disch:=first|decide|omega) only[hA,hg1,go_sem]
   obtain rfl:i=v.length:=by omega
   have he:decide (v=w)=true:=decide_eq_true (ZKH hl h0)
   exact ZB (xs:=[.v (.bool true)]) (.inr rfl) (by simp (disch:=first|decide|omega) only[ZE,ZY,go_sem,hA,hg1]) kO hR hB ⟨by rw[he];rfl,rfl,rfl⟩
 ·have hd:((v.length:Int) != (w.length:Int))=true:=by simp;omega
  have hne:decide (v=w)=false:=by
   rw[decide_eq_false_iff_not];intro h;subst h;exact hl rfl
  simp (disch:=first|decide|omega) only[a_Eq1,hA,List.length_map,hd,go_sem]
  exact ZB (xs:=[.v (.bool false)]) (.inr rfl) (by simp (disch:=first|decide|omega) only[ZE,ZY,go_sem,hA]) kO hR hB ⟨by rw[hne];rfl,rfl,rfl⟩
def a_wproc:AFunc:=⟨2,95,[.tmp 4],(.seq (.region [⟨some 2,.box (.t 0),none⟩,⟨some 4,.mv (.c (.v (.bool false))),none⟩]) (.seq (.draw [⟨0,⟨some 14,.faddr 0 (.t 2),none⟩,[]⟩,⟨1,⟨some 15,.load none (.t 14),none⟩,[]⟩,⟨2,⟨some 16,.mv (.t 1),none⟩,[]⟩,⟨3,⟨some 17,.iaddr 6 (.t 15) (.t 16),none⟩,[]⟩,⟨4,⟨some 18,.load (some 6) (.t 17),none⟩,[]⟩,⟨5,⟨some 19,.faddr 8 (.t 2),none⟩,[]⟩,⟨6,⟨some 20,.faddr 0 (.t 19),none⟩,[]⟩,⟨7,⟨some 21,.load none (.t 20),none⟩,[]⟩,⟨8,⟨some 22,.mv (.t 1),none⟩,[]⟩,⟨9,⟨some 23,.iaddr 3 (.t 21) (.t 22),none⟩,[]⟩,⟨10,⟨some 24,.load (some 3) (.t 23),none⟩,[]⟩,⟨11,⟨some 5,.alloc [(.v (.str ⟨#[]⟩)),(.v .zsl),(.v (.int .i64 0)),(.v .zsl),(.v (.int .i64 0)),(.v (.int .i64 0))],none⟩,[⟨some 14,.faddr 0 (.t 2),none⟩,⟨some 15,.load none (.t 14),none⟩,⟨some 16,.mv (.t 1),none⟩,⟨some 17,.iaddr 6 (.t 15) (.t 16),none⟩,⟨some 18,.load (some 6) (.t 17),none⟩,⟨some 19,.faddr 8 (.t 2),none⟩,⟨some 20,.faddr 0 (.t 19),none⟩,⟨some 21,.load none (.t 20),none⟩,⟨some 22,.mv (.t 1),none⟩,⟨some 23,.iaddr 3 (.t 21) (.t 22),none⟩,⟨some 24,.load (some 3) (.t 23),none⟩]⟩,⟨12,⟨some 6,.alloc [(.v (.str ⟨#[]⟩)),(.v .zsl),(.v .zsl)],none⟩,[⟨some 14,.faddr 0 (.t 2),none⟩,⟨some 15,.load none (.t 14),none⟩,⟨some 16,.mv (.t 1),none⟩,⟨some 17,.iaddr 6 (.t 15) (.t 16),none⟩,⟨some 18,.load (some 6) (.t 17),none⟩,⟨some 19,.faddr 8 (.t 2),none⟩,⟨some 20,.faddr 0 (.t 19),none⟩,⟨some 21,.load none (.t 20),none⟩,⟨some 22,.mv (.t 1),none⟩,⟨some 23,.iaddr 3 (.t 21) (.t 22),none⟩,⟨some 24,.load (some 3) (.t 23),none⟩]⟩,⟨13,⟨none,.store 6 (.t 5) (.t 18),none⟩,[⟨some 19,.faddr 8 (.t 2),none⟩,⟨some 20,.faddr 0 (.t 19),none⟩,⟨some 21,.load none (.t 20),none⟩,⟨some 22,.mv (.t 1),none⟩,⟨some 23,.iaddr 3 (.t 21) (.t 22),none⟩,⟨some 24,.load (some 3) (.t 23),none⟩]⟩,⟨14,⟨none,.store 3 (.t 6) (.t 24),none⟩,[]⟩]) (.seq (.seq (.region [⟨some 25,.faddr 0 (.t 6),none⟩,⟨some 26,.load none (.t 25),none⟩,⟨some 27,.faddr 0 (.t 5),none⟩,⟨some 28,.load none (.t 27),none⟩,⟨some 29,.binS .neq (.t 26) (.t 28),none⟩,⟨some 30,.mv (.t 29),none⟩,⟨some 31,.faddr 1 (.t 6),some (30,false)⟩,⟨some 32,.load none (.t 31),some (30,false)⟩,⟨some 33,.len (.t 32),some (30,false)⟩,⟨some 34,.faddr 3 (.t 5),some (30,false)⟩,⟨some 35,.load none (.t 34),some (30,false)⟩,⟨some 36,.len (.t 35),some (30,false)⟩,⟨some 37,.bin .neq (.t 33) (.t 36),some (30,false)⟩,⟨some 38,.pick (.t 30) (.c (.v (.bool true))) (.t 37),none⟩]) (.cond (.t 38) (.seq (.region [⟨some 4,.mv (.c (.v (.bool false))),none⟩]) .ret) .skip)) (.seq (.seq (.region [⟨some 39,.faddr 3 (.t 5),none⟩,⟨some 40,.load none (.t 39),none⟩,⟨some 41,.call (.c (.fn 58 [])) [(.t 40)],none⟩,⟨some 42,.len (.t 41),none⟩,⟨some 43,.mv (.c (.v (.int .i64 0))),none⟩]) (.block 0 (.loop (.seq (.region [⟨some 44,.bin .lss (.t 43) (.t 42),none⟩]) (.seq (.cond (.t 44) .skip (.exit 0)) (.seq (.block 1 (.seq (.region [⟨some 45,.mv (.t 43),none⟩,⟨some 46,.iaddr 2 (.t 41) (.t 43),none⟩,⟨some 47,.load (some 2) (.t 46),none⟩,⟨some 8,.alloc [(.v (.str ⟨#[]⟩)),(.v (.int .i64 0))],none⟩,⟨some 7,.mv (.t 45),none⟩,⟨none,.store 2 (.t 8) (.t 47),none⟩]) (.seq (.draw [⟨0,⟨some 48,.faddr 1 (.t 6),none⟩,[]⟩,⟨1,⟨some 49,.load none (.t 48),none⟩,[]⟩,⟨2,⟨some 50,.mv (.t 7),none⟩,[]⟩,⟨3,⟨some 51,.iaddr 2 (.t 49) (.t 50),none⟩,[]⟩,⟨4,⟨some 52,.faddr 0 (.t 51),none⟩,[]⟩,⟨5,⟨some 53,.load none (.t 52),none⟩,[]⟩,⟨6,⟨some 54,.faddr 0 (.t 8),none⟩,[]⟩,⟨7,⟨some 55,.load none (.t 54),none⟩,[]⟩,⟨8,⟨some 56,.binS .neq (.t 53) (.t 55),none⟩,[]⟩]) (.cond (.t 56) (.seq (.region [⟨some 4,.mv (.c (.v (.bool false))),none⟩]) .ret) .skip)))) (.region [⟨some 57,.bin .add (.t 43) (.c (.v (.int .i64 1))),none⟩,⟨some 43,.mv (.t 57),none⟩]))))))) (.seq (.region [⟨some 58,.faddr 2 (.t 6),none⟩,⟨some 59,.load none (.t 58),none⟩,⟨some 60,.len (.t 59),none⟩,⟨some 9,.mv (.t 60),none⟩]) (.seq (.region [⟨some 62,.faddr 8 (.t 2),none⟩,⟨some 63,.load (some 1) (.t 62),none⟩,⟨some 64,.mv (.t 1),none⟩,⟨some 65,.mv (.t 9),none⟩,⟨some 66,.call (.c (.fn 42 [])) [(.t 63),(.t 64),(.t 65)],none⟩,⟨some 61,.mv (.t 66),none⟩,⟨some 67,.extract 0 (.t 61),none⟩,⟨some 68,.extract 1 (.t 61),none⟩,⟨some 10,.mv (.t 67),none⟩,⟨some 11,.mv (.t 68),none⟩]) (.seq (.region [⟨some 70,.load (some 6) (.t 5),none⟩,⟨some 71,.faddr 6 (.t 2),none⟩,⟨some 72,.load none (.t 71),none⟩,⟨some 73,.call (.c (.fn 15 [])) [(.t 70),(.t 72)],none⟩,⟨some 69,.mv (.t 73),none⟩,⟨some 74,.extract 0 (.t 69),none⟩,⟨some 75,.extract 1 (.t 69),none⟩,⟨some 12,.mv (.t 74),none⟩,⟨some 13,.mv (.t 75),none⟩]) (.seq (.region [⟨some 76,.mv (.t 10),none⟩,⟨some 77,.faddr 3 (.t 5),none⟩,⟨some 78,.load none (.t 77),none⟩,⟨some 79,.call (.c (.fn 36 [])) [(.t 76),(.t 78)],none⟩,⟨some 80,.mv (.t 79),none⟩,⟨some 81,.mv (.t 9),some (80,true)⟩,⟨some 82,.bin .eql (.t 81) (.c (.v (.int .i64 0))),some (80,true)⟩,⟨some 83,.mv (.t 82),some (80,true)⟩,⟨some 84,.faddr 2 (.t 6),some (83,false)⟩,⟨some 85,.load none (.t 84),some (83,false)⟩,⟨some 86,.mv (.t 9),some (83,false)⟩,⟨some 87,.bin .sub (.t 86) (.c (.v (.int .i64 1))),some (83,false)⟩,⟨some 88,.iaddr 5 (.t 85) (.t 87),some (83,false)⟩,⟨some 89,.faddr 3 (.t 88),some (83,false)⟩,⟨some 90,.load none (.t 89),some (83,false)⟩,⟨some 91,.mv (.t 12),some (83,false)⟩,⟨some 92,.bin .leq (.t 90) (.t 91),some (83,false)⟩,⟨some 93,.pick (.t 83) (.c (.v (.bool true))) (.t 92),some (80,true)⟩,⟨some 94,.pick (.t 80) (.t 93) (.c (.v (.bool false))),none⟩,⟨some 4,.mv (.t 94),none⟩]) .ret))))))))⟩
theorem ZFv:Zq Tryz.prog 72=some a_wproc:=by kernel_rfl
def ZEW:List (Nat×Nat):=[(4,4),(7,8),(43,57)]

theorem ZKs {t:Tr} (h:Vok t) {p:Nat} (hp:p<t.length):OkA t[p]:=by
 intro e he a ha
 obtain⟨i,hi,rfl⟩:=List.getElem_of_mem he
 obtain⟨j,hj,rfl⟩:=List.getElem_of_mem ha
 have hx:(p,i+1)∈ids t:=Xp.2 ⟨hp,by rw[Yc hp];exact hi⟩
 have hf:=h.form _ hx
 have hev:=ZA5 hp hi
 unfold Xq at hf
 rw[hev]at hf
 split at hf
 ·cases hf
 split at hf
 ·cases hf
 split at hf
 ·cases hf
 have h1:=Yf.1 hf j hj
 unfold ZBV at h1
 rw[QS ZDo _ hj,QS dfPr t hp]at h1
 split at h1
 ·cases h1
 rename_i h2
 simp only[Bool.not_eq_true,Bool.or_eq_false_iff,Bool.not_eq_false']at h2
 have h3:=h2.1
 unfold inB at h3
 simp at h3
 omega
theorem ZKq {t:Tr} (h:Small t) {p:Nat} (hp:p<t.length):PrS t[p]:=⟨h.nv _ (List.getElem_mem hp),h.ne _ (List.getElem_mem hp),h.na _ (List.getElem_mem hp)⟩
theorem Ux {t:Tr} {p:Nat} (hp:p<t.length):(t.map ePr)[p]? = some [.str t[p].name,.isl 2 (t[p].vars.map eVr),.isl 5 (t[p].evs.map eEv)]:=by
 rw[List.getElem?_map,List.getElem?_eq_getElem hp];rfl
theorem ZDL (t:Tr) (hval:Xv t=true) (hS:Small t) (hN:Nm t) (p k:Nat) (hp:p<t.length) (hk:k≤t[p].evs.length) (b l:List Row):ZA Tryz.prog 42 [.agg [.v (.isl 3 (t.map ePr))],.v (.int .i64 p),.v (.int .i64 k)] b l (fun r b' l'=>r=.tup [.v (.isl 1 ((stV t[p] k).map eI)),.v (.int .i64 0)]∧b'=b∧l'=l):=by
 refine ZD ZED rfl (by decide) ?_
 intro B g hB hR hE hA;simp only[Zn]at hA
 have cV:=fun b l=>ZAt t hS hN b l
 rw[hval]at cV
 simp only[eT]at cV
 have hne:=hS.ne _ (List.getElem_mem hp)
 have htl:=hS.np
 have hgp:=Ux hp
 have d1:decide ((p:Int)<0)=false:=decide_eq_false oM
 have d2:decide ((p:Int)≥(t.length:Int))=false:=decide_eq_false oM
 have d2':decide ((t.length:Int)≤(p:Int))=false:=d2
 have d3:decide ((k:Int)<0)=false:=decide_eq_false oM
 have d4:decide ((k:Int)>(t[p].evs.length:Int))=false:=decide_eq_false oM
 have d4':decide ((t[p].evs.length:Int)<(k:Int))=false:=d4
 simp (disch:=first|decide|omega) only[a_vState,hA,go_sem]
 refine ZA.nxt (cV _ _) ?_
 simp (disch:=first|decide|omega) only[hA,hgp,d1,d2,d2',d3,d4,d4',List.length_map,go_sem]
 refine ZA.nxt (ZDJ t[p] (ZKq hS hp) (ZKs (vok hval) hp) k hk _ _) ?_
 simp (disch:=first|decide|omega) only[hA,go_sem]
 exact ZB (xs:=[.v (.isl 1 ((stV t[p] k).map eI)),.v (.int .i64 0)]) (.inr rfl) (by simp (disch:=first|decide|omega) only[ZE,ZY,go_sem,hA]) kO hR hB ⟨rfl,rfl,rfl⟩
theorem ZEy (w:Wd) (hval:Xv w.tr=true) (hS:Small w.tr) (hN:Nm w.tr) (hSv:SvsS w.sv) (p:Nat) (hp:p<w.tr.length) (hps:p<w.sv.length) (h8:w.sv[p].vars.length≤8) (b l:List Row):ZA Tryz.prog 72 [.agg ((eWd w).map .v),.v (.int .i64 p)] b l (fun r b' l'=>r=.v (.bool (ZBf w.tr[p] w.sv[p] w.now))∧b'=b∧l'=l):=by
 refine ZD ZFv rfl (by decide) ?_
 intro B g hB hR hE hA;simp only[Zn]at hA
 obtain⟨x,hx⟩:∃x,w.tr[p]=x:=⟨_,rfl⟩
 obtain⟨s,hs⟩:∃s,w.sv[p]=s:=⟨_,rfl⟩
 have hgp:=Ux hp
 have hgs:=ZA6 hps
 rw[hx]at hgp
 rw[hs]at hgs h8
 rw[hx,hs]
 have hxs:PrS x:=hx▸ZKq hS hp
 have hxo:OkA x:=hx▸ZKs (vok hval) hp
 have hnv:=hxs.nv
 have hne:=hxs.ne
 have hsl:=hSv.len
 have htl:=hS.np
 have cS:=fun b l=>ZDL w.tr hval hS hN p x.evs.length hp (by rw[hx];exact Nat.le_refl _) b l
 rw[hx,show stV x x.evs.length=ZJL x from rfl]at cS
 have hfv:(ZJL x).length=x.vars.length:=VF _
 have hbn:(x.name != s.name)=!(x.name==s.name):=rfl
 cases t1:(x.name==s.name)
 ·simp (disch:=first|decide|omega) only[a_wproc,hA,eWd,hgp,hgs,hbn,t1,ZC,cellsOf,List.length_map,go_sem]
  exact ZB (xs:=[.v (.bool false)]) (.inr rfl) (by simp (disch:=first|decide|omega) only[ZE,ZY,go_sem,hA]) kO hR hB ⟨by unfold ZBf;rw[t1];rfl,rfl,rfl⟩
 by_cases t2:x.vars.length=s.vars.length
 case neg =>
  have d2:((x.vars.length:Int) != (s.vars.length:Int))=true:=by simp;omega
  simp (disch:=first|decide|omega) only[a_wproc,hA,eWd,hgp,hgs,hbn,t1,d2,ZC,cellsOf,List.length_map,go_sem]
  exact ZB (xs:=[.v (.bool false)]) (.inr rfl) (by simp (disch:=first|decide|omega) only[ZE,ZY,go_sem,hA]) kO hR hB ⟨by unfold ZBf;rw[t1,decide_eq_false t2];rfl,rfl,rfl⟩
 have d2:((x.vars.length:Int) != (s.vars.length:Int))=false:=by simp;omega
 have hwl:(Ks s.vars).length=s.vars.length:=J4
 simp (disch:=first|decide|omega) only[a_wproc,hA,eWd,hgp,hgs,hbn,t1,d2,ZC,cellsOf,List.length_map,go_sem]
 refine ZA.nxt (ZAq s.vars h8 _ _) ?_
 simp (disch:=first|decide|omega) only[hA,hwl,List.length_map,go_sem]
 refine QM (ι:=Nat) ZEW (fun i=>[(43,.v (.int .i64 i))]) 3 (fun _=>[.live 0 9 [[.v (.isl 6 (w.sv.map eSv)),.v (.int .i64 w.net.now),.v (.bool w.net.fifo),.v (.isl 4 (w.net.l.map eMs)),.v (.isl 1 (w.net.tm.map eI)),.v (.isl 2 (w.net.fates.map eFt)),.v (.int .i64 w.now),.v (.int .i64 w.sent),.v (.isl 3 (w.tr.map ePr))]],Vh s,ZJ8 x])
  (fun i=>i≤s.vars.length∧∀j,j<i→((x.vars.getD j ZIZ).name==UO j)=true) (fun i=>s.vars.length-i) 0 ⟨Nat.zero_le _,fun j hj=>by omega⟩ (by (repeat (first|exact hE.mono oM|refine KLt.up ?_ kL))) (by ((try simp (disch:=decide) only[hA,go_sem])<;>exact kH)) (fun e=>Za.refl _ _ _) ?_
 rintro g1 hE1 hEE1 hg1 i ⟨hi,h0⟩
 unfold Vh ZJ8
 by_cases hlt:i<s.vars.length
 ·have hgw:((Ks s.vars).map eVr)[i]? = some [.str (UO i),.int .i64 (s.vars.getD i 0)]:=by
   rw[List.getElem?_map]
   unfold Ks
   rw[YV hlt];rfl
  have hlx:i<x.vars.length:=by omega
  have hgv:=ZIW hlx
  have hgn:(x.vars.getD i ZIZ).name=x.vars[i].name:=by rw[ZF hlx]
  have hb:(x.vars[i].name != UO i)=!(x.vars[i].name==UO i):=rfl
  cases t3:(x.vars[i].name==UO i)
  ·simp (disch:=first|decide|omega) only[hA,hg1,hgw,hgv,hb,t3,hwl,ZC,cellsOf,List.length_map,go_sem]
   exact ZB (xs:=[.v (.bool false)]) (.inr rfl) (by simp (disch:=first|decide|omega) only[ZE,ZY,go_sem,hA,hg1]) kO hR hB ⟨by unfold ZBf;rw[t1,decide_eq_true t2,show ZLp x s.vars.length=false from List.all_eq_false.2 ⟨i,List.mem_range.2 hlt,by rw[hgn,t3];simp⟩];rfl,rfl,rfl⟩
  ·simp (disch:=first|decide|omega) only[hA,hg1,hgw,hgv,hb,t3,hwl,ZC,cellsOf,List.length_map,go_sem]
   refine⟨i+1,⟨hlt,fun j hj=>?_⟩,by simp only;omega,?_⟩
   ·rcases Nat.lt_or_ge j i with hji|hji
    ·exact h0 j hji
    ·obtain rfl:j=i:=by omega
     rw[hgn];exact t3
   ·exact Za.kround (p:=ZEW) (k:=3) (by ((repeat refine (Z9 rfl).trans ?_);exact hEE1)) (by ((try simp (disch:=decide) only[hA,hg1,go_sem])<;>exact kH)) rfl hE1 (by simp) kV hR kL
 obtain rfl:i=s.vars.length:=by omega
 have t3:ZLp x s.vars.length=true:=by
  unfold ZLp
  rw[List.all_eq_true]
  exact fun j hj=>h0 j (List.mem_range.1 hj)
 simp (disch:=first|decide|omega) only[hA,hg1,hwl,List.length_map,go_sem]
 refine ZA.nxt (cS _ _) ?_
 simp (disch:=first|decide|omega) only[hA,hg1,hwl,List.length_map,go_sem]
 refine ZA.nxt (Vu _ _ _ _ s w.now _ _ (.inl ⟨_,rfl⟩)) ?_
 simp (disch:=first|decide|omega) only[hA,hg1,hwl,List.length_map,go_sem]
 refine ZA.nxt (ZBn (ZJL x) s.vars oM _ _) ?_
 by_cases t4:ZJL x=s.vars
 ·have d4:=decide_eq_true t4
  have hr:ZBf x s w.now=ZJV x (Uc s w.now):=by unfold ZBf;rw[t1,decide_eq_true t2,t3,d4];rfl
  rw[hr]
  by_cases hz:x.evs.length=0
  ·have dz:((x.evs.length:Int)==0)=true:=by rw[hz];rfl
   simp (disch:=first|decide|omega) only[hA,hg1,d4,dz,List.length_map,go_sem]
   exact ZB (xs:=[.v (.bool true)]) (.inr rfl) (by simp (disch:=first|decide|omega) only[ZE,ZY,go_sem,hA,hg1]) kO hR hB ⟨by unfold ZJV;rw[decide_eq_true (.inl hz)];rfl,rfl,rfl⟩
  ·have dz:((x.evs.length:Int)==0)=false:=beq_eq_false_iff_ne.2 oM
   have hlt:x.evs.length-1<x.evs.length:=by omega
   have hge:=UH hlt
   have hc1:(x.evs.length:Int)-1=((x.evs.length-1:Nat):Int):=by omega
   simp (disch:=first|decide|omega) only[hA,hg1,d4,dz,hc1,hge,List.length_map,go_sem]
   exact ZB (xs:=[.v (.bool (decide (x.evs[x.evs.length-1].time≤Uc s w.now)))]) (.inr rfl) (by simp (disch:=first|decide|omega) only[ZE,ZY,go_sem,hA,hg1]) kO hR hB ⟨by unfold ZJV;rw[ZF hlt];simp[hz,one],rfl,rfl⟩
 ·have d4:=decide_eq_false t4
  simp (disch:=first|decide|omega) only[hA,hg1,d4,List.length_map,go_sem]
  exact ZB (xs:=[.v (.bool false)]) (.inr rfl) (by simp (disch:=first|decide|omega) only[ZE,ZY,go_sem,hA,hg1]) kO hR hB ⟨by unfold ZBf;rw[d4];simp[one],rfl,rfl⟩
end Go.Proofs.YtoccdlnoaindmaaGreatDoor
namespace Go.Proofs.YtoccdlnoaindmaaGreatDoor
set_option linter.unusedVariables false
set_option linter.unusedSimpArgs false
theorem ZBE {s:ByteArray} (h:Xo s=true):s.size≤16:=by
 unfold Xo ZFU at h
 simp only[Bool.and_eq_true,decide_eq_true_eq]at h
 have:=h.1.1.2
 rwa [Array.length_toList]at this
theorem Us {t:Tr} {p:Nat} (hp:p<t.length) (h:Xf t p=0):Xo t[p].name=true∧t[p].vars.length≤8∧(∀v∈t[p].vars,Xo v.name=true)∧t[p].evs.length≤64:=by
 have h64:=Vd hp h
 unfold Xf at h
 rw[ZF hp]at h
 split at h
 ·exact absurd h (by decide)
 rename_i c1
 split at h
 ·exact absurd h (by decide)
 rename_i c2
 split at h
 ·rename_i c3;exact absurd h c3
 rename_i c3
 have c3:Q0 (ZDK t[p].vars) t[p].vars.length=0:=Classical.not_not.1 c3
 refine⟨?_,by omega,fun v hv=>?_,h64⟩
 ·cases hn:Xo t[p].name with
  |true=>rfl
  |false=>rw[hn]at c1;simp at c1
 ·obtain⟨i,hi,rfl⟩:=List.getElem_of_mem hv
  have:=Yf.1 c3 i hi
  unfold ZDK at this
  rw[ZF hi]at this
  cases hn:Xo t[p].vars[i].name with
  |true=>rfl
  |false=>rw[hn]at this;simp at this
theorem Vok.small {t:Tr} (h:Vok t):Small t:=by
 have hi:=h.hi
 refine⟨by omega,fun x hx=>?_,fun x hx=>?_,fun x hx e he=>?_⟩
 ·obtain⟨p,hp,rfl⟩:=List.getElem_of_mem hx
  have:=(Us hp (h.head p hp)).2.1;omega
 ·obtain⟨p,hp,rfl⟩:=List.getElem_of_mem hx
  have:=(Us hp (h.head p hp)).2.2.2;omega
 ·obtain⟨p,hp,rfl⟩:=List.getElem_of_mem hx
  obtain⟨i,hi,rfl⟩:=ZJr hp (by rw[Yc hp];exact he)
  have:=(ZC6.1 (h.form _ hi)).2.2.2.1
  omega
theorem Vok.nm {t:Tr} (h:Vok t):Nm t:=fun x hx=>by
 obtain⟨p,hp,rfl⟩:=List.getElem_of_mem hx
 obtain⟨h1,_,h3,_⟩:=Us hp (h.head p hp)
 have g:∀s:ByteArray,Xo s=true→s.size≤maxLen:=fun s hs=>Nat.le_trans (ZBE hs) (by unfold maxLen;decide)
 exact⟨g _ h1,fun v hv=>g _ (h3 v hv)⟩
end Go.Proofs.YtoccdlnoaindmaaGreatDoor
namespace Go.Proofs.YtoccdlnoaindmaaGreatDoor
set_option linter.unusedVariables false
set_option linter.unusedSimpArgs false
attribute [local go_sem ↓] Zz Z0 QB QD Q8 Zg QA Q9 QC Qk ZM Zf Zy ZL Ze Zx ZS Zk QJ Z1 ZN QE Zh Zi Z4 Zj Z5 Zt Zd Qa QF Qc Qd XQ Qj XR XS Q6 Qo
attribute [local go_sem] Z2 ZO XT Z6 ZR XP Qh Qf Qe KT KU Qi QG QH QI Q7 ZI Zv ZQ Zu ZP Z3 aop YC XG XB Q2 XC QU XD Uh Y4 YZ amm YK QT Zp YQ XA Y0 comma Qx Y3 Ug Y2 Y1 UL YO YM XJ UK eqC eqF Jg cellsOf ZC Xm Xg YN Vx rd rdI Xs mk Qr AV.cell List.all_cons List.all_nil Bool.and_true Bool.true_and Bool.and_self List.length_cons List.length_nil List.length_append Nat.reduceAdd Nat.reduceSub Nat.reduceMul Nat.zero_add Nat.add_zero List.cons_append List.nil_append List.append_assoc List.append_nil List.getElem?_cons_zero List.getElem?_cons_succ List.getElem?_nil List.set_cons_zero List.set_cons_succ List.drop_zero List.drop_succ_cons List.take_zero List.take_succ_cons List.take_nil List.drop_nil List.map_cons List.map_nil Option.map_some if_true if_false Bool.false_eq_true and_self true_and and_true Nat.reduceLeDiff Nat.reduceLT Nat.le_refl Nat.reduceEqDiff ite_true ite_false beq_self_eq_true beq_true beq_false Bool.not_true Bool.not_false Bool.true_beq Bool.false_beq Xl Q4 Zr Qt Qw QZ QY QX QW Qv Qu Xi Z7 ZAR Ke ZAS ZAP JJ JH JK JI geI gtI JM decide_true decide_false room List.getElem?_map List.length_map List.length_take Int.toNat_natCast Nat.min_def Nat.min_self XU XM Xk QR Xb VC Zn List.getElem_cons_zero List.getElem_cons_succ
def a_wValid:AFunc:=⟨1,92,[.tmp 2],(.seq (.region [⟨some 1,.box (.t 0),none⟩,⟨some 2,.mv (.c (.v (.bool false))),none⟩]) (.seq (.seq (.region [⟨some 8,.faddr 0 (.t 1),none⟩,⟨some 9,.load none (.t 8),none⟩,⟨some 10,.call (.c (.fn 55 [])) [(.t 9)],none⟩,⟨some 11,.not (.t 10),none⟩,⟨some 12,.mv (.t 11),none⟩,⟨some 13,.faddr 6 (.t 1),some (12,false)⟩,⟨some 14,.load none (.t 13),some (12,false)⟩,⟨some 15,.call (.c (.fn 61 [])) [(.t 14),(.c (.v (.int .i64 0))),(.c (.v (.int .i64 1000000000)))],some (12,false)⟩,⟨some 16,.not (.t 15),some (12,false)⟩,⟨some 17,.pick (.t 12) (.c (.v (.bool true))) (.t 16),none⟩,⟨some 18,.mv (.t 17),none⟩,⟨some 19,.faddr 1 (.t 1),some (18,false)⟩,⟨some 20,.load (some 5) (.t 19),some (18,false)⟩,⟨some 21,.call (.c (.fn 56 [])) [(.t 20)],some (18,false)⟩,⟨some 22,.not (.t 21),some (18,false)⟩,⟨some 23,.pick (.t 18) (.c (.v (.bool true))) (.t 22),none⟩,⟨some 24,.mv (.t 23),none⟩,⟨some 25,.faddr 1 (.t 1),some (24,false)⟩,⟨some 26,.faddr 0 (.t 25),some (24,false)⟩,⟨some 27,.load none (.t 26),some (24,false)⟩,⟨some 28,.faddr 6 (.t 1),some (24,false)⟩,⟨some 29,.load none (.t 28),some (24,false)⟩,⟨some 30,.bin .neq (.t 27) (.t 29),some (24,false)⟩,⟨some 31,.pick (.t 24) (.c (.v (.bool true))) (.t 30),none⟩,⟨some 32,.mv (.t 31),none⟩,⟨some 33,.faddr 8 (.t 1),some (32,false)⟩,⟨some 34,.load (some 1) (.t 33),some (32,false)⟩,⟨some 35,.call (.c (.fn 44 [])) [(.t 34)],some (32,false)⟩,⟨some 36,.not (.t 35),some (32,false)⟩,⟨some 37,.pick (.t 32) (.c (.v (.bool true))) (.t 36),none⟩,⟨some 38,.mv (.t 37),none⟩,⟨some 39,.faddr 8 (.t 1),some (38,false)⟩,⟨some 40,.faddr 0 (.t 39),some (38,false)⟩,⟨some 41,.load none (.t 40),some (38,false)⟩,⟨some 42,.len (.t 41),some (38,false)⟩,⟨some 43,.faddr 0 (.t 1),some (38,false)⟩,⟨some 44,.load none (.t 43),some (38,false)⟩,⟨some 45,.len (.t 44),some (38,false)⟩,⟨some 46,.bin .neq (.t 42) (.t 45),some (38,false)⟩,⟨some 47,.pick (.t 38) (.c (.v (.bool true))) (.t 46),none⟩]) (.cond (.t 47) (.seq (.region [⟨some 2,.mv (.c (.v (.bool false))),none⟩]) .ret) .skip)) (.seq (.region [⟨some 3,.mv (.c (.v (.int .i64 0))),none⟩]) (.seq (.seq (.region [⟨some 48,.faddr 8 (.t 1),none⟩,⟨some 49,.faddr 0 (.t 48),none⟩,⟨some 50,.load none (.t 49),none⟩,⟨some 51,.len (.t 50),none⟩,⟨some 52,.mv (.c (.v (.int .i64 0))),none⟩]) (.block 0 (.loop (.seq (.region [⟨some 53,.bin .lss (.t 52) (.t 51),none⟩]) (.seq (.cond (.t 53) .skip (.exit 0)) (.seq (.block 1 (.seq (.region [⟨some 54,.mv (.t 52),none⟩,⟨some 55,.iaddr 3 (.t 50) (.t 52),none⟩,⟨some 56,.load (some 3) (.t 55),none⟩,⟨some 5,.alloc [(.v (.str ⟨#[]⟩)),(.v .zsl),(.v .zsl)],none⟩,⟨some 4,.mv (.t 54),none⟩,⟨none,.store 3 (.t 5) (.t 56),none⟩]) (.seq (.seq (.region [⟨some 57,.load (some 9) (.t 1),none⟩,⟨some 58,.mv (.t 4),none⟩,⟨some 59,.call (.c (.fn 72 [])) [(.t 57),(.t 58)],none⟩,⟨some 60,.not (.t 59),none⟩]) (.cond (.t 60) (.seq (.region [⟨some 2,.mv (.c (.v (.bool false))),none⟩]) .ret) .skip)) (.seq (.region [⟨some 61,.faddr 2 (.t 5),none⟩,⟨some 62,.load none (.t 61),none⟩,⟨some 63,.len (.t 62),none⟩,⟨some 64,.mv (.c (.v (.int .i64 0))),none⟩]) (.block 2 (.loop (.seq (.region [⟨some 65,.bin .lss (.t 64) (.t 63),none⟩]) (.seq (.cond (.t 65) .skip (.exit 2)) (.seq (.block 3 (.seq (.region [⟨some 66,.iaddr 5 (.t 62) (.t 64),none⟩,⟨some 67,.load (some 5) (.t 66),none⟩,⟨some 7,.alloc [(.v (.int .i64 0)),(.v (.int .i64 0)),(.v (.int .i64 0)),(.v (.int .i64 0)),(.v .zsl)],none⟩,⟨none,.store 5 (.t 7) (.t 67),none⟩]) (.seq (.seq (.region [⟨some 68,.faddr 0 (.t 7),none⟩,⟨some 69,.load none (.t 68),none⟩,⟨some 70,.bin .neq (.t 69) (.c (.v (.int .i64 2))),none⟩]) (.cond (.t 70) (.exit 3) .skip)) (.seq (.seq (.region [⟨some 71,.faddr 2 (.t 7),none⟩,⟨some 72,.load none (.t 71),none⟩,⟨some 73,.faddr 7 (.t 1),none⟩,⟨some 74,.load none (.t 73),none⟩,⟨some 75,.bin .geq (.t 72) (.t 74),none⟩]) (.cond (.t 75) (.seq (.region [⟨some 2,.mv (.c (.v (.bool false))),none⟩]) .ret) .skip)) (.region [⟨some 76,.mv (.t 3),none⟩,⟨some 77,.bin .add (.t 76) (.c (.v (.int .i64 1))),none⟩,⟨some 3,.mv (.t 77),none⟩]))))) (.region [⟨some 78,.bin .add (.t 64) (.c (.v (.int .i64 1))),none⟩,⟨some 64,.mv (.t 78),none⟩])))))))))) (.region [⟨some 79,.bin .add (.t 52) (.c (.v (.int .i64 1))),none⟩,⟨some 52,.mv (.t 79),none⟩]))))))) (.seq (.region [⟨some 80,.mv (.t 3),none⟩,⟨some 81,.faddr 7 (.t 1),none⟩,⟨some 82,.load none (.t 81),none⟩,⟨some 83,.bin .eql (.t 80) (.t 82),none⟩,⟨some 84,.mv (.t 83),none⟩,⟨some 85,.faddr 1 (.t 1),some (84,true)⟩,⟨some 86,.faddr 2 (.t 85),some (84,true)⟩,⟨some 87,.load none (.t 86),some (84,true)⟩,⟨some 88,.mkfn 73 [(.t 1)],some (84,true)⟩,⟨some 89,.call (.c (.fn 53 [])) [(.t 87),(.t 88)],some (84,true)⟩,⟨some 90,.not (.t 89),some (84,true)⟩,⟨some 91,.pick (.t 84) (.t 90) (.c (.v (.bool false))),none⟩,⟨some 2,.mv (.t 91),none⟩]) .ret)))))⟩
theorem ZDx:Zq Tryz.prog 24=some a_wValid:=by kernel_rfl
def ZCQ:List (Nat×Nat):=[(2,5),(7,7),(52,79)]
def ZAE:List (Nat×Nat):=[(2,3),(7,7),(64,78)]
def a_wValid1:AFunc:=⟨2,48,[.tmp 3],(.seq (.region [⟨some 2,.box (.t 0),none⟩,⟨some 3,.mv (.c (.v (.bool false))),none⟩]) (.seq (.region [⟨some 7,.faddr 8 (.t 1),none⟩,⟨some 8,.load (some 1) (.t 7),none⟩,⟨some 9,.faddr 2 (.t 2),none⟩,⟨some 10,.load none (.t 9),none⟩,⟨some 11,.call (.c (.fn 41 [])) [(.t 8),(.t 10)],none⟩,⟨some 6,.mv (.t 11),none⟩,⟨some 12,.extract 0 (.t 6),none⟩,⟨some 13,.extract 1 (.t 6),none⟩,⟨some 4,.alloc [(.v (.int .i64 0)),(.v (.int .i64 0))],none⟩,⟨none,.store 2 (.t 4) (.t 12),none⟩,⟨some 5,.mv (.t 13),none⟩]) (.seq (.draw [⟨0,⟨some 14,.faddr 3 (.t 2),none⟩,[]⟩,⟨1,⟨some 15,.load none (.t 14),none⟩,[]⟩,⟨2,⟨some 16,.len (.t 15),none⟩,[]⟩,⟨3,⟨some 17,.bin .neq (.t 16) (.c (.v (.int .i64 1))),none⟩,[]⟩,⟨4,⟨some 18,.mv (.t 17),none⟩,[]⟩,⟨5,⟨some 19,.mv (.t 5),some (18,false)⟩,[]⟩,⟨6,⟨some 20,.not (.t 19),some (18,false)⟩,[]⟩,⟨7,⟨some 21,.pick (.t 18) (.c (.v (.bool true))) (.t 20),none⟩,[]⟩,⟨8,⟨some 22,.mv (.t 21),none⟩,[]⟩,⟨9,⟨some 23,.faddr 0 (.t 4),some (22,false)⟩,[]⟩,⟨10,⟨some 24,.load none (.t 23),some (22,false)⟩,[]⟩,⟨11,⟨some 25,.faddr 0 (.t 2),some (22,false)⟩,[]⟩,⟨12,⟨some 26,.load none (.t 25),some (22,false)⟩,[]⟩,⟨13,⟨some 27,.bin .neq (.t 24) (.t 26),some (22,false)⟩,[]⟩,⟨14,⟨some 28,.pick (.t 22) (.c (.v (.bool true))) (.t 27),none⟩,[]⟩,⟨15,⟨some 29,.mv (.t 28),none⟩,[]⟩,⟨16,⟨some 30,.faddr 8 (.t 1),some (29,false)⟩,[]⟩,⟨17,⟨some 31,.faddr 0 (.t 30),some (29,false)⟩,[]⟩,⟨18,⟨some 32,.load none (.t 31),some (29,false)⟩,[]⟩,⟨19,⟨some 33,.faddr 0 (.t 4),some (29,false)⟩,[]⟩,⟨20,⟨some 34,.load none (.t 33),some (29,false)⟩,[]⟩,⟨21,⟨some 35,.iaddr 3 (.t 32) (.t 34),some (29,false)⟩,[]⟩,⟨22,⟨some 36,.faddr 2 (.t 35),some (29,false)⟩,[]⟩,⟨23,⟨some 37,.load none (.t 36),some (29,false)⟩,[]⟩,⟨24,⟨some 38,.faddr 1 (.t 4),some (29,false)⟩,[]⟩,⟨25,⟨some 39,.load none (.t 38),some (29,false)⟩,[]⟩,⟨26,⟨some 40,.bin .sub (.t 39) (.c (.v (.int .i64 1))),some (29,false)⟩,[]⟩,⟨27,⟨some 41,.iaddr 5 (.t 37) (.t 40),some (29,false)⟩,[]⟩,⟨28,⟨some 42,.faddr 1 (.t 41),some (29,false)⟩,[]⟩,⟨29,⟨some 43,.load none (.t 42),some (29,false)⟩,[]⟩,⟨30,⟨some 44,.faddr 1 (.t 2),some (29,false)⟩,[]⟩,⟨31,⟨some 45,.load none (.t 44),some (29,false)⟩,[]⟩,⟨32,⟨some 46,.bin .neq (.t 43) (.t 45),some (29,false)⟩,[]⟩,⟨33,⟨some 47,.pick (.t 29) (.c (.v (.bool true))) (.t 46),none⟩,[]⟩,⟨34,⟨some 3,.mv (.t 47),none⟩,[]⟩]) .ret)))⟩
theorem ZCq:Zq Tryz.prog 73=some a_wValid1:=by kernel_rfl

theorem ZGL:Zq Tryz.prog 53=some (JT 106):=by kernel_rfl
theorem ZGJ:Zq Tryz.prog 106=some (Vf 4):=by kernel_rfl
def nSd (l:List Ev):Nat→Nat
 |0=>0
 |i+1=>if (l.getD i ZA8).kind=2 then nSd l i+1 else nSd l i
theorem ZH9 (l:List Ev):∀i,nSd l i≤i
 |0=>Nat.le_refl _
 |i+1=>by have:=ZH9 l i;simp only[nSd];split<;>omega
def cSd (t:Tr):Nat→Nat
 |0=>0
 |p+1=>cSd t p+nSd (Zc t p) (Zc t p).length
theorem ZIc {t:Tr} (h:∀x∈t,x.evs.length≤64):∀p,p≤t.length→cSd t p≤64*p
 |0,_=>Nat.le_refl _
 |p+1,hp=>by
   have:=ZIc h p oM
   have h1:=ZH9 (Zc t p) (Zc t p).length
   have h2:=h t[p] (List.getElem_mem oM)
   rw[Yc (show p<t.length by omega)]at h1
   simp only[cSd]
   rw[Yc (show p<t.length by omega)]
   omega
def sOk (l:List Ev) (sent:Int) (i:Nat):Bool:=!((l.getD i ZA8).kind==2)||decide ((l.getD i ZA8).msg<sent)
noncomputable def mgB (t:Tr) (m:Ms):Bool:=decide (m.body.length=1)&&(decide (0<(Qs t 2 m.nu).2)&&(decide (((Qs t 2 m.nu).1:Int)=m.fr)&&decide ((Zm t (Qs t 2 m.nu)).peer=m.to)))
def prB (w:Wd) (p:Nat):Bool:=ZBf (w.tr.getD p dfPr) (w.sv.getD p dfSv) w.now&&(List.range (Zc w.tr p).length).all (sOk (Zc w.tr p) w.sent)
noncomputable def wdB (w:Wd):Bool:=VE w.sv&&(inZ w.now 0 1000000000&&(nwB w.net&&(decide (w.net.now=w.now)&&(Xv w.tr&&(decide (w.tr.length=w.sv.length)&&((List.range w.tr.length).all (prB w)&&(decide ((cSd w.tr w.tr.length:Int)=w.sent)&&w.net.l.all (mgB w.tr))))))))
theorem ZBg {t:Tr} {kd m:Int} (h:0<(Qs t kd m).2):∃p i,Qs t kd m=(p,i+1)∧∃hp:p<t.length,i<t[p].evs.length:=by
 unfold Qs at h⊢
 split at h
 case isFalse=>simp at h
 rename_i hv
 rw[if_pos hv]
 unfold J2 ZH at h⊢
 cases hf:(ids t).find? (J7 t kd m) with
 |none=>rw[hf]at h;simp at h
 |some x =>
   obtain⟨p,j⟩:=x
   have hm:=List.mem_of_find?_eq_some hf
   obtain⟨hp,h1,h2⟩:=XW.1 hm
   simp only at hp h1 h2
   obtain⟨i,rfl⟩:∃i,j=i+1:=⟨j-1,by omega⟩
   exact⟨p,i,rfl,hp,by omega⟩
theorem ZCC (w:Wd) (hS:Small w.tr) (hN:Nm w.tr) (m:Ms) (hm:m.body.length≤1000000) (id:Nat) (b l:List Row) (hg:hget b l id=some (.live 0 9 [(eWd w).map .v])):ZA Tryz.prog 73 [.agg ((eMs m).map .v),.ptr id 0 0 0] b l (fun r b' l'=>r=.v (.bool (!mgB w.tr m))∧b'=b∧l'=l):=by
 refine ZD ZCq rfl (by decide) ?_
 intro B g hB hR hE hA;simp only[Zn]at hA
 have g0:∀l',hget B l' id=some (.live 0 9 [(eWd w).map .v]):=fun l'=>by
  rw[Qq]at hg
  rw[Qq,List.getElem?_append_left (by rw[hB];exact (List.getElem?_eq_some_iff.1 hg).1),hB];exact hg
 unfold eWd at g0
 simp only[List.map_cons,List.map_nil]at g0
 have cS:=fun b l=>ZDO w.tr hS hN b l m.nu
 simp only[eT,idA]at cS
 have hb1:((m.body.length:Int) != 1)=!decide (m.body.length=1):=by
  by_cases h:m.body.length=1<;>simp[h]
  omega
 simp (disch:=first|decide|omega) only[a_wValid1,hA,g0,eMs,ZC,cellsOf,List.length_map,go_sem]
 refine ZA.nxt (cS _ _) ?_
 by_cases t1:m.body.length=1
 case neg =>
  have d1:((m.body.length:Int) != 1)=true:=by simp;omega
  simp (disch:=first|decide|omega) only[hA,g0,d1,ZC,cellsOf,List.length_map,go_sem]
  exact ZB (xs:=[.v (.bool true)]) (.inr rfl) (by simp (disch:=first|decide|omega) only[ZE,ZY,go_sem,hA]) kO hR hB ⟨by simp[mgB,t1,one],rfl,rfl⟩
 have d1:((m.body.length:Int) != 1)=false:=by simp;omega
 by_cases t2:0<(Qs w.tr 2 m.nu).2
 case neg =>
  have d2:decide (0<(Qs w.tr 2 m.nu).2)=false:=decide_eq_false t2
  simp (disch:=first|decide|omega) only[hA,g0,d1,d2,ZC,cellsOf,List.length_map,go_sem]
  exact ZB (xs:=[.v (.bool true)]) (.inr rfl) (by simp (disch:=first|decide|omega) only[ZE,ZY,go_sem,hA]) kO hR hB ⟨by simp[mgB,t2,one],rfl,rfl⟩
 have d2:decide (0<(Qs w.tr 2 m.nu).2)=true:=decide_eq_true t2
 obtain⟨p,i,hpi,hp,hi⟩:=ZBg t2
 have hgp:=Ux hp
 have hge:=UH hi
 have hev:=ZA5 hp hi
 have hne:=hS.ne _ (List.getElem_mem hp)
 have htl:=hS.np
 have hmg:mgB w.tr m=(decide ((p:Int)=m.fr)&&decide (w.tr[p].evs[i].peer=m.to)):=by unfold mgB;rw[decide_eq_true t1,d2,hpi,hev];rfl
 rw[hmg]
 rw[hpi]at d2
 have hci:((i+1:Nat):Int)-1=(i:Int):=by omega
 by_cases t3:(p:Int)=m.fr
 case neg =>
  have d3:((p:Int) != m.fr)=true:=by simpa using t3
  simp (disch:=first|decide|omega) only[hA,g0,d1,d2,hpi,d3,ZC,cellsOf,List.length_map,go_sem]
  exact ZB (xs:=[.v (.bool true)]) (.inr rfl) (by simp (disch:=first|decide|omega) only[ZE,ZY,go_sem,hA]) kO hR hB ⟨by simp[t3,one],rfl,rfl⟩
 have d3:((p:Int) != m.fr)=false:=by simpa using t3
 have d4:(w.tr[p].evs[i].peer != m.to)=!decide (w.tr[p].evs[i].peer=m.to):=by
  by_cases h:w.tr[p].evs[i].peer=m.to<;>simp[h]
 simp (disch:=first|decide|omega) only[hA,g0,d1,d2,hpi,d3,hgp,hge,hci,d4,ZC,cellsOf,List.length_map,go_sem]
 exact ZB (xs:=[.v (.bool (!decide (w.tr[p].evs[i].peer=m.to)))]) (.inr rfl) (by simp (disch:=first|decide|omega) only[ZE,ZY,go_sem,hA]) kO hR hB ⟨by simp[t3,one],rfl,rfl⟩
theorem ZM4 {w:Wd} {p:Nat} (hp:p<w.tr.length) (h:prB w p=false):wdB w=false:=by
 have:(List.range w.tr.length).all (prB w)=false:=List.all_eq_false.2 ⟨p,List.mem_range.2 hp,by rw[h];simp⟩
 unfold wdB
 rw[this];simp
theorem Yy (w:Wd) (hS0:Sm w.tr) (hN:Nm w.tr) (hSv:SvsS w.sv) (hSn:NwS w.net) (b l:List Row):ZA Tryz.prog 24 [.agg ((eWd w).map .v)] b l (fun r b' l'=>r=.v (.bool (wdB w))∧b'=b∧l'=l):=by
 refine ZD ZDx rfl (by decide) ?_
 intro B g hB hR hE hA;simp only[Zn]at hA
 have cV:=fun b l=>Y8 w.net b l
 have cT:=fun b l=>Kt w.tr hS0 hN b l
 simp only[eNw,eT,List.map_cons,List.map_nil]at cV cT
 have htl:=hS0.np
 have hsl:=hSv.len
 simp (disch:=first|decide|omega) only[a_wValid,hA,eWd,ZC,cellsOf,go_sem]
 refine ZA.nxt (Vk w.sv hSv _ _) ?_
 cases t1:VE w.sv
 ·simp (disch:=first|decide|omega) only[hA,go_sem]
  exact ZB (xs:=[.v (.bool false)]) (.inr rfl) (by simp (disch:=first|decide|omega) only[ZE,ZY,go_sem,hA]) kO hR hB ⟨by unfold wdB;rw[t1];rfl,rfl,rfl⟩
 simp (disch:=first|decide|omega) only[hA,go_sem]
 refine ZA.nxt (Qp _ _ _ _ _) ?_
 cases t2:inZ w.now 0 1000000000
 ·simp (disch:=first|decide|omega) only[hA,go_sem]
  exact ZB (xs:=[.v (.bool false)]) (.inr rfl) (by simp (disch:=first|decide|omega) only[ZE,ZY,go_sem,hA]) kO hR hB ⟨by unfold wdB;rw[t1,t2];rfl,rfl,rfl⟩
 simp (disch:=first|decide|omega) only[hA,go_sem]
 refine ZA.nxt (cV _ _) ?_
 cases t3:nwB w.net
 ·simp (disch:=first|decide|omega) only[hA,go_sem]
  exact ZB (xs:=[.v (.bool false)]) (.inr rfl) (by simp (disch:=first|decide|omega) only[ZE,ZY,go_sem,hA]) kO hR hB ⟨by unfold wdB;rw[t1,t2,t3];rfl,rfl,rfl⟩
 by_cases t4:w.net.now=w.now
 case neg =>
  have d4:(w.net.now != w.now)=true:=by simpa using t4
  simp (disch:=first|decide|omega) only[hA,d4,go_sem]
  exact ZB (xs:=[.v (.bool false)]) (.inr rfl) (by simp (disch:=first|decide|omega) only[ZE,ZY,go_sem,hA]) kO hR hB ⟨by unfold wdB;rw[t1,t2,t3,decide_eq_false t4];rfl,rfl,rfl⟩
 have d4:(w.net.now != w.now)=false:=by simpa using t4
 simp (disch:=first|decide|omega) only[hA,d4,go_sem]
 refine ZA.nxt (cT _ _) ?_
 cases t5:Xv w.tr
 ·simp (disch:=first|decide|omega) only[hA,go_sem]
  exact ZB (xs:=[.v (.bool false)]) (.inr rfl) (by simp (disch:=first|decide|omega) only[ZE,ZY,go_sem,hA]) kO hR hB ⟨by unfold wdB;rw[t1,t2,t3,decide_eq_true t4,t5];rfl,rfl,rfl⟩
 by_cases t6:w.tr.length=w.sv.length
 case neg =>
  have d6:((w.tr.length:Int) != (w.sv.length:Int))=true:=by simp;omega
  simp (disch:=first|decide|omega) only[hA,d6,List.length_map,go_sem]
  exact ZB (xs:=[.v (.bool false)]) (.inr rfl) (by simp (disch:=first|decide|omega) only[ZE,ZY,go_sem,hA]) kO hR hB ⟨by unfold wdB;rw[t1,t2,t3,decide_eq_true t4,t5,decide_eq_false t6];rfl,rfl,rfl⟩
 have d6:((w.tr.length:Int) != (w.sv.length:Int))=false:=by simp;omega
 have hvk:=vok t5
 have hS:=hvk.small
 have h64:∀x∈w.tr,x.evs.length≤64:=fun x hx=>by
  obtain⟨p,hp,rfl⟩:=List.getElem_of_mem hx
  have hh:=hvk.head p hp
  unfold Xf at hh
  rw[QS dfPr w.tr hp]at hh
  split at hh
  ·cases hh
  split at hh
  ·cases hh
  split at hh
  ·rename_i hc;exact absurd hh hc
  split at hh
  ·cases hh
  ·omega
 have h8:∀p (h:p<w.sv.length),w.sv[p].vars.length≤8:=fun p hp=>by
  unfold VE at t1
  rw[Bool.and_eq_true,List.all_eq_true]at t1
  have:=t1.2 p (List.mem_range.2 hp)
  unfold svB sv1 at this
  rw[ZF hp]at this
  simp only[Bool.and_eq_true,decide_eq_true_eq]at this
  exact this.1.2.2.1
 have hcl:=ZIc h64
 have htl8:=hvk.hi
 simp (disch:=first|decide|omega) only[hA,d6,List.length_map,go_sem]
 refine QM (ι:=Nat) ZCQ (fun p=>[(3,.v (.int .i64 (cSd w.tr p))),(52,.v (.int .i64 p))]) 1 (fun _=>[.live 0 9 [(eWd w).map .v]])
  (fun p=>p≤w.tr.length∧∀j,j<p→prB w j=true) (fun p=>w.tr.length-p) 0 ⟨Nat.zero_le _,fun j hj=>by omega⟩ (by (repeat (first|exact hE.mono oM|refine KLt.up ?_ kL))) (by ((try simp (disch:=decide) only[hA,go_sem])<;>exact kH)) (fun e=>Za.refl _ _ _) ?_
 rintro g1 hE1 hEE1 hg1 p ⟨hp,h0⟩
 have heW:(eWd w).map AV.v=[.v (.isl 6 (w.sv.map eSv)),.v (.int .i64 w.net.now),.v (.bool w.net.fifo),.v (.isl 4 (w.net.l.map eMs)),.v (.isl 1 (w.net.tm.map eI)),.v (.isl 2 (w.net.fates.map eFt)),.v (.int .i64 w.now),.v (.int .i64 w.sent),.v (.isl 3 (w.tr.map ePr))]:=rfl
 rw[heW]
 by_cases hlt:p<w.tr.length
 case neg =>
  obtain rfl:p=w.tr.length:=by omega
  have hall:(List.range w.tr.length).all (prB w)=true:=List.all_eq_true.2 fun j hj=>h0 j (List.mem_range.1 hj)
  have hr:wdB w=(decide ((cSd w.tr w.tr.length:Int)=w.sent)&&w.net.l.all (mgB w.tr)):=by
   unfold wdB;rw[t1,t2,t3,decide_eq_true t4,t5,decide_eq_true t6,hall];rfl
  rw[hr]
  by_cases t7:(cSd w.tr w.tr.length:Int)=w.sent
  case neg =>
   have d7:((cSd w.tr w.tr.length:Int)==w.sent)=false:=by simpa using t7
   simp (disch:=first|decide|omega) only[hA,hg1,d7,List.length_map,go_sem]
   exact ZB (xs:=[.v (.bool false)]) (.inr rfl) (by simp (disch:=first|decide|omega) only[ZE,ZY,go_sem,hA,hg1]) kO hR hB ⟨by rw[decide_eq_false t7];rfl,rfl,rfl⟩
  have d7:((cSd w.tr w.tr.length:Int)==w.sent)=true:=by simpa using t7
  have cC:=Xt ZGL ZGJ (w.net.l.map eMs) 73 [.ptr B.length 0 0 0] (fun j=>!mgB w.tr (w.net.l.getD j dfMs)) (fun row h=>by obtain⟨m,_,rfl⟩:=List.mem_map.1 h;rfl) (by rw[List.length_map];exact hSn.l) B [.live 0 9 [(eWd w).map .v]] (fun j row hj=>by
   have hjl:j<w.net.l.length:=by have:=(List.getElem?_eq_some_iff.1 hj).1;rwa [List.length_map]at this
   rw[List.getElem?_map,List.getElem?_eq_getElem hjl]at hj
   cases hj
   simp only[ZF hjl]
   exact ZCC w hS hN _ (hSn.body _ (List.getElem_mem hjl)) B.length _ _ (by rw[Qq,List.append_nil,List.getElem?_append_right (Nat.le_refl _),Nat.sub_self];rfl))
  rw[List.length_map,Yh (p:=fun m=>!mgB w.tr m),YJ,heW]at cC
  simp (disch:=first|decide|omega) only[hA,hg1,d7,List.length_map,go_sem]
  refine ZA.nxt cC ?_
  simp (disch:=first|decide|omega) only[hA,hg1,Bool.not_not,go_sem]
  exact ZB (xs:=[.v (.bool (w.net.l.all (mgB w.tr)))]) (.inr rfl) (by simp (disch:=first|decide|omega) only[ZE,ZY,go_sem,hA,hg1]) kO hR hB ⟨by rw[decide_eq_true t7];rfl,rfl,rfl⟩
 have hps:p<w.sv.length:=by omega
 obtain⟨x,hx⟩:∃x,w.tr[p]=x:=⟨_,rfl⟩
 have hgp:=Ux hlt
 rw[hx]at hgp
 have hxe:Zc w.tr p=x.evs:=by rw[Yc hlt,hx]
 have hx64:=h64 x (by rw[←hx];exact List.getElem_mem hlt)
 have cP:=fun b l=>ZEy w t5 hS hN hSv p hlt hps (h8 p hps) b l
 rw[heW]at cP
 have hpr:prB w p=(ZBf w.tr[p] w.sv[p] w.now&&(List.range x.evs.length).all (sOk x.evs w.sent)):=by unfold prB;rw[ZF hlt,ZF hps,hxe]
 have bad:prB w p=false→AV.v (.bool (wdB w))=.v (.bool false):=fun h=>by rw[ZM4 hlt h]
 have hcp:=hcl p hp
 simp (disch:=first|decide|omega) only[hA,hg1,hgp,ZC,cellsOf,List.length_map,go_sem]
 refine ZA.nxt (cP _ _) ?_
 cases t7:ZBf w.tr[p] w.sv[p] w.now
 ·simp (disch:=first|decide|omega) only[hA,hg1,go_sem]
  exact ZB (xs:=[.v (.bool false)]) (.inr rfl) (by simp (disch:=first|decide|omega) only[ZE,ZY,go_sem,hA,hg1]) kO hR hB ⟨by rw[bad (by rw[hpr,t7];rfl)];rfl,rfl,rfl⟩
 simp (disch:=first|decide|omega) only[hA,hg1,List.length_map,go_sem]
 refine QM (ι:=Nat) ZAE (fun i=>[(3,.v (.int .i64 ((cSd w.tr p+nSd x.evs i:Nat):Int))),(64,.v (.int .i64 i))]) 2 (fun _=>[.live 0 9 [(eWd w).map .v],ZJ8 x])
  (fun i=>i≤x.evs.length∧∀j,j<i→sOk x.evs w.sent j=true) (fun i=>x.evs.length-i) 0 ⟨Nat.zero_le _,fun j hj=>by omega⟩ (by (repeat (first|exact hE1.mono oM|refine KLt.up ?_ kL))) (by ((try simp (disch:=decide) only[hA,hg1,go_sem])<;>exact kH)) (fun e=>Za.refl _ _ _) ?_
 rintro g2 hE2 hEE2 hg2 i ⟨hi,h02⟩
 rw[heW]
 unfold ZJ8
 by_cases hli:i<x.evs.length
 ·have hge:=UH hli
  have hgd:x.evs.getD i ZA8=x.evs[i]:=ZF hli
  have hns:=ZH9 x.evs i
  have hcn:((cSd w.tr p+nSd x.evs i:Nat):Int)+1=((cSd w.tr p+(nSd x.evs i+1):Nat):Int):=by omega
  by_cases hk:x.evs[i].kind=2
  ·have dk:(x.evs[i].kind != 2)=false:=by rw[hk];rfl
   have hn1:nSd x.evs (i+1)=nSd x.evs i+1:=by simp only[nSd];rw[hgd,if_pos hk]
   by_cases hm:x.evs[i].msg<w.sent
   ·have dm:decide (x.evs[i].msg≥w.sent)=false:=decide_eq_false oM
    have dm':decide (w.sent≤x.evs[i].msg)=false:=dm
    simp (disch:=first|decide|omega) only[hA,hg1,hg2,hge,dk,dm,dm',hcn,ZC,cellsOf,List.length_map,go_sem]
    refine⟨i+1,⟨hli,fun j hj=>?_⟩,by simp only;omega,?_⟩
    ·rcases Nat.lt_or_ge j i with hji|hji
     ·exact h02 j hji
     ·obtain rfl:j=i:=by omega
      unfold sOk;rw[hgd,decide_eq_true hm];simp
    ·simp only[hn1,heW]
     exact Za.kround (p:=ZAE) (k:=2) (by ((repeat refine (Z9 rfl).trans ?_);exact hEE2)) (by ((try simp (disch:=decide) only[hA,hg1,hg2,go_sem])<;>exact kH)) rfl hE2 (by simp) kV hR kL
   ·have dm:decide (x.evs[i].msg≥w.sent)=true:=decide_eq_true oM
    have dm':decide (w.sent≤x.evs[i].msg)=true:=dm
    simp (disch:=first|decide|omega) only[hA,hg1,hg2,hge,dk,dm,dm',ZC,cellsOf,List.length_map,go_sem]
    exact ZB (xs:=[.v (.bool false)]) (.inr rfl) (by simp (disch:=first|decide|omega) only[ZE,ZY,go_sem,hA,hg1,hg2]) kO hR hB ⟨by rw[bad (by rw[hpr,show (List.range x.evs.length).all (sOk x.evs w.sent)=false from List.all_eq_false.2 ⟨i,List.mem_range.2 hli,by unfold sOk;rw[hgd,hk,decide_eq_false hm];simp⟩,Bool.and_false])];rfl,rfl,rfl⟩
  ·have dk:(x.evs[i].kind != 2)=true:=by simpa using hk
   have dk2:(x.evs[i].kind==2)=false:=by simpa using hk
   have hn1:nSd x.evs (i+1)=nSd x.evs i:=by simp only[nSd];rw[hgd,if_neg hk]
   simp (disch:=first|decide|omega) only[hA,hg1,hg2,hge,dk,ZC,cellsOf,List.length_map,go_sem]
   refine⟨i+1,⟨hli,fun j hj=>?_⟩,by simp only;omega,?_⟩
   ·rcases Nat.lt_or_ge j i with hji|hji
    ·exact h02 j hji
    ·obtain rfl:j=i:=by omega
     unfold sOk;rw[hgd,dk2];rfl
   ·simp only[hn1,heW]
    exact Za.kround (p:=ZAE) (k:=2) (by ((repeat refine (Z9 rfl).trans ?_);exact hEE2)) (by ((try simp (disch:=decide) only[hA,hg1,hg2,go_sem])<;>exact kH)) rfl hE2 (by simp) kV hR kL
 ·obtain rfl:i=x.evs.length:=by omega
  have hpt:prB w p=true:=by rw[hpr,t7,List.all_eq_true.2 fun j hj=>h02 j (List.mem_range.1 hj)];rfl
  have hcs:cSd w.tr (p+1)=cSd w.tr p+nSd x.evs x.evs.length:=by simp only[cSd];rw[hxe]
  simp (disch:=first|decide|omega) only[hA,hg1,hg2,ZC,cellsOf,List.length_map,go_sem]
  refine⟨p+1,⟨hlt,fun j hj=>?_⟩,by simp only;omega,?_⟩
  ·rcases Nat.lt_or_ge j p with hji|hji
   ·exact h0 j hji
   ·obtain rfl:j=p:=by omega
    exact hpt
  ·simp only[heW,hcs]
   exact Za.kround (p:=ZCQ) (k:=1) (by ((repeat refine (Z9 rfl).trans ?_);refine (UZ hg2 (Uq rfl)).trans ?_;(repeat refine (Z9 rfl).trans ?_);exact hEE1)) (by ((try simp (disch:=decide) only[hA,hg1,hg2,go_sem])<;>exact kH)) rfl hE1 (by simp) kV hR kL
end Go.Proofs.YtoccdlnoaindmaaGreatDoor
