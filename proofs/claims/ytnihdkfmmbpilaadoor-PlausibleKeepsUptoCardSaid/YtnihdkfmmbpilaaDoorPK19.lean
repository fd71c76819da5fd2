/- Texts of one proof, laid together: K7, K8. No condition. -/
import Derived.Test.YtnihdkfmmbpilaaDoorPK17
import Derived.Test.YtnihdkfmmbpilaaDoorPK16
import Derived.Test.YtnihdkfmmbpilaaDoorPK12
import Derived.Test.YtnihdkfmmbpilaaDoorPK14
import Derived.Test.YtnihdkfmmbpilaaDoorPK11
import Derived.Test.YtnihdkfmmbpilaaDoorPK6
import Derived.Test.YtnihdkfmmbpilaaDoorPK8
import Derived.Test.YtnihdkfmmbpilaaDoorPK5
import Derived.Test.YtnihdkfmmbpilaaDoorPK2
namespace Go.Proofs.YtnihdkfmmbpilaaDoor
set_option linter.unusedVariables false
set_option linter.unusedSimpArgs false
attribute [local go_sem ↓] run_skip run_region run_draw run_both run_seq run_block run_exit run_ret run_cond atN_app seqC_normal seqC_exit seqC_ret seqQ_normal seqQ_exit seqQ_ret blkQ_normal blkQ_exit blkQ_ret runOps_nil runOps_cons runD_nil runD_cons grdO_true grdO_false grdD_true grdD_false ifC_true ifC_false opS_val opS_call opS_two opK_app dS_val dS_call dS_two dK_app kUp_same kUp_ne
attribute [local go_sem] rechks_nil rechks_cons rechk gcase_true gcase_false ex_val ex_val0 gd_none gd_some ev_t ev_c evs_nil evs_cons evo_some evo_none hget_at hget_first hsetB_at hsetB_first hsetL_at hsetL_first ofOpt_some aop aload astore aslice aappend aiaddr aiaddrA afaddr alen alenS acopy amm acall alookup amupdate alenM atostr aappz comma keyEq apick binV binVB binVS isSh intOp strOp boolOp shOp eqC eqF and2 cellsOf setFrom fillA fillS rd rdI elems mk bounds AV.cell List.all_cons List.all_nil Bool.and_true Bool.true_and Bool.and_self List.length_cons List.length_nil List.length_append Nat.reduceAdd Nat.reduceSub Nat.reduceMul Nat.zero_add Nat.add_zero List.cons_append List.nil_append List.append_assoc List.append_nil List.getElem?_cons_zero List.getElem?_cons_succ List.getElem?_nil List.set_cons_zero List.set_cons_succ List.drop_zero List.drop_succ_cons List.take_zero List.take_succ_cons List.take_nil List.drop_nil List.map_cons List.map_nil Option.map_some if_true if_false Bool.false_eq_true and_self true_and and_true Nat.reduceLeDiff Nat.reduceLT Nat.le_refl Nat.reduceEqDiff ite_true ite_false beq_self_eq_true beq_true beq_false Bool.not_true Bool.not_false Bool.true_beq Bool.false_beq map_vs vs_len vs_get vs_take vs_drop vs_snoc1 vs_snoc2 vs_snoc3 vs_snoc5 vs_set1 vs_set2 vs_rep wrap_id le_T lt_T le_F lt_F leI_T ltI_T leI_F ltI_F geI gtI get_T decide_true decide_false room List.getElem?_map List.length_map List.length_take Int.toNat_natCast Nat.min_def Nat.min_self nth_kOf put_kOf put_kNo kOv_cons kOv_nil KHas KArgs List.getElem_cons_zero List.getElem_cons_succ
def a_rEv18 : AFunc := ⟨1,32,[.tmp 2],(.seq (.region [⟨some 1,.box (.t 0),none⟩,⟨some 2,.mv (.c (.v .zsl)),none⟩]) (.seq (.region [⟨some 3,.mv (.c (.v .zsl)),none⟩]) (.seq (.seq (.region [⟨some 4,.mv (.c (.v (.int .i64 0))),none⟩]) (.block 0 (.loop (.seq (.seq (.region [⟨some 6,.mv (.t 4),none⟩,⟨some 7,.faddr 0 (.t 1),none⟩,⟨some 8,.load none (.t 7),none⟩,⟨some 9,.len (.t 8),none⟩,⟨some 10,.bin .lss (.t 6) (.t 9),none⟩]) (.cond (.t 10) .skip (.exit 0))) (.seq (.block 1 (.seq (.region [⟨some 5,.mv (.c (.v (.int .i64 0))),none⟩]) (.block 2 (.loop (.seq (.seq (.region [⟨some 13,.mv (.t 5),none⟩,⟨some 14,.faddr 0 (.t 1),none⟩,⟨some 15,.load none (.t 14),none⟩,⟨some 16,.mv (.t 4),none⟩,⟨some 17,.iaddr 3 (.t 15) (.t 16),none⟩,⟨some 18,.faddr 2 (.t 17),none⟩,⟨some 19,.load none (.t 18),none⟩,⟨some 20,.len (.t 19),none⟩,⟨some 21,.bin .lss (.t 13) (.t 20),none⟩]) (.cond (.t 21) .skip (.exit 2))) (.seq (.block 3 (.region [⟨some 24,.mv (.t 3),none⟩,⟨some 25,.mv (.t 4),none⟩,⟨some 26,.mv (.t 5),none⟩,⟨some 27,.bin .add (.t 26) (.c (.v (.int .i64 1))),none⟩,⟨some 28,.build [(.v (.int .i64 0)),(.v (.int .i64 0))] [(0,1,(.t 25)),(1,1,(.t 27))],none⟩,⟨some 29,.bslice 2 [(.v (.int .i64 0)),(.v (.int .i64 0))] 1 [(0,(.t 28))],none⟩,⟨some 30,.append 2 16 (.t 24) (.t 29),none⟩,⟨some 3,.mv (.t 30),none⟩])) (.region [⟨some 22,.mv (.t 5),none⟩,⟨some 23,.bin .add (.t 22) (.c (.v (.int .i64 1))),none⟩,⟨some 5,.mv (.t 23),none⟩]))))))) (.region [⟨some 11,.mv (.t 4),none⟩,⟨some 12,.bin .add (.t 11) (.c (.v (.int .i64 1))),none⟩,⟨some 4,.mv (.t 12),none⟩])))))) (.seq (.region [⟨some 31,.mv (.t 3),none⟩,⟨some 2,.mv (.t 31),none⟩]) .ret))))⟩
theorem a_rEv18_ok : cFunc Tryd.prog 20 = some a_rEv18 := by kernel_rfl
def r_rEv180 : List (Nat × Nat) := [(3, 30)]
def r_rEv181 : List (Nat × Nat) := [(3, 3), (5, 5), (13, 30)]
def a_rFits18 : AFunc := ⟨3,53,[.tmp 6],(.seq (.region [⟨some 3,.box (.t 0),none⟩,⟨some 6,.mv (.c (.v (.bool false))),none⟩]) (.seq (.seq (.region [⟨some 9,.mv (.t 2),none⟩,⟨some 10,.len (.t 9),none⟩,⟨some 11,.faddr 0 (.t 3),none⟩,⟨some 12,.load none (.t 11),none⟩,⟨some 13,.len (.t 12),none⟩,⟨some 14,.bin .neq (.t 10) (.t 13),none⟩]) (.cond (.t 14) (.seq (.region [⟨some 6,.mv (.c (.v (.bool false))),none⟩]) .ret) .skip)) (.seq (.seq (.region [⟨some 7,.mv (.c (.v (.int .i64 0))),none⟩]) (.block 0 (.loop (.seq (.seq (.region [⟨some 15,.mv (.t 7),none⟩,⟨some 16,.mv (.t 2),none⟩,⟨some 17,.len (.t 16),none⟩,⟨some 18,.bin .lss (.t 15) (.t 17),none⟩]) (.cond (.t 18) .skip (.exit 0))) (.seq (.block 1 (.seq (.seq (.draw [⟨0,⟨some 21,.mv (.t 2),none⟩,[]⟩,⟨1,⟨some 22,.mv (.t 7),none⟩,[]⟩,⟨2,⟨some 23,.iaddr 1 (.t 21) (.t 22),none⟩,[]⟩,⟨3,⟨some 24,.load none (.t 23),none⟩,[]⟩,⟨4,⟨some 25,.len (.t 24),none⟩,[]⟩,⟨5,⟨some 26,.faddr 0 (.t 3),none⟩,[]⟩,⟨6,⟨some 27,.load none (.t 26),none⟩,[]⟩,⟨7,⟨some 28,.mv (.t 7),none⟩,[]⟩,⟨8,⟨some 29,.iaddr 3 (.t 27) (.t 28),none⟩,[]⟩,⟨9,⟨some 30,.faddr 2 (.t 29),none⟩,[]⟩,⟨10,⟨some 31,.load none (.t 30),none⟩,[]⟩,⟨11,⟨some 32,.len (.t 31),none⟩,[]⟩,⟨12,⟨some 33,.bin .neq (.t 25) (.t 32),none⟩,[]⟩]) (.cond (.t 33) (.seq (.region [⟨some 6,.mv (.c (.v (.bool false))),none⟩]) .ret) .skip)) (.seq (.region [⟨some 8,.mv (.c (.v (.int .i64 0))),none⟩]) (.block 2 (.loop (.seq (.seq (.region [⟨some 34,.mv (.t 8),none⟩,⟨some 35,.mv (.t 2),none⟩,⟨some 36,.mv (.t 7),none⟩,⟨some 37,.iaddr 1 (.t 35) (.t 36),none⟩,⟨some 38,.load none (.t 37),none⟩,⟨some 39,.len (.t 38),none⟩,⟨some 40,.bin .lss (.t 34) (.t 39),none⟩]) (.cond (.t 40) .skip (.exit 2))) (.seq (.block 3 (.seq (.region [⟨some 43,.mv (.t 1),none⟩,⟨some 44,.mv (.t 2),none⟩,⟨some 45,.mv (.t 7),none⟩,⟨some 46,.iaddr 1 (.t 44) (.t 45),none⟩,⟨some 47,.load none (.t 46),none⟩,⟨some 48,.mv (.t 8),none⟩,⟨some 49,.iaddr 1 (.t 47) (.t 48),none⟩,⟨some 50,.load none (.t 49),none⟩,⟨some 51,.call (.c (.fn 71 [])) [(.t 43),(.t 50)],none⟩,⟨some 52,.not (.t 51),none⟩]) (.cond (.t 52) (.seq (.region [⟨some 6,.mv (.c (.v (.bool false))),none⟩]) .ret) .skip))) (.region [⟨some 41,.mv (.t 8),none⟩,⟨some 42,.bin .add (.t 41) (.c (.v (.int .i64 1))),none⟩,⟨some 8,.mv (.t 42),none⟩])))))))) (.region [⟨some 19,.mv (.t 7),none⟩,⟨some 20,.bin .add (.t 19) (.c (.v (.int .i64 1))),none⟩,⟨some 7,.mv (.t 20),none⟩])))))) (.seq (.region [⟨some 6,.mv (.c (.v (.bool true))),none⟩]) .ret))))⟩
theorem a_rFits18_ok : cFunc Tryd.prog 25 = some a_rFits18 := by kernel_rfl
def r_rFits180 : List (Nat × Nat) := [(6, 8), (15, 52)]
def r_rFits181 : List (Nat × Nat) := [(6, 6), (8, 8), (34, 52)]

theorem rEv18_spec (t : Tr) (hS : Small t) (hC : (ids t).length ≤ 1000000) (b l : List Row) :
  ACalls Tryd.prog 20 [.agg [.v (eT t)]] b l (fun r b' l' => r = .v (.isl 2 ((ids t).map eId)) ∧ b' = b ∧ l' = l) := by
 refine calls_kept a_rEv18_ok rfl (by decide) ?_
 intro B g hB hR hE hA
 simp only [KArgs] at hA
 have hnp := hS.np
 have l0 : evL t 0 0 = 0 := rfl
 simp (disch := (first | decide | omega)) only [a_rEv18, hA, eT, List.length_map, go_sem]
 refine loop_kept_nil (ι := Nat) 3 2 r_rEv180 (fun p => [(4, .v (.int .i64 p)), (3, .sl (B.length + 1) (evL t p 0) 0 (evL t p 0))]) 2 (fun p => [.live 0 1 [[.v (.isl 3 (t.map ePr))]], .live (evL t p 0) 2 (vs (evV t p 0))])
  (fun p => p ≤ t.length) (fun p => t.length - p) 0 (Nat.zero_le _) (by simp (disch := decide) only [hA, go_sem]) (by decide) (by decide) (by (repeat (first | exact hE.mono oM | refine KLt.up ?_ kL))) (by ((try simp (disch := decide) only [hA, l0, go_sem]) <;> exact kH)) (fun e => Weak.refl _ _ _) ?_
 intro g1 hE1 hEE1 hg1 p hp
 by_cases hpl : p < t.length
 ·have hne := hS.ne _ (List.getElem_mem hpl)
  simp (disch := (first | decide | omega)) only [hA, hg1, ePr, List.length_map, go_sem]
  refine loop_kept (ι := Nat) r_rEv181 (fun i => [(5, .v (.int .i64 i)), (3, .sl (B.length + 1) (evL t p i) 0 (evL t p i))]) 2 (fun i => [.live 0 1 [[.v (.isl 3 (t.map ePr))]], .live (evL t p i) 2 (vs (evV t p i))])
   (fun i => i ≤ t[p].evs.length) (fun i => t[p].evs.length - i) 0 (Nat.zero_le _) (by (repeat (first | exact hE1.mono oM | refine KLt.up ?_ kL))) (by ((try simp (disch := decide) only [hA, hg1, go_sem]) <;> exact kH)) (fun e => Weak.refl _ _ _) ?_
  intro g2 hE2 hEE2 hg2 i hi
  by_cases hil : i < t[p].evs.length
  ·have hle := evL_le hpl (show i + 1 ≤ t[p].evs.length by omega)
   have hsl : evL t p (i + 1) = evL t p i + 1 := by unfold evL; rw [idsTo_succ, List.length_append]; rfl
   have hvl : (evV t p i).length = evL t p i := by unfold evV evL; rw [List.length_map]
   have tk : List.take (evL t p i) (evV t p i) = evV t p i := List.take_of_length_le oM
   have hck : (i : Int) + 1 = ((i + 1 : Nat) : Int) := by omega
   have hsn : evV t p i ++ [[.int .i64 p, .int .i64 ((i + 1 : Nat) : Int)]] = evV t p (i + 1) := by unfold evV; rw [idsTo_succ, List.map_append]; rfl
   simp (disch := (first | decide | omega)) only [hA, hg1, hg2, ePr, hvl, tk, List.length_map, List.replicate_succ, List.replicate_zero, reduceCtorEq, hck, hsn, setFrom, cellsOf, go_sem]
   rw [← hsl]
   refine ⟨i + 1, hil, by simp only; omega, ?_⟩
   exact Weak.kround (p := r_rEv181) (k := 2) (by ((repeat refine (kAny_up rfl).trans ?_); exact hEE2)) (by ((try simp (disch := decide) only [hA, hg1, go_sem]) <;> exact kH)) rfl hE2 (by simp) kV hR kL
  ·obtain rfl : i = t[p].evs.length := by omega
   have hnl : evL t p t[p].evs.length = evL t (p + 1) 0 := by unfold evL; rw [idsTo_next t p hpl]
   have hnv : evV t p t[p].evs.length = evV t (p + 1) 0 := by unfold evV; rw [idsTo_next t p hpl]
   simp (disch := (first | decide | omega)) only [hA, hg1, hg2, ePr, List.length_map, go_sem]
   rw [hnl, hnv]
   refine ⟨p + 1, hpl, by simp only; omega, ?_⟩
   exact Weak.kround (p := r_rEv180) (k := 2) (by ((repeat refine (kAny_up rfl).trans ?_); refine (kAny_sub hg2 (kIn_sub rfl)).trans ?_; (repeat refine (kAny_up rfl).trans ?_); exact hEE1)) (by ((try simp (disch := decide) only [hA, hg1, go_sem]) <;> exact kH)) rfl hE1 (by simp) kV hR kL
 ·obtain rfl : p = t.length := by omega
  have hv : evV t t.length 0 = (ids t).map eId := by unfold evV; rw [idsTo_all]
  have hl2 : evL t t.length 0 = (ids t).length := by unfold evL; rw [idsTo_all]
  simp (disch := (first | decide | omega)) only [hA, hg1, List.length_map, go_sem]
  rw [hv, hl2]
  exact leave_frz (i := 1) (ver := (ids t).length) (sz := 2) (n := (ids t).length) (rows := (ids t).map eId) (.inr rfl) (by simp (disch := (first | decide | omega)) only [resVs, resV, hA, hg1, go_sem]) rfl (by simp) hR hB ⟨rfl, rfl, rfl⟩
theorem fcs_V {t : Tr} {k : Nat} (h1 : 1 ≤ k) (h8 : k ≤ 8) (hC : (ids t).length ≤ 1000000) {x : Nat × Nat} : isV (fcs t k x) = true :=
 isV_mk (by rw [fcs_len]; exact h1) (by rw [fcs_len]; exact h8) (fun i hi => by have := fcs_bd hC (t := t) (k := k) (x := x) i; omega)
set_option maxRecDepth 20000 in
theorem rFits18_spec (t : Tr) (hS : Small t) (hC : (ids t).length ≤ 1000000) (k : Nat) (h1k : 1 ≤ k) (hk8 : k ≤ 8) (b l : List Row) :
  ACalls Tryd.prog 25 [.agg [.v (eT t)], .v (.int .i64 k), .v (.isl 1 (fsAll t k))] b l (fun r b' l' => r = .v (.bool true) ∧ b' = b ∧ l' = l) := by
 refine calls_kept a_rFits18_ok rfl (by decide) ?_
 intro B g hB hR hE hA
 simp only [KArgs] at hA
 have hnp := hS.np
 obtain ⟨FA, hFA⟩ : ∃ FA, fsAll t k = FA := ⟨_, rfl⟩
 have hfl : FA.length = t.length := by rw [← hFA]; exact fl_len
 rw [hFA] at hA
 have hd0 : ((t.length : Int) != (t.length : Int)) = false := by simp
 simp (disch := (first | decide | omega)) only [a_rFits18, hA, eT, hfl, hd0, List.length_map, go_sem]
 refine loop_kept (ι := Nat) r_rFits180 (fun p => [(7, .v (.int .i64 p))]) 1 (fun _ => [.live 0 1 [[.v (.isl 3 (t.map ePr))]]])
  (fun p => p ≤ t.length) (fun p => t.length - p) 0 (Nat.zero_le _) (by (repeat (first | exact hE.mono oM | refine KLt.up ?_ kL))) (by ((try simp (disch := decide) only [hA, go_sem]) <;> exact kH)) (fun e => Weak.refl _ _ _) ?_
 intro g1 hE1 hEE1 hg1 p hp
 by_cases hpl : p < t.length
 ·have heo := evsOf_lt hpl
  have hne := hS.ne _ (List.getElem_mem hpl)
  have hgp : FA[p]? = some [.isl 1 (fsRow t k p t[p].evs.length)] := by rw [← hFA]; unfold fsAll; rw [fl_get hpl, heo]
  have hrl : (fsRow t k p t[p].evs.length).length = t[p].evs.length := fl_len
  have hd1 : ((t[p].evs.length : Int) != (t[p].evs.length : Int)) = false := by simp
  simp (disch := (first | decide | omega)) only [hA, hg1, ePr, hfl, hgp, hrl, hd1, List.length_map, go_sem]
  refine loop_kept (ι := Nat) r_rFits181 (fun i => [(8, .v (.int .i64 i))]) 1 (fun _ => [.live 0 1 [[.v (.isl 3 (t.map ePr))]]])
   (fun i => i ≤ t[p].evs.length) (fun i => t[p].evs.length - i) 0 (Nat.zero_le _) (by (repeat (first | exact hE1.mono oM | refine KLt.up ?_ kL))) (by ((try simp (disch := decide) only [hA, hg1, go_sem]) <;> exact kH)) (fun e => Weak.refl _ _ _) ?_
  intro g2 hE2 hEE2 hg2 i hi
  by_cases hil : i < t[p].evs.length
  ·have hgi : (fsRow t k p t[p].evs.length)[i]? = some [.isl 1 ((fcs t k (p, i + 1)).map eI)] := fl_get hil
   have hst := fun b l => rStamp18_spec k (fcs t k (p, i + 1)) oM (by rw [fcs_len]; omega) b l
   have hok : (decide ((fcs t k (p, i + 1)).length = k) && isV (fcs t k (p, i + 1))) = true := by rw [fcs_V h1k hk8 hC, decide_eq_true fcs_len]; rfl
   rw [hok] at hst
   simp (disch := (first | decide | omega)) only [hA, hg1, hg2, hfl, hgp, hrl, hgi, go_sem]
   refine ACalls.nxt (hst _ _) ?_
   simp (disch := (first | decide | omega)) only [hA, hg1, hg2, go_sem]
   refine ⟨i + 1, hil, by simp only; omega, ?_⟩
   exact Weak.kround (p := r_rFits181) (k := 1) (by ((repeat refine (kAny_up rfl).trans ?_); exact hEE2)) (by ((try simp (disch := decide) only [hA, go_sem]) <;> exact kH)) rfl hE2 (by simp) kV hR kL
  ·obtain rfl : i = t[p].evs.length := by omega
   simp (disch := (first | decide | omega)) only [hA, hg1, hg2, hfl, hgp, hrl, go_sem]
   refine ⟨p + 1, hpl, by simp only; omega, ?_⟩
   exact Weak.kround (p := r_rFits180) (k := 1) (by ((repeat refine (kAny_up rfl).trans ?_); refine (kAny_sub hg2 (kIn_sub rfl)).trans ?_; (repeat refine (kAny_up rfl).trans ?_); exact hEE1)) (by ((try simp (disch := decide) only [hA, hg1, go_sem]) <;> exact kH)) rfl hE1 (by simp) kV hR kL
 ·obtain rfl : p = t.length := by omega
  simp (disch := (first | decide | omega)) only [hA, hg1, hfl, go_sem]
  exact leave_pure (xs := [.v (.bool true)]) (.inr rfl) (by simp (disch := (first | decide | omega)) only [resVs, resV, go_sem, hA, hg1]) kO hR hB ⟨rfl, rfl, rfl⟩
noncomputable def orN (t : Tr) (i j : Nat) : Nat := if (hpB t i j || hpB t j i) = true then 1 else 0
noncomputable def cnN (t : Tr) (i j : Nat) : Nat := if (hpB t i j || hpB t j i) = true then 0 else 1
theorem cnN_eq {t : Tr} : cLat (cnN t) (ids t).length = cLat (coN t) (ids t).length := cLat_congr (fun j i hji hi => by
 unfold cnN coN
 rw [unB_hpB hi oM]
 cases hpB t j i <;> cases hpB t i j <;> rfl)
end Go.Proofs.YtnihdkfmmbpilaaDoor
