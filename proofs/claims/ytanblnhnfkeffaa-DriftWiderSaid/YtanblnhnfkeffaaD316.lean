/- Texts of one proof, laid together: Y5, YP. No condition. -/
import Derived.Test.YtanblnhnfkeffaaD315
import Derived.Test.YtanblnhnfkeffaaD311
namespace Go.Proofs.Ytanblnhnfkeffaa
set_option linter.unusedVariables false
set_option linter.unusedSimpArgs false
attribute [local go_sem ↓] run_skip run_region run_draw run_both run_seq run_block run_exit run_ret run_cond atN_app seqC_normal seqC_exit seqC_ret seqQ_normal seqQ_exit seqQ_ret blkQ_normal blkQ_exit blkQ_ret runOps_nil runOps_cons runD_nil runD_cons grdO_true grdO_false grdD_true grdD_false ifC_true ifC_false opS_val opS_call opS_two opK_app dS_val dS_call dS_two dK_app kUp_same kUp_ne
attribute [local go_sem] rechks_nil rechks_cons rechk gcase_true gcase_false ex_val ex_val0 gd_none gd_some ev_t ev_c evs_nil evs_cons evo_some evo_none hget_at hget_first hsetB_at hsetB_first hsetL_at hsetL_first ofOpt_some aop aload astore aslice aappend aiaddr aiaddrA afaddr alen alenS acopy amm acall alookup amupdate alenM atostr comma keyEq apick binV binVB binVS isSh intOp strOp boolOp shOp eqC eqF and2 cellsOf setFrom fillA fillS rd rdI elems mk bounds AV.cell List.all_cons List.all_nil Bool.and_true Bool.true_and Bool.and_self List.length_cons List.length_nil List.length_append Nat.reduceAdd Nat.reduceSub Nat.reduceMul Nat.zero_add Nat.add_zero List.cons_append List.nil_append List.append_assoc List.append_nil List.getElem?_cons_zero List.getElem?_cons_succ List.getElem?_nil List.set_cons_zero List.set_cons_succ List.drop_zero List.drop_succ_cons List.take_zero List.take_succ_cons List.take_nil List.drop_nil List.map_cons List.map_nil Option.map_some if_true if_false Bool.false_eq_true and_self true_and and_true Nat.reduceLeDiff Nat.reduceLT Nat.le_refl Nat.reduceEqDiff ite_true ite_false beq_self_eq_true beq_true beq_false Bool.not_true Bool.not_false Bool.true_beq Bool.false_beq map_vs vs_len vs_get vs_take vs_drop vs_snoc1 vs_snoc2 vs_snoc3 vs_snoc5 vs_set1 vs_set2 vs_rep wrap_id le_T lt_T le_F lt_F leI_T ltI_T leI_F ltI_F geI gtI get_T decide_true decide_false room List.getElem?_map List.length_map List.length_take Int.toNat_natCast Nat.min_def Nat.min_self nth_kOf put_kOf put_kNo kOv_cons kOv_nil KHas KArgs List.getElem_cons_zero List.getElem_cons_succ
def a_dInterval : AFunc := ⟨3,28,[.tmp 6,.tmp 7,.tmp 8],(.seq (.region [⟨some 3,.box (.t 0),none⟩,⟨some 4,.box (.t 1),none⟩,⟨some 5,.box (.t 2),none⟩,⟨some 6,.mv (.c (.v (.int .i64 0))),none⟩,⟨some 7,.mv (.c (.v (.int .i64 0))),none⟩,⟨some 8,.mv (.c (.v (.int .i64 0))),none⟩]) (.seq (.block 0 (.seq (.region [⟨some 10,.load (some 1) (.t 3),none⟩,⟨some 11,.load (some 3) (.t 4),none⟩,⟨some 12,.call (.c (.fn 53 [])) [(.t 10),(.t 11)],none⟩,⟨some 13,.not (.t 12),none⟩,⟨some 9,.mv (.t 13),none⟩]) (.cond (.t 9) (.seq (.region [⟨some 6,.mv (.c (.v (.int .i64 0))),none⟩,⟨some 7,.mv (.c (.v (.int .i64 0))),none⟩,⟨some 8,.mv (.c (.v (.int .i64 1))),none⟩]) .ret) (.seq (.region [⟨some 15,.load (some 1) (.t 3),none⟩,⟨some 16,.load (some 2) (.t 5),none⟩,⟨some 17,.call (.c (.fn 122 [])) [(.t 15),(.t 16)],none⟩,⟨some 18,.not (.t 17),none⟩,⟨some 14,.mv (.t 18),none⟩]) (.cond (.t 14) (.seq (.region [⟨some 6,.mv (.c (.v (.int .i64 0))),none⟩,⟨some 7,.mv (.c (.v (.int .i64 0))),none⟩,⟨some 8,.mv (.c (.v (.int .i64 2))),none⟩]) .ret) .skip))))) (.seq (.region [⟨some 20,.load (some 1) (.t 3),none⟩,⟨some 21,.load (some 3) (.t 4),none⟩,⟨some 22,.load (some 2) (.t 5),none⟩,⟨some 23,.call (.c (.fn 123 [])) [(.t 20),(.t 21),(.t 22)],none⟩,⟨some 19,.mv (.t 23),none⟩,⟨some 24,.extract 0 (.t 19),none⟩,⟨some 25,.extract 1 (.t 19),none⟩,⟨some 6,.mv (.t 24),none⟩,⟨some 7,.mv (.t 25),none⟩]) (.seq (.region [⟨some 26,.mv (.t 6),none⟩,⟨some 27,.mv (.t 7),none⟩,⟨some 6,.mv (.t 26),none⟩,⟨some 7,.mv (.t 27),none⟩,⟨some 8,.mv (.c (.v (.int .i64 0))),none⟩]) .ret))))⟩
theorem a_dInterval_ok : cFunc Try.prog 51 = some a_dInterval := by kernel_rfl
def a_rValid19 : AFunc := ⟨2,56,[.tmp 4],(.seq (.region [⟨some 2,.box (.t 0),none⟩,⟨some 3,.box (.t 1),none⟩,⟨some 4,.mv (.c (.v (.bool false))),none⟩]) (.seq (.seq (.region [⟨some 6,.load (some 1) (.t 2),none⟩,⟨some 7,.call (.c (.fn 36 [])) [(.t 6)],none⟩,⟨some 8,.not (.t 7),none⟩,⟨some 9,.mv (.t 8),none⟩,⟨some 10,.faddr 0 (.t 3),some (9,false)⟩,⟨some 11,.load none (.t 10),some (9,false)⟩,⟨some 12,.len (.t 11),some (9,false)⟩,⟨some 13,.faddr 0 (.t 2),some (9,false)⟩,⟨some 14,.load none (.t 13),some (9,false)⟩,⟨some 15,.len (.t 14),some (9,false)⟩,⟨some 16,.bin .neq (.t 12) (.t 15),some (9,false)⟩,⟨some 17,.pick (.t 9) (.c (.v (.bool true))) (.t 16),none⟩,⟨some 18,.mv (.t 17),none⟩,⟨some 19,.faddr 1 (.t 3),some (18,false)⟩,⟨some 20,.load none (.t 19),some (18,false)⟩,⟨some 21,.bin .lss (.t 20) (.c (.v (.int .i64 0))),some (18,false)⟩,⟨some 22,.pick (.t 18) (.c (.v (.bool true))) (.t 21),none⟩,⟨some 23,.mv (.t 22),none⟩,⟨some 24,.faddr 2 (.t 3),some (23,false)⟩,⟨some 25,.load none (.t 24),some (23,false)⟩,⟨some 26,.faddr 1 (.t 3),some (23,false)⟩,⟨some 27,.load none (.t 26),some (23,false)⟩,⟨some 28,.bin .lss (.t 25) (.t 27),some (23,false)⟩,⟨some 29,.pick (.t 23) (.c (.v (.bool true))) (.t 28),none⟩,⟨some 30,.mv (.t 29),none⟩,⟨some 31,.faddr 2 (.t 3),some (30,false)⟩,⟨some 32,.load none (.t 31),some (30,false)⟩,⟨some 33,.bin .gtr (.t 32) (.c (.v (.int .i64 1099511627776))),some (30,false)⟩,⟨some 34,.pick (.t 30) (.c (.v (.bool true))) (.t 33),none⟩]) (.cond (.t 34) (.seq (.region [⟨some 4,.mv (.c (.v (.bool false))),none⟩]) .ret) .skip)) (.seq (.seq (.region [⟨some 5,.mv (.c (.v (.int .i64 0))),none⟩]) (.block 0 (.loop (.seq (.seq (.region [⟨some 35,.mv (.t 5),none⟩,⟨some 36,.faddr 0 (.t 3),none⟩,⟨some 37,.load none (.t 36),none⟩,⟨some 38,.len (.t 37),none⟩,⟨some 39,.bin .lss (.t 35) (.t 38),none⟩]) (.cond (.t 39) .skip (.exit 0))) (.seq (.block 1 (.seq (.region [⟨some 42,.faddr 0 (.t 3),none⟩,⟨some 43,.load none (.t 42),none⟩,⟨some 44,.mv (.t 5),none⟩,⟨some 45,.iaddr 1 (.t 43) (.t 44),none⟩,⟨some 46,.load none (.t 45),none⟩,⟨some 47,.bin .lss (.t 46) (.c (.v (.int .i64 0))),none⟩,⟨some 48,.mv (.t 47),none⟩,⟨some 49,.faddr 0 (.t 3),some (48,false)⟩,⟨some 50,.load none (.t 49),some (48,false)⟩,⟨some 51,.mv (.t 5),some (48,false)⟩,⟨some 52,.iaddr 1 (.t 50) (.t 51),some (48,false)⟩,⟨some 53,.load none (.t 52),some (48,false)⟩,⟨some 54,.bin .gtr (.t 53) (.c (.v (.int .i64 1099511627776))),some (48,false)⟩,⟨some 55,.pick (.t 48) (.c (.v (.bool true))) (.t 54),none⟩]) (.cond (.t 55) (.seq (.region [⟨some 4,.mv (.c (.v (.bool false))),none⟩]) .ret) .skip))) (.region [⟨some 40,.mv (.t 5),none⟩,⟨some 41,.bin .add (.t 40) (.c (.v (.int .i64 1))),none⟩,⟨some 5,.mv (.t 41),none⟩])))))) (.seq (.region [⟨some 4,.mv (.c (.v (.bool true))),none⟩]) .ret))))⟩
theorem a_rValid19_ok : cFunc Try.prog 52 = some a_rValid19 := by kernel_rfl
def r_rValid190 : List (Nat × Nat) := [(4, 5), (35, 55)]
def a_rOwn19 : AFunc := ⟨3,29,[.tmp 6,.tmp 7],(.seq (.region [⟨some 3,.box (.t 0),none⟩,⟨some 4,.box (.t 1),none⟩,⟨some 5,.box (.t 2),none⟩,⟨some 6,.mv (.c (.v (.int .i64 0))),none⟩,⟨some 7,.mv (.c (.v (.int .i64 0))),none⟩]) (.seq (.region [⟨some 9,.load (some 1) (.t 3),none⟩,⟨some 10,.load (some 2) (.t 5),none⟩,⟨some 11,.call (.c (.fn 126 [])) [(.t 9),(.t 10)],none⟩,⟨some 12,.field 3 none (.t 11),none⟩,⟨some 8,.mv (.t 12),none⟩]) (.seq (.draw [⟨0,⟨some 13,.mv (.t 8),none⟩,[]⟩,⟨1,⟨some 14,.faddr 0 (.t 4),none⟩,[]⟩,⟨2,⟨some 15,.load none (.t 14),none⟩,[]⟩,⟨3,⟨some 16,.faddr 0 (.t 5),none⟩,[]⟩,⟨4,⟨some 17,.load none (.t 16),none⟩,[]⟩,⟨5,⟨some 18,.iaddr 1 (.t 15) (.t 17),none⟩,[]⟩,⟨6,⟨some 19,.load none (.t 18),none⟩,[]⟩,⟨7,⟨some 20,.bin .sub (.t 13) (.t 19),none⟩,[]⟩,⟨8,⟨some 21,.mv (.t 8),none⟩,[]⟩,⟨9,⟨some 22,.faddr 0 (.t 4),none⟩,[]⟩,⟨10,⟨some 23,.load none (.t 22),none⟩,[]⟩,⟨11,⟨some 24,.faddr 0 (.t 5),none⟩,[]⟩,⟨12,⟨some 25,.load none (.t 24),none⟩,[]⟩,⟨13,⟨some 26,.iaddr 1 (.t 23) (.t 25),none⟩,[]⟩,⟨14,⟨some 27,.load none (.t 26),none⟩,[]⟩,⟨15,⟨some 28,.bin .add (.t 21) (.t 27),none⟩,[]⟩,⟨16,⟨some 6,.mv (.t 20),none⟩,[]⟩,⟨17,⟨some 7,.mv (.t 28),none⟩,[]⟩]) .ret)))⟩
theorem a_rOwn19_ok : cFunc Try.prog 57 = some a_rOwn19 := by kernel_rfl

theorem rEvent19_spec (t : Tr) (hS : Small t) (x : Int × Int) (b l : List Row) :
  ACalls Try.prog 56 [.agg [.v (eT t)], idP x] b l (fun r b' l' => r = .v (.bool (existsB t x.1 x.2)) ∧ b' = b ∧ l' = l) := exists_gen _ (by kernel_rfl) t hS x b l
theorem rOwn19_spec (t : Tr) (hS : Small t) (bn : Bn) (h : Bok t bn) (p i : Nat) (hx : (p, i + 1) ∈ ids t) (b l : List Row) :
  ACalls Try.prog 57 [.agg [.v (eT t)], .agg (eBn bn), idA (p, i + 1)] b l (fun r b' l' => r = .tup [.v (.int .i64 (loA t bn (p, i + 1))), .v (.int .i64 (hiA t bn (p, i + 1)))] ∧ b' = b ∧ l' = l) := by
 refine calls_kept a_rOwn19_ok rfl (by decide) ?_
 intro B g hB hR hE hA
 simp only [KArgs] at hA
 obtain ⟨hp, hi⟩ := mem_ids2.1 hx
 rw [evsOf_lt hp] at hi
 have ht := h.time hx
 rw [evAt_eq hp hi] at ht
 have he := h.er p
 have hpe : p < bn.er.length := by rw [h.len]; exact hp
 have hge : erB bn p = bn.er[p] := by unfold erB; exact getD_at hpe
 have e1 : loA t bn (p, i + 1) = t[p].evs[i].time - bn.er[p] := by unfold loA; rw [evAt_eq hp hi, hge]
 have e2 : hiA t bn (p, i + 1) = t[p].evs[i].time + bn.er[p] := by unfold hiA; rw [evAt_eq hp hi, hge]
 rw [e1, e2]
 rw [hge] at he
 unfold MT at ht he
 have hgb : (bn.er.map eI)[p]? = some [.int .i64 bn.er[p]] := by rw [List.getElem?_map, List.getElem?_eq_getElem hpe]; rfl
 have hat := fun b l => rAt_spec t hS p i hp hi b l
 simp only [eBn, idA] at hA
 simp only [idA] at hat
 simp (disch := (first | decide | omega)) only [a_rOwn19, hA, hgb, go_sem]
 refine ACalls.nxt (hat _ _) ?_
 simp (disch := (first | decide | omega)) only [hA, hgb, go_sem]
 exact leave_pure (xs := [.v (.int .i64 (t[p].evs[i].time - bn.er[p])), .v (.int .i64 (t[p].evs[i].time + bn.er[p]))]) (.inr rfl) (by simp (disch := (first | decide | omega)) only [resVs, resV, go_sem, hA]) kO hR hB ⟨rfl, rfl, rfl⟩
theorem rValid19_specW (t : Tr) (hS : Small t) (hN : Nm t) (bn : Bn) (hbl : bn.er.length ≤ 9223372036854775807) (b l : List Row) : ACalls Try.prog 52 [.agg [.v (eT t)], .agg (eBn bn)] b l (fun r b' l' => r = .v (.bool (bnB t bn)) ∧ b' = b ∧ l' = l) := by
 refine calls_kept a_rValid19_ok rfl (by decide) ?_
 intro B g hB hR hE hA
 simp only [KArgs] at hA
 have hnp := hS.np
 have cv := fun b l => rvalid_spec t hS hN b l
 simp only [eBn] at hA
 cases hval : validL t with
 | false =>
   have hq : bnB t bn = false := by unfold bnB; rw [hval]; rfl
   rw [hval] at cv
   simp (disch := (first | decide | omega)) only [a_rValid19, hA, go_sem]
   refine ACalls.nxt (cv _ _) ?_
   simp (disch := (first | decide | omega)) only [hA, go_sem]
   exact leave_pure (xs := [.v (.bool false)]) (.inr rfl) (by simp (disch := (first | decide | omega)) only [resVs, resV, go_sem, hA]) kO hR hB ⟨by rw [hq]; rfl, rfl, rfl⟩
 | true =>
   rw [hval] at cv
   simp only [eT] at cv
   have g0 : ∀ x y : Int, decide (x > y) = decide (y < x) := fun _ _ => rfl
   have hq : bnB t bn = (decide (bn.er.length = t.length) && decide (0 ≤ bn.lo) && decide (bn.lo ≤ bn.hi) && decide (bn.hi ≤ MT) && bn.er.all (fun e => inB e 0 MT)) := by unfold bnB; rw [hval]; rfl
   by_cases c1 : bn.er.length = t.length
   case neg =>
    have hl : ((bn.er.length : Int) != (t.length : Int)) = true := by rw [bne_iff_ne]; omega
    rw [decide_eq_false c1] at hq
    simp (disch := (first | decide | omega)) only [a_rValid19, hA, eT, go_sem]
    refine ACalls.nxt (cv _ _) ?_
    simp (disch := (first | decide | omega)) only [hA, hl, List.length_map, go_sem]
    exact leave_pure (xs := [.v (.bool false)]) (.inr rfl) (by simp (disch := (first | decide | omega)) only [resVs, resV, go_sem, hA]) kO hR hB ⟨by rw [hq]; rfl, rfl, rfl⟩
   have hl : ((bn.er.length : Int) != (t.length : Int)) = false := by simp; omega
   rw [decide_eq_true c1] at hq
   by_cases c2 : bn.lo < 0
   case pos =>
    have d2 := decide_eq_true c2
    rw [decide_eq_false (show ¬ 0 ≤ bn.lo by omega)] at hq
    simp (disch := (first | decide | omega)) only [a_rValid19, hA, eT, go_sem]
    refine ACalls.nxt (cv _ _) ?_
    simp (disch := (first | decide | omega)) only [hA, hl, d2, List.length_map, go_sem]
    exact leave_pure (xs := [.v (.bool false)]) (.inr rfl) (by simp (disch := (first | decide | omega)) only [resVs, resV, go_sem, hA]) kO hR hB ⟨by rw [hq]; rfl, rfl, rfl⟩
   have d2 := decide_eq_false c2
   rw [decide_eq_true (show 0 ≤ bn.lo by omega)] at hq
   by_cases c3 : bn.hi < bn.lo
   case pos =>
    have d3 := decide_eq_true c3
    rw [decide_eq_false (show ¬ bn.lo ≤ bn.hi by omega)] at hq
    simp (disch := (first | decide | omega)) only [a_rValid19, hA, eT, go_sem]
    refine ACalls.nxt (cv _ _) ?_
    simp (disch := (first | decide | omega)) only [hA, hl, d2, d3, List.length_map, go_sem]
    exact leave_pure (xs := [.v (.bool false)]) (.inr rfl) (by simp (disch := (first | decide | omega)) only [resVs, resV, go_sem, hA]) kO hR hB ⟨by rw [hq]; rfl, rfl, rfl⟩
   have d3 := decide_eq_false c3
   rw [decide_eq_true (show bn.lo ≤ bn.hi by omega)] at hq
   by_cases c4 : 1099511627776 < bn.hi
   case pos =>
    have d4 := decide_eq_true c4
    rw [decide_eq_false (show ¬ bn.hi ≤ MT by unfold MT; omega)] at hq
    simp (disch := (first | decide | omega)) only [a_rValid19, hA, eT, go_sem]
    refine ACalls.nxt (cv _ _) ?_
    simp (disch := (first | decide | omega)) only [hA, hl, d2, d3, g0, d4, List.length_map, go_sem]
    exact leave_pure (xs := [.v (.bool false)]) (.inr rfl) (by simp (disch := (first | decide | omega)) only [resVs, resV, go_sem, hA]) kO hR hB ⟨by rw [hq]; rfl, rfl, rfl⟩
   have d4 := decide_eq_false c4
   rw [decide_eq_true (show bn.hi ≤ MT by unfold MT; omega)] at hq
   replace hq : bnB t bn = bn.er.all (fun e => inB e 0 MT) := by rw [hq]; rfl
   simp (disch := (first | decide | omega)) only [a_rValid19, hA, eT, go_sem]
   refine ACalls.nxt (cv _ _) ?_
   simp (disch := (first | decide | omega)) only [hA, hl, d2, d3, g0, d4, List.length_map, go_sem]
   refine loop_kept (ι := Nat) r_rValid190 (fun q => [(5, .v (.int .i64 q))]) 2 (fun q => [.live 0 1 [[.v (.isl 3 (t.map ePr))]], .live 0 3 [[.v (.isl 1 (bn.er.map eI)), .v (.int .i64 bn.lo), .v (.int .i64 bn.hi)]]])
    (fun q => q ≤ bn.er.length ∧ ∀ j, j < q → inB (bn.er.getD j 0) 0 MT = true) (fun q => bn.er.length - q) 0 ⟨Nat.zero_le _, fun j hj => by omega⟩ (by (repeat (first | exact hE.mono oM | refine KLt.up ?_ kL))) (by ((try simp (disch := decide) only [hA, go_sem]) <;> exact kH)) (fun e => Weak.refl _ _ _) ?_
   rintro g1 hE1 hEE1 hg1 q ⟨hq1, hq2⟩
   by_cases hql : q < bn.er.length
   ·have hge : (bn.er.map eI)[q]? = some [.int .i64 bn.er[q]] := by rw [List.getElem?_map, List.getElem?_eq_getElem hql]; rfl
    have bad : inB bn.er[q] 0 MT = false → bnB t bn = false := fun h => by
     rw [hq, List.all_eq_false]
     exact ⟨bn.er[q], List.getElem_mem hql, by rw [h]; decide⟩
    by_cases e1 : bn.er[q] < 0
    ·have f1 := decide_eq_true e1
     have hb := bad (by unfold inB; rw [decide_eq_false oM]; rfl)
     simp (disch := (first | decide | omega)) only [hA, hg1, hge, f1, List.length_map, go_sem]
     exact leave_pure (xs := [.v (.bool false)]) (.inr rfl) (by simp (disch := (first | decide | omega)) only [resVs, resV, go_sem, hA, hg1]) kO hR hB ⟨by rw [hb]; rfl, rfl, rfl⟩
    have f1 := decide_eq_false e1
    by_cases e2 : 1099511627776 < bn.er[q]
    ·have f2 := decide_eq_true e2
     have hb := bad (by unfold inB MT; rw [decide_eq_true (show 0 ≤ bn.er[q] by omega), decide_eq_false (show ¬ bn.er[q] ≤ 1099511627776 by omega)]; rfl)
     simp (disch := (first | decide | omega)) only [hA, hg1, hge, f1, g0, f2, List.length_map, go_sem]
     exact leave_pure (xs := [.v (.bool false)]) (.inr rfl) (by simp (disch := (first | decide | omega)) only [resVs, resV, go_sem, hA, hg1]) kO hR hB ⟨by rw [hb]; rfl, rfl, rfl⟩
    have f2 := decide_eq_false e2
    have hin : inB bn.er[q] 0 MT = true := by unfold inB MT; rw [decide_eq_true (show 0 ≤ bn.er[q] by omega), decide_eq_true (show bn.er[q] ≤ 1099511627776 by omega)]; rfl
    simp (disch := (first | decide | omega)) only [hA, hg1, hge, f1, g0, f2, List.length_map, go_sem]
    refine ⟨q + 1, ⟨hql, fun j hj => ?_⟩, by simp only; omega, ?_⟩
    ·by_cases hjq : j = q
     ·subst hjq; rw [getD_at hql]; exact hin
     ·exact hq2 j oM
    ·exact Weak.kround (p := r_rValid190) (k := 2) (by ((repeat refine (kAny_up rfl).trans ?_); exact hEE1)) (by ((try simp (disch := decide) only [hA, go_sem]) <;> exact kH)) rfl hE1 (by simp) kV hR kL
   ·obtain rfl : q = bn.er.length := by omega
    have hall : bnB t bn = true := by
     rw [hq, List.all_eq_true]
     intro e he
     obtain ⟨j, hj, rfl⟩ := List.getElem_of_mem he
     have := hq2 j hj
     rwa [getD_at hj] at this
    simp (disch := (first | decide | omega)) only [hA, hg1, List.length_map, go_sem]
    exact leave_pure (xs := [.v (.bool true)]) (.inr rfl) (by simp (disch := (first | decide | omega)) only [resVs, resV, go_sem, hA, hg1]) kO hR hB ⟨by rw [hall]; rfl, rfl, rfl⟩
theorem rValid19_spec (t : Tr) (hS : Small t) (hN : Nm t) (bn : Bn) (hbl : bn.er.length ≤ 4611686018427387904) (b l : List Row) : ACalls Try.prog 52 [.agg [.v (eT t)], .agg (eBn bn)] b l (fun r b' l' => r = .v (.bool (bnB t bn)) ∧ b' = b ∧ l' = l) :=
 rValid19_specW t hS hN bn oM b l
noncomputable def intR (t : Tr) (bn : Bn) (x : Int × Int) : AV :=
 if bnB t bn = false then .tup [.v (.int .i64 0), .v (.int .i64 0), .v (.int .i64 1)] else if existsB t x.1 x.2 = false then .tup [.v (.int .i64 0), .v (.int .i64 0), .v (.int .i64 2)] else .tup [.v (.int .i64 (loA t bn (x.1.toNat, x.2.toNat))), .v (.int .i64 (hiA t bn (x.1.toNat, x.2.toNat))), .v (.int .i64 0)]
theorem dInterval_spec (t : Tr) (hS : Small t) (hN : Nm t) (bn : Bn) (hbl : bn.er.length ≤ 4611686018427387904) (x : Int × Int) (b l : List Row) :
  ACalls Try.prog 51 [.agg [.v (eT t)], .agg (eBn bn), idP x] b l (fun r b' l' => r = intR t bn x ∧ b' = b ∧ l' = l) := by
 refine calls_kept a_dInterval_ok rfl (by decide) ?_
 intro B g hB hR hE hA
 simp only [KArgs] at hA
 have cv := fun b l => dValid_spec t hS hN bn hbl b l
 have ck := fun b l => known_spec t hS x b l
 obtain ⟨p, i⟩ := x
 simp only [idP] at hA ck
 simp only [eBn] at hA cv
 simp (disch := (first | decide | omega)) only [a_dInterval, hA, go_sem]
 refine ACalls.nxt (cv _ _) ?_
 cases hb : bnB t bn with
 | false =>
   simp (disch := (first | decide | omega)) only [hA, go_sem]
   exact leave_pure (xs := [.v (.int .i64 0), .v (.int .i64 0), .v (.int .i64 1)]) (.inr rfl) (by simp (disch := (first | decide | omega)) only [resVs, resV, go_sem, hA]) kO hR hB ⟨by rw [intR, if_pos hb]; rfl, rfl, rfl⟩
 | true =>
   have hok := (bn_ok hb).2
   simp (disch := (first | decide | omega)) only [hA, go_sem]
   refine ACalls.nxt (ck _ _) ?_
   cases hx : existsB t p i with
   | false =>
     simp (disch := (first | decide | omega)) only [hA, go_sem]
     exact leave_pure (xs := [.v (.int .i64 0), .v (.int .i64 0), .v (.int .i64 2)]) (.inr rfl) (by simp (disch := (first | decide | omega)) only [resVs, resV, go_sem, hA]) kO hR hB ⟨by rw [intR, if_neg (by rw [hb]; decide), if_pos hx]; rfl, rfl, rfl⟩
   | true =>
     obtain ⟨p, i, rfl, rfl, hxi⟩ := existsB_in hx
     have co := fun b l => dOwn_spec t hS bn hok p i hxi b l
     simp only [eBn, idA] at co
     have hr : intR t bn ((p : Int), ((i + 1 : Nat) : Int)) = .tup [.v (.int .i64 (loA t bn (p, i + 1))), .v (.int .i64 (hiA t bn (p, i + 1))), .v (.int .i64 0)] := by
      rw [intR, if_neg (by rw [hb]; decide), if_neg (by rw [hx]; decide)]
      simp only [Int.toNat_natCast]
     simp (disch := (first | decide | omega)) only [hA, go_sem]
     refine ACalls.nxt (co _ _) ?_
     simp (disch := (first | decide | omega)) only [hA, go_sem]
     exact leave_pure (xs := [.v (.int .i64 (loA t bn (p, i + 1))), .v (.int .i64 (hiA t bn (p, i + 1))), .v (.int .i64 0)]) (.inr rfl) (by simp (disch := (first | decide | omega)) only [resVs, resV, go_sem, hA]) kO hR hB ⟨by rw [hr]; rfl, rfl, rfl⟩
end Go.Proofs.Ytanblnhnfkeffaa
namespace Go.Proofs.Ytanblnhnfkeffaa
set_option linter.unusedVariables false
set_option linter.unusedSimpArgs false
def tmA (m : List (List Int)) (p i : Nat) : Int := (m.getD p []).getD i 0
def okAt (t : Tr) (bn : Bn) (m : List (List Int)) (p i : Nat) : Prop :=
 (loA t bn (p, i + 1) ≤ tmA m p i ∧ tmA m p i ≤ hiA t bn (p, i + 1)) ∧ (0 < i → tmA m p (i - 1) ≤ tmA m p i) ∧
 ((evAt t (p, i + 1)).kind = 3 → bn.lo ≤ tmA m p i - tmA m (sndr t (p, i + 1)).1 ((sndr t (p, i + 1)).2 - 1) ∧ tmA m p i - tmA m (sndr t (p, i + 1)).1 ((sndr t (p, i + 1)).2 - 1) ≤ bn.hi)
def shpOk (t : Tr) (m : List (List Int)) : Prop := m.length = t.length ∧ ∀ p, p < t.length → (m.getD p []).length = (evsOf t p).length
def Asg' (t : Tr) (bn : Bn) (m : List (List Int)) : Prop := shpOk t m ∧ ∀ p i, (p, i + 1) ∈ ids t → okAt t bn m p i
open Classical in
noncomputable def asgB (t : Tr) (bn : Bn) (m : List (List Int)) : Bool := decide (Asg' t bn m)
theorem asg_no {t : Tr} {bn : Bn} {m : List (List Int)} (h : ¬ Asg' t bn m) : asgB t bn m = false := by unfold asgB; simp [h]
theorem asg_yes {t : Tr} {bn : Bn} {m : List (List Int)} (h : Asg' t bn m) : asgB t bn m = true := by unfold asgB; simp [h]
theorem tm_row {m : List (List Int)} {p i : Nat} (hp : p < m.length) (hi : i < m[p].length) : tmA m p i = m[p][i] := by
 unfold tmA
 rw [getD_at hp, getD_at hi]
theorem chk_facts {t : Tr} {bn : Bn} {m : List (List Int)} (hs : shpOk t m) {p i : Nat} (hx : (p, i + 1) ∈ ids t) : ∃ (hp : p < m.length) (hi : i < m[p].length), (m.map eRw)[p]? = some [.isl 1 (m[p].map eI)] ∧ (m[p].map eI)[i]? = some [.int .i64 (tmA m p i)] ∧ m[p].length = (evsOf t p).length := by
 obtain ⟨hp, hi⟩ := mem_ids2.1 hx
 have hp2 : p < m.length := by rw [hs.1]; exact hp
 have hl := hs.2 p hp
 rw [getD_at hp2] at hl
 have hi2 : i < m[p].length := by rw [hl]; exact hi
 refine ⟨hp2, hi2, ?_, ?_, hl⟩
 ·rw [List.getElem?_map, List.getElem?_eq_getElem hp2]; rfl
 ·rw [List.getElem?_map, List.getElem?_eq_getElem hi2, tm_row hp2 hi2]; rfl
end Go.Proofs.Ytanblnhnfkeffaa
