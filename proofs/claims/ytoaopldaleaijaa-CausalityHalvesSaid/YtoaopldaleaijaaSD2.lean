/- Texts of one proof, laid together: HL, H1, H2. No condition. -/
import Derived.Test.YtoaopldaleaijaaSA9
namespace Go.Proofs.Ytoaopldaleaijaa
set_option linter.unusedVariables false
theorem leave_frz2' {rs : List ARes} {Q : AV → List Row → List Row → Prop} {B l : List Row} {e : List AV} {ex : AExit} (hex : ex = .normal ∨ ex = .ret) {i ver sz n : Nat} {rows : List (List IV)} {z : IV} (hx : resVs e B l rs = some [.sl (B.length + i) ver 0 n, .v z]) (hi : l[i]? = some (.live ver sz (vs rows))) (hn : n = rows.length)
    (hR : RowsLt B.length B) {b0 l0 : List Row} (hB : B = b0 ++ l0) (hq : Q (.tup [.v (.isl sz rows), .v z]) b0 l0) : Leaves rs Q b0.length ex e B l := by
  refine leave hex hx (y := .tup [.v (.isl sz rows), .v z]) ((Weak.freeze (i := i) (rows := rows) hi).trans ?_) (l' := []) hB (by simpa using hq)
  have h1 : List.map (frz (B.length + i) ver sz rows) [one [AV.sl (B.length + i) ver 0 n, .v z]] = [.tup [.v (.isl sz rows), .v z]] := by
    subst hn
    simp [one, frz, frz0]
  rw [h1]
  refine Weak.trim (l1 := []) rfl (by intro x hx; simp at hx; subst hx; exact .tup _ (by intro c hc; simp at hc; rcases hc with rfl | rfl <;> exact .v _)) (by simpa using hR) RowsLt_nil
end Go.Proofs.Ytoaopldaleaijaa

namespace Go.Proofs.Ytoaopldaleaijaa
set_option linter.unusedVariables false
set_option linter.unusedSimpArgs false
attribute [local go_sem ↓] run_skip run_region run_draw run_seq run_block run_exit run_ret run_cond atN_app seqC_normal seqC_exit seqC_ret seqQ_normal seqQ_exit seqQ_ret blkQ_normal blkQ_exit blkQ_ret runOps_nil runOps_cons runD_nil runD_cons grdO_true grdO_false grdD_true grdD_false ifC_true ifC_false opS_val opS_call opS_two opK_app dS_val dS_call dS_two dK_app kUp_same kUp_ne
attribute [local go_sem] rechks_nil rechks_cons rechk gcase_true gcase_false ex_val ex_val0 gd_none gd_some ev_t ev_c evs_nil evs_cons evo_some evo_none hget_at hget_first hsetB_at hsetB_first hsetL_at hsetL_first ofOpt_some aop aload astore aslice aappend aiaddr aiaddrA afaddr alen alenS acopy amm acall alookup amupdate alenM comma keyEq apick binV binVB binVS isSh intOp strOp boolOp shOp eqC eqF and2 cellsOf setFrom fillA fillS rd rdI elems mk bounds AV.cell List.all_cons List.all_nil Bool.and_true Bool.true_and Bool.and_self List.length_cons List.length_nil List.length_append Nat.reduceAdd Nat.reduceSub Nat.reduceMul Nat.zero_add Nat.add_zero List.cons_append List.nil_append List.append_assoc List.append_nil List.getElem?_cons_zero List.getElem?_cons_succ List.getElem?_nil List.set_cons_zero List.set_cons_succ List.drop_zero List.drop_succ_cons List.take_zero List.take_succ_cons List.take_nil List.drop_nil List.map_cons List.map_nil Option.map_some if_true if_false Bool.false_eq_true and_self true_and and_true Nat.reduceLeDiff Nat.reduceLT Nat.le_refl Nat.reduceEqDiff ite_true ite_false beq_self_eq_true beq_true beq_false Bool.not_true Bool.not_false Bool.true_beq Bool.false_beq map_vs vs_len vs_get vs_take vs_drop vs_snoc1 vs_snoc2 vs_snoc3 vs_snoc5 vs_set1 vs_set2 vs_rep wrap_id le_T lt_T le_F lt_F leI_T ltI_T leI_F ltI_F geI gtI get_T decide_true decide_false room List.getElem?_map List.length_map List.length_take Int.toNat_natCast Nat.min_def Nat.min_self nth_kOf put_kOf put_kNo kOv_cons kOv_nil KHas KArgs List.getElem_cons_zero List.getElem_cons_succ
def a_great : AFunc := ⟨1, 21, [.tmp 2],
  (.seq (.region [⟨(some 1), .box (.t 0), none⟩, ⟨(some 2), .mv (.c (.v (.bool false))), none⟩])
  (.seq (.region [⟨(some 3), .faddr 0 (.t 1), none⟩, ⟨(some 4), .load none (.t 3), none⟩, ⟨(some 5), .len (.t 4), none⟩, ⟨(some 6), .bin .gtr (.t 5) (.c (.v (.int .i64 20))), none⟩, ⟨(some 7), .mv (.t 6), none⟩, ⟨(some 8), .faddr 0 (.t 1), some (7, false)⟩, ⟨(some 9), .load none (.t 8), some (7, false)⟩, ⟨(some 10), .call (.c (.fn 73 [])) [(.t 9), (.c (.fn 74 []))], some (7, false)⟩, ⟨(some 11), .pick (.t 7) (.c (.v (.bool true))) (.t 10), none⟩, ⟨(some 12), .mv (.t 11), none⟩, ⟨(some 13), .load (some 1) (.t 1), some (12, false)⟩, ⟨(some 14), .call (.c (.fn 18 [])) [(.t 13)], some (12, false)⟩, ⟨(some 15), .bin .gtr (.t 14) (.c (.v (.int .i64 70))), some (12, false)⟩, ⟨(some 16), .mv (.t 15), some (12, false)⟩, ⟨(some 17), .load (some 1) (.t 1), some (16, true)⟩, ⟨(some 18), .call (.c (.fn 17 [])) [(.t 17)], some (16, true)⟩, ⟨(some 19), .pick (.t 16) (.t 18) (.c (.v (.bool false))), some (12, false)⟩, ⟨(some 20), .pick (.t 12) (.c (.v (.bool true))) (.t 19), none⟩, ⟨(some 2), .mv (.t 20), none⟩])
  .ret))⟩
theorem a_great_ok : cFunc Try.prog 16 = some a_great := by kernel_rfl
def a_great1 : AFunc := ⟨1, 18, [.tmp 2],
  (.seq (.region [⟨(some 1), .box (.t 0), none⟩, ⟨(some 2), .mv (.c (.v (.bool false))), none⟩])
  (.seq (.region [⟨(some 3), .faddr 2 (.t 1), none⟩, ⟨(some 4), .load none (.t 3), none⟩, ⟨(some 5), .len (.t 4), none⟩, ⟨(some 6), .bin .gtr (.t 5) (.c (.v (.int .i64 70))), none⟩, ⟨(some 7), .mv (.t 6), none⟩, ⟨(some 8), .faddr 1 (.t 1), some (7, false)⟩, ⟨(some 9), .load none (.t 8), some (7, false)⟩, ⟨(some 10), .len (.t 9), some (7, false)⟩, ⟨(some 11), .bin .gtr (.t 10) (.c (.v (.int .i64 20))), some (7, false)⟩, ⟨(some 12), .pick (.t 7) (.c (.v (.bool true))) (.t 11), none⟩, ⟨(some 13), .mv (.t 12), none⟩, ⟨(some 14), .faddr 2 (.t 1), some (13, false)⟩, ⟨(some 15), .load none (.t 14), some (13, false)⟩, ⟨(some 16), .call (.c (.fn 75 [])) [(.t 15), (.c (.fn 76 []))], some (13, false)⟩, ⟨(some 17), .pick (.t 13) (.c (.v (.bool true))) (.t 16), none⟩, ⟨(some 2), .mv (.t 17), none⟩])
  .ret))⟩
theorem a_great1_ok : cFunc Try.prog 74 = some a_great1 := by kernel_rfl
def a_great11 : AFunc := ⟨1, 7, [.tmp 2],
  (.seq (.region [⟨(some 1), .box (.t 0), none⟩, ⟨(some 2), .mv (.c (.v (.bool false))), none⟩])
  (.seq (.region [⟨(some 3), .faddr 4 (.t 1), none⟩, ⟨(some 4), .load none (.t 3), none⟩, ⟨(some 5), .len (.t 4), none⟩, ⟨(some 6), .bin .gtr (.t 5) (.c (.v (.int .i64 20))), none⟩, ⟨(some 2), .mv (.t 6), none⟩])
  .ret))⟩
theorem a_great11_ok : cFunc Try.prog 76 = some a_great11 := by kernel_rfl
def a_rEvents : AFunc := ⟨1, 22, [.tmp 2],
  (.seq (.region [⟨(some 1), .box (.t 0), none⟩, ⟨(some 2), .mv (.c (.v (.int .i64 0))), none⟩])
  (.seq (.region [⟨(some 3), .mv (.c (.v (.int .i64 0))), none⟩])
  (.seq (.seq (.region [⟨(some 4), .mv (.c (.v (.int .i64 0))), none⟩])
  (.block 0 (.loop (.seq (.seq (.region [⟨(some 5), .mv (.t 4), none⟩, ⟨(some 6), .faddr 0 (.t 1), none⟩, ⟨(some 7), .load none (.t 6), none⟩, ⟨(some 8), .len (.t 7), none⟩, ⟨(some 9), .bin .lss (.t 5) (.t 8), none⟩])
  (.cond (.t 9) .skip
  (.exit 0)))
  (.seq (.block 1 (.region [⟨(some 12), .mv (.t 3), none⟩, ⟨(some 13), .faddr 0 (.t 1), none⟩, ⟨(some 14), .load none (.t 13), none⟩, ⟨(some 15), .mv (.t 4), none⟩, ⟨(some 16), .iaddr 3 (.t 14) (.t 15), none⟩, ⟨(some 17), .faddr 2 (.t 16), none⟩, ⟨(some 18), .load none (.t 17), none⟩, ⟨(some 19), .len (.t 18), none⟩, ⟨(some 20), .bin .add (.t 12) (.t 19), none⟩, ⟨(some 3), .mv (.t 20), none⟩]))
  (.region [⟨(some 10), .mv (.t 4), none⟩, ⟨(some 11), .bin .add (.t 10) (.c (.v (.int .i64 1))), none⟩, ⟨(some 4), .mv (.t 11), none⟩]))))))
  (.seq (.region [⟨(some 21), .mv (.t 3), none⟩, ⟨(some 2), .mv (.t 21), none⟩])
  .ret))))⟩
theorem a_rEvents_ok : cFunc Try.prog 18 = some a_rEvents := by kernel_rfl
def r_rEvents0 : List (Nat × Nat) := [(3, 20)]
def a_rEvent : AFunc := ⟨2, 30, [.cell 4 (some 2)],
  (.seq (.region [⟨(some 2), .box (.t 0), none⟩, ⟨(some 4), .alloc [(.v (.int .i64 0)), (.v (.int .i64 0))], none⟩])
  (.seq (.region [⟨(some 5), .mv (.c (.v (.int .i64 0))), none⟩])
  (.seq (.block 0 (.loop (.seq (.seq (.region [⟨(some 6), .mv (.t 1), none⟩, ⟨(some 7), .faddr 0 (.t 2), none⟩, ⟨(some 8), .load none (.t 7), none⟩, ⟨(some 9), .mv (.t 5), none⟩, ⟨(some 10), .iaddr 3 (.t 8) (.t 9), none⟩, ⟨(some 11), .faddr 2 (.t 10), none⟩, ⟨(some 12), .load none (.t 11), none⟩, ⟨(some 13), .len (.t 12), none⟩, ⟨(some 14), .bin .geq (.t 6) (.t 13), none⟩])
  (.cond (.t 14) .skip
  (.exit 0)))
  (.block 1 (.seq (.region [⟨(some 15), .mv (.t 1), none⟩, ⟨(some 16), .faddr 0 (.t 2), none⟩, ⟨(some 17), .load none (.t 16), none⟩, ⟨(some 18), .mv (.t 5), none⟩, ⟨(some 19), .iaddr 3 (.t 17) (.t 18), none⟩, ⟨(some 20), .faddr 2 (.t 19), none⟩, ⟨(some 21), .load none (.t 20), none⟩, ⟨(some 22), .len (.t 21), none⟩, ⟨(some 23), .bin .sub (.t 15) (.t 22), none⟩, ⟨(some 1), .mv (.t 23), none⟩])
  (.region [⟨(some 24), .mv (.t 5), none⟩, ⟨(some 25), .bin .add (.t 24) (.c (.v (.int .i64 1))), none⟩, ⟨(some 5), .mv (.t 25), none⟩]))))))
  (.seq (.region [⟨(some 26), .mv (.t 5), none⟩, ⟨(some 27), .mv (.t 1), none⟩, ⟨(some 28), .bin .add (.t 27) (.c (.v (.int .i64 1))), none⟩, ⟨(some 29), .build [(.v (.int .i64 0)), (.v (.int .i64 0))] [(0, 1, (.t 26)), (1, 1, (.t 28))], none⟩, ⟨none, .store 2 (.t 4) (.t 29), none⟩])
  .ret))))⟩
theorem a_rEvent_ok : cFunc Try.prog 22 = some a_rEvent := by kernel_rfl
def r_rEvent0 : List (Nat × Nat) := [(1, 1), (5, 25)]

def lg70P (x : Pr) : Bool := decide (70 < x.evs.length) || (decide (20 < x.vars.length) || (List.range x.evs.length).any fun j => lgE (x.evs.getD j dfEv))
/-- How many events there are in the first processes. -/
def evN (t : Tr) (i : Nat) : Nat := (idsTo t i 0).length
theorem evN_zero {t : Tr} : evN t 0 = 0 := rfl
theorem evN_succ {t : Tr} {i : Nat} (h : i < t.length) : evN t (i + 1) = evN t i + t[i].evs.length := by
  unfold evN
  rw [← idsTo_next t i h]
  simp [idsTo]
theorem evN_all {t : Tr} : evN t t.length = (ids t).length := by unfold evN; rw [idsTo_all]
theorem evN_le {t : Tr} (h : ∀ x ∈ t, x.evs.length ≤ 70) : ∀ i, i ≤ t.length → evN t i ≤ 70 * i
  | 0, _ => by rw [evN_zero]; omega
  | i + 1, hi => by
    have := evN_le h i (by omega)
    have h2 := h _ (List.getElem_mem (show i < t.length by omega))
    rw [evN_succ (by omega)]; omega
theorem great11_spec (e : Ev) (b l : List Row) : ACalls Try.prog 76 [.agg ((eEv e).map .v)] b l (fun r b' l' => r = .v (.bool (lgE e)) ∧ b' = b ∧ l' = l) := by
  refine calls_kept a_great11_ok rfl (by decide) ?_
  intro B g hB hR hE hA
  simp only [KArgs] at hA
  simp only [eEv, List.map_cons, List.map_nil] at hA
  simp (disch := (first | decide | omega)) only [a_great11, hA, List.length_map, go_sem]
  have : decide (20 < (e.asg.length : Int)) = lgE e := by unfold lgE; simp only [decide_eq_decide]; omega
  exact leave_pure (xs := [.v (.bool (decide (20 < (e.asg.length : Int))))]) (.inr rfl) (by simp (disch := (first | decide | omega)) only [resVs, resV, go_sem, hA]) (by simp only [one, AVlt_v, AVlt_any, AVlt_sl, AVlt_ptr, AVlt_mp, AVlt_agg, AVlt_tup, AVlt_fn, RowsLt_nil, RowsLt_live, RowsLt_dead, List.mem_cons, List.not_mem_nil, List.forall_mem_cons, List.forall_mem_nil, or_false, false_or, forall_eq_or_imp, forall_eq, vs_lt, Nat.add_lt_add_iff_left, Nat.reduceLT, true_and, and_true, and_self, List.length_cons, List.length_nil, Nat.reduceAdd, Nat.zero_add, implies_true, false_imp_iff, lt_T, List.mem_map]) hR hB ⟨by rw [this]; rfl, rfl, rfl⟩
theorem great1_spec (x : Pr) (b l : List Row) : ACalls Try.prog 74 [.agg ((ePr x).map .v)] b l (fun r b' l' => r = .v (.bool (lg70P x)) ∧ b' = b ∧ l' = l) := by
  refine calls_kept a_great1_ok rfl (by decide) ?_
  intro B g hB hR hE hA
  simp only [KArgs] at hA
  simp only [ePr, List.map_cons, List.map_nil] at hA
  by_cases h1 : 70 < x.evs.length
  · have hd : decide (70 < (x.evs.length : Int)) = true := decide_eq_true (by omega)
    have hq : lg70P x = true := by unfold lg70P; rw [decide_eq_true h1]; rfl
    simp (disch := (first | decide | omega)) only [a_great1, hA, List.length_map, hd, go_sem]
    exact leave_pure (xs := [.v (.bool true)]) (.inr rfl) (by simp (disch := (first | decide | omega)) only [resVs, resV, go_sem, hA]) (by simp only [one, AVlt_v, AVlt_any, AVlt_sl, AVlt_ptr, AVlt_mp, AVlt_agg, AVlt_tup, AVlt_fn, RowsLt_nil, RowsLt_live, RowsLt_dead, List.mem_cons, List.not_mem_nil, List.forall_mem_cons, List.forall_mem_nil, or_false, false_or, forall_eq_or_imp, forall_eq, vs_lt, Nat.add_lt_add_iff_left, Nat.reduceLT, true_and, and_true, and_self, List.length_cons, List.length_nil, Nat.reduceAdd, Nat.zero_add, implies_true, false_imp_iff, lt_T, List.mem_map]) hR hB ⟨by rw [hq]; rfl, rfl, rfl⟩
  have hd : decide (70 < (x.evs.length : Int)) = false := decide_eq_false (by omega)
  by_cases h2 : 20 < x.vars.length
  · have hd2 : decide (20 < (x.vars.length : Int)) = true := decide_eq_true (by omega)
    have hq : lg70P x = true := by unfold lg70P; rw [decide_eq_true h2]; simp
    simp (disch := (first | decide | omega)) only [a_great1, hA, List.length_map, hd, hd2, go_sem]
    exact leave_pure (xs := [.v (.bool true)]) (.inr rfl) (by simp (disch := (first | decide | omega)) only [resVs, resV, go_sem, hA]) (by simp only [one, AVlt_v, AVlt_any, AVlt_sl, AVlt_ptr, AVlt_mp, AVlt_agg, AVlt_tup, AVlt_fn, RowsLt_nil, RowsLt_live, RowsLt_dead, List.mem_cons, List.not_mem_nil, List.forall_mem_cons, List.forall_mem_nil, or_false, false_or, forall_eq_or_imp, forall_eq, vs_lt, Nat.add_lt_add_iff_left, Nat.reduceLT, true_and, and_true, and_self, List.length_cons, List.length_nil, Nat.reduceAdd, Nat.zero_add, implies_true, false_imp_iff, lt_T, List.mem_map]) hR hB ⟨by rw [hq]; rfl, rfl, rfl⟩
  have hd2 : decide (20 < (x.vars.length : Int)) = false := decide_eq_false (by omega)
  have hq : lg70P x = (List.range x.evs.length).any fun j => lgE (x.evs.getD j dfEv) := by
    unfold lg70P; rw [decide_eq_false h1, decide_eq_false h2]; rfl
  simp (disch := (first | decide | omega)) only [a_great1, hA, List.length_map, hd, hd2, go_sem]
  refine ACalls.nxt (containsE_spec x.evs _ [] (fun j => lgE (x.evs.getD j dfEv)) (by omega) _ _ (fun i hi => by simp only [getD_at hi]; exact great11_spec _ _ _)) ?_
  rw [← hq]
  simp (disch := (first | decide | omega)) only [hA, go_sem]
  exact leave_pure (xs := [.v (.bool (lg70P x))]) (.inr rfl) (by simp (disch := (first | decide | omega)) only [resVs, resV, go_sem, hA]) (by simp only [one, AVlt_v, AVlt_any, AVlt_sl, AVlt_ptr, AVlt_mp, AVlt_agg, AVlt_tup, AVlt_fn, RowsLt_nil, RowsLt_live, RowsLt_dead, List.mem_cons, List.not_mem_nil, List.forall_mem_cons, List.forall_mem_nil, or_false, false_or, forall_eq_or_imp, forall_eq, vs_lt, Nat.add_lt_add_iff_left, Nat.reduceLT, true_and, and_true, and_self, List.length_cons, List.length_nil, Nat.reduceAdd, Nat.zero_add, implies_true, false_imp_iff, lt_T, List.mem_map]) hR hB ⟨rfl, rfl, rfl⟩
theorem rEvents_spec (t : Tr) (hn : t.length ≤ 20) (he : ∀ x ∈ t, x.evs.length ≤ 70) (b l : List Row) : ACalls Try.prog 18 [.agg [.v (eT t)]] b l (fun r b' l' => r = .v (.int .i64 ((ids t).length : Nat)) ∧ b' = b ∧ l' = l) := by
  refine calls_kept a_rEvents_ok rfl (by decide) ?_
  intro B g hB hR hE hA
  simp only [KArgs] at hA
  have h0 : ((evN t 0 : Nat) : Int) = 0 := rfl
  simp (disch := (first | decide | omega)) only [a_rEvents, hA, eT, go_sem]
  refine loop_kept (ι := Nat) r_rEvents0 (fun i => [(4, .v (.int .i64 i)), (3, .v (.int .i64 (evN t i : Nat)))]) 1 (fun i => [.live 0 1 [[.v (.isl 3 (t.map ePr))]]])
    (fun i => i ≤ t.length) (fun i => t.length - i) 0 (Nat.zero_le _) (by (repeat (first | exact hE.mono (by omega) | refine KLt.up ?_ (by simp (disch := omega) only [AVlt_v, AVlt_any, AVlt_sl, AVlt_ptr, AVlt_mp, AVlt_agg, AVlt_tup, AVlt_fn, RowsLt_nil, RowsLt_live, RowsLt_dead, List.mem_cons, List.not_mem_nil, List.forall_mem_cons, List.forall_mem_nil, or_false, false_or, forall_eq_or_imp, forall_eq, vs_lt, Nat.add_lt_add_iff_left, Nat.reduceLT, true_and, and_true, and_self, List.length_cons, List.length_nil, Nat.reduceAdd, Nat.zero_add, implies_true, false_imp_iff, lt_T, List.mem_map])))) (by ((try simp (disch := decide) only [hA, h0, go_sem]) <;> (repeat' (first | exact trivial | refine And.intro ?_ ?_)) <;> (first | rfl | (congr 2; omega)))) (fun e => Weak.refl _ _ _) ?_
  intro g1 hE1 hEE1 hg1 i hi
  by_cases hil : i < t.length
  · have h1 := evN_le he i hi
    have h2 := he _ (List.getElem_mem hil)
    have hs := evN_succ hil
    have hinc : ((evN t i : Nat) : Int) + (t[i].evs.length : Int) = ((evN t (i + 1) : Nat) : Int) := by omega
    simp (disch := (first | decide | omega)) only [hA, hg1, ePr, List.length_map, go_sem]
    refine ⟨i + 1, hil, by simp only; omega, ?_⟩
    exact Weak.kround (p := r_rEvents0) (k := 1) (by ((repeat refine (kAny_up rfl).trans ?_); exact hEE1)) (by ((try simp (disch := decide) only [hA, hinc, go_sem]) <;> (repeat' (first | exact trivial | refine And.intro ?_ ?_)) <;> (first | rfl | (congr 2; omega)))) rfl hE1 (by simp) (by simp (disch := omega) only [KOvLt, AVlt_v, AVlt_any, AVlt_sl, AVlt_ptr, AVlt_mp, AVlt_agg, AVlt_tup, AVlt_fn, RowsLt_nil, RowsLt_live, RowsLt_dead, List.mem_cons, List.not_mem_nil, List.forall_mem_cons, List.forall_mem_nil, or_false, false_or, forall_eq_or_imp, forall_eq, vs_lt, Nat.add_lt_add_iff_left, Nat.reduceLT, true_and, and_true, and_self, List.length_cons, List.length_nil, Nat.reduceAdd, Nat.zero_add, implies_true, false_imp_iff, lt_T, List.mem_map]) hR (by simp (disch := omega) only [AVlt_v, AVlt_any, AVlt_sl, AVlt_ptr, AVlt_mp, AVlt_agg, AVlt_tup, AVlt_fn, RowsLt_nil, RowsLt_live, RowsLt_dead, List.mem_cons, List.not_mem_nil, List.forall_mem_cons, List.forall_mem_nil, or_false, false_or, forall_eq_or_imp, forall_eq, vs_lt, Nat.add_lt_add_iff_left, Nat.reduceLT, true_and, and_true, and_self, List.length_cons, List.length_nil, Nat.reduceAdd, Nat.zero_add, implies_true, false_imp_iff, lt_T, List.mem_map])
  · simp (disch := (first | decide | omega)) only [hA, hg1, List.length_map, go_sem]
    obtain rfl : i = t.length := by omega
    rw [← evN_all]
    exact leave_pure (xs := [.v (.int .i64 (evN t t.length : Nat))]) (.inr rfl) (by simp (disch := (first | decide | omega)) only [resVs, resV, go_sem, hA, hg1]) (by simp only [one, AVlt_v, AVlt_any, AVlt_sl, AVlt_ptr, AVlt_mp, AVlt_agg, AVlt_tup, AVlt_fn, RowsLt_nil, RowsLt_live, RowsLt_dead, List.mem_cons, List.not_mem_nil, List.forall_mem_cons, List.forall_mem_nil, or_false, false_or, forall_eq_or_imp, forall_eq, vs_lt, Nat.add_lt_add_iff_left, Nat.reduceLT, true_and, and_true, and_self, List.length_cons, List.length_nil, Nat.reduceAdd, Nat.zero_add, implies_true, false_imp_iff, lt_T, List.mem_map]) hR hB ⟨rfl, rfl, rfl⟩
noncomputable def grB (t : Tr) : Bool := decide (20 < t.length) || ((List.range t.length).any (fun j => lg70P (t.getD j dfPr)) || (decide (70 < (ids t).length) && validL t))
theorem lg70_in {x : Pr} (h : lg70P x = false) : x.evs.length ≤ 70 ∧ x.vars.length ≤ 20 ∧ ∀ e ∈ x.evs, e.asg.length ≤ 20 := by
  simp only [lg70P, Bool.or_eq_false_iff, decide_eq_false_iff_not, List.any_eq_false, List.mem_range] at h
  refine ⟨by omega, by omega, fun e he => ?_⟩
  obtain ⟨i, hi, rfl⟩ := List.getElem_of_mem he
  have := h.2.2 i hi
  rw [getD_at hi] at this
  simp only [lgE, decide_eq_true_eq] at this
  omega
theorem any_lg {t : Tr} (h : (List.range t.length).any (fun j => lg70P (t.getD j dfPr)) = false) : ∀ x ∈ t, lg70P x = false := by
  intro x hx
  obtain ⟨i, hi, rfl⟩ := List.getElem_of_mem hx
  rw [List.any_eq_false] at h
  have := h i (List.mem_range.2 hi)
  rw [getD_at hi] at this
  simpa using this
theorem lg_small {t : Tr} (hn : t.length ≤ 20) (h : ∀ x ∈ t, lg70P x = false) : Small t :=
  ⟨by omega, fun x hx => by have := (lg70_in (h x hx)).2.1; omega, fun x hx => by have := (lg70_in (h x hx)).1; omega, fun x hx e he => by have := (lg70_in (h x hx)).2.2 e he; omega⟩
/-- What is known of a trace that is not great. -/
theorem gr_in {t : Tr} (h : grB t = false) : t.length ≤ 20 ∧ (∀ x ∈ t, x.evs.length ≤ 70) ∧ Small t ∧ (validL t = true → (ids t).length ≤ 70) := by
  simp only [grB, Bool.or_eq_false_iff, decide_eq_false_iff_not] at h
  obtain ⟨h1, h2, h3⟩ := h
  have h4 := any_lg h2
  refine ⟨by omega, fun x hx => (lg70_in (h4 x hx)).1, lg_small (by omega) h4, fun hv => ?_⟩
  rw [hv, Bool.and_true] at h3
  have := of_decide_eq_false h3
  omega
theorem great_spec (t : Tr) (hN : Nm t) (b l : List Row) : ACalls Try.prog 16 [.agg [.v (eT t)]] b l (fun r b' l' => r = .v (.bool (grB t)) ∧ b' = b ∧ l' = l) := by
  refine calls_kept a_great_ok rfl (by decide) ?_
  intro B g hB hR hE hA
  simp only [KArgs] at hA
  by_cases h1 : 20 < t.length
  · have hd : decide ((20 : Int) < (t.length : Int)) = true := decide_eq_true (by omega)
    have hq : grB t = true := by unfold grB; rw [decide_eq_true h1]; rfl
    simp (disch := (first | decide | omega)) only [a_great, hA, eT, List.length_map, hd, go_sem]
    exact leave_pure (xs := [.v (.bool true)]) (.inr rfl) (by simp (disch := (first | decide | omega)) only [resVs, resV, go_sem, hA]) (by simp only [one, AVlt_v, AVlt_any, AVlt_sl, AVlt_ptr, AVlt_mp, AVlt_agg, AVlt_tup, AVlt_fn, RowsLt_nil, RowsLt_live, RowsLt_dead, List.mem_cons, List.not_mem_nil, List.forall_mem_cons, List.forall_mem_nil, or_false, false_or, forall_eq_or_imp, forall_eq, vs_lt, Nat.add_lt_add_iff_left, Nat.reduceLT, true_and, and_true, and_self, List.length_cons, List.length_nil, Nat.reduceAdd, Nat.zero_add, implies_true, false_imp_iff, lt_T, List.mem_map]) hR hB ⟨by rw [hq]; rfl, rfl, rfl⟩
  have hd : decide ((20 : Int) < (t.length : Int)) = false := decide_eq_false (by omega)
  simp (disch := (first | decide | omega)) only [a_great, hA, eT, List.length_map, hd, go_sem]
  refine ACalls.nxt (containsP_spec t _ [] (fun j => lg70P (t.getD j dfPr)) (by omega) _ _ (fun i hi => by simp only [getD_at hi]; exact great1_spec _ _ _)) ?_
  cases h2 : (List.range t.length).any (fun j => lg70P (t.getD j dfPr)) with
  | true =>
    have hq : grB t = true := by unfold grB; rw [h2]; simp
    simp (disch := (first | decide | omega)) only [hA, go_sem]
    exact leave_pure (xs := [.v (.bool true)]) (.inr rfl) (by simp (disch := (first | decide | omega)) only [resVs, resV, go_sem, hA]) (by simp only [one, AVlt_v, AVlt_any, AVlt_sl, AVlt_ptr, AVlt_mp, AVlt_agg, AVlt_tup, AVlt_fn, RowsLt_nil, RowsLt_live, RowsLt_dead, List.mem_cons, List.not_mem_nil, List.forall_mem_cons, List.forall_mem_nil, or_false, false_or, forall_eq_or_imp, forall_eq, vs_lt, Nat.add_lt_add_iff_left, Nat.reduceLT, true_and, and_true, and_self, List.length_cons, List.length_nil, Nat.reduceAdd, Nat.zero_add, implies_true, false_imp_iff, lt_T, List.mem_map]) hR hB ⟨by rw [hq]; rfl, rfl, rfl⟩
  | false =>
    have h4 := any_lg h2
    have hS := lg_small (by omega) h4
    have hq : grB t = (decide (70 < (ids t).length) && validL t) := by unfold grB; rw [h2, decide_eq_false h1]; rfl
    simp (disch := (first | decide | omega)) only [hA, go_sem]
    refine ACalls.nxt (rEvents_spec t (by omega) (fun x hx => (lg70_in (h4 x hx)).1) _ _) ?_
    by_cases h3 : 70 < (ids t).length
    · have hd3 : decide ((70 : Int) < (((ids t).length : Nat) : Int)) = true := decide_eq_true (by omega)
      rw [decide_eq_true h3, Bool.true_and] at hq
      simp (disch := (first | decide | omega)) only [hA, hd3, go_sem]
      refine ACalls.nxt (rvalid_spec t hS hN _ _) ?_
      simp (disch := (first | decide | omega)) only [hA, go_sem]
      exact leave_pure (xs := [.v (.bool (validL t))]) (.inr rfl) (by simp (disch := (first | decide | omega)) only [resVs, resV, go_sem, hA]) (by simp only [one, AVlt_v, AVlt_any, AVlt_sl, AVlt_ptr, AVlt_mp, AVlt_agg, AVlt_tup, AVlt_fn, RowsLt_nil, RowsLt_live, RowsLt_dead, List.mem_cons, List.not_mem_nil, List.forall_mem_cons, List.forall_mem_nil, or_false, false_or, forall_eq_or_imp, forall_eq, vs_lt, Nat.add_lt_add_iff_left, Nat.reduceLT, true_and, and_true, and_self, List.length_cons, List.length_nil, Nat.reduceAdd, Nat.zero_add, implies_true, false_imp_iff, lt_T, List.mem_map]) hR hB ⟨by rw [hq]; rfl, rfl, rfl⟩
    · have hd3 : decide ((70 : Int) < (((ids t).length : Nat) : Int)) = false := decide_eq_false (by omega)
      rw [decide_eq_false h3, Bool.false_and] at hq
      simp (disch := (first | decide | omega)) only [hA, hd3, go_sem]
      exact leave_pure (xs := [.v (.bool false)]) (.inr rfl) (by simp (disch := (first | decide | omega)) only [resVs, resV, go_sem, hA]) (by simp only [one, AVlt_v, AVlt_any, AVlt_sl, AVlt_ptr, AVlt_mp, AVlt_agg, AVlt_tup, AVlt_fn, RowsLt_nil, RowsLt_live, RowsLt_dead, List.mem_cons, List.not_mem_nil, List.forall_mem_cons, List.forall_mem_nil, or_false, false_or, forall_eq_or_imp, forall_eq, vs_lt, Nat.add_lt_add_iff_left, Nat.reduceLT, true_and, and_true, and_self, List.length_cons, List.length_nil, Nat.reduceAdd, Nat.zero_add, implies_true, false_imp_iff, lt_T, List.mem_map]) hR hB ⟨by rw [hq]; rfl, rfl, rfl⟩
/-! The event with a number. -/
theorem ids_at {t : Tr} {i j : Nat} (hi : i < t.length) (hj : j < t[i].evs.length) : (ids t)[evN t i + j]? = some (i, j + 1) := by
  obtain ⟨c, hc⟩ := idsTo_prefix t i (j + 1) hi hj
  rw [← hc, idsTo_succ, List.append_assoc, List.getElem?_append_right (by simp [evN, idsTo])]
  simp [evN, idsTo]
theorem rEvent_spec (t : Tr) (hS : Small t) (n : Nat) (hn : n < (ids t).length) (hC : (ids t).length ≤ 1000000) (b l : List Row) : ACalls Try.prog 22 [.agg [.v (eT t)], .v (.int .i64 n)] b l (fun r b' l' => r = idA (ids t)[n] ∧ b' = b ∧ l' = l) := by
  refine calls_kept a_rEvent_ok rfl (by decide) ?_
  intro B g hB hR hE hA
  simp only [KArgs] at hA
  have hnp := hS.np
  have h0 : (n : Int) - ((evN t 0 : Nat) : Int) = (n : Int) := by rw [evN_zero]; omega
  simp (disch := (first | decide | omega)) only [a_rEvent, hA, eT, go_sem]
  refine loop_kept (ι := Nat) r_rEvent0 (fun i => [(5, .v (.int .i64 i)), (1, .v (.int .i64 ((n : Int) - ((evN t i : Nat) : Int))))]) 2 (fun i => [.live 0 1 [[.v (.isl 3 (t.map ePr))]], .live 0 2 [[.v (.int .i64 0), .v (.int .i64 0)]]])
    (fun i => i < t.length ∧ evN t i ≤ n) (fun i => t.length - i) 0 ⟨?_, by rw [evN_zero]; omega⟩ (by (repeat (first | exact hE.mono (by omega) | refine KLt.up ?_ (by simp (disch := omega) only [AVlt_v, AVlt_any, AVlt_sl, AVlt_ptr, AVlt_mp, AVlt_agg, AVlt_tup, AVlt_fn, RowsLt_nil, RowsLt_live, RowsLt_dead, List.mem_cons, List.not_mem_nil, List.forall_mem_cons, List.forall_mem_nil, or_false, false_or, forall_eq_or_imp, forall_eq, vs_lt, Nat.add_lt_add_iff_left, Nat.reduceLT, true_and, and_true, and_self, List.length_cons, List.length_nil, Nat.reduceAdd, Nat.zero_add, implies_true, false_imp_iff, lt_T, List.mem_map])))) (by ((try simp (disch := decide) only [hA, h0, go_sem]) <;> (repeat' (first | exact trivial | refine And.intro ?_ ?_)) <;> (first | rfl | (congr 2; omega)))) (fun e => Weak.refl _ _ _) ?_
  · refine Nat.pos_of_ne_zero (fun h => ?_)
    rw [← evN_all, h, evN_zero] at hn; omega
  rintro g1 hE1 hEE1 hg1 i ⟨hil, hle⟩
  have hs := evN_succ hil
  have hne := hS.ne _ (List.getElem_mem hil)
  by_cases hlt : n < evN t (i + 1)
  · have hd : decide ((n : Int) - ((evN t i : Nat) : Int) ≥ (t[i].evs.length : Int)) = false := decide_eq_false (by omega)
    have hd' : decide ((t[i].evs.length : Int) ≤ (n : Int) - ((evN t i : Nat) : Int)) = false := hd
    simp (disch := (first | decide | omega)) only [hA, hg1, ePr, List.length_map, hd, hd', go_sem]
    have hid : (ids t)[n] = (i, n - evN t i + 1) := by
      have := ids_at hil (j := n - evN t i) (by omega)
      rw [show evN t i + (n - evN t i) = n by omega, List.getElem?_eq_getElem hn] at this
      exact Option.some.inj this
    have hcast : (n : Int) - ((evN t i : Nat) : Int) + 1 = ((n - evN t i + 1 : Nat) : Int) := by omega
    exact leave_pure (xs := [.agg [.v (.int .i64 (i : Nat)), .v (.int .i64 ((n - evN t i + 1 : Nat) : Int))]]) (.inr rfl) (by simp (disch := (first | decide | omega)) only [resVs, resV, go_sem, hA, hg1, hcast]) (by simp only [one, AVlt_v, AVlt_any, AVlt_sl, AVlt_ptr, AVlt_mp, AVlt_agg, AVlt_tup, AVlt_fn, RowsLt_nil, RowsLt_live, RowsLt_dead, List.mem_cons, List.not_mem_nil, List.forall_mem_cons, List.forall_mem_nil, or_false, false_or, forall_eq_or_imp, forall_eq, vs_lt, Nat.add_lt_add_iff_left, Nat.reduceLT, true_and, and_true, and_self, List.length_cons, List.length_nil, Nat.reduceAdd, Nat.zero_add, implies_true, false_imp_iff, lt_T, List.mem_map]) hR hB ⟨by rw [hid]; rfl, rfl, rfl⟩
  · have hd : decide ((n : Int) - ((evN t i : Nat) : Int) ≥ (t[i].evs.length : Int)) = true := decide_eq_true (by omega)
    have hd' : decide ((t[i].evs.length : Int) ≤ (n : Int) - ((evN t i : Nat) : Int)) = true := hd
    have hnx : (n : Int) - ((evN t i : Nat) : Int) - (t[i].evs.length : Int) = (n : Int) - ((evN t (i + 1) : Nat) : Int) := by omega
    have hil2 : i + 1 < t.length := by
      refine Nat.lt_of_not_le fun h => ?_
      have : i + 1 = t.length := by omega
      rw [this, evN_all] at hlt
      omega
    simp (disch := (first | decide | omega)) only [hA, hg1, ePr, List.length_map, hd, hd', go_sem]
    refine ⟨i + 1, ⟨hil2, by omega⟩, by simp only; omega, ?_⟩
    exact Weak.kround (p := r_rEvent0) (k := 2) (by ((repeat refine (kAny_up rfl).trans ?_); exact hEE1)) (by ((try simp (disch := decide) only [hA, hnx, go_sem]) <;> (repeat' (first | exact trivial | refine And.intro ?_ ?_)) <;> (first | rfl | (congr 2; omega)))) rfl hE1 (by simp) (by simp (disch := omega) only [KOvLt, AVlt_v, AVlt_any, AVlt_sl, AVlt_ptr, AVlt_mp, AVlt_agg, AVlt_tup, AVlt_fn, RowsLt_nil, RowsLt_live, RowsLt_dead, List.mem_cons, List.not_mem_nil, List.forall_mem_cons, List.forall_mem_nil, or_false, false_or, forall_eq_or_imp, forall_eq, vs_lt, Nat.add_lt_add_iff_left, Nat.reduceLT, true_and, and_true, and_self, List.length_cons, List.length_nil, Nat.reduceAdd, Nat.zero_add, implies_true, false_imp_iff, lt_T, List.mem_map]) hR (by simp (disch := omega) only [AVlt_v, AVlt_any, AVlt_sl, AVlt_ptr, AVlt_mp, AVlt_agg, AVlt_tup, AVlt_fn, RowsLt_nil, RowsLt_live, RowsLt_dead, List.mem_cons, List.not_mem_nil, List.forall_mem_cons, List.forall_mem_nil, or_false, false_or, forall_eq_or_imp, forall_eq, vs_lt, Nat.add_lt_add_iff_left, Nat.reduceLT, true_and, and_true, and_self, List.length_cons, List.length_nil, Nat.reduceAdd, Nat.zero_add, implies_true, false_imp_iff, lt_T, List.mem_map])
theorem rIs_spec (t : Tr) (hS : Small t) (x : Int × Int) (b l : List Row) :
    ACalls Try.prog 19 [.agg [.v (eT t)], idP x] b l (fun r b' l' => r = .v (.bool (existsB t x.1 x.2)) ∧ b' = b ∧ l' = l) := exists_gen _ (by kernel_rfl) t hS x b l
end Go.Proofs.Ytoaopldaleaijaa

namespace Go.Proofs.Ytoaopldaleaijaa
set_option linter.unusedVariables false
set_option linter.unusedSimpArgs false
attribute [local go_sem ↓] run_skip run_region run_draw run_seq run_block run_exit run_ret run_cond atN_app seqC_normal seqC_exit seqC_ret seqQ_normal seqQ_exit seqQ_ret blkQ_normal blkQ_exit blkQ_ret runOps_nil runOps_cons runD_nil runD_cons grdO_true grdO_false grdD_true grdD_false ifC_true ifC_false opS_val opS_call opS_two opK_app dS_val dS_call dS_two dK_app kUp_same kUp_ne
attribute [local go_sem] rechks_nil rechks_cons rechk gcase_true gcase_false ex_val ex_val0 gd_none gd_some ev_t ev_c evs_nil evs_cons evo_some evo_none hget_at hget_first hsetB_at hsetB_first hsetL_at hsetL_first ofOpt_some aop aload astore aslice aappend aiaddr aiaddrA afaddr alen alenS acopy amm acall alookup amupdate alenM comma keyEq apick binV binVB binVS isSh intOp strOp boolOp shOp eqC eqF and2 cellsOf setFrom fillA fillS rd rdI elems mk bounds AV.cell List.all_cons List.all_nil Bool.and_true Bool.true_and Bool.and_self List.length_cons List.length_nil List.length_append Nat.reduceAdd Nat.reduceSub Nat.reduceMul Nat.zero_add Nat.add_zero List.cons_append List.nil_append List.append_assoc List.append_nil List.getElem?_cons_zero List.getElem?_cons_succ List.getElem?_nil List.set_cons_zero List.set_cons_succ List.drop_zero List.drop_succ_cons List.take_zero List.take_succ_cons List.take_nil List.drop_nil List.map_cons List.map_nil Option.map_some if_true if_false Bool.false_eq_true and_self true_and and_true Nat.reduceLeDiff Nat.reduceLT Nat.le_refl Nat.reduceEqDiff ite_true ite_false beq_self_eq_true beq_true beq_false Bool.not_true Bool.not_false Bool.true_beq Bool.false_beq map_vs vs_len vs_get vs_take vs_drop vs_snoc1 vs_snoc2 vs_snoc3 vs_snoc5 vs_set1 vs_set2 vs_rep wrap_id le_T lt_T le_F lt_F leI_T ltI_T leI_F ltI_F geI gtI get_T decide_true decide_false room List.getElem?_map List.length_map List.length_take Int.toNat_natCast Nat.min_def Nat.min_self nth_kOf put_kOf put_kNo kOv_cons kOv_nil KHas KArgs List.getElem_cons_zero List.getElem_cons_succ
def a_PastC : AFunc := ⟨2, 18, [.tmp 4, .tmp 5],
  (.seq (.region [⟨(some 2), .box (.t 0), none⟩, ⟨(some 3), .box (.t 1), none⟩, ⟨(some 4), .mv (.c (.v .zsl)), none⟩, ⟨(some 5), .mv (.c (.v (.int .i64 0))), none⟩])
  (.seq (.seq (.region [⟨(some 7), .load (some 1) (.t 2), none⟩, ⟨(some 8), .load (some 2) (.t 3), none⟩, ⟨(some 9), .bslice 2 [(.v (.int .i64 0)), (.v (.int .i64 0))] 1 [(0, (.t 8))], none⟩, ⟨(some 10), .call (.c (.fn 78 [])) [(.t 7), (.t 9)], none⟩, ⟨(some 6), .mv (.t 10), none⟩])
  (.seq (.region [⟨(some 11), .mv (.t 6), none⟩, ⟨(some 12), .bin .neq (.t 11) (.c (.v (.int .i64 0))), none⟩])
  (.cond (.t 12) (.seq (.region [⟨(some 13), .mv (.t 6), none⟩, ⟨(some 4), .mv (.c (.v .zsl)), none⟩, ⟨(some 5), .mv (.t 13), none⟩])
  .ret)
  .skip)))
  (.seq (.draw [⟨0, ⟨(some 14), .load (some 1) (.t 2), none⟩, []⟩, ⟨2, ⟨(some 16), .load (some 2) (.t 3), none⟩, []⟩, ⟨1, ⟨(some 15), .call (.c (.fn 79 [])) [(.t 14)], none⟩, [⟨(some 16), .load (some 2) (.t 3), none⟩]⟩, ⟨3, ⟨(some 17), .call (.c (.fn 80 [])) [(.t 15), (.t 16)], none⟩, []⟩, ⟨4, ⟨(some 4), .mv (.t 17), none⟩, []⟩, ⟨5, ⟨(some 5), .mv (.c (.v (.int .i64 0))), none⟩, []⟩])
  .ret)))⟩
theorem a_PastC_ok : cFunc Try.prog 20 = some a_PastC := by kernel_rfl
def a_FutureC : AFunc := ⟨2, 61, [.tmp 4, .tmp 5],
  (.seq (.region [⟨(some 2), .box (.t 0), none⟩, ⟨(some 3), .box (.t 1), none⟩, ⟨(some 4), .mv (.c (.v .zsl)), none⟩, ⟨(some 5), .mv (.c (.v (.int .i64 0))), none⟩])
  (.seq (.seq (.region [⟨(some 12), .load (some 1) (.t 2), none⟩, ⟨(some 13), .load (some 2) (.t 3), none⟩, ⟨(some 14), .bslice 2 [(.v (.int .i64 0)), (.v (.int .i64 0))] 1 [(0, (.t 13))], none⟩, ⟨(some 15), .call (.c (.fn 78 [])) [(.t 12), (.t 14)], none⟩, ⟨(some 6), .mv (.t 15), none⟩])
  (.seq (.region [⟨(some 16), .mv (.t 6), none⟩, ⟨(some 17), .bin .neq (.t 16) (.c (.v (.int .i64 0))), none⟩])
  (.cond (.t 17) (.seq (.region [⟨(some 18), .mv (.t 6), none⟩, ⟨(some 4), .mv (.c (.v .zsl)), none⟩, ⟨(some 5), .mv (.t 18), none⟩])
  .ret)
  .skip)))
  (.seq (.region [⟨(some 19), .load (some 1) (.t 2), none⟩, ⟨(some 20), .call (.c (.fn 79 [])) [(.t 19)], none⟩, ⟨(some 7), .alloc [(.v .zsl), (.v .nilm), (.v .nilm)], none⟩, ⟨none, .store 3 (.t 7) (.t 20), none⟩])
  (.seq (.region [⟨(some 21), .faddr 0 (.t 2), none⟩, ⟨(some 22), .load none (.t 21), none⟩, ⟨(some 23), .len (.t 22), none⟩, ⟨(some 24), .mkslice 1 [(.v (.int .i64 0))] 8 (.t 23) (.t 23), none⟩, ⟨(some 8), .mv (.t 24), none⟩])
  (.seq (.seq (.region [⟨(some 25), .faddr 0 (.t 2), none⟩, ⟨(some 26), .load none (.t 25), none⟩, ⟨(some 27), .len (.t 26), none⟩, ⟨(some 28), .mv (.c (.v (.int .i64 0))), none⟩])
  (.block 0 (.loop (.seq (.region [⟨(some 29), .bin .lss (.t 28) (.t 27), none⟩])
  (.seq (.cond (.t 29) .skip
  (.exit 0))
  (.seq (.block 1 (.seq (.region [⟨(some 30), .mv (.t 28), none⟩, ⟨(some 31), .iaddr 3 (.t 26) (.t 28), none⟩, ⟨(some 32), .load (some 3) (.t 31), none⟩, ⟨(some 10), .alloc [(.v (.str ⟨#[]⟩)), (.v .zsl), (.v .zsl)], none⟩, ⟨(some 9), .mv (.t 30), none⟩, ⟨none, .store 3 (.t 10) (.t 32), none⟩])
  (.seq (.region [⟨(some 33), .faddr 2 (.t 10), none⟩, ⟨(some 34), .load none (.t 33), none⟩, ⟨(some 35), .len (.t 34), none⟩, ⟨(some 36), .mv (.c (.v (.int .i64 0))), none⟩])
  (.block 2 (.loop (.seq (.region [⟨(some 37), .bin .lss (.t 36) (.t 35), none⟩])
  (.seq (.cond (.t 37) .skip
  (.exit 2))
  (.seq (.block 3 (.seq (.region [⟨(some 38), .mv (.t 36), none⟩, ⟨(some 11), .mv (.t 38), none⟩])
  (.seq (.seq (.draw [⟨0, ⟨(some 39), .load (some 3) (.t 7), none⟩, []⟩, ⟨1, ⟨(some 40), .mv (.t 9), none⟩, []⟩, ⟨2, ⟨(some 41), .mv (.t 11), none⟩, []⟩, ⟨3, ⟨(some 42), .bin .add (.t 41) (.c (.v (.int .i64 1))), none⟩, []⟩, ⟨4, ⟨(some 43), .build [(.v (.int .i64 0)), (.v (.int .i64 0))] [(0, 1, (.t 40)), (1, 1, (.t 42))], none⟩, []⟩, ⟨6, ⟨(some 45), .faddr 0 (.t 3), none⟩, []⟩, ⟨7, ⟨(some 46), .load none (.t 45), none⟩, []⟩, ⟨10, ⟨(some 49), .faddr 1 (.t 3), none⟩, []⟩, ⟨11, ⟨(some 50), .load none (.t 49), none⟩, []⟩, ⟨5, ⟨(some 44), .call (.c (.fn 80 [])) [(.t 39), (.t 43)], none⟩, [⟨(some 45), .faddr 0 (.t 3), none⟩, ⟨(some 46), .load none (.t 45), none⟩, ⟨(some 49), .faddr 1 (.t 3), none⟩, ⟨(some 50), .load none (.t 49), none⟩]⟩, ⟨8, ⟨(some 47), .iaddr 1 (.t 44) (.t 46), none⟩, []⟩, ⟨9, ⟨(some 48), .load none (.t 47), none⟩, []⟩, ⟨12, ⟨(some 51), .bin .geq (.t 48) (.t 50), none⟩, []⟩])
  (.cond (.t 51) (.exit 2)
  .skip))
  (.region [⟨(some 52), .mv (.t 8), none⟩, ⟨(some 53), .mv (.t 9), none⟩, ⟨(some 54), .iaddr 1 (.t 52) (.t 53), none⟩, ⟨(some 55), .load none (.t 54), none⟩, ⟨(some 56), .bin .add (.t 55) (.c (.v (.int .i64 1))), none⟩, ⟨(some 57), .iaddr 1 (.t 52) (.t 53), none⟩, ⟨none, .store 1 (.t 57) (.t 56), none⟩]))))
  (.region [⟨(some 58), .bin .add (.t 36) (.c (.v (.int .i64 1))), none⟩, ⟨(some 36), .mv (.t 58), none⟩])))))))))
  (.region [⟨(some 59), .bin .add (.t 28) (.c (.v (.int .i64 1))), none⟩, ⟨(some 28), .mv (.t 59), none⟩])))))))
  (.seq (.region [⟨(some 60), .mv (.t 8), none⟩, ⟨(some 4), .mv (.t 60), none⟩, ⟨(some 5), .mv (.c (.v (.int .i64 0))), none⟩])
  .ret))))))⟩
theorem a_FutureC_ok : cFunc Try.prog 21 = some a_FutureC := by kernel_rfl
def r_FutureC0 : List (Nat × Nat) := [(9, 11), (28, 59)]
def r_FutureC1 : List (Nat × Nat) := [(11, 11), (36, 58)]

/-- How many events of a process come before all that an event happened before, and it. -/
noncomputable def fu (t : Tr) (x : Nat × Nat) (q : Nat) : Nat := (List.range (evsOf t q).length).countP fun i => !leB t x (q, i + 1)
theorem fu_iff {t : Tr} {x : Nat × Nat} {q i : Nat} (h : i < (evsOf t q).length) : i < fu t x q ↔ ¬ Le t x (q, i + 1) := by
  have := count_down (P := fun i => !leB t x (q, i + 1)) (n := (evsOf t q).length) (fun i j hi hj hp => by
    simp only [Bool.not_eq_true'] at hp ⊢
    rw [Bool.eq_false_iff] at hp ⊢
    intro h2
    rw [ne_eq, leB_iff] at hp
    rw [leB_iff] at h2
    exact hp (h2.trans (le_row (by omega) (by omega)))) i h
  unfold fu
  rw [← this, Bool.not_eq_true', Bool.eq_false_iff, ne_eq, leB_iff]
theorem fu_le {t : Tr} {x : Nat × Nat} {q : Nat} : fu t x q ≤ (evsOf t q).length := by
  have := List.countP_le_length (p := fun i => !leB t x (q, i + 1)) (l := List.range (evsOf t q).length)
  rwa [List.length_range] at this
noncomputable def fus (t : Tr) (x : Nat × Nat) : List Int := fl t.length fun q => (fu t x q : Int)
theorem chk_one {t : Tr} {x : Int × Int} (h : chkE t [x] = 0) : validL t = true ∧ existsB t x.1 x.2 = true := by
  obtain ⟨h1, h2⟩ := chkE_zero.1 h
  exact ⟨h1, h2 x (by simp)⟩
open Classical in
noncomputable def pastR (t : Tr) (x : Int × Int) : AV := if chkE t [x] = 0 then .tup [.v (.isl 1 ((vcs t (x.1.toNat, x.2.toNat)).map eI)), .v (.int .i64 0)] else .tup [.v .zsl, .v (.int .i64 (chkE t [x]))]
theorem PastC_spec (t : Tr) (hS : Small t) (hN : Nm t) (hC : validL t = true → (ids t).length ≤ 1000000) (x : Int × Int) (b l : List Row) :
    ACalls Try.prog 20 [.agg [.v (eT t)], idP x] b l (fun r b' l' => r = pastR t x ∧ b' = b ∧ l' = l) := by
  refine calls_kept a_PastC_ok rfl (by decide) ?_
  intro B g hB hR hE hA
  simp only [KArgs] at hA
  simp (disch := (first | decide | omega)) only [a_PastC, hA, idP, List.replicate_succ, List.replicate_zero, go_sem]
  refine ACalls.frzB (i := 2) (ver := 0) (sz := 2) (rows := [eIdP x]) (args' := [.agg [.v (eT t)], .v (.isl 2 [eIdP x])]) rfl (by simp [frz, frz0]) ?_
  refine ACalls.nxt (check_spec t hS hN [x] (by simp) _ _) ?_
  by_cases h0 : chkE t [x] = 0
  · obtain ⟨hval, hex⟩ := chk_one h0
    have hv := vok hval
    obtain ⟨p, i, e1, e2, hx⟩ := existsB_in hex
    obtain ⟨x1, x2⟩ := x
    simp only at e1 e2
    subst e1; subst e2
    have hn0 : ((0 : Int) != 0) = false := rfl
    unfold pastR
    rw [h0, if_pos rfl]
    simp (disch := (first | decide | omega)) only [hA, hn0, idP, go_sem]
    refine ACalls.nxt (knows_spec t hv hS _ _) ?_
    simp (disch := (first | decide | omega)) only [hA, kA, knoR, go_sem]
    refine ACalls.nxt (past_run t hv hS (hC hval) (B.length + 3 + 2) (B.length + 3 + 3) (p, i + 1) hx _ _ (by rw [List.getElem?_append_right (by omega), show B.length + 3 + 2 - B.length = 5 by omega]; rfl) (by rw [List.getElem?_append_right (by omega), show B.length + 3 + 3 - B.length = 6 by omega]; rfl)) ?_
    simp (disch := (first | decide | omega)) only [hA, go_sem]
    exact leave_pure (xs := [.v (.isl 1 ((vcs t (p, i + 1)).map eI)), .v (.int .i64 0)]) (.inr rfl) (by simp (disch := (first | decide | omega)) only [resVs, resV, go_sem, hA]) (by simp only [one, AVlt_v, AVlt_any, AVlt_sl, AVlt_ptr, AVlt_mp, AVlt_agg, AVlt_tup, AVlt_fn, RowsLt_nil, RowsLt_live, RowsLt_dead, List.mem_cons, List.not_mem_nil, List.forall_mem_cons, List.forall_mem_nil, or_false, false_or, forall_eq_or_imp, forall_eq, vs_lt, Nat.add_lt_add_iff_left, Nat.reduceLT, true_and, and_true, and_self, List.length_cons, List.length_nil, Nat.reduceAdd, Nat.zero_add, implies_true, false_imp_iff, lt_T, List.mem_map]) hR hB ⟨rfl, rfl, rfl⟩
  · have hn0 : (chkE t [x] != 0) = true := by simpa using h0
    unfold pastR
    rw [if_neg h0]
    simp (disch := (first | decide | omega)) only [hA, hn0, go_sem]
    exact leave_pure (xs := [.v .zsl, .v (.int .i64 (chkE t [x]))]) (.inr rfl) (by simp (disch := (first | decide | omega)) only [resVs, resV, go_sem, hA]) (by simp only [one, AVlt_v, AVlt_any, AVlt_sl, AVlt_ptr, AVlt_mp, AVlt_agg, AVlt_tup, AVlt_fn, RowsLt_nil, RowsLt_live, RowsLt_dead, List.mem_cons, List.not_mem_nil, List.forall_mem_cons, List.forall_mem_nil, or_false, false_or, forall_eq_or_imp, forall_eq, vs_lt, Nat.add_lt_add_iff_left, Nat.reduceLT, true_and, and_true, and_self, List.length_cons, List.length_nil, Nat.reduceAdd, Nat.zero_add, implies_true, false_imp_iff, lt_T, List.mem_map]) hR hB ⟨rfl, rfl, rfl⟩
open Classical in
noncomputable def futR (t : Tr) (x : Int × Int) : AV := if chkE t [x] = 0 then .tup [.v (.isl 1 ((fus t (x.1.toNat, x.2.toNat)).map eI)), .v (.int .i64 0)] else .tup [.v .zsl, .v (.int .i64 (chkE t [x]))]
noncomputable def fuT (t : Tr) (x : Nat × Nat) (p i q : Nat) : Nat := if q < p then fu t x q else if q = p then i else 0
noncomputable def fuL (t : Tr) (x : Nat × Nat) (p i : Nat) : List (List IV) := fl t.length fun q => [.int .i64 (fuT t x p i q)]
theorem fuL_next {t : Tr} {x : Nat × Nat} {q i : Nat} (h : i = fu t x q) : fuL t x q i = fuL t x (q + 1) 0 := by
  unfold fuL
  refine fl_congr (fun j _ => ?_)
  congr 3
  unfold fuT
  by_cases h1 : j < q
  · rw [if_pos h1, if_pos (by omega)]
  · rw [if_neg h1]
    by_cases h2 : j = q
    · subst h2; rw [if_pos rfl, if_pos (by omega), h]
    · rw [if_neg h2, if_neg (by omega)]; split <;> rfl
theorem fuL_set {t : Tr} {x : Nat × Nat} {q i : Nat} : (fuL t x q i).set q [.int .i64 ((i : Int) + 1)] = fuL t x q (i + 1) := by
  unfold fuL
  rw [fl_set]
  refine fl_congr (fun j _ => ?_)
  by_cases h : j = q
  · subst h
    rw [fUp_same]
    unfold fuT; rw [if_neg (by omega), if_pos rfl]; rfl
  · rw [fUp_ne h]
    unfold fuT; rw [if_neg h, if_neg h]
theorem fuL_zero {t : Tr} {x : Nat × Nat} : List.replicate t.length [IV.int .i64 0] = fuL t x 0 0 := by
  unfold fuL
  rw [← fl_const]
  refine fl_congr (fun j _ => ?_)
  unfold fuT; rw [if_neg (by omega)]; split <;> rfl
theorem fuL_all {t : Tr} {x : Nat × Nat} : fuL t x t.length 0 = (fus t x).map eI := by
  unfold fuL fus
  rw [fl_map]
  refine fl_congr (fun j hj => ?_)
  unfold fuT; rw [if_pos hj]; rfl
/-- The rows of the work on the future. -/
def fuRw (t : Tr) (n : Nat) (a c : Int) (r : List (List IV)) : List Row := [.live 0 1 [[.v (.isl 3 (t.map ePr))]], .live 0 2 [[.v (.int .i64 a), .v (.int .i64 c)]], .dead 0, .live 0 1 [[.v (.isl 3 (t.map ePr))]], .live 0 3 [[.v (.isl 3 (t.map ePr)), .mp (n + 3 + 2) 0, .mp (n + 3 + 3) 0]], .live 0 0 (mpL t 2 (ids t)), .live 0 0 (mpL t 3 (ids t)), .live 0 3 [[.v (.isl 3 (t.map ePr)), .mp (n + 3 + 2) 0, .mp (n + 3 + 3) 0]], .live 0 3 [[.v (.isl 3 (t.map ePr)), .mp (n + 3 + 2) 0, .mp (n + 3 + 3) 0]], .live 0 1 (vs r)]
theorem fuRw_lt {t : Tr} {n m : Nat} {a c : Int} {r : List (List IV)} {T : List Row} (h : n + 10 ≤ m) (hT : RowsLt m T) : RowsLt m (fuRw t n a c r ++ T) := by
  intro id ver sz els hr row hrow c' hc
  match id, hr with
  | 0, hr => cases hr; simp at hrow; subst hrow; simp at hc; subst hc; exact .v _
  | 1, hr => cases hr; simp at hrow; subst hrow; simp at hc; rcases hc with rfl | rfl <;> exact .v _
  | 2, hr => cases hr
  | 3, hr => cases hr; simp at hrow; subst hrow; simp at hc; subst hc; exact .v _
  | 4, hr => cases hr; simp at hrow; subst hrow; simp at hc; rcases hc with rfl | rfl | rfl <;> first | exact .v _ | exact .mp _ _ (by omega)
  | 5, hr => cases hr; exact mpL_lt row hrow c' hc
  | 6, hr => cases hr; exact mpL_lt row hrow c' hc
  | 7, hr => cases hr; simp at hrow; subst hrow; simp at hc; rcases hc with rfl | rfl | rfl <;> first | exact .v _ | exact .mp _ _ (by omega)
  | 8, hr => cases hr; simp at hrow; subst hrow; simp at hc; rcases hc with rfl | rfl | rfl <;> first | exact .v _ | exact .mp _ _ (by omega)
  | 9, hr =>
    cases hr
    obtain ⟨r0, _, rfl⟩ := List.mem_map.1 hrow
    obtain ⟨x0, _, rfl⟩ := List.mem_map.1 hc
    exact .v _
  | id + 10, hr => exact hT id ver sz els hr row hrow c' hc
theorem FutureC_spec (t : Tr) (hS : Small t) (hN : Nm t) (hC : validL t = true → (ids t).length ≤ 1000000) (x : Int × Int) (b l : List Row) :
    ACalls Try.prog 21 [.agg [.v (eT t)], idP x] b l (fun r b' l' => r = futR t x ∧ b' = b ∧ l' = l) := by
  refine calls_kept a_FutureC_ok rfl (by decide) ?_
  intro B g hB hR hE hA
  simp only [KArgs] at hA
  simp (disch := (first | decide | omega)) only [a_FutureC, hA, idP, List.replicate_succ, List.replicate_zero, go_sem]
  refine ACalls.frzB (i := 2) (ver := 0) (sz := 2) (rows := [eIdP x]) (args' := [.agg [.v (eT t)], .v (.isl 2 [eIdP x])]) rfl (by simp [frz, frz0]) ?_
  refine ACalls.nxt (check_spec t hS hN [x] (by simp) _ _) ?_
  by_cases h0 : chkE t [x] = 0
  case neg =>
    have hn0 : (chkE t [x] != 0) = true := by simpa using h0
    unfold futR
    rw [if_neg h0]
    simp (disch := (first | decide | omega)) only [hA, hn0, go_sem]
    exact leave_pure (xs := [.v .zsl, .v (.int .i64 (chkE t [x]))]) (.inr rfl) (by simp (disch := (first | decide | omega)) only [resVs, resV, go_sem, hA]) (by simp only [one, AVlt_v, AVlt_any, AVlt_sl, AVlt_ptr, AVlt_mp, AVlt_agg, AVlt_tup, AVlt_fn, RowsLt_nil, RowsLt_live, RowsLt_dead, List.mem_cons, List.not_mem_nil, List.forall_mem_cons, List.forall_mem_nil, or_false, false_or, forall_eq_or_imp, forall_eq, vs_lt, Nat.add_lt_add_iff_left, Nat.reduceLT, true_and, and_true, and_self, List.length_cons, List.length_nil, Nat.reduceAdd, Nat.zero_add, implies_true, false_imp_iff, lt_T, List.mem_map]) hR hB ⟨rfl, rfl, rfl⟩
  obtain ⟨hval, hex⟩ := chk_one h0
  have hv := vok hval
  obtain ⟨p, i, e1, e2, hx⟩ := existsB_in hex
  obtain ⟨x1, x2⟩ := x
  simp only at e1 e2
  subst e1; subst e2
  obtain ⟨hp, hpi⟩ := mem_ids2.1 hx
  have hn0 : ((0 : Int) != 0) = false := rfl
  have h8 := hv.hi
  unfold futR
  rw [h0, if_pos rfl]
  simp (disch := (first | decide | omega)) only [hA, hn0, idP, go_sem]
  refine ACalls.nxt (knows_spec t hv hS _ _) ?_
  simp (disch := (first | decide | omega)) only [hA, kA, knoR, eT, List.length_map, go_sem]
  refine loop_kept (ι := Nat) r_FutureC0 (fun q => [(28, .v (.int .i64 q))]) 10 (fun q => fuRw t B.length p ((i + 1 : Nat) : Int) (fuL t (p, i + 1) q 0))
    (fun q => q ≤ t.length) (fun q => t.length - q) 0 (Nat.zero_le _) (by (repeat (first | exact hE.mono (by omega) | refine KLt.up ?_ (by simp (disch := omega) only [AVlt_v, AVlt_any, AVlt_sl, AVlt_ptr, AVlt_mp, AVlt_agg, AVlt_tup, AVlt_fn, RowsLt_nil, RowsLt_live, RowsLt_dead, List.mem_cons, List.not_mem_nil, List.forall_mem_cons, List.forall_mem_nil, or_false, false_or, forall_eq_or_imp, forall_eq, vs_lt, Nat.add_lt_add_iff_left, Nat.reduceLT, true_and, and_true, and_self, List.length_cons, List.length_nil, Nat.reduceAdd, Nat.zero_add, implies_true, false_imp_iff, lt_T, List.mem_map])))) (by ((try simp (disch := decide) only [hA, go_sem]) <;> (repeat' (first | exact trivial | refine And.intro ?_ ?_)) <;> (first | rfl | (congr 2; omega)))) (fun e => by rw [← fuL_zero]; exact Weak.refl _ _ _) ?_
  intro g1 hE1 hEE1 hg1 q hq
  by_cases hql : q < t.length
  · have hqe := evsOf_lt hql
    have hne := hS.ne _ (List.getElem_mem hql)
    simp (disch := (first | decide | omega)) only [hA, hg1, ePr, fuRw, List.length_map, go_sem]
    refine loop_kept (ι := Nat) r_FutureC1 (fun k => [(36, .v (.int .i64 k))]) 11 (fun k => fuRw t B.length p ((i + 1 : Nat) : Int) (fuL t (p, i + 1) q k) ++ [.live 0 3 [[.v (.str t[q].name), .v (.isl 2 (t[q].vars.map eVr)), .v (.isl 5 (t[q].evs.map eEv))]]])
      (fun k => k ≤ t[q].evs.length ∧ k ≤ fu t (p, i + 1) q) (fun k => t[q].evs.length - k) 0 ⟨Nat.zero_le _, Nat.zero_le _⟩ (by (repeat (first | exact hE1.mono (by omega) | refine KLt.up ?_ (by simp (disch := omega) only [AVlt_v, AVlt_any, AVlt_sl, AVlt_ptr, AVlt_mp, AVlt_agg, AVlt_tup, AVlt_fn, RowsLt_nil, RowsLt_live, RowsLt_dead, List.mem_cons, List.not_mem_nil, List.forall_mem_cons, List.forall_mem_nil, or_false, false_or, forall_eq_or_imp, forall_eq, vs_lt, Nat.add_lt_add_iff_left, Nat.reduceLT, true_and, and_true, and_self, List.length_cons, List.length_nil, Nat.reduceAdd, Nat.zero_add, implies_true, false_imp_iff, lt_T, List.mem_map])))) (by ((try simp (disch := decide) only [hA, hg1, go_sem]) <;> (repeat' (first | exact trivial | refine And.intro ?_ ?_)) <;> (first | rfl | (congr 2; omega)))) (fun e => Weak.refl _ _ _) ?_
    rintro g2 hE2 hEE2 hg2 k ⟨hk, hkf⟩
    by_cases hkl : k < t[q].evs.length
    · have hy : (q, k + 1) ∈ ids t := mem_ids2.2 ⟨hql, by rw [hqe]; exact hkl⟩
      have hfi := fu_iff (t := t) (x := (p, i + 1)) (q := q) (i := k) (by rw [hqe]; exact hkl)
      have hle : Le t (p, i + 1) (q, k + 1) ↔ i + 1 ≤ vc t (q, k + 1) p := vc_iff hpi
      have hpa := fun L h1 h2 => past_run t hv hS (hC hval) (B.length + 3 + 2) (B.length + 3 + 3) (q, k + 1) hy B L h1 h2
      have hck : ((k + 1 : Nat) : Int) = (k : Int) + 1 := by omega
      simp only [idA, kA, eT, hck] at hpa
      have hgt : ((vcs t (q, k + 1)).map eI)[p]? = some [.int .i64 (vc t (q, k + 1) p)] := by
        unfold vcs; rw [List.getElem?_map, fl_get hp]; rfl
      have hget : (vs (fuL t (p, i + 1) q k))[q]? = some [.v (.int .i64 (k : Int))] := by
        unfold vs fuL; rw [List.getElem?_map, fl_get hql]
        unfold fuT; rw [if_neg (by omega), if_pos rfl]; rfl
      simp (disch := (first | decide | omega)) only [hA, hg1, hg2, fuRw, go_sem]
      refine ACalls.nxt (hpa _ (by rw [List.getElem?_append_right (by omega), show B.length + 3 + 2 - B.length = 5 by omega]; rfl) (by rw [List.getElem?_append_right (by omega), show B.length + 3 + 3 - B.length = 6 by omega]; rfl)) ?_
      by_cases hl : i + 1 ≤ vc t (q, k + 1) p
      · have hd : decide ((vc t (q, k + 1) p : Int) ≥ ((i + 1 : Nat) : Int)) = true := decide_eq_true (by omega)
        have hd' : decide (((i + 1 : Nat) : Int) ≤ (vc t (q, k + 1) p : Int)) = true := hd
        have hfe : k = fu t (p, i + 1) q := by
          have : ¬ (k < fu t (p, i + 1) q) := fun h => (hfi.1 h) (hle.2 hl)
          omega
        simp (disch := (first | decide | omega)) only [hA, hg1, hg2, hgt, hd, hd', go_sem]
        refine ⟨q + 1, hql, by simp only; omega, ?_⟩
        rw [fuL_next hfe]
        exact Weak.kround (l1 := fuRw t B.length p ((i + 1 : Nat) : Int) (fuL t (p, i + 1) (q + 1) 0)) (p := r_FutureC0) (k := 10) (by ((repeat refine (kAny_up rfl).trans ?_); refine (kAny_sub hg2 (kIn_sub rfl)).trans ?_; (repeat refine (kAny_up rfl).trans ?_); exact hEE1)) (by ((try simp (disch := decide) only [hA, hg1, go_sem]) <;> (repeat' (first | exact trivial | refine And.intro ?_ ?_)) <;> (first | rfl | (congr 2; omega)))) rfl hE1 (by simp [fuRw]) (by simp (disch := omega) only [KOvLt, AVlt_v, AVlt_any, AVlt_sl, AVlt_ptr, AVlt_mp, AVlt_agg, AVlt_tup, AVlt_fn, RowsLt_nil, RowsLt_live, RowsLt_dead, List.mem_cons, List.not_mem_nil, List.forall_mem_cons, List.forall_mem_nil, or_false, false_or, forall_eq_or_imp, forall_eq, vs_lt, Nat.add_lt_add_iff_left, Nat.reduceLT, true_and, and_true, and_self, List.length_cons, List.length_nil, Nat.reduceAdd, Nat.zero_add, implies_true, false_imp_iff, lt_T, List.mem_map]) hR (fuRw_lt (T := []) (by simp [fuRw]) RowsLt_nil)
      · have hd : decide ((vc t (q, k + 1) p : Int) ≥ ((i + 1 : Nat) : Int)) = false := decide_eq_false (by omega)
        have hd' : decide (((i + 1 : Nat) : Int) ≤ (vc t (q, k + 1) p : Int)) = false := hd
        have hkf2 : k < fu t (p, i + 1) q := hfi.2 (fun h => hl (hle.1 h))
        have hset := fuL_set (t := t) (x := (p, i + 1)) (q := q) (i := k)
        simp (disch := (first | decide | omega)) only [hA, hg1, hg2, hgt, hd, hd', hget, hset, go_sem]
        refine ⟨k + 1, ⟨hkl, hkf2⟩, by simp only; omega, ?_⟩
        exact Weak.kround (junk := []) (p := r_FutureC1) (k := 11) (by ((repeat refine (kAny_up rfl).trans ?_); exact hEE2)) (by ((try simp (disch := decide) only [hA, go_sem]) <;> (repeat' (first | exact trivial | refine And.intro ?_ ?_)) <;> (first | rfl | (congr 2; omega)))) (List.append_nil _).symm hE2 (by simp) (by simp (disch := omega) only [KOvLt, AVlt_v, AVlt_any, AVlt_sl, AVlt_ptr, AVlt_mp, AVlt_agg, AVlt_tup, AVlt_fn, RowsLt_nil, RowsLt_live, RowsLt_dead, List.mem_cons, List.not_mem_nil, List.forall_mem_cons, List.forall_mem_nil, or_false, false_or, forall_eq_or_imp, forall_eq, vs_lt, Nat.add_lt_add_iff_left, Nat.reduceLT, true_and, and_true, and_self, List.length_cons, List.length_nil, Nat.reduceAdd, Nat.zero_add, implies_true, false_imp_iff, lt_T, List.mem_map]) hR (fuRw_lt (T := [_]) (by simp) (by simp only [AVlt_v, AVlt_any, AVlt_sl, AVlt_ptr, AVlt_mp, AVlt_agg, AVlt_tup, AVlt_fn, RowsLt_nil, RowsLt_live, RowsLt_dead, List.mem_cons, List.not_mem_nil, List.forall_mem_cons, List.forall_mem_nil, or_false, false_or, forall_eq_or_imp, forall_eq, vs_lt, Nat.add_lt_add_iff_left, Nat.reduceLT, true_and, and_true, and_self, List.length_cons, List.length_nil, Nat.reduceAdd, Nat.zero_add, implies_true, false_imp_iff, lt_T, List.mem_map]))
    · simp (disch := (first | decide | omega)) only [hA, hg1, hg2, fuRw, go_sem]
      obtain rfl : k = t[q].evs.length := by omega
      have hfe : t[q].evs.length = fu t (p, i + 1) q := by
        have := fu_le (t := t) (x := (p, i + 1)) (q := q)
        rw [hqe] at this
        omega
      refine ⟨q + 1, hql, by simp only; omega, ?_⟩
      rw [fuL_next hfe]
      exact Weak.kround (l1 := fuRw t B.length p ((i + 1 : Nat) : Int) (fuL t (p, i + 1) (q + 1) 0)) (p := r_FutureC0) (k := 10) (by ((repeat refine (kAny_up rfl).trans ?_); refine (kAny_sub hg2 (kIn_sub rfl)).trans ?_; (repeat refine (kAny_up rfl).trans ?_); exact hEE1)) (by ((try simp (disch := decide) only [hA, hg1, go_sem]) <;> (repeat' (first | exact trivial | refine And.intro ?_ ?_)) <;> (first | rfl | (congr 2; omega)))) rfl hE1 (by simp [fuRw]) (by simp (disch := omega) only [KOvLt, AVlt_v, AVlt_any, AVlt_sl, AVlt_ptr, AVlt_mp, AVlt_agg, AVlt_tup, AVlt_fn, RowsLt_nil, RowsLt_live, RowsLt_dead, List.mem_cons, List.not_mem_nil, List.forall_mem_cons, List.forall_mem_nil, or_false, false_or, forall_eq_or_imp, forall_eq, vs_lt, Nat.add_lt_add_iff_left, Nat.reduceLT, true_and, and_true, and_self, List.length_cons, List.length_nil, Nat.reduceAdd, Nat.zero_add, implies_true, false_imp_iff, lt_T, List.mem_map]) hR (fuRw_lt (T := []) (by simp [fuRw]) RowsLt_nil)
  · simp (disch := (first | decide | omega)) only [hA, hg1, fuRw, go_sem]
    obtain rfl : q = t.length := by omega
    rw [fuL_all]
    exact leave_frz2' (i := 9) (ver := 0) (sz := 1) (n := t.length) (rows := (fus t (p, i + 1)).map eI) (z := .int .i64 0) (.inr rfl) (by simp (disch := (first | decide | omega)) only [resVs, resV, hA, hg1, go_sem]) rfl (by simp [fus, fl_len]) hR hB ⟨rfl, rfl, rfl⟩
end Go.Proofs.Ytoaopldaleaijaa
