/- Texts of one proof, laid together: WP, PA, PC, PD. No condition. -/
import Derived.Test.YtfdekchpckdeiaaQA6
/- Loops whose frame is written as it stands, but for what the loop assigns. No condition. -/
namespace Go.Proofs.Ytfdekchpckdeiaa
set_option linter.unusedVariables false

/-- Slots of which nothing is said. -/
def anyM : List Bool → List AV → List AV
  | true :: m, _ :: l => .any :: anyM m l
  | false :: m, a :: l => a :: anyM m l
  | _, l => l
theorem anyM_t {m : List Bool} {a : AV} {l : List AV} : anyM (true :: m) (a :: l) = .any :: anyM m l := nr rfl
theorem anyM_f {m : List Bool} {a : AV} {l : List AV} : anyM (false :: m) (a :: l) = a :: anyM m l := nr rfl
theorem anyM_nil {l : List AV} : anyM [] l = l := by cases l <;> rfl
def ovr : List (Nat × AV) → List AV → List AV
  | [], e => e
  | (n, x) :: r, e => ovr r (upd e n x)
theorem ovr_nil {e : List AV} : ovr [] e = e := nr rfl
theorem ovr_cons {n : Nat} {x : AV} {r : List (Nat × AV)} {e : List AV} : ovr ((n, x) :: r) e = ovr r (upd e n x) := nr rfl

theorem loop_auto {P : Program} {c : ACode} {Q : AExit → List AV → List Row → List Row → Prop} {e : List AV} {b l : List Row} {ι : Type} (m : List Bool) (ov : ι → List (Nat × AV)) (L : ι → List Row) (Cd : ι → Prop) (μ : ι → Nat) (i0 : ι) (h0 : Cd i0)
    (hw : Weak e b l (ovr (ov i0) (anyM m e)) b (L i0))
    (step : ∀ i, Cd i → run (ACalls P) Weak c (ovr (ov i) (anyM m e)) b (L i) (seqQ (Round (fun i => ovr (ov i) (anyM m e)) (fun _ => b) L Cd μ i) Q)) : run (ACalls P) Weak (.loop c) e b l Q :=
  loop_rule (fun i => ovr (ov i) (anyM m e)) (fun _ => b) L Cd μ i0 h0 hw step
end Go.Proofs.Ytfdekchpckdeiaa

/- The reference's Cut, Consistent, Find, as runs. No condition but on lengths. -/
namespace Go.Proofs.Ytfdekchpckdeiaa
set_option linter.unusedVariables false
set_option linter.unusedSimpArgs false
attribute [local go_sem ↓] run_skip run_region run_draw run_seq run_block run_exit run_ret run_cond atN_app seqC_normal seqC_exit seqC_ret seqQ_normal seqQ_exit seqQ_ret blkQ_normal blkQ_exit blkQ_ret runOps_nil runOps_cons runD_nil runD_cons grdO_true grdO_false grdD_true grdD_false ifC_true ifC_false opS_val opS_call opS_two opK_app dS_val dS_call dS_two dK_app
attribute [local go_sem] rechks_nil rechks_cons rechk gcase_true gcase_false ex_val ex_val0 gd_none gd_some nth_zero nth_succ upd_zero upd_succ put_some put_none ev_t ev_c evs_nil evs_cons evo_some evo_none hget_at hget_first hsetB_at hsetB_first hsetL_at hsetL_first ofOpt_some aop aload astore aslice aappend aiaddr aiaddrA afaddr alen alenS acopy amm acall apick binV binVB binVS isSh intOp strOp boolOp shOp eqC eqF and2 cellsOf setFrom fillA fillS rd rdI elems mk bounds AV.cell List.all_cons List.all_nil Bool.and_true Bool.true_and Bool.and_self List.length_cons List.length_nil List.length_append Nat.reduceAdd Nat.reduceSub Nat.reduceMul Nat.zero_add Nat.add_zero List.replicate_succ List.replicate_zero List.cons_append List.nil_append List.append_assoc List.append_nil List.getElem?_cons_zero List.getElem?_cons_succ List.getElem?_nil List.set_cons_zero List.set_cons_succ List.drop_zero List.drop_succ_cons List.take_zero List.take_succ_cons List.take_nil List.drop_nil List.map_cons List.map_nil Option.map_some if_true if_false Bool.false_eq_true and_self true_and and_true Nat.reduceLeDiff Nat.reduceLT Nat.le_refl Nat.reduceEqDiff ite_true ite_false beq_self_eq_true beq_true beq_false Bool.not_true Bool.not_false Bool.true_beq Bool.false_beq map_vs vs_len vs_get vs_take vs_drop vs_snoc1 vs_snoc2 vs_snoc3 vs_snoc5 vs_set1 vs_set2 vs_rep wrap_id le_T lt_T le_F lt_F leI_T ltI_T leI_F ltI_F geI gtI get_T decide_true decide_false room List.getElem?_map List.length_map List.length_take Int.toNat_natCast Nat.min_def Nat.min_self List.getElem_cons_zero List.getElem_cons_succ
def a_rCut : AFunc := ⟨2, 37, [.tmp 4],
  (.seq (.region [⟨(some 2), .box (.t 0), none⟩, ⟨(some 4), .mv (.c (.v (.bool false))), none⟩])
  (.seq (.seq (.region [⟨(some 6), .mv (.t 1), none⟩, ⟨(some 7), .len (.t 6), none⟩, ⟨(some 8), .faddr 0 (.t 2), none⟩, ⟨(some 9), .load none (.t 8), none⟩, ⟨(some 10), .len (.t 9), none⟩, ⟨(some 11), .bin .neq (.t 7) (.t 10), none⟩])
  (.cond (.t 11) (.seq (.region [⟨(some 4), .mv (.c (.v (.bool false))), none⟩])
  .ret)
  .skip))
  (.seq (.seq (.region [⟨(some 5), .mv (.c (.v (.int .i64 0))), none⟩])
  (.block 0 (.loop (.seq (.seq (.region [⟨(some 12), .mv (.t 5), none⟩, ⟨(some 13), .mv (.t 1), none⟩, ⟨(some 14), .len (.t 13), none⟩, ⟨(some 15), .bin .lss (.t 12) (.t 14), none⟩])
  (.cond (.t 15) .skip
  (.exit 0)))
  (.seq (.block 1 (.seq (.draw [⟨0, ⟨(some 18), .mv (.t 1), none⟩, []⟩, ⟨1, ⟨(some 19), .mv (.t 5), none⟩, []⟩, ⟨2, ⟨(some 20), .iaddr 1 (.t 18) (.t 19), none⟩, []⟩, ⟨3, ⟨(some 21), .load none (.t 20), none⟩, []⟩, ⟨4, ⟨(some 22), .bin .lss (.t 21) (.c (.v (.int .i64 0))), none⟩, []⟩, ⟨5, ⟨(some 23), .mv (.t 22), none⟩, []⟩, ⟨6, ⟨(some 24), .mv (.t 1), some (23, false)⟩, []⟩, ⟨7, ⟨(some 25), .mv (.t 5), some (23, false)⟩, []⟩, ⟨8, ⟨(some 26), .iaddr 1 (.t 24) (.t 25), some (23, false)⟩, []⟩, ⟨9, ⟨(some 27), .load none (.t 26), some (23, false)⟩, []⟩, ⟨10, ⟨(some 28), .faddr 0 (.t 2), some (23, false)⟩, []⟩, ⟨11, ⟨(some 29), .load none (.t 28), some (23, false)⟩, []⟩, ⟨12, ⟨(some 30), .mv (.t 5), some (23, false)⟩, []⟩, ⟨13, ⟨(some 31), .iaddr 3 (.t 29) (.t 30), some (23, false)⟩, []⟩, ⟨14, ⟨(some 32), .faddr 2 (.t 31), some (23, false)⟩, []⟩, ⟨15, ⟨(some 33), .load none (.t 32), some (23, false)⟩, []⟩, ⟨16, ⟨(some 34), .len (.t 33), some (23, false)⟩, []⟩, ⟨17, ⟨(some 35), .bin .gtr (.t 27) (.t 34), some (23, false)⟩, []⟩, ⟨18, ⟨(some 36), .pick (.t 23) (.c (.v (.bool true))) (.t 35), none⟩, []⟩])
  (.cond (.t 36) (.seq (.region [⟨(some 4), .mv (.c (.v (.bool false))), none⟩])
  .ret)
  .skip)))
  (.region [⟨(some 16), .mv (.t 5), none⟩, ⟨(some 17), .bin .add (.t 16) (.c (.v (.int .i64 1))), none⟩, ⟨(some 5), .mv (.t 17), none⟩]))))))
  (.seq (.region [⟨(some 4), .mv (.c (.v (.bool true))), none⟩])
  .ret))))⟩
theorem a_rCut_ok : cFunc Try.prog 82 = some a_rCut := by kernel_rfl
def m_rCut0 : List Bool := [false, false, false, false, true, true, false, false, false, false, false, false, true, true, true, true, true, true, true, true, true, true, true, true, true, true, true, true, true, true, true, true, true, true, true, true, true]
def a_rConsistent : AFunc := ⟨2, 47, [.tmp 4],
  (.seq (.region [⟨(some 2), .box (.t 0), none⟩, ⟨(some 4), .mv (.c (.v (.bool false))), none⟩])
  (.seq (.seq (.region [⟨(some 5), .mv (.c (.v (.int .i64 0))), none⟩])
  (.block 0 (.loop (.seq (.seq (.region [⟨(some 9), .mv (.t 5), none⟩, ⟨(some 10), .mv (.t 1), none⟩, ⟨(some 11), .len (.t 10), none⟩, ⟨(some 12), .bin .lss (.t 9) (.t 11), none⟩])
  (.cond (.t 12) .skip
  (.exit 0)))
  (.seq (.block 1 (.seq (.region [⟨(some 6), .mv (.c (.v (.int .i64 0))), none⟩])
  (.block 2 (.loop (.seq (.seq (.region [⟨(some 15), .mv (.t 6), none⟩, ⟨(some 16), .mv (.t 1), none⟩, ⟨(some 17), .mv (.t 5), none⟩, ⟨(some 18), .iaddr 1 (.t 16) (.t 17), none⟩, ⟨(some 19), .load none (.t 18), none⟩, ⟨(some 20), .bin .lss (.t 15) (.t 19), none⟩])
  (.cond (.t 20) .skip
  (.exit 2)))
  (.seq (.block 3 (.seq (.region [⟨(some 23), .faddr 0 (.t 2), none⟩, ⟨(some 24), .load none (.t 23), none⟩, ⟨(some 25), .mv (.t 5), none⟩, ⟨(some 26), .iaddr 3 (.t 24) (.t 25), none⟩, ⟨(some 27), .faddr 2 (.t 26), none⟩, ⟨(some 28), .load none (.t 27), none⟩, ⟨(some 29), .mv (.t 6), none⟩, ⟨(some 30), .iaddr 5 (.t 28) (.t 29), none⟩, ⟨(some 31), .load (some 5) (.t 30), none⟩, ⟨(some 7), .alloc [(.v (.int .i64 0)), (.v (.int .i64 0)), (.v (.int .i64 0)), (.v (.int .i64 0)), (.v .zsl)], none⟩, ⟨none, .store 5 (.t 7) (.t 31), none⟩])
  (.seq (.region [⟨(some 32), .faddr 0 (.t 7), none⟩, ⟨(some 33), .load none (.t 32), none⟩, ⟨(some 34), .bin .eql (.t 33) (.c (.v (.int .i64 3))), none⟩])
  (.cond (.t 34) (.seq (.region [⟨(some 35), .load (some 1) (.t 2), none⟩, ⟨(some 36), .faddr 2 (.t 7), none⟩, ⟨(some 37), .load none (.t 36), none⟩, ⟨(some 38), .call (.c (.fn 25 [])) [(.t 35), (.c (.v (.int .i64 2))), (.t 37)], none⟩, ⟨(some 8), .alloc [(.v (.int .i64 0)), (.v (.int .i64 0))], none⟩, ⟨none, .store 2 (.t 8) (.t 38), none⟩])
  (.seq (.draw [⟨0, ⟨(some 39), .faddr 1 (.t 8), none⟩, []⟩, ⟨1, ⟨(some 40), .load none (.t 39), none⟩, []⟩, ⟨2, ⟨(some 41), .mv (.t 1), none⟩, []⟩, ⟨3, ⟨(some 42), .faddr 0 (.t 8), none⟩, []⟩, ⟨4, ⟨(some 43), .load none (.t 42), none⟩, []⟩, ⟨5, ⟨(some 44), .iaddr 1 (.t 41) (.t 43), none⟩, []⟩, ⟨6, ⟨(some 45), .load none (.t 44), none⟩, []⟩, ⟨7, ⟨(some 46), .bin .gtr (.t 40) (.t 45), none⟩, []⟩])
  (.cond (.t 46) (.seq (.region [⟨(some 4), .mv (.c (.v (.bool false))), none⟩])
  .ret)
  .skip)))
  .skip))))
  (.region [⟨(some 21), .mv (.t 6), none⟩, ⟨(some 22), .bin .add (.t 21) (.c (.v (.int .i64 1))), none⟩, ⟨(some 6), .mv (.t 22), none⟩])))))))
  (.region [⟨(some 13), .mv (.t 5), none⟩, ⟨(some 14), .bin .add (.t 13) (.c (.v (.int .i64 1))), none⟩, ⟨(some 5), .mv (.t 14), none⟩]))))))
  (.seq (.region [⟨(some 4), .mv (.c (.v (.bool true))), none⟩])
  .ret)))⟩
theorem a_rConsistent_ok : cFunc Try.prog 83 = some a_rConsistent := by kernel_rfl
def m_rConsistent0 : List Bool := [false, false, false, false, true, true, true, true, true, true, true, true, true, true, true, true, true, true, true, true, true, true, true, true, true, true, true, true, true, true, true, true, true, true, true, true, true, true, true, true, true, true, true, true, true, true, true]
def m_rConsistent1 : List Bool := [false, false, false, false, true, false, true, true, true, false, false, false, false, false, false, true, true, true, true, true, true, true, true, true, true, true, true, true, true, true, true, true, true, true, true, true, true, true, true, true, true, true, true, true, true, true, true]

theorem isl_get {cs : List Int} {k : Nat} (h : k < cs.length) : (cs.map eI)[k]? = some [.int .i64 cs[k]] := by simp [eI, h]

theorem rCut_spec (t : Tr) (hS : Small t) (cs : List Int) (hc : cs.length ≤ 1000000) (b l : List Row) : ACalls Try.prog 82 [.agg [.v (eT t)], .v (.isl 1 (cs.map eI))] b l (fun r b' l' => r = .v (.bool (decide (cs.length = t.length) && (List.range cs.length).all (rangeB t cs))) ∧ b' = b ∧ l' = l) := by
  refine calls_of a_rCut_ok rfl ?_
  intro B hB hR _
  have hnp := hS.np
  by_cases hlen : cs.length = t.length
  case neg =>
    have hd : ((cs.length : Int) != (t.length : Int)) = true := by simp; omega
    simp only [a_rCut, eT, List.length_map, hd, go_sem]
    exact leave_pure (.inr rfl) rfl (.v _) hR hB ⟨by rw [decide_eq_false hlen]; rfl, rfl, rfl⟩
  have hd : ((cs.length : Int) != (t.length : Int)) = false := by simp; omega
  simp only [a_rCut, eT, List.length_map, hd, go_sem]
  refine loop_auto (ι := Nat) m_rCut0 (fun i => [(5, .v (.int .i64 i))]) (fun _ => [.live 0 1 [[.v (.isl 3 (t.map ePr))]]]) (fun i => i ≤ cs.length ∧ ∀ j, j < i → rangeB t cs j = true) (fun i => cs.length - i) 0 ⟨Nat.zero_le _, fun j hj => by omega⟩ ?_ ?_
  · simp only [m_rCut0, ovr_cons, ovr_nil, anyM_t, anyM_f, anyM_nil, upd_zero, upd_succ]
    exact Weak.forget (by simp [Fgt])
  rintro i ⟨hi, h0⟩
  simp only [m_rCut0, ovr_cons, ovr_nil, anyM_t, anyM_f, anyM_nil, upd_zero, upd_succ]
  by_cases hlt : i < cs.length
  · have hlt2 : i < t.length := by omega
    have hne := hS.ne _ (List.getElem_mem hlt2)
    have hrb : rangeB t cs i = inB cs[i] 0 t[i].evs.length := by unfold rangeB cAt evsOf; simp [List.getD, hlt, hlt2]
    by_cases h1 : cs[i] < 0
    · simp (disch := omega) only [eI, ePr, go_sem]
      exact leave_pure (.inr rfl) rfl (.v _) hR hB ⟨by
        have : (List.range cs.length).all (rangeB t cs) = false := List.all_eq_false.2 ⟨i, List.mem_range.2 hlt, by rw [hrb]; unfold inB; simp; omega⟩
        rw [this, Bool.and_false]; rfl, rfl, rfl⟩
    by_cases h2 : cs[i] > t[i].evs.length
    · have h2d : decide (cs[i] > (t[i].evs.length : Int)) = true := decide_eq_true h2
      simp (disch := omega) only [eI, ePr, h2d, go_sem]
      exact leave_pure (.inr rfl) rfl (.v _) hR hB ⟨by
        have : (List.range cs.length).all (rangeB t cs) = false := List.all_eq_false.2 ⟨i, List.mem_range.2 hlt, by rw [hrb]; unfold inB; simp; omega⟩
        rw [this, Bool.and_false]; rfl, rfl, rfl⟩
    have h2d : decide (cs[i] > (t[i].evs.length : Int)) = false := decide_eq_false h2
    simp (disch := omega) only [eI, ePr, h2d, go_sem]
    refine ⟨i + 1, ⟨hlt, fun j hj => ?_⟩, by simp only; omega, ?_⟩
    · rcases Nat.lt_or_ge j i with hji | hji
      · exact h0 j hji
      · obtain rfl : j = i := by omega
        rw [hrb]; unfold inB; simp; omega
    · simp only [m_rCut0, ovr_cons, ovr_nil, anyM_t, anyM_f, anyM_nil, upd_zero, upd_succ]
      exact Weak.forget (by simp [Fgt])
  · simp (disch := omega) only [go_sem]
    exact leave_pure (.inr rfl) rfl (.v _) hR hB ⟨by
      have : (List.range cs.length).all (rangeB t cs) = true := List.all_eq_true.2 (fun j hj => h0 j (by have := List.mem_range.1 hj; omega))
      rw [this, decide_eq_true hlen]; rfl, rfl, rfl⟩

theorem rFind_spec (t : Tr) (hS : Small t) (hN : Nm t) (k m : Int) (b l : List Row) : ACalls Try.prog 25 [.agg [.v (eT t)], .v (.int .i64 k), .v (.int .i64 m)] b l (fun r b' l' => r = idA (findV t k m) ∧ b' = b ∧ l' = l) := by
  refine ACalls.of_ext ⟨_, Try.func25, by kernel_rfl, by kernel_rfl⟩ (fun F L w vs hr => ?_)
  obtain ⟨u, us, rfl, hs, hr2⟩ := repL_tr hN hr
  obtain ⟨v, us, rfl, h3, hr2⟩ := repL_cons hr2
  obtain ⟨v', us, rfl, h4, hr2⟩ := repL_cons hr2
  obtain rfl := repL_nil hr2
  cases h3.vI
  cases h4.vI
  refine (Find_any u t k m w hS hs).mono ?_
  rintro e w' ⟨rfl, he⟩
  exact ⟨he, _, _, rfl, idA_rep _ _ _ _, rfl, rfl, rfl⟩

theorem evAt_at {t : Tr} {i j : Nat} (hi : i < t.length) (hj : j < t[i].evs.length) : evAt t (i, j + 1) = t[i].evs[j] := by
  unfold evAt evsOf; simp [List.getD, hi, hj]
theorem findV_fst {t : Tr} {k m : Int} (h : 0 < t.length) : (findV t k m).1 < t.length := by
  unfold findV firstOf
  cases hf : (ids t).find? (keyB t k m) with
  | none => simpa using h
  | some y => simp; exact (mem_ids.1 (List.mem_of_find?_eq_some hf)).1
theorem cAt_at {cs : List Int} {p : Nat} (h : p < cs.length) : cAt cs p = cs[p] := by unfold cAt; simp [List.getD, h]

structure CutIn (t : Tr) (cs : List Int) : Prop where
  len : cs.length = t.length
  le : ∀ (k : Nat) (h : k < t.length) (h2 : k < cs.length), 0 ≤ cs[k] ∧ cs[k] ≤ t[k].evs.length

theorem rConsistent_spec (t : Tr) (hS : Small t) (hN : Nm t) (cs : List Int) (hC : CutIn t cs) (b l : List Row) : ACalls Try.prog 83 [.agg [.v (eT t)], .v (.isl 1 (cs.map eI))] b l (fun r b' l' => r = .v (.bool (!(ids t).any (badL t cs))) ∧ b' = b ∧ l' = l) := by
  refine calls_of a_rConsistent_ok rfl ?_
  intro B hB hR _
  have hnp := hS.np
  have hlen := hC.len
  simp only [a_rConsistent, eT, go_sem]
  refine loop_auto (ι := Nat) m_rConsistent0 (fun i => [(5, .v (.int .i64 i))]) (fun _ => [.live 0 1 [[.v (.isl 3 (t.map ePr))]]]) (fun i => i ≤ cs.length ∧ ∀ p, p < i → ∀ j : Nat, (j : Int) < cAt cs p → badL t cs (p, j + 1) = false) (fun i => cs.length - i) 0 ⟨Nat.zero_le _, fun j hj => by omega⟩ ?_ ?_
  · simp only [m_rConsistent0, ovr_cons, ovr_nil, anyM_t, anyM_f, anyM_nil, upd_zero, upd_succ]
    exact Weak.forget (by simp [Fgt])
  rintro i ⟨hi, h0⟩
  simp only [m_rConsistent0, ovr_cons, ovr_nil, anyM_t, anyM_f, anyM_nil, upd_zero, upd_succ]
  by_cases hlt : i < cs.length
  · have hlt2 : i < t.length := by omega
    have hne := hS.ne _ (List.getElem_mem hlt2)
    obtain ⟨hc0, hc1⟩ := hC.le i hlt2 hlt
    simp (disch := omega) only [go_sem]
    refine loop_auto (ι := Nat) m_rConsistent1 (fun j => [(6, .v (.int .i64 j))]) (fun _ => [.live 0 1 [[.v (.isl 3 (t.map ePr))]]]) (fun j => (j : Int) ≤ cs[i] ∧ ∀ q, q < j → badL t cs (i, q + 1) = false) (fun j => cs[i].toNat - j) 0 ⟨hc0, fun j hj => by omega⟩ ?_ ?_
    · simp only [m_rConsistent1, ovr_cons, ovr_nil, anyM_t, anyM_f, anyM_nil, upd_zero, upd_succ]
      exact Weak.forget (by simp [Fgt])
    rintro j ⟨hj, h1⟩
    simp only [m_rConsistent1, ovr_cons, ovr_nil, anyM_t, anyM_f, anyM_nil, upd_zero, upd_succ]
    by_cases hjc : (j : Int) < cs[i]
    · have hje : j < t[i].evs.length := by omega
      have hbad : badL t cs (i, j + 1) = (t[i].evs[j].kind == 3 && decide (((findV t 2 t[i].evs[j].msg).2 : Int) > cs[(findV t 2 t[i].evs[j].msg).1]'(by rw [hlen]; exact findV_fst (by omega)))) := by
        unfold badL
        rw [evAt_at hlt2 hje, cAt_at hlt, cAt_at (cs := cs) (p := (firstOf t (ids t) 2 t[i].evs[j].msg).1) (by rw [hlen]; exact findV_fst (k := 2) (m := t[i].evs[j].msg) (by omega))]
        have : decide (((j + 1 : Nat) : Int) > cs[i]) = false := by simp; omega
        simp only [this, Bool.not_false, Bool.true_and]
        rfl
      have hnext : badL t cs (i, j + 1) = false → ∀ q, q < j + 1 → badL t cs (i, q + 1) = false := fun hb q hq => by
        rcases Nat.lt_or_ge q j with h | h
        · exact h1 q h
        · obtain rfl : q = j := by omega
          exact hb
      cases hk : t[i].evs[j].kind == 3
      · simp (disch := omega) only [eI, ePr, eEv, hk, go_sem]
        refine ⟨j + 1, ⟨by omega, hnext (by rw [hbad, hk]; rfl)⟩, by simp only; omega, ?_⟩
        simp only [m_rConsistent1, ovr_cons, ovr_nil, anyM_t, anyM_f, anyM_nil, upd_zero, upd_succ]
        exact Weak.round (by simp [Fgt]) rfl (by simp (disch := omega) only [AVlt_v, AVlt_any, AVlt_sl, AVlt_ptr, AVlt_agg, AVlt_tup, AVlt_fn, RowsLt_nil, RowsLt_live, RowsLt_dead, List.mem_cons, List.not_mem_nil, List.forall_mem_cons, List.forall_mem_nil, or_false, false_or, forall_eq_or_imp, forall_eq, vs_lt, Nat.add_lt_add_iff_left, Nat.reduceLT, true_and, and_true, and_self, List.length_cons, List.length_nil, Nat.reduceAdd, Nat.zero_add, implies_true, false_imp_iff, lt_T, List.mem_map]) hR (by simp (disch := omega) only [AVlt_v, AVlt_any, AVlt_sl, AVlt_ptr, AVlt_agg, AVlt_tup, AVlt_fn, RowsLt_nil, RowsLt_live, RowsLt_dead, List.mem_cons, List.not_mem_nil, List.forall_mem_cons, List.forall_mem_nil, or_false, false_or, forall_eq_or_imp, forall_eq, vs_lt, Nat.add_lt_add_iff_left, Nat.reduceLT, true_and, and_true, and_self, List.length_cons, List.length_nil, Nat.reduceAdd, Nat.zero_add, implies_true, false_imp_iff, lt_T, List.mem_map])
      · simp (disch := omega) only [eI, ePr, eEv, hk, go_sem]
        refine ACalls_mono _ _ _ _ _ _ (rFind_spec t hS hN 2 _ _ _) ?_
        rintro r b' l' ⟨rfl, rfl, rfl⟩
        have hfl : (findV t 2 t[i].evs[j].msg).1 < cs.length := by rw [hlen]; exact findV_fst (by omega)
        simp only [idA]
        by_cases hg : ((findV t 2 t[i].evs[j].msg).2 : Int) > cs[(findV t 2 t[i].evs[j].msg).1]
        · have hgd := decide_eq_true hg
          simp (disch := omega) only [eI, hgd, go_sem]
          exact leave_pure (.inr rfl) rfl (.v _) hR hB ⟨by
            have : (ids t).any (badL t cs) = true := List.any_eq_true.2 ⟨(i, j + 1), mem_ids.2 ⟨hlt2, by simp, by simp; omega⟩, by rw [hbad, hk, hgd]; rfl⟩
            rw [this]; rfl, rfl, rfl⟩
        · have hgd := decide_eq_false hg
          simp (disch := omega) only [eI, hgd, go_sem]
          refine ⟨j + 1, ⟨by omega, hnext (by rw [hbad, hk, hgd]; rfl)⟩, by simp only; omega, ?_⟩
          simp only [m_rConsistent1, ovr_cons, ovr_nil, anyM_t, anyM_f, anyM_nil, upd_zero, upd_succ]
          exact Weak.round (by simp [Fgt]) rfl (by simp (disch := omega) only [AVlt_v, AVlt_any, AVlt_sl, AVlt_ptr, AVlt_agg, AVlt_tup, AVlt_fn, RowsLt_nil, RowsLt_live, RowsLt_dead, List.mem_cons, List.not_mem_nil, List.forall_mem_cons, List.forall_mem_nil, or_false, false_or, forall_eq_or_imp, forall_eq, vs_lt, Nat.add_lt_add_iff_left, Nat.reduceLT, true_and, and_true, and_self, List.length_cons, List.length_nil, Nat.reduceAdd, Nat.zero_add, implies_true, false_imp_iff, lt_T, List.mem_map]) hR (by simp (disch := omega) only [AVlt_v, AVlt_any, AVlt_sl, AVlt_ptr, AVlt_agg, AVlt_tup, AVlt_fn, RowsLt_nil, RowsLt_live, RowsLt_dead, List.mem_cons, List.not_mem_nil, List.forall_mem_cons, List.forall_mem_nil, or_false, false_or, forall_eq_or_imp, forall_eq, vs_lt, Nat.add_lt_add_iff_left, Nat.reduceLT, true_and, and_true, and_self, List.length_cons, List.length_nil, Nat.reduceAdd, Nat.zero_add, implies_true, false_imp_iff, lt_T, List.mem_map])
    · simp (disch := omega) only [eI, go_sem]
      refine ⟨i + 1, ⟨hlt, fun p hp q hq => ?_⟩, by simp only; omega, ?_⟩
      · rcases Nat.lt_or_ge p i with h | h
        · exact h0 p h q hq
        · obtain rfl : p = i := by omega
          rw [cAt_at hlt] at hq
          exact h1 q (by omega)
      · simp only [m_rConsistent0, ovr_cons, ovr_nil, anyM_t, anyM_f, anyM_nil, upd_zero, upd_succ]
        exact Weak.forget (by simp [Fgt])
  · simp (disch := omega) only [go_sem]
    exact leave_pure (.inr rfl) rfl (.v _) hR hB ⟨by
      have : (ids t).any (badL t cs) = false := by
        rw [List.any_eq_false]
        intro x hx
        obtain ⟨g1, g2, g3⟩ := mem_ids.1 hx
        by_cases hq : (x.2 : Int) > cAt cs x.1
        · unfold badL; rw [decide_eq_true hq]; simp
        · have := h0 x.1 (by omega) (x.2 - 1) (by omega)
          rw [show x.2 - 1 + 1 = x.2 by omega] at this
          simpa using this
      rw [this]; rfl, rfl, rfl⟩
end Go.Proofs.Ytfdekchpckdeiaa

/- The reference's Copy, as a run. No condition but on lengths. -/
namespace Go.Proofs.Ytfdekchpckdeiaa
set_option linter.unusedVariables false
set_option linter.unusedSimpArgs false
attribute [local go_sem ↓] run_skip run_region run_draw run_seq run_block run_exit run_ret run_cond atN_app seqC_normal seqC_exit seqC_ret seqQ_normal seqQ_exit seqQ_ret blkQ_normal blkQ_exit blkQ_ret runOps_nil runOps_cons runD_nil runD_cons grdO_true grdO_false grdD_true grdD_false ifC_true ifC_false opS_val opS_call opS_two opK_app dS_val dS_call dS_two dK_app
attribute [local go_sem] rechks_nil rechks_cons rechk gcase_true gcase_false ex_val ex_val0 gd_none gd_some nth_zero nth_succ upd_zero upd_succ put_some put_none ev_t ev_c evs_nil evs_cons evo_some evo_none hget_at hget_first hsetB_at hsetB_first hsetL_at hsetL_first ofOpt_some aop aload astore aslice aappend aiaddr aiaddrA afaddr alen alenS acopy amm acall apick binV binVB binVS isSh intOp strOp boolOp shOp eqC eqF and2 cellsOf setFrom fillA fillS rd rdI elems mk bounds AV.cell List.all_cons List.all_nil Bool.and_true Bool.true_and Bool.and_self List.length_cons List.length_nil List.length_append Nat.reduceAdd Nat.reduceSub Nat.reduceMul Nat.zero_add Nat.add_zero List.replicate_succ List.replicate_zero List.cons_append List.nil_append List.append_assoc List.append_nil List.getElem?_cons_zero List.getElem?_cons_succ List.getElem?_nil List.set_cons_zero List.set_cons_succ List.drop_zero List.drop_succ_cons List.take_zero List.take_succ_cons List.take_nil List.drop_nil List.map_cons List.map_nil Option.map_some if_true if_false Bool.false_eq_true and_self true_and and_true Nat.reduceLeDiff Nat.reduceLT Nat.le_refl Nat.reduceEqDiff ite_true ite_false beq_self_eq_true beq_true beq_false Bool.not_true Bool.not_false Bool.true_beq Bool.false_beq map_vs vs_len vs_get vs_take vs_drop vs_snoc1 vs_snoc2 vs_snoc3 vs_snoc5 vs_set1 vs_set2 vs_rep wrap_id le_T lt_T le_F lt_F leI_T ltI_T leI_F ltI_F geI gtI get_T decide_true decide_false room List.getElem?_map List.length_map List.length_take Int.toNat_natCast Nat.min_def Nat.min_self List.getElem_cons_zero List.getElem_cons_succ
def a_rCopy : AFunc := ⟨2, 108, [.cell 4 (some 1)],
  (.seq (.region [⟨(some 2), .box (.t 0), none⟩, ⟨(some 4), .alloc [(.v .zsl)], none⟩])
  (.seq (.region [⟨(some 5), .alloc [(.v .zsl)], none⟩])
  (.seq (.seq (.region [⟨(some 6), .mv (.c (.v (.int .i64 0))), none⟩])
  (.block 0 (.loop (.seq (.seq (.region [⟨(some 13), .mv (.t 6), none⟩, ⟨(some 14), .faddr 0 (.t 2), none⟩, ⟨(some 15), .load none (.t 14), none⟩, ⟨(some 16), .len (.t 15), none⟩, ⟨(some 17), .bin .lss (.t 13) (.t 16), none⟩])
  (.cond (.t 17) .skip
  (.exit 0)))
  (.seq (.block 1 (.seq (.region [⟨(some 20), .faddr 0 (.t 2), none⟩, ⟨(some 21), .load none (.t 20), none⟩, ⟨(some 22), .mv (.t 6), none⟩, ⟨(some 23), .iaddr 3 (.t 21) (.t 22), none⟩, ⟨(some 24), .faddr 0 (.t 23), none⟩, ⟨(some 25), .load none (.t 24), none⟩, ⟨(some 26), .build [(.v (.str ⟨#[]⟩)), (.v .zsl), (.v .zsl)] [(0, 1, (.t 25))], none⟩, ⟨(some 7), .alloc [(.v (.str ⟨#[]⟩)), (.v .zsl), (.v .zsl)], none⟩, ⟨none, .store 3 (.t 7) (.t 26), none⟩])
  (.seq (.seq (.region [⟨(some 8), .mv (.c (.v (.int .i64 0))), none⟩])
  (.block 2 (.loop (.seq (.seq (.region [⟨(some 27), .mv (.t 8), none⟩, ⟨(some 28), .faddr 0 (.t 2), none⟩, ⟨(some 29), .load none (.t 28), none⟩, ⟨(some 30), .mv (.t 6), none⟩, ⟨(some 31), .iaddr 3 (.t 29) (.t 30), none⟩, ⟨(some 32), .faddr 1 (.t 31), none⟩, ⟨(some 33), .load none (.t 32), none⟩, ⟨(some 34), .len (.t 33), none⟩, ⟨(some 35), .bin .lss (.t 27) (.t 34), none⟩])
  (.cond (.t 35) .skip
  (.exit 2)))
  (.seq (.block 3 (.draw [⟨0, ⟨(some 38), .faddr 1 (.t 7), none⟩, []⟩, ⟨1, ⟨(some 39), .load none (.t 38), none⟩, []⟩, ⟨2, ⟨(some 40), .faddr 0 (.t 2), none⟩, []⟩, ⟨3, ⟨(some 41), .load none (.t 40), none⟩, []⟩, ⟨4, ⟨(some 42), .mv (.t 6), none⟩, []⟩, ⟨5, ⟨(some 43), .iaddr 3 (.t 41) (.t 42), none⟩, []⟩, ⟨6, ⟨(some 44), .faddr 1 (.t 43), none⟩, []⟩, ⟨7, ⟨(some 45), .load none (.t 44), none⟩, []⟩, ⟨8, ⟨(some 46), .mv (.t 8), none⟩, []⟩, ⟨9, ⟨(some 47), .iaddr 2 (.t 45) (.t 46), none⟩, []⟩, ⟨10, ⟨(some 48), .load (some 2) (.t 47), none⟩, []⟩, ⟨11, ⟨(some 49), .bslice 2 [(.v (.str ⟨#[]⟩)), (.v (.int .i64 0))] 1 [(0, (.t 48))], none⟩, [⟨(some 38), .faddr 1 (.t 7), none⟩, ⟨(some 39), .load none (.t 38), none⟩]⟩, ⟨12, ⟨(some 50), .append 2 24 (.t 39) (.t 49), none⟩, []⟩, ⟨13, ⟨(some 51), .faddr 1 (.t 7), none⟩, []⟩, ⟨14, ⟨none, .store 1 (.t 51) (.t 50), none⟩, []⟩]))
  (.region [⟨(some 36), .mv (.t 8), none⟩, ⟨(some 37), .bin .add (.t 36) (.c (.v (.int .i64 1))), none⟩, ⟨(some 8), .mv (.t 37), none⟩]))))))
  (.seq (.seq (.region [⟨(some 9), .mv (.c (.v (.int .i64 0))), none⟩])
  (.block 4 (.loop (.seq (.seq (.region [⟨(some 52), .mv (.t 9), none⟩, ⟨(some 53), .mv (.t 1), none⟩, ⟨(some 54), .mv (.t 6), none⟩, ⟨(some 55), .iaddr 1 (.t 53) (.t 54), none⟩, ⟨(some 56), .load none (.t 55), none⟩, ⟨(some 57), .bin .lss (.t 52) (.t 56), none⟩])
  (.cond (.t 57) .skip
  (.exit 4)))
  (.seq (.block 5 (.seq (.region [⟨(some 60), .faddr 0 (.t 2), none⟩, ⟨(some 61), .load none (.t 60), none⟩, ⟨(some 62), .mv (.t 6), none⟩, ⟨(some 63), .iaddr 3 (.t 61) (.t 62), none⟩, ⟨(some 64), .faddr 2 (.t 63), none⟩, ⟨(some 65), .load none (.t 64), none⟩, ⟨(some 66), .mv (.t 9), none⟩, ⟨(some 67), .iaddr 5 (.t 65) (.t 66), none⟩, ⟨(some 68), .load (some 5) (.t 67), none⟩, ⟨(some 10), .alloc [(.v (.int .i64 0)), (.v (.int .i64 0)), (.v (.int .i64 0)), (.v (.int .i64 0)), (.v .zsl)], none⟩, ⟨none, .store 5 (.t 10) (.t 68), none⟩])
  (.seq (.region [⟨(some 69), .faddr 0 (.t 10), none⟩, ⟨(some 70), .load none (.t 69), none⟩, ⟨(some 71), .faddr 1 (.t 10), none⟩, ⟨(some 72), .load none (.t 71), none⟩, ⟨(some 73), .faddr 2 (.t 10), none⟩, ⟨(some 74), .load none (.t 73), none⟩, ⟨(some 75), .faddr 3 (.t 10), none⟩, ⟨(some 76), .load none (.t 75), none⟩, ⟨(some 77), .build [(.v (.int .i64 0)), (.v (.int .i64 0)), (.v (.int .i64 0)), (.v (.int .i64 0)), (.v .zsl)] [(0, 1, (.t 70)), (1, 1, (.t 72)), (2, 1, (.t 74)), (3, 1, (.t 76))], none⟩, ⟨(some 11), .alloc [(.v (.int .i64 0)), (.v (.int .i64 0)), (.v (.int .i64 0)), (.v (.int .i64 0)), (.v .zsl)], none⟩, ⟨none, .store 5 (.t 11) (.t 77), none⟩])
  (.seq (.seq (.region [⟨(some 12), .mv (.c (.v (.int .i64 0))), none⟩])
  (.block 6 (.loop (.seq (.seq (.region [⟨(some 78), .mv (.t 12), none⟩, ⟨(some 79), .faddr 4 (.t 10), none⟩, ⟨(some 80), .load none (.t 79), none⟩, ⟨(some 81), .len (.t 80), none⟩, ⟨(some 82), .bin .lss (.t 78) (.t 81), none⟩])
  (.cond (.t 82) .skip
  (.exit 6)))
  (.seq (.block 7 (.draw [⟨0, ⟨(some 85), .faddr 4 (.t 11), none⟩, []⟩, ⟨1, ⟨(some 86), .load none (.t 85), none⟩, []⟩, ⟨2, ⟨(some 87), .faddr 4 (.t 10), none⟩, []⟩, ⟨3, ⟨(some 88), .load none (.t 87), none⟩, []⟩, ⟨4, ⟨(some 89), .mv (.t 12), none⟩, []⟩, ⟨5, ⟨(some 90), .iaddr 2 (.t 88) (.t 89), none⟩, []⟩, ⟨6, ⟨(some 91), .load (some 2) (.t 90), none⟩, []⟩, ⟨7, ⟨(some 92), .bslice 2 [(.v (.int .i64 0)), (.v (.int .i64 0))] 1 [(0, (.t 91))], none⟩, [⟨(some 85), .faddr 4 (.t 11), none⟩, ⟨(some 86), .load none (.t 85), none⟩]⟩, ⟨8, ⟨(some 93), .append 2 16 (.t 86) (.t 92), none⟩, []⟩, ⟨9, ⟨(some 94), .faddr 4 (.t 11), none⟩, []⟩, ⟨10, ⟨none, .store 1 (.t 94) (.t 93), none⟩, []⟩]))
  (.region [⟨(some 83), .mv (.t 12), none⟩, ⟨(some 84), .bin .add (.t 83) (.c (.v (.int .i64 1))), none⟩, ⟨(some 12), .mv (.t 84), none⟩]))))))
  (.region [⟨(some 95), .faddr 2 (.t 7), none⟩, ⟨(some 96), .load none (.t 95), none⟩, ⟨(some 97), .load (some 5) (.t 11), none⟩, ⟨(some 98), .bslice 5 [(.v (.int .i64 0)), (.v (.int .i64 0)), (.v (.int .i64 0)), (.v (.int .i64 0)), (.v .zsl)] 1 [(0, (.t 97))], none⟩, ⟨(some 99), .append 5 56 (.t 96) (.t 98), none⟩, ⟨(some 100), .faddr 2 (.t 7), none⟩, ⟨none, .store 1 (.t 100) (.t 99), none⟩])))))
  (.region [⟨(some 58), .mv (.t 9), none⟩, ⟨(some 59), .bin .add (.t 58) (.c (.v (.int .i64 1))), none⟩, ⟨(some 9), .mv (.t 59), none⟩]))))))
  (.region [⟨(some 101), .faddr 0 (.t 5), none⟩, ⟨(some 102), .load none (.t 101), none⟩, ⟨(some 103), .load (some 3) (.t 7), none⟩, ⟨(some 104), .bslice 3 [(.v (.str ⟨#[]⟩)), (.v .zsl), (.v .zsl)] 1 [(0, (.t 103))], none⟩, ⟨(some 105), .append 3 64 (.t 102) (.t 104), none⟩, ⟨(some 106), .faddr 0 (.t 5), none⟩, ⟨none, .store 1 (.t 106) (.t 105), none⟩])))))
  (.region [⟨(some 18), .mv (.t 6), none⟩, ⟨(some 19), .bin .add (.t 18) (.c (.v (.int .i64 1))), none⟩, ⟨(some 6), .mv (.t 19), none⟩]))))))
  (.seq (.region [⟨(some 107), .load (some 1) (.t 5), none⟩, ⟨none, .store 1 (.t 4) (.t 107), none⟩])
  .ret))))⟩
theorem a_rCopy_ok : cFunc Try.prog 23 = some a_rCopy := by kernel_rfl
def m_rCopy0 : List Bool := [false, false, false, false, false, false, true, true, true, true, true, true, true, true, true, true, true, true, true, true, true, true, true, true, true, true, true, true, true, true, true, true, true, true, true, true, true, true, true, true, true, true, true, true, true, true, true, true, true, true, true, true, true, true, true, true, true, true, true, true, true, true, true, true, true, true, true, true, true, true, true, true, true, true, true, true, true, true, true, true, true, true, true, true, true, true, true, true, true, true, true, true, true, true, true, true, true, true, true, true, true, true, true, true, true, true, true, false]
def m_rCopy1 : List Bool := [false, false, false, false, false, false, false, false, true, false, false, false, false, false, false, false, false, false, false, false, false, false, false, false, false, false, false, true, true, true, true, true, true, true, true, true, true, true, true, true, true, true, true, true, true, true, true, true, true, true, true, true, false, false, false, false, false, false, false, false, false, false, false, false, false, false, false, false, false, false, false, false, false, false, false, false, false, false, false, false, false, false, false, false, false, false, false, false, false, false, false, false, false, false, false, false, false, false, false, false, false, false, false, false, false, false, false, false]
def m_rCopy2 : List Bool := [false, false, false, false, false, false, false, false, false, true, true, true, true, false, false, false, false, false, false, false, false, false, false, false, false, false, false, false, false, false, false, false, false, false, false, false, false, false, false, false, false, false, false, false, false, false, false, false, false, false, false, false, true, true, true, true, true, true, true, true, true, true, true, true, true, true, true, true, true, true, true, true, true, true, true, true, true, true, true, true, true, true, true, true, true, true, true, true, true, true, true, true, true, true, true, true, true, true, true, true, true, false, false, false, false, false, false, false]
def m_rCopy3 : List Bool := [false, false, false, false, false, false, false, false, false, false, false, false, true, false, false, false, false, false, false, false, false, false, false, false, false, false, false, false, false, false, false, false, false, false, false, false, false, false, false, false, false, false, false, false, false, false, false, false, false, false, false, false, false, false, false, false, false, false, false, false, false, false, false, false, false, false, false, false, false, false, false, false, false, false, false, false, false, false, true, true, true, true, true, true, true, true, true, true, true, true, true, true, true, true, true, false, false, false, false, false, false, false, false, false, false, false, false, false]


theorem Weak.thenFrz {e e' : List AV} {b l l1 : List Row} {i ver sz : Nat} {rows : List (List IV)} (hf : Fgt e e') (hi : l[i]? = some (.live ver sz (vs rows))) (he0 : e'.map (frz (b.length + i) ver sz rows) = e')
    (hl : (l.set i (.dead ver)).map (rowMap (frz0 (b.length + i) ver sz rows)) = l1) {l2 : List Row} (hw : Weak e' b l1 e' b l2) : Weak e b l e' b l2 := by
  have hz := Weak.freezeAll (e := e') (b := b) hi
  rw [he0, hl] at hz
  exact ((Weak.forget hf).trans hz).trans hw

set_option maxHeartbeats 2000000 in
theorem rCopy_spec (t : Tr) (c : List Int) (hC : CutOk t c) (b l : List Row) : ACalls Try.prog 23 [.agg [.v (eT t)], .v (.isl 1 (c.map eI))] b l (fun r b' l' => r = .agg [.v (eT (firstL t c))] ∧ b' = b ∧ l' = l) := by
  refine calls_of a_rCopy_ok rfl ?_
  intro B hB hR _
  have hnp := hC.np
  have hlen := hC.len
  have hfl : (firstL t c).length = t.length := by simp [firstL]; omega
  simp only [a_rCopy, eT, go_sem]
  refine loop_auto (ι := Nat × Nat) m_rCopy0 (fun i => [(6, .v (.int .i64 i.1))]) (fun i => [.live 0 1 [[.v (.isl 3 (t.map ePr))]], .live 0 1 [[.v .zsl]], .live 0 1 [[.sl (B.length + 3) i.2 0 i.1]], .live i.2 3 (vs (((firstL t c).take i.1).map ePr))])
    (fun i => i.1 ≤ t.length) (fun i => t.length - i.1) (0, 0) (Nat.zero_le _) ?_ ?_
  · refine Weak.trans (Weak.nilcell (i := 2) (k := 0) (j := 0) (sz := 3) rfl rfl rfl) ?_
    simp only [m_rCopy0, ovr_cons, ovr_nil, anyM_t, anyM_f, anyM_nil, upd_zero, upd_succ, List.length_map, go_sem]
    exact Weak.forget (by simp [Fgt])
  rintro ⟨k, v⟩ hk
  dsimp only at hk ⊢
  simp only [m_rCopy0, ovr_cons, ovr_nil, anyM_t, anyM_f, anyM_nil, upd_zero, upd_succ]
  by_cases hlt : k < t.length
  · have hne := hC.ne t[k] (List.getElem_mem hlt)
    have hnv := hC.nv t[k] (List.getElem_mem hlt)
    have hck : k < c.length := by omega
    obtain ⟨hc0, hc1⟩ := hC.le k hlt hck
    simp (disch := omega) only [ePr, go_sem]
    refine loop_auto (ι := Nat × Nat) m_rCopy1 (fun i => [(8, .v (.int .i64 i.1))]) (fun i => [.live 0 1 [[.v (.isl 3 (t.map ePr))]], .live 0 1 [[.v .zsl]], .live 0 1 [[.sl (B.length + 3) v 0 k]], .live v 3 (vs (((firstL t c).take k).map ePr)),
        .live 0 3 [[.v (.str t[k].name), .sl (B.length + 5) i.2 0 i.1, .v .zsl]], .live i.2 2 (vs ((t[k].vars.take i.1).map eVr))])
      (fun i => i.1 ≤ t[k].vars.length) (fun i => t[k].vars.length - i.1) (0, 0) (Nat.zero_le _) ?_ ?_
    · refine Weak.trans (Weak.nilcell (i := 4) (k := 0) (j := 1) (sz := 2) rfl rfl rfl) ?_
      simp only [m_rCopy1, ovr_cons, ovr_nil, anyM_t, anyM_f, anyM_nil, upd_zero, upd_succ, List.length_map, go_sem]
      exact Weak.forget (by simp [Fgt])
    rintro ⟨j, u⟩ hj
    dsimp only at hj ⊢
    simp only [m_rCopy1, ovr_cons, ovr_nil, anyM_t, anyM_f, anyM_nil, upd_zero, upd_succ]
    by_cases hjv : j < t[k].vars.length
    · have hel : min j t[k].vars.length = j := by omega
      simp (disch := omega) only [hel, ePr, eVr, go_sem]
      refine ⟨(j + 1, u + 1), hjv, by simp only; omega, ?_⟩
      have hr2 : List.take j (List.map eVr (List.take j t[k].vars)) = (t[k].vars.take j).map eVr := List.take_of_length_le (by simp; omega)
      have hr3 := mapw_snoc (f := eVr) hjv
      simp only [eVr] at hr2 hr3
      rw [hr2, hr3]
      simp only [m_rCopy1, ovr_cons, ovr_nil, anyM_t, anyM_f, anyM_nil, upd_zero, upd_succ, eVr]
      exact Weak.round (by simp [Fgt]) rfl (by simp (disch := omega) only [AVlt_v, AVlt_any, AVlt_sl, AVlt_ptr, AVlt_agg, AVlt_tup, AVlt_fn, RowsLt_nil, RowsLt_live, RowsLt_dead, List.mem_cons, List.not_mem_nil, List.forall_mem_cons, List.forall_mem_nil, or_false, false_or, forall_eq_or_imp, forall_eq, vs_lt, Nat.add_lt_add_iff_left, Nat.reduceLT, true_and, and_true, and_self, List.length_cons, List.length_nil, Nat.reduceAdd, Nat.zero_add, implies_true, false_imp_iff, lt_T, List.mem_map]) hR (by simp (disch := omega) only [AVlt_v, AVlt_any, AVlt_sl, AVlt_ptr, AVlt_agg, AVlt_tup, AVlt_fn, RowsLt_nil, RowsLt_live, RowsLt_dead, List.mem_cons, List.not_mem_nil, List.forall_mem_cons, List.forall_mem_nil, or_false, false_or, forall_eq_or_imp, forall_eq, vs_lt, Nat.add_lt_add_iff_left, Nat.reduceLT, true_and, and_true, and_self, List.length_cons, List.length_nil, Nat.reduceAdd, Nat.zero_add, implies_true, false_imp_iff, lt_T, List.mem_map])
    simp (disch := omega) only [ePr, go_sem]
    obtain rfl : j = t[k].vars.length := by omega
    rw [List.take_of_length_le (Nat.le_refl _)]
    obtain ⟨ys, hys⟩ : ∃ ys, t[k].evs.take c[k].toNat = ys := ⟨_, rfl⟩
    have hyl : c[k].toNat = ys.length := by rw [← hys]; simp; omega
    have hyc : c[k] = (ys.length : Int) := by omega
    have hy1 : ys.length ≤ 1000000 := by omega
    have hya : ∀ e ∈ ys, e.asg.length ≤ 1000000 := fun e he => hC.na t[k] (List.getElem_mem hlt) e (List.mem_of_mem_take (hys ▸ he))
    refine loop_auto (ι := Nat × Nat) m_rCopy2 (fun i => [(9, .v (.int .i64 i.1))]) (fun i => [.live 0 1 [[.v (.isl 3 (t.map ePr))]], .live 0 1 [[.v .zsl]], .live 0 1 [[.sl (B.length + 3) v 0 k]], .live v 3 (vs (((firstL t c).take k).map ePr)),
        .live 0 3 [[.v (.str t[k].name), .v (.isl 2 (t[k].vars.map eVr)), .sl (B.length + 6) i.2 0 i.1]], .dead u, .live i.2 5 (vs ((ys.take i.1).map eEv))])
      (fun i => i.1 ≤ ys.length) (fun i => ys.length - i.1) (0, 0) (Nat.zero_le _) ?_ ?_
    · simp only [m_rCopy2, ovr_cons, ovr_nil, anyM_t, anyM_f, anyM_nil, upd_zero, upd_succ]
      refine Weak.thenFrz (i := 5) (ver := u) (sz := 2) (rows := t[k].vars.map eVr) (by simp [Fgt]) rfl (by simp [frz, frz0]) rfl ?_
      · have hh : frz0 (B.length + 5) u 2 (t[k].vars.map eVr) (.sl (B.length + 5) u 0 t[k].vars.length) = .v (.isl 2 (t[k].vars.map eVr)) := frz_here (by simp)
        have hn3 : frz0 (B.length + 5) u 2 (t[k].vars.map eVr) (.sl (B.length + 3) v 0 k) = .sl (B.length + 3) v 0 k := by simp [frz0]
        simp only [List.set_cons_succ, List.set_cons_zero, List.map_cons, List.map_nil, rowMap, vs_frz, hh, hn3]
        simp only [frz0]
        refine Weak.trans (Weak.nilcell (i := 4) (k := 0) (j := 2) (sz := 5) rfl rfl rfl) ?_
        simp only [go_sem]
        exact Weak.refl _ _ _
    rintro ⟨j, u2⟩ hj
    dsimp only at hj ⊢
    simp only [m_rCopy2, ovr_cons, ovr_nil, anyM_t, anyM_f, anyM_nil, upd_zero, upd_succ]
    by_cases hjt : j < ys.length
    · have hja := hya ys[j] (List.getElem_mem hjt)
      have hel : min j ys.length = j := by omega
      have hje : j < t[k].evs.length := by omega
      have hyj : t[k].evs[j] = ys[j] := by subst hys; simp
      simp (disch := omega) only [hel, hyc, eI, ePr, hyj, eEv, go_sem]
      refine loop_auto (ι := Nat × Nat) m_rCopy3 (fun i => [(12, .v (.int .i64 i.1))]) (fun i => [.live 0 1 [[.v (.isl 3 (t.map ePr))]], .live 0 1 [[.v .zsl]], .live 0 1 [[.sl (B.length + 3) v 0 k]], .live v 3 (vs (((firstL t c).take k).map ePr)),
          .live 0 3 [[.v (.str t[k].name), .v (.isl 2 (t[k].vars.map eVr)), .sl (B.length + 6) u2 0 j]], .dead u, .live u2 5 (vs ((ys.take j).map eEv)),
          .live 0 5 [[.v (.int .i64 ys[j].kind), .v (.int .i64 ys[j].peer), .v (.int .i64 ys[j].msg), .v (.int .i64 ys[j].time), .v (.isl 2 (ys[j].asg.map eAsg))]],
          .live 0 5 [[.v (.int .i64 ys[j].kind), .v (.int .i64 ys[j].peer), .v (.int .i64 ys[j].msg), .v (.int .i64 ys[j].time), .sl (B.length + 9) i.2 0 i.1]], .live i.2 2 (vs ((ys[j].asg.take i.1).map eAsg))])
        (fun i => i.1 ≤ ys[j].asg.length) (fun i => ys[j].asg.length - i.1) (0, 0) (Nat.zero_le _) ?_ ?_
      · refine Weak.trans (Weak.nilcell (i := 8) (k := 0) (j := 4) (sz := 2) rfl rfl rfl) ?_
        simp only [m_rCopy3, ovr_cons, ovr_nil, anyM_t, anyM_f, anyM_nil, upd_zero, upd_succ, eEv, List.length_map, go_sem]
        exact Weak.forget (by simp [Fgt])
      rintro ⟨n, u3⟩ hn
      dsimp only at hn ⊢
      simp only [m_rCopy3, ovr_cons, ovr_nil, anyM_t, anyM_f, anyM_nil, upd_zero, upd_succ]
      by_cases hnn : n < ys[j].asg.length
      · have hel2 : min n ys[j].asg.length = n := by omega
        simp (disch := omega) only [hel2, eAsg, go_sem]
        refine ⟨(n + 1, u3 + 1), hnn, by simp only; omega, ?_⟩
        have hr2 : List.take n (List.map eAsg (List.take n ys[j].asg)) = (ys[j].asg.take n).map eAsg := List.take_of_length_le (by simp; omega)
        have hr3 := mapw_snoc (f := eAsg) hnn
        simp only [eAsg] at hr2 hr3
        rw [hr2, hr3]
        simp only [m_rCopy3, ovr_cons, ovr_nil, anyM_t, anyM_f, anyM_nil, upd_zero, upd_succ, eAsg]
        exact Weak.round (by simp [Fgt]) rfl (by simp (disch := omega) only [AVlt_v, AVlt_any, AVlt_sl, AVlt_ptr, AVlt_agg, AVlt_tup, AVlt_fn, RowsLt_nil, RowsLt_live, RowsLt_dead, List.mem_cons, List.not_mem_nil, List.forall_mem_cons, List.forall_mem_nil, or_false, false_or, forall_eq_or_imp, forall_eq, vs_lt, Nat.add_lt_add_iff_left, Nat.reduceLT, true_and, and_true, and_self, List.length_cons, List.length_nil, Nat.reduceAdd, Nat.zero_add, implies_true, false_imp_iff, lt_T, List.mem_map]) hR (by simp (disch := omega) only [AVlt_v, AVlt_any, AVlt_sl, AVlt_ptr, AVlt_agg, AVlt_tup, AVlt_fn, RowsLt_nil, RowsLt_live, RowsLt_dead, List.mem_cons, List.not_mem_nil, List.forall_mem_cons, List.forall_mem_nil, or_false, false_or, forall_eq_or_imp, forall_eq, vs_lt, Nat.add_lt_add_iff_left, Nat.reduceLT, true_and, and_true, and_self, List.length_cons, List.length_nil, Nat.reduceAdd, Nat.zero_add, implies_true, false_imp_iff, lt_T, List.mem_map])
      obtain rfl : n = ys[j].asg.length := by omega
      simp (disch := omega) only [hel, go_sem]
      rw [List.take_of_length_le (Nat.le_refl _)]
      refine ⟨(j + 1, u2 + 1), hjt, by simp only; omega, ?_⟩
      have hr2 : List.take j (List.map eEv (List.take j ys)) = (ys.take j).map eEv := List.take_of_length_le (by simp; omega)
      have hr3 := mapw_snoc (f := eEv) hjt
      simp only [eEv] at hr3
      rw [hr2]
      simp only [m_rCopy2, ovr_cons, ovr_nil, anyM_t, anyM_f, anyM_nil, upd_zero, upd_succ]
      refine Weak.roundFrz (i := 9) (ver := u3) (sz := 2) (rows := ys[j].asg.map eAsg) (by simp [Fgt]) rfl (by simp [frz, frz0]) ?_ (by simp (disch := omega) only [AVlt_v, AVlt_any, AVlt_sl, AVlt_ptr, AVlt_agg, AVlt_tup, AVlt_fn, RowsLt_nil, RowsLt_live, RowsLt_dead, List.mem_cons, List.not_mem_nil, List.forall_mem_cons, List.forall_mem_nil, or_false, false_or, forall_eq_or_imp, forall_eq, vs_lt, Nat.add_lt_add_iff_left, Nat.reduceLT, true_and, and_true, and_self, List.length_cons, List.length_nil, Nat.reduceAdd, Nat.zero_add, implies_true, false_imp_iff, lt_T, List.mem_map]) hR (by simp (disch := omega) only [AVlt_v, AVlt_any, AVlt_sl, AVlt_ptr, AVlt_agg, AVlt_tup, AVlt_fn, RowsLt_nil, RowsLt_live, RowsLt_dead, List.mem_cons, List.not_mem_nil, List.forall_mem_cons, List.forall_mem_nil, or_false, false_or, forall_eq_or_imp, forall_eq, vs_lt, Nat.add_lt_add_iff_left, Nat.reduceLT, true_and, and_true, and_self, List.length_cons, List.length_nil, Nat.reduceAdd, Nat.zero_add, implies_true, false_imp_iff, lt_T, List.mem_map])
      have hh : frz0 (B.length + 9) u3 2 (ys[j].asg.map eAsg) (.sl (B.length + 9) u3 0 ys[j].asg.length) = .v (.isl 2 (ys[j].asg.map eAsg)) := frz_here (by simp)
      have hn3 : frz0 (B.length + 9) u3 2 (ys[j].asg.map eAsg) (.sl (B.length + 3) v 0 k) = .sl (B.length + 3) v 0 k := by simp [frz0]
      have hn4 : frz0 (B.length + 9) u3 2 (ys[j].asg.map eAsg) (.sl (B.length + 6) (u2 + 1) 0 (j + 1)) = .sl (B.length + 6) (u2 + 1) 0 (j + 1) := by simp [frz0]
      simp only [List.set_cons_succ, List.set_cons_zero, List.map_cons, List.map_nil, rowMap, List.map_append, vs_frz, List.length_cons, List.length_nil, Nat.reduceAdd, List.take_succ_cons, List.take_zero, hh, hn3, hn4]
      simp only [frz0, eEv, vs_snoc5, hr3]
    · have hjc : ¬ ((j : Int) < c[k]) := by omega
      simp (disch := omega) only [eI, hyc, go_sem]
      obtain rfl : j = ys.length := by omega
      have hF : (firstL t c)[k] = ⟨t[k].name, t[k].vars, ys⟩ := by simp [firstL, cutP, hys]
      have hr2 : List.take k (List.map ePr (List.take k (firstL t c))) = ((firstL t c).take k).map ePr := List.take_of_length_le (by simp; omega)
      have hr3 := mapw_snoc (f := ePr) (l := firstL t c) (k := k) (by omega)
      rw [hF] at hr3
      simp only [ePr] at hr3
      refine ⟨(k + 1, v + 1), hlt, by simp only; omega, ?_⟩
      rw [hr2, List.take_of_length_le (Nat.le_refl ys.length)]
      simp only [m_rCopy0, ovr_cons, ovr_nil, anyM_t, anyM_f, anyM_nil, upd_zero, upd_succ]
      refine Weak.roundFrz (i := 6) (ver := u2) (sz := 5) (rows := ys.map eEv) (by simp [Fgt]) rfl (by simp [frz, frz0]) ?_ (by simp (disch := omega) only [AVlt_v, AVlt_any, AVlt_sl, AVlt_ptr, AVlt_agg, AVlt_tup, AVlt_fn, RowsLt_nil, RowsLt_live, RowsLt_dead, List.mem_cons, List.not_mem_nil, List.forall_mem_cons, List.forall_mem_nil, or_false, false_or, forall_eq_or_imp, forall_eq, vs_lt, Nat.add_lt_add_iff_left, Nat.reduceLT, true_and, and_true, and_self, List.length_cons, List.length_nil, Nat.reduceAdd, Nat.zero_add, implies_true, false_imp_iff, lt_T, List.mem_map]) hR (by simp (disch := omega) only [AVlt_v, AVlt_any, AVlt_sl, AVlt_ptr, AVlt_agg, AVlt_tup, AVlt_fn, RowsLt_nil, RowsLt_live, RowsLt_dead, List.mem_cons, List.not_mem_nil, List.forall_mem_cons, List.forall_mem_nil, or_false, false_or, forall_eq_or_imp, forall_eq, vs_lt, Nat.add_lt_add_iff_left, Nat.reduceLT, true_and, and_true, and_self, List.length_cons, List.length_nil, Nat.reduceAdd, Nat.zero_add, implies_true, false_imp_iff, lt_T, List.mem_map])
      have hh : frz0 (B.length + 6) u2 5 (ys.map eEv) (.sl (B.length + 6) u2 0 ys.length) = .v (.isl 5 (ys.map eEv)) := frz_here (by simp)
      have hn3 : frz0 (B.length + 6) u2 5 (ys.map eEv) (.sl (B.length + 3) (v + 1) 0 (k + 1)) = .sl (B.length + 3) (v + 1) 0 (k + 1) := by simp [frz0]
      simp only [List.set_cons_succ, List.set_cons_zero, List.map_cons, List.map_nil, rowMap, List.map_append, vs_frz, List.length_cons, List.length_nil, Nat.reduceAdd, List.take_succ_cons, List.take_zero, hh, hn3]
      simp only [frz0, vs_snoc3, hr3]
  · simp (disch := omega) only [go_sem]
    obtain rfl : k = t.length := by omega
    refine leave_frzA (i := 3) (n := t.length) (.inr rfl) (by simp (disch := omega) only [resVs, resV, go_sem]) rfl (by simp [hfl]) hR hB ⟨?_, rfl, rfl⟩
    rw [List.take_of_length_le (by omega)]
end Go.Proofs.Ytfdekchpckdeiaa

/- The reference's Prefix and Same, and the law TracePrefixes, as runs. No condition but on lengths. -/
namespace Go.Proofs.Ytfdekchpckdeiaa
set_option linter.unusedVariables false
set_option linter.unusedSimpArgs false
attribute [local go_sem ↓] run_skip run_region run_draw run_seq run_block run_exit run_ret run_cond atN_app seqC_normal seqC_exit seqC_ret seqQ_normal seqQ_exit seqQ_ret blkQ_normal blkQ_exit blkQ_ret runOps_nil runOps_cons runD_nil runD_cons grdO_true grdO_false grdD_true grdD_false ifC_true ifC_false opS_val opS_call opS_two opK_app dS_val dS_call dS_two dK_app
attribute [local go_sem] rechks_nil rechks_cons rechk gcase_true gcase_false ex_val ex_val0 gd_none gd_some nth_zero nth_succ upd_zero upd_succ put_some put_none ev_t ev_c evs_nil evs_cons evo_some evo_none hget_at hget_first hsetB_at hsetB_first hsetL_at hsetL_first ofOpt_some aop aload astore aslice aappend aiaddr aiaddrA afaddr alen alenS acopy amm acall apick binV binVB binVS isSh intOp strOp boolOp shOp eqC eqF and2 cellsOf setFrom fillA fillS rd rdI elems mk bounds AV.cell List.all_cons List.all_nil Bool.and_true Bool.true_and Bool.and_self List.length_cons List.length_nil List.length_append Nat.reduceAdd Nat.reduceSub Nat.reduceMul Nat.zero_add Nat.add_zero List.replicate_succ List.replicate_zero List.cons_append List.nil_append List.append_assoc List.append_nil List.getElem?_cons_zero List.getElem?_cons_succ List.getElem?_nil List.set_cons_zero List.set_cons_succ List.drop_zero List.drop_succ_cons List.take_zero List.take_succ_cons List.take_nil List.drop_nil List.map_cons List.map_nil Option.map_some if_true if_false Bool.false_eq_true and_self true_and and_true Nat.reduceLeDiff Nat.reduceLT Nat.le_refl Nat.reduceEqDiff ite_true ite_false beq_self_eq_true beq_true beq_false Bool.not_true Bool.not_false Bool.true_beq Bool.false_beq map_vs vs_len vs_get vs_take vs_drop vs_snoc1 vs_snoc2 vs_snoc3 vs_snoc5 vs_set1 vs_set2 vs_rep wrap_id le_T lt_T le_F lt_F leI_T ltI_T leI_F ltI_F geI gtI get_T decide_true decide_false room List.getElem?_map List.length_map List.length_take Int.toNat_natCast Nat.min_def Nat.min_self List.getElem_cons_zero List.getElem_cons_succ
def a_rPrefix : AFunc := ⟨2, 31, [.cell 4 (some 1), .tmp 5],
  (.seq (.region [⟨(some 2), .box (.t 0), none⟩, ⟨(some 4), .alloc [(.v .zsl)], none⟩, ⟨(some 5), .mv (.c (.v (.int .i64 0))), none⟩])
  (.seq (.seq (.region [⟨(some 6), .load (some 1) (.t 2), none⟩, ⟨(some 7), .call (.c (.fn 34 [])) [(.t 6)], none⟩, ⟨(some 8), .not (.t 7), none⟩, ⟨(some 9), .mv (.t 8), none⟩, ⟨(some 10), .mv (.t 1), some (9, false)⟩, ⟨(some 11), .len (.t 10), some (9, false)⟩, ⟨(some 12), .faddr 0 (.t 2), some (9, false)⟩, ⟨(some 13), .load none (.t 12), some (9, false)⟩, ⟨(some 14), .len (.t 13), some (9, false)⟩, ⟨(some 15), .bin .neq (.t 11) (.t 14), some (9, false)⟩, ⟨(some 16), .pick (.t 9) (.c (.v (.bool true))) (.t 15), none⟩])
  (.cond (.t 16) (.seq (.region [⟨(some 17), .build [(.v .zsl)] [], none⟩, ⟨none, .store 1 (.t 4) (.t 17), none⟩, ⟨(some 5), .mv (.c (.v (.int .i64 1))), none⟩])
  .ret)
  .skip))
  (.seq (.seq (.region [⟨(some 18), .load (some 1) (.t 2), none⟩, ⟨(some 19), .mv (.t 1), none⟩, ⟨(some 20), .call (.c (.fn 82 [])) [(.t 18), (.t 19)], none⟩, ⟨(some 21), .not (.t 20), none⟩])
  (.cond (.t 21) (.seq (.region [⟨(some 22), .build [(.v .zsl)] [], none⟩, ⟨none, .store 1 (.t 4) (.t 22), none⟩, ⟨(some 5), .mv (.c (.v (.int .i64 2))), none⟩])
  .ret)
  .skip))
  (.seq (.seq (.region [⟨(some 23), .load (some 1) (.t 2), none⟩, ⟨(some 24), .mv (.t 1), none⟩, ⟨(some 25), .call (.c (.fn 83 [])) [(.t 23), (.t 24)], none⟩, ⟨(some 26), .not (.t 25), none⟩])
  (.cond (.t 26) (.seq (.region [⟨(some 27), .build [(.v .zsl)] [], none⟩, ⟨none, .store 1 (.t 4) (.t 27), none⟩, ⟨(some 5), .mv (.c (.v (.int .i64 18))), none⟩])
  .ret)
  .skip))
  (.seq (.region [⟨(some 28), .load (some 1) (.t 2), none⟩, ⟨(some 29), .mv (.t 1), none⟩, ⟨(some 30), .call (.c (.fn 23 [])) [(.t 28), (.t 29)], none⟩, ⟨none, .store 1 (.t 4) (.t 30), none⟩, ⟨(some 5), .mv (.c (.v (.int .i64 0))), none⟩])
  .ret)))))⟩
theorem a_rPrefix_ok : cFunc Try.prog 21 = some a_rPrefix := by kernel_rfl
def a_rSame : AFunc := ⟨2, 94, [.tmp 4],
  (.seq (.region [⟨(some 2), .box (.t 0), none⟩, ⟨(some 3), .box (.t 1), none⟩, ⟨(some 4), .mv (.c (.v (.bool false))), none⟩])
  (.seq (.seq (.region [⟨(some 10), .faddr 0 (.t 2), none⟩, ⟨(some 11), .load none (.t 10), none⟩, ⟨(some 12), .len (.t 11), none⟩, ⟨(some 13), .faddr 0 (.t 3), none⟩, ⟨(some 14), .load none (.t 13), none⟩, ⟨(some 15), .len (.t 14), none⟩, ⟨(some 16), .bin .neq (.t 12) (.t 15), none⟩])
  (.cond (.t 16) (.seq (.region [⟨(some 4), .mv (.c (.v (.bool false))), none⟩])
  .ret)
  .skip))
  (.seq (.seq (.region [⟨(some 5), .mv (.c (.v (.int .i64 0))), none⟩])
  (.block 0 (.loop (.seq (.seq (.region [⟨(some 17), .mv (.t 5), none⟩, ⟨(some 18), .faddr 0 (.t 2), none⟩, ⟨(some 19), .load none (.t 18), none⟩, ⟨(some 20), .len (.t 19), none⟩, ⟨(some 21), .bin .lss (.t 17) (.t 20), none⟩])
  (.cond (.t 21) .skip
  (.exit 0)))
  (.seq (.block 1 (.seq (.draw [⟨0, ⟨(some 24), .faddr 0 (.t 2), none⟩, []⟩, ⟨1, ⟨(some 25), .load none (.t 24), none⟩, []⟩, ⟨2, ⟨(some 26), .mv (.t 5), none⟩, []⟩, ⟨3, ⟨(some 27), .iaddr 3 (.t 25) (.t 26), none⟩, []⟩, ⟨4, ⟨(some 28), .load (some 3) (.t 27), none⟩, []⟩, ⟨5, ⟨(some 29), .faddr 0 (.t 3), none⟩, []⟩, ⟨6, ⟨(some 30), .load none (.t 29), none⟩, []⟩, ⟨7, ⟨(some 31), .mv (.t 5), none⟩, []⟩, ⟨8, ⟨(some 32), .iaddr 3 (.t 30) (.t 31), none⟩, []⟩, ⟨9, ⟨(some 33), .load (some 3) (.t 32), none⟩, []⟩, ⟨10, ⟨(some 6), .alloc [(.v (.str ⟨#[]⟩)), (.v .zsl), (.v .zsl)], none⟩, [⟨(some 24), .faddr 0 (.t 2), none⟩, ⟨(some 25), .load none (.t 24), none⟩, ⟨(some 26), .mv (.t 5), none⟩, ⟨(some 27), .iaddr 3 (.t 25) (.t 26), none⟩, ⟨(some 28), .load (some 3) (.t 27), none⟩, ⟨(some 29), .faddr 0 (.t 3), none⟩, ⟨(some 30), .load none (.t 29), none⟩, ⟨(some 31), .mv (.t 5), none⟩, ⟨(some 32), .iaddr 3 (.t 30) (.t 31), none⟩, ⟨(some 33), .load (some 3) (.t 32), none⟩]⟩, ⟨11, ⟨(some 7), .alloc [(.v (.str ⟨#[]⟩)), (.v .zsl), (.v .zsl)], none⟩, [⟨(some 24), .faddr 0 (.t 2), none⟩, ⟨(some 25), .load none (.t 24), none⟩, ⟨(some 26), .mv (.t 5), none⟩, ⟨(some 27), .iaddr 3 (.t 25) (.t 26), none⟩, ⟨(some 28), .load (some 3) (.t 27), none⟩, ⟨(some 29), .faddr 0 (.t 3), none⟩, ⟨(some 30), .load none (.t 29), none⟩, ⟨(some 31), .mv (.t 5), none⟩, ⟨(some 32), .iaddr 3 (.t 30) (.t 31), none⟩, ⟨(some 33), .load (some 3) (.t 32), none⟩]⟩, ⟨12, ⟨none, .store 3 (.t 6) (.t 28), none⟩, [⟨(some 29), .faddr 0 (.t 3), none⟩, ⟨(some 30), .load none (.t 29), none⟩, ⟨(some 31), .mv (.t 5), none⟩, ⟨(some 32), .iaddr 3 (.t 30) (.t 31), none⟩, ⟨(some 33), .load (some 3) (.t 32), none⟩]⟩, ⟨13, ⟨none, .store 3 (.t 7) (.t 33), none⟩, []⟩])
  (.seq (.seq (.region [⟨(some 34), .faddr 0 (.t 6), none⟩, ⟨(some 35), .load none (.t 34), none⟩, ⟨(some 36), .faddr 0 (.t 7), none⟩, ⟨(some 37), .load none (.t 36), none⟩, ⟨(some 38), .binS .neq (.t 35) (.t 37), none⟩, ⟨(some 39), .mv (.t 38), none⟩, ⟨(some 40), .faddr 1 (.t 6), some (39, false)⟩, ⟨(some 41), .load none (.t 40), some (39, false)⟩, ⟨(some 42), .len (.t 41), some (39, false)⟩, ⟨(some 43), .faddr 1 (.t 7), some (39, false)⟩, ⟨(some 44), .load none (.t 43), some (39, false)⟩, ⟨(some 45), .len (.t 44), some (39, false)⟩, ⟨(some 46), .bin .neq (.t 42) (.t 45), some (39, false)⟩, ⟨(some 47), .pick (.t 39) (.c (.v (.bool true))) (.t 46), none⟩, ⟨(some 48), .mv (.t 47), none⟩, ⟨(some 49), .faddr 2 (.t 6), some (48, false)⟩, ⟨(some 50), .load none (.t 49), some (48, false)⟩, ⟨(some 51), .len (.t 50), some (48, false)⟩, ⟨(some 52), .faddr 2 (.t 7), some (48, false)⟩, ⟨(some 53), .load none (.t 52), some (48, false)⟩, ⟨(some 54), .len (.t 53), some (48, false)⟩, ⟨(some 55), .bin .neq (.t 51) (.t 54), some (48, false)⟩, ⟨(some 56), .pick (.t 48) (.c (.v (.bool true))) (.t 55), none⟩])
  (.cond (.t 56) (.seq (.region [⟨(some 4), .mv (.c (.v (.bool false))), none⟩])
  .ret)
  .skip))
  (.seq (.seq (.region [⟨(some 8), .mv (.c (.v (.int .i64 0))), none⟩])
  (.block 2 (.loop (.seq (.seq (.region [⟨(some 57), .mv (.t 8), none⟩, ⟨(some 58), .faddr 1 (.t 6), none⟩, ⟨(some 59), .load none (.t 58), none⟩, ⟨(some 60), .len (.t 59), none⟩, ⟨(some 61), .bin .lss (.t 57) (.t 60), none⟩])
  (.cond (.t 61) .skip
  (.exit 2)))
  (.seq (.block 3 (.seq (.draw [⟨0, ⟨(some 64), .faddr 1 (.t 6), none⟩, []⟩, ⟨1, ⟨(some 65), .load none (.t 64), none⟩, []⟩, ⟨2, ⟨(some 66), .mv (.t 8), none⟩, []⟩, ⟨3, ⟨(some 67), .iaddr 2 (.t 65) (.t 66), none⟩, []⟩, ⟨4, ⟨(some 68), .load (some 2) (.t 67), none⟩, []⟩, ⟨5, ⟨(some 69), .faddr 1 (.t 7), none⟩, []⟩, ⟨6, ⟨(some 70), .load none (.t 69), none⟩, []⟩, ⟨7, ⟨(some 71), .mv (.t 8), none⟩, []⟩, ⟨8, ⟨(some 72), .iaddr 2 (.t 70) (.t 71), none⟩, []⟩, ⟨9, ⟨(some 73), .load (some 2) (.t 72), none⟩, []⟩, ⟨10, ⟨(some 74), .eqs true [.s, .i] (.t 68) (.t 73), none⟩, []⟩])
  (.cond (.t 74) (.seq (.region [⟨(some 4), .mv (.c (.v (.bool false))), none⟩])
  .ret)
  .skip)))
  (.region [⟨(some 62), .mv (.t 8), none⟩, ⟨(some 63), .bin .add (.t 62) (.c (.v (.int .i64 1))), none⟩, ⟨(some 8), .mv (.t 63), none⟩]))))))
  (.seq (.region [⟨(some 9), .mv (.c (.v (.int .i64 0))), none⟩])
  (.block 4 (.loop (.seq (.seq (.region [⟨(some 75), .mv (.t 9), none⟩, ⟨(some 76), .faddr 2 (.t 6), none⟩, ⟨(some 77), .load none (.t 76), none⟩, ⟨(some 78), .len (.t 77), none⟩, ⟨(some 79), .bin .lss (.t 75) (.t 78), none⟩])
  (.cond (.t 79) .skip
  (.exit 4)))
  (.seq (.block 5 (.seq (.draw [⟨0, ⟨(some 82), .faddr 2 (.t 6), none⟩, []⟩, ⟨1, ⟨(some 83), .load none (.t 82), none⟩, []⟩, ⟨2, ⟨(some 84), .mv (.t 9), none⟩, []⟩, ⟨3, ⟨(some 85), .iaddr 5 (.t 83) (.t 84), none⟩, []⟩, ⟨4, ⟨(some 86), .load (some 5) (.t 85), none⟩, []⟩, ⟨5, ⟨(some 87), .faddr 2 (.t 7), none⟩, []⟩, ⟨6, ⟨(some 88), .load none (.t 87), none⟩, []⟩, ⟨7, ⟨(some 89), .mv (.t 9), none⟩, []⟩, ⟨8, ⟨(some 90), .iaddr 5 (.t 88) (.t 89), none⟩, []⟩, ⟨9, ⟨(some 91), .load (some 5) (.t 90), none⟩, []⟩, ⟨10, ⟨(some 92), .call (.c (.fn 84 [])) [(.t 86), (.t 91)], none⟩, []⟩, ⟨11, ⟨(some 93), .not (.t 92), none⟩, []⟩])
  (.cond (.t 93) (.seq (.region [⟨(some 4), .mv (.c (.v (.bool false))), none⟩])
  .ret)
  .skip)))
  (.region [⟨(some 80), .mv (.t 9), none⟩, ⟨(some 81), .bin .add (.t 80) (.c (.v (.int .i64 1))), none⟩, ⟨(some 9), .mv (.t 81), none⟩]))))))))))
  (.region [⟨(some 22), .mv (.t 5), none⟩, ⟨(some 23), .bin .add (.t 22) (.c (.v (.int .i64 1))), none⟩, ⟨(some 5), .mv (.t 23), none⟩]))))))
  (.seq (.region [⟨(some 4), .mv (.c (.v (.bool true))), none⟩])
  .ret))))⟩
theorem a_rSame_ok : cFunc Try.prog 22 = some a_rSame := by kernel_rfl
def m_rSame0 : List Bool := [false, false, false, false, true, true, true, true, true, true, false, false, false, false, false, false, false, true, true, true, true, true, true, true, true, true, true, true, true, true, true, true, true, true, true, true, true, true, true, true, true, true, true, true, true, true, true, true, true, true, true, true, true, true, true, true, true, true, true, true, true, true, true, true, true, true, true, true, true, true, true, true, true, true, true, true, true, true, true, true, true, true, true, true, true, true, true, true, true, true, true, true, true, true]
def m_rSame1 : List Bool := [false, false, false, false, true, false, false, false, true, false, false, false, false, false, false, false, false, false, false, false, false, false, false, false, false, false, false, false, false, false, false, false, false, false, false, false, false, false, false, false, false, false, false, false, false, false, false, false, false, false, false, false, false, false, false, false, false, true, true, true, true, true, true, true, true, true, true, true, true, true, true, true, true, true, true, false, false, false, false, false, false, false, false, false, false, false, false, false, false, false, false, false, false, false]
def m_rSame2 : List Bool := [false, false, false, false, true, false, false, false, false, true, false, false, false, false, false, false, false, false, false, false, false, false, false, false, false, false, false, false, false, false, false, false, false, false, false, false, false, false, false, false, false, false, false, false, false, false, false, false, false, false, false, false, false, false, false, false, false, false, false, false, false, false, false, false, false, false, false, false, false, false, false, false, false, false, false, true, true, true, true, true, true, true, true, true, true, true, true, true, true, true, true, true, true, true]
def a_rSameEvent : AFunc := ⟨2, 59, [.tmp 4],
  (.seq (.region [⟨(some 2), .box (.t 0), none⟩, ⟨(some 3), .box (.t 1), none⟩, ⟨(some 4), .mv (.c (.v (.bool false))), none⟩])
  (.seq (.seq (.region [⟨(some 6), .faddr 0 (.t 2), none⟩, ⟨(some 7), .load none (.t 6), none⟩, ⟨(some 8), .faddr 0 (.t 3), none⟩, ⟨(some 9), .load none (.t 8), none⟩, ⟨(some 10), .bin .neq (.t 7) (.t 9), none⟩, ⟨(some 11), .mv (.t 10), none⟩, ⟨(some 12), .faddr 1 (.t 2), some (11, false)⟩, ⟨(some 13), .load none (.t 12), some (11, false)⟩, ⟨(some 14), .faddr 1 (.t 3), some (11, false)⟩, ⟨(some 15), .load none (.t 14), some (11, false)⟩, ⟨(some 16), .bin .neq (.t 13) (.t 15), some (11, false)⟩, ⟨(some 17), .pick (.t 11) (.c (.v (.bool true))) (.t 16), none⟩, ⟨(some 18), .mv (.t 17), none⟩, ⟨(some 19), .faddr 2 (.t 2), some (18, false)⟩, ⟨(some 20), .load none (.t 19), some (18, false)⟩, ⟨(some 21), .faddr 2 (.t 3), some (18, false)⟩, ⟨(some 22), .load none (.t 21), some (18, false)⟩, ⟨(some 23), .bin .neq (.t 20) (.t 22), some (18, false)⟩, ⟨(some 24), .pick (.t 18) (.c (.v (.bool true))) (.t 23), none⟩, ⟨(some 25), .mv (.t 24), none⟩, ⟨(some 26), .faddr 3 (.t 2), some (25, false)⟩, ⟨(some 27), .load none (.t 26), some (25, false)⟩, ⟨(some 28), .faddr 3 (.t 3), some (25, false)⟩, ⟨(some 29), .load none (.t 28), some (25, false)⟩, ⟨(some 30), .bin .neq (.t 27) (.t 29), some (25, false)⟩, ⟨(some 31), .pick (.t 25) (.c (.v (.bool true))) (.t 30), none⟩, ⟨(some 32), .mv (.t 31), none⟩, ⟨(some 33), .faddr 4 (.t 2), some (32, false)⟩, ⟨(some 34), .load none (.t 33), some (32, false)⟩, ⟨(some 35), .len (.t 34), some (32, false)⟩, ⟨(some 36), .faddr 4 (.t 3), some (32, false)⟩, ⟨(some 37), .load none (.t 36), some (32, false)⟩, ⟨(some 38), .len (.t 37), some (32, false)⟩, ⟨(some 39), .bin .neq (.t 35) (.t 38), some (32, false)⟩, ⟨(some 40), .pick (.t 32) (.c (.v (.bool true))) (.t 39), none⟩])
  (.cond (.t 40) (.seq (.region [⟨(some 4), .mv (.c (.v (.bool false))), none⟩])
  .ret)
  .skip))
  (.seq (.seq (.region [⟨(some 5), .mv (.c (.v (.int .i64 0))), none⟩])
  (.block 0 (.loop (.seq (.seq (.region [⟨(some 41), .mv (.t 5), none⟩, ⟨(some 42), .faddr 4 (.t 2), none⟩, ⟨(some 43), .load none (.t 42), none⟩, ⟨(some 44), .len (.t 43), none⟩, ⟨(some 45), .bin .lss (.t 41) (.t 44), none⟩])
  (.cond (.t 45) .skip
  (.exit 0)))
  (.seq (.block 1 (.seq (.draw [⟨0, ⟨(some 48), .faddr 4 (.t 2), none⟩, []⟩, ⟨1, ⟨(some 49), .load none (.t 48), none⟩, []⟩, ⟨2, ⟨(some 50), .mv (.t 5), none⟩, []⟩, ⟨3, ⟨(some 51), .iaddr 2 (.t 49) (.t 50), none⟩, []⟩, ⟨4, ⟨(some 52), .load (some 2) (.t 51), none⟩, []⟩, ⟨5, ⟨(some 53), .faddr 4 (.t 3), none⟩, []⟩, ⟨6, ⟨(some 54), .load none (.t 53), none⟩, []⟩, ⟨7, ⟨(some 55), .mv (.t 5), none⟩, []⟩, ⟨8, ⟨(some 56), .iaddr 2 (.t 54) (.t 55), none⟩, []⟩, ⟨9, ⟨(some 57), .load (some 2) (.t 56), none⟩, []⟩, ⟨10, ⟨(some 58), .eqs true [.i, .i] (.t 52) (.t 57), none⟩, []⟩])
  (.cond (.t 58) (.seq (.region [⟨(some 4), .mv (.c (.v (.bool false))), none⟩])
  .ret)
  .skip)))
  (.region [⟨(some 46), .mv (.t 5), none⟩, ⟨(some 47), .bin .add (.t 46) (.c (.v (.int .i64 1))), none⟩, ⟨(some 5), .mv (.t 47), none⟩]))))))
  (.seq (.region [⟨(some 4), .mv (.c (.v (.bool true))), none⟩])
  .ret))))⟩
theorem a_rSameEvent_ok : cFunc Try.prog 84 = some a_rSameEvent := by kernel_rfl
def m_rSameEvent0 : List Bool := [false, false, false, false, true, true, false, false, false, false, false, false, false, false, false, false, false, false, false, false, false, false, false, false, false, false, false, false, false, false, false, false, false, false, false, false, false, false, false, false, false, true, true, true, true, true, true, true, true, true, true, true, true, true, true, true, true, true, true]
def a_TracePrefixes : AFunc := ⟨2, 39, [.tmp 4],
  (.seq (.region [⟨(some 2), .box (.t 0), none⟩, ⟨(some 4), .mv (.c (.v (.bool false))), none⟩])
  (.seq (.seq (.region [⟨(some 9), .call (.c (.fn 15 [])) [], none⟩, ⟨(some 10), .not (.t 9), none⟩])
  (.cond (.t 10) (.seq (.region [⟨(some 4), .mv (.c (.v (.bool false))), none⟩])
  .ret)
  .skip))
  (.seq (.seq (.region [⟨(some 11), .load (some 1) (.t 2), none⟩, ⟨(some 12), .call (.c (.fn 16 [])) [(.t 11)], none⟩, ⟨(some 13), .not (.t 12), none⟩, ⟨(some 14), .mv (.t 13), none⟩, ⟨(some 15), .mv (.t 1), some (14, false)⟩, ⟨(some 16), .len (.t 15), some (14, false)⟩, ⟨(some 17), .bin .gtr (.t 16) (.c (.v (.int .i64 20))), some (14, false)⟩, ⟨(some 18), .pick (.t 14) (.c (.v (.bool true))) (.t 17), none⟩])
  (.cond (.t 18) (.seq (.region [⟨(some 4), .mv (.c (.v (.bool true))), none⟩])
  .ret)
  .skip))
  (.seq (.region [⟨(some 20), .load (some 1) (.t 2), none⟩, ⟨(some 21), .mv (.t 1), none⟩, ⟨(some 22), .call (.c (.fn 20 [])) [(.t 20), (.t 21)], none⟩, ⟨(some 19), .mv (.t 22), none⟩, ⟨(some 23), .extract 0 (.t 19), none⟩, ⟨(some 24), .extract 1 (.t 19), none⟩, ⟨(some 5), .alloc [(.v .zsl)], none⟩, ⟨none, .store 1 (.t 5) (.t 23), none⟩, ⟨(some 6), .mv (.t 24), none⟩])
  (.seq (.region [⟨(some 26), .load (some 1) (.t 2), none⟩, ⟨(some 27), .mv (.t 1), none⟩, ⟨(some 28), .call (.c (.fn 21 [])) [(.t 26), (.t 27)], none⟩, ⟨(some 25), .mv (.t 28), none⟩, ⟨(some 29), .extract 0 (.t 25), none⟩, ⟨(some 30), .extract 1 (.t 25), none⟩, ⟨(some 7), .alloc [(.v .zsl)], none⟩, ⟨none, .store 1 (.t 7) (.t 29), none⟩, ⟨(some 8), .mv (.t 30), none⟩])
  (.seq (.region [⟨(some 31), .load (some 1) (.t 5), none⟩, ⟨(some 32), .load (some 1) (.t 7), none⟩, ⟨(some 33), .call (.c (.fn 22 [])) [(.t 31), (.t 32)], none⟩, ⟨(some 34), .mv (.t 33), none⟩, ⟨(some 35), .mv (.t 6), some (34, true)⟩, ⟨(some 36), .mv (.t 8), some (34, true)⟩, ⟨(some 37), .bin .eql (.t 35) (.t 36), some (34, true)⟩, ⟨(some 38), .pick (.t 34) (.t 37) (.c (.v (.bool false))), none⟩, ⟨(some 4), .mv (.t 38), none⟩])
  .ret))))))⟩
theorem a_TracePrefixes_ok : cFunc Try.prog 4 = some a_TracePrefixes := by kernel_rfl


theorem pref_code (t : Tr) (cs : List Int) : prefC t cs = if validL t = false ∨ cs.length ≠ t.length then 1 else if (List.range cs.length).all (rangeB t cs) = false then 2 else if (ids t).any (badL t cs) = true then 18 else 0 := rfl
theorem cut_in {t : Tr} {cs : List Int} (hl : cs.length = t.length) (h : (List.range cs.length).all (rangeB t cs) = true) : CutIn t cs := ⟨hl, fun k h1 h2 => by
  have := List.all_eq_true.1 h k (List.mem_range.2 h2)
  unfold rangeB cAt evsOf inB at this
  simp [List.getD, h1, h2] at this
  exact ⟨this.1, this.2⟩⟩
theorem CutIn.ok {t : Tr} {cs : List Int} (h : CutIn t cs) (hS : Small t) : CutOk t cs := ⟨h.len, hS.np, hS.nv, hS.ne, hS.na, h.le⟩

theorem rPrefix_spec (t : Tr) (hS : Small t) (hN : Nm t) (cs : List Int) (hc : cs.length ≤ 1000000) (b l : List Row) :
    ACalls Try.prog 21 [.agg [.v (eT t)], .v (.isl 1 (cs.map eI))] b l (fun r b' l' => r = .tup [prefV t cs, .v (.int .i64 (prefC t cs))] ∧ b' = b ∧ l' = l) := by
  refine calls_of a_rPrefix_ok rfl ?_
  intro B hB hR _
  have hnp := hS.np
  simp only [a_rPrefix, eT, go_sem]
  refine ACalls_mono _ _ _ _ _ _ (rvalid_spec t hS hN _ _) ?_
  rintro r b' l' ⟨rfl, rfl, rfl⟩
  cases hv : validL t
  · have hp : prefC t cs = 1 := by rw [pref_code, if_pos (.inl hv)]
    simp only [go_sem]
    exact leave_pure (xs := [.agg [.v .zsl], .v (.int .i64 1)]) (.inr rfl) (by simp (disch := omega) only [resVs, resV, go_sem]) (by simp only [one, AVlt_v, AVlt_any, AVlt_sl, AVlt_ptr, AVlt_agg, AVlt_tup, AVlt_fn, RowsLt_nil, RowsLt_live, RowsLt_dead, List.mem_cons, List.not_mem_nil, List.forall_mem_cons, List.forall_mem_nil, or_false, false_or, forall_eq_or_imp, forall_eq, vs_lt, Nat.add_lt_add_iff_left, Nat.reduceLT, true_and, and_true, and_self, List.length_cons, List.length_nil, Nat.reduceAdd, Nat.zero_add, implies_true, false_imp_iff, lt_T, List.mem_map]) hR hB ⟨by simp only [one, hp, prefV]; rfl, rfl, rfl⟩
  by_cases hlen : cs.length = t.length
  case neg =>
    have hp : prefC t cs = 1 := by rw [pref_code, if_pos (.inr hlen)]
    have hd : ((cs.length : Int) != (t.length : Int)) = true := by simp; omega
    simp only [List.length_map, hd, go_sem]
    exact leave_pure (xs := [.agg [.v .zsl], .v (.int .i64 1)]) (.inr rfl) (by simp (disch := omega) only [resVs, resV, go_sem]) (by simp only [one, AVlt_v, AVlt_any, AVlt_sl, AVlt_ptr, AVlt_agg, AVlt_tup, AVlt_fn, RowsLt_nil, RowsLt_live, RowsLt_dead, List.mem_cons, List.not_mem_nil, List.forall_mem_cons, List.forall_mem_nil, or_false, false_or, forall_eq_or_imp, forall_eq, vs_lt, Nat.add_lt_add_iff_left, Nat.reduceLT, true_and, and_true, and_self, List.length_cons, List.length_nil, Nat.reduceAdd, Nat.zero_add, implies_true, false_imp_iff, lt_T, List.mem_map]) hR hB ⟨by simp only [one, hp, prefV]; rfl, rfl, rfl⟩
  have hd : ((cs.length : Int) != (t.length : Int)) = false := by simp; omega
  simp only [List.length_map, hd, go_sem]
  refine ACalls_mono _ _ _ _ _ _ (rCut_spec t hS cs hc _ _) ?_
  rintro r b' l' ⟨rfl, rfl, rfl⟩
  rw [decide_eq_true hlen, Bool.true_and]
  cases ha : (List.range cs.length).all (rangeB t cs)
  · have hp : prefC t cs = 2 := by rw [pref_code, if_neg (by rw [hv]; simp [hlen]), if_pos ha]
    simp only [go_sem]
    exact leave_pure (xs := [.agg [.v .zsl], .v (.int .i64 2)]) (.inr rfl) (by simp (disch := omega) only [resVs, resV, go_sem]) (by simp only [one, AVlt_v, AVlt_any, AVlt_sl, AVlt_ptr, AVlt_agg, AVlt_tup, AVlt_fn, RowsLt_nil, RowsLt_live, RowsLt_dead, List.mem_cons, List.not_mem_nil, List.forall_mem_cons, List.forall_mem_nil, or_false, false_or, forall_eq_or_imp, forall_eq, vs_lt, Nat.add_lt_add_iff_left, Nat.reduceLT, true_and, and_true, and_self, List.length_cons, List.length_nil, Nat.reduceAdd, Nat.zero_add, implies_true, false_imp_iff, lt_T, List.mem_map]) hR hB ⟨by simp only [one, hp, prefV]; rfl, rfl, rfl⟩
  have hC := cut_in hlen ha
  simp only [go_sem]
  refine ACalls_mono _ _ _ _ _ _ (rConsistent_spec t hS hN cs hC _ _) ?_
  rintro r b' l' ⟨rfl, rfl, rfl⟩
  cases hb : (ids t).any (badL t cs)
  case true =>
    have hp : prefC t cs = 18 := by rw [pref_code, if_neg (by rw [hv]; simp [hlen]), if_neg (by rw [ha]; simp), if_pos hb]
    simp only [go_sem]
    exact leave_pure (xs := [.agg [.v .zsl], .v (.int .i64 18)]) (.inr rfl) (by simp (disch := omega) only [resVs, resV, go_sem]) (by simp only [one, AVlt_v, AVlt_any, AVlt_sl, AVlt_ptr, AVlt_agg, AVlt_tup, AVlt_fn, RowsLt_nil, RowsLt_live, RowsLt_dead, List.mem_cons, List.not_mem_nil, List.forall_mem_cons, List.forall_mem_nil, or_false, false_or, forall_eq_or_imp, forall_eq, vs_lt, Nat.add_lt_add_iff_left, Nat.reduceLT, true_and, and_true, and_self, List.length_cons, List.length_nil, Nat.reduceAdd, Nat.zero_add, implies_true, false_imp_iff, lt_T, List.mem_map]) hR hB ⟨by simp only [one, hp, prefV]; rfl, rfl, rfl⟩
  have hp : prefC t cs = 0 := by rw [pref_code, if_neg (by rw [hv]; simp [hlen]), if_neg (by rw [ha]; simp), if_neg (by rw [hb]; simp)]
  simp only [go_sem]
  refine ACalls_mono _ _ _ _ _ _ (rCopy_spec t cs (hC.ok hS) _ _) ?_
  rintro r b' l' ⟨rfl, rfl, rfl⟩
  obtain ⟨U, hU⟩ : ∃ U, eT (firstL t cs) = U := ⟨_, rfl⟩
  simp only [hU, go_sem]
  exact leave_pure (xs := [.agg [.v U], .v (.int .i64 0)]) (.inr rfl) (by simp (disch := omega) only [resVs, resV, go_sem]) (by simp only [one, AVlt_v, AVlt_any, AVlt_sl, AVlt_ptr, AVlt_agg, AVlt_tup, AVlt_fn, RowsLt_nil, RowsLt_live, RowsLt_dead, List.mem_cons, List.not_mem_nil, List.forall_mem_cons, List.forall_mem_nil, or_false, false_or, forall_eq_or_imp, forall_eq, vs_lt, Nat.add_lt_add_iff_left, Nat.reduceLT, true_and, and_true, and_self, List.length_cons, List.length_nil, Nat.reduceAdd, Nat.zero_add, implies_true, false_imp_iff, lt_T, List.mem_map]) hR hB ⟨by simp only [one, hp, prefV, hU]; rfl, rfl, rfl⟩

theorem rSameEvent_refl (x : Ev) (hx : x.asg.length ≤ 1000000) (b l : List Row) : ACalls Try.prog 84 [.agg ((eEv x).map .v), .agg ((eEv x).map .v)] b l (fun r b' l' => r = .v (.bool true) ∧ b' = b ∧ l' = l) := by
  refine calls_of a_rSameEvent_ok rfl ?_
  intro B hB hR _
  have ne : ∀ n : Int, (n != n) = false := by simp
  simp only [a_rSameEvent, eEv, ne, List.length_map, go_sem]
  refine loop_auto (ι := Nat) m_rSameEvent0 (fun i => [(5, .v (.int .i64 i))]) (fun _ => [.live 0 5 [[.v (.int .i64 x.kind), .v (.int .i64 x.peer), .v (.int .i64 x.msg), .v (.int .i64 x.time), .v (.isl 2 (x.asg.map eAsg))]], .live 0 5 [[.v (.int .i64 x.kind), .v (.int .i64 x.peer), .v (.int .i64 x.msg), .v (.int .i64 x.time), .v (.isl 2 (x.asg.map eAsg))]]])
    (fun i => i ≤ x.asg.length) (fun i => x.asg.length - i) 0 (Nat.zero_le _) ?_ ?_
  · simp only [m_rSameEvent0, ovr_cons, ovr_nil, anyM_t, anyM_f, anyM_nil, upd_zero, upd_succ]
    exact Weak.forget (by simp [Fgt])
  intro i hi
  simp only [m_rSameEvent0, ovr_cons, ovr_nil, anyM_t, anyM_f, anyM_nil, upd_zero, upd_succ]
  by_cases hlt : i < x.asg.length
  · simp (disch := omega) only [eAsg, go_sem]
    refine ⟨i + 1, hlt, by simp only; omega, ?_⟩
    simp only [m_rSameEvent0, ovr_cons, ovr_nil, anyM_t, anyM_f, anyM_nil, upd_zero, upd_succ]
    exact Weak.forget (by simp [Fgt])
  · simp (disch := omega) only [go_sem]
    exact leave_pure (.inr rfl) rfl (.v _) hR hB ⟨rfl, rfl, rfl⟩

theorem bytes_beq (s : ByteArray) : (s == s) = true := by
  cases s with
  | mk d => show (d == d) = true; exact beq_self_eq_true d
theorem rSame_refl (t : Tr) (hS : Small t) (b l : List Row) : ACalls Try.prog 22 [.agg [.v (eT t)], .agg [.v (eT t)]] b l (fun r b' l' => r = .v (.bool true) ∧ b' = b ∧ l' = l) := by
  refine calls_of a_rSame_ok rfl ?_
  intro B hB hR _
  have hnp := hS.np
  have ne : ∀ n : Int, (n != n) = false := by simp
  simp only [a_rSame, eT, ne, List.length_map, go_sem]
  refine loop_auto (ι := Nat) m_rSame0 (fun i => [(5, .v (.int .i64 i))]) (fun _ => [.live 0 1 [[.v (.isl 3 (t.map ePr))]], .live 0 1 [[.v (.isl 3 (t.map ePr))]]])
    (fun i => i ≤ t.length) (fun i => t.length - i) 0 (Nat.zero_le _) ?_ ?_
  · simp only [m_rSame0, ovr_cons, ovr_nil, anyM_t, anyM_f, anyM_nil, upd_zero, upd_succ]
    exact Weak.forget (by simp [Fgt])
  intro i hi
  simp only [m_rSame0, ovr_cons, ovr_nil, anyM_t, anyM_f, anyM_nil, upd_zero, upd_succ]
  by_cases hlt : i < t.length
  · have hnv := hS.nv _ (List.getElem_mem hlt)
    have hne := hS.ne _ (List.getElem_mem hlt)
    have hna := hS.na _ (List.getElem_mem hlt)
    simp (disch := omega) only [ePr, ne, bytes_beq, go_sem]
    refine loop_auto (ι := Nat) m_rSame1 (fun i => [(8, .v (.int .i64 i))]) (fun _ => [.live 0 1 [[.v (.isl 3 (t.map ePr))]], .live 0 1 [[.v (.isl 3 (t.map ePr))]], .live 0 3 [[.v (.str t[i].name), .v (.isl 2 (t[i].vars.map eVr)), .v (.isl 5 (t[i].evs.map eEv))]], .live 0 3 [[.v (.str t[i].name), .v (.isl 2 (t[i].vars.map eVr)), .v (.isl 5 (t[i].evs.map eEv))]]])
      (fun j => j ≤ t[i].vars.length) (fun j => t[i].vars.length - j) 0 (Nat.zero_le _) ?_ ?_
    · simp only [m_rSame1, ovr_cons, ovr_nil, anyM_t, anyM_f, anyM_nil, upd_zero, upd_succ]
      exact Weak.forget (by simp [Fgt])
    intro j hj
    simp only [m_rSame1, ovr_cons, ovr_nil, anyM_t, anyM_f, anyM_nil, upd_zero, upd_succ]
    by_cases hjv : j < t[i].vars.length
    · simp (disch := omega) only [eVr, bytes_beq, go_sem]
      refine ⟨j + 1, hjv, by simp only; omega, ?_⟩
      simp only [m_rSame1, ovr_cons, ovr_nil, anyM_t, anyM_f, anyM_nil, upd_zero, upd_succ]
      exact Weak.forget (by simp [Fgt])
    simp (disch := omega) only [go_sem]
    refine loop_auto (ι := Nat) m_rSame2 (fun i => [(9, .v (.int .i64 i))]) (fun _ => [.live 0 1 [[.v (.isl 3 (t.map ePr))]], .live 0 1 [[.v (.isl 3 (t.map ePr))]], .live 0 3 [[.v (.str t[i].name), .v (.isl 2 (t[i].vars.map eVr)), .v (.isl 5 (t[i].evs.map eEv))]], .live 0 3 [[.v (.str t[i].name), .v (.isl 2 (t[i].vars.map eVr)), .v (.isl 5 (t[i].evs.map eEv))]]])
      (fun j => j ≤ t[i].evs.length) (fun j => t[i].evs.length - j) 0 (Nat.zero_le _) ?_ ?_
    · simp only [m_rSame2, ovr_cons, ovr_nil, anyM_t, anyM_f, anyM_nil, upd_zero, upd_succ]
      exact Weak.forget (by simp [Fgt])
    intro j hj
    simp only [m_rSame2, ovr_cons, ovr_nil, anyM_t, anyM_f, anyM_nil, upd_zero, upd_succ]
    by_cases hjv : j < t[i].evs.length
    · simp (disch := omega) only [eEv, go_sem]
      refine ACalls_mono _ _ _ _ _ _ (rSameEvent_refl t[i].evs[j] (hna _ (List.getElem_mem hjv)) _ _) ?_
      rintro r b' l' ⟨rfl, rfl, rfl⟩
      simp (disch := omega) only [go_sem]
      refine ⟨j + 1, hjv, by simp only; omega, ?_⟩
      simp only [m_rSame2, ovr_cons, ovr_nil, anyM_t, anyM_f, anyM_nil, upd_zero, upd_succ]
      exact Weak.forget (by simp [Fgt])
    · simp (disch := omega) only [go_sem]
      refine ⟨i + 1, hlt, by simp only; omega, ?_⟩
      simp only [m_rSame0, ovr_cons, ovr_nil, anyM_t, anyM_f, anyM_nil, upd_zero, upd_succ]
      exact Weak.round (by simp [Fgt]) rfl (by simp (disch := omega) only [AVlt_v, AVlt_any, AVlt_sl, AVlt_ptr, AVlt_agg, AVlt_tup, AVlt_fn, RowsLt_nil, RowsLt_live, RowsLt_dead, List.mem_cons, List.not_mem_nil, List.forall_mem_cons, List.forall_mem_nil, or_false, false_or, forall_eq_or_imp, forall_eq, vs_lt, Nat.add_lt_add_iff_left, Nat.reduceLT, true_and, and_true, and_self, List.length_cons, List.length_nil, Nat.reduceAdd, Nat.zero_add, implies_true, false_imp_iff, lt_T, List.mem_map]) hR (by simp (disch := omega) only [AVlt_v, AVlt_any, AVlt_sl, AVlt_ptr, AVlt_agg, AVlt_tup, AVlt_fn, RowsLt_nil, RowsLt_live, RowsLt_dead, List.mem_cons, List.not_mem_nil, List.forall_mem_cons, List.forall_mem_nil, or_false, false_or, forall_eq_or_imp, forall_eq, vs_lt, Nat.add_lt_add_iff_left, Nat.reduceLT, true_and, and_true, and_self, List.length_cons, List.length_nil, Nat.reduceAdd, Nat.zero_add, implies_true, false_imp_iff, lt_T, List.mem_map])
  · simp (disch := omega) only [go_sem]
    exact leave_pure (.inr rfl) rfl (.v _) hR hB ⟨rfl, rfl, rfl⟩
theorem rSame_zero (b l : List Row) : ACalls Try.prog 22 [.agg [.v .zsl], .agg [.v .zsl]] b l (fun r b' l' => r = .v (.bool true) ∧ b' = b ∧ l' = l) := by
  refine calls_of a_rSame_ok rfl ?_
  intro B hB hR _
  have ne : ((0 : Int) != 0) = false := by simp
  have nl : decide ((0 : Int) < 0) = false := by simp
  simp only [a_rSame, ne, go_sem]
  refine loop_auto (ι := Unit) m_rSame0 (fun i => [(5, .v (.int .i64 0))]) (fun _ => [.live 0 1 [[.v .zsl]], .live 0 1 [[.v .zsl]]]) (fun _ => True) (fun _ => 0) () trivial ?_ ?_
  · simp only [m_rSame0, ovr_cons, ovr_nil, anyM_t, anyM_f, anyM_nil, upd_zero, upd_succ]
    exact Weak.forget (by simp [Fgt])
  intro i hi
  simp only [m_rSame0, nl, ovr_cons, ovr_nil, anyM_t, anyM_f, anyM_nil, upd_zero, upd_succ, go_sem]
  exact leave_pure (.inr rfl) rfl (.v _) hR hB ⟨rfl, rfl, rfl⟩

theorem first_small {t : Tr} {cs : List Int} (hS : Small t) (hl : cs.length = t.length) : Small (firstL t cs) := by
  have key : ∀ x ∈ firstL t cs, ∃ p ∈ t, x.vars = p.vars ∧ ∃ n, x.evs = p.evs.take n := by
    intro x hx
    obtain ⟨i, hi⟩ := List.mem_iff_getElem?.1 hx
    unfold firstL at hi
    rw [List.getElem?_zipWith] at hi
    cases h1 : t[i]? with
    | none => rw [h1] at hi; cases hi
    | some p =>
      cases h2 : cs[i]? with
      | none => rw [h1, h2] at hi; cases hi
      | some n => rw [h1, h2] at hi; cases hi; exact ⟨p, List.mem_of_getElem? h1, rfl, _, rfl⟩
  refine ⟨by have := hS.np; simp [firstL]; omega, fun x hx => ?_, fun x hx => ?_, fun x hx e he => ?_⟩
  · obtain ⟨p, hp, h1, _⟩ := key x hx; rw [h1]; exact hS.nv p hp
  · obtain ⟨p, hp, _, n, h2⟩ := key x hx; rw [h2]; have := hS.ne p hp; simp; omega
  · obtain ⟨p, hp, _, n, h2⟩ := key x hx; rw [h2] at he; exact hS.na p hp e (List.mem_of_mem_take he)

theorem pref_len {t : Tr} {cs : List Int} (h : prefC t cs = 0) : cs.length = t.length := by
  rw [pref_code] at h
  split at h
  · simp at h
  · rename_i hn; rw [not_or] at hn; exact Decidable.of_not_not hn.2

theorem tracePrefixes_run (t : Tr) (hF : Fits t) (hN : Nm t) (cs : List Int) (hm : cs.length ≤ 9223372036854775807) (b l : List Row) :
    ACalls Try.prog 4 [.agg [.v (eT t)], .v (.isl 1 (cs.map eI))] b l (fun r b' l' => r = .v (.bool true) ∧ b' = b ∧ l' = l) := by
  refine calls_of a_TracePrefixes_ok rfl ?_
  intro B hB hR _
  simp only [a_TracePrefixes, eT, go_sem]
  refine ACalls_mono _ _ _ _ _ _ (awake_spec _ _) ?_
  rintro r b' l' ⟨rfl, rfl, rfl⟩
  simp only [go_sem]
  refine ACalls_mono _ _ _ _ _ _ (few_spec t hF _ _) ?_
  rintro r b' l' ⟨rfl, rfl, rfl⟩
  cases hf : fewB t
  · simp only [go_sem]
    exact leave_pure (.inr rfl) rfl (.v _) hR hB ⟨rfl, rfl, rfl⟩
  have hS := few_small hf
  by_cases h20 : 20 < cs.length
  · simp (disch := omega) only [go_sem]
    exact leave_pure (.inr rfl) rfl (.v _) hR hB ⟨rfl, rfl, rfl⟩
  simp (disch := omega) only [go_sem]
  refine ACalls_mono _ _ _ _ _ _ (prefix_spec t hS hN cs (by omega) _ _) ?_
  rintro r b' l' ⟨rfl, rfl, rfl⟩
  by_cases h0 : prefC t cs = 0
  · obtain ⟨U, hU⟩ : ∃ U, eT (firstL t cs) = U := ⟨_, rfl⟩
    have hV : prefV t cs = .agg [.v U] := by unfold prefV; rw [if_pos h0, hU]
    simp only [hV, go_sem]
    refine ACalls_mono _ _ _ _ _ _ (rPrefix_spec t hS hN cs (by omega) _ _) ?_
    rintro r b' l' ⟨rfl, rfl, rfl⟩
    simp only [hV, go_sem]
    refine ACalls_mono _ _ _ _ _ _ (hU ▸ rSame_refl (firstL t cs) (first_small hS (pref_len h0)) _ _) ?_
    rintro r b' l' ⟨rfl, rfl, rfl⟩
    simp only [go_sem]
    exact leave_pure (.inr rfl) rfl (.v _) hR hB ⟨by simp [nth, one], rfl, rfl⟩
  · have hV : prefV t cs = .agg [.v .zsl] := by unfold prefV; rw [if_neg h0]
    simp only [hV, go_sem]
    refine ACalls_mono _ _ _ _ _ _ (rPrefix_spec t hS hN cs (by omega) _ _) ?_
    rintro r b' l' ⟨rfl, rfl, rfl⟩
    simp only [hV, go_sem]
    refine ACalls_mono _ _ _ _ _ _ (rSame_zero _ _) ?_
    rintro r b' l' ⟨rfl, rfl, rfl⟩
    simp only [go_sem]
    exact leave_pure (.inr rfl) rfl (.v _) hR hB ⟨by simp [nth, one], rfl, rfl⟩
end Go.Proofs.Ytfdekchpckdeiaa
