/- Texts of one proof, laid together: IB, IC, ID, IF. No condition. -/
import Derived.Test.YtnnnccibhhnbaaaSP9
namespace Go.Proofs.Ytnnnccibhhnbaaa
set_option linter.unusedVariables false
set_option linter.unusedSimpArgs false
def lt2 (a b : Nat × Nat) : Prop := a.1 < b.1 ∨ (a.1 = b.1 ∧ a.2 < b.2)
/-- The receipt of what an event sends. -/
def rcvO (t : Tr) (x : Nat × Nat) : Option (Nat × Nat) := if (evAt t x).kind = 2 then findL t 3 (evAt t x).msg else none
def rowN (t : Tr) (x : Nat × Nat) : List (Nat × Nat) := if x.2 < (evsOf t x.1).length then [(x.1, x.2 + 1)] else []
def nextL (t : Tr) (x : Nat × Nat) : List (Nat × Nat) := match rcvO t x with
  | none => rowN t x
  | some z => if z.1 < x.1 then z :: rowN t x else rowN t x ++ [z]
theorem mem_rowN {t : Tr} {x z : Nat × Nat} : z ∈ rowN t x ↔ z = (x.1, x.2 + 1) ∧ x.2 < (evsOf t x.1).length := by
  unfold rowN
  by_cases h : x.2 < (evsOf t x.1).length
  · rw [if_pos h]; simp [h]
  · rw [if_neg h]; simp [h]
theorem mem_nextL {t : Tr} {x z : Nat × Nat} : z ∈ nextL t x ↔ Dir t x z := by
  have e : z ∈ nextL t x ↔ z ∈ rowN t x ∨ rcvO t x = some z := by
    unfold nextL
    cases hr : rcvO t x with
    | none => simp
    | some w =>
      simp only
      by_cases hw : w.1 < x.1
      · rw [if_pos hw, List.mem_cons]
        constructor
        · rintro (h | h)
          · exact .inr (by rw [h])
          · exact .inl h
        · rintro (h | h)
          · exact .inr h
          · exact .inl (Option.some.inj h).symm
      · rw [if_neg hw, List.mem_append, List.mem_singleton]
        constructor
        · rintro (h | h)
          · exact .inl h
          · exact .inr (by rw [h])
        · rintro (h | h)
          · exact .inl h
          · exact .inr (Option.some.inj h).symm
  rw [e, mem_rowN]
  unfold Dir rcvO
  by_cases hk : (evAt t x).kind = 2
  · rw [if_pos hk]; simp [hk]
  · rw [if_neg hk]; simp [hk]
theorem le_cnt {t : Tr} {x y : Nat × Nat} (hx : x ∈ ids t) : Le t x y ↔ x.2 ≤ vc t y x.1 := by
  obtain ⟨p, i⟩ := x
  obtain ⟨i, rfl⟩ : ∃ k, i = k + 1 := ⟨i - 1, by have := mem_pos hx; simp only at this; omega⟩
  exact vc_iff (mem_ids2.1 hx).2
noncomputable def leadB (t : Tr) (y z : Nat × Nat) : Bool := decide (z.2 ≤ vc t y z.1)
theorem leadB_iff {t : Tr} (hv : Vok t) {y z : Nat × Nat} (hz : z ∈ ids t) : leadB t y z = true ↔ Le t z y := by
  unfold leadB
  rw [decide_eq_true_eq]
  exact (le_cnt hz).symm
noncomputable def stepO (t : Tr) (y x : Nat × Nat) : Option (Nat × Nat) := (nextL t x).find? (leadB t y)
theorem stepO_some {t : Tr} (hv : Vok t) {x y : Nat × Nat} (hx : x ∈ ids t) (hy : y ∈ ids t) (hl : Le t x y) (hne : x ≠ y) : ∃ z, stepO t y x = some z ∧ z ∈ ids t ∧ Dir t x z ∧ Le t z y := by
  rcases hl with rfl | h
  · exact absurd rfl hne
  obtain ⟨z, dz, hz⟩ := h.front
  have hzm := dz.mem hx
  have hlz : Le t z y := hz
  cases hs : stepO t y x with
  | none =>
    unfold stepO at hs
    rw [List.find?_eq_none] at hs
    exact absurd ((leadB_iff hv hzm).2 hlz) (hs z (mem_nextL.2 dz))
  | some w =>
    unfold stepO at hs
    have h1 := List.mem_of_find?_eq_some hs
    have h2 := List.find?_some hs
    have dw := mem_nextL.1 h1
    have hw := dw.mem hx
    exact ⟨w, rfl, hw, dw, (leadB_iff hv hw).1 h2⟩
/-- The path with at most n steps. -/
noncomputable def pathF (t : Tr) (y : Nat × Nat) : Nat → Nat × Nat → List (Nat × Nat)
  | 0, x => [x]
  | n + 1, x => if x = y then [x] else match stepO t y x with
    | none => [x]
    | some z => x :: pathF t y n z
noncomputable def pathL (t : Tr) (x y : Nat × Nat) : List (Nat × Nat) := pathF t y (ids t).length x
theorem rk_le {t : Tr} (hv : Vok t) {x y : Nat × Nat} (hy : y ∈ ids t) (h : Le t x y) : rk t x ≤ rk t y := by
  rcases h with rfl | h
  · exact Nat.le_refl _
  · exact Nat.le_of_lt (rk_lt hv hy h)
/-- What holds of a walk towards y. -/
structure PathOk (t : Tr) (x0 y x : Nat × Nat) (n : Nat) (done : List (Nat × Nat)) : Prop where
  mem : x ∈ ids t
  le : Le t x y
  fuel : rk t y ≤ rk t x + n
  eq : done ++ pathF t y n x = pathL t x0 y
theorem PathOk.start {t : Tr} (hv : Vok t) {x y : Nat × Nat} (hx : x ∈ ids t) (h : Le t x y) : PathOk t x y x (ids t).length [] :=
  ⟨hx, h, by have := List.countP_le_length (p := fun z => leB t z y) (l := ids t); unfold rk; omega, rfl⟩
theorem PathOk.done {t : Tr} {x0 y : Nat × Nat} {n : Nat} {D : List (Nat × Nat)} (h : PathOk t x0 y y n D) : D ++ [y] = pathL t x0 y := by
  rw [← h.eq]
  cases n with
  | zero => rfl
  | succ n => unfold pathF; rw [if_pos rfl]
theorem PathOk.step {t : Tr} (hv : Vok t) {x0 y x : Nat × Nat} {n : Nat} {D : List (Nat × Nat)} (h : PathOk t x0 y x n D) (hy : y ∈ ids t) (hne : x ≠ y) : ∃ z m, n = m + 1 ∧ stepO t y x = some z ∧ PathOk t x0 y z m (D ++ [x]) ∧ Dir t x z := by
  obtain ⟨z, hs, hz, dz, hl⟩ := stepO_some hv h.mem hy h.le hne
  have hlt := rk_lt hv hz (.one dz)
  have hle := rk_le hv hy hl
  have hf := h.fuel
  cases n with
  | zero => omega
  | succ m =>
    refine ⟨z, m, rfl, hs, ⟨hz, hl, by omega, ?_⟩, dz⟩
    rw [← h.eq, List.append_assoc]
    congr 1
    rw [pathF, if_neg hne, hs]
    rfl
theorem pathF_head {t : Tr} {y : Nat × Nat} {n : Nat} {x : Nat × Nat} : ∃ r, pathF t y n x = x :: r := by
  cases n with
  | zero => exact ⟨[], rfl⟩
  | succ n =>
    unfold pathF
    split
    · exact ⟨[], rfl⟩
    · split <;> exact ⟨_, rfl⟩
/-- What the law asks of a path. -/
def PathIs (t : Tr) (y : Nat × Nat) (l : List (Nat × Nat)) : Prop := l.getLast? = some y ∧ ∀ a (h : a + 1 < l.length), l[a + 1] ∈ ids t ∧ Dir t l[a] l[a + 1]
theorem PathIs.cons {t : Tr} {y x z : Nat × Nat} {r : List (Nat × Nat)} (hz : z ∈ ids t) (d : Dir t x z) (h : PathIs t y (z :: r)) : PathIs t y (x :: z :: r) := by
  refine ⟨by rw [List.getLast?_cons_cons]; exact h.1, fun a ha => ?_⟩
  cases a with
  | zero => exact ⟨hz, d⟩
  | succ a => exact h.2 a (by simpa using ha)
theorem pathF_is {t : Tr} (hv : Vok t) {y : Nat × Nat} (hy : y ∈ ids t) : ∀ {n : Nat} {x : Nat × Nat}, x ∈ ids t → Le t x y → rk t y ≤ rk t x + n → PathIs t y (pathF t y n x)
  | 0, x, hx, hl, hf => by
    have : x = y := by
      rcases hl with h | h
      · exact h
      · have := rk_lt hv hy h; omega
    subst this
    exact ⟨rfl, fun a h => by simp [pathF] at h⟩
  | n + 1, x, hx, hl, hf => by
    by_cases he : x = y
    · subst he
      unfold pathF
      rw [if_pos rfl]
      exact ⟨rfl, fun a h => by simp at h⟩
    · obtain ⟨z, hs, hz, dz, hlz⟩ := stepO_some hv hx hy hl he
      have hlt := rk_lt hv hz (.one dz)
      have ih := pathF_is hv hy (n := n) hz hlz (by omega)
      unfold pathF
      rw [if_neg he, hs]
      simp only
      obtain ⟨r, hr⟩ := pathF_head (t := t) (y := y) (n := n) (x := z)
      rw [hr] at ih ⊢
      exact ih.cons hz dz
theorem pathL_is {t : Tr} (hv : Vok t) {x y : Nat × Nat} (hx : x ∈ ids t) (hy : y ∈ ids t) (hl : Le t x y) : PathIs t y (pathL t x y) ∧ ∃ r, pathL t x y = x :: r :=
  ⟨pathF_is hv hy hx hl (by have := List.countP_le_length (p := fun z => leB t z y) (l := ids t); unfold rk; omega), pathF_head⟩
end Go.Proofs.Ytnnnccibhhnbaaa

namespace Go.Proofs.Ytnnnccibhhnbaaa
set_option linter.unusedVariables false
set_option linter.unusedSimpArgs false
attribute [local go_sem ↓] run_skip run_region run_draw run_seq run_block run_exit run_ret run_cond atN_app seqC_normal seqC_exit seqC_ret seqQ_normal seqQ_exit seqQ_ret blkQ_normal blkQ_exit blkQ_ret runOps_nil runOps_cons runD_nil runD_cons grdO_true grdO_false grdD_true grdD_false ifC_true ifC_false opS_val opS_call opS_two opK_app dS_val dS_call dS_two dK_app kUp_same kUp_ne
attribute [local go_sem] rechks_nil rechks_cons rechk gcase_true gcase_false ex_val ex_val0 gd_none gd_some ev_t ev_c evs_nil evs_cons evo_some evo_none hget_at hget_first hsetB_at hsetB_first hsetL_at hsetL_first ofOpt_some aop aload astore aslice aappend aiaddr aiaddrA afaddr alen alenS acopy amm acall alookup amupdate alenM comma keyEq apick binV binVB binVS isSh intOp strOp boolOp shOp eqC eqF and2 cellsOf setFrom fillA fillS rd rdI elems mk bounds AV.cell List.all_cons List.all_nil Bool.and_true Bool.true_and Bool.and_self List.length_cons List.length_nil List.length_append Nat.reduceAdd Nat.reduceSub Nat.reduceMul Nat.zero_add Nat.add_zero List.cons_append List.nil_append List.append_assoc List.append_nil List.getElem?_cons_zero List.getElem?_cons_succ List.getElem?_nil List.set_cons_zero List.set_cons_succ List.drop_zero List.drop_succ_cons List.take_zero List.take_succ_cons List.take_nil List.drop_nil List.map_cons List.map_nil Option.map_some if_true if_false Bool.false_eq_true and_self true_and and_true Nat.reduceLeDiff Nat.reduceLT Nat.le_refl Nat.reduceEqDiff ite_true ite_false beq_self_eq_true beq_true beq_false Bool.not_true Bool.not_false Bool.true_beq Bool.false_beq map_vs vs_len vs_get vs_take vs_drop vs_snoc1 vs_snoc2 vs_snoc3 vs_snoc5 vs_set1 vs_set2 vs_rep wrap_id le_T lt_T le_F lt_F leI_T ltI_T leI_F ltI_F geI gtI get_T decide_true decide_false room List.getElem?_map List.length_map List.length_take Int.toNat_natCast Nat.min_def Nat.min_self nth_kOf put_kOf put_kNo kOv_cons kOv_nil KHas KArgs List.getElem_cons_zero List.getElem_cons_succ
def a_knext : AFunc := ⟨2, 60, [.tmp 4],
  (.seq (.region [⟨(some 2), .box (.t 0), none⟩, ⟨(some 3), .box (.t 1), none⟩, ⟨(some 4), .mv (.c (.v .zsl)), none⟩])
  (.seq (.region [⟨(some 5), .mv (.c (.v .zsl)), none⟩])
  (.seq (.seq (.draw [⟨0, ⟨(some 9), .faddr 1 (.t 3), none⟩, []⟩, ⟨1, ⟨(some 10), .load none (.t 9), none⟩, []⟩, ⟨2, ⟨(some 11), .faddr 0 (.t 2), none⟩, []⟩, ⟨3, ⟨(some 12), .faddr 0 (.t 11), none⟩, []⟩, ⟨4, ⟨(some 13), .load none (.t 12), none⟩, []⟩, ⟨5, ⟨(some 14), .faddr 0 (.t 3), none⟩, []⟩, ⟨6, ⟨(some 15), .load none (.t 14), none⟩, []⟩, ⟨7, ⟨(some 16), .iaddr 3 (.t 13) (.t 15), none⟩, []⟩, ⟨8, ⟨(some 17), .faddr 2 (.t 16), none⟩, []⟩, ⟨9, ⟨(some 18), .load none (.t 17), none⟩, []⟩, ⟨10, ⟨(some 19), .len (.t 18), none⟩, []⟩, ⟨11, ⟨(some 20), .bin .lss (.t 10) (.t 19), none⟩, []⟩])
  (.cond (.t 20) (.region [⟨(some 21), .mv (.t 5), none⟩, ⟨(some 22), .faddr 0 (.t 3), none⟩, ⟨(some 23), .load none (.t 22), none⟩, ⟨(some 24), .faddr 1 (.t 3), none⟩, ⟨(some 25), .load none (.t 24), none⟩, ⟨(some 26), .bin .add (.t 25) (.c (.v (.int .i64 1))), none⟩, ⟨(some 27), .build [(.v (.int .i64 0)), (.v (.int .i64 0))] [(0, 1, (.t 23)), (1, 1, (.t 26))], none⟩, ⟨(some 28), .bslice 2 [(.v (.int .i64 0)), (.v (.int .i64 0))] 1 [(0, (.t 27))], none⟩, ⟨(some 29), .append 2 16 (.t 21) (.t 28), none⟩, ⟨(some 5), .mv (.t 29), none⟩])
  .skip))
  (.seq (.region [⟨(some 30), .load (some 3) (.t 2), none⟩, ⟨(some 31), .load (some 2) (.t 3), none⟩, ⟨(some 32), .call (.c (.fn 133 [])) [(.t 30), (.t 31)], none⟩, ⟨(some 6), .alloc [(.v (.int .i64 0)), (.v (.int .i64 0)), (.v (.int .i64 0)), (.v (.int .i64 0)), (.v .zsl)], none⟩, ⟨none, .store 5 (.t 6) (.t 32), none⟩])
  (.seq (.seq (.region [⟨(some 33), .faddr 0 (.t 6), none⟩, ⟨(some 34), .load none (.t 33), none⟩, ⟨(some 35), .bin .neq (.t 34) (.c (.v (.int .i64 2))), none⟩])
  (.cond (.t 35) (.seq (.region [⟨(some 36), .mv (.t 5), none⟩, ⟨(some 4), .mv (.t 36), none⟩])
  .ret)
  .skip))
  (.seq (.seq (.region [⟨(some 38), .faddr 2 (.t 2), none⟩, ⟨(some 39), .load none (.t 38), none⟩, ⟨(some 40), .faddr 2 (.t 6), none⟩, ⟨(some 41), .load none (.t 40), none⟩, ⟨(some 42), .lookup (.one .i) (.agg [(.v (.int .i64 0)), (.v (.int .i64 0))]) true (.t 39) (.t 41), none⟩, ⟨(some 37), .mv (.t 42), none⟩, ⟨(some 43), .extract 0 (.t 37), none⟩, ⟨(some 44), .extract 1 (.t 37), none⟩, ⟨(some 7), .alloc [(.v (.int .i64 0)), (.v (.int .i64 0))], none⟩, ⟨none, .store 2 (.t 7) (.t 43), none⟩, ⟨(some 8), .mv (.t 44), none⟩])
  (.seq (.region [⟨(some 45), .mv (.t 8), none⟩])
  (.cond (.t 45) (.seq (.seq (.region [⟨(some 46), .faddr 0 (.t 7), none⟩, ⟨(some 47), .load none (.t 46), none⟩, ⟨(some 48), .faddr 0 (.t 3), none⟩, ⟨(some 49), .load none (.t 48), none⟩, ⟨(some 50), .bin .lss (.t 47) (.t 49), none⟩])
  (.cond (.t 50) (.seq (.region [⟨(some 51), .load (some 2) (.t 7), none⟩, ⟨(some 52), .bslice 2 [(.v (.int .i64 0)), (.v (.int .i64 0))] 1 [(0, (.t 51))], none⟩, ⟨(some 53), .mv (.t 5), none⟩, ⟨(some 54), .append 2 16 (.t 52) (.t 53), none⟩, ⟨(some 4), .mv (.t 54), none⟩])
  .ret)
  .skip))
  (.region [⟨(some 55), .mv (.t 5), none⟩, ⟨(some 56), .load (some 2) (.t 7), none⟩, ⟨(some 57), .bslice 2 [(.v (.int .i64 0)), (.v (.int .i64 0))] 1 [(0, (.t 56))], none⟩, ⟨(some 58), .append 2 16 (.t 55) (.t 57), none⟩, ⟨(some 5), .mv (.t 58), none⟩]))
  .skip)))
  (.seq (.region [⟨(some 59), .mv (.t 5), none⟩, ⟨(some 4), .mv (.t 59), none⟩])
  .ret)))))))⟩
theorem a_knext_ok : cFunc Try.prog 85 = some a_knext := by kernel_rfl
def a_numc : AFunc := ⟨2, 28, [.tmp 4],
  (.seq (.region [⟨(some 2), .box (.t 0), none⟩, ⟨(some 3), .box (.t 1), none⟩, ⟨(some 4), .mv (.c (.v (.int .i64 0))), none⟩])
  (.seq (.region [⟨(some 8), .faddr 1 (.t 3), none⟩, ⟨(some 9), .load none (.t 8), none⟩, ⟨(some 10), .bin .sub (.t 9) (.c (.v (.int .i64 1))), none⟩, ⟨(some 5), .mv (.t 10), none⟩])
  (.seq (.seq (.region [⟨(some 11), .faddr 0 (.t 2), none⟩, ⟨(some 12), .load none (.t 11), none⟩, ⟨(some 13), .faddr 0 (.t 3), none⟩, ⟨(some 14), .load none (.t 13), none⟩, ⟨(some 15), .slice 3 (.t 12) none (some (.t 14)), none⟩, ⟨(some 16), .len (.t 15), none⟩, ⟨(some 17), .mv (.c (.v (.int .i64 0))), none⟩])
  (.block 0 (.loop (.seq (.region [⟨(some 18), .bin .lss (.t 17) (.t 16), none⟩])
  (.seq (.cond (.t 18) .skip
  (.exit 0))
  (.seq (.block 1 (.seq (.region [⟨(some 19), .iaddr 3 (.t 15) (.t 17), none⟩, ⟨(some 20), .load (some 3) (.t 19), none⟩, ⟨(some 7), .alloc [(.v (.str ⟨#[]⟩)), (.v .zsl), (.v .zsl)], none⟩, ⟨none, .store 3 (.t 7) (.t 20), none⟩])
  (.region [⟨(some 21), .mv (.t 5), none⟩, ⟨(some 22), .faddr 2 (.t 7), none⟩, ⟨(some 23), .load none (.t 22), none⟩, ⟨(some 24), .len (.t 23), none⟩, ⟨(some 25), .bin .add (.t 21) (.t 24), none⟩, ⟨(some 5), .mv (.t 25), none⟩])))
  (.region [⟨(some 26), .bin .add (.t 17) (.c (.v (.int .i64 1))), none⟩, ⟨(some 17), .mv (.t 26), none⟩])))))))
  (.seq (.region [⟨(some 27), .mv (.t 5), none⟩, ⟨(some 4), .mv (.t 27), none⟩])
  .ret))))⟩
theorem a_numc_ok : cFunc Try.prog 86 = some a_numc := by kernel_rfl
def r_numc0 : List (Nat × Nat) := [(5, 5), (7, 7), (17, 26)]
def a_NumC : AFunc := ⟨2, 17, [.tmp 4, .tmp 5],
  (.seq (.region [⟨(some 2), .box (.t 0), none⟩, ⟨(some 3), .box (.t 1), none⟩, ⟨(some 4), .mv (.c (.v (.int .i64 0))), none⟩, ⟨(some 5), .mv (.c (.v (.int .i64 0))), none⟩])
  (.seq (.seq (.region [⟨(some 7), .load (some 1) (.t 2), none⟩, ⟨(some 8), .load (some 2) (.t 3), none⟩, ⟨(some 9), .bslice 2 [(.v (.int .i64 0)), (.v (.int .i64 0))] 1 [(0, (.t 8))], none⟩, ⟨(some 10), .call (.c (.fn 74 [])) [(.t 7), (.t 9)], none⟩, ⟨(some 6), .mv (.t 10), none⟩])
  (.seq (.region [⟨(some 11), .mv (.t 6), none⟩, ⟨(some 12), .bin .neq (.t 11) (.c (.v (.int .i64 0))), none⟩])
  (.cond (.t 12) (.seq (.region [⟨(some 13), .mv (.t 6), none⟩, ⟨(some 4), .mv (.c (.v (.int .i64 0))), none⟩, ⟨(some 5), .mv (.t 13), none⟩])
  .ret)
  .skip)))
  (.seq (.region [⟨(some 14), .load (some 1) (.t 2), none⟩, ⟨(some 15), .load (some 2) (.t 3), none⟩, ⟨(some 16), .call (.c (.fn 86 [])) [(.t 14), (.t 15)], none⟩, ⟨(some 4), .mv (.t 16), none⟩, ⟨(some 5), .mv (.c (.v (.int .i64 0))), none⟩])
  .ret)))⟩
theorem a_NumC_ok : cFunc Try.prog 30 = some a_NumC := by kernel_rfl
def a_ConcC : AFunc := ⟨3, 37, [.tmp 6, .tmp 7],
  (.seq (.region [⟨(some 3), .box (.t 0), none⟩, ⟨(some 4), .box (.t 1), none⟩, ⟨(some 5), .box (.t 2), none⟩, ⟨(some 6), .mv (.c (.v (.bool false))), none⟩, ⟨(some 7), .mv (.c (.v (.int .i64 0))), none⟩])
  (.seq (.seq (.region [⟨(some 10), .load (some 1) (.t 3), none⟩, ⟨(some 11), .load (some 2) (.t 4), none⟩, ⟨(some 12), .load (some 2) (.t 5), none⟩, ⟨(some 13), .bslice 2 [(.v (.int .i64 0)), (.v (.int .i64 0))] 2 [(0, (.t 11)), (1, (.t 12))], none⟩, ⟨(some 14), .call (.c (.fn 74 [])) [(.t 10), (.t 13)], none⟩, ⟨(some 8), .mv (.t 14), none⟩])
  (.seq (.region [⟨(some 15), .mv (.t 8), none⟩, ⟨(some 16), .bin .neq (.t 15) (.c (.v (.int .i64 0))), none⟩])
  (.cond (.t 16) (.seq (.region [⟨(some 17), .mv (.t 8), none⟩, ⟨(some 6), .mv (.c (.v (.bool false))), none⟩, ⟨(some 7), .mv (.t 17), none⟩])
  .ret)
  .skip)))
  (.seq (.region [⟨(some 18), .load (some 1) (.t 3), none⟩, ⟨(some 19), .call (.c (.fn 75 [])) [(.t 18)], none⟩, ⟨(some 9), .alloc [(.v .zsl), (.v .nilm), (.v .nilm)], none⟩, ⟨none, .store 3 (.t 9) (.t 19), none⟩])
  (.seq (.region [⟨(some 20), .load (some 2) (.t 4), none⟩, ⟨(some 21), .load (some 2) (.t 5), none⟩, ⟨(some 22), .eqs true [.i, .i] (.t 20) (.t 21), none⟩, ⟨(some 23), .mv (.t 22), none⟩, ⟨(some 24), .load (some 3) (.t 9), some (23, true)⟩, ⟨(some 25), .load (some 2) (.t 4), some (23, true)⟩, ⟨(some 26), .load (some 2) (.t 5), some (23, true)⟩, ⟨(some 27), .call (.c (.fn 83 [])) [(.t 24), (.t 25), (.t 26)], some (23, true)⟩, ⟨(some 28), .not (.t 27), some (23, true)⟩, ⟨(some 29), .pick (.t 23) (.t 28) (.c (.v (.bool false))), none⟩, ⟨(some 30), .mv (.t 29), none⟩, ⟨(some 31), .load (some 3) (.t 9), some (30, true)⟩, ⟨(some 32), .load (some 2) (.t 5), some (30, true)⟩, ⟨(some 33), .load (some 2) (.t 4), some (30, true)⟩, ⟨(some 34), .call (.c (.fn 83 [])) [(.t 31), (.t 32), (.t 33)], some (30, true)⟩, ⟨(some 35), .not (.t 34), some (30, true)⟩, ⟨(some 36), .pick (.t 30) (.t 35) (.c (.v (.bool false))), none⟩, ⟨(some 6), .mv (.t 36), none⟩, ⟨(some 7), .mv (.c (.v (.int .i64 0))), none⟩])
  .ret))))⟩
theorem a_ConcC_ok : cFunc Try.prog 27 = some a_ConcC := by kernel_rfl
def a_Path1 : AFunc := ⟨2, 12, [.tmp 3],
  (.seq (.region [⟨(some 2), .box (.t 0), none⟩, ⟨(some 3), .mv (.c (.v (.bool false))), none⟩])
  (.seq (.draw [⟨0, ⟨(some 4), .load none (.t 1), none⟩, []⟩, ⟨1, ⟨(some 5), .faddr 0 (.t 2), none⟩, []⟩, ⟨2, ⟨(some 6), .load none (.t 5), none⟩, []⟩, ⟨3, ⟨(some 7), .iaddr 1 (.t 4) (.t 6), none⟩, []⟩, ⟨4, ⟨(some 8), .load none (.t 7), none⟩, []⟩, ⟨5, ⟨(some 9), .faddr 1 (.t 2), none⟩, []⟩, ⟨6, ⟨(some 10), .load none (.t 9), none⟩, []⟩, ⟨7, ⟨(some 11), .bin .geq (.t 8) (.t 10), none⟩, []⟩, ⟨8, ⟨(some 3), .mv (.t 11), none⟩, []⟩])
  .ret))⟩
theorem a_Path1_ok : cFunc Try.prog 84 = some a_Path1 := by kernel_rfl

theorem knext_run (t : Tr) (hv : Vok t) (hS : Small t) (s r : Nat) (x : Nat × Nat) (hx : x ∈ ids t) (b l : List Row) (hr : (b ++ l)[r]? = some (.live 0 0 (mpL t 3 (ids t)))) :
    ACalls Try.prog 85 [kA t s r, idA x] b l (fun r b' l' => (r = .v (.isl 2 ((nextL t x).map eId)) ∨ (nextL t x = [] ∧ r = .v .zsl)) ∧ b' = b ∧ l' = l) := by
  refine calls_kept a_knext_ok rfl (by decide) ?_
  intro B g hB hR hE hA
  simp only [KArgs] at hA
  rw [← hB] at hr
  have hgr := hget_low hr
  obtain ⟨p, i⟩ := x
  obtain ⟨i, rfl⟩ : ∃ k, i = k + 1 := ⟨i - 1, by have := mem_pos hx; simp only at this; omega⟩
  obtain ⟨hp, hi⟩ := mem_ids2.1 hx
  have heo := evsOf_lt hp
  rw [heo] at hi
  have hev := evAt_eq hp hi
  have hne := hS.ne _ (List.getElem_mem hp)
  have ev := kevent_spec t hS s r (p, i + 1) hx
  rw [hev] at ev
  have hck : ((i + 1 : Nat) : Int) + 1 = ((i + 2 : Nat) : Int) := by omega
  have hrc : ∀ o, (t[p].evs[i].kind = 2 → findL t 3 t[p].evs[i].msg = o) → t[p].evs[i].kind = 2 → rcvO t (p, i + 1) = o := by
    intro o ho hk
    unfold rcvO; rw [hev, if_pos hk]; exact ho hk
  by_cases h0 : i + 1 < t[p].evs.length
  · have hd : decide (((i + 1 : Nat) : Int) < (t[p].evs.length : Int)) = true := decide_eq_true (by omega)
    have hrow : rowN t (p, i + 1) = [(p, i + 2)] := by unfold rowN; simp only; rw [heo, if_pos h0]
    simp (disch := (first | decide | omega)) only [a_knext, kA, idA, eT, hA, ePr, hd, List.length_map, List.replicate_succ, List.replicate_zero, reduceCtorEq, hck, go_sem]
    refine ACalls.nxt (ev _ _) ?_
    by_cases hk : t[p].evs[i].kind = 2
    · have hkb : (t[p].evs[i].kind != 2) = false := by rw [hk]; rfl
      have hfm : findM (.one .i) (.v (.int .i64 t[p].evs[i].msg)) (mpL t 3 (ids t)) = some ((findL t 3 t[p].evs[i].msg).map idA) := by rw [findM_mp]; rfl
      cases hf : findL t 3 t[p].evs[i].msg with
      | none =>
        rw [hf] at hfm
        have hn : nextL t (p, i + 1) = [(p, i + 2)] := by unfold nextL; rw [hrc none (fun _ => hf) hk]; exact hrow
        simp only [Option.map_none] at hfm
        simp (disch := (first | decide | omega)) only [hA, eEv, hkb, hgr, hfm, List.replicate_succ, List.replicate_zero, reduceCtorEq, go_sem]
        exact leave_frz (i := 3) (ver := 0) (sz := 2) (n := 1) (rows := [eId (p, i + 2)]) (.inr rfl) (by simp (disch := (first | decide | omega)) only [resVs, resV, hA, go_sem]) rfl rfl hR hB ⟨.inl (by rw [hn]; rfl), rfl, rfl⟩
      | some z =>
        obtain ⟨zp, zi⟩ := z
        rw [hf] at hfm
        simp only [Option.map_some, idA] at hfm
        by_cases hz : zp < p
        · have hn : nextL t (p, i + 1) = [(zp, zi), (p, i + 2)] := by unfold nextL; rw [hrc _ (fun _ => hf) hk]; simp only; rw [if_pos hz, hrow]
          have hzd : decide ((zp : Int) < (p : Int)) = true := decide_eq_true (by omega)
          simp (disch := (first | decide | omega)) only [hA, eEv, hkb, hgr, hfm, hzd, List.replicate_succ, List.replicate_zero, reduceCtorEq, go_sem]
          exact leave_frz (i := 6) (ver := 1) (sz := 2) (n := 2) (rows := [eId (zp, zi), eId (p, i + 2)]) (.inr rfl) (by simp (disch := (first | decide | omega)) only [resVs, resV, hA, go_sem]) rfl rfl hR hB ⟨.inl (by rw [hn]; rfl), rfl, rfl⟩
        · have hn : nextL t (p, i + 1) = [(p, i + 2), (zp, zi)] := by unfold nextL; rw [hrc _ (fun _ => hf) hk]; simp only; rw [if_neg hz, hrow]; rfl
          have hzd : decide ((zp : Int) < (p : Int)) = false := decide_eq_false (by omega)
          simp (disch := (first | decide | omega)) only [hA, eEv, hkb, hgr, hfm, hzd, List.replicate_succ, List.replicate_zero, reduceCtorEq, go_sem]
          exact leave_frz (i := 3) (ver := 1) (sz := 2) (n := 2) (rows := [eId (p, i + 2), eId (zp, zi)]) (.inr rfl) (by simp (disch := (first | decide | omega)) only [resVs, resV, hA, go_sem]) rfl rfl hR hB ⟨.inl (by rw [hn]; rfl), rfl, rfl⟩
    · have hkb : (t[p].evs[i].kind != 2) = true := by rw [bne_iff_ne]; exact hk
      have hn : nextL t (p, i + 1) = [(p, i + 2)] := by unfold nextL rcvO; rw [hev, if_neg hk]; exact hrow
      simp (disch := (first | decide | omega)) only [hA, eEv, hkb, go_sem]
      exact leave_frz (i := 3) (ver := 0) (sz := 2) (n := 1) (rows := [eId (p, i + 2)]) (.inr rfl) (by simp (disch := (first | decide | omega)) only [resVs, resV, hA, go_sem]) rfl rfl hR hB ⟨.inl (by rw [hn]; rfl), rfl, rfl⟩
  · have hd : decide (((i + 1 : Nat) : Int) < (t[p].evs.length : Int)) = false := decide_eq_false (by omega)
    have hrow : rowN t (p, i + 1) = [] := by unfold rowN; simp only; rw [heo, if_neg h0]
    simp (disch := (first | decide | omega)) only [a_knext, kA, idA, eT, hA, ePr, hd, List.length_map, List.replicate_succ, List.replicate_zero, reduceCtorEq, hck, go_sem]
    refine ACalls.nxt (ev _ _) ?_
    by_cases hk : t[p].evs[i].kind = 2
    · have hkb : (t[p].evs[i].kind != 2) = false := by rw [hk]; rfl
      have hfm : findM (.one .i) (.v (.int .i64 t[p].evs[i].msg)) (mpL t 3 (ids t)) = some ((findL t 3 t[p].evs[i].msg).map idA) := by rw [findM_mp]; rfl
      cases hf : findL t 3 t[p].evs[i].msg with
      | none =>
        rw [hf] at hfm
        have hn : nextL t (p, i + 1) = [] := by unfold nextL; rw [hrc none (fun _ => hf) hk]; exact hrow
        simp only [Option.map_none] at hfm
        simp (disch := (first | decide | omega)) only [hA, eEv, hkb, hgr, hfm, List.replicate_succ, List.replicate_zero, reduceCtorEq, go_sem]
        exact leave_pure (xs := [.v .zsl]) (.inr rfl) (by simp (disch := (first | decide | omega)) only [resVs, resV, go_sem, hA]) (by simp only [one, AVlt_v, AVlt_any, AVlt_sl, AVlt_ptr, AVlt_mp, AVlt_agg, AVlt_tup, AVlt_fn, RowsLt_nil, RowsLt_live, RowsLt_dead, List.mem_cons, List.not_mem_nil, List.forall_mem_cons, List.forall_mem_nil, or_false, false_or, forall_eq_or_imp, forall_eq, vs_lt, Nat.add_lt_add_iff_left, Nat.reduceLT, true_and, and_true, and_self, List.length_cons, List.length_nil, Nat.reduceAdd, Nat.zero_add, implies_true, false_imp_iff, lt_T, List.mem_map]) hR hB ⟨.inr ⟨hn, rfl⟩, rfl, rfl⟩
      | some z =>
        obtain ⟨zp, zi⟩ := z
        rw [hf] at hfm
        simp only [Option.map_some, idA] at hfm
        have hn : nextL t (p, i + 1) = [(zp, zi)] := by unfold nextL; rw [hrc _ (fun _ => hf) hk]; simp only; rw [hrow]; split <;> rfl
        by_cases hz : zp < p
        · have hzd : decide ((zp : Int) < (p : Int)) = true := decide_eq_true (by omega)
          simp (disch := (first | decide | omega)) only [hA, eEv, hkb, hgr, hfm, hzd, List.replicate_succ, List.replicate_zero, reduceCtorEq, go_sem]
          exact leave_frz (i := 4) (ver := 1) (sz := 2) (n := 1) (rows := [eId (zp, zi)]) (.inr rfl) (by simp (disch := (first | decide | omega)) only [resVs, resV, hA, go_sem]) rfl rfl hR hB ⟨.inl (by rw [hn]; rfl), rfl, rfl⟩
        · have hzd : decide ((zp : Int) < (p : Int)) = false := decide_eq_false (by omega)
          simp (disch := (first | decide | omega)) only [hA, eEv, hkb, hgr, hfm, hzd, List.replicate_succ, List.replicate_zero, reduceCtorEq, go_sem]
          exact leave_frz (i := 5) (ver := 0) (sz := 2) (n := 1) (rows := [eId (zp, zi)]) (.inr rfl) (by simp (disch := (first | decide | omega)) only [resVs, resV, hA, go_sem]) rfl rfl hR hB ⟨.inl (by rw [hn]; rfl), rfl, rfl⟩
    · have hkb : (t[p].evs[i].kind != 2) = true := by rw [bne_iff_ne]; exact hk
      have hn : nextL t (p, i + 1) = [] := by unfold nextL rcvO; rw [hev, if_neg hk]; exact hrow
      simp (disch := (first | decide | omega)) only [hA, eEv, hkb, go_sem]
      exact leave_pure (xs := [.v .zsl]) (.inr rfl) (by simp (disch := (first | decide | omega)) only [resVs, resV, go_sem, hA]) (by simp only [one, AVlt_v, AVlt_any, AVlt_sl, AVlt_ptr, AVlt_mp, AVlt_agg, AVlt_tup, AVlt_fn, RowsLt_nil, RowsLt_live, RowsLt_dead, List.mem_cons, List.not_mem_nil, List.forall_mem_cons, List.forall_mem_nil, or_false, false_or, forall_eq_or_imp, forall_eq, vs_lt, Nat.add_lt_add_iff_left, Nat.reduceLT, true_and, and_true, and_self, List.length_cons, List.length_nil, Nat.reduceAdd, Nat.zero_add, implies_true, false_imp_iff, lt_T, List.mem_map]) hR hB ⟨.inr ⟨hn, rfl⟩, rfl, rfl⟩
theorem knext_spec (t : Tr) (hv : Vok t) (hS : Small t) (s r : Nat) (x : Nat × Nat) (hx : x ∈ ids t) (b l : List Row) (hr : (b ++ l)[r]? = some (.live 0 0 (mpL t 3 (ids t)))) :
    ACalls Try.prog 85 [kA t s r, idA x] b l (fun r b' l' => r = .v (.isl 2 ((nextL t x).map eId)) ∧ b' = b ∧ l' = l) := by
  refine ACalls.wk (knext_run t hv hS s r x hx b l hr) ?_
  rintro y b' l' ⟨hres, rfl, rfl⟩
  refine ⟨.v (.isl 2 ((nextL t x).map eId)), fun w F L v h => ?_, rfl, rfl, rfl⟩
  rcases hres with rfl | ⟨he, rfl⟩
  · exact h
  · rw [he]; exact zw1_rep (sz := 2) h
/-- The number of an event. -/
def numN (t : Tr) (x : Nat × Nat) : Nat := evN t x.1 + (x.2 - 1)
theorem numN_at {t : Tr} {x : Nat × Nat} (hx : x ∈ ids t) : ∃ h : numN t x < (ids t).length, (ids t)[numN t x] = x := by
  obtain ⟨p, i⟩ := x
  obtain ⟨i, rfl⟩ : ∃ k, i = k + 1 := ⟨i - 1, by have := mem_pos hx; simp only at this; omega⟩
  obtain ⟨hp, hi⟩ := mem_ids2.1 hx
  rw [evsOf_lt hp] at hi
  have := ids_at hp hi
  obtain ⟨h1, h2⟩ := List.getElem?_eq_some_iff.1 this
  exact ⟨h1, h2⟩
theorem numc_spec (t : Tr) (hn : t.length ≤ 20) (he : ∀ x ∈ t, x.evs.length ≤ 70) (x : Nat × Nat) (hx : x ∈ ids t) (b l : List Row) :
    ACalls Try.prog 86 [.agg [.v (eT t)], idA x] b l (fun r b' l' => r = .v (.int .i64 (numN t x : Nat)) ∧ b' = b ∧ l' = l) := by
  refine calls_kept a_numc_ok rfl (by decide) ?_
  intro B g hB hR hE hA
  simp only [KArgs] at hA
  obtain ⟨p, i⟩ := x
  obtain ⟨i, rfl⟩ : ∃ k, i = k + 1 := ⟨i - 1, by have := mem_pos hx; simp only at this; omega⟩
  obtain ⟨hp, hi⟩ := mem_ids2.1 hx
  rw [evsOf_lt hp] at hi
  have hie := he _ (List.getElem_mem hp)
  have hc : ((i + 1 : Nat) : Int) - 1 = ((evN t 0 + i : Nat) : Int) := by rw [evN_zero]; omega
  have htk : (List.take p (t.map ePr)).length = p := by simp; omega
  simp (disch := (first | decide | omega)) only [a_numc, hA, idA, eT, hc, htk, List.length_map, go_sem]
  refine loop_kept (ι := Nat) r_numc0 (fun q => [(17, .v (.int .i64 q)), (5, .v (.int .i64 (evN t q + i : Nat)))]) 2 (fun q => [.live 0 1 [[.v (.isl 3 (t.map ePr))]], .live 0 2 [[.v (.int .i64 p), .v (.int .i64 ((i + 1 : Nat) : Int))]]])
    (fun q => q ≤ p) (fun q => p - q) 0 (Nat.zero_le _) (by (repeat (first | exact hE.mono (by omega) | refine KLt.up ?_ (by simp (disch := omega) only [AVlt_v, AVlt_any, AVlt_sl, AVlt_ptr, AVlt_mp, AVlt_agg, AVlt_tup, AVlt_fn, RowsLt_nil, RowsLt_live, RowsLt_dead, List.mem_cons, List.not_mem_nil, List.forall_mem_cons, List.forall_mem_nil, or_false, false_or, forall_eq_or_imp, forall_eq, vs_lt, Nat.add_lt_add_iff_left, Nat.reduceLT, true_and, and_true, and_self, List.length_cons, List.length_nil, Nat.reduceAdd, Nat.zero_add, implies_true, false_imp_iff, lt_T, List.mem_map])))) (by ((try simp (disch := decide) only [hA, go_sem]) <;> (repeat' (first | exact trivial | refine And.intro ?_ ?_)) <;> (first | rfl | (congr 2; omega)))) (fun e => Weak.refl _ _ _) ?_
  intro g1 hE1 hEE1 hg1 q hq
  by_cases hql : q < p
  · have h1 := evN_le he q (by omega)
    have h2 := he _ (List.getElem_mem (show q < t.length by omega))
    have hs := evN_succ (show q < t.length by omega)
    have hinc : ((evN t q + i : Nat) : Int) + (t[q].evs.length : Int) = ((evN t (q + 1) + i : Nat) : Int) := by omega
    have hg : (List.take p (t.map ePr))[q]? = some (ePr t[q]) := by rw [List.getElem?_take_of_lt hql, List.getElem?_map, List.getElem?_eq_getElem (by omega)]; rfl
    simp (disch := (first | decide | omega)) only [hA, hg1, ePr, hg, htk, List.length_map, go_sem]
    refine ⟨q + 1, hql, by simp only; omega, ?_⟩
    exact Weak.kround (p := r_numc0) (k := 2) (by ((repeat refine (kAny_up rfl).trans ?_); exact hEE1)) (by ((try simp (disch := decide) only [hA, hinc, go_sem]) <;> (repeat' (first | exact trivial | refine And.intro ?_ ?_)) <;> (first | rfl | (congr 2; omega)))) rfl hE1 (by simp) (by simp (disch := omega) only [KOvLt, AVlt_v, AVlt_any, AVlt_sl, AVlt_ptr, AVlt_mp, AVlt_agg, AVlt_tup, AVlt_fn, RowsLt_nil, RowsLt_live, RowsLt_dead, List.mem_cons, List.not_mem_nil, List.forall_mem_cons, List.forall_mem_nil, or_false, false_or, forall_eq_or_imp, forall_eq, vs_lt, Nat.add_lt_add_iff_left, Nat.reduceLT, true_and, and_true, and_self, List.length_cons, List.length_nil, Nat.reduceAdd, Nat.zero_add, implies_true, false_imp_iff, lt_T, List.mem_map]) hR (by simp (disch := omega) only [AVlt_v, AVlt_any, AVlt_sl, AVlt_ptr, AVlt_mp, AVlt_agg, AVlt_tup, AVlt_fn, RowsLt_nil, RowsLt_live, RowsLt_dead, List.mem_cons, List.not_mem_nil, List.forall_mem_cons, List.forall_mem_nil, or_false, false_or, forall_eq_or_imp, forall_eq, vs_lt, Nat.add_lt_add_iff_left, Nat.reduceLT, true_and, and_true, and_self, List.length_cons, List.length_nil, Nat.reduceAdd, Nat.zero_add, implies_true, false_imp_iff, lt_T, List.mem_map])
  · obtain rfl : q = p := by omega
    simp (disch := (first | decide | omega)) only [hA, hg1, htk, List.length_map, go_sem]
    exact leave_pure (xs := [.v (.int .i64 (evN t q + i : Nat))]) (.inr rfl) (by simp (disch := (first | decide | omega)) only [resVs, resV, go_sem, hA, hg1]) (by simp only [one, AVlt_v, AVlt_any, AVlt_sl, AVlt_ptr, AVlt_mp, AVlt_agg, AVlt_tup, AVlt_fn, RowsLt_nil, RowsLt_live, RowsLt_dead, List.mem_cons, List.not_mem_nil, List.forall_mem_cons, List.forall_mem_nil, or_false, false_or, forall_eq_or_imp, forall_eq, vs_lt, Nat.add_lt_add_iff_left, Nat.reduceLT, true_and, and_true, and_self, List.length_cons, List.length_nil, Nat.reduceAdd, Nat.zero_add, implies_true, false_imp_iff, lt_T, List.mem_map]) hR hB ⟨rfl, rfl, rfl⟩
noncomputable def numR (t : Tr) (x : Int × Int) : AV := .tup [.v (.int .i64 (if chkE t [x] = 0 then (numN t (x.1.toNat, x.2.toNat) : Int) else 0)), .v (.int .i64 (chkE t [x]))]
theorem NumC_spec (t : Tr) (hS : Small t) (hN : Nm t) (hn : t.length ≤ 20) (he : ∀ x ∈ t, x.evs.length ≤ 70) (x : Int × Int) (b l : List Row) :
    ACalls Try.prog 30 [.agg [.v (eT t)], idP x] b l (fun r b' l' => r = numR t x ∧ b' = b ∧ l' = l) := by
  refine calls_kept a_NumC_ok rfl (by decide) ?_
  intro B g hB hR hE hA
  simp only [KArgs] at hA
  simp (disch := (first | decide | omega)) only [a_NumC, hA, idP, List.replicate_succ, List.replicate_zero, go_sem]
  refine ACalls.frzB (i := 2) (ver := 0) (sz := 2) (rows := [eIdP x]) (args' := [.agg [.v (eT t)], .v (.isl 2 [eIdP x])]) rfl (by simp [frz, frz0]) ?_
  refine ACalls.nxt (check_spec t hS hN [x] (by simp) _ _) ?_
  by_cases h0 : chkE t [x] = 0
  · obtain ⟨hval, hex⟩ := chk_one h0
    obtain ⟨p, i, e1, e2, hx⟩ := existsB_in hex
    obtain ⟨x1, x2⟩ := x
    simp only at e1 e2
    subst e1; subst e2
    have hn0 : ((0 : Int) != 0) = false := rfl
    have hnu := numc_spec t hn he (p, i + 1) hx
    simp only [idA] at hnu
    unfold numR
    rw [h0, if_pos rfl]
    simp (disch := (first | decide | omega)) only [hA, hn0, idP, go_sem]
    refine ACalls.nxt (hnu _ _) ?_
    simp (disch := (first | decide | omega)) only [hA, go_sem]
    exact leave_pure (xs := [.v (.int .i64 (numN t (p, i + 1) : Nat)), .v (.int .i64 0)]) (.inr rfl) (by simp (disch := (first | decide | omega)) only [resVs, resV, go_sem, hA]) (by simp only [one, AVlt_v, AVlt_any, AVlt_sl, AVlt_ptr, AVlt_mp, AVlt_agg, AVlt_tup, AVlt_fn, RowsLt_nil, RowsLt_live, RowsLt_dead, List.mem_cons, List.not_mem_nil, List.forall_mem_cons, List.forall_mem_nil, or_false, false_or, forall_eq_or_imp, forall_eq, vs_lt, Nat.add_lt_add_iff_left, Nat.reduceLT, true_and, and_true, and_self, List.length_cons, List.length_nil, Nat.reduceAdd, Nat.zero_add, implies_true, false_imp_iff, lt_T, List.mem_map]) hR hB ⟨rfl, rfl, rfl⟩
  · have hn0 : (chkE t [x] != 0) = true := by simpa using h0
    unfold numR
    rw [if_neg h0]
    simp (disch := (first | decide | omega)) only [hA, hn0, go_sem]
    exact leave_pure (xs := [.v (.int .i64 0), .v (.int .i64 (chkE t [x]))]) (.inr rfl) (by simp (disch := (first | decide | omega)) only [resVs, resV, go_sem, hA]) (by simp only [one, AVlt_v, AVlt_any, AVlt_sl, AVlt_ptr, AVlt_mp, AVlt_agg, AVlt_tup, AVlt_fn, RowsLt_nil, RowsLt_live, RowsLt_dead, List.mem_cons, List.not_mem_nil, List.forall_mem_cons, List.forall_mem_nil, or_false, false_or, forall_eq_or_imp, forall_eq, vs_lt, Nat.add_lt_add_iff_left, Nat.reduceLT, true_and, and_true, and_self, List.length_cons, List.length_nil, Nat.reduceAdd, Nat.zero_add, implies_true, false_imp_iff, lt_T, List.mem_map]) hR hB ⟨rfl, rfl, rfl⟩
noncomputable def concB2 (t : Tr) (x y : Nat × Nat) : Bool := !(decide (x = y)) && (!befB t x y && !befB t y x)
noncomputable def conR (t : Tr) (x y : Int × Int) : AV := .tup [.v (.bool (decide (chkE t [x, y] = 0) && concB2 t (x.1.toNat, x.2.toNat) (y.1.toNat, y.2.toNat))), .v (.int .i64 (chkE t [x, y]))]
theorem ConcC_spec (t : Tr) (hS : Small t) (hN : Nm t) (hC : validL t = true → (ids t).length ≤ 1000000) (x y : Int × Int) (b l : List Row) :
    ACalls Try.prog 27 [.agg [.v (eT t)], idP x, idP y] b l (fun r b' l' => r = conR t x y ∧ b' = b ∧ l' = l) := by
  refine calls_kept a_ConcC_ok rfl (by decide) ?_
  intro B g hB hR hE hA
  simp only [KArgs] at hA
  simp (disch := (first | decide | omega)) only [a_ConcC, hA, idP, List.replicate_succ, List.replicate_zero, go_sem]
  refine ACalls.frzB (i := 3) (ver := 0) (sz := 2) (rows := [eIdP x, eIdP y]) (args' := [.agg [.v (eT t)], .v (.isl 2 [eIdP x, eIdP y])]) rfl (by simp [frz, frz0]) ?_
  refine ACalls.nxt (check_spec t hS hN [x, y] (by simp) _ _) ?_
  by_cases h0 : chkE t [x, y] = 0
  · obtain ⟨hval, hall⟩ := chkE_zero.1 h0
    have hv := vok hval
    obtain ⟨p, i, e1, e2, hx⟩ := existsB_in (hall x (by simp))
    obtain ⟨q, j, e3, e4, hy⟩ := existsB_in (hall y (by simp))
    obtain ⟨x1, x2⟩ := x
    obtain ⟨y1, y2⟩ := y
    simp only at e1 e2 e3 e4
    subst e1; subst e2; subst e3; subst e4
    have hn0 : ((0 : Int) != 0) = false := rfl
    unfold conR
    rw [h0]
    simp (disch := (first | decide | omega)) only [hA, hn0, idP, go_sem]
    refine ACalls.nxt (knows_spec t hv hS _ _) ?_
    have hb := fun b l s r => before_spec t hv hS (hC hval) s r _ _ hx hy b l
    have hb2 := fun b l s r => before_spec t hv hS (hC hval) s r _ _ hy hx b l
    simp only [idA] at hb hb2
    have heq : (((p : Int) == (q : Int)) && (((i + 1 : Nat) : Int) == ((j + 1 : Nat) : Int))) = decide ((p, i + 1) = (q, j + 1)) := by
      rw [Bool.eq_iff_iff]; simp; omega
    by_cases he : (p, i + 1) = (q, j + 1)
    · rw [decide_eq_true he] at heq
      have hc : concB2 t (p, i + 1) (q, j + 1) = false := by unfold concB2; rw [decide_eq_true he]; rfl
      simp (disch := (first | decide | omega)) only [hA, kA, knoR, heq, go_sem]
      exact leave_pure (xs := [.v (.bool false), .v (.int .i64 0)]) (.inr rfl) (by simp (disch := (first | decide | omega)) only [resVs, resV, go_sem, hA]) (by simp only [one, AVlt_v, AVlt_any, AVlt_sl, AVlt_ptr, AVlt_mp, AVlt_agg, AVlt_tup, AVlt_fn, RowsLt_nil, RowsLt_live, RowsLt_dead, List.mem_cons, List.not_mem_nil, List.forall_mem_cons, List.forall_mem_nil, or_false, false_or, forall_eq_or_imp, forall_eq, vs_lt, Nat.add_lt_add_iff_left, Nat.reduceLT, true_and, and_true, and_self, List.length_cons, List.length_nil, Nat.reduceAdd, Nat.zero_add, implies_true, false_imp_iff, lt_T, List.mem_map]) hR hB ⟨by simp [hc, one], rfl, rfl⟩
    · rw [decide_eq_false he] at heq
      simp (disch := (first | decide | omega)) only [hA, kA, knoR, heq, go_sem]
      refine ACalls.nxt (hb _ _ _ _ (by rw [List.getElem?_append_right (by omega), show B.length + 4 + 2 - B.length = 6 by omega]; rfl) (by rw [List.getElem?_append_right (by omega), show B.length + 4 + 3 - B.length = 7 by omega]; rfl)) ?_
      cases h1 : befB t (p, i + 1) (q, j + 1) with
      | true =>
        have hc : concB2 t (p, i + 1) (q, j + 1) = false := by unfold concB2; rw [h1]; simp
        simp (disch := (first | decide | omega)) only [hA, kA, knoR, heq, go_sem]
        exact leave_pure (xs := [.v (.bool false), .v (.int .i64 0)]) (.inr rfl) (by simp (disch := (first | decide | omega)) only [resVs, resV, go_sem, hA]) (by simp only [one, AVlt_v, AVlt_any, AVlt_sl, AVlt_ptr, AVlt_mp, AVlt_agg, AVlt_tup, AVlt_fn, RowsLt_nil, RowsLt_live, RowsLt_dead, List.mem_cons, List.not_mem_nil, List.forall_mem_cons, List.forall_mem_nil, or_false, false_or, forall_eq_or_imp, forall_eq, vs_lt, Nat.add_lt_add_iff_left, Nat.reduceLT, true_and, and_true, and_self, List.length_cons, List.length_nil, Nat.reduceAdd, Nat.zero_add, implies_true, false_imp_iff, lt_T, List.mem_map]) hR hB ⟨by simp [hc, one], rfl, rfl⟩
      | false =>
        have hc : concB2 t (p, i + 1) (q, j + 1) = !befB t (q, j + 1) (p, i + 1) := by unfold concB2; rw [h1, decide_eq_false he]; simp
        simp (disch := (first | decide | omega)) only [hA, kA, knoR, heq, go_sem]
        refine ACalls.nxt (hb2 _ _ _ _ (by rw [List.getElem?_append_right (by omega), show B.length + 4 + 2 - B.length = 6 by omega]; rfl) (by rw [List.getElem?_append_right (by omega), show B.length + 4 + 3 - B.length = 7 by omega]; rfl)) ?_
        simp (disch := (first | decide | omega)) only [hA, go_sem]
        exact leave_pure (xs := [.v (.bool (!befB t (q, j + 1) (p, i + 1))), .v (.int .i64 0)]) (.inr rfl) (by simp (disch := (first | decide | omega)) only [resVs, resV, go_sem, hA]) (by simp only [one, AVlt_v, AVlt_any, AVlt_sl, AVlt_ptr, AVlt_mp, AVlt_agg, AVlt_tup, AVlt_fn, RowsLt_nil, RowsLt_live, RowsLt_dead, List.mem_cons, List.not_mem_nil, List.forall_mem_cons, List.forall_mem_nil, or_false, false_or, forall_eq_or_imp, forall_eq, vs_lt, Nat.add_lt_add_iff_left, Nat.reduceLT, true_and, and_true, and_self, List.length_cons, List.length_nil, Nat.reduceAdd, Nat.zero_add, implies_true, false_imp_iff, lt_T, List.mem_map]) hR hB ⟨by simp [hc, one], rfl, rfl⟩
  · have hn0 : (chkE t [x, y] != 0) = true := by simpa using h0
    simp (disch := (first | decide | omega)) only [hA, hn0, go_sem]
    exact leave_pure (xs := [.v (.bool false), .v (.int .i64 (chkE t [x, y]))]) (.inr rfl) (by simp (disch := (first | decide | omega)) only [resVs, resV, go_sem, hA]) (by simp only [one, AVlt_v, AVlt_any, AVlt_sl, AVlt_ptr, AVlt_mp, AVlt_agg, AVlt_tup, AVlt_fn, RowsLt_nil, RowsLt_live, RowsLt_dead, List.mem_cons, List.not_mem_nil, List.forall_mem_cons, List.forall_mem_nil, or_false, false_or, forall_eq_or_imp, forall_eq, vs_lt, Nat.add_lt_add_iff_left, Nat.reduceLT, true_and, and_true, and_self, List.length_cons, List.length_nil, Nat.reduceAdd, Nat.zero_add, implies_true, false_imp_iff, lt_T, List.mem_map]) hR hB ⟨by unfold conR; rw [decide_eq_false h0]; rfl, rfl, rfl⟩
theorem path1_spec (t : Tr) (y z : Nat × Nat) (hz : z ∈ ids t) (n : Nat) (b l : List Row) (hn : (b ++ l)[n]? = some (.live 0 1 [[.v (.isl 1 ((vcs t y).map eI))]])) :
    ACalls Try.prog 84 [idA z, .ptr n 0 0 0] b l (fun r b' l' => r = .v (.bool (leadB t y z)) ∧ b' = b ∧ l' = l) := by
  refine calls_kept a_Path1_ok rfl (by decide) ?_
  intro B g hB hR hE hA
  simp only [KArgs] at hA
  rw [← hB] at hn
  have hg := hget_low hn
  obtain ⟨p, i⟩ := z
  have hp := (mem_ids.1 hz).1
  simp only at hp
  have hgt : ((vcs t y).map eI)[p]? = some [.int .i64 (vc t y p)] := by
    unfold vcs; rw [List.getElem?_map, fl_get hp]; rfl
  have hl : leadB t y (p, i) = decide ((vc t y p : Int) ≥ (i : Int)) := by unfold leadB; simp only [decide_eq_decide]; omega
  rw [hl]
  simp (disch := (first | decide | omega)) only [a_Path1, hA, idA, hg, hgt, go_sem]
  exact leave_pure (xs := [.v (.bool (decide ((vc t y p : Int) ≥ (i : Int))))]) (.inr rfl) (by simp (disch := (first | decide | omega)) only [resVs, resV, go_sem, hA]) (by simp only [one, AVlt_v, AVlt_any, AVlt_sl, AVlt_ptr, AVlt_mp, AVlt_agg, AVlt_tup, AVlt_fn, RowsLt_nil, RowsLt_live, RowsLt_dead, List.mem_cons, List.not_mem_nil, List.forall_mem_cons, List.forall_mem_nil, or_false, false_or, forall_eq_or_imp, forall_eq, vs_lt, Nat.add_lt_add_iff_left, Nat.reduceLT, true_and, and_true, and_self, List.length_cons, List.length_nil, Nat.reduceAdd, Nat.zero_add, implies_true, false_imp_iff, lt_T, List.mem_map]) hR hB ⟨rfl, rfl, rfl⟩
end Go.Proofs.Ytnnnccibhhnbaaa

namespace Go.Proofs.Ytnnnccibhhnbaaa
set_option linter.unusedVariables false
set_option linter.unusedSimpArgs false
attribute [local go_sem ↓] run_skip run_region run_draw run_seq run_block run_exit run_ret run_cond atN_app seqC_normal seqC_exit seqC_ret seqQ_normal seqQ_exit seqQ_ret blkQ_normal blkQ_exit blkQ_ret runOps_nil runOps_cons runD_nil runD_cons grdO_true grdO_false grdD_true grdD_false ifC_true ifC_false opS_val opS_call opS_two opK_app dS_val dS_call dS_two dK_app kUp_same kUp_ne
attribute [local go_sem] rechks_nil rechks_cons rechk gcase_true gcase_false ex_val ex_val0 gd_none gd_some ev_t ev_c evs_nil evs_cons evo_some evo_none hget_at hget_first hsetB_at hsetB_first hsetL_at hsetL_first ofOpt_some aop aload astore aslice aappend aiaddr aiaddrA afaddr alen alenS acopy amm acall alookup amupdate alenM comma keyEq apick binV binVB binVS isSh intOp strOp boolOp shOp eqC eqF and2 cellsOf setFrom fillA fillS rd rdI elems mk bounds AV.cell List.all_cons List.all_nil Bool.and_true Bool.true_and Bool.and_self List.length_cons List.length_nil List.length_append Nat.reduceAdd Nat.reduceSub Nat.reduceMul Nat.zero_add Nat.add_zero List.cons_append List.nil_append List.append_assoc List.append_nil List.getElem?_cons_zero List.getElem?_cons_succ List.getElem?_nil List.set_cons_zero List.set_cons_succ List.drop_zero List.drop_succ_cons List.take_zero List.take_succ_cons List.take_nil List.drop_nil List.map_cons List.map_nil Option.map_some if_true if_false Bool.false_eq_true and_self true_and and_true Nat.reduceLeDiff Nat.reduceLT Nat.le_refl Nat.reduceEqDiff ite_true ite_false beq_self_eq_true beq_true beq_false Bool.not_true Bool.not_false Bool.true_beq Bool.false_beq map_vs vs_len vs_get vs_take vs_drop vs_snoc1 vs_snoc2 vs_snoc3 vs_snoc5 vs_set1 vs_set2 vs_rep wrap_id le_T lt_T le_F lt_F leI_T ltI_T leI_F ltI_F geI gtI get_T decide_true decide_false room List.getElem?_map List.length_map List.length_take Int.toNat_natCast Nat.min_def Nat.min_self nth_kOf put_kOf put_kNo kOv_cons kOv_nil KHas KArgs List.getElem_cons_zero List.getElem_cons_succ
def a_PathC : AFunc := ⟨3, 56, [.tmp 6, .tmp 7],
  (.seq (.region [⟨(some 3), .box (.t 0), none⟩, ⟨(some 4), .box (.t 1), none⟩, ⟨(some 5), .box (.t 2), none⟩, ⟨(some 6), .mv (.c (.v .zsl)), none⟩, ⟨(some 7), .mv (.c (.v (.int .i64 0))), none⟩])
  (.seq (.seq (.region [⟨(some 15), .load (some 1) (.t 3), none⟩, ⟨(some 16), .load (some 2) (.t 4), none⟩, ⟨(some 17), .load (some 2) (.t 5), none⟩, ⟨(some 18), .bslice 2 [(.v (.int .i64 0)), (.v (.int .i64 0))] 2 [(0, (.t 16)), (1, (.t 17))], none⟩, ⟨(some 19), .call (.c (.fn 74 [])) [(.t 15), (.t 18)], none⟩, ⟨(some 8), .mv (.t 19), none⟩])
  (.seq (.region [⟨(some 20), .mv (.t 8), none⟩, ⟨(some 21), .bin .neq (.t 20) (.c (.v (.int .i64 0))), none⟩])
  (.cond (.t 21) (.seq (.region [⟨(some 22), .mv (.t 8), none⟩, ⟨(some 6), .mv (.c (.v .zsl)), none⟩, ⟨(some 7), .mv (.t 22), none⟩])
  .ret)
  .skip)))
  (.seq (.region [⟨(some 23), .load (some 1) (.t 3), none⟩, ⟨(some 24), .call (.c (.fn 75 [])) [(.t 23)], none⟩, ⟨(some 9), .alloc [(.v .zsl), (.v .nilm), (.v .nilm)], none⟩, ⟨none, .store 3 (.t 9) (.t 24), none⟩])
  (.seq (.region [⟨(some 25), .load (some 3) (.t 9), none⟩, ⟨(some 26), .load (some 2) (.t 5), none⟩, ⟨(some 27), .call (.c (.fn 77 [])) [(.t 25), (.t 26)], none⟩, ⟨(some 10), .alloc [(.v .zsl)], none⟩, ⟨none, .store 1 (.t 10) (.t 27), none⟩])
  (.seq (.region [⟨(some 28), .mkfn 84 [(.t 10)], none⟩, ⟨(some 11), .mv (.t 28), none⟩])
  (.seq (.seq (.region [⟨(some 29), .mv (.t 11), none⟩, ⟨(some 30), .load (some 2) (.t 4), none⟩, ⟨(some 31), .call (.t 29) [(.t 30)], none⟩, ⟨(some 32), .not (.t 31), none⟩])
  (.cond (.t 32) (.seq (.region [⟨(some 6), .mv (.c (.v .zsl)), none⟩, ⟨(some 7), .mv (.c (.v (.int .i64 7))), none⟩])
  .ret)
  .skip))
  (.seq (.region [⟨(some 33), .load (some 2) (.t 4), none⟩, ⟨(some 34), .bslice 2 [(.v (.int .i64 0)), (.v (.int .i64 0))] 1 [(0, (.t 33))], none⟩, ⟨(some 12), .mv (.t 34), none⟩])
  (.seq (.block 0 (.loop (.seq (.seq (.region [⟨(some 35), .load (some 2) (.t 4), none⟩, ⟨(some 36), .load (some 2) (.t 5), none⟩, ⟨(some 37), .eqs true [.i, .i] (.t 35) (.t 36), none⟩])
  (.cond (.t 37) .skip
  (.exit 0)))
  (.block 1 (.seq (.seq (.region [⟨(some 38), .load (some 3) (.t 9), none⟩, ⟨(some 39), .load (some 2) (.t 4), none⟩, ⟨(some 40), .call (.c (.fn 85 [])) [(.t 38), (.t 39)], none⟩, ⟨(some 41), .len (.t 40), none⟩, ⟨(some 42), .mv (.c (.v (.int .i64 0))), none⟩])
  (.block 2 (.loop (.seq (.region [⟨(some 43), .bin .lss (.t 42) (.t 41), none⟩])
  (.seq (.cond (.t 43) .skip
  (.exit 2))
  (.seq (.block 3 (.seq (.region [⟨(some 44), .iaddr 2 (.t 40) (.t 42), none⟩, ⟨(some 45), .load (some 2) (.t 44), none⟩, ⟨(some 14), .alloc [(.v (.int .i64 0)), (.v (.int .i64 0))], none⟩, ⟨none, .store 2 (.t 14) (.t 45), none⟩])
  (.seq (.region [⟨(some 46), .mv (.t 11), none⟩, ⟨(some 47), .load (some 2) (.t 14), none⟩, ⟨(some 48), .call (.t 46) [(.t 47)], none⟩])
  (.cond (.t 48) (.seq (.region [⟨(some 49), .load (some 2) (.t 14), none⟩, ⟨none, .store 2 (.t 4) (.t 49), none⟩])
  (.exit 2))
  .skip))))
  (.region [⟨(some 50), .bin .add (.t 42) (.c (.v (.int .i64 1))), none⟩, ⟨(some 42), .mv (.t 50), none⟩])))))))
  (.region [⟨(some 51), .mv (.t 12), none⟩, ⟨(some 52), .load (some 2) (.t 4), none⟩, ⟨(some 53), .bslice 2 [(.v (.int .i64 0)), (.v (.int .i64 0))] 1 [(0, (.t 52))], none⟩, ⟨(some 54), .append 2 16 (.t 51) (.t 53), none⟩, ⟨(some 12), .mv (.t 54), none⟩]))))))
  (.seq (.region [⟨(some 55), .mv (.t 12), none⟩, ⟨(some 6), .mv (.t 55), none⟩, ⟨(some 7), .mv (.c (.v (.int .i64 0))), none⟩])
  .ret)))))))))⟩
theorem a_PathC_ok : cFunc Try.prog 28 = some a_PathC := by kernel_rfl
def r_PathC0 : List (Nat × Nat) := [(12, 12), (14, 14), (35, 54)]
def r_PathC1 : List (Nat × Nat) := [(14, 14), (42, 50)]

/-- The rows of the walk along a path. -/
noncomputable def pwR (t : Tr) (n : Nat) (y x : Nat × Nat) (D : List (Nat × Nat)) : List Row := [.live 0 1 [[.v (eT t)]], .live 0 2 [[.v (.int .i64 x.1), .v (.int .i64 x.2)]], .live 0 2 [[.v (.int .i64 y.1), .v (.int .i64 y.2)]], .dead 0, .live 0 1 [[.v (eT t)]], .live 0 3 [[.v (eT t), .mp (n + 4 + 2) 0, .mp (n + 4 + 3) 0]], .live 0 0 (mpL t 2 (ids t)), .live 0 0 (mpL t 3 (ids t)), .live 0 3 [[.v (eT t), .mp (n + 4 + 2) 0, .mp (n + 4 + 3) 0]], .live 0 3 [[.v (eT t), .mp (n + 4 + 2) 0, .mp (n + 4 + 3) 0]], .live 0 1 [[.v (.isl 1 ((vcs t y).map eI))]], .live D.length 2 (vs ((D ++ [x]).map eId))]
theorem pwR_len {t : Tr} {n : Nat} {x y : Nat × Nat} {D : List (Nat × Nat)} : (pwR t n y x D).length = 12 := rfl
theorem pwR_lt {t : Tr} {n m : Nat} {x y : Nat × Nat} {D : List (Nat × Nat)} {T : List Row} (h : n + 12 ≤ m) (hT : RowsLt m T) : RowsLt m (pwR t n y x D ++ T) := by
  intro id ver sz els hr row hrow c' hc
  match id, hr with
  | 0, hr => cases hr; simp at hrow; subst hrow; simp at hc; subst hc; exact .v _
  | 1, hr => cases hr; simp at hrow; subst hrow; simp at hc; rcases hc with rfl | rfl <;> exact .v _
  | 2, hr => cases hr; simp at hrow; subst hrow; simp at hc; rcases hc with rfl | rfl <;> exact .v _
  | 3, hr => cases hr
  | 4, hr => cases hr; simp at hrow; subst hrow; simp at hc; subst hc; exact .v _
  | 5, hr => cases hr; simp at hrow; subst hrow; simp at hc; rcases hc with rfl | rfl | rfl <;> first | exact .v _ | exact .mp _ _ (by omega)
  | 6, hr => cases hr; exact mpL_lt row hrow c' hc
  | 7, hr => cases hr; exact mpL_lt row hrow c' hc
  | 8, hr => cases hr; simp at hrow; subst hrow; simp at hc; rcases hc with rfl | rfl | rfl <;> first | exact .v _ | exact .mp _ _ (by omega)
  | 9, hr => cases hr; simp at hrow; subst hrow; simp at hc; rcases hc with rfl | rfl | rfl <;> first | exact .v _ | exact .mp _ _ (by omega)
  | 10, hr => cases hr; simp at hrow; subst hrow; simp at hc; subst hc; exact .v _
  | 11, hr =>
    cases hr
    obtain ⟨r0, _, rfl⟩ := List.mem_map.1 hrow
    obtain ⟨x0, _, rfl⟩ := List.mem_map.1 hc
    exact .v _
  | id + 12, hr => exact hT id ver sz els hr row hrow c' hc
open Classical in
noncomputable def pathR (t : Tr) (x y : Int × Int) : AV := if chkE t [x, y] = 0 then (if leadB t (y.1.toNat, y.2.toNat) (x.1.toNat, x.2.toNat) = true then .tup [.v (.isl 2 ((pathL t (x.1.toNat, x.2.toNat) (y.1.toNat, y.2.toNat)).map eId)), .v (.int .i64 0)] else .tup [.v .zsl, .v (.int .i64 7)]) else .tup [.v .zsl, .v (.int .i64 (chkE t [x, y]))]
theorem PathC_spec (t : Tr) (hS : Small t) (hN : Nm t) (hC : validL t = true → (ids t).length ≤ 1000000) (x y : Int × Int) (b l : List Row) :
    ACalls Try.prog 28 [.agg [.v (eT t)], idP x, idP y] b l (fun r b' l' => r = pathR t x y ∧ b' = b ∧ l' = l) := by
  refine calls_kept a_PathC_ok rfl (by decide) ?_
  intro B g hB hR hE hA
  simp only [KArgs] at hA
  simp (disch := (first | decide | omega)) only [a_PathC, hA, idP, List.replicate_succ, List.replicate_zero, go_sem]
  refine ACalls.frzB (i := 3) (ver := 0) (sz := 2) (rows := [eIdP x, eIdP y]) (args' := [.agg [.v (eT t)], .v (.isl 2 [eIdP x, eIdP y])]) rfl (by simp [frz, frz0]) ?_
  refine ACalls.nxt (check_spec t hS hN [x, y] (by simp) _ _) ?_
  by_cases h0 : chkE t [x, y] = 0
  case neg =>
    have hn0 : (chkE t [x, y] != 0) = true := by simpa using h0
    unfold pathR
    rw [if_neg h0]
    simp (disch := (first | decide | omega)) only [hA, hn0, go_sem]
    exact leave_pure (xs := [.v .zsl, .v (.int .i64 (chkE t [x, y]))]) (.inr rfl) (by simp (disch := (first | decide | omega)) only [resVs, resV, go_sem, hA]) (by simp only [one, AVlt_v, AVlt_any, AVlt_sl, AVlt_ptr, AVlt_mp, AVlt_agg, AVlt_tup, AVlt_fn, RowsLt_nil, RowsLt_live, RowsLt_dead, List.mem_cons, List.not_mem_nil, List.forall_mem_cons, List.forall_mem_nil, or_false, false_or, forall_eq_or_imp, forall_eq, vs_lt, Nat.add_lt_add_iff_left, Nat.reduceLT, true_and, and_true, and_self, List.length_cons, List.length_nil, Nat.reduceAdd, Nat.zero_add, implies_true, false_imp_iff, lt_T, List.mem_map]) hR hB ⟨rfl, rfl, rfl⟩
  obtain ⟨hval, hall⟩ := chkE_zero.1 h0
  have hv := vok hval
  obtain ⟨p0, i0, e1, e2, hx0⟩ := existsB_in (hall x (by simp))
  obtain ⟨q, j, e3, e4, hy⟩ := existsB_in (hall y (by simp))
  obtain ⟨x1, x2⟩ := x
  obtain ⟨y1, y2⟩ := y
  simp only at e1 e2 e3 e4
  subst e1; subst e2; subst e3; subst e4
  have hn0 : ((0 : Int) != 0) = false := rfl
  unfold pathR
  rw [h0, if_pos rfl]
  simp only [Int.toNat_natCast]
  have hpa := fun b l s r => past_run t hv hS (hC hval) s r (q, j + 1) hy b l
  have hle0 := path1_spec t (q, j + 1) (p0, i0 + 1) hx0
  simp only [idA] at hpa hle0
  simp (disch := (first | decide | omega)) only [hA, hn0, idP, go_sem]
  refine ACalls.nxt (knows_spec t hv hS _ _) ?_
  simp (disch := (first | decide | omega)) only [hA, kA, knoR, go_sem]
  refine ACalls.nxt (hpa _ _ (B.length + 4 + 2) (B.length + 4 + 3) (by rw [List.getElem?_append_right (by omega), show B.length + 4 + 2 - B.length = 6 by omega]; rfl) (by rw [List.getElem?_append_right (by omega), show B.length + 4 + 3 - B.length = 7 by omega]; rfl)) ?_
  simp (disch := (first | decide | omega)) only [hA, go_sem]
  refine ACalls.nxt (hle0 _ _ _ (by rw [List.getElem?_append_right (by omega), Nat.add_sub_cancel_left]; rfl)) ?_
  cases hlb : leadB t (q, j + 1) (p0, i0 + 1) with
  | false =>
    simp (disch := (first | decide | omega)) only [hA, Bool.false_eq_true, if_false, go_sem]
    exact leave_pure (xs := [.v .zsl, .v (.int .i64 7)]) (.inr rfl) (by simp (disch := (first | decide | omega)) only [resVs, resV, go_sem, hA]) (by simp only [one, AVlt_v, AVlt_any, AVlt_sl, AVlt_ptr, AVlt_mp, AVlt_agg, AVlt_tup, AVlt_fn, RowsLt_nil, RowsLt_live, RowsLt_dead, List.mem_cons, List.not_mem_nil, List.forall_mem_cons, List.forall_mem_nil, or_false, false_or, forall_eq_or_imp, forall_eq, vs_lt, Nat.add_lt_add_iff_left, Nat.reduceLT, true_and, and_true, and_self, List.length_cons, List.length_nil, Nat.reduceAdd, Nat.zero_add, implies_true, false_imp_iff, lt_T, List.mem_map]) hR hB ⟨rfl, rfl, rfl⟩
  | true =>
    have hl0 := (leadB_iff hv hx0).1 hlb
    simp (disch := (first | decide | omega)) only [hA, if_true, List.replicate_succ, List.replicate_zero, go_sem]
    refine loop_kept (ι := (Nat × Nat) × Nat × List (Nat × Nat)) r_PathC0 (fun i => [(12, .sl (B.length + 11) i.2.2.length 0 (i.2.2.length + 1))]) 12 (fun i => pwR t B.length (q, j + 1) i.1 i.2.2)
      (fun i => PathOk t (p0, i0 + 1) (q, j + 1) i.1 i.2.1 i.2.2 ∧ i.2.2.length + i.2.1 ≤ 1000000) (fun i => i.2.1) ((p0, i0 + 1), (ids t).length, []) ⟨.start hv hx0 hl0, by have := hC hval; simpa using this⟩ (by (repeat (first | exact hE.mono (by omega) | refine KLt.up ?_ (by simp (disch := omega) only [AVlt_v, AVlt_any, AVlt_sl, AVlt_ptr, AVlt_mp, AVlt_agg, AVlt_tup, AVlt_fn, RowsLt_nil, RowsLt_live, RowsLt_dead, List.mem_cons, List.not_mem_nil, List.forall_mem_cons, List.forall_mem_nil, or_false, false_or, forall_eq_or_imp, forall_eq, vs_lt, Nat.add_lt_add_iff_left, Nat.reduceLT, true_and, and_true, and_self, List.length_cons, List.length_nil, Nat.reduceAdd, Nat.zero_add, implies_true, false_imp_iff, lt_T, List.mem_map])))) (by ((try simp (disch := decide) only [hA, go_sem]) <;> (repeat' (first | exact trivial | refine And.intro ?_ ?_)) <;> (first | rfl | (congr 2; omega)))) (fun e => Weak.refl _ _ _) ?_
    rintro g1 hE1 hEE1 hg1 ⟨⟨p, i⟩, n, D⟩ ⟨hok, hbd⟩
    simp only at hok hbd
    have heq : (((p : Int) == (q : Int)) && ((i : Int) == ((j + 1 : Nat) : Int))) = decide ((p, i) = (q, j + 1)) := by
      rw [Bool.eq_iff_iff]; simp; omega
    by_cases he : (p, i) = (q, j + 1)
    · rw [decide_eq_true he] at heq
      simp (disch := (first | decide | omega)) only [hA, hg1, pwR, heq, go_sem]
      rw [he] at hok
      have hdn := hok.done
      rw [he, hdn]
      exact leave_frz2' (i := 11) (ver := D.length) (sz := 2) (n := D.length + 1) (rows := (pathL t (p0, i0 + 1) (q, j + 1)).map eId) (z := .int .i64 0) (.inr rfl) (by simp (disch := (first | decide | omega)) only [resVs, resV, hA, hg1, go_sem]) rfl (by rw [← hdn]; simp) hR hB ⟨rfl, rfl, rfl⟩
    · rw [decide_eq_false he] at heq
      obtain ⟨z, m, hnm, hst, hok2, dz⟩ := hok.step hv hy he
      have hnx := fun L h => knext_spec t hv hS (B.length + 4 + 2) (B.length + 4 + 3) (p, i) hok.mem B L h
      simp only [kA, idA] at hnx
      have hnl : (nextL t (p, i)).length ≤ 3 := by
        unfold nextL rowN
        cases rcvO t (p, i) <;> simp only <;> (repeat' split) <;> simp
      simp (disch := (first | decide | omega)) only [hA, hg1, pwR, heq, go_sem]
      refine ACalls.nxt (hnx _ (by rw [List.getElem?_append_right (by omega), show B.length + 4 + 3 - B.length = 7 by omega]; rfl)) ?_
      simp (disch := (first | decide | omega)) only [hA, hg1, List.length_map, go_sem]
      refine loop_kept (ι := Nat) r_PathC1 (fun k => [(42, .v (.int .i64 k))]) 12 (fun k => pwR t B.length (q, j + 1) (p, i) D)
        (fun k => k ≤ (nextL t (p, i)).length ∧ ∀ a (h : a < (nextL t (p, i)).length), a < k → leadB t (q, j + 1) (nextL t (p, i))[a] = false) (fun k => (nextL t (p, i)).length - k) 0 ⟨Nat.zero_le _, fun a _ h => by omega⟩ (by (repeat (first | exact hE1.mono (by omega) | refine KLt.up ?_ (by simp (disch := omega) only [AVlt_v, AVlt_any, AVlt_sl, AVlt_ptr, AVlt_mp, AVlt_agg, AVlt_tup, AVlt_fn, RowsLt_nil, RowsLt_live, RowsLt_dead, List.mem_cons, List.not_mem_nil, List.forall_mem_cons, List.forall_mem_nil, or_false, false_or, forall_eq_or_imp, forall_eq, vs_lt, Nat.add_lt_add_iff_left, Nat.reduceLT, true_and, and_true, and_self, List.length_cons, List.length_nil, Nat.reduceAdd, Nat.zero_add, implies_true, false_imp_iff, lt_T, List.mem_map])))) (by ((try simp (disch := decide) only [hA, hg1, go_sem]) <;> (repeat' (first | exact trivial | refine And.intro ?_ ?_)) <;> (first | rfl | (congr 2; omega)))) (fun e => Weak.refl _ _ _) ?_
      rintro g2 hE2 hEE2 hg2 k ⟨hk, hbef⟩
      by_cases hkl : k < (nextL t (p, i)).length
      · obtain ⟨⟨wp, wi⟩, hw⟩ : ∃ w, (nextL t (p, i))[k] = w := ⟨_, rfl⟩
        have hwd : Dir t (p, i) (wp, wi) := mem_nextL.1 (by rw [← hw]; exact List.getElem_mem hkl)
        have hwm := hwd.mem hok.mem
        have hgk : ((nextL t (p, i)).map eId)[k]? = some [.int .i64 wp, .int .i64 wi] := by rw [List.getElem?_map, List.getElem?_eq_getElem hkl, hw]; rfl
        have hle := fun n L h => path1_spec t (q, j + 1) (wp, wi) hwm n B L h
        simp only [idA] at hle
        simp (disch := (first | decide | omega)) only [hA, hg1, hg2, pwR, hgk, List.length_map, go_sem]
        refine ACalls.nxt (hle _ _ (by rw [List.getElem?_append_right (by omega), Nat.add_sub_cancel_left]; rfl)) ?_
        cases hlw : leadB t (q, j + 1) (wp, wi) with
        | true =>
          have hzw : z = (wp, wi) := by
            have h1 : stepO t (q, j + 1) (p, i) = some (wp, wi) := by
              unfold stepO
              rw [List.find?_eq_some_iff_getElem]
              refine ⟨hlw, k, hkl, hw, fun a ha => ?_⟩
              rw [hbef a (by omega) ha]; rfl
            rw [hst] at h1
            exact Option.some.inj h1
          subst hzw
          have tk : List.take (D.length + 1) ((D ++ [(p, i)]).map eId) = (D ++ [(p, i)]).map eId := List.take_of_length_le (by simp)
          have ts : (D ++ [(p, i)]).map eId ++ [[.int .i64 wp, .int .i64 wi]] = ((D ++ [(p, i)]) ++ [(wp, wi)]).map eId := by rw [List.map_append (l₁ := D ++ [(p, i)])]; rfl
          have hl2 : (D ++ [(p, i)]).length = D.length + 1 := by simp
          simp (disch := (first | decide | omega)) only [hA, hg1, hg2, tk, ts, List.length_map, List.replicate_succ, List.replicate_zero, go_sem]
          refine ⟨((wp, wi), m, D ++ [(p, i)]), ⟨hok2, by simp only [hl2]; omega⟩, by simp only; omega, ?_⟩
          exact Weak.kround (l1 := pwR t B.length (q, j + 1) (wp, wi) (D ++ [(p, i)])) (p := r_PathC0) (k := 12) (by ((repeat refine (kAny_up rfl).trans ?_); refine (kAny_sub hg2 (kIn_sub rfl)).trans ?_; (repeat refine (kAny_up rfl).trans ?_); exact hEE1)) (by ((try simp (disch := decide) only [hA, hg1, hl2, go_sem]) <;> (repeat' (first | exact trivial | refine And.intro ?_ ?_)) <;> (first | rfl | (congr 2; omega)))) (junk := [.live 0 2 [[.v (.int .i64 wp), .v (.int .i64 wi)]], .live 0 2 [[.v (.int .i64 wp), .v (.int .i64 wi)]]]) (by simp [pwR]) hE1 (by simp [pwR]) (by simp (disch := omega) only [KOvLt, pwR_len, AVlt_v, AVlt_any, AVlt_sl, AVlt_ptr, AVlt_mp, AVlt_agg, AVlt_tup, AVlt_fn, RowsLt_nil, RowsLt_live, RowsLt_dead, List.mem_cons, List.not_mem_nil, List.forall_mem_cons, List.forall_mem_nil, or_false, false_or, forall_eq_or_imp, forall_eq, vs_lt, Nat.add_lt_add_iff_left, Nat.reduceLT, true_and, and_true, and_self, List.length_cons, List.length_nil, Nat.reduceAdd, Nat.zero_add, implies_true, false_imp_iff, lt_T, List.mem_map]) hR (pwR_lt (T := []) (by simp [pwR]) RowsLt_nil)
        | false =>
          simp (disch := (first | decide | omega)) only [hA, hg1, hg2, go_sem]
          refine ⟨k + 1, ⟨hkl, fun a ha h => ?_⟩, by simp only; omega, ?_⟩
          · by_cases hak : a = k
            · subst hak; rw [hw]; exact hlw
            · exact hbef a ha (by omega)
          · exact Weak.kround (l1 := pwR t B.length (q, j + 1) (p, i) D) (p := r_PathC1) (k := 12) (by ((repeat refine (kAny_up rfl).trans ?_); exact hEE2)) (by ((try simp (disch := decide) only [hA, go_sem]) <;> (repeat' (first | exact trivial | refine And.intro ?_ ?_)) <;> (first | rfl | (congr 2; omega)))) rfl hE2 (by simp [pwR]) (by simp (disch := omega) only [KOvLt, pwR_len, AVlt_v, AVlt_any, AVlt_sl, AVlt_ptr, AVlt_mp, AVlt_agg, AVlt_tup, AVlt_fn, RowsLt_nil, RowsLt_live, RowsLt_dead, List.mem_cons, List.not_mem_nil, List.forall_mem_cons, List.forall_mem_nil, or_false, false_or, forall_eq_or_imp, forall_eq, vs_lt, Nat.add_lt_add_iff_left, Nat.reduceLT, true_and, and_true, and_self, List.length_cons, List.length_nil, Nat.reduceAdd, Nat.zero_add, implies_true, false_imp_iff, lt_T, List.mem_map]) hR (pwR_lt (T := []) (by simp [pwR]) RowsLt_nil)
      · exfalso
        unfold stepO at hst
        have h1 := List.mem_of_find?_eq_some hst
        have h2 := List.find?_some hst
        obtain ⟨a, ha, hza⟩ := List.mem_iff_getElem.1 h1
        rw [← hza, hbef a ha (by omega)] at h2
        cases h2
end Go.Proofs.Ytnnnccibhhnbaaa

namespace Go.Proofs.Ytnnnccibhhnbaaa
set_option linter.unusedVariables false
set_option linter.unusedSimpArgs false
attribute [local go_sem ↓] run_skip run_region run_draw run_seq run_block run_exit run_ret run_cond atN_app seqC_normal seqC_exit seqC_ret seqQ_normal seqQ_exit seqQ_ret blkQ_normal blkQ_exit blkQ_ret runOps_nil runOps_cons runD_nil runD_cons grdO_true grdO_false grdD_true grdD_false ifC_true ifC_false opS_val opS_call opS_two opK_app dS_val dS_call dS_two dK_app kUp_same kUp_ne
attribute [local go_sem] rechks_nil rechks_cons rechk gcase_true gcase_false ex_val ex_val0 gd_none gd_some ev_t ev_c evs_nil evs_cons evo_some evo_none hget_at hget_first hsetB_at hsetB_first hsetL_at hsetL_first ofOpt_some aop aload astore aslice aappend aiaddr aiaddrA afaddr alen alenS acopy amm acall alookup amupdate alenM comma keyEq apick binV binVB binVS isSh intOp strOp boolOp shOp eqC eqF and2 cellsOf setFrom fillA fillS rd rdI elems mk bounds AV.cell List.all_cons List.all_nil Bool.and_true Bool.true_and Bool.and_self List.length_cons List.length_nil List.length_append Nat.reduceAdd Nat.reduceSub Nat.reduceMul Nat.zero_add Nat.add_zero List.cons_append List.nil_append List.append_assoc List.append_nil List.getElem?_cons_zero List.getElem?_cons_succ List.getElem?_nil List.set_cons_zero List.set_cons_succ List.drop_zero List.drop_succ_cons List.take_zero List.take_succ_cons List.take_nil List.drop_nil List.map_cons List.map_nil Option.map_some if_true if_false Bool.false_eq_true and_self true_and and_true Nat.reduceLeDiff Nat.reduceLT Nat.le_refl Nat.reduceEqDiff ite_true ite_false beq_self_eq_true beq_true beq_false Bool.not_true Bool.not_false Bool.true_beq Bool.false_beq map_vs vs_len vs_get vs_take vs_drop vs_snoc1 vs_snoc2 vs_snoc3 vs_snoc5 vs_set1 vs_set2 vs_rep wrap_id le_T lt_T le_F lt_F leI_T ltI_T leI_F ltI_F geI gtI get_T decide_true decide_false room List.getElem?_map List.length_map List.length_take Int.toNat_natCast Nat.min_def Nat.min_self nth_kOf put_kOf put_kNo kOv_cons kOv_nil KHas KArgs List.getElem_cons_zero List.getElem_cons_succ
def a_PathsL : AFunc := ⟨3, 322, [.tmp 6],
  (.seq (.region [⟨(some 3), .box (.t 0), none⟩, ⟨(some 4), .box (.t 1), none⟩, ⟨(some 5), .box (.t 2), none⟩, ⟨(some 6), .mv (.c (.v (.bool false))), none⟩])
  (.seq (.seq (.region [⟨(some 28), .call (.c (.fn 13 [])) [], none⟩, ⟨(some 29), .not (.t 28), none⟩])
  (.cond (.t 29) (.seq (.region [⟨(some 6), .mv (.c (.v (.bool false))), none⟩])
  .ret)
  .skip))
  (.seq (.seq (.region [⟨(some 30), .load (some 1) (.t 3), none⟩, ⟨(some 31), .call (.c (.fn 14 [])) [(.t 30)], none⟩, ⟨(some 32), .mv (.t 31), none⟩, ⟨(some 33), .load (some 1) (.t 3), some (32, false)⟩, ⟨(some 34), .call (.c (.fn 15 [])) [(.t 33)], some (32, false)⟩, ⟨(some 35), .not (.t 34), some (32, false)⟩, ⟨(some 36), .pick (.t 32) (.c (.v (.bool true))) (.t 35), none⟩, ⟨(some 37), .mv (.t 36), none⟩, ⟨(some 38), .load (some 1) (.t 3), some (37, false)⟩, ⟨(some 39), .call (.c (.fn 16 [])) [(.t 38)], some (37, false)⟩, ⟨(some 40), .bin .gtr (.t 39) (.c (.v (.int .i64 40))), some (37, false)⟩, ⟨(some 41), .pick (.t 37) (.c (.v (.bool true))) (.t 40), none⟩, ⟨(some 42), .mv (.t 41), none⟩, ⟨(some 43), .load (some 1) (.t 3), some (42, false)⟩, ⟨(some 44), .load (some 2) (.t 4), some (42, false)⟩, ⟨(some 45), .call (.c (.fn 25 [])) [(.t 43), (.t 44)], some (42, false)⟩, ⟨(some 46), .not (.t 45), some (42, false)⟩, ⟨(some 47), .pick (.t 42) (.c (.v (.bool true))) (.t 46), none⟩, ⟨(some 48), .mv (.t 47), none⟩, ⟨(some 49), .load (some 1) (.t 3), some (48, false)⟩, ⟨(some 50), .load (some 2) (.t 5), some (48, false)⟩, ⟨(some 51), .call (.c (.fn 25 [])) [(.t 49), (.t 50)], some (48, false)⟩, ⟨(some 52), .not (.t 51), some (48, false)⟩, ⟨(some 53), .pick (.t 48) (.c (.v (.bool true))) (.t 52), none⟩])
  (.cond (.t 53) (.seq (.region [⟨(some 6), .mv (.c (.v (.bool true))), none⟩])
  .ret)
  .skip))
  (.seq (.region [⟨(some 55), .load (some 1) (.t 3), none⟩, ⟨(some 56), .load (some 2) (.t 4), none⟩, ⟨(some 57), .load (some 2) (.t 5), none⟩, ⟨(some 58), .call (.c (.fn 26 [])) [(.t 55), (.t 56), (.t 57)], none⟩, ⟨(some 54), .mv (.t 58), none⟩, ⟨(some 59), .extract 0 (.t 54), none⟩, ⟨(some 60), .extract 1 (.t 54), none⟩, ⟨(some 7), .mv (.t 59), none⟩, ⟨(some 8), .mv (.t 60), none⟩])
  (.seq (.region [⟨(some 62), .load (some 1) (.t 3), none⟩, ⟨(some 63), .load (some 2) (.t 5), none⟩, ⟨(some 64), .load (some 2) (.t 4), none⟩, ⟨(some 65), .call (.c (.fn 26 [])) [(.t 62), (.t 63), (.t 64)], none⟩, ⟨(some 61), .mv (.t 65), none⟩, ⟨(some 66), .extract 0 (.t 61), none⟩, ⟨(some 67), .extract 1 (.t 61), none⟩, ⟨(some 9), .mv (.t 66), none⟩, ⟨(some 10), .mv (.t 67), none⟩])
  (.seq (.region [⟨(some 69), .load (some 1) (.t 3), none⟩, ⟨(some 70), .load (some 2) (.t 4), none⟩, ⟨(some 71), .load (some 2) (.t 5), none⟩, ⟨(some 72), .call (.c (.fn 27 [])) [(.t 69), (.t 70), (.t 71)], none⟩, ⟨(some 68), .mv (.t 72), none⟩, ⟨(some 73), .extract 0 (.t 68), none⟩, ⟨(some 74), .extract 1 (.t 68), none⟩, ⟨(some 11), .mv (.t 73), none⟩, ⟨(some 12), .mv (.t 74), none⟩])
  (.seq (.region [⟨(some 76), .load (some 1) (.t 3), none⟩, ⟨(some 77), .load (some 2) (.t 4), none⟩, ⟨(some 78), .load (some 2) (.t 5), none⟩, ⟨(some 79), .call (.c (.fn 28 [])) [(.t 76), (.t 77), (.t 78)], none⟩, ⟨(some 75), .mv (.t 79), none⟩, ⟨(some 80), .extract 0 (.t 75), none⟩, ⟨(some 81), .extract 1 (.t 75), none⟩, ⟨(some 13), .mv (.t 80), none⟩, ⟨(some 14), .mv (.t 81), none⟩])
  (.seq (.region [⟨(some 83), .load (some 1) (.t 3), none⟩, ⟨(some 84), .load (some 2) (.t 4), none⟩, ⟨(some 85), .call (.c (.fn 29 [])) [(.t 83), (.t 84)], none⟩, ⟨(some 82), .mv (.t 85), none⟩, ⟨(some 86), .extract 0 (.t 82), none⟩, ⟨(some 87), .extract 1 (.t 82), none⟩, ⟨(some 15), .mv (.t 86), none⟩, ⟨(some 16), .mv (.t 87), none⟩])
  (.seq (.region [⟨(some 89), .load (some 1) (.t 3), none⟩, ⟨(some 90), .load (some 2) (.t 5), none⟩, ⟨(some 91), .call (.c (.fn 29 [])) [(.t 89), (.t 90)], none⟩, ⟨(some 88), .mv (.t 91), none⟩, ⟨(some 92), .extract 0 (.t 88), none⟩, ⟨(some 93), .extract 1 (.t 88), none⟩, ⟨(some 17), .mv (.t 92), none⟩, ⟨(some 18), .mv (.t 93), none⟩])
  (.seq (.region [⟨(some 95), .load (some 1) (.t 3), none⟩, ⟨(some 96), .call (.c (.fn 17 [])) [(.t 95)], none⟩, ⟨(some 94), .mv (.t 96), none⟩, ⟨(some 97), .extract 0 (.t 94), none⟩, ⟨(some 98), .extract 1 (.t 94), none⟩, ⟨(some 19), .alloc [(.v .zsl)], none⟩, ⟨none, .store 1 (.t 19) (.t 97), none⟩, ⟨(some 20), .mv (.t 98), none⟩])
  (.seq (.region [⟨(some 100), .load (some 1) (.t 3), none⟩, ⟨(some 101), .load (some 2) (.t 4), none⟩, ⟨(some 102), .call (.c (.fn 30 [])) [(.t 100), (.t 101)], none⟩, ⟨(some 99), .mv (.t 102), none⟩, ⟨(some 103), .extract 0 (.t 99), none⟩, ⟨(some 104), .extract 1 (.t 99), none⟩, ⟨(some 21), .mv (.t 103), none⟩, ⟨(some 22), .mv (.t 104), none⟩])
  (.seq (.region [⟨(some 106), .load (some 1) (.t 3), none⟩, ⟨(some 107), .load (some 2) (.t 5), none⟩, ⟨(some 108), .call (.c (.fn 30 [])) [(.t 106), (.t 107)], none⟩, ⟨(some 105), .mv (.t 108), none⟩, ⟨(some 109), .extract 0 (.t 105), none⟩, ⟨(some 110), .extract 1 (.t 105), none⟩, ⟨(some 23), .mv (.t 109), none⟩, ⟨(some 24), .mv (.t 110), none⟩])
  (.seq (.seq (.region [⟨(some 111), .mv (.t 8), none⟩, ⟨(some 112), .bin .neq (.t 111) (.c (.v (.int .i64 0))), none⟩, ⟨(some 113), .mv (.t 112), none⟩, ⟨(some 114), .mv (.t 10), some (113, false)⟩, ⟨(some 115), .bin .neq (.t 114) (.c (.v (.int .i64 0))), some (113, false)⟩, ⟨(some 116), .pick (.t 113) (.c (.v (.bool true))) (.t 115), none⟩, ⟨(some 117), .mv (.t 116), none⟩, ⟨(some 118), .mv (.t 12), some (117, false)⟩, ⟨(some 119), .bin .neq (.t 118) (.c (.v (.int .i64 0))), some (117, false)⟩, ⟨(some 120), .pick (.t 117) (.c (.v (.bool true))) (.t 119), none⟩, ⟨(some 121), .mv (.t 120), none⟩, ⟨(some 122), .mv (.t 16), some (121, false)⟩, ⟨(some 123), .bin .neq (.t 122) (.c (.v (.int .i64 0))), some (121, false)⟩, ⟨(some 124), .pick (.t 121) (.c (.v (.bool true))) (.t 123), none⟩, ⟨(some 125), .mv (.t 124), none⟩, ⟨(some 126), .mv (.t 18), some (125, false)⟩, ⟨(some 127), .bin .neq (.t 126) (.c (.v (.int .i64 0))), some (125, false)⟩, ⟨(some 128), .pick (.t 125) (.c (.v (.bool true))) (.t 127), none⟩, ⟨(some 129), .mv (.t 128), none⟩, ⟨(some 130), .mv (.t 20), some (129, false)⟩, ⟨(some 131), .bin .neq (.t 130) (.c (.v (.int .i64 0))), some (129, false)⟩, ⟨(some 132), .pick (.t 129) (.c (.v (.bool true))) (.t 131), none⟩, ⟨(some 133), .mv (.t 132), none⟩, ⟨(some 134), .mv (.t 22), some (133, false)⟩, ⟨(some 135), .bin .neq (.t 134) (.c (.v (.int .i64 0))), some (133, false)⟩, ⟨(some 136), .pick (.t 133) (.c (.v (.bool true))) (.t 135), none⟩, ⟨(some 137), .mv (.t 136), none⟩, ⟨(some 138), .mv (.t 24), some (137, false)⟩, ⟨(some 139), .bin .neq (.t 138) (.c (.v (.int .i64 0))), some (137, false)⟩, ⟨(some 140), .pick (.t 137) (.c (.v (.bool true))) (.t 139), none⟩, ⟨(some 141), .mv (.t 140), none⟩, ⟨(some 142), .mv (.t 15), some (141, false)⟩, ⟨(some 143), .len (.t 142), some (141, false)⟩, ⟨(some 144), .faddr 0 (.t 3), some (141, false)⟩, ⟨(some 145), .load none (.t 144), some (141, false)⟩, ⟨(some 146), .len (.t 145), some (141, false)⟩, ⟨(some 147), .bin .neq (.t 143) (.t 146), some (141, false)⟩, ⟨(some 148), .pick (.t 141) (.c (.v (.bool true))) (.t 147), none⟩, ⟨(some 149), .mv (.t 148), none⟩, ⟨(some 150), .mv (.t 17), some (149, false)⟩, ⟨(some 151), .len (.t 150), some (149, false)⟩, ⟨(some 152), .mv (.t 15), some (149, false)⟩, ⟨(some 153), .len (.t 152), some (149, false)⟩, ⟨(some 154), .bin .neq (.t 151) (.t 153), some (149, false)⟩, ⟨(some 155), .pick (.t 149) (.c (.v (.bool true))) (.t 154), none⟩, ⟨(some 156), .mv (.t 155), none⟩, ⟨(some 157), .load (some 1) (.t 19), some (156, false)⟩, ⟨(some 158), .call (.c (.fn 18 [])) [(.t 157)], some (156, false)⟩, ⟨(some 159), .not (.t 158), some (156, false)⟩, ⟨(some 160), .pick (.t 156) (.c (.v (.bool true))) (.t 159), none⟩, ⟨(some 161), .mv (.t 160), none⟩, ⟨(some 162), .mv (.t 21), some (161, false)⟩, ⟨(some 163), .bin .lss (.t 162) (.c (.v (.int .i64 0))), some (161, false)⟩, ⟨(some 164), .pick (.t 161) (.c (.v (.bool true))) (.t 163), none⟩, ⟨(some 165), .mv (.t 164), none⟩, ⟨(some 166), .mv (.t 21), some (165, false)⟩, ⟨(some 167), .faddr 0 (.t 19), some (165, false)⟩, ⟨(some 168), .load none (.t 167), some (165, false)⟩, ⟨(some 169), .len (.t 168), some (165, false)⟩, ⟨(some 170), .bin .geq (.t 166) (.t 169), some (165, false)⟩, ⟨(some 171), .pick (.t 165) (.c (.v (.bool true))) (.t 170), none⟩, ⟨(some 172), .mv (.t 171), none⟩, ⟨(some 173), .mv (.t 23), some (172, false)⟩, ⟨(some 174), .bin .lss (.t 173) (.c (.v (.int .i64 0))), some (172, false)⟩, ⟨(some 175), .pick (.t 172) (.c (.v (.bool true))) (.t 174), none⟩, ⟨(some 176), .mv (.t 175), none⟩, ⟨(some 177), .mv (.t 23), some (176, false)⟩, ⟨(some 178), .faddr 0 (.t 19), some (176, false)⟩, ⟨(some 179), .load none (.t 178), some (176, false)⟩, ⟨(some 180), .len (.t 179), some (176, false)⟩, ⟨(some 181), .bin .geq (.t 177) (.t 180), some (176, false)⟩, ⟨(some 182), .pick (.t 176) (.c (.v (.bool true))) (.t 181), none⟩])
  (.cond (.t 182) (.seq (.region [⟨(some 6), .mv (.c (.v (.bool false))), none⟩])
  .ret)
  .skip))
  (.seq (.seq (.draw [⟨0, ⟨(some 183), .mv (.t 7), none⟩, []⟩, ⟨1, ⟨(some 184), .mv (.t 183), none⟩, []⟩, ⟨2, ⟨(some 185), .mv (.t 9), some (184, true)⟩, []⟩, ⟨3, ⟨(some 186), .pick (.t 184) (.t 185) (.c (.v (.bool false))), none⟩, []⟩, ⟨4, ⟨(some 187), .mv (.t 186), none⟩, []⟩, ⟨5, ⟨(some 188), .mv (.t 11), some (187, false)⟩, []⟩, ⟨6, ⟨(some 189), .mv (.t 7), some (187, false)⟩, []⟩, ⟨7, ⟨(some 190), .not (.t 189), some (187, false)⟩, []⟩, ⟨8, ⟨(some 191), .mv (.t 190), some (187, false)⟩, []⟩, ⟨9, ⟨(some 192), .mv (.t 9), some (191, true)⟩, []⟩, ⟨10, ⟨(some 193), .not (.t 192), some (191, true)⟩, []⟩, ⟨11, ⟨(some 194), .pick (.t 191) (.t 193) (.c (.v (.bool false))), some (187, false)⟩, []⟩, ⟨12, ⟨(some 195), .mv (.t 194), some (187, false)⟩, []⟩, ⟨13, ⟨(some 196), .load (some 2) (.t 4), some (195, true)⟩, []⟩, ⟨14, ⟨(some 197), .load (some 2) (.t 5), some (195, true)⟩, []⟩, ⟨15, ⟨(some 198), .eqs true [.i, .i] (.t 196) (.t 197), some (195, true)⟩, []⟩, ⟨16, ⟨(some 199), .pick (.t 195) (.t 198) (.c (.v (.bool false))), some (187, false)⟩, []⟩, ⟨17, ⟨(some 200), .binB .neq (.t 188) (.t 199), some (187, false)⟩, []⟩, ⟨18, ⟨(some 201), .pick (.t 187) (.c (.v (.bool true))) (.t 200), none⟩, []⟩, ⟨19, ⟨(some 202), .mv (.t 201), none⟩, []⟩, ⟨20, ⟨(some 203), .mv (.t 7), some (202, false)⟩, []⟩, ⟨21, ⟨(some 204), .load (some 1) (.t 19), some (202, false)⟩, []⟩, ⟨22, ⟨(some 205), .mv (.t 21), some (202, false)⟩, []⟩, ⟨23, ⟨(some 206), .mv (.t 23), some (202, false)⟩, []⟩, ⟨24, ⟨(some 207), .call (.c (.fn 21 [])) [(.t 204), (.t 205), (.t 206)], some (202, false)⟩, [⟨(some 203), .mv (.t 7), some (202, false)⟩]⟩, ⟨25, ⟨(some 208), .binB .neq (.t 203) (.t 207), some (202, false)⟩, []⟩, ⟨26, ⟨(some 209), .pick (.t 202) (.c (.v (.bool true))) (.t 208), none⟩, []⟩, ⟨27, ⟨(some 210), .mv (.t 209), none⟩, []⟩, ⟨28, ⟨(some 211), .mv (.t 7), some (210, false)⟩, []⟩, ⟨29, ⟨(some 212), .load (some 2) (.t 4), some (210, false)⟩, []⟩, ⟨30, ⟨(some 213), .load (some 2) (.t 5), some (210, false)⟩, []⟩, ⟨31, ⟨(some 214), .eqs true [.i, .i] (.t 212) (.t 213), some (210, false)⟩, []⟩, ⟨32, ⟨(some 215), .mv (.t 214), some (210, false)⟩, []⟩, ⟨33, ⟨(some 216), .faddr 1 (.t 4), some (215, true)⟩, []⟩, ⟨34, ⟨(some 217), .load none (.t 216), some (215, true)⟩, []⟩, ⟨35, ⟨(some 218), .mv (.t 17), some (215, true)⟩, []⟩, ⟨36, ⟨(some 219), .faddr 0 (.t 4), some (215, true)⟩, []⟩, ⟨37, ⟨(some 220), .load none (.t 219), some (215, true)⟩, []⟩, ⟨38, ⟨(some 221), .iaddr 1 (.t 218) (.t 220), some (215, true)⟩, []⟩, ⟨39, ⟨(some 222), .load none (.t 221), some (215, true)⟩, []⟩, ⟨40, ⟨(some 223), .bin .leq (.t 217) (.t 222), some (215, true)⟩, []⟩, ⟨41, ⟨(some 224), .pick (.t 215) (.t 223) (.c (.v (.bool false))), some (210, false)⟩, []⟩, ⟨42, ⟨(some 225), .binB .neq (.t 211) (.t 224), some (210, false)⟩, []⟩, ⟨43, ⟨(some 226), .pick (.t 210) (.c (.v (.bool true))) (.t 225), none⟩, []⟩])
  (.cond (.t 226) (.seq (.region [⟨(some 6), .mv (.c (.v (.bool false))), none⟩])
  .ret)
  .skip))
  (.seq (.region [⟨(some 25), .mv (.c (.v (.bool true))), none⟩])
  (.seq (.seq (.region [⟨(some 227), .mv (.t 15), none⟩, ⟨(some 228), .len (.t 227), none⟩, ⟨(some 229), .mv (.c (.v (.int .i64 0))), none⟩])
  (.block 0 (.loop (.seq (.region [⟨(some 230), .bin .lss (.t 229) (.t 228), none⟩])
  (.seq (.cond (.t 230) .skip
  (.exit 0))
  (.seq (.block 1 (.seq (.region [⟨(some 231), .mv (.t 229), none⟩, ⟨(some 26), .mv (.t 231), none⟩])
  (.draw [⟨0, ⟨(some 232), .mv (.t 25), none⟩, []⟩, ⟨1, ⟨(some 233), .mv (.t 232), none⟩, []⟩, ⟨2, ⟨(some 234), .mv (.t 15), some (233, true)⟩, []⟩, ⟨3, ⟨(some 235), .mv (.t 26), some (233, true)⟩, []⟩, ⟨4, ⟨(some 236), .iaddr 1 (.t 234) (.t 235), some (233, true)⟩, []⟩, ⟨5, ⟨(some 237), .load none (.t 236), some (233, true)⟩, []⟩, ⟨6, ⟨(some 238), .mv (.t 17), some (233, true)⟩, []⟩, ⟨7, ⟨(some 239), .mv (.t 26), some (233, true)⟩, []⟩, ⟨8, ⟨(some 240), .iaddr 1 (.t 238) (.t 239), some (233, true)⟩, []⟩, ⟨9, ⟨(some 241), .load none (.t 240), some (233, true)⟩, []⟩, ⟨10, ⟨(some 242), .bin .leq (.t 237) (.t 241), some (233, true)⟩, []⟩, ⟨11, ⟨(some 243), .pick (.t 233) (.t 242) (.c (.v (.bool false))), none⟩, []⟩, ⟨12, ⟨(some 25), .mv (.t 243), none⟩, []⟩])))
  (.region [⟨(some 244), .bin .add (.t 229) (.c (.v (.int .i64 1))), none⟩, ⟨(some 229), .mv (.t 244), none⟩])))))))
  (.seq (.seq (.region [⟨(some 245), .mv (.t 7), none⟩, ⟨(some 246), .mv (.t 25), none⟩, ⟨(some 247), .mv (.t 246), none⟩, ⟨(some 248), .load (some 2) (.t 4), some (247, true)⟩, ⟨(some 249), .load (some 2) (.t 5), some (247, true)⟩, ⟨(some 250), .eqs true [.i, .i] (.t 248) (.t 249), some (247, true)⟩, ⟨(some 251), .pick (.t 247) (.t 250) (.c (.v (.bool false))), none⟩, ⟨(some 252), .binB .neq (.t 245) (.t 251), none⟩])
  (.cond (.t 252) (.seq (.region [⟨(some 6), .mv (.c (.v (.bool false))), none⟩])
  .ret)
  .skip))
  (.seq (.seq (.region [⟨(some 253), .mv (.t 14), none⟩, ⟨(some 254), .bin .neq (.t 253) (.c (.v (.int .i64 0))), none⟩])
  (.cond (.t 254) (.seq (.region [⟨(some 255), .mv (.t 14), none⟩, ⟨(some 256), .bin .eql (.t 255) (.c (.v (.int .i64 7))), none⟩, ⟨(some 257), .mv (.t 256), none⟩, ⟨(some 258), .mv (.t 7), some (257, true)⟩, ⟨(some 259), .not (.t 258), some (257, true)⟩, ⟨(some 260), .pick (.t 257) (.t 259) (.c (.v (.bool false))), none⟩, ⟨(some 261), .mv (.t 260), none⟩, ⟨(some 262), .load (some 2) (.t 4), some (261, true)⟩, ⟨(some 263), .load (some 2) (.t 5), some (261, true)⟩, ⟨(some 264), .eqs true [.i, .i] (.t 262) (.t 263), some (261, true)⟩, ⟨(some 265), .pick (.t 261) (.t 264) (.c (.v (.bool false))), none⟩, ⟨(some 6), .mv (.t 265), none⟩])
  .ret)
  .skip))
  (.seq (.seq (.draw [⟨0, ⟨(some 266), .mv (.t 7), none⟩, []⟩, ⟨1, ⟨(some 267), .not (.t 266), none⟩, []⟩, ⟨2, ⟨(some 268), .mv (.t 267), none⟩, []⟩, ⟨3, ⟨(some 269), .load (some 2) (.t 4), some (268, true)⟩, []⟩, ⟨4, ⟨(some 270), .load (some 2) (.t 5), some (268, true)⟩, []⟩, ⟨5, ⟨(some 271), .eqs true [.i, .i] (.t 269) (.t 270), some (268, true)⟩, []⟩, ⟨6, ⟨(some 272), .pick (.t 268) (.t 271) (.c (.v (.bool false))), none⟩, []⟩, ⟨7, ⟨(some 273), .mv (.t 272), none⟩, []⟩, ⟨8, ⟨(some 274), .mv (.t 13), some (273, false)⟩, []⟩, ⟨9, ⟨(some 275), .len (.t 274), some (273, false)⟩, []⟩, ⟨10, ⟨(some 276), .bin .eql (.t 275) (.c (.v (.int .i64 0))), some (273, false)⟩, []⟩, ⟨11, ⟨(some 277), .pick (.t 273) (.c (.v (.bool true))) (.t 276), none⟩, []⟩, ⟨12, ⟨(some 278), .mv (.t 277), none⟩, []⟩, ⟨13, ⟨(some 279), .mv (.t 13), some (278, false)⟩, []⟩, ⟨14, ⟨(some 280), .iaddr 2 (.t 279) (.c (.v (.int .i64 0))), some (278, false)⟩, []⟩, ⟨15, ⟨(some 281), .load (some 2) (.t 280), some (278, false)⟩, []⟩, ⟨16, ⟨(some 282), .load (some 2) (.t 4), some (278, false)⟩, []⟩, ⟨17, ⟨(some 283), .eqs true [.i, .i] (.t 281) (.t 282), some (278, false)⟩, []⟩, ⟨18, ⟨(some 284), .pick (.t 278) (.c (.v (.bool true))) (.t 283), none⟩, []⟩, ⟨19, ⟨(some 285), .mv (.t 284), none⟩, []⟩, ⟨20, ⟨(some 286), .mv (.t 13), some (285, false)⟩, []⟩, ⟨21, ⟨(some 287), .mv (.t 13), some (285, false)⟩, []⟩, ⟨22, ⟨(some 288), .len (.t 287), some (285, false)⟩, []⟩, ⟨23, ⟨(some 289), .bin .sub (.t 288) (.c (.v (.int .i64 1))), some (285, false)⟩, []⟩, ⟨24, ⟨(some 290), .iaddr 2 (.t 286) (.t 289), some (285, false)⟩, []⟩, ⟨25, ⟨(some 291), .load (some 2) (.t 290), some (285, false)⟩, []⟩, ⟨26, ⟨(some 292), .load (some 2) (.t 5), some (285, false)⟩, []⟩, ⟨27, ⟨(some 293), .eqs true [.i, .i] (.t 291) (.t 292), some (285, false)⟩, []⟩, ⟨28, ⟨(some 294), .pick (.t 285) (.c (.v (.bool true))) (.t 293), none⟩, []⟩])
  (.cond (.t 294) (.seq (.region [⟨(some 6), .mv (.c (.v (.bool false))), none⟩])
  .ret)
  .skip))
  (.seq (.seq (.region [⟨(some 27), .mv (.c (.v (.int .i64 1))), none⟩])
  (.block 2 (.loop (.seq (.seq (.region [⟨(some 295), .mv (.t 27), none⟩, ⟨(some 296), .mv (.t 13), none⟩, ⟨(some 297), .len (.t 296), none⟩, ⟨(some 298), .bin .lss (.t 295) (.t 297), none⟩])
  (.cond (.t 298) .skip
  (.exit 2)))
  (.seq (.block 3 (.seq (.draw [⟨0, ⟨(some 301), .load (some 1) (.t 3), none⟩, []⟩, ⟨1, ⟨(some 302), .mv (.t 13), none⟩, []⟩, ⟨2, ⟨(some 303), .mv (.t 27), none⟩, []⟩, ⟨3, ⟨(some 304), .iaddr 2 (.t 302) (.t 303), none⟩, []⟩, ⟨4, ⟨(some 305), .load (some 2) (.t 304), none⟩, []⟩, ⟨5, ⟨(some 306), .call (.c (.fn 25 [])) [(.t 301), (.t 305)], none⟩, []⟩, ⟨6, ⟨(some 307), .not (.t 306), none⟩, []⟩, ⟨7, ⟨(some 308), .mv (.t 307), none⟩, []⟩, ⟨8, ⟨(some 309), .load (some 1) (.t 3), some (308, false)⟩, []⟩, ⟨9, ⟨(some 310), .mv (.t 13), some (308, false)⟩, []⟩, ⟨10, ⟨(some 311), .mv (.t 27), some (308, false)⟩, []⟩, ⟨11, ⟨(some 312), .bin .sub (.t 311) (.c (.v (.int .i64 1))), some (308, false)⟩, []⟩, ⟨12, ⟨(some 313), .iaddr 2 (.t 310) (.t 312), some (308, false)⟩, []⟩, ⟨13, ⟨(some 314), .load (some 2) (.t 313), some (308, false)⟩, []⟩, ⟨14, ⟨(some 315), .mv (.t 13), some (308, false)⟩, []⟩, ⟨15, ⟨(some 316), .mv (.t 27), some (308, false)⟩, []⟩, ⟨16, ⟨(some 317), .iaddr 2 (.t 315) (.t 316), some (308, false)⟩, []⟩, ⟨17, ⟨(some 318), .load (some 2) (.t 317), some (308, false)⟩, []⟩, ⟨18, ⟨(some 319), .call (.c (.fn 20 [])) [(.t 309), (.t 314), (.t 318)], some (308, false)⟩, []⟩, ⟨19, ⟨(some 320), .not (.t 319), some (308, false)⟩, []⟩, ⟨20, ⟨(some 321), .pick (.t 308) (.c (.v (.bool true))) (.t 320), none⟩, []⟩])
  (.cond (.t 321) (.seq (.region [⟨(some 6), .mv (.c (.v (.bool false))), none⟩])
  .ret)
  .skip)))
  (.region [⟨(some 299), .mv (.t 27), none⟩, ⟨(some 300), .bin .add (.t 299) (.c (.v (.int .i64 1))), none⟩, ⟨(some 27), .mv (.t 300), none⟩]))))))
  (.seq (.region [⟨(some 6), .mv (.c (.v (.bool true))), none⟩])
  .ret)))))))))))))))))))))⟩
theorem a_PathsL_ok : cFunc Try.prog 4 = some a_PathsL := by kernel_rfl
def r_PathsL0 : List (Nat × Nat) := [(25, 26), (229, 244)]
def r_PathsL1 : List (Nat × Nat) := [(6, 6), (27, 27), (295, 321)]

theorem chk2_ids {t : Tr} (hval : validL t = true) {p i q j : Nat} (hx : (p, i + 1) ∈ ids t) (hy : (q, j + 1) ∈ ids t) : chkE t [((p : Int), ((i + 1 : Nat) : Int)), ((q : Int), ((j + 1 : Nat) : Int))] = 0 :=
  chkE_zero.2 ⟨hval, fun z hz => by
    simp only [List.mem_cons, List.not_mem_nil, or_false] at hz
    rcases hz with rfl | rfl
    · exact existsB_of hx
    · exact existsB_of hy⟩
theorem chk1_ids {t : Tr} (hval : validL t = true) {p i : Nat} (hx : (p, i + 1) ∈ ids t) : chkE t [((p : Int), ((i + 1 : Nat) : Int))] = 0 :=
  chkE_zero.2 ⟨hval, fun z hz => by
    simp only [List.mem_cons, List.not_mem_nil, or_false] at hz
    subst hz
    exact existsB_of hx⟩
theorem befR2 {t : Tr} (hval : validL t = true) {p i q j : Nat} (hx : (p, i + 1) ∈ ids t) (hy : (q, j + 1) ∈ ids t) : befR t ((p : Int), ((i + 1 : Nat) : Int)) ((q : Int), ((j + 1 : Nat) : Int)) = .tup [.v (.bool (befB t (p, i + 1) (q, j + 1))), .v (.int .i64 0)] := by
  unfold befR; rw [chk2_ids hval hx hy]; simp
theorem conR2 {t : Tr} (hval : validL t = true) {p i q j : Nat} (hx : (p, i + 1) ∈ ids t) (hy : (q, j + 1) ∈ ids t) : conR t ((p : Int), ((i + 1 : Nat) : Int)) ((q : Int), ((j + 1 : Nat) : Int)) = .tup [.v (.bool (concB2 t (p, i + 1) (q, j + 1))), .v (.int .i64 0)] := by
  unfold conR; rw [chk2_ids hval hx hy]; simp
theorem pathR2 {t : Tr} (hval : validL t = true) {p i q j : Nat} (hx : (p, i + 1) ∈ ids t) (hy : (q, j + 1) ∈ ids t) : pathR t ((p : Int), ((i + 1 : Nat) : Int)) ((q : Int), ((j + 1 : Nat) : Int)) = .tup [.v (if leadB t (q, j + 1) (p, i + 1) = true then .isl 2 ((pathL t (p, i + 1) (q, j + 1)).map eId) else .zsl), .v (.int .i64 (if leadB t (q, j + 1) (p, i + 1) = true then 0 else 7))] := by
  unfold pathR; rw [chk2_ids hval hx hy]; simp only [if_true, Int.toNat_natCast]; split <;> rfl
theorem pastR2 {t : Tr} (hval : validL t = true) {p i : Nat} (hx : (p, i + 1) ∈ ids t) : pastR t ((p : Int), ((i + 1 : Nat) : Int)) = .tup [.v (.isl 1 ((vcs t (p, i + 1)).map eI)), .v (.int .i64 0)] := by
  unfold pastR; rw [chk1_ids hval hx]; rfl
theorem numR2 {t : Tr} (hval : validL t = true) {p i : Nat} (hx : (p, i + 1) ∈ ids t) : numR t ((p : Int), ((i + 1 : Nat) : Int)) = .tup [.v (.int .i64 (numN t (p, i + 1) : Nat)), .v (.int .i64 0)] := by
  unfold numR; rw [chk1_ids hval hx]; rfl
theorem less_bef {t : Tr} {x y : Nat × Nat} (hx : x ∈ ids t) (hy : y ∈ ids t) : decide (numN t y ∈ relT t (numN t x)) = befB t x y := by
  obtain ⟨h1, h2⟩ := numN_at hx
  obtain ⟨h3, h4⟩ := numN_at hy
  rw [Bool.eq_iff_iff, decide_eq_true_eq, mem_rel, getD_at h1, getD_at h3, h2, h4]
  exact ⟨fun h => h.2, fun h => ⟨h3, h⟩⟩
/-- One past lies inside the other, in the first processes. -/
noncomputable def insB (t : Tr) (x y : Nat × Nat) (a : Nat) : Bool := (List.range a).all fun q => decide (vc t x q ≤ vc t y q)
theorem insB_succ {t : Tr} {x y : Nat × Nat} {a : Nat} : insB t x y (a + 1) = (insB t x y a && decide (vc t x a ≤ vc t y a)) := by
  unfold insB; rw [List.range_succ, List.all_append]; simp
theorem insB_all {t : Tr} (hv : Vok t) {x y : Nat × Nat} (hx : x ∈ ids t) (hy : y ∈ ids t) : insB t x y t.length = leadB t y x := by
  rw [Bool.eq_iff_iff, leadB_iff hv hx]
  unfold insB
  rw [List.all_eq_true]
  constructor
  · intro h
    have := of_decide_eq_true (h x.1 (List.mem_range.2 (mem_ids.1 hx).1))
    rw [le_cnt hx]
    have h2 := (le_cnt hx).1 (Le.refl (t := t) x)
    omega
  · intro h q _
    exact decide_eq_true (vc_mono h q)
theorem bef_lead {t : Tr} {x y : Nat × Nat} : befB t x y = (!(decide (x = y)) && leadB t y x) := rfl
theorem bef_anti {t : Tr} (hv : Vok t) {x y : Nat × Nat} (hx : x ∈ ids t) (hy : y ∈ ids t) (h : befB t x y = true) : befB t y x = false := by
  rw [Bool.eq_false_iff]
  intro h2
  have h3 := ((befB_iff hv hx hy).1 h).trans ((befB_iff hv hy hx).1 h2)
  have := rk_lt hv hx h3
  omega
set_option maxRecDepth 20000 in
set_option maxHeartbeats 8000000 in
theorem causalityPaths_run (t : Tr) (x y : Int × Int) (hN : Nm t) (b l : List Row) :
    ACalls Try.prog 4 [.agg [.v (eT t)], idP x, idP y] b l (fun r b' l' => r = .v (.bool true) ∧ b' = b ∧ l' = l) := by
  refine calls_kept a_PathsL_ok rfl (by decide) ?_
  intro B g hB hR hE hA
  simp only [KArgs] at hA
  simp (disch := decide) only [a_PathsL, hA, idP, go_sem]
  refine ACalls.nxt (awake13_spec _ _) ?_
  simp (disch := decide) only [hA, go_sem]
  refine ACalls.nxt (great_spec t hN _ _) ?_
  cases hgr : grB t with
  | true =>
    simp (disch := decide) only [hA, go_sem]
    exact leave_pure (xs := [.v (.bool true)]) (.inr rfl) (by simp (disch := (first | decide | omega)) only [resVs, resV, go_sem, hA]) (by simp only [one, AVlt_v, AVlt_any, AVlt_sl, AVlt_ptr, AVlt_mp, AVlt_agg, AVlt_tup, AVlt_fn, RowsLt_nil, RowsLt_live, RowsLt_dead, List.mem_cons, List.not_mem_nil, List.forall_mem_cons, List.forall_mem_nil, or_false, false_or, forall_eq_or_imp, forall_eq, vs_lt, Nat.add_lt_add_iff_left, Nat.reduceLT, true_and, and_true, and_self, List.length_cons, List.length_nil, Nat.reduceAdd, Nat.zero_add, implies_true, false_imp_iff, lt_T, List.mem_map]) hR hB ⟨rfl, rfl, rfl⟩
  | false =>
  obtain ⟨s1, s2, hS, s3⟩ := gr_in hgr
  simp (disch := decide) only [hA, go_sem]
  refine ACalls.nxt (rvalid_spec t hS hN _ _) ?_
  cases hval : validL t with
  | false =>
    simp (disch := decide) only [hA, go_sem]
    exact leave_pure (xs := [.v (.bool true)]) (.inr rfl) (by simp (disch := (first | decide | omega)) only [resVs, resV, go_sem, hA]) (by simp only [one, AVlt_v, AVlt_any, AVlt_sl, AVlt_ptr, AVlt_mp, AVlt_agg, AVlt_tup, AVlt_fn, RowsLt_nil, RowsLt_live, RowsLt_dead, List.mem_cons, List.not_mem_nil, List.forall_mem_cons, List.forall_mem_nil, or_false, false_or, forall_eq_or_imp, forall_eq, vs_lt, Nat.add_lt_add_iff_left, Nat.reduceLT, true_and, and_true, and_self, List.length_cons, List.length_nil, Nat.reduceAdd, Nat.zero_add, implies_true, false_imp_iff, lt_T, List.mem_map]) hR hB ⟨rfl, rfl, rfl⟩
  | true =>
  have hv := vok hval
  simp (disch := decide) only [hA, go_sem]
  refine ACalls.nxt (rEvents_spec t s1 s2 _ _) ?_
  by_cases h40 : 40 < (ids t).length
  · have hd : decide ((((ids t).length : Nat) : Int) > 40) = true := decide_eq_true (by omega)
    have hd' : decide ((40 : Int) < (((ids t).length : Nat) : Int)) = true := hd
    simp (disch := (first | decide | omega)) only [hA, hd, hd', go_sem]
    exact leave_pure (xs := [.v (.bool true)]) (.inr rfl) (by simp (disch := (first | decide | omega)) only [resVs, resV, go_sem, hA]) (by simp only [one, AVlt_v, AVlt_any, AVlt_sl, AVlt_ptr, AVlt_mp, AVlt_agg, AVlt_tup, AVlt_fn, RowsLt_nil, RowsLt_live, RowsLt_dead, List.mem_cons, List.not_mem_nil, List.forall_mem_cons, List.forall_mem_nil, or_false, false_or, forall_eq_or_imp, forall_eq, vs_lt, Nat.add_lt_add_iff_left, Nat.reduceLT, true_and, and_true, and_self, List.length_cons, List.length_nil, Nat.reduceAdd, Nat.zero_add, implies_true, false_imp_iff, lt_T, List.mem_map]) hR hB ⟨rfl, rfl, rfl⟩
  have hd : decide ((((ids t).length : Nat) : Int) > 40) = false := decide_eq_false (by omega)
  have hd' : decide ((40 : Int) < (((ids t).length : Nat) : Int)) = false := hd
  have his := fun x b l => rIs_spec t hS x b l
  simp only [idP] at his
  simp (disch := (first | decide | omega)) only [hA, hd, hd', go_sem]
  refine ACalls.nxt (his x _ _) ?_
  cases hex : existsB t x.1 x.2 with
  | false =>
    simp (disch := (first | decide | omega)) only [hA, go_sem]
    exact leave_pure (xs := [.v (.bool true)]) (.inr rfl) (by simp (disch := (first | decide | omega)) only [resVs, resV, go_sem, hA]) (by simp only [one, AVlt_v, AVlt_any, AVlt_sl, AVlt_ptr, AVlt_mp, AVlt_agg, AVlt_tup, AVlt_fn, RowsLt_nil, RowsLt_live, RowsLt_dead, List.mem_cons, List.not_mem_nil, List.forall_mem_cons, List.forall_mem_nil, or_false, false_or, forall_eq_or_imp, forall_eq, vs_lt, Nat.add_lt_add_iff_left, Nat.reduceLT, true_and, and_true, and_self, List.length_cons, List.length_nil, Nat.reduceAdd, Nat.zero_add, implies_true, false_imp_iff, lt_T, List.mem_map]) hR hB ⟨rfl, rfl, rfl⟩
  | true =>
  simp (disch := (first | decide | omega)) only [hA, go_sem]
  refine ACalls.nxt (his y _ _) ?_
  cases hey : existsB t y.1 y.2 with
  | false =>
    simp (disch := (first | decide | omega)) only [hA, go_sem]
    exact leave_pure (xs := [.v (.bool true)]) (.inr rfl) (by simp (disch := (first | decide | omega)) only [resVs, resV, go_sem, hA]) (by simp only [one, AVlt_v, AVlt_any, AVlt_sl, AVlt_ptr, AVlt_mp, AVlt_agg, AVlt_tup, AVlt_fn, RowsLt_nil, RowsLt_live, RowsLt_dead, List.mem_cons, List.not_mem_nil, List.forall_mem_cons, List.forall_mem_nil, or_false, false_or, forall_eq_or_imp, forall_eq, vs_lt, Nat.add_lt_add_iff_left, Nat.reduceLT, true_and, and_true, and_self, List.length_cons, List.length_nil, Nat.reduceAdd, Nat.zero_add, implies_true, false_imp_iff, lt_T, List.mem_map]) hR hB ⟨rfl, rfl, rfl⟩
  | true =>
  obtain ⟨p, i, e1, e2, hx⟩ := existsB_in hex
  obtain ⟨q, j, e3, e4, hy⟩ := existsB_in hey
  obtain ⟨x1, x2⟩ := x
  obtain ⟨y1, y2⟩ := y
  simp only at e1 e2 e3 e4
  subst e1; subst e2; subst e3; subst e4
  have hC : validL t = true → (ids t).length ≤ 1000000 := fun _ => by omega
  have hbe := fun b l => Before_spec t hS hN hC ((p : Int), ((i + 1 : Nat) : Int)) ((q : Int), ((j + 1 : Nat) : Int)) b l
  have hbe2 := fun b l => Before_spec t hS hN hC ((q : Int), ((j + 1 : Nat) : Int)) ((p : Int), ((i + 1 : Nat) : Int)) b l
  have hcc := fun b l => ConcC_spec t hS hN hC ((p : Int), ((i + 1 : Nat) : Int)) ((q : Int), ((j + 1 : Nat) : Int)) b l
  have hpt := fun b l => PathC_spec t hS hN hC ((p : Int), ((i + 1 : Nat) : Int)) ((q : Int), ((j + 1 : Nat) : Int)) b l
  have hp1 := fun b l => PastC_spec t hS hN hC ((p : Int), ((i + 1 : Nat) : Int)) b l
  have hp2 := fun b l => PastC_spec t hS hN hC ((q : Int), ((j + 1 : Nat) : Int)) b l
  have hn1 := fun b l => NumC_spec t hS hN s1 s2 ((p : Int), ((i + 1 : Nat) : Int)) b l
  have hn2 := fun b l => NumC_spec t hS hN s1 s2 ((q : Int), ((j + 1 : Nat) : Int)) b l
  rw [befR2 hval hx hy] at hbe
  rw [befR2 hval hy hx] at hbe2
  rw [conR2 hval hx hy] at hcc
  rw [pathR2 hval hx hy] at hpt
  rw [pastR2 hval hx] at hp1
  rw [pastR2 hval hy] at hp2
  rw [numR2 hval hx] at hn1
  rw [numR2 hval hy] at hn2
  simp only [idP] at hbe hbe2 hcc hpt hp1 hp2 hn1 hn2
  have hord := fun b l => OrderC_run t hv hval hS hN (by omega) b l
  change ∀ b l, ACalls _ _ _ _ _ (fun r b' l' => r = AV.tup [.agg [.v (eRel (ids t).length (relT t))], .v (.int .i64 0)] ∧ b' = b ∧ l' = l) at hord
  have hpos := fun b l => rPoset_spec (ids t).length (relT t) (by omega) (fun i _ => rel_lt i) (fun i _ => rel_irr i) (fun i j k hi h1 h2 => rel_tr hv i j k hi h1 h2) b l
  obtain ⟨nx1, nx2⟩ := numN_at hx
  obtain ⟨ny1, ny2⟩ := numN_at hy
  have hless := fun b l => rLess_spec (ids t).length (relT t) (by omega) (numN t (p, i + 1)) (numN t (q, j + 1)) nx1 b l
  rw [decide_eq_true ny1, Bool.true_and, less_bef hx hy] at hless
  have hlen : (fl (ids t).length fun i => setV (ids t).length (relT t i)).length = (ids t).length := fl_len
  simp only [eRel] at hord hpos hless
  have hn0 : ((0 : Int) != 0) = false := rfl
  have hnn : ∀ n : Int, (n != n) = false := fun n => by simp
  simp (disch := (first | decide | omega)) only [hA, go_sem]
  refine ACalls.nxt (hbe _ _) ?_
  simp (disch := (first | decide | omega)) only [hA, go_sem]
  refine ACalls.nxt (hbe2 _ _) ?_
  simp (disch := (first | decide | omega)) only [hA, go_sem]
  refine ACalls.nxt (hcc _ _) ?_
  simp (disch := (first | decide | omega)) only [hA, go_sem]
  refine ACalls.nxt (hpt _ _) ?_
  simp (disch := (first | decide | omega)) only [hA, go_sem]
  refine ACalls.nxt (hp1 _ _) ?_
  simp (disch := (first | decide | omega)) only [hA, go_sem]
  refine ACalls.nxt (hp2 _ _) ?_
  simp (disch := (first | decide | omega)) only [hA, go_sem]
  refine ACalls.nxt (hord _ _) ?_
  simp (disch := (first | decide | omega)) only [hA, go_sem]
  refine ACalls.nxt (hn1 _ _) ?_
  simp (disch := (first | decide | omega)) only [hA, go_sem]
  refine ACalls.nxt (hn2 _ _) ?_
  have hvl : ∀ z, (vcs t z).length = t.length := fun z => fl_len
  have hm1 : decide (((numN t (p, i + 1) : Nat) : Int) < 0) = false := decide_eq_false (by omega)
  have hm2 : decide (((numN t (q, j + 1) : Nat) : Int) < 0) = false := decide_eq_false (by omega)
  have hm3 : decide (((numN t (p, i + 1) : Nat) : Int) ≥ (((ids t).length : Nat) : Int)) = false := decide_eq_false (by omega)
  have hm4 : decide (((numN t (q, j + 1) : Nat) : Int) ≥ (((ids t).length : Nat) : Int)) = false := decide_eq_false (by omega)
  simp (disch := (first | decide | omega)) only [hA, hn0, hnn, hvl, eT, hlen, List.length_map, go_sem]
  refine ACalls.nxt (hpos _ _) ?_
  simp (disch := (first | decide | omega)) only [hA, hn0, hnn, hvl, eT, hlen, hm1, hm2, hm3, hm4, List.length_map, go_sem]
  have hself : (p, i + 1) = (q, j + 1) → leadB t (q, j + 1) (p, i + 1) = true := fun h => (leadB_iff hv hx).2 (.inl h)
  have hbl := bef_lead (t := t) (x := (p, i + 1)) (y := (q, j + 1))
  have hbl2 := bef_lead (t := t) (x := (q, j + 1)) (y := (p, i + 1))
  have hcb : concB2 t (p, i + 1) (q, j + 1) = (!(decide ((p, i + 1) = (q, j + 1))) && (!befB t (p, i + 1) (q, j + 1) && !befB t (q, j + 1) (p, i + 1))) := rfl
  have hins := insB_all hv hx hy
  have hp := (mem_ids2.1 hx).1
  have hgq : ((vcs t (q, j + 1)).map eI)[p]? = some [.int .i64 (vc t (q, j + 1) p)] := by
    unfold vcs; rw [List.getElem?_map, fl_get hp]; rfl
  have hle : decide (((i + 1 : Nat) : Int) ≤ (vc t (q, j + 1) p : Int)) = leadB t (q, j + 1) (p, i + 1) := by
    unfold leadB; simp only [decide_eq_decide]; omega
  have heq : (((p : Int) == (q : Int)) && (((i + 1 : Nat) : Int) == ((j + 1 : Nat) : Int))) = decide ((p, i + 1) = (q, j + 1)) := by
    rw [Bool.eq_iff_iff]; simp; omega
  have hz0 : Int.toNat 0 = 0 := rfl
  have hga : ∀ z a, a < t.length → ((vcs t z).map eI)[a]? = some [.int .i64 (vc t z a)] := fun z a h => by
    unfold vcs; rw [List.getElem?_map, fl_get h]; rfl
  have hi0 : insB t (p, i + 1) (q, j + 1) 0 = true := rfl
  cases hL : leadB t (q, j + 1) (p, i + 1) with
  | false =>
    have he : (p, i + 1) ≠ (q, j + 1) := fun h => by rw [hself h] at hL; cases hL
    have hB1 : befB t (p, i + 1) (q, j + 1) = false := by rw [hbl, hL, Bool.and_false]
    rw [decide_eq_false he] at heq hcb
    rw [hB1] at hless hcb
    rw [hL] at hle hins
    cases hB2 : befB t (q, j + 1) (p, i + 1)
    all_goals
      rw [hB2] at hcb
      simp only [Bool.not_true, Bool.not_false, Bool.and_true, Bool.and_false] at hcb
      simp (disch := (first | decide | omega)) only [hA, hn0, hnn, hB1, hB2, hcb, hL, heq, go_sem]
      refine ACalls.nxt (hless _ _) ?_
      simp (disch := (first | decide | omega)) only [hA, hn0, hnn, hB1, hB2, hcb, hL, heq, hgq, hle, hvl, List.length_map, go_sem]
      refine loop_kept (ι := Nat) r_PathsL0 (fun a => [(229, .v (.int .i64 a)), (25, .v (.bool (insB t (p, i + 1) (q, j + 1) a)))]) 4 (fun _ => [.live 0 1 [[.v (.isl 3 (t.map ePr))]], .live 0 2 [[.v (.int .i64 p), .v (.int .i64 ((i + 1 : Nat) : Int))]], .live 0 2 [[.v (.int .i64 q), .v (.int .i64 ((j + 1 : Nat) : Int))]], .live 0 1 [[.v (.isl 2 (fl (ids t).length fun i => setV (ids t).length (relT t i)))]]])
        (fun a => a ≤ t.length) (fun a => t.length - a) 0 (Nat.zero_le _) (by (repeat (first | exact hE.mono (by omega) | refine KLt.up ?_ (by simp (disch := omega) only [AVlt_v, AVlt_any, AVlt_sl, AVlt_ptr, AVlt_mp, AVlt_agg, AVlt_tup, AVlt_fn, RowsLt_nil, RowsLt_live, RowsLt_dead, List.mem_cons, List.not_mem_nil, List.forall_mem_cons, List.forall_mem_nil, or_false, false_or, forall_eq_or_imp, forall_eq, vs_lt, Nat.add_lt_add_iff_left, Nat.reduceLT, true_and, and_true, and_self, List.length_cons, List.length_nil, Nat.reduceAdd, Nat.zero_add, implies_true, false_imp_iff, lt_T, List.mem_map])))) (by ((try simp (disch := decide) only [hA, hi0, go_sem]) <;> (repeat' (first | exact trivial | refine And.intro ?_ ?_)) <;> (first | rfl | (congr 2; omega)))) (fun e => Weak.refl _ _ _) ?_
      intro g1 hE1 hEE1 hg1 a ha
      by_cases hal : a < t.length
      · have hg1a := hga (p, i + 1) a hal
        have hg2a := hga (q, j + 1) a hal
        have hsu := insB_succ (t := t) (x := (p, i + 1)) (y := (q, j + 1)) (a := a)
        cases hin : insB t (p, i + 1) (q, j + 1) a with
        | false =>
          rw [hin, Bool.false_and] at hsu
          simp (disch := (first | decide | omega)) only [hA, hg1, hin, go_sem]
          refine ⟨a + 1, hal, by simp only; omega, ?_⟩
          exact Weak.kround (p := r_PathsL0) (k := 4) (by ((repeat refine (kAny_up rfl).trans ?_); exact hEE1)) (by ((try simp (disch := decide) only [hA, hg1, hin, hsu, go_sem]) <;> (repeat' (first | exact trivial | refine And.intro ?_ ?_)) <;> (first | rfl | (congr 2; omega)))) rfl hE1 (by simp) (by simp (disch := omega) only [KOvLt, AVlt_v, AVlt_any, AVlt_sl, AVlt_ptr, AVlt_mp, AVlt_agg, AVlt_tup, AVlt_fn, RowsLt_nil, RowsLt_live, RowsLt_dead, List.mem_cons, List.not_mem_nil, List.forall_mem_cons, List.forall_mem_nil, or_false, false_or, forall_eq_or_imp, forall_eq, vs_lt, Nat.add_lt_add_iff_left, Nat.reduceLT, true_and, and_true, and_self, List.length_cons, List.length_nil, Nat.reduceAdd, Nat.zero_add, implies_true, false_imp_iff, lt_T, List.mem_map]) hR (by simp (disch := omega) only [AVlt_v, AVlt_any, AVlt_sl, AVlt_ptr, AVlt_mp, AVlt_agg, AVlt_tup, AVlt_fn, RowsLt_nil, RowsLt_live, RowsLt_dead, List.mem_cons, List.not_mem_nil, List.forall_mem_cons, List.forall_mem_nil, or_false, false_or, forall_eq_or_imp, forall_eq, vs_lt, Nat.add_lt_add_iff_left, Nat.reduceLT, true_and, and_true, and_self, List.length_cons, List.length_nil, Nat.reduceAdd, Nat.zero_add, implies_true, false_imp_iff, lt_T, List.mem_map])
        | true =>
          rw [hin, Bool.true_and] at hsu
          have hdd : decide ((vc t (p, i + 1) a : Int) ≤ (vc t (q, j + 1) a : Int)) = insB t (p, i + 1) (q, j + 1) (a + 1) := by rw [hsu, decide_eq_decide]; omega
          simp (disch := (first | decide | omega)) only [hA, hg1, hin, hg1a, hg2a, hvl, hdd, List.length_map, go_sem]
          refine ⟨a + 1, hal, by simp only; omega, ?_⟩
          exact Weak.kround (p := r_PathsL0) (k := 4) (by ((repeat refine (kAny_up rfl).trans ?_); exact hEE1)) (by ((try simp (disch := decide) only [hA, hg1, hin, hdd, go_sem]) <;> (repeat' (first | exact trivial | refine And.intro ?_ ?_)) <;> (first | rfl | (congr 2; omega)))) rfl hE1 (by simp) (by simp (disch := omega) only [KOvLt, AVlt_v, AVlt_any, AVlt_sl, AVlt_ptr, AVlt_mp, AVlt_agg, AVlt_tup, AVlt_fn, RowsLt_nil, RowsLt_live, RowsLt_dead, List.mem_cons, List.not_mem_nil, List.forall_mem_cons, List.forall_mem_nil, or_false, false_or, forall_eq_or_imp, forall_eq, vs_lt, Nat.add_lt_add_iff_left, Nat.reduceLT, true_and, and_true, and_self, List.length_cons, List.length_nil, Nat.reduceAdd, Nat.zero_add, implies_true, false_imp_iff, lt_T, List.mem_map]) hR (by simp (disch := omega) only [AVlt_v, AVlt_any, AVlt_sl, AVlt_ptr, AVlt_mp, AVlt_agg, AVlt_tup, AVlt_fn, RowsLt_nil, RowsLt_live, RowsLt_dead, List.mem_cons, List.not_mem_nil, List.forall_mem_cons, List.forall_mem_nil, or_false, false_or, forall_eq_or_imp, forall_eq, vs_lt, Nat.add_lt_add_iff_left, Nat.reduceLT, true_and, and_true, and_self, List.length_cons, List.length_nil, Nat.reduceAdd, Nat.zero_add, implies_true, false_imp_iff, lt_T, List.mem_map])
      · obtain rfl : a = t.length := by omega
        have h7 : ((7 : Int) != 0) = true := rfl
        have h77 : ((7 : Int) == 7) = true := rfl
        simp (disch := (first | decide | omega)) only [hA, hg1, hins, hB1, hL, heq, h7, h77, Bool.false_eq_true, if_false, go_sem]
        exact leave_pure (xs := [.v (.bool true)]) (.inr rfl) (by simp (disch := (first | decide | omega)) only [resVs, resV, go_sem, hA, hg1]) (by simp only [one, AVlt_v, AVlt_any, AVlt_sl, AVlt_ptr, AVlt_mp, AVlt_agg, AVlt_tup, AVlt_fn, RowsLt_nil, RowsLt_live, RowsLt_dead, List.mem_cons, List.not_mem_nil, List.forall_mem_cons, List.forall_mem_nil, or_false, false_or, forall_eq_or_imp, forall_eq, vs_lt, Nat.add_lt_add_iff_left, Nat.reduceLT, true_and, and_true, and_self, List.length_cons, List.length_nil, Nat.reduceAdd, Nat.zero_add, implies_true, false_imp_iff, lt_T, List.mem_map]) hR hB ⟨rfl, rfl, rfl⟩
  | true =>
    obtain ⟨hPI, r, hPr⟩ := pathL_is hv hx hy ((leadB_iff hv hx).1 hL)
    obtain ⟨P, hPe⟩ : ∃ P, pathL t (p, i + 1) (q, j + 1) = P := ⟨_, rfl⟩
    rw [hPe] at hPI hPr
    have hPl : P.length = r.length + 1 := by rw [hPr]; rfl
    have hcl : (((r.length + 1 : Nat) : Int)) - 1 = ((r.length : Nat) : Int) := by omega
    have hp0 : (P.map eId)[0]? = some [.int .i64 p, .int .i64 ((i + 1 : Nat) : Int)] := by rw [hPr]; rfl
    have hpL : (P.map eId)[r.length]? = some [.int .i64 q, .int .i64 ((j + 1 : Nat) : Int)] := by
      have h1 := hPI.1
      rw [List.getLast?_eq_getElem?, hPl, Nat.add_sub_cancel] at h1
      rw [List.getElem?_map, h1]; rfl
    have hmem : ∀ a (h : a < P.length), P[a] ∈ ids t := fun a h => by
      cases a with
      | zero => simp only [hPr, List.getElem_cons_zero]; exact hx
      | succ a => exact (hPI.2 a h).1
    have hrl : r.length ≤ 1000000 := by
      have hn : ∀ n x, (pathF t (q, j + 1) n x).length ≤ n + 1 := by
        intro n
        induction n with
        | zero => intro x; simp [pathF]
        | succ n ih =>
          intro x
          unfold pathF
          split
          · simp
          · split
            · simp
            · rename_i z _
              have := ih z
              simp only [List.length_cons]; omega
      have := hn (ids t).length (p, i + 1)
      have e : pathF t (q, j + 1) (ids t).length (p, i + 1) = P := hPe
      rw [e, hPl] at this
      omega
    have hr0 : ((((r.length + 1 : Nat) : Int)) == 0) = false := by rw [beq_eq_false_iff_ne]; omega
    rw [hL] at hle hins
    have hcases : (befB t (p, i + 1) (q, j + 1) = true ∧ (decide ((p, i + 1) = (q, j + 1))) = false ∧ befB t (q, j + 1) (p, i + 1) = false) ∨ (befB t (p, i + 1) (q, j + 1) = false ∧ (decide ((p, i + 1) = (q, j + 1))) = true ∧ befB t (q, j + 1) (p, i + 1) = false) := by
      by_cases he : (p, i + 1) = (q, j + 1)
      · refine .inr ⟨by rw [hbl, decide_eq_true he]; rfl, decide_eq_true he, by rw [hbl2, decide_eq_true he.symm]; rfl⟩
      · have hB1 : befB t (p, i + 1) (q, j + 1) = true := by rw [hbl, decide_eq_false he, hL]; rfl
        exact .inl ⟨hB1, decide_eq_false he, bef_anti hv hx hy hB1⟩
    rcases hcases with ⟨hB1, hE9, hB2⟩ | ⟨hB1, hE9, hB2⟩
    all_goals
      rw [hE9] at heq hcb
      rw [hB1] at hless hcb
      rw [hB2] at hcb
      simp only [Bool.not_true, Bool.not_false, Bool.and_true, Bool.and_false] at hcb
      simp (disch := (first | decide | omega)) only [hA, hn0, hnn, hB1, hB2, hcb, hL, heq, go_sem]
      refine ACalls.nxt (hless _ _) ?_
      simp (disch := (first | decide | omega)) only [hA, hn0, hnn, hB1, hB2, hcb, hL, heq, hgq, hle, hvl, List.length_map, go_sem]
      refine loop_kept (ι := Nat) r_PathsL0 (fun a => [(229, .v (.int .i64 a)), (25, .v (.bool (insB t (p, i + 1) (q, j + 1) a)))]) 4 (fun _ => [.live 0 1 [[.v (.isl 3 (t.map ePr))]], .live 0 2 [[.v (.int .i64 p), .v (.int .i64 ((i + 1 : Nat) : Int))]], .live 0 2 [[.v (.int .i64 q), .v (.int .i64 ((j + 1 : Nat) : Int))]], .live 0 1 [[.v (.isl 2 (fl (ids t).length fun i => setV (ids t).length (relT t i)))]]])
        (fun a => a ≤ t.length) (fun a => t.length - a) 0 (Nat.zero_le _) (by (repeat (first | exact hE.mono (by omega) | refine KLt.up ?_ (by simp (disch := omega) only [AVlt_v, AVlt_any, AVlt_sl, AVlt_ptr, AVlt_mp, AVlt_agg, AVlt_tup, AVlt_fn, RowsLt_nil, RowsLt_live, RowsLt_dead, List.mem_cons, List.not_mem_nil, List.forall_mem_cons, List.forall_mem_nil, or_false, false_or, forall_eq_or_imp, forall_eq, vs_lt, Nat.add_lt_add_iff_left, Nat.reduceLT, true_and, and_true, and_self, List.length_cons, List.length_nil, Nat.reduceAdd, Nat.zero_add, implies_true, false_imp_iff, lt_T, List.mem_map])))) (by ((try simp (disch := decide) only [hA, hi0, go_sem]) <;> (repeat' (first | exact trivial | refine And.intro ?_ ?_)) <;> (first | rfl | (congr 2; omega)))) (fun e => Weak.refl _ _ _) ?_
      intro g1 hE1 hEE1 hg1 a ha
      by_cases hal : a < t.length
      · have hg1a := hga (p, i + 1) a hal
        have hg2a := hga (q, j + 1) a hal
        have hsu := insB_succ (t := t) (x := (p, i + 1)) (y := (q, j + 1)) (a := a)
        cases hin : insB t (p, i + 1) (q, j + 1) a with
        | false =>
          rw [hin, Bool.false_and] at hsu
          simp (disch := (first | decide | omega)) only [hA, hg1, hin, go_sem]
          refine ⟨a + 1, hal, by simp only; omega, ?_⟩
          exact Weak.kround (p := r_PathsL0) (k := 4) (by ((repeat refine (kAny_up rfl).trans ?_); exact hEE1)) (by ((try simp (disch := decide) only [hA, hg1, hin, hsu, go_sem]) <;> (repeat' (first | exact trivial | refine And.intro ?_ ?_)) <;> (first | rfl | (congr 2; omega)))) rfl hE1 (by simp) (by simp (disch := omega) only [KOvLt, AVlt_v, AVlt_any, AVlt_sl, AVlt_ptr, AVlt_mp, AVlt_agg, AVlt_tup, AVlt_fn, RowsLt_nil, RowsLt_live, RowsLt_dead, List.mem_cons, List.not_mem_nil, List.forall_mem_cons, List.forall_mem_nil, or_false, false_or, forall_eq_or_imp, forall_eq, vs_lt, Nat.add_lt_add_iff_left, Nat.reduceLT, true_and, and_true, and_self, List.length_cons, List.length_nil, Nat.reduceAdd, Nat.zero_add, implies_true, false_imp_iff, lt_T, List.mem_map]) hR (by simp (disch := omega) only [AVlt_v, AVlt_any, AVlt_sl, AVlt_ptr, AVlt_mp, AVlt_agg, AVlt_tup, AVlt_fn, RowsLt_nil, RowsLt_live, RowsLt_dead, List.mem_cons, List.not_mem_nil, List.forall_mem_cons, List.forall_mem_nil, or_false, false_or, forall_eq_or_imp, forall_eq, vs_lt, Nat.add_lt_add_iff_left, Nat.reduceLT, true_and, and_true, and_self, List.length_cons, List.length_nil, Nat.reduceAdd, Nat.zero_add, implies_true, false_imp_iff, lt_T, List.mem_map])
        | true =>
          rw [hin, Bool.true_and] at hsu
          have hdd : decide ((vc t (p, i + 1) a : Int) ≤ (vc t (q, j + 1) a : Int)) = insB t (p, i + 1) (q, j + 1) (a + 1) := by rw [hsu, decide_eq_decide]; omega
          simp (disch := (first | decide | omega)) only [hA, hg1, hin, hg1a, hg2a, hvl, hdd, List.length_map, go_sem]
          refine ⟨a + 1, hal, by simp only; omega, ?_⟩
          exact Weak.kround (p := r_PathsL0) (k := 4) (by ((repeat refine (kAny_up rfl).trans ?_); exact hEE1)) (by ((try simp (disch := decide) only [hA, hg1, hin, hdd, go_sem]) <;> (repeat' (first | exact trivial | refine And.intro ?_ ?_)) <;> (first | rfl | (congr 2; omega)))) rfl hE1 (by simp) (by simp (disch := omega) only [KOvLt, AVlt_v, AVlt_any, AVlt_sl, AVlt_ptr, AVlt_mp, AVlt_agg, AVlt_tup, AVlt_fn, RowsLt_nil, RowsLt_live, RowsLt_dead, List.mem_cons, List.not_mem_nil, List.forall_mem_cons, List.forall_mem_nil, or_false, false_or, forall_eq_or_imp, forall_eq, vs_lt, Nat.add_lt_add_iff_left, Nat.reduceLT, true_and, and_true, and_self, List.length_cons, List.length_nil, Nat.reduceAdd, Nat.zero_add, implies_true, false_imp_iff, lt_T, List.mem_map]) hR (by simp (disch := omega) only [AVlt_v, AVlt_any, AVlt_sl, AVlt_ptr, AVlt_mp, AVlt_agg, AVlt_tup, AVlt_fn, RowsLt_nil, RowsLt_live, RowsLt_dead, List.mem_cons, List.not_mem_nil, List.forall_mem_cons, List.forall_mem_nil, or_false, false_or, forall_eq_or_imp, forall_eq, vs_lt, Nat.add_lt_add_iff_left, Nat.reduceLT, true_and, and_true, and_self, List.length_cons, List.length_nil, Nat.reduceAdd, Nat.zero_add, implies_true, false_imp_iff, lt_T, List.mem_map])
      · obtain rfl : a = t.length := by omega
        simp (disch := (first | decide | omega)) only [hA, hg1, hins, hB1, hL, heq, hn0, hPe, hPl, hr0, hz0, hp0, hpL, hcl, beq_self_eq_true, if_true, List.length_map, go_sem]
        refine loop_kept (ι := Nat) r_PathsL1 (fun c => [(27, .v (.int .i64 ((c + 1 : Nat) : Int)))]) 4 (fun _ => [.live 0 1 [[.v (.isl 3 (t.map ePr))]], .live 0 2 [[.v (.int .i64 p), .v (.int .i64 ((i + 1 : Nat) : Int))]], .live 0 2 [[.v (.int .i64 q), .v (.int .i64 ((j + 1 : Nat) : Int))]], .live 0 1 [[.v (.isl 2 (fl (ids t).length fun i => setV (ids t).length (relT t i)))]]])
          (fun c => c ≤ r.length) (fun c => r.length - c) 0 (Nat.zero_le _) (by (repeat (first | exact hE1.mono (by omega) | refine KLt.up ?_ (by simp (disch := omega) only [AVlt_v, AVlt_any, AVlt_sl, AVlt_ptr, AVlt_mp, AVlt_agg, AVlt_tup, AVlt_fn, RowsLt_nil, RowsLt_live, RowsLt_dead, List.mem_cons, List.not_mem_nil, List.forall_mem_cons, List.forall_mem_nil, or_false, false_or, forall_eq_or_imp, forall_eq, vs_lt, Nat.add_lt_add_iff_left, Nat.reduceLT, true_and, and_true, and_self, List.length_cons, List.length_nil, Nat.reduceAdd, Nat.zero_add, implies_true, false_imp_iff, lt_T, List.mem_map])))) (by ((try simp (disch := decide) only [hA, hg1, go_sem]) <;> (repeat' (first | exact trivial | refine And.intro ?_ ?_)) <;> (first | rfl | (congr 2; omega)))) (fun e => Weak.refl _ _ _) ?_
        intro g2 hE2 hEE2 hg2 c hc
        have hcc1 : (((c + 1 : Nat) : Int)) - 1 = ((c : Nat) : Int) := by omega
        have hcc2 : (((c + 1 : Nat) : Int)) + 1 = ((c + 1 + 1 : Nat) : Int) := by omega
        by_cases hcr : c < r.length
        · have hdl : decide ((((c + 1 : Nat) : Int)) < ((r.length + 1 : Nat) : Int)) = true := decide_eq_true (by omega)
          obtain ⟨hzm, hzd⟩ := hPI.2 c (by omega)
          have hwm := hmem c (by omega)
          obtain ⟨⟨z1, z2⟩, hz⟩ : ∃ z, P[c + 1]'(by omega) = z := ⟨_, rfl⟩
          obtain ⟨⟨w1, w2⟩, hw⟩ : ∃ z, P[c]'(by omega) = z := ⟨_, rfl⟩
          rw [hz] at hzm hzd
          rw [hw] at hwm hzd
          have hgz : (P.map eId)[c + 1]? = some [.int .i64 z1, .int .i64 z2] := by rw [List.getElem?_map, List.getElem?_eq_getElem (by omega), hz]; rfl
          have hgw : (P.map eId)[c]? = some [.int .i64 w1, .int .i64 w2] := by rw [List.getElem?_map, List.getElem?_eq_getElem (by omega), hw]; rfl
          obtain ⟨z2, rfl⟩ : ∃ k, z2 = k + 1 := ⟨z2 - 1, by have := mem_pos hzm; simp only at this; omega⟩
          have hisz := fun b l => his ((z1 : Int), ((z2 + 1 : Nat) : Int)) b l
          rw [existsB_of hzm] at hisz
          have hdr := fun b l => rDirect_spec t hS _ _ hwm hzm b l
          rw [(dirB_iff hv hwm hzm).2 hzd] at hdr
          simp only [idA, eT] at hdr hisz
          simp (disch := (first | decide | omega)) only [hA, hg1, hg2, hL, if_true, hPe, hPl, hdl, hgz, hgw, hcc1, hcc2, List.length_map, go_sem]
          refine ACalls.nxt (hisz _ _) ?_
          simp (disch := (first | decide | omega)) only [hA, hg1, hg2, hL, if_true, hPe, hPl, hdl, hgz, hgw, hcc1, hcc2, List.length_map, go_sem]
          refine ACalls.nxt (hdr _ _) ?_
          simp (disch := (first | decide | omega)) only [hA, hg1, hg2, hcc1, hcc2, go_sem]
          refine ⟨c + 1, hcr, by simp only; omega, ?_⟩
          exact Weak.kround (p := r_PathsL1) (k := 4) (by ((repeat refine (kAny_up rfl).trans ?_); exact hEE2)) (by ((try simp (disch := decide) only [hA, hg1, hcc2, go_sem]) <;> (repeat' (first | exact trivial | refine And.intro ?_ ?_)) <;> (first | rfl | (congr 2; omega)))) rfl hE2 (by simp) (by simp (disch := omega) only [KOvLt, AVlt_v, AVlt_any, AVlt_sl, AVlt_ptr, AVlt_mp, AVlt_agg, AVlt_tup, AVlt_fn, RowsLt_nil, RowsLt_live, RowsLt_dead, List.mem_cons, List.not_mem_nil, List.forall_mem_cons, List.forall_mem_nil, or_false, false_or, forall_eq_or_imp, forall_eq, vs_lt, Nat.add_lt_add_iff_left, Nat.reduceLT, true_and, and_true, and_self, List.length_cons, List.length_nil, Nat.reduceAdd, Nat.zero_add, implies_true, false_imp_iff, lt_T, List.mem_map]) hR (by simp (disch := omega) only [AVlt_v, AVlt_any, AVlt_sl, AVlt_ptr, AVlt_mp, AVlt_agg, AVlt_tup, AVlt_fn, RowsLt_nil, RowsLt_live, RowsLt_dead, List.mem_cons, List.not_mem_nil, List.forall_mem_cons, List.forall_mem_nil, or_false, false_or, forall_eq_or_imp, forall_eq, vs_lt, Nat.add_lt_add_iff_left, Nat.reduceLT, true_and, and_true, and_self, List.length_cons, List.length_nil, Nat.reduceAdd, Nat.zero_add, implies_true, false_imp_iff, lt_T, List.mem_map])
        · obtain rfl : c = r.length := by omega
          have hdl : decide ((((r.length + 1 : Nat) : Int)) < ((r.length + 1 : Nat) : Int)) = false := decide_eq_false (by omega)
          simp (disch := (first | decide | omega)) only [hA, hg1, hg2, hL, if_true, hPe, hPl, hdl, List.length_map, go_sem]
          exact leave_pure (xs := [.v (.bool true)]) (.inr rfl) (by simp (disch := (first | decide | omega)) only [resVs, resV, go_sem, hA, hg1, hg2]) (by simp only [one, AVlt_v, AVlt_any, AVlt_sl, AVlt_ptr, AVlt_mp, AVlt_agg, AVlt_tup, AVlt_fn, RowsLt_nil, RowsLt_live, RowsLt_dead, List.mem_cons, List.not_mem_nil, List.forall_mem_cons, List.forall_mem_nil, or_false, false_or, forall_eq_or_imp, forall_eq, vs_lt, Nat.add_lt_add_iff_left, Nat.reduceLT, true_and, and_true, and_self, List.length_cons, List.length_nil, Nat.reduceAdd, Nat.zero_add, implies_true, false_imp_iff, lt_T, List.mem_map]) hR hB ⟨rfl, rfl, rfl⟩
end Go.Proofs.Ytnnnccibhhnbaaa
