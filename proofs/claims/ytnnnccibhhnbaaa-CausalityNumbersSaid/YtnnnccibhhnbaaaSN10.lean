/- Texts of one proof, laid together: IB, IC, IE, IK, IL, IM. No condition. -/
import Derived.Test.YtnnnccibhhnbaaaSN9
import Derived.Test.YtnnnccibhhnbaaaSN8
namespace Go.Proofs.Ytnnnccibhhnbaaa
set_option linter.unusedVariables false
set_option linter.unusedSimpArgs false
def lt2 (a b : Nat × Nat) : Prop := a.1 < b.1 ∨ (a.1 = b.1 ∧ a.2 < b.2)
/-- The receipt of what an event sends. -/
def rcvO (t : Tr) (x : Nat × Nat) : Option (Nat × Nat) := if (evAt t x).kind = 2 then findL t 3 (evAt t x).msg else none
def rowN (t : Tr) (x : Nat × Nat) : List (Nat × Nat) := if x.2 < (evsOf t x.1).length then [(x.1, x.2 + 1)] else []
def nextL (t : Tr) (x : Nat × Nat) : List (Nat × Nat) := match rcvO t x with
  | none => rowN t x
  | some z => if z.1 < x.1 then z :: rowN t x else rowN t x ++ [z]
theorem mem_rowN {t : Tr} {x z : Nat × Nat} : z ∈ rowN t x ↔ z = (x.1, x.2 + 1) ∧ x.2 < (evsOf t x.1).length := by
  unfold rowN
  by_cases h : x.2 < (evsOf t x.1).length
  · rw [if_pos h]; simp [h]
  · rw [if_neg h]; simp [h]
theorem mem_nextL {t : Tr} {x z : Nat × Nat} : z ∈ nextL t x ↔ Dir t x z := by
  have e : z ∈ nextL t x ↔ z ∈ rowN t x ∨ rcvO t x = some z := by
    unfold nextL
    cases hr : rcvO t x with
    | none => simp
    | some w =>
      simp only
      by_cases hw : w.1 < x.1
      · rw [if_pos hw, List.mem_cons]
        constructor
        · rintro (h | h)
          · exact .inr (by rw [h])
          · exact .inl h
        · rintro (h | h)
          · exact .inr h
          · exact .inl (Option.some.inj h).symm
      · rw [if_neg hw, List.mem_append, List.mem_singleton]
        constructor
        · rintro (h | h)
          · exact .inl h
          · exact .inr (by rw [h])
        · rintro (h | h)
          · exact .inl h
          · exact .inr (Option.some.inj h).symm
  rw [e, mem_rowN]
  unfold Dir rcvO
  by_cases hk : (evAt t x).kind = 2
  · rw [if_pos hk]; simp [hk]
  · rw [if_neg hk]; simp [hk]
theorem le_cnt {t : Tr} {x y : Nat × Nat} (hx : x ∈ ids t) : Le t x y ↔ x.2 ≤ vc t y x.1 := by
  obtain ⟨p, i⟩ := x
  obtain ⟨i, rfl⟩ : ∃ k, i = k + 1 := ⟨i - 1, by have := mem_pos hx; simp only at this; omega⟩
  exact vc_iff (mem_ids2.1 hx).2
noncomputable def leadB (t : Tr) (y z : Nat × Nat) : Bool := decide (z.2 ≤ vc t y z.1)
theorem leadB_iff {t : Tr} (hv : Vok t) {y z : Nat × Nat} (hz : z ∈ ids t) : leadB t y z = true ↔ Le t z y := by
  unfold leadB
  rw [decide_eq_true_eq]
  exact (le_cnt hz).symm
noncomputable def stepO (t : Tr) (y x : Nat × Nat) : Option (Nat × Nat) := (nextL t x).find? (leadB t y)
theorem stepO_some {t : Tr} (hv : Vok t) {x y : Nat × Nat} (hx : x ∈ ids t) (hy : y ∈ ids t) (hl : Le t x y) (hne : x ≠ y) : ∃ z, stepO t y x = some z ∧ z ∈ ids t ∧ Dir t x z ∧ Le t z y := by
  rcases hl with rfl | h
  · exact absurd rfl hne
  obtain ⟨z, dz, hz⟩ := h.front
  have hzm := dz.mem hx
  have hlz : Le t z y := hz
  cases hs : stepO t y x with
  | none =>
    unfold stepO at hs
    rw [List.find?_eq_none] at hs
    exact absurd ((leadB_iff hv hzm).2 hlz) (hs z (mem_nextL.2 dz))
  | some w =>
    unfold stepO at hs
    have h1 := List.mem_of_find?_eq_some hs
    have h2 := List.find?_some hs
    have dw := mem_nextL.1 h1
    have hw := dw.mem hx
    exact ⟨w, rfl, hw, dw, (leadB_iff hv hw).1 h2⟩
/-- The path with at most n steps. -/
noncomputable def pathF (t : Tr) (y : Nat × Nat) : Nat → Nat × Nat → List (Nat × Nat)
  | 0, x => [x]
  | n + 1, x => if x = y then [x] else match stepO t y x with
    | none => [x]
    | some z => x :: pathF t y n z
noncomputable def pathL (t : Tr) (x y : Nat × Nat) : List (Nat × Nat) := pathF t y (ids t).length x
theorem rk_le {t : Tr} (hv : Vok t) {x y : Nat × Nat} (hy : y ∈ ids t) (h : Le t x y) : rk t x ≤ rk t y := by
  rcases h with rfl | h
  · exact Nat.le_refl _
  · exact Nat.le_of_lt (rk_lt hv hy h)
/-- What holds of a walk towards y. -/
structure PathOk (t : Tr) (x0 y x : Nat × Nat) (n : Nat) (done : List (Nat × Nat)) : Prop where
  mem : x ∈ ids t
  le : Le t x y
  fuel : rk t y ≤ rk t x + n
  eq : done ++ pathF t y n x = pathL t x0 y
theorem PathOk.start {t : Tr} (hv : Vok t) {x y : Nat × Nat} (hx : x ∈ ids t) (h : Le t x y) : PathOk t x y x (ids t).length [] :=
  ⟨hx, h, by have := List.countP_le_length (p := fun z => leB t z y) (l := ids t); unfold rk; omega, rfl⟩
theorem PathOk.done {t : Tr} {x0 y : Nat × Nat} {n : Nat} {D : List (Nat × Nat)} (h : PathOk t x0 y y n D) : D ++ [y] = pathL t x0 y := by
  rw [← h.eq]
  cases n with
  | zero => rfl
  | succ n => unfold pathF; rw [if_pos rfl]
theorem PathOk.step {t : Tr} (hv : Vok t) {x0 y x : Nat × Nat} {n : Nat} {D : List (Nat × Nat)} (h : PathOk t x0 y x n D) (hy : y ∈ ids t) (hne : x ≠ y) : ∃ z m, n = m + 1 ∧ stepO t y x = some z ∧ PathOk t x0 y z m (D ++ [x]) ∧ Dir t x z := by
  obtain ⟨z, hs, hz, dz, hl⟩ := stepO_some hv h.mem hy h.le hne
  have hlt := rk_lt hv hz (.one dz)
  have hle := rk_le hv hy hl
  have hf := h.fuel
  cases n with
  | zero => omega
  | succ m =>
    refine ⟨z, m, rfl, hs, ⟨hz, hl, by omega, ?_⟩, dz⟩
    rw [← h.eq, List.append_assoc]
    congr 1
    rw [pathF, if_neg hne, hs]
    rfl
/-- What the law asks of a path. -/
def PathIs (t : Tr) (y : Nat × Nat) (l : List (Nat × Nat)) : Prop := l.getLast? = some y ∧ ∀ a (h : a + 1 < l.length), l[a + 1] ∈ ids t ∧ Dir t l[a] l[a + 1]
theorem PathIs.cons {t : Tr} {y x z : Nat × Nat} {r : List (Nat × Nat)} (hz : z ∈ ids t) (d : Dir t x z) (h : PathIs t y (z :: r)) : PathIs t y (x :: z :: r) := by
  refine ⟨by rw [List.getLast?_cons_cons]; exact h.1, fun a ha => ?_⟩
  cases a with
  | zero => exact ⟨hz, d⟩
  | succ a => exact h.2 a (by simpa using ha)
end Go.Proofs.Ytnnnccibhhnbaaa

namespace Go.Proofs.Ytnnnccibhhnbaaa
set_option linter.unusedVariables false
set_option linter.unusedSimpArgs false
attribute [local go_sem ↓] run_skip run_region run_draw run_seq run_block run_exit run_ret run_cond atN_app seqC_normal seqC_exit seqC_ret seqQ_normal seqQ_exit seqQ_ret blkQ_normal blkQ_exit blkQ_ret runOps_nil runOps_cons runD_nil runD_cons grdO_true grdO_false grdD_true grdD_false ifC_true ifC_false opS_val opS_call opS_two opK_app dS_val dS_call dS_two dK_app kUp_same kUp_ne
attribute [local go_sem] rechks_nil rechks_cons rechk gcase_true gcase_false ex_val ex_val0 gd_none gd_some ev_t ev_c evs_nil evs_cons evo_some evo_none hget_at hget_first hsetB_at hsetB_first hsetL_at hsetL_first ofOpt_some aop aload astore aslice aappend aiaddr aiaddrA afaddr alen alenS acopy amm acall alookup amupdate alenM comma keyEq apick binV binVB binVS isSh intOp strOp boolOp shOp eqC eqF and2 cellsOf setFrom fillA fillS rd rdI elems mk bounds AV.cell List.all_cons List.all_nil Bool.and_true Bool.true_and Bool.and_self List.length_cons List.length_nil List.length_append Nat.reduceAdd Nat.reduceSub Nat.reduceMul Nat.zero_add Nat.add_zero List.cons_append List.nil_append List.append_assoc List.append_nil List.getElem?_cons_zero List.getElem?_cons_succ List.getElem?_nil List.set_cons_zero List.set_cons_succ List.drop_zero List.drop_succ_cons List.take_zero List.take_succ_cons List.take_nil List.drop_nil List.map_cons List.map_nil Option.map_some if_true if_false Bool.false_eq_true and_self true_and and_true Nat.reduceLeDiff Nat.reduceLT Nat.le_refl Nat.reduceEqDiff ite_true ite_false beq_self_eq_true beq_true beq_false Bool.not_true Bool.not_false Bool.true_beq Bool.false_beq map_vs vs_len vs_get vs_take vs_drop vs_snoc1 vs_snoc2 vs_snoc3 vs_snoc5 vs_set1 vs_set2 vs_rep wrap_id le_T lt_T le_F lt_F leI_T ltI_T leI_F ltI_F geI gtI get_T decide_true decide_false room List.getElem?_map List.length_map List.length_take Int.toNat_natCast Nat.min_def Nat.min_self nth_kOf put_kOf put_kNo kOv_cons kOv_nil KHas KArgs List.getElem_cons_zero List.getElem_cons_succ
def a_numc : AFunc := ⟨2, 28, [.tmp 4],
  (.seq (.region [⟨(some 2), .box (.t 0), none⟩, ⟨(some 3), .box (.t 1), none⟩, ⟨(some 4), .mv (.c (.v (.int .i64 0))), none⟩])
  (.seq (.region [⟨(some 8), .faddr 1 (.t 3), none⟩, ⟨(some 9), .load none (.t 8), none⟩, ⟨(some 10), .bin .sub (.t 9) (.c (.v (.int .i64 1))), none⟩, ⟨(some 5), .mv (.t 10), none⟩])
  (.seq (.seq (.region [⟨(some 11), .faddr 0 (.t 2), none⟩, ⟨(some 12), .load none (.t 11), none⟩, ⟨(some 13), .faddr 0 (.t 3), none⟩, ⟨(some 14), .load none (.t 13), none⟩, ⟨(some 15), .slice 3 (.t 12) none (some (.t 14)), none⟩, ⟨(some 16), .len (.t 15), none⟩, ⟨(some 17), .mv (.c (.v (.int .i64 0))), none⟩])
  (.block 0 (.loop (.seq (.region [⟨(some 18), .bin .lss (.t 17) (.t 16), none⟩])
  (.seq (.cond (.t 18) .skip
  (.exit 0))
  (.seq (.block 1 (.seq (.region [⟨(some 19), .iaddr 3 (.t 15) (.t 17), none⟩, ⟨(some 20), .load (some 3) (.t 19), none⟩, ⟨(some 7), .alloc [(.v (.str ⟨#[]⟩)), (.v .zsl), (.v .zsl)], none⟩, ⟨none, .store 3 (.t 7) (.t 20), none⟩])
  (.region [⟨(some 21), .mv (.t 5), none⟩, ⟨(some 22), .faddr 2 (.t 7), none⟩, ⟨(some 23), .load none (.t 22), none⟩, ⟨(some 24), .len (.t 23), none⟩, ⟨(some 25), .bin .add (.t 21) (.t 24), none⟩, ⟨(some 5), .mv (.t 25), none⟩])))
  (.region [⟨(some 26), .bin .add (.t 17) (.c (.v (.int .i64 1))), none⟩, ⟨(some 17), .mv (.t 26), none⟩])))))))
  (.seq (.region [⟨(some 27), .mv (.t 5), none⟩, ⟨(some 4), .mv (.t 27), none⟩])
  .ret))))⟩
theorem a_numc_ok : cFunc Try.prog 86 = some a_numc := by kernel_rfl
def r_numc0 : List (Nat × Nat) := [(5, 5), (7, 7), (17, 26)]
def a_NumC : AFunc := ⟨2, 17, [.tmp 4, .tmp 5],
  (.seq (.region [⟨(some 2), .box (.t 0), none⟩, ⟨(some 3), .box (.t 1), none⟩, ⟨(some 4), .mv (.c (.v (.int .i64 0))), none⟩, ⟨(some 5), .mv (.c (.v (.int .i64 0))), none⟩])
  (.seq (.seq (.region [⟨(some 7), .load (some 1) (.t 2), none⟩, ⟨(some 8), .load (some 2) (.t 3), none⟩, ⟨(some 9), .bslice 2 [(.v (.int .i64 0)), (.v (.int .i64 0))] 1 [(0, (.t 8))], none⟩, ⟨(some 10), .call (.c (.fn 74 [])) [(.t 7), (.t 9)], none⟩, ⟨(some 6), .mv (.t 10), none⟩])
  (.seq (.region [⟨(some 11), .mv (.t 6), none⟩, ⟨(some 12), .bin .neq (.t 11) (.c (.v (.int .i64 0))), none⟩])
  (.cond (.t 12) (.seq (.region [⟨(some 13), .mv (.t 6), none⟩, ⟨(some 4), .mv (.c (.v (.int .i64 0))), none⟩, ⟨(some 5), .mv (.t 13), none⟩])
  .ret)
  .skip)))
  (.seq (.region [⟨(some 14), .load (some 1) (.t 2), none⟩, ⟨(some 15), .load (some 2) (.t 3), none⟩, ⟨(some 16), .call (.c (.fn 86 [])) [(.t 14), (.t 15)], none⟩, ⟨(some 4), .mv (.t 16), none⟩, ⟨(some 5), .mv (.c (.v (.int .i64 0))), none⟩])
  .ret)))⟩
theorem a_NumC_ok : cFunc Try.prog 30 = some a_NumC := by kernel_rfl

/-- The number of an event. -/
def numN (t : Tr) (x : Nat × Nat) : Nat := evN t x.1 + (x.2 - 1)
theorem numc_spec (t : Tr) (hn : t.length ≤ 20) (he : ∀ x ∈ t, x.evs.length ≤ 70) (x : Nat × Nat) (hx : x ∈ ids t) (b l : List Row) :
    ACalls Try.prog 86 [.agg [.v (eT t)], idA x] b l (fun r b' l' => r = .v (.int .i64 (numN t x : Nat)) ∧ b' = b ∧ l' = l) := by
  refine calls_kept a_numc_ok rfl (by decide) ?_
  intro B g hB hR hE hA
  simp only [KArgs] at hA
  obtain ⟨p, i⟩ := x
  obtain ⟨i, rfl⟩ : ∃ k, i = k + 1 := ⟨i - 1, by have := mem_pos hx; simp only at this; omega⟩
  obtain ⟨hp, hi⟩ := mem_ids2.1 hx
  rw [evsOf_lt hp] at hi
  have hie := he _ (List.getElem_mem hp)
  have hc : ((i + 1 : Nat) : Int) - 1 = ((evN t 0 + i : Nat) : Int) := by rw [evN_zero]; omega
  have htk : (List.take p (t.map ePr)).length = p := by simp; omega
  simp (disch := (first | decide | omega)) only [a_numc, hA, idA, eT, hc, htk, List.length_map, go_sem]
  refine loop_kept (ι := Nat) r_numc0 (fun q => [(17, .v (.int .i64 q)), (5, .v (.int .i64 (evN t q + i : Nat)))]) 2 (fun q => [.live 0 1 [[.v (.isl 3 (t.map ePr))]], .live 0 2 [[.v (.int .i64 p), .v (.int .i64 ((i + 1 : Nat) : Int))]]])
    (fun q => q ≤ p) (fun q => p - q) 0 (Nat.zero_le _) (by (repeat (first | exact hE.mono (by omega) | refine KLt.up ?_ (by simp (disch := omega) only [AVlt_v, AVlt_any, AVlt_sl, AVlt_ptr, AVlt_mp, AVlt_agg, AVlt_tup, AVlt_fn, RowsLt_nil, RowsLt_live, RowsLt_dead, List.mem_cons, List.not_mem_nil, List.forall_mem_cons, List.forall_mem_nil, or_false, false_or, forall_eq_or_imp, forall_eq, vs_lt, Nat.add_lt_add_iff_left, Nat.reduceLT, true_and, and_true, and_self, List.length_cons, List.length_nil, Nat.reduceAdd, Nat.zero_add, implies_true, false_imp_iff, lt_T, List.mem_map])))) (by ((try simp (disch := decide) only [hA, go_sem]) <;> (repeat' (first | exact trivial | refine And.intro ?_ ?_)) <;> (first | rfl | (congr 2; omega)))) (fun e => Weak.refl _ _ _) ?_
  intro g1 hE1 hEE1 hg1 q hq
  by_cases hql : q < p
  · have h1 := evN_le he q (by omega)
    have h2 := he _ (List.getElem_mem (show q < t.length by omega))
    have hs := evN_succ (show q < t.length by omega)
    have hinc : ((evN t q + i : Nat) : Int) + (t[q].evs.length : Int) = ((evN t (q + 1) + i : Nat) : Int) := by omega
    have hg : (List.take p (t.map ePr))[q]? = some (ePr t[q]) := by rw [List.getElem?_take_of_lt hql, List.getElem?_map, List.getElem?_eq_getElem (by omega)]; rfl
    simp (disch := (first | decide | omega)) only [hA, hg1, ePr, hg, htk, List.length_map, go_sem]
    refine ⟨q + 1, hql, by simp only; omega, ?_⟩
    exact Weak.kround (p := r_numc0) (k := 2) (by ((repeat refine (kAny_up rfl).trans ?_); exact hEE1)) (by ((try simp (disch := decide) only [hA, hinc, go_sem]) <;> (repeat' (first | exact trivial | refine And.intro ?_ ?_)) <;> (first | rfl | (congr 2; omega)))) rfl hE1 (by simp) (by simp (disch := omega) only [KOvLt, AVlt_v, AVlt_any, AVlt_sl, AVlt_ptr, AVlt_mp, AVlt_agg, AVlt_tup, AVlt_fn, RowsLt_nil, RowsLt_live, RowsLt_dead, List.mem_cons, List.not_mem_nil, List.forall_mem_cons, List.forall_mem_nil, or_false, false_or, forall_eq_or_imp, forall_eq, vs_lt, Nat.add_lt_add_iff_left, Nat.reduceLT, true_and, and_true, and_self, List.length_cons, List.length_nil, Nat.reduceAdd, Nat.zero_add, implies_true, false_imp_iff, lt_T, List.mem_map]) hR (by simp (disch := omega) only [AVlt_v, AVlt_any, AVlt_sl, AVlt_ptr, AVlt_mp, AVlt_agg, AVlt_tup, AVlt_fn, RowsLt_nil, RowsLt_live, RowsLt_dead, List.mem_cons, List.not_mem_nil, List.forall_mem_cons, List.forall_mem_nil, or_false, false_or, forall_eq_or_imp, forall_eq, vs_lt, Nat.add_lt_add_iff_left, Nat.reduceLT, true_and, and_true, and_self, List.length_cons, List.length_nil, Nat.reduceAdd, Nat.zero_add, implies_true, false_imp_iff, lt_T, List.mem_map])
  · obtain rfl : q = p := by omega
    simp (disch := (first | decide | omega)) only [hA, hg1, htk, List.length_map, go_sem]
    exact leave_pure (xs := [.v (.int .i64 (evN t q + i : Nat))]) (.inr rfl) (by simp (disch := (first | decide | omega)) only [resVs, resV, go_sem, hA, hg1]) (by simp only [one, AVlt_v, AVlt_any, AVlt_sl, AVlt_ptr, AVlt_mp, AVlt_agg, AVlt_tup, AVlt_fn, RowsLt_nil, RowsLt_live, RowsLt_dead, List.mem_cons, List.not_mem_nil, List.forall_mem_cons, List.forall_mem_nil, or_false, false_or, forall_eq_or_imp, forall_eq, vs_lt, Nat.add_lt_add_iff_left, Nat.reduceLT, true_and, and_true, and_self, List.length_cons, List.length_nil, Nat.reduceAdd, Nat.zero_add, implies_true, false_imp_iff, lt_T, List.mem_map]) hR hB ⟨rfl, rfl, rfl⟩
noncomputable def numR (t : Tr) (x : Int × Int) : AV := .tup [.v (.int .i64 (if chkE t [x] = 0 then (numN t (x.1.toNat, x.2.toNat) : Int) else 0)), .v (.int .i64 (chkE t [x]))]
theorem NumC_spec (t : Tr) (hS : Small t) (hN : Nm t) (hn : t.length ≤ 20) (he : ∀ x ∈ t, x.evs.length ≤ 70) (x : Int × Int) (b l : List Row) :
    ACalls Try.prog 30 [.agg [.v (eT t)], idP x] b l (fun r b' l' => r = numR t x ∧ b' = b ∧ l' = l) := by
  refine calls_kept a_NumC_ok rfl (by decide) ?_
  intro B g hB hR hE hA
  simp only [KArgs] at hA
  simp (disch := (first | decide | omega)) only [a_NumC, hA, idP, List.replicate_succ, List.replicate_zero, go_sem]
  refine ACalls.frzB (i := 2) (ver := 0) (sz := 2) (rows := [eIdP x]) (args' := [.agg [.v (eT t)], .v (.isl 2 [eIdP x])]) rfl (by simp [frz, frz0]) ?_
  refine ACalls.nxt (check_spec t hS hN [x] (by simp) _ _) ?_
  by_cases h0 : chkE t [x] = 0
  · obtain ⟨hval, hex⟩ := chk_one h0
    obtain ⟨p, i, e1, e2, hx⟩ := existsB_in hex
    obtain ⟨x1, x2⟩ := x
    simp only at e1 e2
    subst e1; subst e2
    have hn0 : ((0 : Int) != 0) = false := rfl
    have hnu := numc_spec t hn he (p, i + 1) hx
    simp only [idA] at hnu
    unfold numR
    rw [h0, if_pos rfl]
    simp (disch := (first | decide | omega)) only [hA, hn0, idP, go_sem]
    refine ACalls.nxt (hnu _ _) ?_
    simp (disch := (first | decide | omega)) only [hA, go_sem]
    exact leave_pure (xs := [.v (.int .i64 (numN t (p, i + 1) : Nat)), .v (.int .i64 0)]) (.inr rfl) (by simp (disch := (first | decide | omega)) only [resVs, resV, go_sem, hA]) (by simp only [one, AVlt_v, AVlt_any, AVlt_sl, AVlt_ptr, AVlt_mp, AVlt_agg, AVlt_tup, AVlt_fn, RowsLt_nil, RowsLt_live, RowsLt_dead, List.mem_cons, List.not_mem_nil, List.forall_mem_cons, List.forall_mem_nil, or_false, false_or, forall_eq_or_imp, forall_eq, vs_lt, Nat.add_lt_add_iff_left, Nat.reduceLT, true_and, and_true, and_self, List.length_cons, List.length_nil, Nat.reduceAdd, Nat.zero_add, implies_true, false_imp_iff, lt_T, List.mem_map]) hR hB ⟨rfl, rfl, rfl⟩
  · have hn0 : (chkE t [x] != 0) = true := by simpa using h0
    unfold numR
    rw [if_neg h0]
    simp (disch := (first | decide | omega)) only [hA, hn0, go_sem]
    exact leave_pure (xs := [.v (.int .i64 0), .v (.int .i64 (chkE t [x]))]) (.inr rfl) (by simp (disch := (first | decide | omega)) only [resVs, resV, go_sem, hA]) (by simp only [one, AVlt_v, AVlt_any, AVlt_sl, AVlt_ptr, AVlt_mp, AVlt_agg, AVlt_tup, AVlt_fn, RowsLt_nil, RowsLt_live, RowsLt_dead, List.mem_cons, List.not_mem_nil, List.forall_mem_cons, List.forall_mem_nil, or_false, false_or, forall_eq_or_imp, forall_eq, vs_lt, Nat.add_lt_add_iff_left, Nat.reduceLT, true_and, and_true, and_self, List.length_cons, List.length_nil, Nat.reduceAdd, Nat.zero_add, implies_true, false_imp_iff, lt_T, List.mem_map]) hR hB ⟨rfl, rfl, rfl⟩
end Go.Proofs.Ytnnnccibhhnbaaa

namespace Go.Proofs.Ytnnnccibhhnbaaa
set_option linter.unusedVariables false
set_option linter.unusedSimpArgs false
/-- What a closing keeps: counts of events at or before an event. -/
structure Cinv (t : Tr) (x : Nat × Nat) (c : Nat → Nat) : Prop where
  le : ∀ q, c q ≤ vc t x q
  src : x.2 ≤ c x.1
  out : ∀ q, t.length ≤ q → c q = 0
theorem Cinv.dn {t : Tr} {x : Nat × Nat} {c : Nat → Nat} (h : Cinv t x c) (q : Nat) : c q ≤ (evsOf t q).length := Nat.le_trans (h.le q) vc_le
theorem Cinv.at {t : Tr} {x : Nat × Nat} {c : Nat → Nat} (h : Cinv t x c) {q j : Nat} (hj : j < c q) : (q, j + 1) ∈ ids t ∧ Le t (q, j + 1) x := by
  have hq : q < t.length := Nat.lt_of_not_le fun hn => by have := h.out q hn; omega
  have h1 := h.dn q
  exact ⟨mem_ids2.2 ⟨hq, by omega⟩, (vc_iff (by omega)).2 (by have := h.le q; omega)⟩
/-- The start: the event alone, and what stands before it. -/
def clo0 (x : Nat × Nat) : Nat → Nat := fUp (fun _ => 0) x.1 x.2
theorem Cinv.start {t : Tr} (hv : Vok t) {x : Nat × Nat} (hx : x ∈ ids t) : Cinv t x (clo0 x) := by
  have hp := (mem_ids.1 hx).1
  refine ⟨fun q => ?_, by unfold clo0; rw [fUp_same]; exact Nat.le_refl _, fun q hq => ?_⟩
  · unfold clo0
    by_cases hq : q = x.1
    · subst hq; rw [fUp_same]; exact (le_cnt hx).1 (.refl _)
    · rw [fUp_ne hq]; exact Nat.zero_le _
  · unfold clo0
    rw [fUp_ne (by omega)]
/-- An event within the counts whose message was sent within them. -/
def okC (t : Tr) (c : Nat → Nat) (q j : Nat) : Prop := (evAt t (q, j + 1)).kind = 3 → (sndr t (q, j + 1)).2 ≤ c (sndr t (q, j + 1)).1
theorem Cinv.up {t : Tr} (hv : Vok t) {x : Nat × Nat} {c : Nat → Nat} (h : Cinv t x c) {q j : Nat} (hj : j < c q) (hk : (evAt t (q, j + 1)).kind = 3) (hlt : c (sndr t (q, j + 1)).1 < (sndr t (q, j + 1)).2) :
    Cinv t x (fUp c (sndr t (q, j + 1)).1 (sndr t (q, j + 1)).2) := by
  obtain ⟨h1, h2⟩ := h.at hj
  obtain ⟨s1, s2⟩ := sndr_in hv h1 hk
  have hl : Le t (sndr t (q, j + 1)) x := Le.trans (.inr s2) h2
  refine ⟨fun r => ?_, ?_, fun r hr => ?_⟩
  · by_cases hr : r = (sndr t (q, j + 1)).1
    · rw [hr, fUp_same]; exact (le_cnt s1).1 hl
    · rw [fUp_ne hr]; exact h.le r
  · by_cases hr : x.1 = (sndr t (q, j + 1)).1
    · rw [hr, fUp_same]; have := h.src; rw [hr] at this; omega
    · rw [fUp_ne hr]; exact h.src
  · rw [fUp_ne (by have := (mem_ids.1 s1).1; omega)]; exact h.out r hr
theorem Cinv.done {t : Tr} (hv : Vok t) {x : Nat × Nat} (hx : x ∈ ids t) {c : Nat → Nat} (h : Cinv t x c) (hc : ∀ q, q < t.length → ∀ j, j < c q → okC t c q j) {q : Nat} (hq : q < t.length) : c q = vc t x q := by
  have hP : Pst t x c [] := by
    refine ⟨fun y hy => by simp at hy, fun p i hi => ?_, .inr h.src, fun z hz hzc y hy => .inr ?_⟩
    · obtain ⟨h1, h2⟩ := h.at hi
      exact ⟨(mem_ids2.1 h1).1, (mem_ids2.1 h1).2, h2⟩
    · obtain ⟨p, i⟩ := z
      obtain ⟨i, rfl⟩ : ∃ k, i = k + 1 := ⟨i - 1, by have := mem_pos hz; simp only at this; omega⟩
      simp only at hzc
      rcases backL_cases hy with ⟨h1, rfl⟩ | ⟨h1, rfl⟩
      · simp only; omega
      · exact hc p (mem_ids2.1 hz).1 i (by omega) h1
  exact hP.done hv hx hq
def wTab (D : Nat → Nat → Bool) : Nat → Nat → Nat → Bool
  | 0, i, j => D i j
  | k + 1, i, j => wTab D k i j || (wTab D k i k && wTab D k k j)
theorem wTab_row {D : Nat → Nat → Bool} {k j : Nat} : wTab D (k + 1) k j = wTab D k k j := by
  rw [wTab]
  cases wTab D k k j <;> cases wTab D k k k <;> rfl
theorem wTab_mono {D : Nat → Nat → Bool} {i j : Nat} : ∀ k, D i j = true → wTab D k i j = true
  | 0, h => h
  | k + 1, h => by rw [wTab, wTab_mono k h]; rfl
theorem wTab_trans {D : Nat → Nat → Bool} : ∀ k {i m j : Nat}, m < k → wTab D k i m = true → wTab D k m j = true → wTab D k i j = true
  | 0, i, m, j, h, _, _ => by omega
  | k + 1, i, m, j, h, h1, h2 => by
    rw [wTab] at h1 h2 ⊢
    simp only [Bool.or_eq_true, Bool.and_eq_true] at h1 h2 ⊢
    by_cases hm : m = k
    · subst hm
      have a : wTab D m i m = true := h1.elim id (fun h => h.1)
      have b : wTab D m m j = true := h2.elim id (fun h => h.2)
      exact .inr ⟨a, b⟩
    · have ih := fun {a b c : Nat} (hb : b < k) => wTab_trans (D := D) k (i := a) (m := b) (j := c) hb
      rcases h1 with h1 | h1
      · rcases h2 with h2 | h2
        · exact .inl (ih (by omega) h1 h2)
        · exact .inr ⟨ih (by omega) h1 h2.1, h2.2⟩
      · rcases h2 with h2 | h2
        · exact .inr ⟨h1.1, ih (by omega) h1.2 h2⟩
        · exact .inr ⟨h1.1, h2.2⟩
/-- The direct steps by numbers. -/
def dT (t : Tr) (i j : Nat) : Bool := dirB t ((ids t).getD i (0, 0)) ((ids t).getD j (0, 0))
theorem wTab_hb {t : Tr} (hv : Vok t) : ∀ k, k ≤ (ids t).length → ∀ {i j : Nat} (hi : i < (ids t).length) (hj : j < (ids t).length), wTab (dT t) k i j = true → Hb t (ids t)[i] (ids t)[j]
  | 0, _, i, j, hi, hj, h => by
    rw [wTab] at h; unfold dT at h
    rw [getD_at hi, getD_at hj] at h
    exact .one ((dirB_iff hv (List.getElem_mem hi) (List.getElem_mem hj)).1 h)
  | k + 1, hk, i, j, hi, hj, h => by
    rw [wTab] at h
    simp only [Bool.or_eq_true, Bool.and_eq_true] at h
    rcases h with h | ⟨h1, h2⟩
    · exact wTab_hb hv k (by omega) hi hj h
    · exact (wTab_hb hv k (by omega) hi (by omega) h1).trans (wTab_hb hv k (by omega) (by omega) hj h2)
theorem wTab_all {t : Tr} (hv : Vok t) {i j : Nat} (hi : i < (ids t).length) (hj : j < (ids t).length) : wTab (dT t) (ids t).length i j = true ↔ Hb t (ids t)[i] (ids t)[j] := by
  refine ⟨wTab_hb hv _ (Nat.le_refl _) hi hj, fun h => ?_⟩
  have key : ∀ {x y : Nat × Nat}, Hb t x y → x ∈ ids t → y ∈ ids t ∧ ∀ (a b : Nat) (ha : a < (ids t).length) (hb : b < (ids t).length), (ids t)[a] = x → (ids t)[b] = y → wTab (dT t) (ids t).length a b = true := by
    intro x y h
    induction h with
    | one d =>
      intro hx
      refine ⟨d.mem hx, fun a b ha hb e1 e2 => wTab_mono _ ?_⟩
      unfold dT
      rw [getD_at ha, getD_at hb, e1, e2]
      exact (dirB_iff hv hx (d.mem hx)).2 d
    | more h1 d ih =>
      intro hx
      obtain ⟨hy, ih⟩ := ih hx
      refine ⟨d.mem hy, fun a b ha hb e1 e2 => ?_⟩
      obtain ⟨m, hm, em⟩ := List.mem_iff_getElem.1 hy
      refine wTab_trans _ hm (ih a m ha hm e1 em) (wTab_mono _ ?_)
      unfold dT
      rw [getD_at hm, getD_at hb, em, e2]
      exact (dirB_iff hv hy (d.mem hy)).2 d
  exact (key h (List.getElem_mem hi)).2 i j hi hj rfl rfl
theorem wTab_rel {t : Tr} (hv : Vok t) {i j : Nat} (hi : i < (ids t).length) (hj : j < (ids t).length) : wTab (dT t) (ids t).length i j = decide (j ∈ relT t i) := by
  rw [Bool.eq_iff_iff, decide_eq_true_eq, wTab_all hv hi hj, rel_hb hv hi hj]
/-- Sets with the same elements have the same words. -/
theorem bw_ext {L M : List Nat} (h : ∀ i, i ∈ L ↔ i ∈ M) (k : Nat) : bw L k = bw M k := by
  refine Nat.eq_of_testBit_eq (fun j => ?_)
  by_cases hj : j < 64
  · rw [bw_bit hj, bw_bit hj, decide_eq_decide]; exact h _
  · have h1 := bw_lt (k := k) L
    have h2 := bw_lt (k := k) M
    have h64 : (2 : Nat) ^ 64 ≤ 2 ^ j := Nat.pow_le_pow_right (by omega) (by omega)
    rw [Nat.testBit_lt_two_pow (by omega), Nat.testBit_lt_two_pow (by omega)]
end Go.Proofs.Ytnnnccibhhnbaaa

namespace Go.Proofs.Ytnnnccibhhnbaaa
set_option linter.unusedVariables false
set_option linter.unusedSimpArgs false
attribute [local go_sem ↓] run_skip run_region run_draw run_seq run_block run_exit run_ret run_cond atN_app seqC_normal seqC_exit seqC_ret seqQ_normal seqQ_exit seqQ_ret blkQ_normal blkQ_exit blkQ_ret runOps_nil runOps_cons runD_nil runD_cons grdO_true grdO_false grdD_true grdD_false ifC_true ifC_false opS_val opS_call opS_two opK_app dS_val dS_call dS_two dK_app kUp_same kUp_ne
attribute [local go_sem] rechks_nil rechks_cons rechk gcase_true gcase_false ex_val ex_val0 gd_none gd_some ev_t ev_c evs_nil evs_cons evo_some evo_none hget_at hget_first hsetB_at hsetB_first hsetL_at hsetL_first ofOpt_some aop aload astore aslice aappend aiaddr aiaddrA afaddr alen alenS acopy amm acall alookup amupdate alenM comma keyEq apick binV binVB binVS isSh intOp strOp boolOp shOp eqC eqF and2 cellsOf setFrom fillA fillS rd rdI elems mk bounds AV.cell List.all_cons List.all_nil Bool.and_true Bool.true_and Bool.and_self List.length_cons List.length_nil List.length_append Nat.reduceAdd Nat.reduceSub Nat.reduceMul Nat.zero_add Nat.add_zero List.cons_append List.nil_append List.append_assoc List.append_nil List.getElem?_cons_zero List.getElem?_cons_succ List.getElem?_nil List.set_cons_zero List.set_cons_succ List.drop_zero List.drop_succ_cons List.take_zero List.take_succ_cons List.take_nil List.drop_nil List.map_cons List.map_nil Option.map_some if_true if_false Bool.false_eq_true and_self true_and and_true Nat.reduceLeDiff Nat.reduceLT Nat.le_refl Nat.reduceEqDiff ite_true ite_false beq_self_eq_true beq_true beq_false Bool.not_true Bool.not_false Bool.true_beq Bool.false_beq map_vs vs_len vs_get vs_take vs_drop vs_snoc1 vs_snoc2 vs_snoc3 vs_snoc5 vs_set1 vs_set2 vs_rep wrap_id le_T lt_T le_F lt_F leI_T ltI_T leI_F ltI_F geI gtI get_T decide_true decide_false room List.getElem?_map List.length_map List.length_take Int.toNat_natCast Nat.min_def Nat.min_self nth_kOf put_kOf put_kNo kOv_cons kOv_nil KHas KArgs List.getElem_cons_zero List.getElem_cons_succ
def a_rTable : AFunc := ⟨1, 106, [.tmp 2],
  (.seq (.region [⟨(some 1), .box (.t 0), none⟩, ⟨(some 2), .mv (.c (.v .zsl)), none⟩])
  (.seq (.region [⟨(some 12), .load (some 1) (.t 1), none⟩, ⟨(some 13), .call (.c (.fn 16 [])) [(.t 12)], none⟩, ⟨(some 3), .mv (.t 13), none⟩])
  (.seq (.region [⟨(some 14), .mv (.t 3), none⟩, ⟨(some 15), .mkslice 2 [(.v (.int .i64 0)), (.v (.int .i64 0))] 16 (.t 14) (.t 14), none⟩, ⟨(some 4), .mv (.t 15), none⟩])
  (.seq (.seq (.region [⟨(some 5), .mv (.c (.v (.int .i64 0))), none⟩])
  (.block 0 (.loop (.seq (.seq (.region [⟨(some 16), .mv (.t 5), none⟩, ⟨(some 17), .mv (.t 3), none⟩, ⟨(some 18), .bin .lss (.t 16) (.t 17), none⟩])
  (.cond (.t 18) .skip
  (.exit 0)))
  (.seq (.block 1 (.region [⟨(some 21), .mv (.t 4), none⟩, ⟨(some 22), .mv (.t 5), none⟩, ⟨(some 23), .load (some 1) (.t 1), none⟩, ⟨(some 24), .mv (.t 5), none⟩, ⟨(some 25), .call (.c (.fn 19 [])) [(.t 23), (.t 24)], none⟩, ⟨(some 26), .iaddr 2 (.t 21) (.t 22), none⟩, ⟨none, .store 2 (.t 26) (.t 25), none⟩]))
  (.region [⟨(some 19), .mv (.t 5), none⟩, ⟨(some 20), .bin .add (.t 19) (.c (.v (.int .i64 1))), none⟩, ⟨(some 5), .mv (.t 20), none⟩]))))))
  (.seq (.region [⟨(some 27), .mv (.t 3), none⟩, ⟨(some 28), .mkslice 1 [(.v .zsl)] 24 (.t 27) (.t 27), none⟩, ⟨(some 6), .mv (.t 28), none⟩])
  (.seq (.seq (.region [⟨(some 7), .mv (.c (.v (.int .i64 0))), none⟩])
  (.block 2 (.loop (.seq (.seq (.region [⟨(some 29), .mv (.t 7), none⟩, ⟨(some 30), .mv (.t 3), none⟩, ⟨(some 31), .bin .lss (.t 29) (.t 30), none⟩])
  (.cond (.t 31) .skip
  (.exit 2)))
  (.seq (.block 3 (.seq (.region [⟨(some 34), .mv (.t 6), none⟩, ⟨(some 35), .mv (.t 7), none⟩, ⟨(some 36), .mv (.t 3), none⟩, ⟨(some 37), .mkslice 1 [(.v (.bool false))] 1 (.t 36) (.t 36), none⟩, ⟨(some 38), .iaddr 1 (.t 34) (.t 35), none⟩, ⟨none, .store 1 (.t 38) (.t 37), none⟩])
  (.seq (.region [⟨(some 8), .mv (.c (.v (.int .i64 0))), none⟩])
  (.block 4 (.loop (.seq (.seq (.region [⟨(some 39), .mv (.t 8), none⟩, ⟨(some 40), .mv (.t 3), none⟩, ⟨(some 41), .bin .lss (.t 39) (.t 40), none⟩])
  (.cond (.t 41) .skip
  (.exit 4)))
  (.seq (.block 5 (.draw [⟨0, ⟨(some 44), .mv (.t 6), none⟩, []⟩, ⟨1, ⟨(some 45), .mv (.t 7), none⟩, []⟩, ⟨2, ⟨(some 46), .iaddr 1 (.t 44) (.t 45), none⟩, []⟩, ⟨3, ⟨(some 47), .load none (.t 46), none⟩, []⟩, ⟨4, ⟨(some 48), .mv (.t 8), none⟩, []⟩, ⟨5, ⟨(some 49), .load (some 1) (.t 1), none⟩, []⟩, ⟨6, ⟨(some 50), .mv (.t 4), none⟩, []⟩, ⟨7, ⟨(some 51), .mv (.t 7), none⟩, []⟩, ⟨8, ⟨(some 52), .iaddr 2 (.t 50) (.t 51), none⟩, []⟩, ⟨9, ⟨(some 53), .load (some 2) (.t 52), none⟩, []⟩, ⟨10, ⟨(some 54), .mv (.t 4), none⟩, []⟩, ⟨11, ⟨(some 55), .mv (.t 8), none⟩, []⟩, ⟨12, ⟨(some 56), .iaddr 2 (.t 54) (.t 55), none⟩, []⟩, ⟨13, ⟨(some 57), .load (some 2) (.t 56), none⟩, []⟩, ⟨14, ⟨(some 58), .call (.c (.fn 20 [])) [(.t 49), (.t 53), (.t 57)], none⟩, [⟨(some 44), .mv (.t 6), none⟩, ⟨(some 45), .mv (.t 7), none⟩, ⟨(some 46), .iaddr 1 (.t 44) (.t 45), none⟩, ⟨(some 47), .load none (.t 46), none⟩, ⟨(some 48), .mv (.t 8), none⟩]⟩, ⟨15, ⟨(some 59), .iaddr 1 (.t 47) (.t 48), none⟩, []⟩, ⟨16, ⟨none, .store 1 (.t 59) (.t 58), none⟩, []⟩]))
  (.region [⟨(some 42), .mv (.t 8), none⟩, ⟨(some 43), .bin .add (.t 42) (.c (.v (.int .i64 1))), none⟩, ⟨(some 8), .mv (.t 43), none⟩]))))))))
  (.region [⟨(some 32), .mv (.t 7), none⟩, ⟨(some 33), .bin .add (.t 32) (.c (.v (.int .i64 1))), none⟩, ⟨(some 7), .mv (.t 33), none⟩]))))))
  (.seq (.seq (.region [⟨(some 9), .mv (.c (.v (.int .i64 0))), none⟩])
  (.block 6 (.loop (.seq (.seq (.region [⟨(some 60), .mv (.t 9), none⟩, ⟨(some 61), .mv (.t 3), none⟩, ⟨(some 62), .bin .lss (.t 60) (.t 61), none⟩])
  (.cond (.t 62) .skip
  (.exit 6)))
  (.seq (.block 7 (.seq (.region [⟨(some 10), .mv (.c (.v (.int .i64 0))), none⟩])
  (.block 8 (.loop (.seq (.seq (.region [⟨(some 65), .mv (.t 10), none⟩, ⟨(some 66), .mv (.t 3), none⟩, ⟨(some 67), .bin .lss (.t 65) (.t 66), none⟩])
  (.cond (.t 67) .skip
  (.exit 8)))
  (.seq (.block 9 (.seq (.seq (.region [⟨(some 70), .mv (.t 6), none⟩, ⟨(some 71), .mv (.t 10), none⟩, ⟨(some 72), .iaddr 1 (.t 70) (.t 71), none⟩, ⟨(some 73), .load none (.t 72), none⟩, ⟨(some 74), .mv (.t 9), none⟩, ⟨(some 75), .iaddr 1 (.t 73) (.t 74), none⟩, ⟨(some 76), .load none (.t 75), none⟩, ⟨(some 77), .not (.t 76), none⟩])
  (.cond (.t 77) (.exit 9)
  .skip))
  (.seq (.region [⟨(some 11), .mv (.c (.v (.int .i64 0))), none⟩])
  (.block 10 (.loop (.seq (.seq (.region [⟨(some 78), .mv (.t 11), none⟩, ⟨(some 79), .mv (.t 3), none⟩, ⟨(some 80), .bin .lss (.t 78) (.t 79), none⟩])
  (.cond (.t 80) .skip
  (.exit 10)))
  (.seq (.block 11 (.draw [⟨0, ⟨(some 83), .mv (.t 6), none⟩, []⟩, ⟨1, ⟨(some 84), .mv (.t 10), none⟩, []⟩, ⟨2, ⟨(some 85), .iaddr 1 (.t 83) (.t 84), none⟩, []⟩, ⟨3, ⟨(some 86), .load none (.t 85), none⟩, []⟩, ⟨4, ⟨(some 87), .mv (.t 11), none⟩, []⟩, ⟨5, ⟨(some 88), .mv (.t 6), none⟩, []⟩, ⟨6, ⟨(some 89), .mv (.t 10), none⟩, []⟩, ⟨7, ⟨(some 90), .iaddr 1 (.t 88) (.t 89), none⟩, []⟩, ⟨8, ⟨(some 91), .load none (.t 90), none⟩, []⟩, ⟨9, ⟨(some 92), .mv (.t 11), none⟩, []⟩, ⟨10, ⟨(some 93), .iaddr 1 (.t 91) (.t 92), none⟩, []⟩, ⟨11, ⟨(some 94), .load none (.t 93), none⟩, []⟩, ⟨12, ⟨(some 95), .mv (.t 94), none⟩, []⟩, ⟨13, ⟨(some 96), .mv (.t 6), some (95, false)⟩, []⟩, ⟨14, ⟨(some 97), .mv (.t 9), some (95, false)⟩, []⟩, ⟨15, ⟨(some 98), .iaddr 1 (.t 96) (.t 97), some (95, false)⟩, []⟩, ⟨16, ⟨(some 99), .load none (.t 98), some (95, false)⟩, []⟩, ⟨17, ⟨(some 100), .mv (.t 11), some (95, false)⟩, []⟩, ⟨18, ⟨(some 101), .iaddr 1 (.t 99) (.t 100), some (95, false)⟩, []⟩, ⟨19, ⟨(some 102), .load none (.t 101), some (95, false)⟩, []⟩, ⟨20, ⟨(some 103), .pick (.t 95) (.c (.v (.bool true))) (.t 102), none⟩, []⟩, ⟨21, ⟨(some 104), .iaddr 1 (.t 86) (.t 87), none⟩, []⟩, ⟨22, ⟨none, .store 1 (.t 104) (.t 103), none⟩, []⟩]))
  (.region [⟨(some 81), .mv (.t 11), none⟩, ⟨(some 82), .bin .add (.t 81) (.c (.v (.int .i64 1))), none⟩, ⟨(some 11), .mv (.t 82), none⟩]))))))))
  (.region [⟨(some 68), .mv (.t 10), none⟩, ⟨(some 69), .bin .add (.t 68) (.c (.v (.int .i64 1))), none⟩, ⟨(some 10), .mv (.t 69), none⟩])))))))
  (.region [⟨(some 63), .mv (.t 9), none⟩, ⟨(some 64), .bin .add (.t 63) (.c (.v (.int .i64 1))), none⟩, ⟨(some 9), .mv (.t 64), none⟩]))))))
  (.seq (.region [⟨(some 105), .mv (.t 6), none⟩, ⟨(some 2), .mv (.t 105), none⟩])
  .ret))))))))⟩
theorem a_rTable_ok : cFunc Try.prog 90 = some a_rTable := by kernel_rfl
def r_rTable0 : List (Nat × Nat) := [(5, 5), (16, 26)]
def r_rTable1 : List (Nat × Nat) := [(7, 8), (29, 59)]
def r_rTable2 : List (Nat × Nat) := [(8, 8), (39, 59)]
def r_rTable3 : List (Nat × Nat) := [(9, 11), (60, 104)]
def r_rTable4 : List (Nat × Nat) := [(10, 11), (65, 104)]
def r_rTable5 : List (Nat × Nat) := [(11, 11), (78, 104)]

theorem Weak.shift {e e' : List AV} {b pre l l' : List Row} (h : Weak e (b ++ pre) l e' (b ++ pre) l') : Weak e b (pre ++ l) e' b (pre ++ l') := by
  intro F L w a s he
  rw [← List.append_assoc] at s
  obtain ⟨F', L', h1, h2, h3, h4⟩ := h F L w a s he
  refine ⟨F', L', by rw [← List.append_assoc]; exact h1, h2, ?_, rfl⟩
  rw [← List.append_assoc, ← List.append_assoc]
  exact h3.weaken (by simp)
theorem mR_lt' {n v0 base sz m : Nat} {ver : Nat → Nat} {R : Nat → List (List IV)} (h : base + (n + 1) ≤ m) : RowsLt m (mR n v0 base sz 0 ver R) := by
  intro id ver' sz' els hr row hrow c hc
  unfold mR at hr
  cases id with
  | zero =>
    rw [List.getElem?_cons_zero] at hr
    cases hr
    obtain ⟨j, hj, rfl⟩ := List.mem_map.1 hrow
    simp only [List.mem_singleton] at hc
    subst hc
    have := List.mem_range.1 hj
    unfold mC
    rw [if_neg (by omega)]
    exact .sl _ _ _ _ (by omega)
  | succ id =>
    rw [List.getElem?_cons_succ] at hr
    by_cases hid : id < n
    · rw [fl_get hid] at hr
      unfold mD at hr
      rw [if_neg (by omega)] at hr
      cases hr
      obtain ⟨r0, _, rfl⟩ := List.mem_map.1 hrow
      obtain ⟨x0, _, rfl⟩ := List.mem_map.1 hc
      exact .v _
    · rw [fl_none (by omega)] at hr; cases hr
/-- The end of a function that hands out a matrix of its own that stands behind other rows. -/
theorem leave_matP {rs : List ARes} {Q : AV → List Row → List Row → Prop} {B e l : List _} {ex : AExit} (hex : ex = .normal ∨ ex = .ret) {n m v0 sz : Nat} {ver : Nat → Nat} {R : Nat → List (List IV)} {pre junk : List Row} (hx : resVs e B l rs = some [.sl (B.length + m) v0 0 n]) (hm : pre.length = m) (hl : l = pre ++ mR n v0 (B.length + m) sz 0 ver R ++ junk)
    (hp : RowsLt (B.length + m) pre) (hR : RowsLt B.length B) {b0 l0 : List Row} (hB : B = b0 ++ l0) (hq : Q (.v (.isl 1 (mV n sz R))) b0 l0) : Leaves rs Q b0.length ex e B l := by
  subst hm
  have hlm : (mR n v0 (B.length + pre.length) sz 0 ver R).length = n + 1 := by simp [mR, fl_len]
  have hbl : (B ++ pre).length = B.length + pre.length := List.length_append
  refine leave hex hx (y := .v (.isl 1 (mV n sz R))) (l' := []) ?_ hB (by simpa using hq)
  refine (Weak.trim (l1 := pre ++ mR n v0 (B.length + pre.length) sz 0 ver R) hl ?_ (hR.mono (by omega)) ?_).trans ?_
  · intro x hx
    simp only [one, List.mem_singleton] at hx
    subst hx
    exact .sl _ _ _ _ (by rw [List.length_append]; omega)
  · intro id ver' sz' els hr row hrow c hc
    by_cases hid : id < pre.length
    · rw [List.getElem?_append_left hid] at hr
      exact (hp id ver' sz' els hr row hrow c hc).mono (by rw [List.length_append]; omega)
    · rw [List.getElem?_append_right (by omega)] at hr
      exact mR_lt' (m := B.length + (pre ++ mR n v0 (B.length + pre.length) sz 0 ver R).length) (by rw [List.length_append]; omega) _ ver' sz' els hr row hrow c hc
  have h0 : Weak [one [AV.sl (B.length + pre.length) v0 0 n]] (B ++ pre) (mR n v0 (B ++ pre).length sz 0 ver R) [one [AV.sl (B.length + pre.length) v0 0 n]] (B ++ pre) (mR n v0 (B ++ pre).length sz n ver R) :=
    Weak.mfrz (fun i hi => by
      simp only [one, List.map_cons, List.map_nil, frz, frz0]
      rw [if_neg (by rw [hbl]; omega)]) n (Nat.le_refl _)
  have h1 := Weak.freezeR (e := [one [AV.sl (B.length + pre.length) v0 0 n]]) (b := B ++ pre) (i := 0) (rows := mV n sz R) (mR_all (n := n) (v0 := v0) (base := (B ++ pre).length) (sz := sz) (ver := ver) (R := R))
  have h2 : List.map (frz ((B ++ pre).length + 0) v0 1 (mV n sz R)) [one [AV.sl (B.length + pre.length) v0 0 n]] = [.v (.isl 1 (mV n sz R))] := by
    simp [one, frz, frz0, mV, fl_len, hbl]
    unfold fl
    rw [List.take_of_length_le (by simp)]
  rw [h2] at h1
  have h3 := (h0.trans h1).shift
  rw [hbl] at h3
  refine h3.trans ?_
  exact Weak.trim (l1 := []) rfl (by
    intro x hx
    simp only [List.mem_singleton] at hx
    subst hx
    exact .v _) (by simpa using hR) RowsLt_nil
def bR (n : Nat) (f : Nat → Bool) : List (List IV) := fl n fun k => [.bool (f k)]
theorem bR_len {n : Nat} {f : Nat → Bool} : (bR n f).length = n := fl_len
theorem bR_set {n c : Nat} {f : Nat → Bool} {v : Bool} : (bR n f).set c [.bool v] = bR n (fUp f c v) := by
  unfold bR
  rw [fl_set]
  refine fl_congr (fun k _ => ?_)
  by_cases hk : k = c
  · subst hk; rw [fUp_same, fUp_same]
  · rw [fUp_ne hk, fUp_ne hk]
theorem bR_get {n c : Nat} {f : Nat → Bool} (h : c < n) : (bR n f)[c]? = some [.bool (f c)] := fl_get h
theorem bR_zero {n : Nat} : List.replicate n [IV.bool false] = bR n (fun _ => false) := by unfold bR; rw [fl_const]
/-- The list of events, its first m made. -/
def evM (t : Tr) (m : Nat) : List (List IV) := fl (ids t).length fun j => if j < m then eId ((ids t).getD j (0, 0)) else [.int .i64 0, .int .i64 0]
theorem evM_zero {t : Tr} : List.replicate (ids t).length [IV.int .i64 0, .int .i64 0] = evM t 0 := by
  unfold evM
  rw [← fl_const]
  exact fl_congr (fun j _ => by rw [if_neg (by omega)])
theorem evM_set {t : Tr} {m : Nat} (h : m < (ids t).length) : (evM t m).set m (eId (ids t)[m]) = evM t (m + 1) := by
  unfold evM
  rw [fl_set]
  refine fl_congr (fun j _ => ?_)
  by_cases hj : j = m
  · subst hj; rw [fUp_same, if_pos (by omega), getD_at h]
  · rw [fUp_ne hj]
    by_cases h2 : j < m
    · rw [if_pos h2, if_pos (by omega)]
    · rw [if_neg h2, if_neg (by omega)]
theorem evM_len {t : Tr} {m : Nat} : (evM t m).length = (ids t).length := fl_len
theorem evM_get {t : Tr} {j : Nat} (h : j < (ids t).length) : (evM t (ids t).length)[j]? = some [.int .i64 (ids t)[j].1, .int .i64 (ids t)[j].2] := by
  unfold evM
  rw [fl_get h, if_pos h, getD_at h]; rfl
def tbC (n base i j : Nat) : List AV := if j < i then [.sl (base + (j + 1 + 1 + 1)) 0 0 n] else [.v .zsl]
def tbW (n : Nat) (R : Nat → Nat → Bool) (j : Nat) : Row := .live 0 1 (vs (bR n (R j)))
/-- The rows of the table, the first i made. -/
noncomputable def tbR (t : Tr) (base i : Nat) (R : Nat → Nat → Bool) : List Row := .live 0 1 [[.v (eT t)]] :: .live 0 2 (vs (evM t (ids t).length)) :: .live 0 1 (fl (ids t).length (tbC (ids t).length base i)) :: fl i (tbW (ids t).length R)
theorem tbR_len {t : Tr} {base i : Nat} {R : Nat → Nat → Bool} : (tbR t base i R).length = i + 3 := by simp [tbR, fl_len]
theorem tbR_lt {t : Tr} {base i m : Nat} {R : Nat → Nat → Bool} (h : base + (i + 3) ≤ m) : RowsLt m (tbR t base i R) := by
  have hp : ∀ (rows : List (List IV)) row, row ∈ vs rows → ∀ c ∈ row, AVlt m c := by
    intro rows row h c hc
    obtain ⟨r0, _, rfl⟩ := List.mem_map.1 h
    obtain ⟨x0, _, rfl⟩ := List.mem_map.1 hc
    exact .v _
  intro id ver sz els hr row hrow c hc
  match id, hr with
  | 0, hr => cases hr; simp at hrow; subst hrow; simp at hc; subst hc; exact .v _
  | 1, hr => cases hr; exact hp _ row hrow c hc
  | 2, hr =>
    cases hr
    obtain ⟨a, ha, rfl⟩ := List.mem_map.1 hrow
    unfold tbC at hc
    split at hc
    · simp only [List.mem_singleton] at hc; subst hc; exact .sl _ _ _ _ (by omega)
    · simp only [List.mem_singleton] at hc; subst hc; exact .v _
  | id + 3, hr =>
    have hr : (fl i (tbW (ids t).length R))[id]? = some (.live ver sz els) := hr
    by_cases hid : id < i
    · rw [fl_get hid] at hr
      cases hr
      exact hp _ row hrow c hc
    · rw [fl_none (by omega)] at hr; cases hr
theorem tbC_set {n base i : Nat} : (fl n (tbC n base i)).set i [.sl (base + (i + 1 + 1 + 1)) 0 0 n] = fl n (tbC n base (i + 1)) := by
  rw [fl_set]
  refine fl_congr (fun j _ => ?_)
  by_cases hj : j = i
  · subst hj; rw [fUp_same]; unfold tbC; rw [if_pos (by omega)]
  · rw [fUp_ne hj]
    unfold tbC
    by_cases h2 : j < i
    · rw [if_pos h2, if_pos (by omega)]
    · rw [if_neg h2, if_neg (by omega)]
theorem tbC_zero {n base : Nat} : List.replicate n [AV.v IV.zsl] = fl n (tbC n base 0) := by
  rw [← fl_const]
  refine fl_congr (fun j _ => ?_)
  unfold tbC; rw [if_neg (by omega)]
theorem tbC_at {n base i j : Nat} (h : j < i) : tbC n base i j = [.sl (base + (j + 1 + 1 + 1)) 0 0 n] := by unfold tbC; rw [if_pos h]
/-- An entry put. -/
theorem tbW_put {n m i c : Nat} {R R' : Nat → Nat → Bool} {v : Bool} (h : ∀ a b, R' a b = if a = i ∧ b = c then v else R a b) : fl m (fUp (tbW n R) i (.live 0 1 (vs (bR n (fUp (R i) c v))))) = fl m (tbW n R') := by
  refine fl_congr (fun a _ => ?_)
  by_cases ha : a = i
  · subst ha
    rw [fUp_same]
    unfold tbW bR
    congr 2
    refine fl_congr (fun b _ => ?_)
    rw [h]
    by_cases hb : b = c
    · subst hb; rw [fUp_same, if_pos ⟨rfl, rfl⟩]
    · rw [fUp_ne hb, if_neg (fun k => hb k.2)]
  · rw [fUp_ne ha]
    unfold tbW bR
    congr 2
    refine fl_congr (fun b _ => ?_)
    rw [h, if_neg (fun k => ha k.1)]
/-- The table while the direct steps are written; while paths by event k are added. -/
def tA (D : Nat → Nat → Bool) (i c a b : Nat) : Bool := if a < i ∨ (a = i ∧ b < c) then D a b else false
def tB (D : Nat → Nat → Bool) (k i c a b : Nat) : Bool := if a < i ∨ (a = i ∧ b < c) then wTab D (k + 1) a b else wTab D k a b
theorem tA_put {D : Nat → Nat → Bool} {i c : Nat} (a b : Nat) : tA D i (c + 1) a b = if a = i ∧ b = c then D i c else tA D i c a b := by
  unfold tA
  by_cases h : a = i ∧ b = c
  · rw [if_pos h, if_pos (.inr ⟨h.1, by omega⟩), h.1, h.2]
  · rw [if_neg h]
    by_cases h2 : a < i ∨ (a = i ∧ b < c)
    · rw [if_pos h2, if_pos (by omega)]
    · rw [if_neg h2, if_neg (by omega)]
theorem tB_put {D : Nat → Nat → Bool} {k i c : Nat} (a b : Nat) : tB D k i (c + 1) a b = if a = i ∧ b = c then wTab D (k + 1) i c else tB D k i c a b := by
  unfold tB
  by_cases h : a = i ∧ b = c
  · rw [if_pos h, if_pos (.inr ⟨h.1, by omega⟩), h.1, h.2]
  · rw [if_neg h]
    by_cases h2 : a < i ∨ (a = i ∧ b < c)
    · rw [if_pos h2, if_pos (by omega)]
    · rw [if_neg h2, if_neg (by omega)]
theorem tW_end {n m : Nat} {R R' : Nat → Nat → Bool} (h : ∀ a b, a < m → b < n → R a b = R' a b) : fl m (tbW n R) = fl m (tbW n R') := by
  refine fl_congr (fun a ha => ?_)
  unfold tbW bR
  congr 2
  exact fl_congr (fun b hb => by rw [h a b ha hb])
theorem tB_cell {D : Nat → Nat → Bool} {k i c : Nat} : tB D k i c i c = wTab D k i c := by unfold tB; rw [if_neg (by omega)]
theorem tB_row {D : Nat → Nat → Bool} {k i c j : Nat} : tB D k i c k j = wTab D k k j := by
  unfold tB
  split
  · exact wTab_row
  · rfl
theorem tB_col {D : Nat → Nat → Bool} {k i : Nat} : tB D k i 0 i k = wTab D k i k := by unfold tB; rw [if_neg (by omega)]
set_option maxRecDepth 20000 in
set_option maxHeartbeats 4000000 in
theorem rTable_spec (t : Tr) (hv : Vok t) (hS : Small t) (s1 : t.length ≤ 20) (s2 : ∀ x ∈ t, x.evs.length ≤ 70) (hC : (ids t).length ≤ 512) (b l : List Row) :
    ACalls Try.prog 90 [.agg [.v (eT t)]] b l (fun r b' l' => r = .v (.isl 1 (fl (ids t).length fun i => [.isl 1 (bR (ids t).length (wTab (dT t) (ids t).length i))])) ∧ b' = b ∧ l' = l) := by
  refine calls_kept a_rTable_ok rfl (by decide) ?_
  intro B g hB hR hE hA
  simp only [KArgs] at hA
  obtain ⟨N, hN⟩ : ∃ N, (ids t).length = N := ⟨_, rfl⟩
  simp (disch := (first | decide | omega)) only [a_rTable, hA, go_sem]
  refine ACalls.nxt (rEvents_spec t s1 s2 _ _) ?_
  have hz : List.replicate (ids t).length [AV.v (.int .i64 0), AV.v (.int .i64 0)] = vs (evM t 0) := by rw [← evM_zero]; simp [vs]
  simp (disch := (first | decide | omega)) only [hA, hz, go_sem]
  refine loop_kept (ι := Nat) r_rTable0 (fun m => [(5, .v (.int .i64 m))]) 2 (fun m => [.live 0 1 [[.v (eT t)]], .live 0 2 (vs (evM t m))])
    (fun m => m ≤ (ids t).length) (fun m => (ids t).length - m) 0 (Nat.zero_le _) (by (repeat (first | exact hE.mono (by omega) | refine KLt.up ?_ (by simp (disch := omega) only [AVlt_v, AVlt_any, AVlt_sl, AVlt_ptr, AVlt_mp, AVlt_agg, AVlt_tup, AVlt_fn, RowsLt_nil, RowsLt_live, RowsLt_dead, List.mem_cons, List.not_mem_nil, List.forall_mem_cons, List.forall_mem_nil, or_false, false_or, forall_eq_or_imp, forall_eq, vs_lt, Nat.add_lt_add_iff_left, Nat.reduceLT, true_and, and_true, and_self, List.length_cons, List.length_nil, Nat.reduceAdd, Nat.zero_add, implies_true, false_imp_iff, lt_T, List.mem_map])))) (by ((try simp (disch := decide) only [hA, go_sem]) <;> (repeat' (first | exact trivial | refine And.intro ?_ ?_)) <;> (first | rfl | (congr 2; omega)))) (fun e => Weak.refl _ _ _) ?_
  intro g1 hE1 hEE1 hg1 m hm
  by_cases hml : m < (ids t).length
  · have hev := fun b l => rEvent_spec t hS m hml (by omega) b l
    have hset := evM_set hml
    simp only [eId] at hset
    simp only [idA] at hev
    simp (disch := (first | decide | omega)) only [hA, hg1, go_sem]
    refine ACalls.nxt (hev _ _) ?_
    have hg0 : (evM t m)[m]? = some [.int .i64 0, .int .i64 0] := by
      unfold evM; rw [fl_get hml, if_neg (by omega)]
    simp (disch := (first | decide | omega)) only [hA, hg1, evM_len, hg0, hset, setFrom, cellsOf, go_sem]
    refine ⟨m + 1, hml, by simp only; omega, ?_⟩
    exact Weak.kround (p := r_rTable0) (k := 2) (by ((repeat refine (kAny_up rfl).trans ?_); exact hEE1)) (by ((try simp (disch := decide) only [hA, go_sem]) <;> (repeat' (first | exact trivial | refine And.intro ?_ ?_)) <;> (first | rfl | (congr 2; omega)))) rfl hE1 (by simp) (by simp (disch := omega) only [KOvLt, AVlt_v, AVlt_any, AVlt_sl, AVlt_ptr, AVlt_mp, AVlt_agg, AVlt_tup, AVlt_fn, RowsLt_nil, RowsLt_live, RowsLt_dead, List.mem_cons, List.not_mem_nil, List.forall_mem_cons, List.forall_mem_nil, or_false, false_or, forall_eq_or_imp, forall_eq, vs_lt, Nat.add_lt_add_iff_left, Nat.reduceLT, true_and, and_true, and_self, List.length_cons, List.length_nil, Nat.reduceAdd, Nat.zero_add, implies_true, false_imp_iff, lt_T, List.mem_map]) hR (by simp (disch := omega) only [AVlt_v, AVlt_any, AVlt_sl, AVlt_ptr, AVlt_mp, AVlt_agg, AVlt_tup, AVlt_fn, RowsLt_nil, RowsLt_live, RowsLt_dead, List.mem_cons, List.not_mem_nil, List.forall_mem_cons, List.forall_mem_nil, or_false, false_or, forall_eq_or_imp, forall_eq, vs_lt, Nat.add_lt_add_iff_left, Nat.reduceLT, true_and, and_true, and_self, List.length_cons, List.length_nil, Nat.reduceAdd, Nat.zero_add, implies_true, false_imp_iff, lt_T, List.mem_map])
  obtain rfl : m = (ids t).length := by omega
  have hz2 := tbC_zero (n := (ids t).length) (base := B.length)
  simp (disch := (first | decide | omega)) only [hA, hg1, hz2, go_sem]
  refine loop_kept (ι := Nat) r_rTable1 (fun i => [(7, .v (.int .i64 i))]) 3 (fun i => tbR t B.length i (tA (dT t) i 0))
    (fun i => i ≤ (ids t).length) (fun i => (ids t).length - i) 0 (Nat.zero_le _) (by (repeat (first | exact hE1.mono (by omega) | refine KLt.up ?_ (by simp (disch := omega) only [AVlt_v, AVlt_any, AVlt_sl, AVlt_ptr, AVlt_mp, AVlt_agg, AVlt_tup, AVlt_fn, RowsLt_nil, RowsLt_live, RowsLt_dead, List.mem_cons, List.not_mem_nil, List.forall_mem_cons, List.forall_mem_nil, or_false, false_or, forall_eq_or_imp, forall_eq, vs_lt, Nat.add_lt_add_iff_left, Nat.reduceLT, true_and, and_true, and_self, List.length_cons, List.length_nil, Nat.reduceAdd, Nat.zero_add, implies_true, false_imp_iff, lt_T, List.mem_map])))) (by ((try simp (disch := decide) only [hA, hg1, go_sem]) <;> (repeat' (first | exact trivial | refine And.intro ?_ ?_)) <;> (first | rfl | (congr 2; omega)))) (fun e => Weak.refl _ _ _) ?_
  intro g2 hE2 hEE2 hg2 i hi
  by_cases hil : i < (ids t).length
  · have hx := List.getElem_mem hil
    have hcs := tbC_set (n := (ids t).length) (base := B.length) (i := i)
    have hnw : fl i (tbW (ids t).length (tA (dT t) i 0)) ++ [Row.live 0 1 (vs (bR (ids t).length fun _ => false))] = fl (i + 1) (tbW (ids t).length (tA (dT t) i 0)) := by
      refine fl_next ?_
      unfold tbW bR
      congr 2
      refine fl_congr (fun b _ => ?_)
      unfold tA; rw [if_neg (by omega)]
    have hbz := bR_zero (n := (ids t).length)
    have hci : tbC (ids t).length B.length i i = [.v .zsl] := by unfold tbC; rw [if_neg (by omega)]
    simp (disch := (first | decide | omega)) only [hA, hg1, hg2, tbR, fl_len, fl_get, hci, hbz, hcs, hnw, setFrom, cellsOf, go_sem]
    refine loop_kept (ι := Nat) r_rTable2 (fun c => [(8, .v (.int .i64 c))]) (i + 4) (fun c => tbR t B.length (i + 1) (tA (dT t) i c))
      (fun c => c ≤ (ids t).length) (fun c => (ids t).length - c) 0 (Nat.zero_le _) (by (repeat (first | exact hE2.mono (by omega) | refine KLt.up ?_ (by simp (disch := omega) only [AVlt_v, AVlt_any, AVlt_sl, AVlt_ptr, AVlt_mp, AVlt_agg, AVlt_tup, AVlt_fn, RowsLt_nil, RowsLt_live, RowsLt_dead, List.mem_cons, List.not_mem_nil, List.forall_mem_cons, List.forall_mem_nil, or_false, false_or, forall_eq_or_imp, forall_eq, vs_lt, Nat.add_lt_add_iff_left, Nat.reduceLT, true_and, and_true, and_self, List.length_cons, List.length_nil, Nat.reduceAdd, Nat.zero_add, implies_true, false_imp_iff, lt_T, List.mem_map])))) (by ((try simp (disch := decide) only [hA, hg1, hg2, go_sem]) <;> (repeat' (first | exact trivial | refine And.intro ?_ ?_)) <;> (first | rfl | (congr 2; omega)))) (fun e => Weak.refl _ _ _) ?_
    intro g3 hE3 hEE3 hg3 c hc
    by_cases hcl : c < (ids t).length
    · have hy := List.getElem_mem hcl
      have hdr := fun b l => rDirect_spec t hS (ids t)[i] (ids t)[c] hx hy b l
      simp only [idA] at hdr
      have hgi := evM_get hil
      have hgc := evM_get hcl
      have hdt : dirB t (ids t)[i] (ids t)[c] = dT t i c := by unfold dT; rw [getD_at hil, getD_at hcl]
      have hca := tbC_at (n := (ids t).length) (base := B.length) (i := i + 1) (j := i) (by omega)
      have hbs := bR_set (n := (ids t).length) (c := c) (f := tA (dT t) i c i) (v := dT t i c)
      have hput := tbW_put (n := (ids t).length) (m := i + 1) (i := i) (c := c) (R := tA (dT t) i c) (R' := tA (dT t) i (c + 1)) (v := dT t i c) (fun a b => tA_put a b)
      have hbc := bR_get (n := (ids t).length) (f := tA (dT t) i c i) hcl
      have hwi : tbW (ids t).length (tA (dT t) i c) i = .live 0 1 (vs (bR (ids t).length (tA (dT t) i c i))) := rfl
      rw [hdt] at hdr
      simp (disch := (first | decide | omega)) only [hA, hg1, hg2, hg3, tbR, fl_len, fl_get, fl_set, hca, hgi, hgc, evM_len, go_sem]
      refine ACalls.nxt (hdr _ _) ?_
      simp (disch := (first | decide | omega)) only [hA, hg1, hg2, hg3, tbR, fl_len, fl_get, fl_set, hca, hgi, hgc, hwi, hbc, bR_len, hbs, hput, setFrom, cellsOf, go_sem]
      refine ⟨c + 1, hcl, by simp only; omega, ?_⟩
      exact Weak.kround (l1 := tbR t B.length (i + 1) (tA (dT t) i (c + 1))) (junk := []) (p := r_rTable2) (k := i + 4) (by ((repeat refine (kAny_up rfl).trans ?_); exact hEE3)) (by ((try simp (disch := decide) only [hA, go_sem]) <;> (repeat' (first | exact trivial | refine And.intro ?_ ?_)) <;> (first | rfl | (congr 2; omega)))) (List.append_nil _).symm hE3 (by rw [tbR_len]; omega) (by rw [tbR_len]; simp (disch := omega) only [KOvLt, AVlt_v, AVlt_any, AVlt_sl, AVlt_ptr, AVlt_mp, AVlt_agg, AVlt_tup, AVlt_fn, RowsLt_nil, RowsLt_live, RowsLt_dead, List.mem_cons, List.not_mem_nil, List.forall_mem_cons, List.forall_mem_nil, or_false, false_or, forall_eq_or_imp, forall_eq, vs_lt, Nat.add_lt_add_iff_left, Nat.reduceLT, true_and, and_true, and_self, List.length_cons, List.length_nil, Nat.reduceAdd, Nat.zero_add, implies_true, false_imp_iff, lt_T, List.mem_map]) hR (tbR_lt (Nat.le_of_eq (by rw [tbR_len])))
    · obtain rfl : c = (ids t).length := by omega
      have hend : fl (i + 1) (tbW (ids t).length (tA (dT t) i (ids t).length)) = fl (i + 1) (tbW (ids t).length (tA (dT t) (i + 1) 0)) := tW_end (fun a b ha hb => by
        unfold tA
        rw [if_pos (by omega), if_pos (by omega)])
      simp (disch := (first | decide | omega)) only [hA, hg1, hg2, hg3, tbR, hend, go_sem]
      refine ⟨i + 1, hil, by simp only; omega, ?_⟩
      exact Weak.kround (l1 := tbR t B.length (i + 1) (tA (dT t) (i + 1) 0)) (junk := []) (p := r_rTable1) (k := 3) (by ((repeat refine (kAny_up rfl).trans ?_); refine (kAny_sub hg3 (kIn_sub rfl)).trans ?_; (repeat refine (kAny_up rfl).trans ?_); exact hEE2)) (by ((try simp (disch := decide) only [hA, hg1, go_sem]) <;> (repeat' (first | exact trivial | refine And.intro ?_ ?_)) <;> (first | rfl | (congr 2; omega)))) (List.append_nil _).symm hE2 (by rw [tbR_len]; omega) (by rw [tbR_len]; simp (disch := omega) only [KOvLt, AVlt_v, AVlt_any, AVlt_sl, AVlt_ptr, AVlt_mp, AVlt_agg, AVlt_tup, AVlt_fn, RowsLt_nil, RowsLt_live, RowsLt_dead, List.mem_cons, List.not_mem_nil, List.forall_mem_cons, List.forall_mem_nil, or_false, false_or, forall_eq_or_imp, forall_eq, vs_lt, Nat.add_lt_add_iff_left, Nat.reduceLT, true_and, and_true, and_self, List.length_cons, List.length_nil, Nat.reduceAdd, Nat.zero_add, implies_true, false_imp_iff, lt_T, List.mem_map]) hR (tbR_lt (Nat.le_of_eq (by rw [tbR_len])))
  obtain rfl : i = (ids t).length := by omega
  have h0 : fl (ids t).length (tbW (ids t).length (tA (dT t) (ids t).length 0)) = fl (ids t).length (tbW (ids t).length (wTab (dT t) 0)) := tW_end (fun a b ha hb => by
    unfold tA wTab; rw [if_pos (.inl ha)])
  simp (disch := (first | decide | omega)) only [hA, hg1, hg2, tbR, h0, go_sem]
  refine loop_kept (ι := Nat) r_rTable3 (fun k => [(9, .v (.int .i64 k))]) ((ids t).length + 3) (fun k => tbR t B.length (ids t).length (wTab (dT t) k))
    (fun k => k ≤ (ids t).length) (fun k => (ids t).length - k) 0 (Nat.zero_le _) (by (repeat (first | exact hE2.mono (by omega) | refine KLt.up ?_ (by simp (disch := omega) only [AVlt_v, AVlt_any, AVlt_sl, AVlt_ptr, AVlt_mp, AVlt_agg, AVlt_tup, AVlt_fn, RowsLt_nil, RowsLt_live, RowsLt_dead, List.mem_cons, List.not_mem_nil, List.forall_mem_cons, List.forall_mem_nil, or_false, false_or, forall_eq_or_imp, forall_eq, vs_lt, Nat.add_lt_add_iff_left, Nat.reduceLT, true_and, and_true, and_self, List.length_cons, List.length_nil, Nat.reduceAdd, Nat.zero_add, implies_true, false_imp_iff, lt_T, List.mem_map])))) (by ((try simp (disch := decide) only [hA, hg1, hg2, go_sem]) <;> (repeat' (first | exact trivial | refine And.intro ?_ ?_)) <;> (first | rfl | (congr 2; omega)))) (fun e => Weak.refl _ _ _) ?_
  intro g3 hE3 hEE3 hg3 k hk
  by_cases hkl : k < (ids t).length
  · have hk0 : fl (ids t).length (tbW (ids t).length (wTab (dT t) k)) = fl (ids t).length (tbW (ids t).length (tB (dT t) k 0 0)) := tW_end (fun a b ha hb => by
      unfold tB; rw [if_neg (by omega)])
    simp (disch := (first | decide | omega)) only [hA, hg1, hg2, hg3, tbR, hk0, go_sem]
    refine loop_kept (ι := Nat) r_rTable4 (fun i => [(10, .v (.int .i64 i))]) ((ids t).length + 3) (fun i => tbR t B.length (ids t).length (tB (dT t) k i 0))
      (fun i => i ≤ (ids t).length) (fun i => (ids t).length - i) 0 (Nat.zero_le _) (by (repeat (first | exact hE3.mono (by omega) | refine KLt.up ?_ (by simp (disch := omega) only [AVlt_v, AVlt_any, AVlt_sl, AVlt_ptr, AVlt_mp, AVlt_agg, AVlt_tup, AVlt_fn, RowsLt_nil, RowsLt_live, RowsLt_dead, List.mem_cons, List.not_mem_nil, List.forall_mem_cons, List.forall_mem_nil, or_false, false_or, forall_eq_or_imp, forall_eq, vs_lt, Nat.add_lt_add_iff_left, Nat.reduceLT, true_and, and_true, and_self, List.length_cons, List.length_nil, Nat.reduceAdd, Nat.zero_add, implies_true, false_imp_iff, lt_T, List.mem_map])))) (by ((try simp (disch := decide) only [hA, hg1, hg2, hg3, go_sem]) <;> (repeat' (first | exact trivial | refine And.intro ?_ ?_)) <;> (first | rfl | (congr 2; omega)))) (fun e => Weak.refl _ _ _) ?_
    intro g4 hE4 hEE4 hg4 i hi
    by_cases hil : i < (ids t).length
    · have hca := tbC_at (n := (ids t).length) (base := B.length) (i := (ids t).length) (j := i) hil
      have hck := tbC_at (n := (ids t).length) (base := B.length) (i := (ids t).length) (j := k) hkl
      have hbk := bR_get (n := (ids t).length) (f := tB (dT t) k i 0 i) hkl
      rw [tB_col] at hbk
      cases hik : wTab (dT t) k i k with
      | false =>
        rw [hik] at hbk
        have hnx : fl (ids t).length (tbW (ids t).length (tB (dT t) k i 0)) = fl (ids t).length (tbW (ids t).length (tB (dT t) k (i + 1) 0)) := tW_end (fun a b ha hb => by
          unfold tB
          by_cases h1 : a < i
          · rw [if_pos (.inl h1), if_pos (by omega)]
          · rw [if_neg (by omega)]
            by_cases h2 : a = i
            · subst h2
              rw [if_pos (by omega), wTab, hik]; simp
            · rw [if_neg (by omega)])
        simp (disch := (first | decide | omega)) only [hA, hg1, hg2, hg3, hg4, tbR, tbW, fl_len, fl_get, hca, hbk, go_sem]
        refine ⟨i + 1, hil, by simp only; omega, ?_⟩
        simp only [tbR, hnx.symm]
        exact Weak.kround (l1 := tbR t B.length (ids t).length (tB (dT t) k i 0)) (junk := []) (p := r_rTable4) (k := (ids t).length + 3) (by ((repeat refine (kAny_up rfl).trans ?_); exact hEE4)) (by ((try simp (disch := decide) only [hA, go_sem]) <;> (repeat' (first | exact trivial | refine And.intro ?_ ?_)) <;> (first | rfl | (congr 2; omega)))) (List.append_nil _).symm hE4 (by rw [tbR_len]; omega) (by rw [tbR_len]; simp (disch := omega) only [KOvLt, AVlt_v, AVlt_any, AVlt_sl, AVlt_ptr, AVlt_mp, AVlt_agg, AVlt_tup, AVlt_fn, RowsLt_nil, RowsLt_live, RowsLt_dead, List.mem_cons, List.not_mem_nil, List.forall_mem_cons, List.forall_mem_nil, or_false, false_or, forall_eq_or_imp, forall_eq, vs_lt, Nat.add_lt_add_iff_left, Nat.reduceLT, true_and, and_true, and_self, List.length_cons, List.length_nil, Nat.reduceAdd, Nat.zero_add, implies_true, false_imp_iff, lt_T, List.mem_map]) hR (tbR_lt (Nat.le_of_eq (by rw [tbR_len])))
      | true =>
        rw [hik] at hbk
        simp (disch := (first | decide | omega)) only [hA, hg1, hg2, hg3, hg4, tbR, tbW, fl_len, fl_get, hca, hbk, go_sem]
        refine loop_kept (ι := Nat) r_rTable5 (fun c => [(11, .v (.int .i64 c))]) ((ids t).length + 3) (fun c => tbR t B.length (ids t).length (tB (dT t) k i c))
          (fun c => c ≤ (ids t).length) (fun c => (ids t).length - c) 0 (Nat.zero_le _) (by (repeat (first | exact hE4.mono (by omega) | refine KLt.up ?_ (by simp (disch := omega) only [AVlt_v, AVlt_any, AVlt_sl, AVlt_ptr, AVlt_mp, AVlt_agg, AVlt_tup, AVlt_fn, RowsLt_nil, RowsLt_live, RowsLt_dead, List.mem_cons, List.not_mem_nil, List.forall_mem_cons, List.forall_mem_nil, or_false, false_or, forall_eq_or_imp, forall_eq, vs_lt, Nat.add_lt_add_iff_left, Nat.reduceLT, true_and, and_true, and_self, List.length_cons, List.length_nil, Nat.reduceAdd, Nat.zero_add, implies_true, false_imp_iff, lt_T, List.mem_map])))) (by ((try simp (disch := decide) only [hA, hg1, hg2, hg3, hg4, go_sem]) <;> (repeat' (first | exact trivial | refine And.intro ?_ ?_)) <;> (first | rfl | (congr 2; omega)))) (fun e => Weak.refl _ _ _) ?_
        intro g5 hE5 hEE5 hg5 c hc
        by_cases hcl : c < (ids t).length
        · have hbi := bR_get (n := (ids t).length) (f := tB (dT t) k i c i) hcl
          have hbkc := bR_get (n := (ids t).length) (f := tB (dT t) k i c k) hcl
          rw [tB_cell] at hbi
          rw [tB_row] at hbkc
          have hbs := bR_set (n := (ids t).length) (c := c) (f := tB (dT t) k i c i) (v := wTab (dT t) (k + 1) i c)
          have hput := tbW_put (n := (ids t).length) (m := (ids t).length) (i := i) (c := c) (R := tB (dT t) k i c) (R' := tB (dT t) k i (c + 1)) (v := wTab (dT t) (k + 1) i c) (fun a b => tB_put a b)
          have hw : wTab (dT t) (k + 1) i c = (wTab (dT t) k i c || wTab (dT t) k k c) := by rw [wTab, hik, Bool.true_and]
          cases h1 : wTab (dT t) k i c with
          | true =>
            rw [h1] at hbi
            rw [h1, Bool.true_or] at hw
            rw [hw] at hbs hput
            simp (disch := (first | decide | omega)) only [hA, hg1, hg2, hg3, hg4, hg5, tbR, tbW, fl_len, fl_get, fl_set, hca, hck, hbi, hbkc, bR_len, hbs, setFrom, cellsOf, go_sem]
            refine ⟨c + 1, hcl, by simp only; omega, ?_⟩
            simp only [tbR, hput.symm]
            exact Weak.kround (junk := []) (p := r_rTable5) (k := (ids t).length + 3) (by ((repeat refine (kAny_up rfl).trans ?_); exact hEE5)) (by ((try simp (disch := decide) only [hA, go_sem]) <;> (repeat' (first | exact trivial | refine And.intro ?_ ?_)) <;> (first | rfl | (congr 2; omega)))) (List.append_nil _).symm hE5 (by simp [fl_len]) (by simp (disch := omega) only [KOvLt, AVlt_v, AVlt_any, AVlt_sl, AVlt_ptr, AVlt_mp, AVlt_agg, AVlt_tup, AVlt_fn, RowsLt_nil, RowsLt_live, RowsLt_dead, List.mem_cons, List.not_mem_nil, List.forall_mem_cons, List.forall_mem_nil, or_false, false_or, forall_eq_or_imp, forall_eq, vs_lt, Nat.add_lt_add_iff_left, Nat.reduceLT, true_and, and_true, and_self, List.length_cons, List.length_nil, Nat.reduceAdd, Nat.zero_add, implies_true, false_imp_iff, lt_T, List.mem_map]) hR (by
              have h := tbR_lt (t := t) (base := B.length) (i := (ids t).length) (R := tB (dT t) k i (c + 1)) (m := B.length + ((ids t).length + 3)) (Nat.le_refl _)
              simp only [tbR, hput.symm] at h
              exact h.mono (by simp [fl_len]))
          | false =>
            rw [h1] at hbi
            rw [h1, Bool.false_or] at hw
            rw [hw] at hbs hput
            simp (disch := (first | decide | omega)) only [hA, hg1, hg2, hg3, hg4, hg5, tbR, tbW, fl_len, fl_get, fl_set, hca, hck, hbi, hbkc, bR_len, hbs, setFrom, cellsOf, go_sem]
            refine ⟨c + 1, hcl, by simp only; omega, ?_⟩
            simp only [tbR, hput.symm]
            exact Weak.kround (junk := []) (p := r_rTable5) (k := (ids t).length + 3) (by ((repeat refine (kAny_up rfl).trans ?_); exact hEE5)) (by ((try simp (disch := decide) only [hA, go_sem]) <;> (repeat' (first | exact trivial | refine And.intro ?_ ?_)) <;> (first | rfl | (congr 2; omega)))) (List.append_nil _).symm hE5 (by simp [fl_len]) (by simp (disch := omega) only [KOvLt, AVlt_v, AVlt_any, AVlt_sl, AVlt_ptr, AVlt_mp, AVlt_agg, AVlt_tup, AVlt_fn, RowsLt_nil, RowsLt_live, RowsLt_dead, List.mem_cons, List.not_mem_nil, List.forall_mem_cons, List.forall_mem_nil, or_false, false_or, forall_eq_or_imp, forall_eq, vs_lt, Nat.add_lt_add_iff_left, Nat.reduceLT, true_and, and_true, and_self, List.length_cons, List.length_nil, Nat.reduceAdd, Nat.zero_add, implies_true, false_imp_iff, lt_T, List.mem_map]) hR (by
              have h := tbR_lt (t := t) (base := B.length) (i := (ids t).length) (R := tB (dT t) k i (c + 1)) (m := B.length + ((ids t).length + 3)) (Nat.le_refl _)
              simp only [tbR, hput.symm] at h
              exact h.mono (by simp [fl_len]))
        · obtain rfl : c = (ids t).length := by omega
          have hend : fl (ids t).length (tbW (ids t).length (tB (dT t) k i (ids t).length)) = fl (ids t).length (tbW (ids t).length (tB (dT t) k (i + 1) 0)) := tW_end (fun a b ha hb => by
            unfold tB
            by_cases h1 : a < i ∨ (a = i ∧ b < (ids t).length)
            · rw [if_pos h1, if_pos (by omega)]
            · rw [if_neg h1, if_neg (by omega)])
          simp (disch := (first | decide | omega)) only [hA, hg1, hg2, hg3, hg4, hg5, tbR, hend, go_sem]
          refine ⟨i + 1, hil, by simp only; omega, ?_⟩
          exact Weak.kround (l1 := tbR t B.length (ids t).length (tB (dT t) k (i + 1) 0)) (junk := []) (p := r_rTable4) (k := (ids t).length + 3) (by ((repeat refine (kAny_up rfl).trans ?_); refine (kAny_sub hg5 (kIn_sub rfl)).trans ?_; (repeat refine (kAny_up rfl).trans ?_); exact hEE4)) (by ((try simp (disch := decide) only [hA, hg1, go_sem]) <;> (repeat' (first | exact trivial | refine And.intro ?_ ?_)) <;> (first | rfl | (congr 2; omega)))) (List.append_nil _).symm hE4 (by rw [tbR_len]; omega) (by rw [tbR_len]; simp (disch := omega) only [KOvLt, AVlt_v, AVlt_any, AVlt_sl, AVlt_ptr, AVlt_mp, AVlt_agg, AVlt_tup, AVlt_fn, RowsLt_nil, RowsLt_live, RowsLt_dead, List.mem_cons, List.not_mem_nil, List.forall_mem_cons, List.forall_mem_nil, or_false, false_or, forall_eq_or_imp, forall_eq, vs_lt, Nat.add_lt_add_iff_left, Nat.reduceLT, true_and, and_true, and_self, List.length_cons, List.length_nil, Nat.reduceAdd, Nat.zero_add, implies_true, false_imp_iff, lt_T, List.mem_map]) hR (tbR_lt (Nat.le_of_eq (by rw [tbR_len])))
    · obtain rfl : i = (ids t).length := by omega
      have hend : fl (ids t).length (tbW (ids t).length (tB (dT t) k (ids t).length 0)) = fl (ids t).length (tbW (ids t).length (wTab (dT t) (k + 1))) := tW_end (fun a b ha hb => by
        unfold tB; rw [if_pos (.inl ha)])
      simp (disch := (first | decide | omega)) only [hA, hg1, hg2, hg3, hg4, tbR, hend, go_sem]
      refine ⟨k + 1, hkl, by simp only; omega, ?_⟩
      exact Weak.kround (l1 := tbR t B.length (ids t).length (wTab (dT t) (k + 1))) (junk := []) (p := r_rTable3) (k := (ids t).length + 3) (by ((repeat refine (kAny_up rfl).trans ?_); refine (kAny_sub hg4 (kIn_sub rfl)).trans ?_; (repeat refine (kAny_up rfl).trans ?_); exact hEE3)) (by ((try simp (disch := decide) only [hA, hg1, go_sem]) <;> (repeat' (first | exact trivial | refine And.intro ?_ ?_)) <;> (first | rfl | (congr 2; omega)))) (List.append_nil _).symm hE3 (by rw [tbR_len]; omega) (by rw [tbR_len]; simp (disch := omega) only [KOvLt, AVlt_v, AVlt_any, AVlt_sl, AVlt_ptr, AVlt_mp, AVlt_agg, AVlt_tup, AVlt_fn, RowsLt_nil, RowsLt_live, RowsLt_dead, List.mem_cons, List.not_mem_nil, List.forall_mem_cons, List.forall_mem_nil, or_false, false_or, forall_eq_or_imp, forall_eq, vs_lt, Nat.add_lt_add_iff_left, Nat.reduceLT, true_and, and_true, and_self, List.length_cons, List.length_nil, Nat.reduceAdd, Nat.zero_add, implies_true, false_imp_iff, lt_T, List.mem_map]) hR (tbR_lt (Nat.le_of_eq (by rw [tbR_len])))
  obtain rfl : k = (ids t).length := by omega
  simp (disch := (first | decide | omega)) only [hA, hg1, hg2, hg3, tbR, go_sem]
  refine leave_matP (n := (ids t).length) (m := 2) (v0 := 0) (sz := 1) (ver := fun _ => 0) (R := fun i => bR (ids t).length (wTab (dT t) (ids t).length i)) (pre := [.live 0 1 [[.v (eT t)]], .live 0 2 (vs (evM t (ids t).length))]) (junk := []) (.inr rfl) (by simp (disch := (first | decide | omega)) only [resVs, resV, hA, hg1, hg2, hg3, go_sem]) rfl ?_ (by simp only [AVlt_v, AVlt_any, AVlt_sl, AVlt_ptr, AVlt_mp, AVlt_agg, AVlt_tup, AVlt_fn, RowsLt_nil, RowsLt_live, RowsLt_dead, List.mem_cons, List.not_mem_nil, List.forall_mem_cons, List.forall_mem_nil, or_false, false_or, forall_eq_or_imp, forall_eq, vs_lt, Nat.add_lt_add_iff_left, Nat.reduceLT, true_and, and_true, and_self, List.length_cons, List.length_nil, Nat.reduceAdd, Nat.zero_add, implies_true, false_imp_iff, lt_T, List.mem_map]) hR hB ⟨rfl, rfl, rfl⟩
  unfold mR
  simp only [List.append_nil, List.cons_append, List.nil_append]
  congr 3
  · congr 1
    refine fl_congr (fun j hj => ?_)
    rw [tbC_at hj]
    unfold mC
    rw [if_neg (by omega), bR_len, show B.length + 2 + (j + 1) = B.length + (j + 1 + 1 + 1) by omega]
end Go.Proofs.Ytnnnccibhhnbaaa

namespace Go.Proofs.Ytnnnccibhhnbaaa
set_option linter.unusedVariables false
set_option linter.unusedSimpArgs false
attribute [local go_sem ↓] run_skip run_region run_draw run_seq run_block run_exit run_ret run_cond atN_app seqC_normal seqC_exit seqC_ret seqQ_normal seqQ_exit seqQ_ret blkQ_normal blkQ_exit blkQ_ret runOps_nil runOps_cons runD_nil runD_cons grdO_true grdO_false grdD_true grdD_false ifC_true ifC_false opS_val opS_call opS_two opK_app dS_val dS_call dS_two dK_app kUp_same kUp_ne
attribute [local go_sem] rechks_nil rechks_cons rechk gcase_true gcase_false ex_val ex_val0 gd_none gd_some ev_t ev_c evs_nil evs_cons evo_some evo_none hget_at hget_first hsetB_at hsetB_first hsetL_at hsetL_first ofOpt_some aop aload astore aslice aappend aiaddr aiaddrA afaddr alen alenS acopy amm acall alookup amupdate alenM comma keyEq apick binV binVB binVS isSh intOp strOp boolOp shOp eqC eqF and2 cellsOf setFrom fillA fillS rd rdI elems mk bounds AV.cell List.all_cons List.all_nil Bool.and_true Bool.true_and Bool.and_self List.length_cons List.length_nil List.length_append Nat.reduceAdd Nat.reduceSub Nat.reduceMul Nat.zero_add Nat.add_zero List.cons_append List.nil_append List.append_assoc List.append_nil List.getElem?_cons_zero List.getElem?_cons_succ List.getElem?_nil List.set_cons_zero List.set_cons_succ List.drop_zero List.drop_succ_cons List.take_zero List.take_succ_cons List.take_nil List.drop_nil List.map_cons List.map_nil Option.map_some if_true if_false Bool.false_eq_true and_self true_and and_true Nat.reduceLeDiff Nat.reduceLT Nat.le_refl Nat.reduceEqDiff ite_true ite_false beq_self_eq_true beq_true beq_false Bool.not_true Bool.not_false Bool.true_beq Bool.false_beq map_vs vs_len vs_get vs_take vs_drop vs_snoc1 vs_snoc2 vs_snoc3 vs_snoc5 vs_set1 vs_set2 vs_rep wrap_id le_T lt_T le_F lt_F leI_T ltI_T leI_F ltI_F geI gtI get_T decide_true decide_false room List.getElem?_map List.length_map List.length_take Int.toNat_natCast Nat.min_def Nat.min_self nth_kOf put_kOf put_kNo kOv_cons kOv_nil KHas KArgs List.getElem_cons_zero List.getElem_cons_succ
def a_EventC : AFunc := ⟨2, 42, [.cell 4 (some 2), .tmp 5],
  (.seq (.region [⟨(some 2), .box (.t 0), none⟩, ⟨(some 4), .alloc [(.v (.int .i64 0)), (.v (.int .i64 0))], none⟩, ⟨(some 5), .mv (.c (.v (.int .i64 0))), none⟩])
  (.seq (.seq (.region [⟨(some 9), .load (some 1) (.t 2), none⟩, ⟨(some 10), .call (.c (.fn 74 [])) [(.t 9), (.c (.v .zsl))], none⟩, ⟨(some 6), .mv (.t 10), none⟩])
  (.seq (.region [⟨(some 11), .mv (.t 6), none⟩, ⟨(some 12), .bin .neq (.t 11) (.c (.v (.int .i64 0))), none⟩])
  (.cond (.t 12) (.seq (.region [⟨(some 13), .build [(.v (.int .i64 0)), (.v (.int .i64 0))] [], none⟩, ⟨(some 14), .mv (.t 6), none⟩, ⟨none, .store 2 (.t 4) (.t 13), none⟩, ⟨(some 5), .mv (.t 14), none⟩])
  .ret)
  .skip)))
  (.seq (.seq (.region [⟨(some 15), .mv (.t 1), none⟩, ⟨(some 16), .bin .lss (.t 15) (.c (.v (.int .i64 0))), none⟩])
  (.cond (.t 16) (.seq (.region [⟨(some 17), .build [(.v (.int .i64 0)), (.v (.int .i64 0))] [], none⟩, ⟨none, .store 2 (.t 4) (.t 17), none⟩, ⟨(some 5), .mv (.c (.v (.int .i64 2))), none⟩])
  .ret)
  .skip))
  (.seq (.seq (.region [⟨(some 18), .faddr 0 (.t 2), none⟩, ⟨(some 19), .load none (.t 18), none⟩, ⟨(some 20), .len (.t 19), none⟩, ⟨(some 21), .mv (.c (.v (.int .i64 0))), none⟩])
  (.block 0 (.loop (.seq (.region [⟨(some 22), .bin .lss (.t 21) (.t 20), none⟩])
  (.seq (.cond (.t 22) .skip
  (.exit 0))
  (.seq (.block 1 (.seq (.region [⟨(some 23), .mv (.t 21), none⟩, ⟨(some 24), .iaddr 3 (.t 19) (.t 21), none⟩, ⟨(some 25), .load (some 3) (.t 24), none⟩, ⟨(some 8), .alloc [(.v (.str ⟨#[]⟩)), (.v .zsl), (.v .zsl)], none⟩, ⟨(some 7), .mv (.t 23), none⟩, ⟨none, .store 3 (.t 8) (.t 25), none⟩])
  (.seq (.seq (.region [⟨(some 26), .mv (.t 1), none⟩, ⟨(some 27), .faddr 2 (.t 8), none⟩, ⟨(some 28), .load none (.t 27), none⟩, ⟨(some 29), .len (.t 28), none⟩, ⟨(some 30), .bin .lss (.t 26) (.t 29), none⟩])
  (.cond (.t 30) (.seq (.region [⟨(some 31), .mv (.t 7), none⟩, ⟨(some 32), .mv (.t 1), none⟩, ⟨(some 33), .bin .add (.t 32) (.c (.v (.int .i64 1))), none⟩, ⟨(some 34), .build [(.v (.int .i64 0)), (.v (.int .i64 0))] [(0, 1, (.t 31)), (1, 1, (.t 33))], none⟩, ⟨none, .store 2 (.t 4) (.t 34), none⟩, ⟨(some 5), .mv (.c (.v (.int .i64 0))), none⟩])
  .ret)
  .skip))
  (.region [⟨(some 35), .mv (.t 1), none⟩, ⟨(some 36), .faddr 2 (.t 8), none⟩, ⟨(some 37), .load none (.t 36), none⟩, ⟨(some 38), .len (.t 37), none⟩, ⟨(some 39), .bin .sub (.t 35) (.t 38), none⟩, ⟨(some 1), .mv (.t 39), none⟩]))))
  (.region [⟨(some 40), .bin .add (.t 21) (.c (.v (.int .i64 1))), none⟩, ⟨(some 21), .mv (.t 40), none⟩])))))))
  (.seq (.region [⟨(some 41), .build [(.v (.int .i64 0)), (.v (.int .i64 0))] [], none⟩, ⟨none, .store 2 (.t 4) (.t 41), none⟩, ⟨(some 5), .mv (.c (.v (.int .i64 2))), none⟩])
  .ret)))))⟩
theorem a_EventC_ok : cFunc Try.prog 39 = some a_EventC := by kernel_rfl
def r_EventC0 : List (Nat × Nat) := [(1, 1), (5, 5), (7, 8), (21, 40)]
def a_rNumber : AFunc := ⟨2, 27, [.tmp 4],
  (.seq (.region [⟨(some 2), .box (.t 0), none⟩, ⟨(some 3), .box (.t 1), none⟩, ⟨(some 4), .mv (.c (.v (.int .i64 0))), none⟩])
  (.seq (.region [⟨(some 5), .mv (.c (.v (.int .i64 0))), none⟩])
  (.seq (.seq (.region [⟨(some 6), .mv (.c (.v (.int .i64 0))), none⟩])
  (.block 0 (.loop (.seq (.seq (.region [⟨(some 7), .mv (.t 6), none⟩, ⟨(some 8), .faddr 0 (.t 3), none⟩, ⟨(some 9), .load none (.t 8), none⟩, ⟨(some 10), .bin .lss (.t 7) (.t 9), none⟩])
  (.cond (.t 10) .skip
  (.exit 0)))
  (.seq (.block 1 (.region [⟨(some 13), .mv (.t 5), none⟩, ⟨(some 14), .faddr 0 (.t 2), none⟩, ⟨(some 15), .load none (.t 14), none⟩, ⟨(some 16), .mv (.t 6), none⟩, ⟨(some 17), .iaddr 3 (.t 15) (.t 16), none⟩, ⟨(some 18), .faddr 2 (.t 17), none⟩, ⟨(some 19), .load none (.t 18), none⟩, ⟨(some 20), .len (.t 19), none⟩, ⟨(some 21), .bin .add (.t 13) (.t 20), none⟩, ⟨(some 5), .mv (.t 21), none⟩]))
  (.region [⟨(some 11), .mv (.t 6), none⟩, ⟨(some 12), .bin .add (.t 11) (.c (.v (.int .i64 1))), none⟩, ⟨(some 6), .mv (.t 12), none⟩]))))))
  (.seq (.region [⟨(some 22), .mv (.t 5), none⟩, ⟨(some 23), .faddr 1 (.t 3), none⟩, ⟨(some 24), .load none (.t 23), none⟩, ⟨(some 25), .bin .add (.t 22) (.t 24), none⟩, ⟨(some 26), .bin .sub (.t 25) (.c (.v (.int .i64 1))), none⟩, ⟨(some 4), .mv (.t 26), none⟩])
  .ret))))⟩
theorem a_rNumber_ok : cFunc Try.prog 40 = some a_rNumber := by kernel_rfl
def r_rNumber0 : List (Nat × Nat) := [(5, 21)]
def a_rSet : AFunc := ⟨1, 39, [.cell 2 (some 2)],
  (.seq (.region [⟨(some 2), .alloc [(.v (.int .i64 0)), (.v .zsl)], none⟩])
  (.seq (.region [⟨(some 5), .mv (.t 0), none⟩, ⟨(some 6), .len (.t 5), none⟩, ⟨(some 7), .mv (.t 0), none⟩, ⟨(some 8), .len (.t 7), none⟩, ⟨(some 9), .bin .add (.t 8) (.c (.v (.int .i64 63))), none⟩, ⟨(some 10), .bin .quo (.t 9) (.c (.v (.int .i64 64))), none⟩, ⟨(some 11), .mkslice 1 [(.v (.int .u64 0))] 8 (.t 10) (.t 10), none⟩, ⟨(some 12), .build [(.v (.int .i64 0)), (.v .zsl)] [(0, 1, (.t 6)), (1, 1, (.t 11))], none⟩, ⟨(some 3), .alloc [(.v (.int .i64 0)), (.v .zsl)], none⟩, ⟨none, .store 2 (.t 3) (.t 12), none⟩])
  (.seq (.seq (.region [⟨(some 4), .mv (.c (.v (.int .i64 0))), none⟩])
  (.block 0 (.loop (.seq (.seq (.region [⟨(some 13), .mv (.t 4), none⟩, ⟨(some 14), .mv (.t 0), none⟩, ⟨(some 15), .len (.t 14), none⟩, ⟨(some 16), .bin .lss (.t 13) (.t 15), none⟩])
  (.cond (.t 16) .skip
  (.exit 0)))
  (.seq (.block 1 (.seq (.region [⟨(some 19), .mv (.t 0), none⟩, ⟨(some 20), .mv (.t 4), none⟩, ⟨(some 21), .iaddr 1 (.t 19) (.t 20), none⟩, ⟨(some 22), .load none (.t 21), none⟩])
  (.cond (.t 22) (.draw [⟨0, ⟨(some 23), .faddr 1 (.t 3), none⟩, []⟩, ⟨1, ⟨(some 24), .load none (.t 23), none⟩, []⟩, ⟨2, ⟨(some 25), .mv (.t 4), none⟩, []⟩, ⟨3, ⟨(some 26), .bin .quo (.t 25) (.c (.v (.int .i64 64))), none⟩, []⟩, ⟨4, ⟨(some 27), .faddr 1 (.t 3), none⟩, []⟩, ⟨5, ⟨(some 28), .load none (.t 27), none⟩, []⟩, ⟨6, ⟨(some 29), .mv (.t 4), none⟩, []⟩, ⟨7, ⟨(some 30), .bin .quo (.t 29) (.c (.v (.int .i64 64))), none⟩, []⟩, ⟨8, ⟨(some 31), .iaddr 1 (.t 28) (.t 30), none⟩, []⟩, ⟨9, ⟨(some 32), .load none (.t 31), none⟩, []⟩, ⟨10, ⟨(some 33), .mv (.t 4), none⟩, []⟩, ⟨11, ⟨(some 34), .bin .rem (.t 33) (.c (.v (.int .i64 64))), none⟩, []⟩, ⟨12, ⟨(some 35), .bin .shl (.c (.v (.int .u64 1))) (.t 34), none⟩, []⟩, ⟨13, ⟨(some 36), .bin .or (.t 32) (.t 35), none⟩, []⟩, ⟨14, ⟨(some 37), .iaddr 1 (.t 24) (.t 26), none⟩, []⟩, ⟨15, ⟨none, .store 1 (.t 37) (.t 36), none⟩, []⟩])
  .skip)))
  (.region [⟨(some 17), .mv (.t 4), none⟩, ⟨(some 18), .bin .add (.t 17) (.c (.v (.int .i64 1))), none⟩, ⟨(some 4), .mv (.t 18), none⟩]))))))
  (.seq (.region [⟨(some 38), .load (some 2) (.t 3), none⟩, ⟨none, .store 2 (.t 2) (.t 38), none⟩])
  .ret))))⟩
theorem a_rSet_ok : cFunc Try.prog 91 = some a_rSet := by kernel_rfl
def r_rSet0 : List (Nat × Nat) := [(4, 4), (13, 37)]
def a_rSameSet : AFunc := ⟨2, 38, [.tmp 4],
  (.seq (.region [⟨(some 2), .box (.t 0), none⟩, ⟨(some 3), .box (.t 1), none⟩, ⟨(some 4), .mv (.c (.v (.bool false))), none⟩])
  (.seq (.seq (.region [⟨(some 6), .faddr 0 (.t 2), none⟩, ⟨(some 7), .load none (.t 6), none⟩, ⟨(some 8), .faddr 0 (.t 3), none⟩, ⟨(some 9), .load none (.t 8), none⟩, ⟨(some 10), .bin .neq (.t 7) (.t 9), none⟩, ⟨(some 11), .mv (.t 10), none⟩, ⟨(some 12), .faddr 1 (.t 2), some (11, false)⟩, ⟨(some 13), .load none (.t 12), some (11, false)⟩, ⟨(some 14), .len (.t 13), some (11, false)⟩, ⟨(some 15), .faddr 1 (.t 3), some (11, false)⟩, ⟨(some 16), .load none (.t 15), some (11, false)⟩, ⟨(some 17), .len (.t 16), some (11, false)⟩, ⟨(some 18), .bin .neq (.t 14) (.t 17), some (11, false)⟩, ⟨(some 19), .pick (.t 11) (.c (.v (.bool true))) (.t 18), none⟩])
  (.cond (.t 19) (.seq (.region [⟨(some 4), .mv (.c (.v (.bool false))), none⟩])
  .ret)
  .skip))
  (.seq (.seq (.region [⟨(some 5), .mv (.c (.v (.int .i64 0))), none⟩])
  (.block 0 (.loop (.seq (.seq (.region [⟨(some 20), .mv (.t 5), none⟩, ⟨(some 21), .faddr 1 (.t 2), none⟩, ⟨(some 22), .load none (.t 21), none⟩, ⟨(some 23), .len (.t 22), none⟩, ⟨(some 24), .bin .lss (.t 20) (.t 23), none⟩])
  (.cond (.t 24) .skip
  (.exit 0)))
  (.seq (.block 1 (.seq (.draw [⟨0, ⟨(some 27), .faddr 1 (.t 2), none⟩, []⟩, ⟨1, ⟨(some 28), .load none (.t 27), none⟩, []⟩, ⟨2, ⟨(some 29), .mv (.t 5), none⟩, []⟩, ⟨3, ⟨(some 30), .iaddr 1 (.t 28) (.t 29), none⟩, []⟩, ⟨4, ⟨(some 31), .load none (.t 30), none⟩, []⟩, ⟨5, ⟨(some 32), .faddr 1 (.t 3), none⟩, []⟩, ⟨6, ⟨(some 33), .load none (.t 32), none⟩, []⟩, ⟨7, ⟨(some 34), .mv (.t 5), none⟩, []⟩, ⟨8, ⟨(some 35), .iaddr 1 (.t 33) (.t 34), none⟩, []⟩, ⟨9, ⟨(some 36), .load none (.t 35), none⟩, []⟩, ⟨10, ⟨(some 37), .bin .neq (.t 31) (.t 36), none⟩, []⟩])
  (.cond (.t 37) (.seq (.region [⟨(some 4), .mv (.c (.v (.bool false))), none⟩])
  .ret)
  .skip)))
  (.region [⟨(some 25), .mv (.t 5), none⟩, ⟨(some 26), .bin .add (.t 25) (.c (.v (.int .i64 1))), none⟩, ⟨(some 5), .mv (.t 26), none⟩]))))))
  (.seq (.region [⟨(some 4), .mv (.c (.v (.bool true))), none⟩])
  .ret))))⟩
theorem a_rSameSet_ok : cFunc Try.prog 89 = some a_rSameSet := by kernel_rfl
def r_rSameSet0 : List (Nat × Nat) := [(4, 5), (20, 37)]
def a_rOrder13 : AFunc := ⟨1, 25, [.cell 2 (some 1)],
  (.seq (.region [⟨(some 1), .box (.t 0), none⟩, ⟨(some 2), .alloc [(.v .zsl)], none⟩])
  (.seq (.region [⟨(some 6), .load (some 1) (.t 1), none⟩, ⟨(some 7), .call (.c (.fn 90 [])) [(.t 6)], none⟩, ⟨(some 3), .mv (.t 7), none⟩])
  (.seq (.region [⟨(some 4), .alloc [(.v .zsl)], none⟩])
  (.seq (.seq (.region [⟨(some 5), .mv (.c (.v (.int .i64 0))), none⟩])
  (.block 0 (.loop (.seq (.seq (.region [⟨(some 8), .mv (.t 5), none⟩, ⟨(some 9), .mv (.t 3), none⟩, ⟨(some 10), .len (.t 9), none⟩, ⟨(some 11), .bin .lss (.t 8) (.t 10), none⟩])
  (.cond (.t 11) .skip
  (.exit 0)))
  (.seq (.block 1 (.draw [⟨0, ⟨(some 14), .faddr 0 (.t 4), none⟩, []⟩, ⟨1, ⟨(some 15), .load none (.t 14), none⟩, []⟩, ⟨2, ⟨(some 16), .mv (.t 3), none⟩, []⟩, ⟨3, ⟨(some 17), .mv (.t 5), none⟩, []⟩, ⟨4, ⟨(some 18), .iaddr 1 (.t 16) (.t 17), none⟩, []⟩, ⟨5, ⟨(some 19), .load none (.t 18), none⟩, []⟩, ⟨6, ⟨(some 20), .call (.c (.fn 91 [])) [(.t 19)], none⟩, [⟨(some 14), .faddr 0 (.t 4), none⟩, ⟨(some 15), .load none (.t 14), none⟩]⟩, ⟨7, ⟨(some 21), .bslice 2 [(.v (.int .i64 0)), (.v .zsl)] 1 [(0, (.t 20))], none⟩, [⟨(some 14), .faddr 0 (.t 4), none⟩, ⟨(some 15), .load none (.t 14), none⟩]⟩, ⟨8, ⟨(some 22), .append 2 32 (.t 15) (.t 21), none⟩, []⟩, ⟨9, ⟨(some 23), .faddr 0 (.t 4), none⟩, []⟩, ⟨10, ⟨none, .store 1 (.t 23) (.t 22), none⟩, []⟩]))
  (.region [⟨(some 12), .mv (.t 5), none⟩, ⟨(some 13), .bin .add (.t 12) (.c (.v (.int .i64 1))), none⟩, ⟨(some 5), .mv (.t 13), none⟩]))))))
  (.seq (.region [⟨(some 24), .load (some 1) (.t 4), none⟩, ⟨none, .store 1 (.t 2) (.t 24), none⟩])
  .ret)))))⟩
theorem a_rOrder13_ok : cFunc Try.prog 42 = some a_rOrder13 := by kernel_rfl
def r_rOrder130 : List (Nat × Nat) := [(5, 5), (8, 23)]
def a_rSame09 : AFunc := ⟨2, 32, [.tmp 4],
  (.seq (.region [⟨(some 2), .box (.t 0), none⟩, ⟨(some 3), .box (.t 1), none⟩, ⟨(some 4), .mv (.c (.v (.bool false))), none⟩])
  (.seq (.seq (.region [⟨(some 6), .faddr 0 (.t 2), none⟩, ⟨(some 7), .load none (.t 6), none⟩, ⟨(some 8), .len (.t 7), none⟩, ⟨(some 9), .faddr 0 (.t 3), none⟩, ⟨(some 10), .load none (.t 9), none⟩, ⟨(some 11), .len (.t 10), none⟩, ⟨(some 12), .bin .neq (.t 8) (.t 11), none⟩])
  (.cond (.t 12) (.seq (.region [⟨(some 4), .mv (.c (.v (.bool false))), none⟩])
  .ret)
  .skip))
  (.seq (.seq (.region [⟨(some 5), .mv (.c (.v (.int .i64 0))), none⟩])
  (.block 0 (.loop (.seq (.seq (.region [⟨(some 13), .mv (.t 5), none⟩, ⟨(some 14), .faddr 0 (.t 2), none⟩, ⟨(some 15), .load none (.t 14), none⟩, ⟨(some 16), .len (.t 15), none⟩, ⟨(some 17), .bin .lss (.t 13) (.t 16), none⟩])
  (.cond (.t 17) .skip
  (.exit 0)))
  (.seq (.block 1 (.seq (.draw [⟨0, ⟨(some 20), .faddr 0 (.t 2), none⟩, []⟩, ⟨1, ⟨(some 21), .load none (.t 20), none⟩, []⟩, ⟨2, ⟨(some 22), .mv (.t 5), none⟩, []⟩, ⟨3, ⟨(some 23), .iaddr 2 (.t 21) (.t 22), none⟩, []⟩, ⟨4, ⟨(some 24), .load (some 2) (.t 23), none⟩, []⟩, ⟨5, ⟨(some 25), .faddr 0 (.t 3), none⟩, []⟩, ⟨6, ⟨(some 26), .load none (.t 25), none⟩, []⟩, ⟨7, ⟨(some 27), .mv (.t 5), none⟩, []⟩, ⟨8, ⟨(some 28), .iaddr 2 (.t 26) (.t 27), none⟩, []⟩, ⟨9, ⟨(some 29), .load (some 2) (.t 28), none⟩, []⟩, ⟨10, ⟨(some 30), .call (.c (.fn 89 [])) [(.t 24), (.t 29)], none⟩, []⟩, ⟨11, ⟨(some 31), .not (.t 30), none⟩, []⟩])
  (.cond (.t 31) (.seq (.region [⟨(some 4), .mv (.c (.v (.bool false))), none⟩])
  .ret)
  .skip)))
  (.region [⟨(some 18), .mv (.t 5), none⟩, ⟨(some 19), .bin .add (.t 18) (.c (.v (.int .i64 1))), none⟩, ⟨(some 5), .mv (.t 19), none⟩]))))))
  (.seq (.region [⟨(some 4), .mv (.c (.v (.bool true))), none⟩])
  .ret))))⟩
theorem a_rSame09_ok : cFunc Try.prog 41 = some a_rSame09 := by kernel_rfl
def r_rSame090 : List (Nat × Nat) := [(4, 5), (13, 31)]

/-- What Event answers at a number. -/
noncomputable def evI (t : Tr) (n : Int) : Nat × Nat := if 0 ≤ n then (ids t).getD n.toNat (0, 0) else (0, 0)
noncomputable def evE (t : Tr) (n : Int) : Int := if validL t = true then (if 0 ≤ n ∧ n < ((ids t).length : Int) then 0 else 2) else 1
theorem getD_out {t : Tr} {n : Nat} (h : (ids t).length ≤ n) : (ids t).getD n (0, 0) = (0, 0) := by simp [List.getD, List.getElem?_eq_none h]
theorem EventC_spec (t : Tr) (hS : Small t) (hN : Nm t) (hC : validL t = true → (ids t).length ≤ 1000000) (n : Int) (hnm : n ≤ 9223372036854775807) (b l : List Row) :
    ACalls Try.prog 39 [.agg [.v (eT t)], .v (.int .i64 n)] b l (fun r b' l' => r = .tup [(if validL t = true then idA (evI t n) else idA (0, 0)), .v (.int .i64 (evE t n))] ∧ b' = b ∧ l' = l) := by
  refine calls_kept a_EventC_ok rfl (by decide) ?_
  intro B g hB hR hE hA
  simp only [KArgs] at hA
  have hnp := hS.np
  have hn0 : ((0 : Int) != 0) = false := rfl
  have hn1 : ((1 : Int) != 0) = true := rfl
  simp (disch := (first | decide | omega)) only [a_EventC, hA, eT, go_sem]
  have hck0 := fun b l => chk_nil t hS hN b l
  simp only [eT] at hck0
  refine ACalls.nxt (hck0 _ _) ?_
  cases hval : validL t with
  | false =>
    have hck : chkE t [] = 1 := by unfold chkE; rw [hval]; rfl
    rw [hck]
    simp (disch := (first | decide | omega)) only [hA, hn1, go_sem]
    exact leave_pure (xs := [.agg [.v (.int .i64 0), .v (.int .i64 0)], .v (.int .i64 1)]) (.inr rfl) (by simp (disch := (first | decide | omega)) only [resVs, resV, go_sem, hA]) (by simp only [one, AVlt_v, AVlt_any, AVlt_sl, AVlt_ptr, AVlt_mp, AVlt_agg, AVlt_tup, AVlt_fn, RowsLt_nil, RowsLt_live, RowsLt_dead, List.mem_cons, List.not_mem_nil, List.forall_mem_cons, List.forall_mem_nil, or_false, false_or, forall_eq_or_imp, forall_eq, vs_lt, Nat.add_lt_add_iff_left, Nat.reduceLT, true_and, and_true, and_self, List.length_cons, List.length_nil, Nat.reduceAdd, Nat.zero_add, implies_true, false_imp_iff, lt_T, List.mem_map]) hR hB ⟨by unfold evE; rw [hval]; rfl, rfl, rfl⟩
  | true =>
    have hck : chkE t [] = 0 := chkE_zero.2 ⟨hval, by simp⟩
    rw [hck]
    have hCC := hC hval
    by_cases hneg : n < 0
    · have hd := decide_eq_true hneg
      simp (disch := (first | decide | omega)) only [hA, hn0, hd, go_sem]
      exact leave_pure (xs := [.agg [.v (.int .i64 0), .v (.int .i64 0)], .v (.int .i64 2)]) (.inr rfl) (by simp (disch := (first | decide | omega)) only [resVs, resV, go_sem, hA]) (by simp only [one, AVlt_v, AVlt_any, AVlt_sl, AVlt_ptr, AVlt_mp, AVlt_agg, AVlt_tup, AVlt_fn, RowsLt_nil, RowsLt_live, RowsLt_dead, List.mem_cons, List.not_mem_nil, List.forall_mem_cons, List.forall_mem_nil, or_false, false_or, forall_eq_or_imp, forall_eq, vs_lt, Nat.add_lt_add_iff_left, Nat.reduceLT, true_and, and_true, and_self, List.length_cons, List.length_nil, Nat.reduceAdd, Nat.zero_add, implies_true, false_imp_iff, lt_T, List.mem_map]) hR hB ⟨by unfold evE evI; rw [hval]; simp [show ¬ (0 ≤ n) by omega, idA, one], rfl, rfl⟩
    have hd := decide_eq_false hneg
    obtain ⟨m, rfl⟩ : ∃ m : Nat, n = m := ⟨n.toNat, by omega⟩
    have hres : ∀ i, i < t.length → evN t i ≤ m → m < evN t (i + 1) → m < (ids t).length ∧ evI t (m : Int) = (i, m - evN t i + 1) := by
      intro i hil h1 h2
      have hs := evN_succ hil
      have := ids_at hil (j := m - evN t i) (by omega)
      rw [show evN t i + (m - evN t i) = m by omega] at this
      obtain ⟨h3, h4⟩ := List.getElem?_eq_some_iff.1 this
      refine ⟨h3, ?_⟩
      unfold evI
      rw [if_pos (by omega), Int.toNat_natCast, getD_at h3, h4]
    have hE0 : m < (ids t).length → evE t (m : Int) = 0 := fun h => by
      unfold evE
      rw [if_pos hval]
      exact if_pos ⟨by omega, by omega⟩
    have hE2 : (ids t).length ≤ m → evE t (m : Int) = 2 := fun h => by
      unfold evE
      rw [if_pos hval]
      exact if_neg (by omega)
    have hI0 : (ids t).length ≤ m → evI t (m : Int) = (0, 0) := fun h => by
      unfold evI
      rw [if_pos (by omega), Int.toNat_natCast, getD_out h]
    have h0 : (m : Int) - ((evN t 0 : Nat) : Int) = (m : Int) := by rw [evN_zero]; omega
    simp (disch := (first | decide | omega)) only [hA, hn0, hd, List.length_map, go_sem]
    refine loop_kept (ι := Nat) r_EventC0 (fun i => [(21, .v (.int .i64 i)), (1, .v (.int .i64 ((m : Int) - ((evN t i : Nat) : Int))))]) 2 (fun i => [.live 0 1 [[.v (.isl 3 (t.map ePr))]], .live 0 2 [[.v (.int .i64 0), .v (.int .i64 0)]]])
      (fun i => i ≤ t.length ∧ evN t i ≤ m) (fun i => t.length - i) 0 ⟨Nat.zero_le _, by rw [evN_zero]; omega⟩ (by (repeat (first | exact hE.mono (by omega) | refine KLt.up ?_ (by simp (disch := omega) only [AVlt_v, AVlt_any, AVlt_sl, AVlt_ptr, AVlt_mp, AVlt_agg, AVlt_tup, AVlt_fn, RowsLt_nil, RowsLt_live, RowsLt_dead, List.mem_cons, List.not_mem_nil, List.forall_mem_cons, List.forall_mem_nil, or_false, false_or, forall_eq_or_imp, forall_eq, vs_lt, Nat.add_lt_add_iff_left, Nat.reduceLT, true_and, and_true, and_self, List.length_cons, List.length_nil, Nat.reduceAdd, Nat.zero_add, implies_true, false_imp_iff, lt_T, List.mem_map])))) (by ((try simp (disch := decide) only [hA, h0, go_sem]) <;> (repeat' (first | exact trivial | refine And.intro ?_ ?_)) <;> (first | rfl | (congr 2; omega)))) (fun e => Weak.refl _ _ _) ?_
    rintro g1 hE1 hEE1 hg1 i ⟨hi, hle⟩
    by_cases hil : i < t.length
    · have hs := evN_succ hil
      have hne := hS.ne _ (List.getElem_mem hil)
      by_cases hlt : m < evN t (i + 1)
      · have hdl : decide ((m : Int) - ((evN t i : Nat) : Int) < (t[i].evs.length : Int)) = true := decide_eq_true (by omega)
        obtain ⟨q1, q2⟩ := hres i hil hle hlt
        have hcast : (m : Int) - ((evN t i : Nat) : Int) + 1 = ((m - evN t i + 1 : Nat) : Int) := by omega
        simp (disch := (first | decide | omega)) only [hA, hg1, ePr, hdl, List.length_map, go_sem]
        exact leave_pure (xs := [.agg [.v (.int .i64 (i : Nat)), .v (.int .i64 ((m - evN t i + 1 : Nat) : Int))], .v (.int .i64 0)]) (.inr rfl) (by simp (disch := (first | decide | omega)) only [resVs, resV, go_sem, hA, hg1, hcast]) (by simp only [one, AVlt_v, AVlt_any, AVlt_sl, AVlt_ptr, AVlt_mp, AVlt_agg, AVlt_tup, AVlt_fn, RowsLt_nil, RowsLt_live, RowsLt_dead, List.mem_cons, List.not_mem_nil, List.forall_mem_cons, List.forall_mem_nil, or_false, false_or, forall_eq_or_imp, forall_eq, vs_lt, Nat.add_lt_add_iff_left, Nat.reduceLT, true_and, and_true, and_self, List.length_cons, List.length_nil, Nat.reduceAdd, Nat.zero_add, implies_true, false_imp_iff, lt_T, List.mem_map]) hR hB ⟨by rw [hE0 q1, q2]; rfl, rfl, rfl⟩
      · have hdl : decide ((m : Int) - ((evN t i : Nat) : Int) < (t[i].evs.length : Int)) = false := decide_eq_false (by omega)
        have hnx : (m : Int) - ((evN t i : Nat) : Int) - (t[i].evs.length : Int) = (m : Int) - ((evN t (i + 1) : Nat) : Int) := by omega
        simp (disch := (first | decide | omega)) only [hA, hg1, ePr, hdl, List.length_map, go_sem]
        refine ⟨i + 1, ⟨hil, by omega⟩, by simp only; omega, ?_⟩
        exact Weak.kround (p := r_EventC0) (k := 2) (by ((repeat refine (kAny_up rfl).trans ?_); exact hEE1)) (by ((try simp (disch := decide) only [hA, hnx, go_sem]) <;> (repeat' (first | exact trivial | refine And.intro ?_ ?_)) <;> (first | rfl | (congr 2; omega)))) rfl hE1 (by simp) (by simp (disch := omega) only [KOvLt, AVlt_v, AVlt_any, AVlt_sl, AVlt_ptr, AVlt_mp, AVlt_agg, AVlt_tup, AVlt_fn, RowsLt_nil, RowsLt_live, RowsLt_dead, List.mem_cons, List.not_mem_nil, List.forall_mem_cons, List.forall_mem_nil, or_false, false_or, forall_eq_or_imp, forall_eq, vs_lt, Nat.add_lt_add_iff_left, Nat.reduceLT, true_and, and_true, and_self, List.length_cons, List.length_nil, Nat.reduceAdd, Nat.zero_add, implies_true, false_imp_iff, lt_T, List.mem_map]) hR (by simp (disch := omega) only [AVlt_v, AVlt_any, AVlt_sl, AVlt_ptr, AVlt_mp, AVlt_agg, AVlt_tup, AVlt_fn, RowsLt_nil, RowsLt_live, RowsLt_dead, List.mem_cons, List.not_mem_nil, List.forall_mem_cons, List.forall_mem_nil, or_false, false_or, forall_eq_or_imp, forall_eq, vs_lt, Nat.add_lt_add_iff_left, Nat.reduceLT, true_and, and_true, and_self, List.length_cons, List.length_nil, Nat.reduceAdd, Nat.zero_add, implies_true, false_imp_iff, lt_T, List.mem_map])
    · obtain rfl : i = t.length := by omega
      rw [evN_all] at hle
      simp (disch := (first | decide | omega)) only [hA, hg1, List.length_map, go_sem]
      exact leave_pure (xs := [.agg [.v (.int .i64 0), .v (.int .i64 0)], .v (.int .i64 2)]) (.inr rfl) (by simp (disch := (first | decide | omega)) only [resVs, resV, go_sem, hA, hg1]) (by simp only [one, AVlt_v, AVlt_any, AVlt_sl, AVlt_ptr, AVlt_mp, AVlt_agg, AVlt_tup, AVlt_fn, RowsLt_nil, RowsLt_live, RowsLt_dead, List.mem_cons, List.not_mem_nil, List.forall_mem_cons, List.forall_mem_nil, or_false, false_or, forall_eq_or_imp, forall_eq, vs_lt, Nat.add_lt_add_iff_left, Nat.reduceLT, true_and, and_true, and_self, List.length_cons, List.length_nil, Nat.reduceAdd, Nat.zero_add, implies_true, false_imp_iff, lt_T, List.mem_map]) hR hB ⟨by rw [hE2 hle, hI0 hle]; rfl, rfl, rfl⟩
theorem rNumber_spec (t : Tr) (hn : t.length ≤ 20) (he : ∀ x ∈ t, x.evs.length ≤ 70) (x : Nat × Nat) (hx : x ∈ ids t) (b l : List Row) :
    ACalls Try.prog 40 [.agg [.v (eT t)], idA x] b l (fun r b' l' => r = .v (.int .i64 (numN t x : Nat)) ∧ b' = b ∧ l' = l) := by
  refine calls_kept a_rNumber_ok rfl (by decide) ?_
  intro B g hB hR hE hA
  simp only [KArgs] at hA
  obtain ⟨p, i⟩ := x
  obtain ⟨i, rfl⟩ : ∃ k, i = k + 1 := ⟨i - 1, by have := mem_pos hx; simp only at this; omega⟩
  obtain ⟨hp, hi⟩ := mem_ids2.1 hx
  rw [evsOf_lt hp] at hi
  have hie := he _ (List.getElem_mem hp)
  have h0 : (0 : Int) = ((evN t 0 : Nat) : Int) := by rw [evN_zero]; rfl
  simp (disch := (first | decide | omega)) only [a_rNumber, hA, idA, eT, go_sem]
  refine loop_kept (ι := Nat) r_rNumber0 (fun q => [(6, .v (.int .i64 q)), (5, .v (.int .i64 (evN t q : Nat)))]) 2 (fun q => [.live 0 1 [[.v (.isl 3 (t.map ePr))]], .live 0 2 [[.v (.int .i64 p), .v (.int .i64 ((i + 1 : Nat) : Int))]]])
    (fun q => q ≤ p) (fun q => p - q) 0 (Nat.zero_le _) (by (repeat (first | exact hE.mono (by omega) | refine KLt.up ?_ (by simp (disch := omega) only [AVlt_v, AVlt_any, AVlt_sl, AVlt_ptr, AVlt_mp, AVlt_agg, AVlt_tup, AVlt_fn, RowsLt_nil, RowsLt_live, RowsLt_dead, List.mem_cons, List.not_mem_nil, List.forall_mem_cons, List.forall_mem_nil, or_false, false_or, forall_eq_or_imp, forall_eq, vs_lt, Nat.add_lt_add_iff_left, Nat.reduceLT, true_and, and_true, and_self, List.length_cons, List.length_nil, Nat.reduceAdd, Nat.zero_add, implies_true, false_imp_iff, lt_T, List.mem_map])))) (by simp only [evN_zero]; ((try simp (disch := decide) only [hA, go_sem]) <;> (repeat' (first | exact trivial | refine And.intro ?_ ?_)) <;> (first | rfl | (congr 2; omega)))) (fun e => Weak.refl _ _ _) ?_
  intro g1 hE1 hEE1 hg1 q hq
  have h1 := evN_le he q (by omega)
  by_cases hql : q < p
  · have h2 := he _ (List.getElem_mem (show q < t.length by omega))
    have hs := evN_succ (show q < t.length by omega)
    have hinc : ((evN t q : Nat) : Int) + (t[q].evs.length : Int) = ((evN t (q + 1) : Nat) : Int) := by omega
    simp (disch := (first | decide | omega)) only [hA, hg1, ePr, List.length_map, go_sem]
    refine ⟨q + 1, hql, by simp only; omega, ?_⟩
    exact Weak.kround (p := r_rNumber0) (k := 2) (by ((repeat refine (kAny_up rfl).trans ?_); exact hEE1)) (by ((try simp (disch := decide) only [hA, hinc, go_sem]) <;> (repeat' (first | exact trivial | refine And.intro ?_ ?_)) <;> (first | rfl | (congr 2; omega)))) rfl hE1 (by simp) (by simp (disch := omega) only [KOvLt, AVlt_v, AVlt_any, AVlt_sl, AVlt_ptr, AVlt_mp, AVlt_agg, AVlt_tup, AVlt_fn, RowsLt_nil, RowsLt_live, RowsLt_dead, List.mem_cons, List.not_mem_nil, List.forall_mem_cons, List.forall_mem_nil, or_false, false_or, forall_eq_or_imp, forall_eq, vs_lt, Nat.add_lt_add_iff_left, Nat.reduceLT, true_and, and_true, and_self, List.length_cons, List.length_nil, Nat.reduceAdd, Nat.zero_add, implies_true, false_imp_iff, lt_T, List.mem_map]) hR (by simp (disch := omega) only [AVlt_v, AVlt_any, AVlt_sl, AVlt_ptr, AVlt_mp, AVlt_agg, AVlt_tup, AVlt_fn, RowsLt_nil, RowsLt_live, RowsLt_dead, List.mem_cons, List.not_mem_nil, List.forall_mem_cons, List.forall_mem_nil, or_false, false_or, forall_eq_or_imp, forall_eq, vs_lt, Nat.add_lt_add_iff_left, Nat.reduceLT, true_and, and_true, and_self, List.length_cons, List.length_nil, Nat.reduceAdd, Nat.zero_add, implies_true, false_imp_iff, lt_T, List.mem_map])
  · obtain rfl : q = p := by omega
    have hfin : ((evN t q : Nat) : Int) + ((i + 1 : Nat) : Int) - 1 = ((evN t q + i : Nat) : Int) := by omega
    simp (disch := (first | decide | omega)) only [hA, hg1, hfin, go_sem]
    exact leave_pure (xs := [.v (.int .i64 (evN t q + i : Nat))]) (.inr rfl) (by simp (disch := (first | decide | omega)) only [resVs, resV, go_sem, hA, hg1, hfin]) (by simp only [one, AVlt_v, AVlt_any, AVlt_sl, AVlt_ptr, AVlt_mp, AVlt_agg, AVlt_tup, AVlt_fn, RowsLt_nil, RowsLt_live, RowsLt_dead, List.mem_cons, List.not_mem_nil, List.forall_mem_cons, List.forall_mem_nil, or_false, false_or, forall_eq_or_imp, forall_eq, vs_lt, Nat.add_lt_add_iff_left, Nat.reduceLT, true_and, and_true, and_self, List.length_cons, List.length_nil, Nat.reduceAdd, Nat.zero_add, implies_true, false_imp_iff, lt_T, List.mem_map]) hR hB ⟨rfl, rfl, rfl⟩
/-- The numbers below k with a flag, the last one first. -/
def flg (f : Nat → Bool) : Nat → List Nat
  | 0 => []
  | k + 1 => if f k = true then k :: flg f k else flg f k
theorem mem_flg {f : Nat → Bool} {j : Nat} : ∀ {k : Nat}, j ∈ flg f k ↔ j < k ∧ f j = true
  | 0 => by simp [flg]
  | k + 1 => by
    unfold flg
    have ih := mem_flg (f := f) (j := j) (k := k)
    split
    · rename_i h
      rw [List.mem_cons, ih]
      constructor
      · rintro (rfl | h2)
        · exact ⟨by omega, h⟩
        · exact ⟨by omega, h2.2⟩
      · rintro ⟨h1, h2⟩
        by_cases hj : j = k
        · exact .inl hj
        · exact .inr ⟨by omega, h2⟩
    · rename_i h
      rw [ih]
      constructor
      · rintro ⟨h1, h2⟩; exact ⟨by omega, h2⟩
      · rintro ⟨h1, h2⟩
        refine ⟨?_, h2⟩
        by_cases hj : j = k
        · subst hj; exact absurd h2 h
        · omega
theorem setV_ext {n : Nat} {L M : List Nat} (h : ∀ i, i ∈ L ↔ i ∈ M) : setV n L = setV n M := by
  unfold setV
  congr 3
  exact fl_congr (fun k _ => by rw [bw_ext h k])
theorem set_run (n : Nat) (hn : n ≤ 512) (f : Nat → Bool) (b l : List Row) :
    ACalls Try.prog 91 [.v (.isl 1 (bR n f))] b l (fun r b' l' => r = .agg [.v (.int .i64 n), .sl (b.length + l.length + 1) 0 0 (nW n)] ∧ b' = b ∧ l' = l ++ [.live 0 2 [[.v (.int .i64 n), .sl (b.length + l.length + 1) 0 0 (nW n)]], .live 0 1 (vs (wL n (flg f n)))]) := by
  refine calls_kept a_rSet_ok rfl (by decide) ?_
  intro B g hB hR hE hA
  simp only [KArgs] at hA
  have hBl : B.length = b.length + l.length := by rw [hB, List.length_append]
  have hnb : nW n ≤ 9 := by unfold nW; omega
  have h64 : ((64 : Int) = 0) = False := by simp
  have q1 : Int.tdiv ((n : Int) + 63) 64 = ((nW n : Nat) : Int) := by
    unfold nW
    rw [show (n : Int) + 63 = ((n + 63 : Nat) : Int) by omega]; rfl
  simp (disch := (first | decide | omega)) only [a_rSet, hA, bR_len, h64, q1, if_false, go_sem]
  refine loop_kept (ι := Nat) r_rSet0 (fun m => [(4, .v (.int .i64 m))]) 3 (fun m => [.live 0 2 [[.v (.int .i64 0), .v .zsl]], .live 0 1 (vs (wL n (flg f m))), .live 0 2 [[.v (.int .i64 n), .sl (B.length + 1) 0 0 (nW n)]]])
    (fun m => m ≤ n) (fun m => n - m) 0 (Nat.zero_le _) (by (repeat (first | exact hE.mono (by omega) | refine KLt.up ?_ (by simp (disch := omega) only [AVlt_v, AVlt_any, AVlt_sl, AVlt_ptr, AVlt_mp, AVlt_agg, AVlt_tup, AVlt_fn, RowsLt_nil, RowsLt_live, RowsLt_dead, List.mem_cons, List.not_mem_nil, List.forall_mem_cons, List.forall_mem_nil, or_false, false_or, forall_eq_or_imp, forall_eq, vs_lt, Nat.add_lt_add_iff_left, Nat.reduceLT, true_and, and_true, and_self, List.length_cons, List.length_nil, Nat.reduceAdd, Nat.zero_add, implies_true, false_imp_iff, lt_T, List.mem_map])))) (by ((try simp (disch := decide) only [hA, go_sem]) <;> (repeat' (first | exact trivial | refine And.intro ?_ ?_)) <;> (first | rfl | (congr 2; omega)))) (fun e => by rw [wL_zero]; exact Weak.refl _ _ _) ?_
  intro g1 hE1 hEE1 hg1 m hm
  by_cases hml : m < n
  · have hbm := bR_get (n := n) (f := f) hml
    cases hf : f m with
    | false =>
      rw [hf] at hbm
      have hfl : flg f (m + 1) = flg f m := by rw [flg, if_neg (by rw [hf]; decide)]
      simp (disch := (first | decide | omega)) only [hA, hg1, bR_len, hbm, go_sem]
      refine ⟨m + 1, hml, by simp only; omega, ?_⟩
      simp only [hfl]
      exact Weak.kround (p := r_rSet0) (k := 3) (by ((repeat refine (kAny_up rfl).trans ?_); exact hEE1)) (by ((try simp (disch := decide) only [hA, go_sem]) <;> (repeat' (first | exact trivial | refine And.intro ?_ ?_)) <;> (first | rfl | (congr 2; omega)))) rfl hE1 (by simp) (by simp (disch := omega) only [KOvLt, AVlt_v, AVlt_any, AVlt_sl, AVlt_ptr, AVlt_mp, AVlt_agg, AVlt_tup, AVlt_fn, RowsLt_nil, RowsLt_live, RowsLt_dead, List.mem_cons, List.not_mem_nil, List.forall_mem_cons, List.forall_mem_nil, or_false, false_or, forall_eq_or_imp, forall_eq, vs_lt, Nat.add_lt_add_iff_left, Nat.reduceLT, true_and, and_true, and_self, List.length_cons, List.length_nil, Nat.reduceAdd, Nat.zero_add, implies_true, false_imp_iff, lt_T, List.mem_map]) hR (by simp (disch := omega) only [AVlt_v, AVlt_any, AVlt_sl, AVlt_ptr, AVlt_mp, AVlt_agg, AVlt_tup, AVlt_fn, RowsLt_nil, RowsLt_live, RowsLt_dead, List.mem_cons, List.not_mem_nil, List.forall_mem_cons, List.forall_mem_nil, or_false, false_or, forall_eq_or_imp, forall_eq, vs_lt, Nat.add_lt_add_iff_left, Nat.reduceLT, true_and, and_true, and_self, List.length_cons, List.length_nil, Nat.reduceAdd, Nat.zero_add, implies_true, false_imp_iff, lt_T, List.mem_map])
    | true =>
      rw [hf] at hbm
      have hfl : flg f (m + 1) = m :: flg f m := by rw [flg, if_pos hf]
      have hk : m / 64 < nW n := by unfold nW; omega
      have hg : (wL n (flg f m))[m / 64]? = some [.int .u64 (bw (flg f m) (m / 64))] := fl_get hk
      have hset := wL_set (n := n) (i := m) (L := flg f m)
      rw [← hfl] at hset
      have q2 : Int.tdiv (m : Int) 64 = ((m / 64 : Nat) : Int) := rfl
      have q3 : Int.tmod (m : Int) 64 = ((m % 64 : Nat) : Int) := rfl
      have hsh : (((m % 64 : Nat) : Int) < 0) = False := by simp; omega
      have h65 : (m % 64 ≤ IntKind.bits .u64) = True := eq_true (show m % 64 ≤ 64 by omega)
      have hi6 : m / 64 ≤ 8 := by omega
      have q5 := shl_word (Nat.mod_lt m (show 0 < 64 by omega))
      have q6 := or_word (bw_lt (k := m / 64) (flg f m)) (Nat.pow_lt_pow_right (a := 2) (by omega) (Nat.mod_lt m (show 0 < 64 by omega)))
      simp (disch := (first | decide | omega)) only [hA, hg1, bR_len, hbm, h64, q2, q3, hsh, h65, q5, q6, hg, hset, if_false, setFrom, cellsOf, go_sem]
      refine ⟨m + 1, hml, by simp only; omega, ?_⟩
      erw [q6, hset]
      exact Weak.kround (l1 := [Row.live 0 2 [[AV.v (.int .i64 0), AV.v .zsl]], .live 0 1 (vs (wL n (flg f (m + 1)))), .live 0 2 [[.v (.int .i64 n), .sl (B.length + 1) 0 0 (nW n)]]]) (p := r_rSet0) (k := 3) (by ((repeat refine (kAny_up rfl).trans ?_); exact hEE1)) (by ((try simp (disch := decide) only [hA, go_sem]) <;> (repeat' (first | exact trivial | refine And.intro ?_ ?_)) <;> (first | rfl | (congr 2; omega)))) rfl hE1 (by simp) (by simp (disch := omega) only [KOvLt, AVlt_v, AVlt_any, AVlt_sl, AVlt_ptr, AVlt_mp, AVlt_agg, AVlt_tup, AVlt_fn, RowsLt_nil, RowsLt_live, RowsLt_dead, List.mem_cons, List.not_mem_nil, List.forall_mem_cons, List.forall_mem_nil, or_false, false_or, forall_eq_or_imp, forall_eq, vs_lt, Nat.add_lt_add_iff_left, Nat.reduceLT, true_and, and_true, and_self, List.length_cons, List.length_nil, Nat.reduceAdd, Nat.zero_add, implies_true, false_imp_iff, lt_T, List.mem_map]) hR (by simp (disch := omega) only [AVlt_v, AVlt_any, AVlt_sl, AVlt_ptr, AVlt_mp, AVlt_agg, AVlt_tup, AVlt_fn, RowsLt_nil, RowsLt_live, RowsLt_dead, List.mem_cons, List.not_mem_nil, List.forall_mem_cons, List.forall_mem_nil, or_false, false_or, forall_eq_or_imp, forall_eq, vs_lt, Nat.add_lt_add_iff_left, Nat.reduceLT, true_and, and_true, and_self, List.length_cons, List.length_nil, Nat.reduceAdd, Nat.zero_add, implies_true, false_imp_iff, lt_T, List.mem_map])
  · simp (disch := (first | decide | omega)) only [hA, hg1, bR_len, go_sem]
    obtain rfl : m = n := by omega
    exact leave (.inr rfl) (xs := [.agg [.v (.int .i64 m), .sl (B.length + 1) 0 0 (nW m)]]) (by simp (disch := (first | decide | omega)) only [resVs, resV, hA, hg1, go_sem]) (y := .agg [.v (.int .i64 m), .sl (B.length + 1) 0 0 (nW m)]) (l' := [.live 0 2 [[.v (.int .i64 m), .sl (B.length + 1) 0 0 (nW m)]], .live 0 1 (vs (wL m (flg f m)))]) (Weak.trim (l1 := [.live 0 2 [[.v (.int .i64 m), .sl (B.length + 1) 0 0 (nW m)]], .live 0 1 (vs (wL m (flg f m)))]) (junk := [.live 0 2 [[.v (.int .i64 m), .sl (B.length + 1) 0 0 (nW m)]]]) rfl (by
      intro x hx
      simp only [one, List.mem_singleton] at hx
      subst hx
      simp (disch := (simp; try omega)) only [AVlt_v, AVlt_any, AVlt_sl, AVlt_ptr, AVlt_mp, AVlt_agg, AVlt_tup, AVlt_fn, RowsLt_nil, RowsLt_live, RowsLt_dead, List.mem_cons, List.not_mem_nil, List.forall_mem_cons, List.forall_mem_nil, or_false, false_or, forall_eq_or_imp, forall_eq, vs_lt, Nat.add_lt_add_iff_left, Nat.reduceLT, true_and, and_true, and_self, List.length_cons, List.length_nil, Nat.reduceAdd, Nat.zero_add, implies_true, false_imp_iff, lt_T, List.mem_map]) (hR.mono (by simp)) (by simp (disch := (simp; try omega)) only [AVlt_v, AVlt_any, AVlt_sl, AVlt_ptr, AVlt_mp, AVlt_agg, AVlt_tup, AVlt_fn, RowsLt_nil, RowsLt_live, RowsLt_dead, List.mem_cons, List.not_mem_nil, List.forall_mem_cons, List.forall_mem_nil, or_false, false_or, forall_eq_or_imp, forall_eq, vs_lt, Nat.add_lt_add_iff_left, Nat.reduceLT, true_and, and_true, and_self, List.length_cons, List.length_nil, Nat.reduceAdd, Nat.zero_add, implies_true, false_imp_iff, lt_T, List.mem_map])) hB ⟨by rw [hBl], rfl, by rw [hBl]⟩
theorem rSet_spec (n : Nat) (hn : n ≤ 512) (f : Nat → Bool) (b l : List Row) :
    ACalls Try.prog 91 [.v (.isl 1 (bR n f))] b l (fun r b' l' => r = .agg ((setV n (flg f n)).map .v) ∧ b' = b ∧ l' = l) := by
  refine ACalls.valdeep (i := 1) (ver := 0) (sz := 1) (rows := wL n (flg f n)) 6 rfl ?_ ?_ (set_run n hn f b l)
  · have hw : (wL n (flg f n)).length = nW n := fl_len
    have tk : List.take (nW n) (wL n (flg f n)) = wL n (flg f n) := List.take_of_length_le (by omega)
    simp [deep, frz0, setV, hw, tk]
    rfl
  · intro m
    refine .agg _ (fun c hc => ?_)
    simp only [setV, List.map_cons, List.map_nil, List.mem_cons, List.not_mem_nil, or_false] at hc
    rcases hc with rfl | rfl <;> exact .v _
theorem rSameSet_spec (n : Nat) (L : List Nat) (hn : n ≤ 512) (b l : List Row) : ACalls Try.prog 89 [.agg ((setV n L).map .v), .agg ((setV n L).map .v)] b l (fun r b' l' => r = .v (.bool true) ∧ b' = b ∧ l' = l) := by
  refine calls_kept a_rSameSet_ok rfl (by decide) ?_
  intro B g hB hR hE hA
  simp only [KArgs] at hA
  have hnn : ∀ n : Int, (n != n) = false := fun n => by simp
  have hwl : ∀ f : Nat → List IV, (fl (nW n) f).length = nW n := fun f => fl_len
  have hb : nW n ≤ 9 := by unfold nW; omega
  simp (disch := (first | decide | omega)) only [a_rSameSet, hA, setV, hnn, hwl, go_sem]
  refine loop_kept (ι := Nat) r_rSameSet0 (fun i => [(5, .v (.int .i64 i))]) 2 (fun i => [.live 0 2 [[.v (.int .i64 n), .v (.isl 1 (fl (nW n) fun k => [.int .u64 (bw L k)]))]], .live 0 2 [[.v (.int .i64 n), .v (.isl 1 (fl (nW n) fun k => [.int .u64 (bw L k)]))]]])
    (fun i => i ≤ nW n) (fun i => nW n - i) 0 (Nat.zero_le _) (by (repeat (first | exact hE.mono (by omega) | refine KLt.up ?_ (by simp (disch := omega) only [AVlt_v, AVlt_any, AVlt_sl, AVlt_ptr, AVlt_mp, AVlt_agg, AVlt_tup, AVlt_fn, RowsLt_nil, RowsLt_live, RowsLt_dead, List.mem_cons, List.not_mem_nil, List.forall_mem_cons, List.forall_mem_nil, or_false, false_or, forall_eq_or_imp, forall_eq, vs_lt, Nat.add_lt_add_iff_left, Nat.reduceLT, true_and, and_true, and_self, List.length_cons, List.length_nil, Nat.reduceAdd, Nat.zero_add, implies_true, false_imp_iff, lt_T, List.mem_map])))) (by ((try simp (disch := decide) only [hA, go_sem]) <;> (repeat' (first | exact trivial | refine And.intro ?_ ?_)) <;> (first | rfl | (congr 2; omega)))) (fun e => Weak.refl _ _ _) ?_
  intro g1 hE1 hEE1 hg1 i hi
  by_cases hil : i < nW n
  · have hg : (fl (nW n) fun k => [IV.int .u64 (bw L k)])[i]? = some [.int .u64 (bw L i)] := fl_get hil
    simp (disch := (first | decide | omega)) only [hA, hg1, hwl, hg, hnn, go_sem]
    refine ⟨i + 1, hil, by simp only; omega, ?_⟩
    exact Weak.kround (p := r_rSameSet0) (k := 2) (by ((repeat refine (kAny_up rfl).trans ?_); exact hEE1)) (by ((try simp (disch := decide) only [hA, go_sem]) <;> (repeat' (first | exact trivial | refine And.intro ?_ ?_)) <;> (first | rfl | (congr 2; omega)))) rfl hE1 (by simp) (by simp (disch := omega) only [KOvLt, AVlt_v, AVlt_any, AVlt_sl, AVlt_ptr, AVlt_mp, AVlt_agg, AVlt_tup, AVlt_fn, RowsLt_nil, RowsLt_live, RowsLt_dead, List.mem_cons, List.not_mem_nil, List.forall_mem_cons, List.forall_mem_nil, or_false, false_or, forall_eq_or_imp, forall_eq, vs_lt, Nat.add_lt_add_iff_left, Nat.reduceLT, true_and, and_true, and_self, List.length_cons, List.length_nil, Nat.reduceAdd, Nat.zero_add, implies_true, false_imp_iff, lt_T, List.mem_map]) hR (by simp (disch := omega) only [AVlt_v, AVlt_any, AVlt_sl, AVlt_ptr, AVlt_mp, AVlt_agg, AVlt_tup, AVlt_fn, RowsLt_nil, RowsLt_live, RowsLt_dead, List.mem_cons, List.not_mem_nil, List.forall_mem_cons, List.forall_mem_nil, or_false, false_or, forall_eq_or_imp, forall_eq, vs_lt, Nat.add_lt_add_iff_left, Nat.reduceLT, true_and, and_true, and_self, List.length_cons, List.length_nil, Nat.reduceAdd, Nat.zero_add, implies_true, false_imp_iff, lt_T, List.mem_map])
  · simp (disch := (first | decide | omega)) only [hA, hg1, hwl, go_sem]
    exact leave_pure (xs := [.v (.bool true)]) (.inr rfl) (by simp (disch := (first | decide | omega)) only [resVs, resV, go_sem, hA, hg1]) (by simp only [one, AVlt_v, AVlt_any, AVlt_sl, AVlt_ptr, AVlt_mp, AVlt_agg, AVlt_tup, AVlt_fn, RowsLt_nil, RowsLt_live, RowsLt_dead, List.mem_cons, List.not_mem_nil, List.forall_mem_cons, List.forall_mem_nil, or_false, false_or, forall_eq_or_imp, forall_eq, vs_lt, Nat.add_lt_add_iff_left, Nat.reduceLT, true_and, and_true, and_self, List.length_cons, List.length_nil, Nat.reduceAdd, Nat.zero_add, implies_true, false_imp_iff, lt_T, List.mem_map]) hR hB ⟨rfl, rfl, rfl⟩
theorem rSame09_spec (n : Nat) (T : Nat → List Nat) (hn : n ≤ 512) (b l : List Row) : ACalls Try.prog 41 [.agg [.v (eRel n T)], .agg [.v (eRel n T)]] b l (fun r b' l' => r = .v (.bool true) ∧ b' = b ∧ l' = l) := by
  refine calls_kept a_rSame09_ok rfl (by decide) ?_
  intro B g hB hR hE hA
  simp only [KArgs] at hA
  have hnn : ∀ n : Int, (n != n) = false := fun n => by simp
  simp (disch := (first | decide | omega)) only [a_rSame09, hA, eRel, hnn, fl_len, go_sem]
  refine loop_kept (ι := Nat) r_rSame090 (fun i => [(5, .v (.int .i64 i))]) 2 (fun i => [.live 0 1 [[.v (.isl 2 (fl n fun i => setV n (T i)))]], .live 0 1 [[.v (.isl 2 (fl n fun i => setV n (T i)))]]])
    (fun i => i ≤ n) (fun i => n - i) 0 (Nat.zero_le _) (by (repeat (first | exact hE.mono (by omega) | refine KLt.up ?_ (by simp (disch := omega) only [AVlt_v, AVlt_any, AVlt_sl, AVlt_ptr, AVlt_mp, AVlt_agg, AVlt_tup, AVlt_fn, RowsLt_nil, RowsLt_live, RowsLt_dead, List.mem_cons, List.not_mem_nil, List.forall_mem_cons, List.forall_mem_nil, or_false, false_or, forall_eq_or_imp, forall_eq, vs_lt, Nat.add_lt_add_iff_left, Nat.reduceLT, true_and, and_true, and_self, List.length_cons, List.length_nil, Nat.reduceAdd, Nat.zero_add, implies_true, false_imp_iff, lt_T, List.mem_map])))) (by ((try simp (disch := decide) only [hA, go_sem]) <;> (repeat' (first | exact trivial | refine And.intro ?_ ?_)) <;> (first | rfl | (congr 2; omega)))) (fun e => Weak.refl _ _ _) ?_
  intro g1 hE1 hEE1 hg1 i hi
  by_cases hil : i < n
  · have hg : (fl n fun i => setV n (T i))[i]? = some [.int .i64 n, .isl 1 (fl (nW n) fun k => [.int .u64 (bw (T i) k)])] := fl_get hil
    have hs := fun b l => rSameSet_spec n (T i) hn b l
    simp only [setV, List.map_cons, List.map_nil] at hs
    simp (disch := (first | decide | omega)) only [hA, hg1, fl_len, hg, go_sem]
    refine ACalls.nxt (hs _ _) ?_
    simp (disch := (first | decide | omega)) only [hA, hg1, go_sem]
    refine ⟨i + 1, hil, by simp only; omega, ?_⟩
    exact Weak.kround (p := r_rSame090) (k := 2) (by ((repeat refine (kAny_up rfl).trans ?_); exact hEE1)) (by ((try simp (disch := decide) only [hA, go_sem]) <;> (repeat' (first | exact trivial | refine And.intro ?_ ?_)) <;> (first | rfl | (congr 2; omega)))) rfl hE1 (by simp) (by simp (disch := omega) only [KOvLt, AVlt_v, AVlt_any, AVlt_sl, AVlt_ptr, AVlt_mp, AVlt_agg, AVlt_tup, AVlt_fn, RowsLt_nil, RowsLt_live, RowsLt_dead, List.mem_cons, List.not_mem_nil, List.forall_mem_cons, List.forall_mem_nil, or_false, false_or, forall_eq_or_imp, forall_eq, vs_lt, Nat.add_lt_add_iff_left, Nat.reduceLT, true_and, and_true, and_self, List.length_cons, List.length_nil, Nat.reduceAdd, Nat.zero_add, implies_true, false_imp_iff, lt_T, List.mem_map]) hR (by simp (disch := omega) only [AVlt_v, AVlt_any, AVlt_sl, AVlt_ptr, AVlt_mp, AVlt_agg, AVlt_tup, AVlt_fn, RowsLt_nil, RowsLt_live, RowsLt_dead, List.mem_cons, List.not_mem_nil, List.forall_mem_cons, List.forall_mem_nil, or_false, false_or, forall_eq_or_imp, forall_eq, vs_lt, Nat.add_lt_add_iff_left, Nat.reduceLT, true_and, and_true, and_self, List.length_cons, List.length_nil, Nat.reduceAdd, Nat.zero_add, implies_true, false_imp_iff, lt_T, List.mem_map])
  · simp (disch := (first | decide | omega)) only [hA, hg1, fl_len, go_sem]
    exact leave_pure (xs := [.v (.bool true)]) (.inr rfl) (by simp (disch := (first | decide | omega)) only [resVs, resV, go_sem, hA, hg1]) (by simp only [one, AVlt_v, AVlt_any, AVlt_sl, AVlt_ptr, AVlt_mp, AVlt_agg, AVlt_tup, AVlt_fn, RowsLt_nil, RowsLt_live, RowsLt_dead, List.mem_cons, List.not_mem_nil, List.forall_mem_cons, List.forall_mem_nil, or_false, false_or, forall_eq_or_imp, forall_eq, vs_lt, Nat.add_lt_add_iff_left, Nat.reduceLT, true_and, and_true, and_self, List.length_cons, List.length_nil, Nat.reduceAdd, Nat.zero_add, implies_true, false_imp_iff, lt_T, List.mem_map]) hR hB ⟨rfl, rfl, rfl⟩
set_option maxRecDepth 20000 in
theorem rOrder13_spec (t : Tr) (hv : Vok t) (hS : Small t) (s1 : t.length ≤ 20) (s2 : ∀ x ∈ t, x.evs.length ≤ 70) (hC : (ids t).length ≤ 512) (b l : List Row) :
    ACalls Try.prog 42 [.agg [.v (eT t)]] b l (fun r b' l' => r = .agg [.v (eRel (ids t).length (relT t))] ∧ b' = b ∧ l' = l) := by
  refine calls_kept a_rOrder13_ok rfl (by decide) ?_
  intro B g hB hR hE hA
  simp only [KArgs] at hA
  obtain ⟨F, hF⟩ : ∃ F : Nat → List Nat, F = fun a => flg (wTab (dT t) (ids t).length a) (ids t).length := ⟨_, rfl⟩
  simp (disch := (first | decide | omega)) only [a_rOrder13, hA, go_sem]
  refine ACalls.nxt (rTable_spec t hv hS s1 s2 hC _ _) ?_
  simp (disch := (first | decide | omega)) only [hA, go_sem]
  refine loop_kept (ι := Nat) r_rOrder130 (fun i => [(5, .v (.int .i64 i))]) 4 (fun i => [.live 0 1 [[.v (eT t)]], .live 0 1 [[.v .zsl]], .live 0 1 [[.sl (B.length + 3) i 0 i]], .live i 2 (vs (fl i fun a => setV (ids t).length (F a)))])
    (fun i => i ≤ (ids t).length) (fun i => (ids t).length - i) 0 (Nat.zero_le _) (by (repeat (first | exact hE.mono (by omega) | refine KLt.up ?_ (by simp (disch := omega) only [AVlt_v, AVlt_any, AVlt_sl, AVlt_ptr, AVlt_mp, AVlt_agg, AVlt_tup, AVlt_fn, RowsLt_nil, RowsLt_live, RowsLt_dead, List.mem_cons, List.not_mem_nil, List.forall_mem_cons, List.forall_mem_nil, or_false, false_or, forall_eq_or_imp, forall_eq, vs_lt, Nat.add_lt_add_iff_left, Nat.reduceLT, true_and, and_true, and_self, List.length_cons, List.length_nil, Nat.reduceAdd, Nat.zero_add, implies_true, false_imp_iff, lt_T, List.mem_map])))) (by ((try simp (disch := decide) only [hA, go_sem]) <;> (repeat' (first | exact trivial | refine And.intro ?_ ?_)) <;> (first | rfl | (congr 2; omega)))) (fun e => by
      have h := Weak.nilcell (e := e) (b := B) (sz := 2) (i := 2) (k := 0) (j := 0) (ver := 0) (z := 1) (els := [[.v .zsl]]) (row := [.v .zsl]) (l := [.live 0 1 [[.v (eT t)]], .live 0 1 [[.v .zsl]], .live 0 1 [[.v .zsl]]]) rfl rfl rfl
      exact h) ?_
  intro g1 hE1 hEE1 hg1 i hi
  by_cases hil : i < (ids t).length
  · have hgt : (fl (ids t).length fun i => [IV.isl 1 (bR (ids t).length (wTab (dT t) (ids t).length i))])[i]? = some [.isl 1 (bR (ids t).length (wTab (dT t) (ids t).length i))] := fl_get hil
    have hst := fun b l => rSet_spec (ids t).length hC (wTab (dT t) (ids t).length i) b l
    have hFi : flg (wTab (dT t) (ids t).length i) (ids t).length = F i := by rw [hF]
    rw [hFi] at hst
    simp only [setV, List.map_cons, List.map_nil] at hst
    have hfx : (fl i fun a => setV (ids t).length (F a)) ++ [[IV.int .i64 (ids t).length, .isl 1 (fl (nW (ids t).length) fun k => [.int .u64 (bw (F i) k)])]] = fl (i + 1) fun a => setV (ids t).length (F a) := fl_next rfl
    have tk : List.take i (fl i fun a => setV (ids t).length (F a)) = fl i fun a => setV (ids t).length (F a) := List.take_of_length_le (by rw [fl_len]; exact Nat.le_refl _)
    simp (disch := (first | decide | omega)) only [hA, hg1, fl_len, hgt, go_sem]
    refine ACalls.nxt (hst _ _) ?_
    simp (disch := (first | decide | omega)) only [hA, hg1, fl_len, tk, hfx, List.replicate_succ, List.replicate_zero, reduceCtorEq, setFrom, cellsOf, go_sem]
    refine ⟨i + 1, hil, by simp only; omega, ?_⟩
    exact Weak.kround (l1 := [.live 0 1 [[.v (eT t)]], .live 0 1 [[.v .zsl]], .live 0 1 [[.sl (B.length + 3) (i + 1) 0 (i + 1)]], .live (i + 1) 2 (vs (fl (i + 1) fun a => setV (ids t).length (F a)))]) (junk := [.live 0 2 [[.v (.int .i64 (ids t).length), .v (.isl 1 (fl (nW (ids t).length) fun k => [.int .u64 (bw (F i) k)]))]]]) (p := r_rOrder130) (k := 4) (by ((repeat refine (kAny_up rfl).trans ?_); exact hEE1)) (by ((try simp (disch := decide) only [hA, go_sem]) <;> (repeat' (first | exact trivial | refine And.intro ?_ ?_)) <;> (first | rfl | (congr 2; omega)))) (by simp) hE1 (by simp) (by simp (disch := omega) only [KOvLt, AVlt_v, AVlt_any, AVlt_sl, AVlt_ptr, AVlt_mp, AVlt_agg, AVlt_tup, AVlt_fn, RowsLt_nil, RowsLt_live, RowsLt_dead, List.mem_cons, List.not_mem_nil, List.forall_mem_cons, List.forall_mem_nil, or_false, false_or, forall_eq_or_imp, forall_eq, vs_lt, Nat.add_lt_add_iff_left, Nat.reduceLT, true_and, and_true, and_self, List.length_cons, List.length_nil, Nat.reduceAdd, Nat.zero_add, implies_true, false_imp_iff, lt_T, List.mem_map]) hR (by simp (disch := omega) only [AVlt_v, AVlt_any, AVlt_sl, AVlt_ptr, AVlt_mp, AVlt_agg, AVlt_tup, AVlt_fn, RowsLt_nil, RowsLt_live, RowsLt_dead, List.mem_cons, List.not_mem_nil, List.forall_mem_cons, List.forall_mem_nil, or_false, false_or, forall_eq_or_imp, forall_eq, vs_lt, Nat.add_lt_add_iff_left, Nat.reduceLT, true_and, and_true, and_self, List.length_cons, List.length_nil, Nat.reduceAdd, Nat.zero_add, implies_true, false_imp_iff, lt_T, List.mem_map])
  · obtain rfl : i = (ids t).length := by omega
    simp (disch := (first | decide | omega)) only [hA, hg1, fl_len, go_sem]
    have hFT : (fl (ids t).length fun a => setV (ids t).length (F a)) = fl (ids t).length fun a => setV (ids t).length (relT t a) := fl_congr (fun a ha => by
      rw [hF]
      refine setV_ext (fun j => ?_)
      simp only
      rw [mem_flg]
      constructor
      · rintro ⟨h1, h2⟩
        rw [wTab_rel hv ha h1] at h2
        exact of_decide_eq_true h2
      · intro h
        have hj := rel_lt a j h
        exact ⟨hj, by rw [wTab_rel hv ha hj]; exact decide_eq_true h⟩)
    rw [hFT]
    refine leave_deep (Or.inr rfl) (i := 3) (ver := (ids t).length) (sz := 2) (rows := fl (ids t).length fun a => setV (ids t).length (relT t a)) (xs := [.agg [.sl (B.length + 3) (ids t).length 0 (ids t).length]]) 6 (by simp (disch := (first | decide | omega)) only [resVs, resV, hA, hg1, go_sem]) rfl (y := .agg [.v (.isl 2 (fl (ids t).length fun a => setV (ids t).length (relT t a)))]) (by
      have tk : List.take (ids t).length (fl (ids t).length fun a => setV (ids t).length (relT t a)) = fl (ids t).length fun a => setV (ids t).length (relT t a) := List.take_of_length_le (by rw [fl_len]; exact Nat.le_refl _)
      simp [deep, frz0, fl_len, tk, one]) (by simp only [AVlt_v, AVlt_any, AVlt_sl, AVlt_ptr, AVlt_mp, AVlt_agg, AVlt_tup, AVlt_fn, RowsLt_nil, RowsLt_live, RowsLt_dead, List.mem_cons, List.not_mem_nil, List.forall_mem_cons, List.forall_mem_nil, or_false, false_or, forall_eq_or_imp, forall_eq, vs_lt, Nat.add_lt_add_iff_left, Nat.reduceLT, true_and, and_true, and_self, List.length_cons, List.length_nil, Nat.reduceAdd, Nat.zero_add, implies_true, false_imp_iff, lt_T, List.mem_map]) hR hB ⟨rfl, rfl, rfl⟩
end Go.Proofs.Ytnnnccibhhnbaaa

namespace Go.Proofs.Ytnnnccibhhnbaaa
set_option linter.unusedVariables false
set_option linter.unusedSimpArgs false
attribute [local go_sem ↓] run_skip run_region run_draw run_seq run_block run_exit run_ret run_cond atN_app seqC_normal seqC_exit seqC_ret seqQ_normal seqQ_exit seqQ_ret blkQ_normal blkQ_exit blkQ_ret runOps_nil runOps_cons runD_nil runD_cons grdO_true grdO_false grdD_true grdD_false ifC_true ifC_false opS_val opS_call opS_two opK_app dS_val dS_call dS_two dK_app kUp_same kUp_ne
attribute [local go_sem] rechks_nil rechks_cons rechk gcase_true gcase_false ex_val ex_val0 gd_none gd_some ev_t ev_c evs_nil evs_cons evo_some evo_none hget_at hget_first hsetB_at hsetB_first hsetL_at hsetL_first ofOpt_some aop aload astore aslice aappend aiaddr aiaddrA afaddr alen alenS acopy amm acall alookup amupdate alenM comma keyEq apick binV binVB binVS isSh intOp strOp boolOp shOp eqC eqF and2 cellsOf setFrom fillA fillS rd rdI elems mk bounds AV.cell List.all_cons List.all_nil Bool.and_true Bool.true_and Bool.and_self List.length_cons List.length_nil List.length_append Nat.reduceAdd Nat.reduceSub Nat.reduceMul Nat.zero_add Nat.add_zero List.cons_append List.nil_append List.append_assoc List.append_nil List.getElem?_cons_zero List.getElem?_cons_succ List.getElem?_nil List.set_cons_zero List.set_cons_succ List.drop_zero List.drop_succ_cons List.take_zero List.take_succ_cons List.take_nil List.drop_nil List.map_cons List.map_nil Option.map_some if_true if_false Bool.false_eq_true and_self true_and and_true Nat.reduceLeDiff Nat.reduceLT Nat.le_refl Nat.reduceEqDiff ite_true ite_false beq_self_eq_true beq_true beq_false Bool.not_true Bool.not_false Bool.true_beq Bool.false_beq map_vs vs_len vs_get vs_take vs_drop vs_snoc1 vs_snoc2 vs_snoc3 vs_snoc5 vs_set1 vs_set2 vs_rep wrap_id le_T lt_T le_F lt_F leI_T ltI_T leI_F ltI_F geI gtI get_T decide_true decide_false room List.getElem?_map List.length_map List.length_take Int.toNat_natCast Nat.min_def Nat.min_self nth_kOf put_kOf put_kNo kOv_cons kOv_nil KHas KArgs List.getElem_cons_zero List.getElem_cons_succ
def a_NumsL : AFunc := ⟨3, 113, [.tmp 6],
  (.seq (.region [⟨(some 3), .box (.t 0), none⟩, ⟨(some 4), .box (.t 1), none⟩, ⟨(some 6), .mv (.c (.v (.bool false))), none⟩])
  (.seq (.seq (.region [⟨(some 13), .call (.c (.fn 13 [])) [], none⟩, ⟨(some 14), .not (.t 13), none⟩])
  (.cond (.t 14) (.seq (.region [⟨(some 6), .mv (.c (.v (.bool false))), none⟩])
  .ret)
  .skip))
  (.seq (.seq (.region [⟨(some 15), .load (some 1) (.t 3), none⟩, ⟨(some 16), .call (.c (.fn 14 [])) [(.t 15)], none⟩])
  (.cond (.t 16) (.seq (.region [⟨(some 6), .mv (.c (.v (.bool true))), none⟩])
  .ret)
  .skip))
  (.seq (.region [⟨(some 18), .load (some 1) (.t 3), none⟩, ⟨(some 19), .load (some 2) (.t 4), none⟩, ⟨(some 20), .call (.c (.fn 30 [])) [(.t 18), (.t 19)], none⟩, ⟨(some 17), .mv (.t 20), none⟩, ⟨(some 21), .extract 0 (.t 17), none⟩, ⟨(some 22), .extract 1 (.t 17), none⟩, ⟨(some 7), .mv (.t 21), none⟩, ⟨(some 8), .mv (.t 22), none⟩])
  (.seq (.region [⟨(some 24), .load (some 1) (.t 3), none⟩, ⟨(some 25), .mv (.t 2), none⟩, ⟨(some 26), .call (.c (.fn 39 [])) [(.t 24), (.t 25)], none⟩, ⟨(some 23), .mv (.t 26), none⟩, ⟨(some 27), .extract 0 (.t 23), none⟩, ⟨(some 28), .extract 1 (.t 23), none⟩, ⟨(some 9), .alloc [(.v (.int .i64 0)), (.v (.int .i64 0))], none⟩, ⟨none, .store 2 (.t 9) (.t 27), none⟩, ⟨(some 10), .mv (.t 28), none⟩])
  (.seq (.region [⟨(some 30), .load (some 1) (.t 3), none⟩, ⟨(some 31), .call (.c (.fn 17 [])) [(.t 30)], none⟩, ⟨(some 29), .mv (.t 31), none⟩, ⟨(some 32), .extract 0 (.t 29), none⟩, ⟨(some 33), .extract 1 (.t 29), none⟩, ⟨(some 11), .alloc [(.v .zsl)], none⟩, ⟨none, .store 1 (.t 11) (.t 32), none⟩, ⟨(some 12), .mv (.t 33), none⟩])
  (.seq (.seq (.region [⟨(some 34), .load (some 1) (.t 3), none⟩, ⟨(some 35), .call (.c (.fn 15 [])) [(.t 34)], none⟩, ⟨(some 36), .not (.t 35), none⟩])
  (.cond (.t 36) (.seq (.region [⟨(some 37), .mv (.t 8), none⟩, ⟨(some 38), .bin .eql (.t 37) (.c (.v (.int .i64 1))), none⟩, ⟨(some 39), .mv (.t 38), none⟩, ⟨(some 40), .mv (.t 7), some (39, true)⟩, ⟨(some 41), .bin .eql (.t 40) (.c (.v (.int .i64 0))), some (39, true)⟩, ⟨(some 42), .pick (.t 39) (.t 41) (.c (.v (.bool false))), none⟩, ⟨(some 43), .mv (.t 42), none⟩, ⟨(some 44), .mv (.t 10), some (43, true)⟩, ⟨(some 45), .bin .eql (.t 44) (.c (.v (.int .i64 1))), some (43, true)⟩, ⟨(some 46), .pick (.t 43) (.t 45) (.c (.v (.bool false))), none⟩, ⟨(some 47), .mv (.t 46), none⟩, ⟨(some 48), .load (some 2) (.t 9), some (47, true)⟩, ⟨(some 49), .build [(.v (.int .i64 0)), (.v (.int .i64 0))] [], some (47, true)⟩, ⟨(some 50), .eqs false [.i, .i] (.t 48) (.t 49), some (47, true)⟩, ⟨(some 51), .pick (.t 47) (.t 50) (.c (.v (.bool false))), none⟩, ⟨(some 52), .mv (.t 51), none⟩, ⟨(some 53), .mv (.t 12), some (52, true)⟩, ⟨(some 54), .bin .eql (.t 53) (.c (.v (.int .i64 1))), some (52, true)⟩, ⟨(some 55), .pick (.t 52) (.t 54) (.c (.v (.bool false))), none⟩, ⟨(some 56), .mv (.t 55), none⟩, ⟨(some 57), .faddr 0 (.t 11), some (56, true)⟩, ⟨(some 58), .load none (.t 57), some (56, true)⟩, ⟨(some 59), .len (.t 58), some (56, true)⟩, ⟨(some 60), .bin .eql (.t 59) (.c (.v (.int .i64 0))), some (56, true)⟩, ⟨(some 61), .pick (.t 56) (.t 60) (.c (.v (.bool false))), none⟩, ⟨(some 6), .mv (.t 61), none⟩])
  .ret)
  .skip))
  (.seq (.seq (.region [⟨(some 62), .load (some 1) (.t 3), none⟩, ⟨(some 63), .load (some 2) (.t 4), none⟩, ⟨(some 64), .call (.c (.fn 25 [])) [(.t 62), (.t 63)], none⟩, ⟨(some 65), .not (.t 64), none⟩])
  (.cond (.t 65) (.seq (.region [⟨(some 66), .mv (.t 8), none⟩, ⟨(some 67), .bin .neq (.t 66) (.c (.v (.int .i64 2))), none⟩, ⟨(some 68), .mv (.t 67), none⟩, ⟨(some 69), .mv (.t 7), some (68, false)⟩, ⟨(some 70), .bin .neq (.t 69) (.c (.v (.int .i64 0))), some (68, false)⟩, ⟨(some 71), .pick (.t 68) (.c (.v (.bool true))) (.t 70), none⟩])
  (.cond (.t 71) (.seq (.region [⟨(some 6), .mv (.c (.v (.bool false))), none⟩])
  .ret)
  .skip))
  (.seq (.region [⟨(some 72), .mv (.t 8), none⟩, ⟨(some 73), .bin .neq (.t 72) (.c (.v (.int .i64 0))), none⟩, ⟨(some 74), .mv (.t 73), none⟩, ⟨(some 75), .mv (.t 7), some (74, false)⟩, ⟨(some 76), .load (some 1) (.t 3), some (74, false)⟩, ⟨(some 77), .load (some 2) (.t 4), some (74, false)⟩, ⟨(some 78), .call (.c (.fn 40 [])) [(.t 76), (.t 77)], some (74, false)⟩, ⟨(some 79), .bin .neq (.t 75) (.t 78), some (74, false)⟩, ⟨(some 80), .pick (.t 74) (.c (.v (.bool true))) (.t 79), none⟩])
  (.cond (.t 80) (.seq (.region [⟨(some 6), .mv (.c (.v (.bool false))), none⟩])
  .ret)
  .skip))))
  (.seq (.seq (.region [⟨(some 81), .mv (.t 2), none⟩, ⟨(some 82), .bin .lss (.t 81) (.c (.v (.int .i64 0))), none⟩, ⟨(some 83), .mv (.t 82), none⟩, ⟨(some 84), .mv (.t 2), some (83, false)⟩, ⟨(some 85), .load (some 1) (.t 3), some (83, false)⟩, ⟨(some 86), .call (.c (.fn 16 [])) [(.t 85)], some (83, false)⟩, ⟨(some 87), .bin .geq (.t 84) (.t 86), some (83, false)⟩, ⟨(some 88), .pick (.t 83) (.c (.v (.bool true))) (.t 87), none⟩])
  (.cond (.t 88) (.seq (.region [⟨(some 89), .mv (.t 10), none⟩, ⟨(some 90), .bin .neq (.t 89) (.c (.v (.int .i64 2))), none⟩, ⟨(some 91), .mv (.t 90), none⟩, ⟨(some 92), .load (some 2) (.t 9), some (91, false)⟩, ⟨(some 93), .build [(.v (.int .i64 0)), (.v (.int .i64 0))] [], some (91, false)⟩, ⟨(some 94), .eqs true [.i, .i] (.t 92) (.t 93), some (91, false)⟩, ⟨(some 95), .pick (.t 91) (.c (.v (.bool true))) (.t 94), none⟩])
  (.cond (.t 95) (.seq (.region [⟨(some 6), .mv (.c (.v (.bool false))), none⟩])
  .ret)
  .skip))
  (.seq (.draw [⟨0, ⟨(some 96), .mv (.t 10), none⟩, []⟩, ⟨1, ⟨(some 97), .bin .neq (.t 96) (.c (.v (.int .i64 0))), none⟩, []⟩, ⟨2, ⟨(some 98), .mv (.t 97), none⟩, []⟩, ⟨3, ⟨(some 99), .load (some 2) (.t 9), some (98, false)⟩, []⟩, ⟨4, ⟨(some 100), .load (some 1) (.t 3), some (98, false)⟩, []⟩, ⟨5, ⟨(some 101), .mv (.t 2), some (98, false)⟩, []⟩, ⟨6, ⟨(some 102), .call (.c (.fn 19 [])) [(.t 100), (.t 101)], some (98, false)⟩, [⟨(some 99), .load (some 2) (.t 9), some (98, false)⟩]⟩, ⟨7, ⟨(some 103), .eqs true [.i, .i] (.t 99) (.t 102), some (98, false)⟩, []⟩, ⟨8, ⟨(some 104), .pick (.t 98) (.c (.v (.bool true))) (.t 103), none⟩, []⟩])
  (.cond (.t 104) (.seq (.region [⟨(some 6), .mv (.c (.v (.bool false))), none⟩])
  .ret)
  .skip))))
  (.seq (.draw [⟨0, ⟨(some 105), .mv (.t 12), none⟩, []⟩, ⟨1, ⟨(some 106), .bin .eql (.t 105) (.c (.v (.int .i64 0))), none⟩, []⟩, ⟨2, ⟨(some 107), .mv (.t 106), none⟩, []⟩, ⟨3, ⟨(some 108), .load (some 1) (.t 11), some (107, true)⟩, []⟩, ⟨4, ⟨(some 109), .load (some 1) (.t 3), some (107, true)⟩, []⟩, ⟨5, ⟨(some 110), .call (.c (.fn 42 [])) [(.t 109)], some (107, true)⟩, [⟨(some 108), .load (some 1) (.t 11), some (107, true)⟩]⟩, ⟨6, ⟨(some 111), .call (.c (.fn 41 [])) [(.t 108), (.t 110)], some (107, true)⟩, []⟩, ⟨7, ⟨(some 112), .pick (.t 107) (.t 111) (.c (.v (.bool false))), none⟩, []⟩, ⟨8, ⟨(some 6), .mv (.t 112), none⟩, []⟩])
  .ret))))))))))⟩
theorem a_NumsL_ok : cFunc Try.prog 6 = some a_NumsL := by kernel_rfl
def a_OrdC2 : AFunc := ⟨1, 98, [.cell 2 (some 1), .tmp 3],
  (.seq (.region [⟨(some 1), .box (.t 0), none⟩, ⟨(some 2), .alloc [(.v .zsl)], none⟩, ⟨(some 3), .mv (.c (.v (.int .i64 0))), none⟩])
  (.seq (.seq (.region [⟨(some 18), .load (some 1) (.t 1), none⟩, ⟨(some 19), .call (.c (.fn 74 [])) [(.t 18), (.c (.v .zsl))], none⟩, ⟨(some 4), .mv (.t 19), none⟩])
  (.seq (.region [⟨(some 20), .mv (.t 4), none⟩, ⟨(some 21), .bin .neq (.t 20) (.c (.v (.int .i64 0))), none⟩])
  (.cond (.t 21) (.seq (.region [⟨(some 22), .build [(.v .zsl)] [], none⟩, ⟨(some 23), .mv (.t 4), none⟩, ⟨none, .store 1 (.t 2) (.t 22), none⟩, ⟨(some 3), .mv (.t 23), none⟩])
  .ret)
  .skip)))
  (.seq (.draw [⟨0, ⟨(some 24), .load (some 1) (.t 1), none⟩, []⟩, ⟨2, ⟨(some 26), .load (some 1) (.t 1), none⟩, []⟩, ⟨1, ⟨(some 25), .call (.c (.fn 75 [])) [(.t 24)], none⟩, [⟨(some 26), .load (some 1) (.t 1), none⟩]⟩, ⟨3, ⟨(some 27), .call (.c (.fn 76 [])) [(.t 26)], none⟩, []⟩, ⟨4, ⟨(some 5), .alloc [(.v .zsl), (.v .nilm), (.v .nilm)], none⟩, [⟨(some 24), .load (some 1) (.t 1), none⟩, ⟨(some 26), .load (some 1) (.t 1), none⟩]⟩, ⟨5, ⟨none, .store 3 (.t 5) (.t 25), none⟩, []⟩, ⟨6, ⟨(some 6), .mv (.t 27), none⟩, []⟩])
  (.seq (.region [⟨(some 28), .mv (.t 6), none⟩, ⟨(some 29), .len (.t 28), none⟩, ⟨(some 30), .mkslice 1 [(.v .zsl)] 24 (.t 29) (.t 29), none⟩, ⟨(some 7), .mv (.t 30), none⟩])
  (.seq (.seq (.region [⟨(some 31), .mv (.t 6), none⟩, ⟨(some 32), .len (.t 31), none⟩, ⟨(some 33), .mv (.c (.v (.int .i64 0))), none⟩])
  (.block 0 (.loop (.seq (.region [⟨(some 34), .bin .lss (.t 33) (.t 32), none⟩])
  (.seq (.cond (.t 34) .skip
  (.exit 0))
  (.seq (.block 1 (.seq (.region [⟨(some 35), .mv (.t 33), none⟩, ⟨(some 36), .iaddr 2 (.t 31) (.t 33), none⟩, ⟨(some 37), .load (some 2) (.t 36), none⟩, ⟨(some 9), .alloc [(.v (.int .i64 0)), (.v (.int .i64 0))], none⟩, ⟨(some 8), .mv (.t 35), none⟩, ⟨none, .store 2 (.t 9) (.t 37), none⟩])
  (.seq (.region [⟨(some 38), .load (some 3) (.t 5), none⟩, ⟨(some 39), .load (some 2) (.t 9), none⟩, ⟨(some 40), .call (.c (.fn 77 [])) [(.t 38), (.t 39)], none⟩, ⟨(some 10), .mv (.t 40), none⟩])
  (.seq (.region [⟨(some 41), .mv (.t 6), none⟩, ⟨(some 42), .len (.t 41), none⟩, ⟨(some 43), .mv (.c (.v (.int .i64 0))), none⟩])
  (.block 2 (.loop (.seq (.region [⟨(some 44), .bin .lss (.t 43) (.t 42), none⟩])
  (.seq (.cond (.t 44) .skip
  (.exit 2))
  (.seq (.block 3 (.seq (.region [⟨(some 45), .mv (.t 43), none⟩, ⟨(some 46), .iaddr 2 (.t 41) (.t 43), none⟩, ⟨(some 47), .load (some 2) (.t 46), none⟩, ⟨(some 12), .alloc [(.v (.int .i64 0)), (.v (.int .i64 0))], none⟩, ⟨(some 11), .mv (.t 45), none⟩, ⟨none, .store 2 (.t 12) (.t 47), none⟩])
  (.seq (.draw [⟨0, ⟨(some 48), .load (some 2) (.t 12), none⟩, []⟩, ⟨1, ⟨(some 49), .load (some 2) (.t 9), none⟩, []⟩, ⟨2, ⟨(some 50), .eqs true [.i, .i] (.t 48) (.t 49), none⟩, []⟩, ⟨3, ⟨(some 51), .mv (.t 50), none⟩, []⟩, ⟨4, ⟨(some 52), .mv (.t 10), some (51, true)⟩, []⟩, ⟨5, ⟨(some 53), .faddr 0 (.t 12), some (51, true)⟩, []⟩, ⟨6, ⟨(some 54), .load none (.t 53), some (51, true)⟩, []⟩, ⟨7, ⟨(some 55), .iaddr 1 (.t 52) (.t 54), some (51, true)⟩, []⟩, ⟨8, ⟨(some 56), .load none (.t 55), some (51, true)⟩, []⟩, ⟨9, ⟨(some 57), .faddr 1 (.t 12), some (51, true)⟩, []⟩, ⟨10, ⟨(some 58), .load none (.t 57), some (51, true)⟩, []⟩, ⟨11, ⟨(some 59), .bin .geq (.t 56) (.t 58), some (51, true)⟩, []⟩, ⟨12, ⟨(some 60), .pick (.t 51) (.t 59) (.c (.v (.bool false))), none⟩, []⟩])
  (.cond (.t 60) (.region [⟨(some 61), .mv (.t 7), none⟩, ⟨(some 62), .mv (.t 11), none⟩, ⟨(some 63), .mv (.t 7), none⟩, ⟨(some 64), .mv (.t 11), none⟩, ⟨(some 65), .iaddr 1 (.t 63) (.t 64), none⟩, ⟨(some 66), .load none (.t 65), none⟩, ⟨(some 67), .mv (.t 8), none⟩, ⟨(some 68), .bslice 1 [(.v (.int .i64 0))] 1 [(0, (.t 67))], none⟩, ⟨(some 69), .append 1 8 (.t 66) (.t 68), none⟩, ⟨(some 70), .iaddr 1 (.t 61) (.t 62), none⟩, ⟨none, .store 1 (.t 70) (.t 69), none⟩])
  .skip))))
  (.region [⟨(some 71), .bin .add (.t 43) (.c (.v (.int .i64 1))), none⟩, ⟨(some 43), .mv (.t 71), none⟩]))))))))))
  (.region [⟨(some 72), .bin .add (.t 33) (.c (.v (.int .i64 1))), none⟩, ⟨(some 33), .mv (.t 72), none⟩])))))))
  (.seq (.region [⟨(some 13), .alloc [(.v .zsl)], none⟩])
  (.seq (.seq (.region [⟨(some 73), .mv (.t 7), none⟩, ⟨(some 74), .len (.t 73), none⟩, ⟨(some 75), .mv (.c (.v (.int .i64 0))), none⟩])
  (.block 4 (.loop (.seq (.region [⟨(some 76), .bin .lss (.t 75) (.t 74), none⟩])
  (.seq (.cond (.t 76) .skip
  (.exit 4))
  (.seq (.block 5 (.seq (.region [⟨(some 77), .iaddr 1 (.t 73) (.t 75), none⟩, ⟨(some 78), .load none (.t 77), none⟩, ⟨(some 15), .mv (.t 78), none⟩])
  (.seq (.region [⟨(some 80), .mv (.t 6), none⟩, ⟨(some 81), .len (.t 80), none⟩, ⟨(some 82), .mv (.t 15), none⟩, ⟨(some 83), .call (.c (.fn 78 [])) [(.t 81), (.t 82)], none⟩, ⟨(some 79), .mv (.t 83), none⟩, ⟨(some 84), .extract 0 (.t 79), none⟩, ⟨(some 85), .extract 1 (.t 79), none⟩, ⟨(some 16), .alloc [(.v (.int .i64 0)), (.v .zsl)], none⟩, ⟨none, .store 2 (.t 16) (.t 84), none⟩, ⟨(some 17), .mv (.t 85), none⟩])
  (.seq (.seq (.region [⟨(some 86), .mv (.t 17), none⟩, ⟨(some 87), .bin .neq (.t 86) (.c (.v (.int .i64 0))), none⟩])
  (.cond (.t 87) (.seq (.region [⟨(some 88), .build [(.v .zsl)] [], none⟩, ⟨(some 89), .mv (.t 17), none⟩, ⟨none, .store 1 (.t 2) (.t 88), none⟩, ⟨(some 3), .mv (.t 89), none⟩])
  .ret)
  .skip))
  (.region [⟨(some 90), .faddr 0 (.t 13), none⟩, ⟨(some 91), .load none (.t 90), none⟩, ⟨(some 92), .load (some 2) (.t 16), none⟩, ⟨(some 93), .bslice 2 [(.v (.int .i64 0)), (.v .zsl)] 1 [(0, (.t 92))], none⟩, ⟨(some 94), .append 2 32 (.t 91) (.t 93), none⟩, ⟨(some 95), .faddr 0 (.t 13), none⟩, ⟨none, .store 1 (.t 95) (.t 94), none⟩])))))
  (.region [⟨(some 96), .bin .add (.t 75) (.c (.v (.int .i64 1))), none⟩, ⟨(some 75), .mv (.t 96), none⟩])))))))
  (.seq (.region [⟨(some 97), .load (some 1) (.t 13), none⟩, ⟨none, .store 1 (.t 2) (.t 97), none⟩, ⟨(some 3), .mv (.c (.v (.int .i64 0))), none⟩])
  .ret))))))))⟩
theorem a_OrdC2_ok : cFunc Try.prog 17 = some a_OrdC2 := by kernel_rfl
def r_OrdC20 : List (Nat × Nat) := [(8, 12), (33, 72)]
def r_OrdC21 : List (Nat × Nat) := [(11, 12), (43, 71)]
def r_OrdC22 : List (Nat × Nat) := [(3, 3), (15, 17), (75, 96)]

/-- Order of a trace that is not valid. -/
theorem OrderC_bad (t : Tr) (hval : validL t = false) (hS : Small t) (hN : Nm t) (b l : List Row) :
    ACalls Try.prog 17 [.agg [.v (eT t)]] b l (fun r b' l' => r = .tup [.agg [.v .zsl], .v (.int .i64 1)] ∧ b' = b ∧ l' = l) := by
  refine calls_kept a_OrdC2_ok rfl (by decide) ?_
  intro B g hB hR hE hA
  simp only [KArgs] at hA
  have hck : chkE t [] = 1 := by unfold chkE; rw [hval]; rfl
  have hn1 : ((1 : Int) != 0) = true := rfl
  simp (disch := (first | decide | omega)) only [a_OrdC2, hA, go_sem]
  refine ACalls.nxt (chk_nil t hS hN _ _) ?_
  rw [hck]
  simp (disch := (first | decide | omega)) only [hA, hn1, go_sem]
  exact leave_pure (xs := [.agg [.v .zsl], .v (.int .i64 1)]) (.inr rfl) (by simp (disch := (first | decide | omega)) only [resVs, resV, go_sem, hA]) (by simp only [one, AVlt_v, AVlt_any, AVlt_sl, AVlt_ptr, AVlt_mp, AVlt_agg, AVlt_tup, AVlt_fn, RowsLt_nil, RowsLt_live, RowsLt_dead, List.mem_cons, List.not_mem_nil, List.forall_mem_cons, List.forall_mem_nil, or_false, false_or, forall_eq_or_imp, forall_eq, vs_lt, Nat.add_lt_add_iff_left, Nat.reduceLT, true_and, and_true, and_self, List.length_cons, List.length_nil, Nat.reduceAdd, Nat.zero_add, implies_true, false_imp_iff, lt_T, List.mem_map]) hR hB ⟨rfl, rfl, rfl⟩
set_option maxRecDepth 20000 in
set_option maxHeartbeats 8000000 in
theorem causalityNumbers_run (t : Tr) (x : Int × Int) (n : Int) (hN : Nm t) (hw : (Lit.int .i64 n).wf = true) (b l : List Row) :
    ACalls Try.prog 6 [.agg [.v (eT t)], idP x, .v (.int .i64 n)] b l (fun r b' l' => r = .v (.bool true) ∧ b' = b ∧ l' = l) := by
  refine calls_kept a_NumsL_ok rfl (by decide) ?_
  intro B g hB hR hE hA
  simp only [KArgs] at hA
  simp (disch := decide) only [a_NumsL, hA, idP, go_sem]
  refine ACalls.nxt (awake13_spec _ _) ?_
  simp (disch := decide) only [hA, go_sem]
  refine ACalls.nxt (great_spec t hN _ _) ?_
  cases hgr : grB t with
  | true =>
    simp (disch := decide) only [hA, go_sem]
    exact leave_pure (xs := [.v (.bool true)]) (.inr rfl) (by simp (disch := (first | decide | omega)) only [resVs, resV, go_sem, hA]) (by simp only [one, AVlt_v, AVlt_any, AVlt_sl, AVlt_ptr, AVlt_mp, AVlt_agg, AVlt_tup, AVlt_fn, RowsLt_nil, RowsLt_live, RowsLt_dead, List.mem_cons, List.not_mem_nil, List.forall_mem_cons, List.forall_mem_nil, or_false, false_or, forall_eq_or_imp, forall_eq, vs_lt, Nat.add_lt_add_iff_left, Nat.reduceLT, true_and, and_true, and_self, List.length_cons, List.length_nil, Nat.reduceAdd, Nat.zero_add, implies_true, false_imp_iff, lt_T, List.mem_map]) hR hB ⟨rfl, rfl, rfl⟩
  | false =>
  obtain ⟨s1, s2, hS, s3⟩ := gr_in hgr
  have hC : validL t = true → (ids t).length ≤ 1000000 := fun h => by have := s3 h; omega
  have hnu := fun b l => NumC_spec t hS hN s1 s2 x b l
  have hnm : n ≤ 9223372036854775807 := by
    simp only [Lit.wf, Bool.and_eq_true, decide_eq_true_eq] at hw
    exact hw.2
  have hev := fun b l => EventC_spec t hS hN hC n hnm b l
  have hrv := fun b l => rvalid_spec t hS hN b l
  have his := fun b l => rIs_spec t hS x b l
  have hevs := fun b l => rEvents_spec t s1 s2 b l
  unfold numR at hnu
  simp only [idP] at hnu his
  have hn0 : ((0 : Int) != 0) = false := rfl
  have hnn : ∀ n : Int, (n != n) = false := fun n => by simp
  have hee : ∀ n : Int, (n == n) = true := fun n => by simp
  cases hval : validL t with
  | false =>
    rw [hval] at hrv
    have hc : chkE t [x] = 1 := by unfold chkE; rw [hval]; rfl
    have hE1 : evE t n = 1 := by unfold evE; rw [hval]; rfl
    rw [hc] at hnu
    rw [hval, hE1] at hev
    simp only [show ((1 : Int) = 0) = False by simp, if_false, Bool.false_eq_true, idA] at hnu hev
    simp (disch := decide) only [hA, go_sem]
    refine ACalls.nxt (hnu _ _) ?_
    simp (disch := decide) only [hA, go_sem]
    refine ACalls.nxt (hev _ _) ?_
    simp (disch := decide) only [hA, go_sem]
    refine ACalls.nxt (OrderC_bad t hval hS hN _ _) ?_
    simp (disch := decide) only [hA, go_sem]
    refine ACalls.nxt (hrv _ _) ?_
    simp (disch := (first | decide | omega)) only [hA, hee, Int.natCast_zero, Int.ofNat_zero, go_sem]
    exact leave_pure (xs := [.v (.bool true)]) (.inr rfl) (by simp (disch := (first | decide | omega)) only [resVs, resV, go_sem, hA]) (by simp only [one, AVlt_v, AVlt_any, AVlt_sl, AVlt_ptr, AVlt_mp, AVlt_agg, AVlt_tup, AVlt_fn, RowsLt_nil, RowsLt_live, RowsLt_dead, List.mem_cons, List.not_mem_nil, List.forall_mem_cons, List.forall_mem_nil, or_false, false_or, forall_eq_or_imp, forall_eq, vs_lt, Nat.add_lt_add_iff_left, Nat.reduceLT, true_and, and_true, and_self, List.length_cons, List.length_nil, Nat.reduceAdd, Nat.zero_add, implies_true, false_imp_iff, lt_T, List.mem_map]) hR hB ⟨rfl, rfl, rfl⟩
  | true =>
  rw [hval] at hrv
  have hv := vok hval
  have h70 := s3 hval
  have hord := fun b l => OrderC_run t hv hval hS hN (by omega) b l
  change ∀ b l, ACalls _ _ _ _ _ (fun r b' l' => r = AV.tup [.agg [.v (eRel (ids t).length (relT t))], .v (.int .i64 0)] ∧ b' = b ∧ l' = l) at hord
  have hro := fun b l => rOrder13_spec t hv hS s1 s2 (by omega) b l
  have hsa := fun b l => rSame09_spec (ids t).length (relT t) (by omega) b l
  rw [hval] at hev
  obtain ⟨k, hk⟩ : ∃ k : Int, (if chkE t [x] = 0 then (numN t (x.1.toNat, x.2.toNat) : Int) else 0) = k := ⟨_, rfl⟩
  obtain ⟨e, he⟩ : ∃ e, chkE t [x] = e := ⟨_, rfl⟩
  rw [hk, he] at hnu
  have hce : existsB t x.1 x.2 = decide (e = 0) := by
    rw [← he]
    unfold chkE
    rw [if_pos hval]
    cases h : existsB t x.1 x.2 <;> simp [h]
  have he2 : e ≠ 0 → e = 2 ∧ k = 0 := fun h => by
    refine ⟨?_, by rw [← hk, if_neg (by rw [he]; exact h)]⟩
    rw [← he]
    unfold chkE
    rw [if_pos hval]
    cases h2 : existsB t x.1 x.2
    · simp [h2]
    · rw [hce] at h2; exact absurd (of_decide_eq_true h2) h
  have hrn : e = 0 → ∀ b l, ACalls Try.prog 40 [.agg [.v (eT t)], idP x] b l (fun r b' l' => r = .v (.int .i64 k) ∧ b' = b ∧ l' = l) := fun h => by
    rw [h] at hce
    obtain ⟨p, i, u1, u2, hx⟩ := existsB_in (show existsB t x.1 x.2 = true by rw [hce]; rfl)
    obtain ⟨x1, x2⟩ := x
    simp only at u1 u2
    subst u1; subst u2
    intro b l
    have hq := rNumber_spec t s1 s2 _ hx b l
    rw [← hk, if_pos (by rw [he]; exact h)]
    exact hq
  simp only [idP] at hrn
  rw [hce] at his
  -- the event with the number
  obtain ⟨⟨y1, y2⟩, hy⟩ : ∃ y, evI t n = y := ⟨_, rfl⟩
  obtain ⟨e2, hev2⟩ : ∃ e, evE t n = e := ⟨_, rfl⟩
  rw [hy, hev2] at hev
  simp only [if_true, idA] at hev
  have hout : ¬ (0 ≤ n ∧ n < ((ids t).length : Int)) → e2 = 2 ∧ y1 = 0 ∧ y2 = 0 := fun h => by
    have h1 : evE t n = 2 := by unfold evE; rw [if_pos hval, if_neg h]
    have h2 : evI t n = (0, 0) := by
      unfold evI
      by_cases hn : 0 ≤ n
      · rw [if_pos hn, getD_out (by omega)]
      · rw [if_neg hn]
    rw [hy] at h2
    have h3 := congrArg Prod.fst h2
    have h4 := congrArg Prod.snd h2
    exact ⟨by rw [← hev2, h1], h3, h4⟩
  have hin : 0 ≤ n ∧ n < ((ids t).length : Int) → e2 = 0 ∧ ∀ b l, ACalls Try.prog 19 [.agg [.v (eT t)], .v (.int .i64 n)] b l (fun r b' l' => r = .agg [.v (.int .i64 y1), .v (.int .i64 y2)] ∧ b' = b ∧ l' = l) := fun h => by
    obtain ⟨m, rfl⟩ : ∃ m : Nat, n = m := ⟨n.toNat, by omega⟩
    have hm : m < (ids t).length := by omega
    refine ⟨by rw [← hev2]; unfold evE; rw [if_pos hval, if_pos h], fun b l => ?_⟩
    have hq := rEvent_spec t hS m hm (by omega) b l
    have hyy : (ids t)[m] = (y1, y2) := by
      rw [← hy]; unfold evI; rw [if_pos (by omega), Int.toNat_natCast, getD_at hm]
    rw [hyy] at hq
    exact hq
  clear hk he hy hev2
  simp (disch := decide) only [hA, go_sem]
  refine ACalls.nxt (hnu _ _) ?_
  simp (disch := decide) only [hA, go_sem]
  refine ACalls.nxt (hev _ _) ?_
  simp (disch := decide) only [hA, go_sem]
  refine ACalls.nxt (hord _ _) ?_
  simp (disch := decide) only [hA, go_sem]
  refine ACalls.nxt (hrv _ _) ?_
  simp (disch := decide) only [hA, go_sem]
  refine ACalls.nxt (his _ _) ?_
  have h20 : ((2 : Int) != 0) = true := rfl
  have q00 : ((((0 : Nat) : Int) == 0) && (((0 : Nat) : Int) == 0)) = true := rfl
  have qyy : ((((y1 : Nat) : Int) == ((y1 : Nat) : Int)) && (((y2 : Nat) : Int) == ((y2 : Nat) : Int))) = true := by simp
  by_cases h0 : e = 0
  case' pos =>
    have hd : decide (e = 0) = true := decide_eq_true h0
    have hd2 : (e != 0) = false := by rw [h0]; rfl
    simp (disch := decide) only [hA, hd, hd2, go_sem]
    refine ACalls.nxt (hrn h0 _ _) ?_
    simp (disch := decide) only [hA, hnn, go_sem]
  case' neg =>
    obtain ⟨g1, g2⟩ := he2 h0
    have hd : decide (e = 0) = false := decide_eq_false h0
    simp (disch := decide) only [hA, hd, g1, g2, hnn, show decide ((2 : Int) = 0) = false from rfl, go_sem]
  all_goals
    by_cases hneg : n < 0
    case' pos =>
      have dn : decide (n < 0) = true := decide_eq_true hneg
      obtain ⟨g3, g4, g5⟩ := hout (by omega)
      simp (disch := decide) only [hA, dn, g3, g4, g5, hnn, q00, go_sem]
    case' neg =>
      have dn : decide (n < 0) = false := decide_eq_false hneg
      simp (disch := decide) only [hA, dn, go_sem]
      refine ACalls.nxt (hevs _ _) ?_
      by_cases hbig : n ≥ ((ids t).length : Int)
      case' pos =>
        have dn2 : decide (n ≥ ((ids t).length : Int)) = true := decide_eq_true hbig
        have dn2' : decide (((ids t).length : Int) ≤ n) = true := dn2
        obtain ⟨g3, g4, g5⟩ := hout (by omega)
        simp (disch := decide) only [hA, dn2, dn2', g3, g4, g5, hnn, q00, go_sem]
      case' neg =>
        have dn2 : decide (n ≥ ((ids t).length : Int)) = false := decide_eq_false hbig
        have dn2' : decide (((ids t).length : Int) ≤ n) = false := dn2
        obtain ⟨g3, g4⟩ := hin (by omega)
        simp (disch := decide) only [hA, dn2, dn2', g3, hn0, go_sem]
        refine ACalls.nxt (g4 _ _) ?_
        simp (disch := decide) only [hA, qyy, go_sem]
  all_goals
    refine ACalls.nxt (hro _ _) ?_
    simp (disch := decide) only [hA, go_sem]
    refine ACalls.nxt (hsa _ _) ?_
    simp (disch := decide) only [hA, go_sem]
    exact leave_pure (xs := [.v (.bool true)]) (.inr rfl) (by simp (disch := (first | decide | omega)) only [resVs, resV, go_sem, hA]) (by simp only [one, AVlt_v, AVlt_any, AVlt_sl, AVlt_ptr, AVlt_mp, AVlt_agg, AVlt_tup, AVlt_fn, RowsLt_nil, RowsLt_live, RowsLt_dead, List.mem_cons, List.not_mem_nil, List.forall_mem_cons, List.forall_mem_nil, or_false, false_or, forall_eq_or_imp, forall_eq, vs_lt, Nat.add_lt_add_iff_left, Nat.reduceLT, true_and, and_true, and_self, List.length_cons, List.length_nil, Nat.reduceAdd, Nat.zero_add, implies_true, false_imp_iff, lt_T, List.mem_map]) hR hB ⟨rfl, rfl, rfl⟩
end Go.Proofs.Ytnnnccibhhnbaaa
