/- Texts of one proof, laid together: H2, IC, ID, VC, VX, HX, IF, IE, IG, IH, IJ, HI. No condition. -/
import Derived.Test.YtnnnccibhhnbaaaSQ8
import Derived.Test.YtnnnccibhhnbaaaSG3
import Derived.Test.YtnnnccibhhnbaaaSG2
import Derived.Test.YtnnnccibhhnbaaaProg
import Derived.KernelRfl
namespace Go.Proofs.Ytnnnccibhhnbaaa
set_option linter.unusedVariables false
set_option linter.unusedSimpArgs false
attribute [local go_sem ↓] run_skip run_region run_draw run_seq run_block run_exit run_ret run_cond atN_app seqC_normal seqC_exit seqC_ret seqQ_normal seqQ_exit seqQ_ret blkQ_normal blkQ_exit blkQ_ret runOps_nil runOps_cons runD_nil runD_cons grdO_true grdO_false grdD_true grdD_false ifC_true ifC_false opS_val opS_call opS_two opK_app dS_val dS_call dS_two dK_app kUp_same kUp_ne
attribute [local go_sem] rechks_nil rechks_cons rechk gcase_true gcase_false ex_val ex_val0 gd_none gd_some ev_t ev_c evs_nil evs_cons evo_some evo_none hget_at hget_first hsetB_at hsetB_first hsetL_at hsetL_first ofOpt_some aop aload astore aslice aappend aiaddr aiaddrA afaddr alen alenS acopy amm acall alookup amupdate alenM comma keyEq apick binV binVB binVS isSh intOp strOp boolOp shOp eqC eqF and2 cellsOf setFrom fillA fillS rd rdI elems mk bounds AV.cell List.all_cons List.all_nil Bool.and_true Bool.true_and Bool.and_self List.length_cons List.length_nil List.length_append Nat.reduceAdd Nat.reduceSub Nat.reduceMul Nat.zero_add Nat.add_zero List.cons_append List.nil_append List.append_assoc List.append_nil List.getElem?_cons_zero List.getElem?_cons_succ List.getElem?_nil List.set_cons_zero List.set_cons_succ List.drop_zero List.drop_succ_cons List.take_zero List.take_succ_cons List.take_nil List.drop_nil List.map_cons List.map_nil Option.map_some if_true if_false Bool.false_eq_true and_self true_and and_true Nat.reduceLeDiff Nat.reduceLT Nat.le_refl Nat.reduceEqDiff ite_true ite_false beq_self_eq_true beq_true beq_false Bool.not_true Bool.not_false Bool.true_beq Bool.false_beq map_vs vs_len vs_get vs_take vs_drop vs_snoc1 vs_snoc2 vs_snoc3 vs_snoc5 vs_set1 vs_set2 vs_rep wrap_id le_T lt_T le_F lt_F leI_T ltI_T leI_F ltI_F geI gtI get_T decide_true decide_false room List.getElem?_map List.length_map List.length_take Int.toNat_natCast Nat.min_def Nat.min_self nth_kOf put_kOf put_kNo kOv_cons kOv_nil KHas KArgs List.getElem_cons_zero List.getElem_cons_succ
def a_PastC : AFunc := ⟨2, 18, [.tmp 4, .tmp 5],
  (.seq (.region [⟨(some 2), .box (.t 0), none⟩, ⟨(some 3), .box (.t 1), none⟩, ⟨(some 4), .mv (.c (.v .zsl)), none⟩, ⟨(some 5), .mv (.c (.v (.int .i64 0))), none⟩])
  (.seq (.seq (.region [⟨(some 7), .load (some 1) (.t 2), none⟩, ⟨(some 8), .load (some 2) (.t 3), none⟩, ⟨(some 9), .bslice 2 [(.v (.int .i64 0)), (.v (.int .i64 0))] 1 [(0, (.t 8))], none⟩, ⟨(some 10), .call (.c (.fn 74 [])) [(.t 7), (.t 9)], none⟩, ⟨(some 6), .mv (.t 10), none⟩])
  (.seq (.region [⟨(some 11), .mv (.t 6), none⟩, ⟨(some 12), .bin .neq (.t 11) (.c (.v (.int .i64 0))), none⟩])
  (.cond (.t 12) (.seq (.region [⟨(some 13), .mv (.t 6), none⟩, ⟨(some 4), .mv (.c (.v .zsl)), none⟩, ⟨(some 5), .mv (.t 13), none⟩])
  .ret)
  .skip)))
  (.seq (.draw [⟨0, ⟨(some 14), .load (some 1) (.t 2), none⟩, []⟩, ⟨2, ⟨(some 16), .load (some 2) (.t 3), none⟩, []⟩, ⟨1, ⟨(some 15), .call (.c (.fn 75 [])) [(.t 14)], none⟩, [⟨(some 16), .load (some 2) (.t 3), none⟩]⟩, ⟨3, ⟨(some 17), .call (.c (.fn 77 [])) [(.t 15), (.t 16)], none⟩, []⟩, ⟨4, ⟨(some 4), .mv (.t 17), none⟩, []⟩, ⟨5, ⟨(some 5), .mv (.c (.v (.int .i64 0))), none⟩, []⟩])
  .ret)))⟩
theorem a_PastC_ok : cFunc Try.prog 29 = some a_PastC := by kernel_rfl
def a_FutureC : AFunc := ⟨2, 61, [.tmp 4, .tmp 5],
  (.seq (.region [⟨(some 2), .box (.t 0), none⟩, ⟨(some 3), .box (.t 1), none⟩, ⟨(some 4), .mv (.c (.v .zsl)), none⟩, ⟨(some 5), .mv (.c (.v (.int .i64 0))), none⟩])
  (.seq (.seq (.region [⟨(some 12), .load (some 1) (.t 2), none⟩, ⟨(some 13), .load (some 2) (.t 3), none⟩, ⟨(some 14), .bslice 2 [(.v (.int .i64 0)), (.v (.int .i64 0))] 1 [(0, (.t 13))], none⟩, ⟨(some 15), .call (.c (.fn 74 [])) [(.t 12), (.t 14)], none⟩, ⟨(some 6), .mv (.t 15), none⟩])
  (.seq (.region [⟨(some 16), .mv (.t 6), none⟩, ⟨(some 17), .bin .neq (.t 16) (.c (.v (.int .i64 0))), none⟩])
  (.cond (.t 17) (.seq (.region [⟨(some 18), .mv (.t 6), none⟩, ⟨(some 4), .mv (.c (.v .zsl)), none⟩, ⟨(some 5), .mv (.t 18), none⟩])
  .ret)
  .skip)))
  (.seq (.region [⟨(some 19), .load (some 1) (.t 2), none⟩, ⟨(some 20), .call (.c (.fn 75 [])) [(.t 19)], none⟩, ⟨(some 7), .alloc [(.v .zsl), (.v .nilm), (.v .nilm)], none⟩, ⟨none, .store 3 (.t 7) (.t 20), none⟩])
  (.seq (.region [⟨(some 21), .faddr 0 (.t 2), none⟩, ⟨(some 22), .load none (.t 21), none⟩, ⟨(some 23), .len (.t 22), none⟩, ⟨(some 24), .mkslice 1 [(.v (.int .i64 0))] 8 (.t 23) (.t 23), none⟩, ⟨(some 8), .mv (.t 24), none⟩])
  (.seq (.seq (.region [⟨(some 25), .faddr 0 (.t 2), none⟩, ⟨(some 26), .load none (.t 25), none⟩, ⟨(some 27), .len (.t 26), none⟩, ⟨(some 28), .mv (.c (.v (.int .i64 0))), none⟩])
  (.block 0 (.loop (.seq (.region [⟨(some 29), .bin .lss (.t 28) (.t 27), none⟩])
  (.seq (.cond (.t 29) .skip
  (.exit 0))
  (.seq (.block 1 (.seq (.region [⟨(some 30), .mv (.t 28), none⟩, ⟨(some 31), .iaddr 3 (.t 26) (.t 28), none⟩, ⟨(some 32), .load (some 3) (.t 31), none⟩, ⟨(some 10), .alloc [(.v (.str ⟨#[]⟩)), (.v .zsl), (.v .zsl)], none⟩, ⟨(some 9), .mv (.t 30), none⟩, ⟨none, .store 3 (.t 10) (.t 32), none⟩])
  (.seq (.region [⟨(some 33), .faddr 2 (.t 10), none⟩, ⟨(some 34), .load none (.t 33), none⟩, ⟨(some 35), .len (.t 34), none⟩, ⟨(some 36), .mv (.c (.v (.int .i64 0))), none⟩])
  (.block 2 (.loop (.seq (.region [⟨(some 37), .bin .lss (.t 36) (.t 35), none⟩])
  (.seq (.cond (.t 37) .skip
  (.exit 2))
  (.seq (.block 3 (.seq (.region [⟨(some 38), .mv (.t 36), none⟩, ⟨(some 11), .mv (.t 38), none⟩])
  (.seq (.seq (.draw [⟨0, ⟨(some 39), .load (some 3) (.t 7), none⟩, []⟩, ⟨1, ⟨(some 40), .mv (.t 9), none⟩, []⟩, ⟨2, ⟨(some 41), .mv (.t 11), none⟩, []⟩, ⟨3, ⟨(some 42), .bin .add (.t 41) (.c (.v (.int .i64 1))), none⟩, []⟩, ⟨4, ⟨(some 43), .build [(.v (.int .i64 0)), (.v (.int .i64 0))] [(0, 1, (.t 40)), (1, 1, (.t 42))], none⟩, []⟩, ⟨6, ⟨(some 45), .faddr 0 (.t 3), none⟩, []⟩, ⟨7, ⟨(some 46), .load none (.t 45), none⟩, []⟩, ⟨10, ⟨(some 49), .faddr 1 (.t 3), none⟩, []⟩, ⟨11, ⟨(some 50), .load none (.t 49), none⟩, []⟩, ⟨5, ⟨(some 44), .call (.c (.fn 77 [])) [(.t 39), (.t 43)], none⟩, [⟨(some 45), .faddr 0 (.t 3), none⟩, ⟨(some 46), .load none (.t 45), none⟩, ⟨(some 49), .faddr 1 (.t 3), none⟩, ⟨(some 50), .load none (.t 49), none⟩]⟩, ⟨8, ⟨(some 47), .iaddr 1 (.t 44) (.t 46), none⟩, []⟩, ⟨9, ⟨(some 48), .load none (.t 47), none⟩, []⟩, ⟨12, ⟨(some 51), .bin .geq (.t 48) (.t 50), none⟩, []⟩])
  (.cond (.t 51) (.exit 2)
  .skip))
  (.region [⟨(some 52), .mv (.t 8), none⟩, ⟨(some 53), .mv (.t 9), none⟩, ⟨(some 54), .iaddr 1 (.t 52) (.t 53), none⟩, ⟨(some 55), .load none (.t 54), none⟩, ⟨(some 56), .bin .add (.t 55) (.c (.v (.int .i64 1))), none⟩, ⟨(some 57), .iaddr 1 (.t 52) (.t 53), none⟩, ⟨none, .store 1 (.t 57) (.t 56), none⟩]))))
  (.region [⟨(some 58), .bin .add (.t 36) (.c (.v (.int .i64 1))), none⟩, ⟨(some 36), .mv (.t 58), none⟩])))))))))
  (.region [⟨(some 59), .bin .add (.t 28) (.c (.v (.int .i64 1))), none⟩, ⟨(some 28), .mv (.t 59), none⟩])))))))
  (.seq (.region [⟨(some 60), .mv (.t 8), none⟩, ⟨(some 4), .mv (.t 60), none⟩, ⟨(some 5), .mv (.c (.v (.int .i64 0))), none⟩])
  .ret))))))⟩
theorem a_FutureC_ok : cFunc Try.prog 31 = some a_FutureC := by kernel_rfl
def r_FutureC0 : List (Nat × Nat) := [(9, 11), (28, 59)]
def r_FutureC1 : List (Nat × Nat) := [(11, 11), (36, 58)]

/-- How many events of a process come before all that an event happened before, and it. -/
noncomputable def fu (t : Tr) (x : Nat × Nat) (q : Nat) : Nat := (List.range (evsOf t q).length).countP fun i => !leB t x (q, i + 1)
theorem fu_iff {t : Tr} {x : Nat × Nat} {q i : Nat} (h : i < (evsOf t q).length) : i < fu t x q ↔ ¬ Le t x (q, i + 1) := by
  have := count_down (P := fun i => !leB t x (q, i + 1)) (n := (evsOf t q).length) (fun i j hi hj hp => by
    simp only [Bool.not_eq_true'] at hp ⊢
    rw [Bool.eq_false_iff] at hp ⊢
    intro h2
    rw [ne_eq, leB_iff] at hp
    rw [leB_iff] at h2
    exact hp (h2.trans (le_row (by omega) (by omega)))) i h
  unfold fu
  rw [← this, Bool.not_eq_true', Bool.eq_false_iff, ne_eq, leB_iff]
theorem fu_le {t : Tr} {x : Nat × Nat} {q : Nat} : fu t x q ≤ (evsOf t q).length := by
  have := List.countP_le_length (p := fun i => !leB t x (q, i + 1)) (l := List.range (evsOf t q).length)
  rwa [List.length_range] at this
noncomputable def fus (t : Tr) (x : Nat × Nat) : List Int := fl t.length fun q => (fu t x q : Int)
theorem chk_one {t : Tr} {x : Int × Int} (h : chkE t [x] = 0) : validL t = true ∧ existsB t x.1 x.2 = true := by
  obtain ⟨h1, h2⟩ := chkE_zero.1 h
  exact ⟨h1, h2 x (by simp)⟩
open Classical in
noncomputable def pastR (t : Tr) (x : Int × Int) : AV := if chkE t [x] = 0 then .tup [.v (.isl 1 ((vcs t (x.1.toNat, x.2.toNat)).map eI)), .v (.int .i64 0)] else .tup [.v .zsl, .v (.int .i64 (chkE t [x]))]
theorem PastC_spec (t : Tr) (hS : Small t) (hN : Nm t) (hC : validL t = true → (ids t).length ≤ 1000000) (x : Int × Int) (b l : List Row) :
    ACalls Try.prog 29 [.agg [.v (eT t)], idP x] b l (fun r b' l' => r = pastR t x ∧ b' = b ∧ l' = l) := by
  refine calls_kept a_PastC_ok rfl (by decide) ?_
  intro B g hB hR hE hA
  simp only [KArgs] at hA
  simp (disch := (first | decide | omega)) only [a_PastC, hA, idP, List.replicate_succ, List.replicate_zero, go_sem]
  refine ACalls.frzB (i := 2) (ver := 0) (sz := 2) (rows := [eIdP x]) (args' := [.agg [.v (eT t)], .v (.isl 2 [eIdP x])]) rfl (by simp [frz, frz0]) ?_
  refine ACalls.nxt (check_spec t hS hN [x] (by simp) _ _) ?_
  by_cases h0 : chkE t [x] = 0
  · obtain ⟨hval, hex⟩ := chk_one h0
    have hv := vok hval
    obtain ⟨p, i, e1, e2, hx⟩ := existsB_in hex
    obtain ⟨x1, x2⟩ := x
    simp only at e1 e2
    subst e1; subst e2
    have hn0 : ((0 : Int) != 0) = false := rfl
    unfold pastR
    rw [h0, if_pos rfl]
    simp (disch := (first | decide | omega)) only [hA, hn0, idP, go_sem]
    refine ACalls.nxt (knows_spec t hv hS _ _) ?_
    simp (disch := (first | decide | omega)) only [hA, kA, knoR, go_sem]
    refine ACalls.nxt (past_run t hv hS (hC hval) (B.length + 3 + 2) (B.length + 3 + 3) (p, i + 1) hx _ _ (by rw [List.getElem?_append_right (by omega), show B.length + 3 + 2 - B.length = 5 by omega]; rfl) (by rw [List.getElem?_append_right (by omega), show B.length + 3 + 3 - B.length = 6 by omega]; rfl)) ?_
    simp (disch := (first | decide | omega)) only [hA, go_sem]
    exact leave_pure (xs := [.v (.isl 1 ((vcs t (p, i + 1)).map eI)), .v (.int .i64 0)]) (.inr rfl) (by simp (disch := (first | decide | omega)) only [resVs, resV, go_sem, hA]) (by simp only [one, AVlt_v, AVlt_any, AVlt_sl, AVlt_ptr, AVlt_mp, AVlt_agg, AVlt_tup, AVlt_fn, RowsLt_nil, RowsLt_live, RowsLt_dead, List.mem_cons, List.not_mem_nil, List.forall_mem_cons, List.forall_mem_nil, or_false, false_or, forall_eq_or_imp, forall_eq, vs_lt, Nat.add_lt_add_iff_left, Nat.reduceLT, true_and, and_true, and_self, List.length_cons, List.length_nil, Nat.reduceAdd, Nat.zero_add, implies_true, false_imp_iff, lt_T, List.mem_map]) hR hB ⟨rfl, rfl, rfl⟩
  · have hn0 : (chkE t [x] != 0) = true := by simpa using h0
    unfold pastR
    rw [if_neg h0]
    simp (disch := (first | decide | omega)) only [hA, hn0, go_sem]
    exact leave_pure (xs := [.v .zsl, .v (.int .i64 (chkE t [x]))]) (.inr rfl) (by simp (disch := (first | decide | omega)) only [resVs, resV, go_sem, hA]) (by simp only [one, AVlt_v, AVlt_any, AVlt_sl, AVlt_ptr, AVlt_mp, AVlt_agg, AVlt_tup, AVlt_fn, RowsLt_nil, RowsLt_live, RowsLt_dead, List.mem_cons, List.not_mem_nil, List.forall_mem_cons, List.forall_mem_nil, or_false, false_or, forall_eq_or_imp, forall_eq, vs_lt, Nat.add_lt_add_iff_left, Nat.reduceLT, true_and, and_true, and_self, List.length_cons, List.length_nil, Nat.reduceAdd, Nat.zero_add, implies_true, false_imp_iff, lt_T, List.mem_map]) hR hB ⟨rfl, rfl, rfl⟩
open Classical in
noncomputable def futR (t : Tr) (x : Int × Int) : AV := if chkE t [x] = 0 then .tup [.v (.isl 1 ((fus t (x.1.toNat, x.2.toNat)).map eI)), .v (.int .i64 0)] else .tup [.v .zsl, .v (.int .i64 (chkE t [x]))]
noncomputable def fuT (t : Tr) (x : Nat × Nat) (p i q : Nat) : Nat := if q < p then fu t x q else if q = p then i else 0
noncomputable def fuL (t : Tr) (x : Nat × Nat) (p i : Nat) : List (List IV) := fl t.length fun q => [.int .i64 (fuT t x p i q)]
theorem fuL_next {t : Tr} {x : Nat × Nat} {q i : Nat} (h : i = fu t x q) : fuL t x q i = fuL t x (q + 1) 0 := by
  unfold fuL
  refine fl_congr (fun j _ => ?_)
  congr 3
  unfold fuT
  by_cases h1 : j < q
  · rw [if_pos h1, if_pos (by omega)]
  · rw [if_neg h1]
    by_cases h2 : j = q
    · subst h2; rw [if_pos rfl, if_pos (by omega), h]
    · rw [if_neg h2, if_neg (by omega)]; split <;> rfl
theorem fuL_set {t : Tr} {x : Nat × Nat} {q i : Nat} : (fuL t x q i).set q [.int .i64 ((i : Int) + 1)] = fuL t x q (i + 1) := by
  unfold fuL
  rw [fl_set]
  refine fl_congr (fun j _ => ?_)
  by_cases h : j = q
  · subst h
    rw [fUp_same]
    unfold fuT; rw [if_neg (by omega), if_pos rfl]; rfl
  · rw [fUp_ne h]
    unfold fuT; rw [if_neg h, if_neg h]
theorem fuL_zero {t : Tr} {x : Nat × Nat} : List.replicate t.length [IV.int .i64 0] = fuL t x 0 0 := by
  unfold fuL
  rw [← fl_const]
  refine fl_congr (fun j _ => ?_)
  unfold fuT; rw [if_neg (by omega)]; split <;> rfl
theorem fuL_all {t : Tr} {x : Nat × Nat} : fuL t x t.length 0 = (fus t x).map eI := by
  unfold fuL fus
  rw [fl_map]
  refine fl_congr (fun j hj => ?_)
  unfold fuT; rw [if_pos hj]; rfl
/-- The rows of the work on the future. -/
def fuRw (t : Tr) (n : Nat) (a c : Int) (r : List (List IV)) : List Row := [.live 0 1 [[.v (.isl 3 (t.map ePr))]], .live 0 2 [[.v (.int .i64 a), .v (.int .i64 c)]], .dead 0, .live 0 1 [[.v (.isl 3 (t.map ePr))]], .live 0 3 [[.v (.isl 3 (t.map ePr)), .mp (n + 3 + 2) 0, .mp (n + 3 + 3) 0]], .live 0 0 (mpL t 2 (ids t)), .live 0 0 (mpL t 3 (ids t)), .live 0 3 [[.v (.isl 3 (t.map ePr)), .mp (n + 3 + 2) 0, .mp (n + 3 + 3) 0]], .live 0 3 [[.v (.isl 3 (t.map ePr)), .mp (n + 3 + 2) 0, .mp (n + 3 + 3) 0]], .live 0 1 (vs r)]
theorem fuRw_lt {t : Tr} {n m : Nat} {a c : Int} {r : List (List IV)} {T : List Row} (h : n + 10 ≤ m) (hT : RowsLt m T) : RowsLt m (fuRw t n a c r ++ T) := by
  intro id ver sz els hr row hrow c' hc
  match id, hr with
  | 0, hr => cases hr; simp at hrow; subst hrow; simp at hc; subst hc; exact .v _
  | 1, hr => cases hr; simp at hrow; subst hrow; simp at hc; rcases hc with rfl | rfl <;> exact .v _
  | 2, hr => cases hr
  | 3, hr => cases hr; simp at hrow; subst hrow; simp at hc; subst hc; exact .v _
  | 4, hr => cases hr; simp at hrow; subst hrow; simp at hc; rcases hc with rfl | rfl | rfl <;> first | exact .v _ | exact .mp _ _ (by omega)
  | 5, hr => cases hr; exact mpL_lt row hrow c' hc
  | 6, hr => cases hr; exact mpL_lt row hrow c' hc
  | 7, hr => cases hr; simp at hrow; subst hrow; simp at hc; rcases hc with rfl | rfl | rfl <;> first | exact .v _ | exact .mp _ _ (by omega)
  | 8, hr => cases hr; simp at hrow; subst hrow; simp at hc; rcases hc with rfl | rfl | rfl <;> first | exact .v _ | exact .mp _ _ (by omega)
  | 9, hr =>
    cases hr
    obtain ⟨r0, _, rfl⟩ := List.mem_map.1 hrow
    obtain ⟨x0, _, rfl⟩ := List.mem_map.1 hc
    exact .v _
  | id + 10, hr => exact hT id ver sz els hr row hrow c' hc
theorem FutureC_spec (t : Tr) (hS : Small t) (hN : Nm t) (hC : validL t = true → (ids t).length ≤ 1000000) (x : Int × Int) (b l : List Row) :
    ACalls Try.prog 31 [.agg [.v (eT t)], idP x] b l (fun r b' l' => r = futR t x ∧ b' = b ∧ l' = l) := by
  refine calls_kept a_FutureC_ok rfl (by decide) ?_
  intro B g hB hR hE hA
  simp only [KArgs] at hA
  simp (disch := (first | decide | omega)) only [a_FutureC, hA, idP, List.replicate_succ, List.replicate_zero, go_sem]
  refine ACalls.frzB (i := 2) (ver := 0) (sz := 2) (rows := [eIdP x]) (args' := [.agg [.v (eT t)], .v (.isl 2 [eIdP x])]) rfl (by simp [frz, frz0]) ?_
  refine ACalls.nxt (check_spec t hS hN [x] (by simp) _ _) ?_
  by_cases h0 : chkE t [x] = 0
  case neg =>
    have hn0 : (chkE t [x] != 0) = true := by simpa using h0
    unfold futR
    rw [if_neg h0]
    simp (disch := (first | decide | omega)) only [hA, hn0, go_sem]
    exact leave_pure (xs := [.v .zsl, .v (.int .i64 (chkE t [x]))]) (.inr rfl) (by simp (disch := (first | decide | omega)) only [resVs, resV, go_sem, hA]) (by simp only [one, AVlt_v, AVlt_any, AVlt_sl, AVlt_ptr, AVlt_mp, AVlt_agg, AVlt_tup, AVlt_fn, RowsLt_nil, RowsLt_live, RowsLt_dead, List.mem_cons, List.not_mem_nil, List.forall_mem_cons, List.forall_mem_nil, or_false, false_or, forall_eq_or_imp, forall_eq, vs_lt, Nat.add_lt_add_iff_left, Nat.reduceLT, true_and, and_true, and_self, List.length_cons, List.length_nil, Nat.reduceAdd, Nat.zero_add, implies_true, false_imp_iff, lt_T, List.mem_map]) hR hB ⟨rfl, rfl, rfl⟩
  obtain ⟨hval, hex⟩ := chk_one h0
  have hv := vok hval
  obtain ⟨p, i, e1, e2, hx⟩ := existsB_in hex
  obtain ⟨x1, x2⟩ := x
  simp only at e1 e2
  subst e1; subst e2
  obtain ⟨hp, hpi⟩ := mem_ids2.1 hx
  have hn0 : ((0 : Int) != 0) = false := rfl
  have h8 := hv.hi
  unfold futR
  rw [h0, if_pos rfl]
  simp (disch := (first | decide | omega)) only [hA, hn0, idP, go_sem]
  refine ACalls.nxt (knows_spec t hv hS _ _) ?_
  simp (disch := (first | decide | omega)) only [hA, kA, knoR, eT, List.length_map, go_sem]
  refine loop_kept (ι := Nat) r_FutureC0 (fun q => [(28, .v (.int .i64 q))]) 10 (fun q => fuRw t B.length p ((i + 1 : Nat) : Int) (fuL t (p, i + 1) q 0))
    (fun q => q ≤ t.length) (fun q => t.length - q) 0 (Nat.zero_le _) (by (repeat (first | exact hE.mono (by omega) | refine KLt.up ?_ (by simp (disch := omega) only [AVlt_v, AVlt_any, AVlt_sl, AVlt_ptr, AVlt_mp, AVlt_agg, AVlt_tup, AVlt_fn, RowsLt_nil, RowsLt_live, RowsLt_dead, List.mem_cons, List.not_mem_nil, List.forall_mem_cons, List.forall_mem_nil, or_false, false_or, forall_eq_or_imp, forall_eq, vs_lt, Nat.add_lt_add_iff_left, Nat.reduceLT, true_and, and_true, and_self, List.length_cons, List.length_nil, Nat.reduceAdd, Nat.zero_add, implies_true, false_imp_iff, lt_T, List.mem_map])))) (by ((try simp (disch := decide) only [hA, go_sem]) <;> (repeat' (first | exact trivial | refine And.intro ?_ ?_)) <;> (first | rfl | (congr 2; omega)))) (fun e => by rw [← fuL_zero]; exact Weak.refl _ _ _) ?_
  intro g1 hE1 hEE1 hg1 q hq
  by_cases hql : q < t.length
  · have hqe := evsOf_lt hql
    have hne := hS.ne _ (List.getElem_mem hql)
    simp (disch := (first | decide | omega)) only [hA, hg1, ePr, fuRw, List.length_map, go_sem]
    refine loop_kept (ι := Nat) r_FutureC1 (fun k => [(36, .v (.int .i64 k))]) 11 (fun k => fuRw t B.length p ((i + 1 : Nat) : Int) (fuL t (p, i + 1) q k) ++ [.live 0 3 [[.v (.str t[q].name), .v (.isl 2 (t[q].vars.map eVr)), .v (.isl 5 (t[q].evs.map eEv))]]])
      (fun k => k ≤ t[q].evs.length ∧ k ≤ fu t (p, i + 1) q) (fun k => t[q].evs.length - k) 0 ⟨Nat.zero_le _, Nat.zero_le _⟩ (by (repeat (first | exact hE1.mono (by omega) | refine KLt.up ?_ (by simp (disch := omega) only [AVlt_v, AVlt_any, AVlt_sl, AVlt_ptr, AVlt_mp, AVlt_agg, AVlt_tup, AVlt_fn, RowsLt_nil, RowsLt_live, RowsLt_dead, List.mem_cons, List.not_mem_nil, List.forall_mem_cons, List.forall_mem_nil, or_false, false_or, forall_eq_or_imp, forall_eq, vs_lt, Nat.add_lt_add_iff_left, Nat.reduceLT, true_and, and_true, and_self, List.length_cons, List.length_nil, Nat.reduceAdd, Nat.zero_add, implies_true, false_imp_iff, lt_T, List.mem_map])))) (by ((try simp (disch := decide) only [hA, hg1, go_sem]) <;> (repeat' (first | exact trivial | refine And.intro ?_ ?_)) <;> (first | rfl | (congr 2; omega)))) (fun e => Weak.refl _ _ _) ?_
    rintro g2 hE2 hEE2 hg2 k ⟨hk, hkf⟩
    by_cases hkl : k < t[q].evs.length
    · have hy : (q, k + 1) ∈ ids t := mem_ids2.2 ⟨hql, by rw [hqe]; exact hkl⟩
      have hfi := fu_iff (t := t) (x := (p, i + 1)) (q := q) (i := k) (by rw [hqe]; exact hkl)
      have hle : Le t (p, i + 1) (q, k + 1) ↔ i + 1 ≤ vc t (q, k + 1) p := vc_iff hpi
      have hpa := fun L h1 h2 => past_run t hv hS (hC hval) (B.length + 3 + 2) (B.length + 3 + 3) (q, k + 1) hy B L h1 h2
      have hck : ((k + 1 : Nat) : Int) = (k : Int) + 1 := by omega
      simp only [idA, kA, eT, hck] at hpa
      have hgt : ((vcs t (q, k + 1)).map eI)[p]? = some [.int .i64 (vc t (q, k + 1) p)] := by
        unfold vcs; rw [List.getElem?_map, fl_get hp]; rfl
      have hget : (vs (fuL t (p, i + 1) q k))[q]? = some [.v (.int .i64 (k : Int))] := by
        unfold vs fuL; rw [List.getElem?_map, fl_get hql]
        unfold fuT; rw [if_neg (by omega), if_pos rfl]; rfl
      simp (disch := (first | decide | omega)) only [hA, hg1, hg2, fuRw, go_sem]
      refine ACalls.nxt (hpa _ (by rw [List.getElem?_append_right (by omega), show B.length + 3 + 2 - B.length = 5 by omega]; rfl) (by rw [List.getElem?_append_right (by omega), show B.length + 3 + 3 - B.length = 6 by omega]; rfl)) ?_
      by_cases hl : i + 1 ≤ vc t (q, k + 1) p
      · have hd : decide ((vc t (q, k + 1) p : Int) ≥ ((i + 1 : Nat) : Int)) = true := decide_eq_true (by omega)
        have hd' : decide (((i + 1 : Nat) : Int) ≤ (vc t (q, k + 1) p : Int)) = true := hd
        have hfe : k = fu t (p, i + 1) q := by
          have : ¬ (k < fu t (p, i + 1) q) := fun h => (hfi.1 h) (hle.2 hl)
          omega
        simp (disch := (first | decide | omega)) only [hA, hg1, hg2, hgt, hd, hd', go_sem]
        refine ⟨q + 1, hql, by simp only; omega, ?_⟩
        rw [fuL_next hfe]
        exact Weak.kround (l1 := fuRw t B.length p ((i + 1 : Nat) : Int) (fuL t (p, i + 1) (q + 1) 0)) (p := r_FutureC0) (k := 10) (by ((repeat refine (kAny_up rfl).trans ?_); refine (kAny_sub hg2 (kIn_sub rfl)).trans ?_; (repeat refine (kAny_up rfl).trans ?_); exact hEE1)) (by ((try simp (disch := decide) only [hA, hg1, go_sem]) <;> (repeat' (first | exact trivial | refine And.intro ?_ ?_)) <;> (first | rfl | (congr 2; omega)))) rfl hE1 (by simp [fuRw]) (by simp (disch := omega) only [KOvLt, AVlt_v, AVlt_any, AVlt_sl, AVlt_ptr, AVlt_mp, AVlt_agg, AVlt_tup, AVlt_fn, RowsLt_nil, RowsLt_live, RowsLt_dead, List.mem_cons, List.not_mem_nil, List.forall_mem_cons, List.forall_mem_nil, or_false, false_or, forall_eq_or_imp, forall_eq, vs_lt, Nat.add_lt_add_iff_left, Nat.reduceLT, true_and, and_true, and_self, List.length_cons, List.length_nil, Nat.reduceAdd, Nat.zero_add, implies_true, false_imp_iff, lt_T, List.mem_map]) hR (fuRw_lt (T := []) (by simp [fuRw]) RowsLt_nil)
      · have hd : decide ((vc t (q, k + 1) p : Int) ≥ ((i + 1 : Nat) : Int)) = false := decide_eq_false (by omega)
        have hd' : decide (((i + 1 : Nat) : Int) ≤ (vc t (q, k + 1) p : Int)) = false := hd
        have hkf2 : k < fu t (p, i + 1) q := hfi.2 (fun h => hl (hle.1 h))
        have hset := fuL_set (t := t) (x := (p, i + 1)) (q := q) (i := k)
        simp (disch := (first | decide | omega)) only [hA, hg1, hg2, hgt, hd, hd', hget, hset, go_sem]
        refine ⟨k + 1, ⟨hkl, hkf2⟩, by simp only; omega, ?_⟩
        exact Weak.kround (junk := []) (p := r_FutureC1) (k := 11) (by ((repeat refine (kAny_up rfl).trans ?_); exact hEE2)) (by ((try simp (disch := decide) only [hA, go_sem]) <;> (repeat' (first | exact trivial | refine And.intro ?_ ?_)) <;> (first | rfl | (congr 2; omega)))) (List.append_nil _).symm hE2 (by simp) (by simp (disch := omega) only [KOvLt, AVlt_v, AVlt_any, AVlt_sl, AVlt_ptr, AVlt_mp, AVlt_agg, AVlt_tup, AVlt_fn, RowsLt_nil, RowsLt_live, RowsLt_dead, List.mem_cons, List.not_mem_nil, List.forall_mem_cons, List.forall_mem_nil, or_false, false_or, forall_eq_or_imp, forall_eq, vs_lt, Nat.add_lt_add_iff_left, Nat.reduceLT, true_and, and_true, and_self, List.length_cons, List.length_nil, Nat.reduceAdd, Nat.zero_add, implies_true, false_imp_iff, lt_T, List.mem_map]) hR (fuRw_lt (T := [_]) (by simp) (by simp only [AVlt_v, AVlt_any, AVlt_sl, AVlt_ptr, AVlt_mp, AVlt_agg, AVlt_tup, AVlt_fn, RowsLt_nil, RowsLt_live, RowsLt_dead, List.mem_cons, List.not_mem_nil, List.forall_mem_cons, List.forall_mem_nil, or_false, false_or, forall_eq_or_imp, forall_eq, vs_lt, Nat.add_lt_add_iff_left, Nat.reduceLT, true_and, and_true, and_self, List.length_cons, List.length_nil, Nat.reduceAdd, Nat.zero_add, implies_true, false_imp_iff, lt_T, List.mem_map]))
    · simp (disch := (first | decide | omega)) only [hA, hg1, hg2, fuRw, go_sem]
      obtain rfl : k = t[q].evs.length := by omega
      have hfe : t[q].evs.length = fu t (p, i + 1) q := by
        have := fu_le (t := t) (x := (p, i + 1)) (q := q)
        rw [hqe] at this
        omega
      refine ⟨q + 1, hql, by simp only; omega, ?_⟩
      rw [fuL_next hfe]
      exact Weak.kround (l1 := fuRw t B.length p ((i + 1 : Nat) : Int) (fuL t (p, i + 1) (q + 1) 0)) (p := r_FutureC0) (k := 10) (by ((repeat refine (kAny_up rfl).trans ?_); refine (kAny_sub hg2 (kIn_sub rfl)).trans ?_; (repeat refine (kAny_up rfl).trans ?_); exact hEE1)) (by ((try simp (disch := decide) only [hA, hg1, go_sem]) <;> (repeat' (first | exact trivial | refine And.intro ?_ ?_)) <;> (first | rfl | (congr 2; omega)))) rfl hE1 (by simp [fuRw]) (by simp (disch := omega) only [KOvLt, AVlt_v, AVlt_any, AVlt_sl, AVlt_ptr, AVlt_mp, AVlt_agg, AVlt_tup, AVlt_fn, RowsLt_nil, RowsLt_live, RowsLt_dead, List.mem_cons, List.not_mem_nil, List.forall_mem_cons, List.forall_mem_nil, or_false, false_or, forall_eq_or_imp, forall_eq, vs_lt, Nat.add_lt_add_iff_left, Nat.reduceLT, true_and, and_true, and_self, List.length_cons, List.length_nil, Nat.reduceAdd, Nat.zero_add, implies_true, false_imp_iff, lt_T, List.mem_map]) hR (fuRw_lt (T := []) (by simp [fuRw]) RowsLt_nil)
  · simp (disch := (first | decide | omega)) only [hA, hg1, fuRw, go_sem]
    obtain rfl : q = t.length := by omega
    rw [fuL_all]
    exact leave_frz2' (i := 9) (ver := 0) (sz := 1) (n := t.length) (rows := (fus t (p, i + 1)).map eI) (z := .int .i64 0) (.inr rfl) (by simp (disch := (first | decide | omega)) only [resVs, resV, hA, hg1, go_sem]) rfl (by simp [fus, fl_len]) hR hB ⟨rfl, rfl, rfl⟩
end Go.Proofs.Ytnnnccibhhnbaaa

namespace Go.Proofs.Ytnnnccibhhnbaaa
set_option linter.unusedVariables false
set_option linter.unusedSimpArgs false
attribute [local go_sem ↓] run_skip run_region run_draw run_seq run_block run_exit run_ret run_cond atN_app seqC_normal seqC_exit seqC_ret seqQ_normal seqQ_exit seqQ_ret blkQ_normal blkQ_exit blkQ_ret runOps_nil runOps_cons runD_nil runD_cons grdO_true grdO_false grdD_true grdD_false ifC_true ifC_false opS_val opS_call opS_two opK_app dS_val dS_call dS_two dK_app kUp_same kUp_ne
attribute [local go_sem] rechks_nil rechks_cons rechk gcase_true gcase_false ex_val ex_val0 gd_none gd_some ev_t ev_c evs_nil evs_cons evo_some evo_none hget_at hget_first hsetB_at hsetB_first hsetL_at hsetL_first ofOpt_some aop aload astore aslice aappend aiaddr aiaddrA afaddr alen alenS acopy amm acall alookup amupdate alenM comma keyEq apick binV binVB binVS isSh intOp strOp boolOp shOp eqC eqF and2 cellsOf setFrom fillA fillS rd rdI elems mk bounds AV.cell List.all_cons List.all_nil Bool.and_true Bool.true_and Bool.and_self List.length_cons List.length_nil List.length_append Nat.reduceAdd Nat.reduceSub Nat.reduceMul Nat.zero_add Nat.add_zero List.cons_append List.nil_append List.append_assoc List.append_nil List.getElem?_cons_zero List.getElem?_cons_succ List.getElem?_nil List.set_cons_zero List.set_cons_succ List.drop_zero List.drop_succ_cons List.take_zero List.take_succ_cons List.take_nil List.drop_nil List.map_cons List.map_nil Option.map_some if_true if_false Bool.false_eq_true and_self true_and and_true Nat.reduceLeDiff Nat.reduceLT Nat.le_refl Nat.reduceEqDiff ite_true ite_false beq_self_eq_true beq_true beq_false Bool.not_true Bool.not_false Bool.true_beq Bool.false_beq map_vs vs_len vs_get vs_take vs_drop vs_snoc1 vs_snoc2 vs_snoc3 vs_snoc5 vs_set1 vs_set2 vs_rep wrap_id le_T lt_T le_F lt_F leI_T ltI_T leI_F ltI_F geI gtI get_T decide_true decide_false room List.getElem?_map List.length_map List.length_take Int.toNat_natCast Nat.min_def Nat.min_self nth_kOf put_kOf put_kNo kOv_cons kOv_nil KHas KArgs List.getElem_cons_zero List.getElem_cons_succ
def a_knext : AFunc := ⟨2, 60, [.tmp 4],
  (.seq (.region [⟨(some 2), .box (.t 0), none⟩, ⟨(some 3), .box (.t 1), none⟩, ⟨(some 4), .mv (.c (.v .zsl)), none⟩])
  (.seq (.region [⟨(some 5), .mv (.c (.v .zsl)), none⟩])
  (.seq (.seq (.draw [⟨0, ⟨(some 9), .faddr 1 (.t 3), none⟩, []⟩, ⟨1, ⟨(some 10), .load none (.t 9), none⟩, []⟩, ⟨2, ⟨(some 11), .faddr 0 (.t 2), none⟩, []⟩, ⟨3, ⟨(some 12), .faddr 0 (.t 11), none⟩, []⟩, ⟨4, ⟨(some 13), .load none (.t 12), none⟩, []⟩, ⟨5, ⟨(some 14), .faddr 0 (.t 3), none⟩, []⟩, ⟨6, ⟨(some 15), .load none (.t 14), none⟩, []⟩, ⟨7, ⟨(some 16), .iaddr 3 (.t 13) (.t 15), none⟩, []⟩, ⟨8, ⟨(some 17), .faddr 2 (.t 16), none⟩, []⟩, ⟨9, ⟨(some 18), .load none (.t 17), none⟩, []⟩, ⟨10, ⟨(some 19), .len (.t 18), none⟩, []⟩, ⟨11, ⟨(some 20), .bin .lss (.t 10) (.t 19), none⟩, []⟩])
  (.cond (.t 20) (.region [⟨(some 21), .mv (.t 5), none⟩, ⟨(some 22), .faddr 0 (.t 3), none⟩, ⟨(some 23), .load none (.t 22), none⟩, ⟨(some 24), .faddr 1 (.t 3), none⟩, ⟨(some 25), .load none (.t 24), none⟩, ⟨(some 26), .bin .add (.t 25) (.c (.v (.int .i64 1))), none⟩, ⟨(some 27), .build [(.v (.int .i64 0)), (.v (.int .i64 0))] [(0, 1, (.t 23)), (1, 1, (.t 26))], none⟩, ⟨(some 28), .bslice 2 [(.v (.int .i64 0)), (.v (.int .i64 0))] 1 [(0, (.t 27))], none⟩, ⟨(some 29), .append 2 16 (.t 21) (.t 28), none⟩, ⟨(some 5), .mv (.t 29), none⟩])
  .skip))
  (.seq (.region [⟨(some 30), .load (some 3) (.t 2), none⟩, ⟨(some 31), .load (some 2) (.t 3), none⟩, ⟨(some 32), .call (.c (.fn 133 [])) [(.t 30), (.t 31)], none⟩, ⟨(some 6), .alloc [(.v (.int .i64 0)), (.v (.int .i64 0)), (.v (.int .i64 0)), (.v (.int .i64 0)), (.v .zsl)], none⟩, ⟨none, .store 5 (.t 6) (.t 32), none⟩])
  (.seq (.seq (.region [⟨(some 33), .faddr 0 (.t 6), none⟩, ⟨(some 34), .load none (.t 33), none⟩, ⟨(some 35), .bin .neq (.t 34) (.c (.v (.int .i64 2))), none⟩])
  (.cond (.t 35) (.seq (.region [⟨(some 36), .mv (.t 5), none⟩, ⟨(some 4), .mv (.t 36), none⟩])
  .ret)
  .skip))
  (.seq (.seq (.region [⟨(some 38), .faddr 2 (.t 2), none⟩, ⟨(some 39), .load none (.t 38), none⟩, ⟨(some 40), .faddr 2 (.t 6), none⟩, ⟨(some 41), .load none (.t 40), none⟩, ⟨(some 42), .lookup (.one .i) (.agg [(.v (.int .i64 0)), (.v (.int .i64 0))]) true (.t 39) (.t 41), none⟩, ⟨(some 37), .mv (.t 42), none⟩, ⟨(some 43), .extract 0 (.t 37), none⟩, ⟨(some 44), .extract 1 (.t 37), none⟩, ⟨(some 7), .alloc [(.v (.int .i64 0)), (.v (.int .i64 0))], none⟩, ⟨none, .store 2 (.t 7) (.t 43), none⟩, ⟨(some 8), .mv (.t 44), none⟩])
  (.seq (.region [⟨(some 45), .mv (.t 8), none⟩])
  (.cond (.t 45) (.seq (.seq (.region [⟨(some 46), .faddr 0 (.t 7), none⟩, ⟨(some 47), .load none (.t 46), none⟩, ⟨(some 48), .faddr 0 (.t 3), none⟩, ⟨(some 49), .load none (.t 48), none⟩, ⟨(some 50), .bin .lss (.t 47) (.t 49), none⟩])
  (.cond (.t 50) (.seq (.region [⟨(some 51), .load (some 2) (.t 7), none⟩, ⟨(some 52), .bslice 2 [(.v (.int .i64 0)), (.v (.int .i64 0))] 1 [(0, (.t 51))], none⟩, ⟨(some 53), .mv (.t 5), none⟩, ⟨(some 54), .append 2 16 (.t 52) (.t 53), none⟩, ⟨(some 4), .mv (.t 54), none⟩])
  .ret)
  .skip))
  (.region [⟨(some 55), .mv (.t 5), none⟩, ⟨(some 56), .load (some 2) (.t 7), none⟩, ⟨(some 57), .bslice 2 [(.v (.int .i64 0)), (.v (.int .i64 0))] 1 [(0, (.t 56))], none⟩, ⟨(some 58), .append 2 16 (.t 55) (.t 57), none⟩, ⟨(some 5), .mv (.t 58), none⟩]))
  .skip)))
  (.seq (.region [⟨(some 59), .mv (.t 5), none⟩, ⟨(some 4), .mv (.t 59), none⟩])
  .ret)))))))⟩
theorem a_knext_ok : cFunc Try.prog 85 = some a_knext := by kernel_rfl
def a_ConcC : AFunc := ⟨3, 37, [.tmp 6, .tmp 7],
  (.seq (.region [⟨(some 3), .box (.t 0), none⟩, ⟨(some 4), .box (.t 1), none⟩, ⟨(some 5), .box (.t 2), none⟩, ⟨(some 6), .mv (.c (.v (.bool false))), none⟩, ⟨(some 7), .mv (.c (.v (.int .i64 0))), none⟩])
  (.seq (.seq (.region [⟨(some 10), .load (some 1) (.t 3), none⟩, ⟨(some 11), .load (some 2) (.t 4), none⟩, ⟨(some 12), .load (some 2) (.t 5), none⟩, ⟨(some 13), .bslice 2 [(.v (.int .i64 0)), (.v (.int .i64 0))] 2 [(0, (.t 11)), (1, (.t 12))], none⟩, ⟨(some 14), .call (.c (.fn 74 [])) [(.t 10), (.t 13)], none⟩, ⟨(some 8), .mv (.t 14), none⟩])
  (.seq (.region [⟨(some 15), .mv (.t 8), none⟩, ⟨(some 16), .bin .neq (.t 15) (.c (.v (.int .i64 0))), none⟩])
  (.cond (.t 16) (.seq (.region [⟨(some 17), .mv (.t 8), none⟩, ⟨(some 6), .mv (.c (.v (.bool false))), none⟩, ⟨(some 7), .mv (.t 17), none⟩])
  .ret)
  .skip)))
  (.seq (.region [⟨(some 18), .load (some 1) (.t 3), none⟩, ⟨(some 19), .call (.c (.fn 75 [])) [(.t 18)], none⟩, ⟨(some 9), .alloc [(.v .zsl), (.v .nilm), (.v .nilm)], none⟩, ⟨none, .store 3 (.t 9) (.t 19), none⟩])
  (.seq (.region [⟨(some 20), .load (some 2) (.t 4), none⟩, ⟨(some 21), .load (some 2) (.t 5), none⟩, ⟨(some 22), .eqs true [.i, .i] (.t 20) (.t 21), none⟩, ⟨(some 23), .mv (.t 22), none⟩, ⟨(some 24), .load (some 3) (.t 9), some (23, true)⟩, ⟨(some 25), .load (some 2) (.t 4), some (23, true)⟩, ⟨(some 26), .load (some 2) (.t 5), some (23, true)⟩, ⟨(some 27), .call (.c (.fn 83 [])) [(.t 24), (.t 25), (.t 26)], some (23, true)⟩, ⟨(some 28), .not (.t 27), some (23, true)⟩, ⟨(some 29), .pick (.t 23) (.t 28) (.c (.v (.bool false))), none⟩, ⟨(some 30), .mv (.t 29), none⟩, ⟨(some 31), .load (some 3) (.t 9), some (30, true)⟩, ⟨(some 32), .load (some 2) (.t 5), some (30, true)⟩, ⟨(some 33), .load (some 2) (.t 4), some (30, true)⟩, ⟨(some 34), .call (.c (.fn 83 [])) [(.t 31), (.t 32), (.t 33)], some (30, true)⟩, ⟨(some 35), .not (.t 34), some (30, true)⟩, ⟨(some 36), .pick (.t 30) (.t 35) (.c (.v (.bool false))), none⟩, ⟨(some 6), .mv (.t 36), none⟩, ⟨(some 7), .mv (.c (.v (.int .i64 0))), none⟩])
  .ret))))⟩
theorem a_ConcC_ok : cFunc Try.prog 27 = some a_ConcC := by kernel_rfl
def a_Path1 : AFunc := ⟨2, 12, [.tmp 3],
  (.seq (.region [⟨(some 2), .box (.t 0), none⟩, ⟨(some 3), .mv (.c (.v (.bool false))), none⟩])
  (.seq (.draw [⟨0, ⟨(some 4), .load none (.t 1), none⟩, []⟩, ⟨1, ⟨(some 5), .faddr 0 (.t 2), none⟩, []⟩, ⟨2, ⟨(some 6), .load none (.t 5), none⟩, []⟩, ⟨3, ⟨(some 7), .iaddr 1 (.t 4) (.t 6), none⟩, []⟩, ⟨4, ⟨(some 8), .load none (.t 7), none⟩, []⟩, ⟨5, ⟨(some 9), .faddr 1 (.t 2), none⟩, []⟩, ⟨6, ⟨(some 10), .load none (.t 9), none⟩, []⟩, ⟨7, ⟨(some 11), .bin .geq (.t 8) (.t 10), none⟩, []⟩, ⟨8, ⟨(some 3), .mv (.t 11), none⟩, []⟩])
  .ret))⟩
theorem a_Path1_ok : cFunc Try.prog 84 = some a_Path1 := by kernel_rfl

theorem knext_run (t : Tr) (hv : Vok t) (hS : Small t) (s r : Nat) (x : Nat × Nat) (hx : x ∈ ids t) (b l : List Row) (hr : (b ++ l)[r]? = some (.live 0 0 (mpL t 3 (ids t)))) :
    ACalls Try.prog 85 [kA t s r, idA x] b l (fun r b' l' => (r = .v (.isl 2 ((nextL t x).map eId)) ∨ (nextL t x = [] ∧ r = .v .zsl)) ∧ b' = b ∧ l' = l) := by
  refine calls_kept a_knext_ok rfl (by decide) ?_
  intro B g hB hR hE hA
  simp only [KArgs] at hA
  rw [← hB] at hr
  have hgr := hget_low hr
  obtain ⟨p, i⟩ := x
  obtain ⟨i, rfl⟩ : ∃ k, i = k + 1 := ⟨i - 1, by have := mem_pos hx; simp only at this; omega⟩
  obtain ⟨hp, hi⟩ := mem_ids2.1 hx
  have heo := evsOf_lt hp
  rw [heo] at hi
  have hev := evAt_eq hp hi
  have hne := hS.ne _ (List.getElem_mem hp)
  have ev := kevent_spec t hS s r (p, i + 1) hx
  rw [hev] at ev
  have hck : ((i + 1 : Nat) : Int) + 1 = ((i + 2 : Nat) : Int) := by omega
  have hrc : ∀ o, (t[p].evs[i].kind = 2 → findL t 3 t[p].evs[i].msg = o) → t[p].evs[i].kind = 2 → rcvO t (p, i + 1) = o := by
    intro o ho hk
    unfold rcvO; rw [hev, if_pos hk]; exact ho hk
  by_cases h0 : i + 1 < t[p].evs.length
  · have hd : decide (((i + 1 : Nat) : Int) < (t[p].evs.length : Int)) = true := decide_eq_true (by omega)
    have hrow : rowN t (p, i + 1) = [(p, i + 2)] := by unfold rowN; simp only; rw [heo, if_pos h0]
    simp (disch := (first | decide | omega)) only [a_knext, kA, idA, eT, hA, ePr, hd, List.length_map, List.replicate_succ, List.replicate_zero, reduceCtorEq, hck, go_sem]
    refine ACalls.nxt (ev _ _) ?_
    by_cases hk : t[p].evs[i].kind = 2
    · have hkb : (t[p].evs[i].kind != 2) = false := by rw [hk]; rfl
      have hfm : findM (.one .i) (.v (.int .i64 t[p].evs[i].msg)) (mpL t 3 (ids t)) = some ((findL t 3 t[p].evs[i].msg).map idA) := by rw [findM_mp]; rfl
      cases hf : findL t 3 t[p].evs[i].msg with
      | none =>
        rw [hf] at hfm
        have hn : nextL t (p, i + 1) = [(p, i + 2)] := by unfold nextL; rw [hrc none (fun _ => hf) hk]; exact hrow
        simp only [Option.map_none] at hfm
        simp (disch := (first | decide | omega)) only [hA, eEv, hkb, hgr, hfm, List.replicate_succ, List.replicate_zero, reduceCtorEq, go_sem]
        exact leave_frz (i := 3) (ver := 0) (sz := 2) (n := 1) (rows := [eId (p, i + 2)]) (.inr rfl) (by simp (disch := (first | decide | omega)) only [resVs, resV, hA, go_sem]) rfl rfl hR hB ⟨.inl (by rw [hn]; rfl), rfl, rfl⟩
      | some z =>
        obtain ⟨zp, zi⟩ := z
        rw [hf] at hfm
        simp only [Option.map_some, idA] at hfm
        by_cases hz : zp < p
        · have hn : nextL t (p, i + 1) = [(zp, zi), (p, i + 2)] := by unfold nextL; rw [hrc _ (fun _ => hf) hk]; simp only; rw [if_pos hz, hrow]
          have hzd : decide ((zp : Int) < (p : Int)) = true := decide_eq_true (by omega)
          simp (disch := (first | decide | omega)) only [hA, eEv, hkb, hgr, hfm, hzd, List.replicate_succ, List.replicate_zero, reduceCtorEq, go_sem]
          exact leave_frz (i := 6) (ver := 1) (sz := 2) (n := 2) (rows := [eId (zp, zi), eId (p, i + 2)]) (.inr rfl) (by simp (disch := (first | decide | omega)) only [resVs, resV, hA, go_sem]) rfl rfl hR hB ⟨.inl (by rw [hn]; rfl), rfl, rfl⟩
        · have hn : nextL t (p, i + 1) = [(p, i + 2), (zp, zi)] := by unfold nextL; rw [hrc _ (fun _ => hf) hk]; simp only; rw [if_neg hz, hrow]; rfl
          have hzd : decide ((zp : Int) < (p : Int)) = false := decide_eq_false (by omega)
          simp (disch := (first | decide | omega)) only [hA, eEv, hkb, hgr, hfm, hzd, List.replicate_succ, List.replicate_zero, reduceCtorEq, go_sem]
          exact leave_frz (i := 3) (ver := 1) (sz := 2) (n := 2) (rows := [eId (p, i + 2), eId (zp, zi)]) (.inr rfl) (by simp (disch := (first | decide | omega)) only [resVs, resV, hA, go_sem]) rfl rfl hR hB ⟨.inl (by rw [hn]; rfl), rfl, rfl⟩
    · have hkb : (t[p].evs[i].kind != 2) = true := by rw [bne_iff_ne]; exact hk
      have hn : nextL t (p, i + 1) = [(p, i + 2)] := by unfold nextL rcvO; rw [hev, if_neg hk]; exact hrow
      simp (disch := (first | decide | omega)) only [hA, eEv, hkb, go_sem]
      exact leave_frz (i := 3) (ver := 0) (sz := 2) (n := 1) (rows := [eId (p, i + 2)]) (.inr rfl) (by simp (disch := (first | decide | omega)) only [resVs, resV, hA, go_sem]) rfl rfl hR hB ⟨.inl (by rw [hn]; rfl), rfl, rfl⟩
  · have hd : decide (((i + 1 : Nat) : Int) < (t[p].evs.length : Int)) = false := decide_eq_false (by omega)
    have hrow : rowN t (p, i + 1) = [] := by unfold rowN; simp only; rw [heo, if_neg h0]
    simp (disch := (first | decide | omega)) only [a_knext, kA, idA, eT, hA, ePr, hd, List.length_map, List.replicate_succ, List.replicate_zero, reduceCtorEq, hck, go_sem]
    refine ACalls.nxt (ev _ _) ?_
    by_cases hk : t[p].evs[i].kind = 2
    · have hkb : (t[p].evs[i].kind != 2) = false := by rw [hk]; rfl
      have hfm : findM (.one .i) (.v (.int .i64 t[p].evs[i].msg)) (mpL t 3 (ids t)) = some ((findL t 3 t[p].evs[i].msg).map idA) := by rw [findM_mp]; rfl
      cases hf : findL t 3 t[p].evs[i].msg with
      | none =>
        rw [hf] at hfm
        have hn : nextL t (p, i + 1) = [] := by unfold nextL; rw [hrc none (fun _ => hf) hk]; exact hrow
        simp only [Option.map_none] at hfm
        simp (disch := (first | decide | omega)) only [hA, eEv, hkb, hgr, hfm, List.replicate_succ, List.replicate_zero, reduceCtorEq, go_sem]
        exact leave_pure (xs := [.v .zsl]) (.inr rfl) (by simp (disch := (first | decide | omega)) only [resVs, resV, go_sem, hA]) (by simp only [one, AVlt_v, AVlt_any, AVlt_sl, AVlt_ptr, AVlt_mp, AVlt_agg, AVlt_tup, AVlt_fn, RowsLt_nil, RowsLt_live, RowsLt_dead, List.mem_cons, List.not_mem_nil, List.forall_mem_cons, List.forall_mem_nil, or_false, false_or, forall_eq_or_imp, forall_eq, vs_lt, Nat.add_lt_add_iff_left, Nat.reduceLT, true_and, and_true, and_self, List.length_cons, List.length_nil, Nat.reduceAdd, Nat.zero_add, implies_true, false_imp_iff, lt_T, List.mem_map]) hR hB ⟨.inr ⟨hn, rfl⟩, rfl, rfl⟩
      | some z =>
        obtain ⟨zp, zi⟩ := z
        rw [hf] at hfm
        simp only [Option.map_some, idA] at hfm
        have hn : nextL t (p, i + 1) = [(zp, zi)] := by unfold nextL; rw [hrc _ (fun _ => hf) hk]; simp only; rw [hrow]; split <;> rfl
        by_cases hz : zp < p
        · have hzd : decide ((zp : Int) < (p : Int)) = true := decide_eq_true (by omega)
          simp (disch := (first | decide | omega)) only [hA, eEv, hkb, hgr, hfm, hzd, List.replicate_succ, List.replicate_zero, reduceCtorEq, go_sem]
          exact leave_frz (i := 4) (ver := 1) (sz := 2) (n := 1) (rows := [eId (zp, zi)]) (.inr rfl) (by simp (disch := (first | decide | omega)) only [resVs, resV, hA, go_sem]) rfl rfl hR hB ⟨.inl (by rw [hn]; rfl), rfl, rfl⟩
        · have hzd : decide ((zp : Int) < (p : Int)) = false := decide_eq_false (by omega)
          simp (disch := (first | decide | omega)) only [hA, eEv, hkb, hgr, hfm, hzd, List.replicate_succ, List.replicate_zero, reduceCtorEq, go_sem]
          exact leave_frz (i := 5) (ver := 0) (sz := 2) (n := 1) (rows := [eId (zp, zi)]) (.inr rfl) (by simp (disch := (first | decide | omega)) only [resVs, resV, hA, go_sem]) rfl rfl hR hB ⟨.inl (by rw [hn]; rfl), rfl, rfl⟩
    · have hkb : (t[p].evs[i].kind != 2) = true := by rw [bne_iff_ne]; exact hk
      have hn : nextL t (p, i + 1) = [] := by unfold nextL rcvO; rw [hev, if_neg hk]; exact hrow
      simp (disch := (first | decide | omega)) only [hA, eEv, hkb, go_sem]
      exact leave_pure (xs := [.v .zsl]) (.inr rfl) (by simp (disch := (first | decide | omega)) only [resVs, resV, go_sem, hA]) (by simp only [one, AVlt_v, AVlt_any, AVlt_sl, AVlt_ptr, AVlt_mp, AVlt_agg, AVlt_tup, AVlt_fn, RowsLt_nil, RowsLt_live, RowsLt_dead, List.mem_cons, List.not_mem_nil, List.forall_mem_cons, List.forall_mem_nil, or_false, false_or, forall_eq_or_imp, forall_eq, vs_lt, Nat.add_lt_add_iff_left, Nat.reduceLT, true_and, and_true, and_self, List.length_cons, List.length_nil, Nat.reduceAdd, Nat.zero_add, implies_true, false_imp_iff, lt_T, List.mem_map]) hR hB ⟨.inr ⟨hn, rfl⟩, rfl, rfl⟩
theorem knext_spec (t : Tr) (hv : Vok t) (hS : Small t) (s r : Nat) (x : Nat × Nat) (hx : x ∈ ids t) (b l : List Row) (hr : (b ++ l)[r]? = some (.live 0 0 (mpL t 3 (ids t)))) :
    ACalls Try.prog 85 [kA t s r, idA x] b l (fun r b' l' => r = .v (.isl 2 ((nextL t x).map eId)) ∧ b' = b ∧ l' = l) := by
  refine ACalls.wk (knext_run t hv hS s r x hx b l hr) ?_
  rintro y b' l' ⟨hres, rfl, rfl⟩
  refine ⟨.v (.isl 2 ((nextL t x).map eId)), fun w F L v h => ?_, rfl, rfl, rfl⟩
  rcases hres with rfl | ⟨he, rfl⟩
  · exact h
  · rw [he]; exact zw1_rep (sz := 2) h
noncomputable def concB2 (t : Tr) (x y : Nat × Nat) : Bool := !(decide (x = y)) && (!befB t x y && !befB t y x)
noncomputable def conR (t : Tr) (x y : Int × Int) : AV := .tup [.v (.bool (decide (chkE t [x, y] = 0) && concB2 t (x.1.toNat, x.2.toNat) (y.1.toNat, y.2.toNat))), .v (.int .i64 (chkE t [x, y]))]
theorem ConcC_spec (t : Tr) (hS : Small t) (hN : Nm t) (hC : validL t = true → (ids t).length ≤ 1000000) (x y : Int × Int) (b l : List Row) :
    ACalls Try.prog 27 [.agg [.v (eT t)], idP x, idP y] b l (fun r b' l' => r = conR t x y ∧ b' = b ∧ l' = l) := by
  refine calls_kept a_ConcC_ok rfl (by decide) ?_
  intro B g hB hR hE hA
  simp only [KArgs] at hA
  simp (disch := (first | decide | omega)) only [a_ConcC, hA, idP, List.replicate_succ, List.replicate_zero, go_sem]
  refine ACalls.frzB (i := 3) (ver := 0) (sz := 2) (rows := [eIdP x, eIdP y]) (args' := [.agg [.v (eT t)], .v (.isl 2 [eIdP x, eIdP y])]) rfl (by simp [frz, frz0]) ?_
  refine ACalls.nxt (check_spec t hS hN [x, y] (by simp) _ _) ?_
  by_cases h0 : chkE t [x, y] = 0
  · obtain ⟨hval, hall⟩ := chkE_zero.1 h0
    have hv := vok hval
    obtain ⟨p, i, e1, e2, hx⟩ := existsB_in (hall x (by simp))
    obtain ⟨q, j, e3, e4, hy⟩ := existsB_in (hall y (by simp))
    obtain ⟨x1, x2⟩ := x
    obtain ⟨y1, y2⟩ := y
    simp only at e1 e2 e3 e4
    subst e1; subst e2; subst e3; subst e4
    have hn0 : ((0 : Int) != 0) = false := rfl
    unfold conR
    rw [h0]
    simp (disch := (first | decide | omega)) only [hA, hn0, idP, go_sem]
    refine ACalls.nxt (knows_spec t hv hS _ _) ?_
    have hb := fun b l s r => before_spec t hv hS (hC hval) s r _ _ hx hy b l
    have hb2 := fun b l s r => before_spec t hv hS (hC hval) s r _ _ hy hx b l
    simp only [idA] at hb hb2
    have heq : (((p : Int) == (q : Int)) && (((i + 1 : Nat) : Int) == ((j + 1 : Nat) : Int))) = decide ((p, i + 1) = (q, j + 1)) := by
      rw [Bool.eq_iff_iff]; simp; omega
    by_cases he : (p, i + 1) = (q, j + 1)
    · rw [decide_eq_true he] at heq
      have hc : concB2 t (p, i + 1) (q, j + 1) = false := by unfold concB2; rw [decide_eq_true he]; rfl
      simp (disch := (first | decide | omega)) only [hA, kA, knoR, heq, go_sem]
      exact leave_pure (xs := [.v (.bool false), .v (.int .i64 0)]) (.inr rfl) (by simp (disch := (first | decide | omega)) only [resVs, resV, go_sem, hA]) (by simp only [one, AVlt_v, AVlt_any, AVlt_sl, AVlt_ptr, AVlt_mp, AVlt_agg, AVlt_tup, AVlt_fn, RowsLt_nil, RowsLt_live, RowsLt_dead, List.mem_cons, List.not_mem_nil, List.forall_mem_cons, List.forall_mem_nil, or_false, false_or, forall_eq_or_imp, forall_eq, vs_lt, Nat.add_lt_add_iff_left, Nat.reduceLT, true_and, and_true, and_self, List.length_cons, List.length_nil, Nat.reduceAdd, Nat.zero_add, implies_true, false_imp_iff, lt_T, List.mem_map]) hR hB ⟨by simp [hc, one], rfl, rfl⟩
    · rw [decide_eq_false he] at heq
      simp (disch := (first | decide | omega)) only [hA, kA, knoR, heq, go_sem]
      refine ACalls.nxt (hb _ _ _ _ (by rw [List.getElem?_append_right (by omega), show B.length + 4 + 2 - B.length = 6 by omega]; rfl) (by rw [List.getElem?_append_right (by omega), show B.length + 4 + 3 - B.length = 7 by omega]; rfl)) ?_
      cases h1 : befB t (p, i + 1) (q, j + 1) with
      | true =>
        have hc : concB2 t (p, i + 1) (q, j + 1) = false := by unfold concB2; rw [h1]; simp
        simp (disch := (first | decide | omega)) only [hA, kA, knoR, heq, go_sem]
        exact leave_pure (xs := [.v (.bool false), .v (.int .i64 0)]) (.inr rfl) (by simp (disch := (first | decide | omega)) only [resVs, resV, go_sem, hA]) (by simp only [one, AVlt_v, AVlt_any, AVlt_sl, AVlt_ptr, AVlt_mp, AVlt_agg, AVlt_tup, AVlt_fn, RowsLt_nil, RowsLt_live, RowsLt_dead, List.mem_cons, List.not_mem_nil, List.forall_mem_cons, List.forall_mem_nil, or_false, false_or, forall_eq_or_imp, forall_eq, vs_lt, Nat.add_lt_add_iff_left, Nat.reduceLT, true_and, and_true, and_self, List.length_cons, List.length_nil, Nat.reduceAdd, Nat.zero_add, implies_true, false_imp_iff, lt_T, List.mem_map]) hR hB ⟨by simp [hc, one], rfl, rfl⟩
      | false =>
        have hc : concB2 t (p, i + 1) (q, j + 1) = !befB t (q, j + 1) (p, i + 1) := by unfold concB2; rw [h1, decide_eq_false he]; simp
        simp (disch := (first | decide | omega)) only [hA, kA, knoR, heq, go_sem]
        refine ACalls.nxt (hb2 _ _ _ _ (by rw [List.getElem?_append_right (by omega), show B.length + 4 + 2 - B.length = 6 by omega]; rfl) (by rw [List.getElem?_append_right (by omega), show B.length + 4 + 3 - B.length = 7 by omega]; rfl)) ?_
        simp (disch := (first | decide | omega)) only [hA, go_sem]
        exact leave_pure (xs := [.v (.bool (!befB t (q, j + 1) (p, i + 1))), .v (.int .i64 0)]) (.inr rfl) (by simp (disch := (first | decide | omega)) only [resVs, resV, go_sem, hA]) (by simp only [one, AVlt_v, AVlt_any, AVlt_sl, AVlt_ptr, AVlt_mp, AVlt_agg, AVlt_tup, AVlt_fn, RowsLt_nil, RowsLt_live, RowsLt_dead, List.mem_cons, List.not_mem_nil, List.forall_mem_cons, List.forall_mem_nil, or_false, false_or, forall_eq_or_imp, forall_eq, vs_lt, Nat.add_lt_add_iff_left, Nat.reduceLT, true_and, and_true, and_self, List.length_cons, List.length_nil, Nat.reduceAdd, Nat.zero_add, implies_true, false_imp_iff, lt_T, List.mem_map]) hR hB ⟨by simp [hc, one], rfl, rfl⟩
  · have hn0 : (chkE t [x, y] != 0) = true := by simpa using h0
    simp (disch := (first | decide | omega)) only [hA, hn0, go_sem]
    exact leave_pure (xs := [.v (.bool false), .v (.int .i64 (chkE t [x, y]))]) (.inr rfl) (by simp (disch := (first | decide | omega)) only [resVs, resV, go_sem, hA]) (by simp only [one, AVlt_v, AVlt_any, AVlt_sl, AVlt_ptr, AVlt_mp, AVlt_agg, AVlt_tup, AVlt_fn, RowsLt_nil, RowsLt_live, RowsLt_dead, List.mem_cons, List.not_mem_nil, List.forall_mem_cons, List.forall_mem_nil, or_false, false_or, forall_eq_or_imp, forall_eq, vs_lt, Nat.add_lt_add_iff_left, Nat.reduceLT, true_and, and_true, and_self, List.length_cons, List.length_nil, Nat.reduceAdd, Nat.zero_add, implies_true, false_imp_iff, lt_T, List.mem_map]) hR hB ⟨by unfold conR; rw [decide_eq_false h0]; rfl, rfl, rfl⟩
theorem path1_spec (t : Tr) (y z : Nat × Nat) (hz : z ∈ ids t) (n : Nat) (b l : List Row) (hn : (b ++ l)[n]? = some (.live 0 1 [[.v (.isl 1 ((vcs t y).map eI))]])) :
    ACalls Try.prog 84 [idA z, .ptr n 0 0 0] b l (fun r b' l' => r = .v (.bool (leadB t y z)) ∧ b' = b ∧ l' = l) := by
  refine calls_kept a_Path1_ok rfl (by decide) ?_
  intro B g hB hR hE hA
  simp only [KArgs] at hA
  rw [← hB] at hn
  have hg := hget_low hn
  obtain ⟨p, i⟩ := z
  have hp := (mem_ids.1 hz).1
  simp only at hp
  have hgt : ((vcs t y).map eI)[p]? = some [.int .i64 (vc t y p)] := by
    unfold vcs; rw [List.getElem?_map, fl_get hp]; rfl
  have hl : leadB t y (p, i) = decide ((vc t y p : Int) ≥ (i : Int)) := by unfold leadB; simp only [decide_eq_decide]; omega
  rw [hl]
  simp (disch := (first | decide | omega)) only [a_Path1, hA, idA, hg, hgt, go_sem]
  exact leave_pure (xs := [.v (.bool (decide ((vc t y p : Int) ≥ (i : Int))))]) (.inr rfl) (by simp (disch := (first | decide | omega)) only [resVs, resV, go_sem, hA]) (by simp only [one, AVlt_v, AVlt_any, AVlt_sl, AVlt_ptr, AVlt_mp, AVlt_agg, AVlt_tup, AVlt_fn, RowsLt_nil, RowsLt_live, RowsLt_dead, List.mem_cons, List.not_mem_nil, List.forall_mem_cons, List.forall_mem_nil, or_false, false_or, forall_eq_or_imp, forall_eq, vs_lt, Nat.add_lt_add_iff_left, Nat.reduceLT, true_and, and_true, and_self, List.length_cons, List.length_nil, Nat.reduceAdd, Nat.zero_add, implies_true, false_imp_iff, lt_T, List.mem_map]) hR hB ⟨rfl, rfl, rfl⟩
end Go.Proofs.Ytnnnccibhhnbaaa

namespace Go.Proofs.Ytnnnccibhhnbaaa
set_option linter.unusedVariables false
set_option linter.unusedSimpArgs false
attribute [local go_sem ↓] run_skip run_region run_draw run_seq run_block run_exit run_ret run_cond atN_app seqC_normal seqC_exit seqC_ret seqQ_normal seqQ_exit seqQ_ret blkQ_normal blkQ_exit blkQ_ret runOps_nil runOps_cons runD_nil runD_cons grdO_true grdO_false grdD_true grdD_false ifC_true ifC_false opS_val opS_call opS_two opK_app dS_val dS_call dS_two dK_app kUp_same kUp_ne
attribute [local go_sem] rechks_nil rechks_cons rechk gcase_true gcase_false ex_val ex_val0 gd_none gd_some ev_t ev_c evs_nil evs_cons evo_some evo_none hget_at hget_first hsetB_at hsetB_first hsetL_at hsetL_first ofOpt_some aop aload astore aslice aappend aiaddr aiaddrA afaddr alen alenS acopy amm acall alookup amupdate alenM comma keyEq apick binV binVB binVS isSh intOp strOp boolOp shOp eqC eqF and2 cellsOf setFrom fillA fillS rd rdI elems mk bounds AV.cell List.all_cons List.all_nil Bool.and_true Bool.true_and Bool.and_self List.length_cons List.length_nil List.length_append Nat.reduceAdd Nat.reduceSub Nat.reduceMul Nat.zero_add Nat.add_zero List.cons_append List.nil_append List.append_assoc List.append_nil List.getElem?_cons_zero List.getElem?_cons_succ List.getElem?_nil List.set_cons_zero List.set_cons_succ List.drop_zero List.drop_succ_cons List.take_zero List.take_succ_cons List.take_nil List.drop_nil List.map_cons List.map_nil Option.map_some if_true if_false Bool.false_eq_true and_self true_and and_true Nat.reduceLeDiff Nat.reduceLT Nat.le_refl Nat.reduceEqDiff ite_true ite_false beq_self_eq_true beq_true beq_false Bool.not_true Bool.not_false Bool.true_beq Bool.false_beq map_vs vs_len vs_get vs_take vs_drop vs_snoc1 vs_snoc2 vs_snoc3 vs_snoc5 vs_set1 vs_set2 vs_rep wrap_id le_T lt_T le_F lt_F leI_T ltI_T leI_F ltI_F geI gtI get_T decide_true decide_false room List.getElem?_map List.length_map List.length_take Int.toNat_natCast Nat.min_def Nat.min_self nth_kOf put_kOf put_kNo kOv_cons kOv_nil KHas KArgs List.getElem_cons_zero List.getElem_cons_succ
def a_PathC : AFunc := ⟨3, 56, [.tmp 6, .tmp 7],
  (.seq (.region [⟨(some 3), .box (.t 0), none⟩, ⟨(some 4), .box (.t 1), none⟩, ⟨(some 5), .box (.t 2), none⟩, ⟨(some 6), .mv (.c (.v .zsl)), none⟩, ⟨(some 7), .mv (.c (.v (.int .i64 0))), none⟩])
  (.seq (.seq (.region [⟨(some 15), .load (some 1) (.t 3), none⟩, ⟨(some 16), .load (some 2) (.t 4), none⟩, ⟨(some 17), .load (some 2) (.t 5), none⟩, ⟨(some 18), .bslice 2 [(.v (.int .i64 0)), (.v (.int .i64 0))] 2 [(0, (.t 16)), (1, (.t 17))], none⟩, ⟨(some 19), .call (.c (.fn 74 [])) [(.t 15), (.t 18)], none⟩, ⟨(some 8), .mv (.t 19), none⟩])
  (.seq (.region [⟨(some 20), .mv (.t 8), none⟩, ⟨(some 21), .bin .neq (.t 20) (.c (.v (.int .i64 0))), none⟩])
  (.cond (.t 21) (.seq (.region [⟨(some 22), .mv (.t 8), none⟩, ⟨(some 6), .mv (.c (.v .zsl)), none⟩, ⟨(some 7), .mv (.t 22), none⟩])
  .ret)
  .skip)))
  (.seq (.region [⟨(some 23), .load (some 1) (.t 3), none⟩, ⟨(some 24), .call (.c (.fn 75 [])) [(.t 23)], none⟩, ⟨(some 9), .alloc [(.v .zsl), (.v .nilm), (.v .nilm)], none⟩, ⟨none, .store 3 (.t 9) (.t 24), none⟩])
  (.seq (.region [⟨(some 25), .load (some 3) (.t 9), none⟩, ⟨(some 26), .load (some 2) (.t 5), none⟩, ⟨(some 27), .call (.c (.fn 77 [])) [(.t 25), (.t 26)], none⟩, ⟨(some 10), .alloc [(.v .zsl)], none⟩, ⟨none, .store 1 (.t 10) (.t 27), none⟩])
  (.seq (.region [⟨(some 28), .mkfn 84 [(.t 10)], none⟩, ⟨(some 11), .mv (.t 28), none⟩])
  (.seq (.seq (.region [⟨(some 29), .mv (.t 11), none⟩, ⟨(some 30), .load (some 2) (.t 4), none⟩, ⟨(some 31), .call (.t 29) [(.t 30)], none⟩, ⟨(some 32), .not (.t 31), none⟩])
  (.cond (.t 32) (.seq (.region [⟨(some 6), .mv (.c (.v .zsl)), none⟩, ⟨(some 7), .mv (.c (.v (.int .i64 7))), none⟩])
  .ret)
  .skip))
  (.seq (.region [⟨(some 33), .load (some 2) (.t 4), none⟩, ⟨(some 34), .bslice 2 [(.v (.int .i64 0)), (.v (.int .i64 0))] 1 [(0, (.t 33))], none⟩, ⟨(some 12), .mv (.t 34), none⟩])
  (.seq (.block 0 (.loop (.seq (.seq (.region [⟨(some 35), .load (some 2) (.t 4), none⟩, ⟨(some 36), .load (some 2) (.t 5), none⟩, ⟨(some 37), .eqs true [.i, .i] (.t 35) (.t 36), none⟩])
  (.cond (.t 37) .skip
  (.exit 0)))
  (.block 1 (.seq (.seq (.region [⟨(some 38), .load (some 3) (.t 9), none⟩, ⟨(some 39), .load (some 2) (.t 4), none⟩, ⟨(some 40), .call (.c (.fn 85 [])) [(.t 38), (.t 39)], none⟩, ⟨(some 41), .len (.t 40), none⟩, ⟨(some 42), .mv (.c (.v (.int .i64 0))), none⟩])
  (.block 2 (.loop (.seq (.region [⟨(some 43), .bin .lss (.t 42) (.t 41), none⟩])
  (.seq (.cond (.t 43) .skip
  (.exit 2))
  (.seq (.block 3 (.seq (.region [⟨(some 44), .iaddr 2 (.t 40) (.t 42), none⟩, ⟨(some 45), .load (some 2) (.t 44), none⟩, ⟨(some 14), .alloc [(.v (.int .i64 0)), (.v (.int .i64 0))], none⟩, ⟨none, .store 2 (.t 14) (.t 45), none⟩])
  (.seq (.region [⟨(some 46), .mv (.t 11), none⟩, ⟨(some 47), .load (some 2) (.t 14), none⟩, ⟨(some 48), .call (.t 46) [(.t 47)], none⟩])
  (.cond (.t 48) (.seq (.region [⟨(some 49), .load (some 2) (.t 14), none⟩, ⟨none, .store 2 (.t 4) (.t 49), none⟩])
  (.exit 2))
  .skip))))
  (.region [⟨(some 50), .bin .add (.t 42) (.c (.v (.int .i64 1))), none⟩, ⟨(some 42), .mv (.t 50), none⟩])))))))
  (.region [⟨(some 51), .mv (.t 12), none⟩, ⟨(some 52), .load (some 2) (.t 4), none⟩, ⟨(some 53), .bslice 2 [(.v (.int .i64 0)), (.v (.int .i64 0))] 1 [(0, (.t 52))], none⟩, ⟨(some 54), .append 2 16 (.t 51) (.t 53), none⟩, ⟨(some 12), .mv (.t 54), none⟩]))))))
  (.seq (.region [⟨(some 55), .mv (.t 12), none⟩, ⟨(some 6), .mv (.t 55), none⟩, ⟨(some 7), .mv (.c (.v (.int .i64 0))), none⟩])
  .ret)))))))))⟩
theorem a_PathC_ok : cFunc Try.prog 28 = some a_PathC := by kernel_rfl
def r_PathC0 : List (Nat × Nat) := [(12, 12), (14, 14), (35, 54)]
def r_PathC1 : List (Nat × Nat) := [(14, 14), (42, 50)]

/-- The rows of the walk along a path. -/
noncomputable def pwR (t : Tr) (n : Nat) (y x : Nat × Nat) (D : List (Nat × Nat)) : List Row := [.live 0 1 [[.v (eT t)]], .live 0 2 [[.v (.int .i64 x.1), .v (.int .i64 x.2)]], .live 0 2 [[.v (.int .i64 y.1), .v (.int .i64 y.2)]], .dead 0, .live 0 1 [[.v (eT t)]], .live 0 3 [[.v (eT t), .mp (n + 4 + 2) 0, .mp (n + 4 + 3) 0]], .live 0 0 (mpL t 2 (ids t)), .live 0 0 (mpL t 3 (ids t)), .live 0 3 [[.v (eT t), .mp (n + 4 + 2) 0, .mp (n + 4 + 3) 0]], .live 0 3 [[.v (eT t), .mp (n + 4 + 2) 0, .mp (n + 4 + 3) 0]], .live 0 1 [[.v (.isl 1 ((vcs t y).map eI))]], .live D.length 2 (vs ((D ++ [x]).map eId))]
theorem pwR_len {t : Tr} {n : Nat} {x y : Nat × Nat} {D : List (Nat × Nat)} : (pwR t n y x D).length = 12 := rfl
theorem pwR_lt {t : Tr} {n m : Nat} {x y : Nat × Nat} {D : List (Nat × Nat)} {T : List Row} (h : n + 12 ≤ m) (hT : RowsLt m T) : RowsLt m (pwR t n y x D ++ T) := by
  intro id ver sz els hr row hrow c' hc
  match id, hr with
  | 0, hr => cases hr; simp at hrow; subst hrow; simp at hc; subst hc; exact .v _
  | 1, hr => cases hr; simp at hrow; subst hrow; simp at hc; rcases hc with rfl | rfl <;> exact .v _
  | 2, hr => cases hr; simp at hrow; subst hrow; simp at hc; rcases hc with rfl | rfl <;> exact .v _
  | 3, hr => cases hr
  | 4, hr => cases hr; simp at hrow; subst hrow; simp at hc; subst hc; exact .v _
  | 5, hr => cases hr; simp at hrow; subst hrow; simp at hc; rcases hc with rfl | rfl | rfl <;> first | exact .v _ | exact .mp _ _ (by omega)
  | 6, hr => cases hr; exact mpL_lt row hrow c' hc
  | 7, hr => cases hr; exact mpL_lt row hrow c' hc
  | 8, hr => cases hr; simp at hrow; subst hrow; simp at hc; rcases hc with rfl | rfl | rfl <;> first | exact .v _ | exact .mp _ _ (by omega)
  | 9, hr => cases hr; simp at hrow; subst hrow; simp at hc; rcases hc with rfl | rfl | rfl <;> first | exact .v _ | exact .mp _ _ (by omega)
  | 10, hr => cases hr; simp at hrow; subst hrow; simp at hc; subst hc; exact .v _
  | 11, hr =>
    cases hr
    obtain ⟨r0, _, rfl⟩ := List.mem_map.1 hrow
    obtain ⟨x0, _, rfl⟩ := List.mem_map.1 hc
    exact .v _
  | id + 12, hr => exact hT id ver sz els hr row hrow c' hc
open Classical in
noncomputable def pathR (t : Tr) (x y : Int × Int) : AV := if chkE t [x, y] = 0 then (if leadB t (y.1.toNat, y.2.toNat) (x.1.toNat, x.2.toNat) = true then .tup [.v (.isl 2 ((pathL t (x.1.toNat, x.2.toNat) (y.1.toNat, y.2.toNat)).map eId)), .v (.int .i64 0)] else .tup [.v .zsl, .v (.int .i64 7)]) else .tup [.v .zsl, .v (.int .i64 (chkE t [x, y]))]
theorem PathC_spec (t : Tr) (hS : Small t) (hN : Nm t) (hC : validL t = true → (ids t).length ≤ 1000000) (x y : Int × Int) (b l : List Row) :
    ACalls Try.prog 28 [.agg [.v (eT t)], idP x, idP y] b l (fun r b' l' => r = pathR t x y ∧ b' = b ∧ l' = l) := by
  refine calls_kept a_PathC_ok rfl (by decide) ?_
  intro B g hB hR hE hA
  simp only [KArgs] at hA
  simp (disch := (first | decide | omega)) only [a_PathC, hA, idP, List.replicate_succ, List.replicate_zero, go_sem]
  refine ACalls.frzB (i := 3) (ver := 0) (sz := 2) (rows := [eIdP x, eIdP y]) (args' := [.agg [.v (eT t)], .v (.isl 2 [eIdP x, eIdP y])]) rfl (by simp [frz, frz0]) ?_
  refine ACalls.nxt (check_spec t hS hN [x, y] (by simp) _ _) ?_
  by_cases h0 : chkE t [x, y] = 0
  case neg =>
    have hn0 : (chkE t [x, y] != 0) = true := by simpa using h0
    unfold pathR
    rw [if_neg h0]
    simp (disch := (first | decide | omega)) only [hA, hn0, go_sem]
    exact leave_pure (xs := [.v .zsl, .v (.int .i64 (chkE t [x, y]))]) (.inr rfl) (by simp (disch := (first | decide | omega)) only [resVs, resV, go_sem, hA]) (by simp only [one, AVlt_v, AVlt_any, AVlt_sl, AVlt_ptr, AVlt_mp, AVlt_agg, AVlt_tup, AVlt_fn, RowsLt_nil, RowsLt_live, RowsLt_dead, List.mem_cons, List.not_mem_nil, List.forall_mem_cons, List.forall_mem_nil, or_false, false_or, forall_eq_or_imp, forall_eq, vs_lt, Nat.add_lt_add_iff_left, Nat.reduceLT, true_and, and_true, and_self, List.length_cons, List.length_nil, Nat.reduceAdd, Nat.zero_add, implies_true, false_imp_iff, lt_T, List.mem_map]) hR hB ⟨rfl, rfl, rfl⟩
  obtain ⟨hval, hall⟩ := chkE_zero.1 h0
  have hv := vok hval
  obtain ⟨p0, i0, e1, e2, hx0⟩ := existsB_in (hall x (by simp))
  obtain ⟨q, j, e3, e4, hy⟩ := existsB_in (hall y (by simp))
  obtain ⟨x1, x2⟩ := x
  obtain ⟨y1, y2⟩ := y
  simp only at e1 e2 e3 e4
  subst e1; subst e2; subst e3; subst e4
  have hn0 : ((0 : Int) != 0) = false := rfl
  unfold pathR
  rw [h0, if_pos rfl]
  simp only [Int.toNat_natCast]
  have hpa := fun b l s r => past_run t hv hS (hC hval) s r (q, j + 1) hy b l
  have hle0 := path1_spec t (q, j + 1) (p0, i0 + 1) hx0
  simp only [idA] at hpa hle0
  simp (disch := (first | decide | omega)) only [hA, hn0, idP, go_sem]
  refine ACalls.nxt (knows_spec t hv hS _ _) ?_
  simp (disch := (first | decide | omega)) only [hA, kA, knoR, go_sem]
  refine ACalls.nxt (hpa _ _ (B.length + 4 + 2) (B.length + 4 + 3) (by rw [List.getElem?_append_right (by omega), show B.length + 4 + 2 - B.length = 6 by omega]; rfl) (by rw [List.getElem?_append_right (by omega), show B.length + 4 + 3 - B.length = 7 by omega]; rfl)) ?_
  simp (disch := (first | decide | omega)) only [hA, go_sem]
  refine ACalls.nxt (hle0 _ _ _ (by rw [List.getElem?_append_right (by omega), Nat.add_sub_cancel_left]; rfl)) ?_
  cases hlb : leadB t (q, j + 1) (p0, i0 + 1) with
  | false =>
    simp (disch := (first | decide | omega)) only [hA, Bool.false_eq_true, if_false, go_sem]
    exact leave_pure (xs := [.v .zsl, .v (.int .i64 7)]) (.inr rfl) (by simp (disch := (first | decide | omega)) only [resVs, resV, go_sem, hA]) (by simp only [one, AVlt_v, AVlt_any, AVlt_sl, AVlt_ptr, AVlt_mp, AVlt_agg, AVlt_tup, AVlt_fn, RowsLt_nil, RowsLt_live, RowsLt_dead, List.mem_cons, List.not_mem_nil, List.forall_mem_cons, List.forall_mem_nil, or_false, false_or, forall_eq_or_imp, forall_eq, vs_lt, Nat.add_lt_add_iff_left, Nat.reduceLT, true_and, and_true, and_self, List.length_cons, List.length_nil, Nat.reduceAdd, Nat.zero_add, implies_true, false_imp_iff, lt_T, List.mem_map]) hR hB ⟨rfl, rfl, rfl⟩
  | true =>
    have hl0 := (leadB_iff hv hx0).1 hlb
    simp (disch := (first | decide | omega)) only [hA, if_true, List.replicate_succ, List.replicate_zero, go_sem]
    refine loop_kept (ι := (Nat × Nat) × Nat × List (Nat × Nat)) r_PathC0 (fun i => [(12, .sl (B.length + 11) i.2.2.length 0 (i.2.2.length + 1))]) 12 (fun i => pwR t B.length (q, j + 1) i.1 i.2.2)
      (fun i => PathOk t (p0, i0 + 1) (q, j + 1) i.1 i.2.1 i.2.2 ∧ i.2.2.length + i.2.1 ≤ 1000000) (fun i => i.2.1) ((p0, i0 + 1), (ids t).length, []) ⟨.start hv hx0 hl0, by have := hC hval; simpa using this⟩ (by (repeat (first | exact hE.mono (by omega) | refine KLt.up ?_ (by simp (disch := omega) only [AVlt_v, AVlt_any, AVlt_sl, AVlt_ptr, AVlt_mp, AVlt_agg, AVlt_tup, AVlt_fn, RowsLt_nil, RowsLt_live, RowsLt_dead, List.mem_cons, List.not_mem_nil, List.forall_mem_cons, List.forall_mem_nil, or_false, false_or, forall_eq_or_imp, forall_eq, vs_lt, Nat.add_lt_add_iff_left, Nat.reduceLT, true_and, and_true, and_self, List.length_cons, List.length_nil, Nat.reduceAdd, Nat.zero_add, implies_true, false_imp_iff, lt_T, List.mem_map])))) (by ((try simp (disch := decide) only [hA, go_sem]) <;> (repeat' (first | exact trivial | refine And.intro ?_ ?_)) <;> (first | rfl | (congr 2; omega)))) (fun e => Weak.refl _ _ _) ?_
    rintro g1 hE1 hEE1 hg1 ⟨⟨p, i⟩, n, D⟩ ⟨hok, hbd⟩
    simp only at hok hbd
    have heq : (((p : Int) == (q : Int)) && ((i : Int) == ((j + 1 : Nat) : Int))) = decide ((p, i) = (q, j + 1)) := by
      rw [Bool.eq_iff_iff]; simp; omega
    by_cases he : (p, i) = (q, j + 1)
    · rw [decide_eq_true he] at heq
      simp (disch := (first | decide | omega)) only [hA, hg1, pwR, heq, go_sem]
      rw [he] at hok
      have hdn := hok.done
      rw [he, hdn]
      exact leave_frz2' (i := 11) (ver := D.length) (sz := 2) (n := D.length + 1) (rows := (pathL t (p0, i0 + 1) (q, j + 1)).map eId) (z := .int .i64 0) (.inr rfl) (by simp (disch := (first | decide | omega)) only [resVs, resV, hA, hg1, go_sem]) rfl (by rw [← hdn]; simp) hR hB ⟨rfl, rfl, rfl⟩
    · rw [decide_eq_false he] at heq
      obtain ⟨z, m, hnm, hst, hok2, dz⟩ := hok.step hv hy he
      have hnx := fun L h => knext_spec t hv hS (B.length + 4 + 2) (B.length + 4 + 3) (p, i) hok.mem B L h
      simp only [kA, idA] at hnx
      have hnl : (nextL t (p, i)).length ≤ 3 := by
        unfold nextL rowN
        cases rcvO t (p, i) <;> simp only <;> (repeat' split) <;> simp
      simp (disch := (first | decide | omega)) only [hA, hg1, pwR, heq, go_sem]
      refine ACalls.nxt (hnx _ (by rw [List.getElem?_append_right (by omega), show B.length + 4 + 3 - B.length = 7 by omega]; rfl)) ?_
      simp (disch := (first | decide | omega)) only [hA, hg1, List.length_map, go_sem]
      refine loop_kept (ι := Nat) r_PathC1 (fun k => [(42, .v (.int .i64 k))]) 12 (fun k => pwR t B.length (q, j + 1) (p, i) D)
        (fun k => k ≤ (nextL t (p, i)).length ∧ ∀ a (h : a < (nextL t (p, i)).length), a < k → leadB t (q, j + 1) (nextL t (p, i))[a] = false) (fun k => (nextL t (p, i)).length - k) 0 ⟨Nat.zero_le _, fun a _ h => by omega⟩ (by (repeat (first | exact hE1.mono (by omega) | refine KLt.up ?_ (by simp (disch := omega) only [AVlt_v, AVlt_any, AVlt_sl, AVlt_ptr, AVlt_mp, AVlt_agg, AVlt_tup, AVlt_fn, RowsLt_nil, RowsLt_live, RowsLt_dead, List.mem_cons, List.not_mem_nil, List.forall_mem_cons, List.forall_mem_nil, or_false, false_or, forall_eq_or_imp, forall_eq, vs_lt, Nat.add_lt_add_iff_left, Nat.reduceLT, true_and, and_true, and_self, List.length_cons, List.length_nil, Nat.reduceAdd, Nat.zero_add, implies_true, false_imp_iff, lt_T, List.mem_map])))) (by ((try simp (disch := decide) only [hA, hg1, go_sem]) <;> (repeat' (first | exact trivial | refine And.intro ?_ ?_)) <;> (first | rfl | (congr 2; omega)))) (fun e => Weak.refl _ _ _) ?_
      rintro g2 hE2 hEE2 hg2 k ⟨hk, hbef⟩
      by_cases hkl : k < (nextL t (p, i)).length
      · obtain ⟨⟨wp, wi⟩, hw⟩ : ∃ w, (nextL t (p, i))[k] = w := ⟨_, rfl⟩
        have hwd : Dir t (p, i) (wp, wi) := mem_nextL.1 (by rw [← hw]; exact List.getElem_mem hkl)
        have hwm := hwd.mem hok.mem
        have hgk : ((nextL t (p, i)).map eId)[k]? = some [.int .i64 wp, .int .i64 wi] := by rw [List.getElem?_map, List.getElem?_eq_getElem hkl, hw]; rfl
        have hle := fun n L h => path1_spec t (q, j + 1) (wp, wi) hwm n B L h
        simp only [idA] at hle
        simp (disch := (first | decide | omega)) only [hA, hg1, hg2, pwR, hgk, List.length_map, go_sem]
        refine ACalls.nxt (hle _ _ (by rw [List.getElem?_append_right (by omega), Nat.add_sub_cancel_left]; rfl)) ?_
        cases hlw : leadB t (q, j + 1) (wp, wi) with
        | true =>
          have hzw : z = (wp, wi) := by
            have h1 : stepO t (q, j + 1) (p, i) = some (wp, wi) := by
              unfold stepO
              rw [List.find?_eq_some_iff_getElem]
              refine ⟨hlw, k, hkl, hw, fun a ha => ?_⟩
              rw [hbef a (by omega) ha]; rfl
            rw [hst] at h1
            exact Option.some.inj h1
          subst hzw
          have tk : List.take (D.length + 1) ((D ++ [(p, i)]).map eId) = (D ++ [(p, i)]).map eId := List.take_of_length_le (by simp)
          have ts : (D ++ [(p, i)]).map eId ++ [[.int .i64 wp, .int .i64 wi]] = ((D ++ [(p, i)]) ++ [(wp, wi)]).map eId := by rw [List.map_append (l₁ := D ++ [(p, i)])]; rfl
          have hl2 : (D ++ [(p, i)]).length = D.length + 1 := by simp
          simp (disch := (first | decide | omega)) only [hA, hg1, hg2, tk, ts, List.length_map, List.replicate_succ, List.replicate_zero, go_sem]
          refine ⟨((wp, wi), m, D ++ [(p, i)]), ⟨hok2, by simp only [hl2]; omega⟩, by simp only; omega, ?_⟩
          exact Weak.kround (l1 := pwR t B.length (q, j + 1) (wp, wi) (D ++ [(p, i)])) (p := r_PathC0) (k := 12) (by ((repeat refine (kAny_up rfl).trans ?_); refine (kAny_sub hg2 (kIn_sub rfl)).trans ?_; (repeat refine (kAny_up rfl).trans ?_); exact hEE1)) (by ((try simp (disch := decide) only [hA, hg1, hl2, go_sem]) <;> (repeat' (first | exact trivial | refine And.intro ?_ ?_)) <;> (first | rfl | (congr 2; omega)))) (junk := [.live 0 2 [[.v (.int .i64 wp), .v (.int .i64 wi)]], .live 0 2 [[.v (.int .i64 wp), .v (.int .i64 wi)]]]) (by simp [pwR]) hE1 (by simp [pwR]) (by simp (disch := omega) only [KOvLt, pwR_len, AVlt_v, AVlt_any, AVlt_sl, AVlt_ptr, AVlt_mp, AVlt_agg, AVlt_tup, AVlt_fn, RowsLt_nil, RowsLt_live, RowsLt_dead, List.mem_cons, List.not_mem_nil, List.forall_mem_cons, List.forall_mem_nil, or_false, false_or, forall_eq_or_imp, forall_eq, vs_lt, Nat.add_lt_add_iff_left, Nat.reduceLT, true_and, and_true, and_self, List.length_cons, List.length_nil, Nat.reduceAdd, Nat.zero_add, implies_true, false_imp_iff, lt_T, List.mem_map]) hR (pwR_lt (T := []) (by simp [pwR]) RowsLt_nil)
        | false =>
          simp (disch := (first | decide | omega)) only [hA, hg1, hg2, go_sem]
          refine ⟨k + 1, ⟨hkl, fun a ha h => ?_⟩, by simp only; omega, ?_⟩
          · by_cases hak : a = k
            · subst hak; rw [hw]; exact hlw
            · exact hbef a ha (by omega)
          · exact Weak.kround (l1 := pwR t B.length (q, j + 1) (p, i) D) (p := r_PathC1) (k := 12) (by ((repeat refine (kAny_up rfl).trans ?_); exact hEE2)) (by ((try simp (disch := decide) only [hA, go_sem]) <;> (repeat' (first | exact trivial | refine And.intro ?_ ?_)) <;> (first | rfl | (congr 2; omega)))) rfl hE2 (by simp [pwR]) (by simp (disch := omega) only [KOvLt, pwR_len, AVlt_v, AVlt_any, AVlt_sl, AVlt_ptr, AVlt_mp, AVlt_agg, AVlt_tup, AVlt_fn, RowsLt_nil, RowsLt_live, RowsLt_dead, List.mem_cons, List.not_mem_nil, List.forall_mem_cons, List.forall_mem_nil, or_false, false_or, forall_eq_or_imp, forall_eq, vs_lt, Nat.add_lt_add_iff_left, Nat.reduceLT, true_and, and_true, and_self, List.length_cons, List.length_nil, Nat.reduceAdd, Nat.zero_add, implies_true, false_imp_iff, lt_T, List.mem_map]) hR (pwR_lt (T := []) (by simp [pwR]) RowsLt_nil)
      · exfalso
        unfold stepO at hst
        have h1 := List.mem_of_find?_eq_some hst
        have h2 := List.find?_some hst
        obtain ⟨a, ha, hza⟩ := List.mem_iff_getElem.1 h1
        rw [← hza, hbef a ha (by omega)] at h2
        cases h2
end Go.Proofs.Ytnnnccibhhnbaaa

namespace Go.Proofs.Ytnnnccibhhnbaaa
set_option linter.unusedVariables false
def concB (t : Tr) (rank : Nat × Nat → Nat) : Bool :=
  decide (1 ≤ t.length) && (decide (t.length ≤ 8) && ((List.range t.length).all (fun p => headF t p == 0) && ((ids t).all (fun x => formF t x == 0) && ((ids t).all (fun x => pairF t x == 0) && (ids t).all (fun x => (dirL t x).all fun y => decide (rank x < rank y))))))
theorem conc_fault {t : Tr} {rank : Nat × Nat → Nat} (h : concB t rank = true) : faultL t = ((0, 0), 0) := by
  simp only [concB, Bool.and_eq_true, decide_eq_true_eq, List.all_eq_true, beq_iff_eq] at h
  obtain ⟨h1, h2, h3, h4, h5, h6⟩ := h
  have hb : ∀ {x y : Nat × Nat}, Hb t x y → x ∈ ids t → rank x < rank y := by
    intro x y hxy
    induction hxy with
    | one h => intro hx; exact h6 _ hx _ (mem_dirL.2 h)
    | more h k ih =>
      intro hx
      exact Nat.lt_trans (ih hx) (h6 _ (Hb.mem hx h) _ (mem_dirL.2 k))
  unfold faultL
  rw [if_neg (by omega)]
  have e1 : (List.range t.length).find? (fun p => headF t p != 0) = none := by
    rw [List.find?_eq_none]; intro p hp; simp [h3 p hp]
  have e2 : (ids t).find? (fun x => formF t x != 0) = none := by
    rw [List.find?_eq_none]; intro p hp; simp [h4 p hp]
  have e3 : (ids t).find? (fun x => pairF t x != 0) = none := by
    rw [List.find?_eq_none]; intro p hp; simp [h5 p hp]
  rw [e1]; simp only
  rw [e2]; simp only
  rw [e3]; simp only
  have e4 : (ids t).find? (fun x => @decide (Hb t x x) (Classical.propDecidable _)) = none := by
    rw [List.find?_eq_none]
    intro x hx
    simp only [decide_eq_true_eq]
    intro hh
    have := hb hh hx
    omega
  rw [e4]
theorem conc_valid {t : Tr} {rank : Nat × Nat → Nat} (h : concB t rank = true) : validL t = true := by simp [validL, conc_fault h]
end Go.Proofs.Ytnnnccibhhnbaaa

namespace Go.Proofs.Ytnnnccibhhnbaaa
set_option linter.unusedVariables false
set_option linter.unusedSimpArgs false
def xOk : XV → Bool
  | .ok (.v (.bool true)) _ _ _ => true
  | _ => false
theorem xOk_ok {x : XV} (h : xOk x = true) : ∃ b l t, x = .ok (.v (.bool true)) b l t := by
  unfold xOk at h
  split at h
  · exact ⟨_, _, _, rfl⟩
  · exact absurd h (by decide)
noncomputable def tab15 : Nat → Option AFunc := fun f => cFunc Try.prog f
set_option maxRecDepth 100000
theorem getLe_nil {f : IV → IV → Prop} : ∀ (j : Nat) (a a' : IV), ([] : List IV)[j]? = some a → ([] : List IV)[j]? = some a' → f a a' := fun j a a' h => by simp at h
theorem getLe_cons {f : IV → IV → Prop} {x y : IV} {xs ys : List IV} (h : f x y) (hs : ∀ (j : Nat) (a a' : IV), xs[j]? = some a → ys[j]? = some a' → f a a') : ∀ (j : Nat) (a a' : IV), (x :: xs)[j]? = some a → (y :: ys)[j]? = some a' → f a a' := by
  intro j a a' h1 h2
  cases j with
  | zero => simp at h1 h2; subst h1; subst h2; exact h
  | succ j => simp at h1 h2; exact hs j a a' h1 h2
/-- A contract of a function without arguments that answers with a bool, with nothing said of rows: it holds among any rows. -/
theorem ACalls.lift_bool {P : Program} {f : Nat} {z : Bool} (h : ACalls P f [] [] [] (fun r _ _ => r = .v (.bool z))) (b l : List Row) : ACalls P f [] b l (fun r b' l' => r = .v (.bool z) ∧ b' = b ∧ l' = l) := by
  refine ACalls.of_ext h.1 (fun F L w vs hr => ?_)
  have hn : vs = #[] := Array.toList_inj.1 (repL_nil hr)
  subst hn
  refine (ACalls.calls h (vs := #[]) RepL.nil).mono ?_
  rintro en w' ⟨v, x, b', l', F', L', he, hx, hE, rfl⟩
  cases hx.vI
  exact ⟨hE, _, _, he, .v _ _ (.bool _), rfl, rfl, rfl⟩
end Go.Proofs.Ytnnnccibhhnbaaa

namespace Go.Proofs.Ytnnnccibhhnbaaa
set_option linter.unusedVariables false
set_option linter.unusedSimpArgs false
def pair13 : Tr := [⟨⟨#[112]⟩, [], [⟨2, 1, 5, 0, []⟩, ⟨1, 0, 0, 0, []⟩]⟩, ⟨⟨#[113]⟩, [], [⟨3, 0, 5, 0, []⟩]⟩]
def epair13 : IV := .isl 3 [[.str ⟨#[112]⟩, .zsl, .isl 5 [[.int .i64 2, .int .i64 1, .int .i64 5, .int .i64 0, .zsl], [.int .i64 1, .int .i64 0, .int .i64 0, .int .i64 0, .zsl]]], [.str ⟨#[113]⟩, .zsl, .isl 5 [[.int .i64 3, .int .i64 0, .int .i64 5, .int .i64 0, .zsl]]]]
def ora13 : Nat → List AV → Option AV := fun f args => if (f == 45 && eqL (eqA 20) args [.agg [.v epair13]]) = true then some (.v (.bool true)) else none
def frz13 : Nat → Nat := fun f => if f = 68 then 5 else 0
set_option maxRecDepth 100000
theorem run13 : xOk (E1.xcall tab15 ora13 frz13 (E1.exec tab15 ora13 frz13 3000) 13 [] [] []) = true := by kernel_rfl
theorem epair13_le : IVle epair13 (eT pair13) := by
  have ev : ∀ (a c d e : Int), IVle (.isl 5 [[.int .i64 a, .int .i64 c, .int .i64 d, .int .i64 e, .zsl]]) (.isl 5 [[.int .i64 a, .int .i64 c, .int .i64 d, .int .i64 e, .isl 2 []]]) := fun a c d e =>
    .rows ⟨⟨rfl, getLe_cons (.refl _) (getLe_cons (.refl _) (getLe_cons (.refl _) (getLe_cons (.refl _) (getLe_cons (.zsl 2) getLe_nil))))⟩, trivial⟩
  have ev2 : ∀ (a c d e a2 c2 d2 e2 : Int), IVle (.isl 5 [[.int .i64 a, .int .i64 c, .int .i64 d, .int .i64 e, .zsl], [.int .i64 a2, .int .i64 c2, .int .i64 d2, .int .i64 e2, .zsl]]) (.isl 5 [[.int .i64 a, .int .i64 c, .int .i64 d, .int .i64 e, .isl 2 []], [.int .i64 a2, .int .i64 c2, .int .i64 d2, .int .i64 e2, .isl 2 []]]) := fun a c d e a2 c2 d2 e2 =>
    .rows ⟨⟨rfl, getLe_cons (.refl _) (getLe_cons (.refl _) (getLe_cons (.refl _) (getLe_cons (.refl _) (getLe_cons (.zsl 2) getLe_nil))))⟩, ⟨rfl, getLe_cons (.refl _) (getLe_cons (.refl _) (getLe_cons (.refl _) (getLe_cons (.refl _) (getLe_cons (.zsl 2) getLe_nil))))⟩, trivial⟩
  exact .rows ⟨⟨rfl, getLe_cons (.refl _) (getLe_cons (.zsl 2) (getLe_cons (ev2 _ _ _ _ _ _ _ _) getLe_nil))⟩, ⟨rfl, getLe_cons (.refl _) (getLe_cons (.zsl 2) (getLe_cons (ev _ _ _ _) getLe_nil))⟩, trivial⟩
theorem pair13_small : Small pair13 := ⟨by decide, by decide, by decide, by decide⟩
theorem pair13_nm : Nm pair13 := by
  intro p hp
  simp [pair13] at hp
  rcases hp with rfl | rfl <;> exact ⟨by decide, by simp⟩
theorem pair13_valid : validL pair13 = true := conc_valid (rank := fun x => x.1 * 10 + x.2) (by kernel_rfl)
theorem ora13_ok (f : Nat) (args : List AV) (y : AV) (h : ora13 f args = some y) (b l : List Row) : ACalls Try.prog f args b l (fun r b' l' => r = y ∧ b' = b ∧ l' = l) := by
  unfold ora13 at h
  split at h
  · rename_i hc
    simp only [Bool.and_eq_true, beq_iff_eq] at hc
    obtain ⟨rfl, h2⟩ := hc
    have h3 := eqL_eq (eqA_eq 20) h2
    subst h3
    cases h
    have hv := valid_spec pair13 pair13_small pair13_nm b l
    rw [pair13_valid] at hv
    refine ACalls.le hv rfl ?_
    intro i a c h1 h2
    cases i with
    | zero =>
      simp at h1 h2; subst h1; subst h2
      refine .agg _ _ rfl (fun i a c h1 h2 => ?_)
      cases i with
      | zero => simp at h1 h2; subst h1; subst h2; exact .v _ _ epair13_le
      | succ i => simp at h1
    | succ i => simp at h1
  · cases h
/-- The example of chapter 13. -/
theorem awake13_spec (b l : List Row) : ACalls Try.prog 13 [] b l (fun r b' l' => r = .v (.bool true) ∧ b' = b ∧ l' = l) := by
  obtain ⟨b1, l1, t, h⟩ := xOk_ok run13
  exact ACalls.lift_bool (E1.ACalls.of_exec (T := tab15) (O := ora13) (Z := frz13) (fun f af h => h) ora13_ok h) b l
end Go.Proofs.Ytnnnccibhhnbaaa

namespace Go.Proofs.Ytnnnccibhhnbaaa
set_option linter.unusedVariables false
set_option linter.unusedSimpArgs false
attribute [local go_sem ↓] run_skip run_region run_draw run_seq run_block run_exit run_ret run_cond atN_app seqC_normal seqC_exit seqC_ret seqQ_normal seqQ_exit seqQ_ret blkQ_normal blkQ_exit blkQ_ret runOps_nil runOps_cons runD_nil runD_cons grdO_true grdO_false grdD_true grdD_false ifC_true ifC_false opS_val opS_call opS_two opK_app dS_val dS_call dS_two dK_app kUp_same kUp_ne
attribute [local go_sem] rechks_nil rechks_cons rechk gcase_true gcase_false ex_val ex_val0 gd_none gd_some ev_t ev_c evs_nil evs_cons evo_some evo_none hget_at hget_first hsetB_at hsetB_first hsetL_at hsetL_first ofOpt_some aop aload astore aslice aappend aiaddr aiaddrA afaddr alen alenS acopy amm acall alookup amupdate alenM comma keyEq apick binV binVB binVS isSh intOp strOp boolOp shOp eqC eqF and2 cellsOf setFrom fillA fillS rd rdI elems mk bounds AV.cell List.all_cons List.all_nil Bool.and_true Bool.true_and Bool.and_self List.length_cons List.length_nil List.length_append Nat.reduceAdd Nat.reduceSub Nat.reduceMul Nat.zero_add Nat.add_zero List.cons_append List.nil_append List.append_assoc List.append_nil List.getElem?_cons_zero List.getElem?_cons_succ List.getElem?_nil List.set_cons_zero List.set_cons_succ List.drop_zero List.drop_succ_cons List.take_zero List.take_succ_cons List.take_nil List.drop_nil List.map_cons List.map_nil Option.map_some if_true if_false Bool.false_eq_true and_self true_and and_true Nat.reduceLeDiff Nat.reduceLT Nat.le_refl Nat.reduceEqDiff ite_true ite_false beq_self_eq_true beq_true beq_false Bool.not_true Bool.not_false Bool.true_beq Bool.false_beq map_vs vs_len vs_get vs_take vs_drop vs_snoc1 vs_snoc2 vs_snoc3 vs_snoc5 vs_set1 vs_set2 vs_rep wrap_id le_T lt_T le_F lt_F leI_T ltI_T leI_F ltI_F geI gtI get_T decide_true decide_false room List.getElem?_map List.length_map List.length_take Int.toNat_natCast Nat.min_def Nat.min_self nth_kOf put_kOf put_kNo kOv_cons kOv_nil KHas KArgs List.getElem_cons_zero List.getElem_cons_succ
theorem bef_lead {t : Tr} {x y : Nat × Nat} : befB t x y = (!(decide (x = y)) && leadB t y x) := rfl
theorem bef_anti {t : Tr} (hv : Vok t) {x y : Nat × Nat} (hx : x ∈ ids t) (hy : y ∈ ids t) (h : befB t x y = true) : befB t y x = false := by
  rw [Bool.eq_false_iff]
  intro h2
  have h3 := ((befB_iff hv hx hy).1 h).trans ((befB_iff hv hy hx).1 h2)
  have := rk_lt hv hx h3
  omega
end Go.Proofs.Ytnnnccibhhnbaaa

namespace Go.Proofs.Ytnnnccibhhnbaaa
set_option linter.unusedVariables false
set_option linter.unusedSimpArgs false
/-- What a closing keeps: counts of events at or before an event. -/
structure Cinv (t : Tr) (x : Nat × Nat) (c : Nat → Nat) : Prop where
  le : ∀ q, c q ≤ vc t x q
  src : x.2 ≤ c x.1
  out : ∀ q, t.length ≤ q → c q = 0
theorem Cinv.dn {t : Tr} {x : Nat × Nat} {c : Nat → Nat} (h : Cinv t x c) (q : Nat) : c q ≤ (evsOf t q).length := Nat.le_trans (h.le q) vc_le
theorem Cinv.at {t : Tr} {x : Nat × Nat} {c : Nat → Nat} (h : Cinv t x c) {q j : Nat} (hj : j < c q) : (q, j + 1) ∈ ids t ∧ Le t (q, j + 1) x := by
  have hq : q < t.length := Nat.lt_of_not_le fun hn => by have := h.out q hn; omega
  have h1 := h.dn q
  exact ⟨mem_ids2.2 ⟨hq, by omega⟩, (vc_iff (by omega)).2 (by have := h.le q; omega)⟩
/-- The start: the event alone, and what stands before it. -/
def clo0 (x : Nat × Nat) : Nat → Nat := fUp (fun _ => 0) x.1 x.2
theorem Cinv.start {t : Tr} (hv : Vok t) {x : Nat × Nat} (hx : x ∈ ids t) : Cinv t x (clo0 x) := by
  have hp := (mem_ids.1 hx).1
  refine ⟨fun q => ?_, by unfold clo0; rw [fUp_same]; exact Nat.le_refl _, fun q hq => ?_⟩
  · unfold clo0
    by_cases hq : q = x.1
    · subst hq; rw [fUp_same]; exact (le_cnt hx).1 (.refl _)
    · rw [fUp_ne hq]; exact Nat.zero_le _
  · unfold clo0
    rw [fUp_ne (by omega)]
/-- An event within the counts whose message was sent within them. -/
def okC (t : Tr) (c : Nat → Nat) (q j : Nat) : Prop := (evAt t (q, j + 1)).kind = 3 → (sndr t (q, j + 1)).2 ≤ c (sndr t (q, j + 1)).1
theorem Cinv.up {t : Tr} (hv : Vok t) {x : Nat × Nat} {c : Nat → Nat} (h : Cinv t x c) {q j : Nat} (hj : j < c q) (hk : (evAt t (q, j + 1)).kind = 3) (hlt : c (sndr t (q, j + 1)).1 < (sndr t (q, j + 1)).2) :
    Cinv t x (fUp c (sndr t (q, j + 1)).1 (sndr t (q, j + 1)).2) := by
  obtain ⟨h1, h2⟩ := h.at hj
  obtain ⟨s1, s2⟩ := sndr_in hv h1 hk
  have hl : Le t (sndr t (q, j + 1)) x := Le.trans (.inr s2) h2
  refine ⟨fun r => ?_, ?_, fun r hr => ?_⟩
  · by_cases hr : r = (sndr t (q, j + 1)).1
    · rw [hr, fUp_same]; exact (le_cnt s1).1 hl
    · rw [fUp_ne hr]; exact h.le r
  · by_cases hr : x.1 = (sndr t (q, j + 1)).1
    · rw [hr, fUp_same]; have := h.src; rw [hr] at this; omega
    · rw [fUp_ne hr]; exact h.src
  · rw [fUp_ne (by have := (mem_ids.1 s1).1; omega)]; exact h.out r hr
theorem Cinv.done {t : Tr} (hv : Vok t) {x : Nat × Nat} (hx : x ∈ ids t) {c : Nat → Nat} (h : Cinv t x c) (hc : ∀ q, q < t.length → ∀ j, j < c q → okC t c q j) {q : Nat} (hq : q < t.length) : c q = vc t x q := by
  have hP : Pst t x c [] := by
    refine ⟨fun y hy => by simp at hy, fun p i hi => ?_, .inr h.src, fun z hz hzc y hy => .inr ?_⟩
    · obtain ⟨h1, h2⟩ := h.at hi
      exact ⟨(mem_ids2.1 h1).1, (mem_ids2.1 h1).2, h2⟩
    · obtain ⟨p, i⟩ := z
      obtain ⟨i, rfl⟩ : ∃ k, i = k + 1 := ⟨i - 1, by have := mem_pos hz; simp only at this; omega⟩
      simp only at hzc
      rcases backL_cases hy with ⟨h1, rfl⟩ | ⟨h1, rfl⟩
      · simp only; omega
      · exact hc p (mem_ids2.1 hz).1 i (by omega) h1
  exact hP.done hv hx hq
theorem remT_raise {t : Tr} {D : Nat → Nat} {p v : Nat} (hp : p < t.length) (h1 : D p < v) (h2 : v ≤ (evsOf t p).length) : remT t (fUp D p v) < remT t D := by
  have : ∀ (len : Nat → Nat), v ≤ len p → ∀ n, p < n → remN len (fUp D p v) n < remN len D n := by
    intro len hl n
    induction n with
    | zero => intro h; omega
    | succ n ih =>
      intro h
      unfold remN
      by_cases hp : p < n
      · have := ih hp
        rw [fUp_ne (by omega)]; omega
      · obtain rfl : p = n := by omega
        rw [remN_up (Nat.le_refl _), fUp_same]; omega
  exact this (fun p => (evsOf t p).length) h2 t.length hp
end Go.Proofs.Ytnnnccibhhnbaaa

namespace Go.Proofs.Ytnnnccibhhnbaaa
set_option linter.unusedVariables false
set_option linter.unusedSimpArgs false
attribute [local go_sem ↓] run_skip run_region run_draw run_seq run_block run_exit run_ret run_cond atN_app seqC_normal seqC_exit seqC_ret seqQ_normal seqQ_exit seqQ_ret blkQ_normal blkQ_exit blkQ_ret runOps_nil runOps_cons runD_nil runD_cons grdO_true grdO_false grdD_true grdD_false ifC_true ifC_false opS_val opS_call opS_two opK_app dS_val dS_call dS_two dK_app kUp_same kUp_ne
attribute [local go_sem] rechks_nil rechks_cons rechk gcase_true gcase_false ex_val ex_val0 gd_none gd_some ev_t ev_c evs_nil evs_cons evo_some evo_none hget_at hget_first hsetB_at hsetB_first hsetL_at hsetL_first ofOpt_some aop aload astore aslice aappend aiaddr aiaddrA afaddr alen alenS acopy amm acall alookup amupdate alenM comma keyEq apick binV binVB binVS isSh intOp strOp boolOp shOp eqC eqF and2 cellsOf setFrom fillA fillS rd rdI elems mk bounds AV.cell List.all_cons List.all_nil Bool.and_true Bool.true_and Bool.and_self List.length_cons List.length_nil List.length_append Nat.reduceAdd Nat.reduceSub Nat.reduceMul Nat.zero_add Nat.add_zero List.cons_append List.nil_append List.append_assoc List.append_nil List.getElem?_cons_zero List.getElem?_cons_succ List.getElem?_nil List.set_cons_zero List.set_cons_succ List.drop_zero List.drop_succ_cons List.take_zero List.take_succ_cons List.take_nil List.drop_nil List.map_cons List.map_nil Option.map_some if_true if_false Bool.false_eq_true and_self true_and and_true Nat.reduceLeDiff Nat.reduceLT Nat.le_refl Nat.reduceEqDiff ite_true ite_false beq_self_eq_true beq_true beq_false Bool.not_true Bool.not_false Bool.true_beq Bool.false_beq map_vs vs_len vs_get vs_take vs_drop vs_snoc1 vs_snoc2 vs_snoc3 vs_snoc5 vs_set1 vs_set2 vs_rep wrap_id le_T lt_T le_F lt_F leI_T ltI_T leI_F ltI_F geI gtI get_T decide_true decide_false room List.getElem?_map List.length_map List.length_take Int.toNat_natCast Nat.min_def Nat.min_self nth_kOf put_kOf put_kNo kOv_cons kOv_nil KHas KArgs List.getElem_cons_zero List.getElem_cons_succ
def a_rSending : AFunc := ⟨3, 38, [.tmp 6],
  (.seq (.region [⟨(some 3), .box (.t 0), none⟩, ⟨(some 6), .mv (.c (.v (.int .i64 0))), none⟩])
  (.seq (.region [⟨(some 9), .faddr 0 (.t 3), none⟩, ⟨(some 10), .load none (.t 9), none⟩, ⟨(some 11), .mv (.t 1), none⟩, ⟨(some 12), .iaddr 3 (.t 10) (.t 11), none⟩, ⟨(some 13), .faddr 2 (.t 12), none⟩, ⟨(some 14), .load none (.t 13), none⟩, ⟨(some 7), .mv (.t 14), none⟩])
  (.seq (.seq (.region [⟨(some 8), .mv (.c (.v (.int .i64 0))), none⟩])
  (.block 0 (.loop (.seq (.seq (.region [⟨(some 15), .mv (.t 8), none⟩, ⟨(some 16), .mv (.t 7), none⟩, ⟨(some 17), .len (.t 16), none⟩, ⟨(some 18), .bin .lss (.t 15) (.t 17), none⟩])
  (.cond (.t 18) .skip
  (.exit 0)))
  (.seq (.block 1 (.seq (.region [⟨(some 21), .mv (.t 7), none⟩, ⟨(some 22), .mv (.t 8), none⟩, ⟨(some 23), .iaddr 5 (.t 21) (.t 22), none⟩, ⟨(some 24), .faddr 0 (.t 23), none⟩, ⟨(some 25), .load none (.t 24), none⟩, ⟨(some 26), .bin .eql (.t 25) (.c (.v (.int .i64 2))), none⟩, ⟨(some 27), .mv (.t 26), none⟩, ⟨(some 28), .mv (.t 7), some (27, true)⟩, ⟨(some 29), .mv (.t 8), some (27, true)⟩, ⟨(some 30), .iaddr 5 (.t 28) (.t 29), some (27, true)⟩, ⟨(some 31), .faddr 2 (.t 30), some (27, true)⟩, ⟨(some 32), .load none (.t 31), some (27, true)⟩, ⟨(some 33), .mv (.t 2), some (27, true)⟩, ⟨(some 34), .bin .eql (.t 32) (.t 33), some (27, true)⟩, ⟨(some 35), .pick (.t 27) (.t 34) (.c (.v (.bool false))), none⟩])
  (.cond (.t 35) (.seq (.region [⟨(some 36), .mv (.t 8), none⟩, ⟨(some 37), .bin .add (.t 36) (.c (.v (.int .i64 1))), none⟩, ⟨(some 6), .mv (.t 37), none⟩])
  .ret)
  .skip)))
  (.region [⟨(some 19), .mv (.t 8), none⟩, ⟨(some 20), .bin .add (.t 19) (.c (.v (.int .i64 1))), none⟩, ⟨(some 8), .mv (.t 20), none⟩]))))))
  (.seq (.region [⟨(some 6), .mv (.c (.v (.int .i64 0))), none⟩])
  .ret))))⟩
theorem a_rSending_ok : cFunc Try.prog 134 = some a_rSending := by kernel_rfl
def r_rSending0 : List (Nat × Nat) := [(6, 6), (8, 8), (15, 37)]
def a_rClose : AFunc := ⟨2, 60, [.tmp 4],
  (.seq (.region [⟨(some 2), .box (.t 0), none⟩, ⟨(some 4), .mv (.c (.v .zsl)), none⟩])
  (.seq (.region [⟨(some 11), .bslice 1 [(.v (.int .i64 0))] 0 [], none⟩, ⟨(some 12), .mv (.t 1), none⟩, ⟨(some 13), .append 1 8 (.t 11) (.t 12), none⟩, ⟨(some 5), .mv (.t 13), none⟩])
  (.seq (.seq (.region [⟨(some 6), .mv (.c (.v (.bool true))), none⟩])
  (.block 0 (.loop (.seq (.seq (.region [⟨(some 14), .mv (.t 6), none⟩])
  (.cond (.t 14) .skip
  (.exit 0)))
  (.block 1 (.seq (.region [⟨(some 6), .mv (.c (.v (.bool false))), none⟩])
  (.seq (.region [⟨(some 7), .mv (.c (.v (.int .i64 0))), none⟩])
  (.block 2 (.loop (.seq (.seq (.region [⟨(some 15), .mv (.t 7), none⟩, ⟨(some 16), .mv (.t 5), none⟩, ⟨(some 17), .len (.t 16), none⟩, ⟨(some 18), .bin .lss (.t 15) (.t 17), none⟩])
  (.cond (.t 18) .skip
  (.exit 2)))
  (.seq (.block 3 (.seq (.region [⟨(some 8), .mv (.c (.v (.int .i64 0))), none⟩])
  (.block 4 (.loop (.seq (.seq (.region [⟨(some 21), .mv (.t 8), none⟩, ⟨(some 22), .mv (.t 5), none⟩, ⟨(some 23), .mv (.t 7), none⟩, ⟨(some 24), .iaddr 1 (.t 22) (.t 23), none⟩, ⟨(some 25), .load none (.t 24), none⟩, ⟨(some 26), .bin .lss (.t 21) (.t 25), none⟩])
  (.cond (.t 26) .skip
  (.exit 4)))
  (.seq (.block 5 (.seq (.region [⟨(some 29), .faddr 0 (.t 2), none⟩, ⟨(some 30), .load none (.t 29), none⟩, ⟨(some 31), .mv (.t 7), none⟩, ⟨(some 32), .iaddr 3 (.t 30) (.t 31), none⟩, ⟨(some 33), .faddr 2 (.t 32), none⟩, ⟨(some 34), .load none (.t 33), none⟩, ⟨(some 35), .mv (.t 8), none⟩, ⟨(some 36), .iaddr 5 (.t 34) (.t 35), none⟩, ⟨(some 37), .load (some 5) (.t 36), none⟩, ⟨(some 9), .alloc [(.v (.int .i64 0)), (.v (.int .i64 0)), (.v (.int .i64 0)), (.v (.int .i64 0)), (.v .zsl)], none⟩, ⟨none, .store 5 (.t 9) (.t 37), none⟩])
  (.seq (.seq (.region [⟨(some 38), .faddr 0 (.t 9), none⟩, ⟨(some 39), .load none (.t 38), none⟩, ⟨(some 40), .bin .neq (.t 39) (.c (.v (.int .i64 3))), none⟩])
  (.cond (.t 40) (.exit 5)
  .skip))
  (.seq (.region [⟨(some 41), .load (some 1) (.t 2), none⟩, ⟨(some 42), .faddr 1 (.t 9), none⟩, ⟨(some 43), .load none (.t 42), none⟩, ⟨(some 44), .faddr 2 (.t 9), none⟩, ⟨(some 45), .load none (.t 44), none⟩, ⟨(some 46), .call (.c (.fn 134 [])) [(.t 41), (.t 43), (.t 45)], none⟩, ⟨(some 10), .mv (.t 46), none⟩])
  (.seq (.region [⟨(some 47), .mv (.t 5), none⟩, ⟨(some 48), .faddr 1 (.t 9), none⟩, ⟨(some 49), .load none (.t 48), none⟩, ⟨(some 50), .iaddr 1 (.t 47) (.t 49), none⟩, ⟨(some 51), .load none (.t 50), none⟩, ⟨(some 52), .mv (.t 10), none⟩, ⟨(some 53), .bin .lss (.t 51) (.t 52), none⟩])
  (.cond (.t 53) (.seq (.region [⟨(some 54), .mv (.t 5), none⟩, ⟨(some 55), .faddr 1 (.t 9), none⟩, ⟨(some 56), .load none (.t 55), none⟩, ⟨(some 57), .mv (.t 10), none⟩, ⟨(some 58), .iaddr 1 (.t 54) (.t 56), none⟩, ⟨none, .store 1 (.t 58) (.t 57), none⟩])
  (.region [⟨(some 6), .mv (.c (.v (.bool true))), none⟩]))
  .skip))))))
  (.region [⟨(some 27), .mv (.t 8), none⟩, ⟨(some 28), .bin .add (.t 27) (.c (.v (.int .i64 1))), none⟩, ⟨(some 8), .mv (.t 28), none⟩])))))))
  (.region [⟨(some 19), .mv (.t 7), none⟩, ⟨(some 20), .bin .add (.t 19) (.c (.v (.int .i64 1))), none⟩, ⟨(some 7), .mv (.t 20), none⟩]))))))))))))
  (.seq (.region [⟨(some 59), .mv (.t 5), none⟩, ⟨(some 4), .mv (.t 59), none⟩])
  .ret))))⟩
theorem a_rClose_ok : cFunc Try.prog 88 = some a_rClose := by kernel_rfl
def r_rClose0 : List (Nat × Nat) := [(6, 10), (14, 58)]
def r_rClose1 : List (Nat × Nat) := [(6, 10), (15, 58)]
def r_rClose2 : List (Nat × Nat) := [(6, 6), (8, 10), (21, 58)]
def a_rPast13 : AFunc := ⟨2, 19, [.tmp 4],
  (.seq (.region [⟨(some 2), .box (.t 0), none⟩, ⟨(some 3), .box (.t 1), none⟩, ⟨(some 4), .mv (.c (.v .zsl)), none⟩])
  (.seq (.region [⟨(some 6), .faddr 0 (.t 2), none⟩, ⟨(some 7), .load none (.t 6), none⟩, ⟨(some 8), .len (.t 7), none⟩, ⟨(some 9), .mkslice 1 [(.v (.int .i64 0))] 8 (.t 8) (.t 8), none⟩, ⟨(some 5), .mv (.t 9), none⟩])
  (.seq (.region [⟨(some 10), .mv (.t 5), none⟩, ⟨(some 11), .faddr 0 (.t 3), none⟩, ⟨(some 12), .load none (.t 11), none⟩, ⟨(some 13), .faddr 1 (.t 3), none⟩, ⟨(some 14), .load none (.t 13), none⟩, ⟨(some 15), .iaddr 1 (.t 10) (.t 12), none⟩, ⟨none, .store 1 (.t 15) (.t 14), none⟩])
  (.seq (.region [⟨(some 16), .load (some 1) (.t 2), none⟩, ⟨(some 17), .mv (.t 5), none⟩, ⟨(some 18), .call (.c (.fn 88 [])) [(.t 16), (.t 17)], none⟩, ⟨(some 4), .mv (.t 18), none⟩])
  .ret))))⟩
theorem a_rPast13_ok : cFunc Try.prog 37 = some a_rPast13 := by kernel_rfl
def a_rBef13 : AFunc := ⟨3, 24, [.tmp 6],
  (.seq (.region [⟨(some 3), .box (.t 0), none⟩, ⟨(some 4), .box (.t 1), none⟩, ⟨(some 5), .box (.t 2), none⟩, ⟨(some 6), .mv (.c (.v (.bool false))), none⟩])
  (.seq (.region [⟨(some 8), .load (some 1) (.t 3), none⟩, ⟨(some 9), .load (some 2) (.t 5), none⟩, ⟨(some 10), .call (.c (.fn 37 [])) [(.t 8), (.t 9)], none⟩, ⟨(some 7), .mv (.t 10), none⟩])
  (.seq (.draw [⟨0, ⟨(some 11), .load (some 2) (.t 4), none⟩, []⟩, ⟨1, ⟨(some 12), .load (some 2) (.t 5), none⟩, []⟩, ⟨2, ⟨(some 13), .eqs true [.i, .i] (.t 11) (.t 12), none⟩, []⟩, ⟨3, ⟨(some 14), .mv (.t 13), none⟩, []⟩, ⟨4, ⟨(some 15), .faddr 1 (.t 4), some (14, true)⟩, []⟩, ⟨5, ⟨(some 16), .load none (.t 15), some (14, true)⟩, []⟩, ⟨6, ⟨(some 17), .mv (.t 7), some (14, true)⟩, []⟩, ⟨7, ⟨(some 18), .faddr 0 (.t 4), some (14, true)⟩, []⟩, ⟨8, ⟨(some 19), .load none (.t 18), some (14, true)⟩, []⟩, ⟨9, ⟨(some 20), .iaddr 1 (.t 17) (.t 19), some (14, true)⟩, []⟩, ⟨10, ⟨(some 21), .load none (.t 20), some (14, true)⟩, []⟩, ⟨11, ⟨(some 22), .bin .leq (.t 16) (.t 21), some (14, true)⟩, []⟩, ⟨12, ⟨(some 23), .pick (.t 14) (.t 22) (.c (.v (.bool false))), none⟩, []⟩, ⟨13, ⟨(some 6), .mv (.t 23), none⟩, []⟩])
  .ret)))⟩
theorem a_rBef13_ok : cFunc Try.prog 33 = some a_rBef13 := by kernel_rfl
def a_rFault13 : AFunc := ⟨3, 20, [.tmp 6],
  (.seq (.region [⟨(some 3), .box (.t 0), none⟩, ⟨(some 4), .box (.t 1), none⟩, ⟨(some 5), .box (.t 2), none⟩, ⟨(some 6), .mv (.c (.v (.int .i64 0))), none⟩])
  (.seq (.seq (.region [⟨(some 7), .load (some 1) (.t 3), none⟩, ⟨(some 8), .call (.c (.fn 15 [])) [(.t 7)], none⟩, ⟨(some 9), .not (.t 8), none⟩])
  (.cond (.t 9) (.seq (.region [⟨(some 6), .mv (.c (.v (.int .i64 1))), none⟩])
  .ret)
  .skip))
  (.seq (.seq (.region [⟨(some 10), .load (some 1) (.t 3), none⟩, ⟨(some 11), .load (some 2) (.t 4), none⟩, ⟨(some 12), .call (.c (.fn 25 [])) [(.t 10), (.t 11)], none⟩, ⟨(some 13), .not (.t 12), none⟩, ⟨(some 14), .mv (.t 13), none⟩, ⟨(some 15), .load (some 1) (.t 3), some (14, false)⟩, ⟨(some 16), .load (some 2) (.t 5), some (14, false)⟩, ⟨(some 17), .call (.c (.fn 25 [])) [(.t 15), (.t 16)], some (14, false)⟩, ⟨(some 18), .not (.t 17), some (14, false)⟩, ⟨(some 19), .pick (.t 14) (.c (.v (.bool true))) (.t 18), none⟩])
  (.cond (.t 19) (.seq (.region [⟨(some 6), .mv (.c (.v (.int .i64 2))), none⟩])
  .ret)
  .skip))
  (.seq (.region [⟨(some 6), .mv (.c (.v (.int .i64 0))), none⟩])
  .ret))))⟩
theorem a_rFault13_ok : cFunc Try.prog 32 = some a_rFault13 := by kernel_rfl

theorem rSending_spec (t : Tr) (hS : Small t) (q : Nat) (hq : q < t.length) (m : Int) (b l : List Row) :
    ACalls Try.prog 134 [.agg [.v (eT t)], .v (.int .i64 q), .v (.int .i64 m)] b l (fun r b' l' => r = .v (.int .i64 (firstP (fun k => ((t[q].evs.getD k dfEv).kind == 2) && ((t[q].evs.getD k dfEv).msg == m)) t[q].evs.length + 1)) ∧ b' = b ∧ l' = l) := by
  refine calls_kept a_rSending_ok rfl (by decide) ?_
  intro B g hB hR hE hA
  simp only [KArgs] at hA
  have hne := hS.ne _ (List.getElem_mem hq)
  simp (disch := (first | decide | omega)) only [a_rSending, hA, eT, ePr, List.length_map, go_sem]
  refine loop_kept (ι := Nat) r_rSending0 (fun k => [(8, .v (.int .i64 k))]) 1 (fun k => [.live 0 1 [[.v (.isl 3 (t.map ePr))]]])
    (fun k => k ≤ t[q].evs.length ∧ ∀ j, j < k → (((t[q].evs.getD j dfEv).kind == 2) && ((t[q].evs.getD j dfEv).msg == m)) = false) (fun k => t[q].evs.length - k) 0 ⟨Nat.zero_le _, fun j h => by omega⟩ (by (repeat (first | exact hE.mono (by omega) | refine KLt.up ?_ (by simp (disch := omega) only [AVlt_v, AVlt_any, AVlt_sl, AVlt_ptr, AVlt_mp, AVlt_agg, AVlt_tup, AVlt_fn, RowsLt_nil, RowsLt_live, RowsLt_dead, List.mem_cons, List.not_mem_nil, List.forall_mem_cons, List.forall_mem_nil, or_false, false_or, forall_eq_or_imp, forall_eq, vs_lt, Nat.add_lt_add_iff_left, Nat.reduceLT, true_and, and_true, and_self, List.length_cons, List.length_nil, Nat.reduceAdd, Nat.zero_add, implies_true, false_imp_iff, lt_T, List.mem_map])))) (by ((try simp (disch := decide) only [hA, go_sem]) <;> (repeat' (first | exact trivial | refine And.intro ?_ ?_)) <;> (first | rfl | (congr 2; omega)))) (fun e => Weak.refl _ _ _) ?_
  rintro g1 hE1 hEE1 hg1 k ⟨hk, hbef⟩
  by_cases hkl : k < t[q].evs.length
  · cases h1 : (t[q].evs[k].kind == 2) with
    | false =>
      simp (disch := (first | decide | omega)) only [hA, hg1, eEv, h1, List.length_map, go_sem]
      refine ⟨k + 1, ⟨hkl, fun j hj => ?_⟩, by simp only; omega, ?_⟩
      · by_cases hjk : j = k
        · subst hjk; rw [getD_at hkl, h1]; rfl
        · exact hbef j (by omega)
      · exact Weak.kround (p := r_rSending0) (k := 1) (by ((repeat refine (kAny_up rfl).trans ?_); exact hEE1)) (by ((try simp (disch := decide) only [hA, go_sem]) <;> (repeat' (first | exact trivial | refine And.intro ?_ ?_)) <;> (first | rfl | (congr 2; omega)))) rfl hE1 (by simp) (by simp (disch := omega) only [KOvLt, AVlt_v, AVlt_any, AVlt_sl, AVlt_ptr, AVlt_mp, AVlt_agg, AVlt_tup, AVlt_fn, RowsLt_nil, RowsLt_live, RowsLt_dead, List.mem_cons, List.not_mem_nil, List.forall_mem_cons, List.forall_mem_nil, or_false, false_or, forall_eq_or_imp, forall_eq, vs_lt, Nat.add_lt_add_iff_left, Nat.reduceLT, true_and, and_true, and_self, List.length_cons, List.length_nil, Nat.reduceAdd, Nat.zero_add, implies_true, false_imp_iff, lt_T, List.mem_map]) hR (by simp (disch := omega) only [AVlt_v, AVlt_any, AVlt_sl, AVlt_ptr, AVlt_mp, AVlt_agg, AVlt_tup, AVlt_fn, RowsLt_nil, RowsLt_live, RowsLt_dead, List.mem_cons, List.not_mem_nil, List.forall_mem_cons, List.forall_mem_nil, or_false, false_or, forall_eq_or_imp, forall_eq, vs_lt, Nat.add_lt_add_iff_left, Nat.reduceLT, true_and, and_true, and_self, List.length_cons, List.length_nil, Nat.reduceAdd, Nat.zero_add, implies_true, false_imp_iff, lt_T, List.mem_map])
    | true =>
      cases h2 : (t[q].evs[k].msg == m) with
      | false =>
        simp (disch := (first | decide | omega)) only [hA, hg1, eEv, h1, h2, List.length_map, go_sem]
        refine ⟨k + 1, ⟨hkl, fun j hj => ?_⟩, by simp only; omega, ?_⟩
        · by_cases hjk : j = k
          · subst hjk; rw [getD_at hkl, h2, h1]; rfl
          · exact hbef j (by omega)
        · exact Weak.kround (p := r_rSending0) (k := 1) (by ((repeat refine (kAny_up rfl).trans ?_); exact hEE1)) (by ((try simp (disch := decide) only [hA, go_sem]) <;> (repeat' (first | exact trivial | refine And.intro ?_ ?_)) <;> (first | rfl | (congr 2; omega)))) rfl hE1 (by simp) (by simp (disch := omega) only [KOvLt, AVlt_v, AVlt_any, AVlt_sl, AVlt_ptr, AVlt_mp, AVlt_agg, AVlt_tup, AVlt_fn, RowsLt_nil, RowsLt_live, RowsLt_dead, List.mem_cons, List.not_mem_nil, List.forall_mem_cons, List.forall_mem_nil, or_false, false_or, forall_eq_or_imp, forall_eq, vs_lt, Nat.add_lt_add_iff_left, Nat.reduceLT, true_and, and_true, and_self, List.length_cons, List.length_nil, Nat.reduceAdd, Nat.zero_add, implies_true, false_imp_iff, lt_T, List.mem_map]) hR (by simp (disch := omega) only [AVlt_v, AVlt_any, AVlt_sl, AVlt_ptr, AVlt_mp, AVlt_agg, AVlt_tup, AVlt_fn, RowsLt_nil, RowsLt_live, RowsLt_dead, List.mem_cons, List.not_mem_nil, List.forall_mem_cons, List.forall_mem_nil, or_false, false_or, forall_eq_or_imp, forall_eq, vs_lt, Nat.add_lt_add_iff_left, Nat.reduceLT, true_and, and_true, and_self, List.length_cons, List.length_nil, Nat.reduceAdd, Nat.zero_add, implies_true, false_imp_iff, lt_T, List.mem_map])
      | true =>
        have hf := firstP_at (p := fun k => ((t[q].evs.getD k dfEv).kind == 2) && ((t[q].evs.getD k dfEv).msg == m)) hkl hbef (by rw [getD_at hkl, h1, h2]; rfl)
        rw [hf]
        simp (disch := (first | decide | omega)) only [hA, hg1, eEv, h1, h2, List.length_map, go_sem]
        exact leave_pure (xs := [.v (.int .i64 ((k : Int) + 1))]) (.inr rfl) (by simp (disch := (first | decide | omega)) only [resVs, resV, go_sem, hA, hg1]) (by simp only [one, AVlt_v, AVlt_any, AVlt_sl, AVlt_ptr, AVlt_mp, AVlt_agg, AVlt_tup, AVlt_fn, RowsLt_nil, RowsLt_live, RowsLt_dead, List.mem_cons, List.not_mem_nil, List.forall_mem_cons, List.forall_mem_nil, or_false, false_or, forall_eq_or_imp, forall_eq, vs_lt, Nat.add_lt_add_iff_left, Nat.reduceLT, true_and, and_true, and_self, List.length_cons, List.length_nil, Nat.reduceAdd, Nat.zero_add, implies_true, false_imp_iff, lt_T, List.mem_map]) hR hB ⟨rfl, rfl, rfl⟩
  · have hf := firstP_none (p := fun k => ((t[q].evs.getD k dfEv).kind == 2) && ((t[q].evs.getD k dfEv).msg == m)) (n := t[q].evs.length) (fun j hj => hbef j (by omega))
    rw [hf]
    simp (disch := (first | decide | omega)) only [hA, hg1, List.length_map, go_sem]
    exact leave_pure (xs := [.v (.int .i64 0)]) (.inr rfl) (by simp (disch := (first | decide | omega)) only [resVs, resV, go_sem, hA, hg1]) (by simp only [one, AVlt_v, AVlt_any, AVlt_sl, AVlt_ptr, AVlt_mp, AVlt_agg, AVlt_tup, AVlt_fn, RowsLt_nil, RowsLt_live, RowsLt_dead, List.mem_cons, List.not_mem_nil, List.forall_mem_cons, List.forall_mem_nil, or_false, false_or, forall_eq_or_imp, forall_eq, vs_lt, Nat.add_lt_add_iff_left, Nat.reduceLT, true_and, and_true, and_self, List.length_cons, List.length_nil, Nat.reduceAdd, Nat.zero_add, implies_true, false_imp_iff, lt_T, List.mem_map]) hR hB ⟨rfl, rfl, rfl⟩
theorem rSending_of (t : Tr) (hv : Vok t) (hS : Small t) (x : Nat × Nat) (hx : x ∈ ids t) (hk : (evAt t x).kind = 3) (b l : List Row) :
    ACalls Try.prog 134 [.agg [.v (eT t)], .v (.int .i64 (sndr t x).1), .v (.int .i64 (evAt t x).msg)] b l (fun r b' l' => r = .v (.int .i64 ((sndr t x).2 : Nat)) ∧ b' = b ∧ l' = l) := by
  obtain ⟨s1, _⟩ := sndr_in hv hx hk
  obtain ⟨⟨sp, si⟩, hs⟩ : ∃ s, sndr t x = s := ⟨_, rfl⟩
  rw [hs] at s1 ⊢
  obtain ⟨si, rfl⟩ : ∃ k, si = k + 1 := ⟨si - 1, by have := mem_pos s1; simp only at this; omega⟩
  obtain ⟨h1, h2⟩ := mem_ids2.1 s1
  rw [evsOf_lt h1] at h2
  have := rSending_spec t hS sp h1 (evAt t x).msg b l
  rw [sndr_first hv hx hk hs h1 h2] at this
  exact this
theorem cnt_up {t : Tr} {c : Nat → Nat} {q v : Nat} : (cntR t c).set q [.int .i64 (v : Nat)] = cntR t (fUp c q v) := by
  unfold cntR
  rw [fl_set]
  refine fl_congr (fun r _ => ?_)
  by_cases hr : r = q
  · subst hr; rw [fUp_same, fUp_same]
  · rw [fUp_ne hr, fUp_ne hr]
/-- What a sweep has done since c0, before event k of process i. -/
structure Swp (t : Tr) (x : Nat × Nat) (c0 : Nat → Nat) (i k : Nat) (c : Nat → Nat) (ag : Bool) : Prop where
  inv : Cinv t x c
  no : ag = false → c = c0 ∧ (∀ q, q < i → ∀ j, j < c q → okC t c q j) ∧ ∀ j, j < k → okC t c i j
  yes : ag = true → remT t c < remT t c0
set_option maxRecDepth 20000 in
set_option maxHeartbeats 4000000 in
theorem rClose_spec (t : Tr) (hv : Vok t) (hS : Small t) (hC : (ids t).length ≤ 1000000) (x : Nat × Nat) (hx : x ∈ ids t) (c0 : Nat → Nat) (h0 : Cinv t x c0) (b l : List Row) :
    ACalls Try.prog 88 [.agg [.v (eT t)], .v (.isl 1 (cntR t c0))] b l (fun r b' l' => r = .v (.isl 1 ((vcs t x).map eI)) ∧ b' = b ∧ l' = l) := by
  refine calls_kept a_rClose_ok rfl (by decide) ?_
  intro B g hB hR hE hA
  simp only [KArgs] at hA
  have hnp := hS.np
  have hcl : ∀ c, (cntR t c).length = t.length := fun c => fl_len
  have ht1 := hv.lo
  simp (disch := (first | decide | omega)) only [a_rClose, hA, hcl, go_sem]
  refine loop_kept (ι := (Nat → Nat) × Bool) r_rClose0 (fun s => [(6, .v (.bool s.2))]) 2 (fun s => [.live 0 1 [[.v (eT t)]], .live 1 1 (vs (cntR t s.1))])
    (fun s => Cinv t x s.1 ∧ (s.2 = false → ∀ q, q < t.length → ∀ j, j < s.1 q → okC t s.1 q j)) (fun s => 2 * remT t s.1 + cond s.2 1 0) (c0, true) ⟨h0, fun h => by cases h⟩ (by (repeat (first | exact hE.mono (by omega) | refine KLt.up ?_ (by simp (disch := omega) only [AVlt_v, AVlt_any, AVlt_sl, AVlt_ptr, AVlt_mp, AVlt_agg, AVlt_tup, AVlt_fn, RowsLt_nil, RowsLt_live, RowsLt_dead, List.mem_cons, List.not_mem_nil, List.forall_mem_cons, List.forall_mem_nil, or_false, false_or, forall_eq_or_imp, forall_eq, vs_lt, Nat.add_lt_add_iff_left, Nat.reduceLT, true_and, and_true, and_self, List.length_cons, List.length_nil, Nat.reduceAdd, Nat.zero_add, implies_true, false_imp_iff, lt_T, List.mem_map])))) (by ((try simp (disch := decide) only [hA, go_sem]) <;> (repeat' (first | exact trivial | refine And.intro ?_ ?_)) <;> (first | rfl | (congr 2; omega)))) (fun e => Weak.refl _ _ _) ?_
  rintro g1 hE1 hEE1 hg1 ⟨c1, ag1⟩ ⟨hc1, hcl1⟩
  simp only at hc1 hcl1
  cases ag1 with
  | false =>
    simp (disch := (first | decide | omega)) only [hA, hg1, go_sem]
    have he : cntR t c1 = (vcs t x).map eI := by
      unfold cntR vcs
      rw [fl_map]
      refine fl_congr (fun q hq => ?_)
      rw [hc1.done hv hx (hcl1 rfl) hq]; rfl
    rw [he]
    exact leave_frz (i := 1) (ver := 1) (sz := 1) (n := t.length) (rows := (vcs t x).map eI) (.inr rfl) (by simp (disch := (first | decide | omega)) only [resVs, resV, hA, hg1, go_sem]) rfl (by simp [vcs, fl_len]) hR hB ⟨rfl, rfl, rfl⟩
  | true =>
    simp (disch := (first | decide | omega)) only [hA, hg1, go_sem]
    refine loop_kept (ι := Nat × (Nat → Nat) × Bool) r_rClose1 (fun s => [(7, .v (.int .i64 s.1)), (6, .v (.bool s.2.2))]) 2 (fun s => [.live 0 1 [[.v (eT t)]], .live 1 1 (vs (cntR t s.2.1))])
      (fun s => s.1 ≤ t.length ∧ Swp t x c1 s.1 0 s.2.1 s.2.2) (fun s => t.length - s.1) (0, c1, false) ⟨Nat.zero_le _, hc1, fun _ => ⟨rfl, fun q h => by omega, fun j h => by omega⟩, fun h => by cases h⟩ (by (repeat (first | exact hE1.mono (by omega) | refine KLt.up ?_ (by simp (disch := omega) only [AVlt_v, AVlt_any, AVlt_sl, AVlt_ptr, AVlt_mp, AVlt_agg, AVlt_tup, AVlt_fn, RowsLt_nil, RowsLt_live, RowsLt_dead, List.mem_cons, List.not_mem_nil, List.forall_mem_cons, List.forall_mem_nil, or_false, false_or, forall_eq_or_imp, forall_eq, vs_lt, Nat.add_lt_add_iff_left, Nat.reduceLT, true_and, and_true, and_self, List.length_cons, List.length_nil, Nat.reduceAdd, Nat.zero_add, implies_true, false_imp_iff, lt_T, List.mem_map])))) (by ((try simp (disch := decide) only [hA, hg1, go_sem]) <;> (repeat' (first | exact trivial | refine And.intro ?_ ?_)) <;> (first | rfl | (congr 2; omega)))) (fun e => Weak.refl _ _ _) ?_
    rintro g2 hE2 hEE2 hg2 ⟨i, c2, ag2⟩ ⟨hi, hw2⟩
    simp only at hi hw2
    by_cases hil : i < t.length
    · simp (disch := (first | decide | omega)) only [hA, hg1, hg2, hcl, go_sem]
      refine loop_kept (ι := Nat × (Nat → Nat) × Bool) r_rClose2 (fun s => [(8, .v (.int .i64 s.1)), (6, .v (.bool s.2.2))]) 2 (fun s => [.live 0 1 [[.v (eT t)]], .live 1 1 (vs (cntR t s.2.1))])
        (fun s => s.1 ≤ c2 i ∧ s.2.1 i = c2 i ∧ Swp t x c1 i s.1 s.2.1 s.2.2) (fun s => c2 i - s.1) (0, c2, ag2) ⟨Nat.zero_le _, rfl, hw2⟩ (by (repeat (first | exact hE2.mono (by omega) | refine KLt.up ?_ (by simp (disch := omega) only [AVlt_v, AVlt_any, AVlt_sl, AVlt_ptr, AVlt_mp, AVlt_agg, AVlt_tup, AVlt_fn, RowsLt_nil, RowsLt_live, RowsLt_dead, List.mem_cons, List.not_mem_nil, List.forall_mem_cons, List.forall_mem_nil, or_false, false_or, forall_eq_or_imp, forall_eq, vs_lt, Nat.add_lt_add_iff_left, Nat.reduceLT, true_and, and_true, and_self, List.length_cons, List.length_nil, Nat.reduceAdd, Nat.zero_add, implies_true, false_imp_iff, lt_T, List.mem_map])))) (by ((try simp (disch := decide) only [hA, hg1, hg2, go_sem]) <;> (repeat' (first | exact trivial | refine And.intro ?_ ?_)) <;> (first | rfl | (congr 2; omega)))) (fun e => Weak.refl _ _ _) ?_
      rintro g3 hE3 hEE3 hg3 ⟨k, c, ag⟩ ⟨hk, hci, hw⟩
      simp only at hk hci hw
      have hce : (vs (cntR t c))[i]? = some [.v (.int .i64 (c i))] := by
        unfold vs cntR; rw [List.getElem?_map, fl_get hil]; rfl
      have heo := evsOf_lt hil
      have hdn := hw.inv.dn i
      rw [heo] at hdn
      have hne := hS.ne _ (List.getElem_mem hil)
      by_cases hkl : k < c i
      · have hd : decide ((k : Int) < (c i : Int)) = true := decide_eq_true (by omega)
        have hke : k < t[i].evs.length := by omega
        have hev := evAt_eq hil hke
        obtain ⟨hm, hmx⟩ := hw.inv.at hkl
        by_cases hk3 : t[i].evs[k].kind = 3
        · have hk3' : (evAt t (i, k + 1)).kind = 3 := by rw [hev]; exact hk3
          have hkb : (t[i].evs[k].kind != 3) = false := by rw [hk3]; rfl
          obtain ⟨pe, pne, _, _⟩ := sndr_peer hv hm hk3'
          have hse := fun b l => rSending_of t hv hS (i, k + 1) hm hk3' b l
          rw [hev] at hse pe
          obtain ⟨s1, _⟩ := sndr_in hv hm hk3'
          obtain ⟨⟨sp, si⟩, hs⟩ : ∃ s, sndr t (i, k + 1) = s := ⟨_, rfl⟩
          rw [hs] at hse pe pne s1
          simp only at hse pe pne
          have hsp : sp < t.length := (mem_ids.1 s1).1
          have hcs : (vs (cntR t c))[sp]? = some [.v (.int .i64 (c sp))] := by
            unfold vs cntR; rw [List.getElem?_map, fl_get hsp]; rfl
          simp only [eT] at hse
          by_cases hlt : c sp < si
          · have hd2 : decide ((c sp : Int) < (si : Int)) = true := decide_eq_true (by omega)
            have hup := cnt_up (t := t) (c := c) (q := sp) (v := si)
            have hsl := (mem_ids.1 s1).2.2
            simp only at hsl
            simp (disch := (first | decide | omega)) only [hA, hg1, hg2, hg3, eT, ePr, eEv, hce, hd, hkb, pe, List.length_map, go_sem]
            refine ACalls.nxt (hse _ _) ?_
            simp (disch := (first | decide | omega)) only [hA, hg1, hg2, hg3, hcs, hd2, hcl, hup, List.length_map, go_sem]
            have hw' : Swp t x c1 i (k + 1) (fUp c sp si) true := by
              have hu := hw.inv.up hv hkl hk3' (by rw [hs]; exact hlt)
              rw [hs] at hu
              refine ⟨hu, fun h => absurd h (by simp), fun _ => ?_⟩
              have hr := remT_raise (D := c) hsp hlt (by rw [evsOf_lt hsp]; exact hsl)
              cases ag with
              | true => have := hw.yes rfl; omega
              | false => rw [← (hw.no rfl).1]; exact hr
            refine ⟨(k + 1, fUp c sp si, true), ⟨by omega, by simp only; rw [fUp_ne (fun h => pne h.symm)]; exact hci, hw'⟩, by simp only; omega, ?_⟩
            exact Weak.kround (l1 := [.live 0 1 [[.v (.isl 3 (t.map ePr))]], .live 1 1 (vs (cntR t (fUp c sp si)))]) (p := r_rClose2) (k := 2) (by ((repeat refine (kAny_up rfl).trans ?_); exact hEE3)) (by ((try simp (disch := decide) only [hA, go_sem]) <;> (repeat' (first | exact trivial | refine And.intro ?_ ?_)) <;> (first | rfl | (congr 2; omega)))) rfl hE3 (by simp) (by simp (disch := omega) only [KOvLt, AVlt_v, AVlt_any, AVlt_sl, AVlt_ptr, AVlt_mp, AVlt_agg, AVlt_tup, AVlt_fn, RowsLt_nil, RowsLt_live, RowsLt_dead, List.mem_cons, List.not_mem_nil, List.forall_mem_cons, List.forall_mem_nil, or_false, false_or, forall_eq_or_imp, forall_eq, vs_lt, Nat.add_lt_add_iff_left, Nat.reduceLT, true_and, and_true, and_self, List.length_cons, List.length_nil, Nat.reduceAdd, Nat.zero_add, implies_true, false_imp_iff, lt_T, List.mem_map]) hR (by simp (disch := omega) only [AVlt_v, AVlt_any, AVlt_sl, AVlt_ptr, AVlt_mp, AVlt_agg, AVlt_tup, AVlt_fn, RowsLt_nil, RowsLt_live, RowsLt_dead, List.mem_cons, List.not_mem_nil, List.forall_mem_cons, List.forall_mem_nil, or_false, false_or, forall_eq_or_imp, forall_eq, vs_lt, Nat.add_lt_add_iff_left, Nat.reduceLT, true_and, and_true, and_self, List.length_cons, List.length_nil, Nat.reduceAdd, Nat.zero_add, implies_true, false_imp_iff, lt_T, List.mem_map])
          · have hd2 : decide ((c sp : Int) < (si : Int)) = false := decide_eq_false (by omega)
            simp (disch := (first | decide | omega)) only [hA, hg1, hg2, hg3, eT, ePr, eEv, hce, hd, hkb, pe, List.length_map, go_sem]
            refine ACalls.nxt (hse _ _) ?_
            simp (disch := (first | decide | omega)) only [hA, hg1, hg2, hg3, hcs, hd2, hcl, List.length_map, go_sem]
            refine ⟨(k + 1, c, ag), ⟨by omega, hci, hw.inv, fun h => ?_, hw.yes⟩, by simp only; omega, ?_⟩
            · obtain ⟨q1, q2, q3⟩ := hw.no h
              refine ⟨q1, q2, fun j hj => ?_⟩
              by_cases hjk : j = k
              · subst hjk; intro _; rw [hs]; simp only; omega
              · exact q3 j (by omega)
            · exact Weak.kround (l1 := [.live 0 1 [[.v (.isl 3 (t.map ePr))]], .live 1 1 (vs (cntR t c))]) (p := r_rClose2) (k := 2) (by ((repeat refine (kAny_up rfl).trans ?_); exact hEE3)) (by ((try simp (disch := decide) only [hA, go_sem]) <;> (repeat' (first | exact trivial | refine And.intro ?_ ?_)) <;> (first | rfl | (congr 2; omega)))) rfl hE3 (by simp) (by simp (disch := omega) only [KOvLt, AVlt_v, AVlt_any, AVlt_sl, AVlt_ptr, AVlt_mp, AVlt_agg, AVlt_tup, AVlt_fn, RowsLt_nil, RowsLt_live, RowsLt_dead, List.mem_cons, List.not_mem_nil, List.forall_mem_cons, List.forall_mem_nil, or_false, false_or, forall_eq_or_imp, forall_eq, vs_lt, Nat.add_lt_add_iff_left, Nat.reduceLT, true_and, and_true, and_self, List.length_cons, List.length_nil, Nat.reduceAdd, Nat.zero_add, implies_true, false_imp_iff, lt_T, List.mem_map]) hR (by simp (disch := omega) only [AVlt_v, AVlt_any, AVlt_sl, AVlt_ptr, AVlt_mp, AVlt_agg, AVlt_tup, AVlt_fn, RowsLt_nil, RowsLt_live, RowsLt_dead, List.mem_cons, List.not_mem_nil, List.forall_mem_cons, List.forall_mem_nil, or_false, false_or, forall_eq_or_imp, forall_eq, vs_lt, Nat.add_lt_add_iff_left, Nat.reduceLT, true_and, and_true, and_self, List.length_cons, List.length_nil, Nat.reduceAdd, Nat.zero_add, implies_true, false_imp_iff, lt_T, List.mem_map])
        · have hkb : (t[i].evs[k].kind != 3) = true := by rw [bne_iff_ne]; exact hk3
          simp (disch := (first | decide | omega)) only [hA, hg1, hg2, hg3, eT, ePr, eEv, hce, hd, hkb, List.length_map, go_sem]
          refine ⟨(k + 1, c, ag), ⟨by omega, hci, hw.inv, fun h => ?_, hw.yes⟩, by simp only; omega, ?_⟩
          · obtain ⟨q1, q2, q3⟩ := hw.no h
            refine ⟨q1, q2, fun j hj => ?_⟩
            by_cases hjk : j = k
            · subst hjk; intro h3; rw [hev] at h3; exact absurd h3 hk3
            · exact q3 j (by omega)
          · exact Weak.kround (l1 := [.live 0 1 [[.v (.isl 3 (t.map ePr))]], .live 1 1 (vs (cntR t c))]) (p := r_rClose2) (k := 2) (by ((repeat refine (kAny_up rfl).trans ?_); exact hEE3)) (by ((try simp (disch := decide) only [hA, go_sem]) <;> (repeat' (first | exact trivial | refine And.intro ?_ ?_)) <;> (first | rfl | (congr 2; omega)))) rfl hE3 (by simp) (by simp (disch := omega) only [KOvLt, AVlt_v, AVlt_any, AVlt_sl, AVlt_ptr, AVlt_mp, AVlt_agg, AVlt_tup, AVlt_fn, RowsLt_nil, RowsLt_live, RowsLt_dead, List.mem_cons, List.not_mem_nil, List.forall_mem_cons, List.forall_mem_nil, or_false, false_or, forall_eq_or_imp, forall_eq, vs_lt, Nat.add_lt_add_iff_left, Nat.reduceLT, true_and, and_true, and_self, List.length_cons, List.length_nil, Nat.reduceAdd, Nat.zero_add, implies_true, false_imp_iff, lt_T, List.mem_map]) hR (by simp (disch := omega) only [AVlt_v, AVlt_any, AVlt_sl, AVlt_ptr, AVlt_mp, AVlt_agg, AVlt_tup, AVlt_fn, RowsLt_nil, RowsLt_live, RowsLt_dead, List.mem_cons, List.not_mem_nil, List.forall_mem_cons, List.forall_mem_nil, or_false, false_or, forall_eq_or_imp, forall_eq, vs_lt, Nat.add_lt_add_iff_left, Nat.reduceLT, true_and, and_true, and_self, List.length_cons, List.length_nil, Nat.reduceAdd, Nat.zero_add, implies_true, false_imp_iff, lt_T, List.mem_map])
      · have hd : decide ((k : Int) < (c i : Int)) = false := decide_eq_false (by omega)
        simp (disch := (first | decide | omega)) only [hA, hg1, hg2, hg3, hce, hd, go_sem]
        refine ⟨(i + 1, c, ag), ⟨hil, hw.inv, fun h => ?_, hw.yes⟩, by simp only; omega, ?_⟩
        · obtain ⟨q1, q2, q3⟩ := hw.no h
          refine ⟨q1, fun q hq j hj => ?_, fun j hj => by omega⟩
          by_cases hqi : q = i
          · have hj' : j < c i := by rw [← hqi]; exact hj
            rw [hqi]; exact q3 j (by omega)
          · exact q2 q (by omega) j hj
        · exact Weak.kround (p := r_rClose1) (k := 2) (by ((repeat refine (kAny_up rfl).trans ?_); refine (kAny_sub hg3 (kIn_sub rfl)).trans ?_; (repeat refine (kAny_up rfl).trans ?_); exact hEE2)) (by ((try simp (disch := decide) only [hA, go_sem]) <;> (repeat' (first | exact trivial | refine And.intro ?_ ?_)) <;> (first | rfl | (congr 2; omega)))) rfl hE2 (by simp) (by simp (disch := omega) only [KOvLt, AVlt_v, AVlt_any, AVlt_sl, AVlt_ptr, AVlt_mp, AVlt_agg, AVlt_tup, AVlt_fn, RowsLt_nil, RowsLt_live, RowsLt_dead, List.mem_cons, List.not_mem_nil, List.forall_mem_cons, List.forall_mem_nil, or_false, false_or, forall_eq_or_imp, forall_eq, vs_lt, Nat.add_lt_add_iff_left, Nat.reduceLT, true_and, and_true, and_self, List.length_cons, List.length_nil, Nat.reduceAdd, Nat.zero_add, implies_true, false_imp_iff, lt_T, List.mem_map]) hR (by simp (disch := omega) only [AVlt_v, AVlt_any, AVlt_sl, AVlt_ptr, AVlt_mp, AVlt_agg, AVlt_tup, AVlt_fn, RowsLt_nil, RowsLt_live, RowsLt_dead, List.mem_cons, List.not_mem_nil, List.forall_mem_cons, List.forall_mem_nil, or_false, false_or, forall_eq_or_imp, forall_eq, vs_lt, Nat.add_lt_add_iff_left, Nat.reduceLT, true_and, and_true, and_self, List.length_cons, List.length_nil, Nat.reduceAdd, Nat.zero_add, implies_true, false_imp_iff, lt_T, List.mem_map])
    · simp (disch := (first | decide | omega)) only [hA, hg1, hg2, hcl, go_sem]
      obtain rfl : i = t.length := by omega
      refine ⟨(c2, ag2), ⟨hw2.inv, fun h => (hw2.no h).2.1⟩, ?_, ?_⟩
      · cases ag2 with
        | true => have := hw2.yes rfl; simp only [cond]; omega
        | false => rw [(hw2.no rfl).1]; simp only [cond]; omega
      · exact Weak.kround (p := r_rClose0) (k := 2) (by ((repeat refine (kAny_up rfl).trans ?_); refine (kAny_sub hg2 (kIn_sub rfl)).trans ?_; (repeat refine (kAny_up rfl).trans ?_); exact hEE1)) (by ((try simp (disch := decide) only [hA, go_sem]) <;> (repeat' (first | exact trivial | refine And.intro ?_ ?_)) <;> (first | rfl | (congr 2; omega)))) rfl hE1 (by simp) (by simp (disch := omega) only [KOvLt, AVlt_v, AVlt_any, AVlt_sl, AVlt_ptr, AVlt_mp, AVlt_agg, AVlt_tup, AVlt_fn, RowsLt_nil, RowsLt_live, RowsLt_dead, List.mem_cons, List.not_mem_nil, List.forall_mem_cons, List.forall_mem_nil, or_false, false_or, forall_eq_or_imp, forall_eq, vs_lt, Nat.add_lt_add_iff_left, Nat.reduceLT, true_and, and_true, and_self, List.length_cons, List.length_nil, Nat.reduceAdd, Nat.zero_add, implies_true, false_imp_iff, lt_T, List.mem_map]) hR (by simp (disch := omega) only [AVlt_v, AVlt_any, AVlt_sl, AVlt_ptr, AVlt_mp, AVlt_agg, AVlt_tup, AVlt_fn, RowsLt_nil, RowsLt_live, RowsLt_dead, List.mem_cons, List.not_mem_nil, List.forall_mem_cons, List.forall_mem_nil, or_false, false_or, forall_eq_or_imp, forall_eq, vs_lt, Nat.add_lt_add_iff_left, Nat.reduceLT, true_and, and_true, and_self, List.length_cons, List.length_nil, Nat.reduceAdd, Nat.zero_add, implies_true, false_imp_iff, lt_T, List.mem_map])
theorem rPast13_spec (t : Tr) (hv : Vok t) (hS : Small t) (hC : (ids t).length ≤ 1000000) (x : Nat × Nat) (hx : x ∈ ids t) (b l : List Row) :
    ACalls Try.prog 37 [.agg [.v (eT t)], idA x] b l (fun r b' l' => r = .v (.isl 1 ((vcs t x).map eI)) ∧ b' = b ∧ l' = l) := by
  refine calls_kept a_rPast13_ok rfl (by decide) ?_
  intro B g hB hR hE hA
  simp only [KArgs] at hA
  obtain ⟨p, i⟩ := x
  have hp := (mem_ids.1 hx).1
  simp only at hp
  have hnp := hS.np
  have hz : List.replicate t.length [IV.int .i64 0] = cntR t (fun _ => 0) := by unfold cntR; rw [fl_const]; rfl
  have hup := cnt_up (t := t) (c := fun _ => 0) (q := p) (v := i)
  have hcl : ∀ c, (cntR t c).length = t.length := fun c => fl_len
  have hcc := fun b l => rClose_spec t hv hS hC (p, i) hx (clo0 (p, i)) (.start hv hx) b l
  simp only [clo0, eT] at hcc
  have hg0 : (cntR t fun _ => 0)[p]? = some [.int .i64 0] := fl_get hp
  simp (disch := (first | decide | omega)) only [a_rPast13, hA, idA, eT, hz, hg0, hup, hcl, setFrom, cellsOf, List.length_map, go_sem]
  refine ACalls.frzB (i := 2) (ver := 0) (sz := 1) (rows := cntR t (fUp (fun _ => 0) p i)) (args' := [.agg [.v (.isl 3 (t.map ePr))], .v (.isl 1 (cntR t (fUp (fun _ => 0) p i)))]) rfl (by simp [frz, frz0, hcl, List.take_of_length_le]) ?_
  refine ACalls.nxt (hcc _ _) ?_
  simp (disch := (first | decide | omega)) only [hA, go_sem]
  exact leave_pure (xs := [.v (.isl 1 ((vcs t (p, i)).map eI))]) (.inr rfl) (by simp (disch := (first | decide | omega)) only [resVs, resV, go_sem, hA]) (by simp only [one, AVlt_v, AVlt_any, AVlt_sl, AVlt_ptr, AVlt_mp, AVlt_agg, AVlt_tup, AVlt_fn, RowsLt_nil, RowsLt_live, RowsLt_dead, List.mem_cons, List.not_mem_nil, List.forall_mem_cons, List.forall_mem_nil, or_false, false_or, forall_eq_or_imp, forall_eq, vs_lt, Nat.add_lt_add_iff_left, Nat.reduceLT, true_and, and_true, and_self, List.length_cons, List.length_nil, Nat.reduceAdd, Nat.zero_add, implies_true, false_imp_iff, lt_T, List.mem_map]) hR hB ⟨rfl, rfl, rfl⟩
theorem rBef13_spec (t : Tr) (hv : Vok t) (hS : Small t) (hC : (ids t).length ≤ 1000000) (x y : Nat × Nat) (hx : x ∈ ids t) (hy : y ∈ ids t) (b l : List Row) :
    ACalls Try.prog 33 [.agg [.v (eT t)], idA x, idA y] b l (fun r b' l' => r = .v (.bool (befB t x y)) ∧ b' = b ∧ l' = l) := by
  refine calls_kept a_rBef13_ok rfl (by decide) ?_
  intro B g hB hR hE hA
  simp only [KArgs] at hA
  obtain ⟨p, i⟩ := x
  obtain ⟨q, j⟩ := y
  have hp := (mem_ids.1 hx).1
  simp only at hp
  have hpa := fun b l => rPast13_spec t hv hS hC (q, j) hy b l
  simp only [idA] at hpa
  have hgt : ((vcs t (q, j)).map eI)[p]? = some [.int .i64 (vc t (q, j) p)] := by
    unfold vcs; rw [List.getElem?_map, fl_get hp]; rfl
  have heq : (((p : Int) == (q : Int)) && ((i : Int) == (j : Int))) = decide ((p, i) = (q, j)) := by
    rw [Bool.eq_iff_iff]; simp; omega
  simp (disch := (first | decide | omega)) only [a_rBef13, hA, idA, go_sem]
  refine ACalls.nxt (hpa _ _) ?_
  by_cases he : (p, i) = (q, j)
  · rw [decide_eq_true he] at heq
    simp (disch := (first | decide | omega)) only [hA, heq, go_sem]
    exact leave_pure (xs := [.v (.bool false)]) (.inr rfl) (by simp (disch := (first | decide | omega)) only [resVs, resV, go_sem, hA]) (by simp only [one, AVlt_v, AVlt_any, AVlt_sl, AVlt_ptr, AVlt_mp, AVlt_agg, AVlt_tup, AVlt_fn, RowsLt_nil, RowsLt_live, RowsLt_dead, List.mem_cons, List.not_mem_nil, List.forall_mem_cons, List.forall_mem_nil, or_false, false_or, forall_eq_or_imp, forall_eq, vs_lt, Nat.add_lt_add_iff_left, Nat.reduceLT, true_and, and_true, and_self, List.length_cons, List.length_nil, Nat.reduceAdd, Nat.zero_add, implies_true, false_imp_iff, lt_T, List.mem_map]) hR hB ⟨by unfold befB; rw [decide_eq_true he]; rfl, rfl, rfl⟩
  · rw [decide_eq_false he] at heq
    have hb : befB t (p, i) (q, j) = decide ((i : Int) ≤ (vc t (q, j) p : Int)) := by unfold befB; rw [decide_eq_false he]; simp
    rw [hb]
    simp (disch := (first | decide | omega)) only [hA, heq, hgt, go_sem]
    exact leave_pure (xs := [.v (.bool (decide ((i : Int) ≤ (vc t (q, j) p : Int))))]) (.inr rfl) (by simp (disch := (first | decide | omega)) only [resVs, resV, go_sem, hA]) (by simp only [one, AVlt_v, AVlt_any, AVlt_sl, AVlt_ptr, AVlt_mp, AVlt_agg, AVlt_tup, AVlt_fn, RowsLt_nil, RowsLt_live, RowsLt_dead, List.mem_cons, List.not_mem_nil, List.forall_mem_cons, List.forall_mem_nil, or_false, false_or, forall_eq_or_imp, forall_eq, vs_lt, Nat.add_lt_add_iff_left, Nat.reduceLT, true_and, and_true, and_self, List.length_cons, List.length_nil, Nat.reduceAdd, Nat.zero_add, implies_true, false_imp_iff, lt_T, List.mem_map]) hR hB ⟨rfl, rfl, rfl⟩
theorem rFault13_spec (t : Tr) (hS : Small t) (hN : Nm t) (x y : Int × Int) (b l : List Row) :
    ACalls Try.prog 32 [.agg [.v (eT t)], idP x, idP y] b l (fun r b' l' => r = .v (.int .i64 (chkE t [x, y])) ∧ b' = b ∧ l' = l) := by
  refine calls_kept a_rFault13_ok rfl (by decide) ?_
  intro B g hB hR hE hA
  simp only [KArgs] at hA
  have his := fun x b l => rIs_spec t hS x b l
  simp only [idP] at his
  simp (disch := (first | decide | omega)) only [a_rFault13, hA, idP, go_sem]
  refine ACalls.nxt (rvalid_spec t hS hN _ _) ?_
  cases hval : validL t with
  | false =>
    simp (disch := (first | decide | omega)) only [hA, go_sem]
    exact leave_pure (xs := [.v (.int .i64 1)]) (.inr rfl) (by simp (disch := (first | decide | omega)) only [resVs, resV, go_sem, hA]) (by simp only [one, AVlt_v, AVlt_any, AVlt_sl, AVlt_ptr, AVlt_mp, AVlt_agg, AVlt_tup, AVlt_fn, RowsLt_nil, RowsLt_live, RowsLt_dead, List.mem_cons, List.not_mem_nil, List.forall_mem_cons, List.forall_mem_nil, or_false, false_or, forall_eq_or_imp, forall_eq, vs_lt, Nat.add_lt_add_iff_left, Nat.reduceLT, true_and, and_true, and_self, List.length_cons, List.length_nil, Nat.reduceAdd, Nat.zero_add, implies_true, false_imp_iff, lt_T, List.mem_map]) hR hB ⟨by unfold chkE; rw [hval]; rfl, rfl, rfl⟩
  | true =>
    simp (disch := (first | decide | omega)) only [hA, go_sem]
    refine ACalls.nxt (his x _ _) ?_
    cases hx : existsB t x.1 x.2 with
    | false =>
      simp (disch := (first | decide | omega)) only [hA, go_sem]
      exact leave_pure (xs := [.v (.int .i64 2)]) (.inr rfl) (by simp (disch := (first | decide | omega)) only [resVs, resV, go_sem, hA]) (by simp only [one, AVlt_v, AVlt_any, AVlt_sl, AVlt_ptr, AVlt_mp, AVlt_agg, AVlt_tup, AVlt_fn, RowsLt_nil, RowsLt_live, RowsLt_dead, List.mem_cons, List.not_mem_nil, List.forall_mem_cons, List.forall_mem_nil, or_false, false_or, forall_eq_or_imp, forall_eq, vs_lt, Nat.add_lt_add_iff_left, Nat.reduceLT, true_and, and_true, and_self, List.length_cons, List.length_nil, Nat.reduceAdd, Nat.zero_add, implies_true, false_imp_iff, lt_T, List.mem_map]) hR hB ⟨by unfold chkE; rw [hval]; simp [hx, one], rfl, rfl⟩
    | true =>
      simp (disch := (first | decide | omega)) only [hA, go_sem]
      refine ACalls.nxt (his y _ _) ?_
      cases hy : existsB t y.1 y.2 with
      | false =>
        simp (disch := (first | decide | omega)) only [hA, go_sem]
        exact leave_pure (xs := [.v (.int .i64 2)]) (.inr rfl) (by simp (disch := (first | decide | omega)) only [resVs, resV, go_sem, hA]) (by simp only [one, AVlt_v, AVlt_any, AVlt_sl, AVlt_ptr, AVlt_mp, AVlt_agg, AVlt_tup, AVlt_fn, RowsLt_nil, RowsLt_live, RowsLt_dead, List.mem_cons, List.not_mem_nil, List.forall_mem_cons, List.forall_mem_nil, or_false, false_or, forall_eq_or_imp, forall_eq, vs_lt, Nat.add_lt_add_iff_left, Nat.reduceLT, true_and, and_true, and_self, List.length_cons, List.length_nil, Nat.reduceAdd, Nat.zero_add, implies_true, false_imp_iff, lt_T, List.mem_map]) hR hB ⟨by unfold chkE; rw [hval]; simp [hx, hy, one], rfl, rfl⟩
      | true =>
        simp (disch := (first | decide | omega)) only [hA, go_sem]
        exact leave_pure (xs := [.v (.int .i64 0)]) (.inr rfl) (by simp (disch := (first | decide | omega)) only [resVs, resV, go_sem, hA]) (by simp only [one, AVlt_v, AVlt_any, AVlt_sl, AVlt_ptr, AVlt_mp, AVlt_agg, AVlt_tup, AVlt_fn, RowsLt_nil, RowsLt_live, RowsLt_dead, List.mem_cons, List.not_mem_nil, List.forall_mem_cons, List.forall_mem_nil, or_false, false_or, forall_eq_or_imp, forall_eq, vs_lt, Nat.add_lt_add_iff_left, Nat.reduceLT, true_and, and_true, and_self, List.length_cons, List.length_nil, Nat.reduceAdd, Nat.zero_add, implies_true, false_imp_iff, lt_T, List.mem_map]) hR hB ⟨by unfold chkE; rw [hval]; simp [hx, hy, one], rfl, rfl⟩
end Go.Proofs.Ytnnnccibhhnbaaa

namespace Go.Proofs.Ytnnnccibhhnbaaa
set_option linter.unusedVariables false
set_option linter.unusedSimpArgs false
attribute [local go_sem ↓] run_skip run_region run_draw run_seq run_block run_exit run_ret run_cond atN_app seqC_normal seqC_exit seqC_ret seqQ_normal seqQ_exit seqQ_ret blkQ_normal blkQ_exit blkQ_ret runOps_nil runOps_cons runD_nil runD_cons grdO_true grdO_false grdD_true grdD_false ifC_true ifC_false opS_val opS_call opS_two opK_app dS_val dS_call dS_two dK_app kUp_same kUp_ne
attribute [local go_sem] rechks_nil rechks_cons rechk gcase_true gcase_false ex_val ex_val0 gd_none gd_some ev_t ev_c evs_nil evs_cons evo_some evo_none hget_at hget_first hsetB_at hsetB_first hsetL_at hsetL_first ofOpt_some aop aload astore aslice aappend aiaddr aiaddrA afaddr alen alenS acopy amm acall alookup amupdate alenM comma keyEq apick binV binVB binVS isSh intOp strOp boolOp shOp eqC eqF and2 cellsOf setFrom fillA fillS rd rdI elems mk bounds AV.cell List.all_cons List.all_nil Bool.and_true Bool.true_and Bool.and_self List.length_cons List.length_nil List.length_append Nat.reduceAdd Nat.reduceSub Nat.reduceMul Nat.zero_add Nat.add_zero List.cons_append List.nil_append List.append_assoc List.append_nil List.getElem?_cons_zero List.getElem?_cons_succ List.getElem?_nil List.set_cons_zero List.set_cons_succ List.drop_zero List.drop_succ_cons List.take_zero List.take_succ_cons List.take_nil List.drop_nil List.map_cons List.map_nil Option.map_some if_true if_false Bool.false_eq_true and_self true_and and_true Nat.reduceLeDiff Nat.reduceLT Nat.le_refl Nat.reduceEqDiff ite_true ite_false beq_self_eq_true beq_true beq_false Bool.not_true Bool.not_false Bool.true_beq Bool.false_beq map_vs vs_len vs_get vs_take vs_drop vs_snoc1 vs_snoc2 vs_snoc3 vs_snoc5 vs_set1 vs_set2 vs_rep wrap_id le_T lt_T le_F lt_F leI_T ltI_T leI_F ltI_F geI gtI get_T decide_true decide_false room List.getElem?_map List.length_map List.length_take Int.toNat_natCast Nat.min_def Nat.min_self nth_kOf put_kOf put_kNo kOv_cons kOv_nil KHas KArgs List.getElem_cons_zero List.getElem_cons_succ
def a_rFut13 : AFunc := ⟨2, 48, [.tmp 4],
  (.seq (.region [⟨(some 2), .box (.t 0), none⟩, ⟨(some 3), .box (.t 1), none⟩, ⟨(some 4), .mv (.c (.v .zsl)), none⟩])
  (.seq (.region [⟨(some 9), .faddr 0 (.t 2), none⟩, ⟨(some 10), .load none (.t 9), none⟩, ⟨(some 11), .len (.t 10), none⟩, ⟨(some 12), .mkslice 1 [(.v (.int .i64 0))] 8 (.t 11) (.t 11), none⟩, ⟨(some 5), .mv (.t 12), none⟩])
  (.seq (.seq (.region [⟨(some 6), .mv (.c (.v (.int .i64 0))), none⟩])
  (.block 0 (.loop (.seq (.seq (.region [⟨(some 13), .mv (.t 6), none⟩, ⟨(some 14), .mv (.t 5), none⟩, ⟨(some 15), .len (.t 14), none⟩, ⟨(some 16), .bin .lss (.t 13) (.t 15), none⟩])
  (.cond (.t 16) .skip
  (.exit 0)))
  (.seq (.block 1 (.seq (.region [⟨(some 7), .mv (.c (.v (.int .i64 1))), none⟩])
  (.block 2 (.loop (.seq (.seq (.region [⟨(some 19), .mv (.t 7), none⟩, ⟨(some 20), .faddr 0 (.t 2), none⟩, ⟨(some 21), .load none (.t 20), none⟩, ⟨(some 22), .mv (.t 6), none⟩, ⟨(some 23), .iaddr 3 (.t 21) (.t 22), none⟩, ⟨(some 24), .faddr 2 (.t 23), none⟩, ⟨(some 25), .load none (.t 24), none⟩, ⟨(some 26), .len (.t 25), none⟩, ⟨(some 27), .bin .leq (.t 19) (.t 26), none⟩])
  (.cond (.t 27) .skip
  (.exit 2)))
  (.seq (.block 3 (.seq (.region [⟨(some 30), .mv (.t 6), none⟩, ⟨(some 31), .mv (.t 7), none⟩, ⟨(some 32), .build [(.v (.int .i64 0)), (.v (.int .i64 0))] [(0, 1, (.t 30)), (1, 1, (.t 31))], none⟩, ⟨(some 8), .alloc [(.v (.int .i64 0)), (.v (.int .i64 0))], none⟩, ⟨none, .store 2 (.t 8) (.t 32), none⟩])
  (.seq (.region [⟨(some 33), .load (some 2) (.t 3), none⟩, ⟨(some 34), .load (some 2) (.t 8), none⟩, ⟨(some 35), .eqs true [.i, .i] (.t 33) (.t 34), none⟩, ⟨(some 36), .mv (.t 35), none⟩, ⟨(some 37), .load (some 1) (.t 2), some (36, true)⟩, ⟨(some 38), .load (some 2) (.t 3), some (36, true)⟩, ⟨(some 39), .load (some 2) (.t 8), some (36, true)⟩, ⟨(some 40), .call (.c (.fn 33 [])) [(.t 37), (.t 38), (.t 39)], some (36, true)⟩, ⟨(some 41), .not (.t 40), some (36, true)⟩, ⟨(some 42), .pick (.t 36) (.t 41) (.c (.v (.bool false))), none⟩])
  (.cond (.t 42) (.region [⟨(some 43), .mv (.t 5), none⟩, ⟨(some 44), .mv (.t 6), none⟩, ⟨(some 45), .mv (.t 7), none⟩, ⟨(some 46), .iaddr 1 (.t 43) (.t 44), none⟩, ⟨none, .store 1 (.t 46) (.t 45), none⟩])
  (.exit 2)))))
  (.region [⟨(some 28), .mv (.t 7), none⟩, ⟨(some 29), .bin .add (.t 28) (.c (.v (.int .i64 1))), none⟩, ⟨(some 7), .mv (.t 29), none⟩])))))))
  (.region [⟨(some 17), .mv (.t 6), none⟩, ⟨(some 18), .bin .add (.t 17) (.c (.v (.int .i64 1))), none⟩, ⟨(some 6), .mv (.t 18), none⟩]))))))
  (.seq (.region [⟨(some 47), .mv (.t 5), none⟩, ⟨(some 4), .mv (.t 47), none⟩])
  .ret))))⟩
theorem a_rFut13_ok : cFunc Try.prog 38 = some a_rFut13 := by kernel_rfl
def r_rFut130 : List (Nat × Nat) := [(6, 8), (13, 46)]
def r_rFut131 : List (Nat × Nat) := [(7, 8), (19, 46)]
def a_rStep13 : AFunc := ⟨3, 35, [.cell 6 (some 2)],
  (.seq (.region [⟨(some 3), .box (.t 0), none⟩, ⟨(some 4), .box (.t 1), none⟩, ⟨(some 5), .box (.t 2), none⟩, ⟨(some 6), .alloc [(.v (.int .i64 0)), (.v (.int .i64 0))], none⟩])
  (.seq (.seq (.region [⟨(some 7), .mv (.c (.v (.int .i64 0))), none⟩])
  (.block 0 (.loop (.seq (.seq (.region [⟨(some 9), .mv (.t 7), none⟩, ⟨(some 10), .load (some 1) (.t 3), none⟩, ⟨(some 11), .call (.c (.fn 16 [])) [(.t 10)], none⟩, ⟨(some 12), .bin .lss (.t 9) (.t 11), none⟩])
  (.cond (.t 12) .skip
  (.exit 0)))
  (.seq (.block 1 (.seq (.region [⟨(some 15), .load (some 1) (.t 3), none⟩, ⟨(some 16), .mv (.t 7), none⟩, ⟨(some 17), .call (.c (.fn 19 [])) [(.t 15), (.t 16)], none⟩, ⟨(some 8), .alloc [(.v (.int .i64 0)), (.v (.int .i64 0))], none⟩, ⟨none, .store 2 (.t 8) (.t 17), none⟩])
  (.seq (.region [⟨(some 18), .load (some 1) (.t 3), none⟩, ⟨(some 19), .load (some 2) (.t 4), none⟩, ⟨(some 20), .load (some 2) (.t 8), none⟩, ⟨(some 21), .call (.c (.fn 20 [])) [(.t 18), (.t 19), (.t 20)], none⟩, ⟨(some 22), .mv (.t 21), none⟩, ⟨(some 23), .load (some 2) (.t 8), some (22, true)⟩, ⟨(some 24), .load (some 2) (.t 5), some (22, true)⟩, ⟨(some 25), .eqs false [.i, .i] (.t 23) (.t 24), some (22, true)⟩, ⟨(some 26), .mv (.t 25), some (22, true)⟩, ⟨(some 27), .load (some 1) (.t 3), some (26, false)⟩, ⟨(some 28), .load (some 2) (.t 8), some (26, false)⟩, ⟨(some 29), .load (some 2) (.t 5), some (26, false)⟩, ⟨(some 30), .call (.c (.fn 33 [])) [(.t 27), (.t 28), (.t 29)], some (26, false)⟩, ⟨(some 31), .pick (.t 26) (.c (.v (.bool true))) (.t 30), some (22, true)⟩, ⟨(some 32), .pick (.t 22) (.t 31) (.c (.v (.bool false))), none⟩])
  (.cond (.t 32) (.seq (.region [⟨(some 33), .load (some 2) (.t 8), none⟩, ⟨none, .store 2 (.t 6) (.t 33), none⟩])
  .ret)
  .skip))))
  (.region [⟨(some 13), .mv (.t 7), none⟩, ⟨(some 14), .bin .add (.t 13) (.c (.v (.int .i64 1))), none⟩, ⟨(some 7), .mv (.t 14), none⟩]))))))
  (.seq (.region [⟨(some 34), .load (some 2) (.t 5), none⟩, ⟨none, .store 2 (.t 6) (.t 34), none⟩])
  .ret)))⟩
theorem a_rStep13_ok : cFunc Try.prog 87 = some a_rStep13 := by kernel_rfl
def r_rStep130 : List (Nat × Nat) := [(7, 33)]
def a_rPath13 : AFunc := ⟨3, 33, [.tmp 6, .tmp 7],
  (.seq (.region [⟨(some 3), .box (.t 0), none⟩, ⟨(some 4), .box (.t 1), none⟩, ⟨(some 5), .box (.t 2), none⟩, ⟨(some 6), .mv (.c (.v .zsl)), none⟩, ⟨(some 7), .mv (.c (.v (.bool false))), none⟩])
  (.seq (.seq (.region [⟨(some 9), .load (some 2) (.t 4), none⟩, ⟨(some 10), .load (some 2) (.t 5), none⟩, ⟨(some 11), .eqs true [.i, .i] (.t 9) (.t 10), none⟩, ⟨(some 12), .mv (.t 11), none⟩, ⟨(some 13), .load (some 1) (.t 3), some (12, true)⟩, ⟨(some 14), .load (some 2) (.t 4), some (12, true)⟩, ⟨(some 15), .load (some 2) (.t 5), some (12, true)⟩, ⟨(some 16), .call (.c (.fn 33 [])) [(.t 13), (.t 14), (.t 15)], some (12, true)⟩, ⟨(some 17), .not (.t 16), some (12, true)⟩, ⟨(some 18), .pick (.t 12) (.t 17) (.c (.v (.bool false))), none⟩])
  (.cond (.t 18) (.seq (.region [⟨(some 6), .mv (.c (.v .zsl)), none⟩, ⟨(some 7), .mv (.c (.v (.bool false))), none⟩])
  .ret)
  .skip))
  (.seq (.region [⟨(some 19), .load (some 2) (.t 4), none⟩, ⟨(some 20), .bslice 2 [(.v (.int .i64 0)), (.v (.int .i64 0))] 1 [(0, (.t 19))], none⟩, ⟨(some 8), .mv (.t 20), none⟩])
  (.seq (.block 0 (.loop (.seq (.seq (.region [⟨(some 21), .load (some 2) (.t 4), none⟩, ⟨(some 22), .load (some 2) (.t 5), none⟩, ⟨(some 23), .eqs true [.i, .i] (.t 21) (.t 22), none⟩])
  (.cond (.t 23) .skip
  (.exit 0)))
  (.block 1 (.seq (.region [⟨(some 24), .load (some 1) (.t 3), none⟩, ⟨(some 25), .load (some 2) (.t 4), none⟩, ⟨(some 26), .load (some 2) (.t 5), none⟩, ⟨(some 27), .call (.c (.fn 87 [])) [(.t 24), (.t 25), (.t 26)], none⟩, ⟨none, .store 2 (.t 4) (.t 27), none⟩])
  (.region [⟨(some 28), .mv (.t 8), none⟩, ⟨(some 29), .load (some 2) (.t 4), none⟩, ⟨(some 30), .bslice 2 [(.v (.int .i64 0)), (.v (.int .i64 0))] 1 [(0, (.t 29))], none⟩, ⟨(some 31), .append 2 16 (.t 28) (.t 30), none⟩, ⟨(some 8), .mv (.t 31), none⟩]))))))
  (.seq (.region [⟨(some 32), .mv (.t 8), none⟩, ⟨(some 6), .mv (.t 32), none⟩, ⟨(some 7), .mv (.c (.v (.bool true))), none⟩])
  .ret)))))⟩
theorem a_rPath13_ok : cFunc Try.prog 34 = some a_rPath13 := by kernel_rfl
def r_rPath130 : List (Nat × Nat) := [(8, 8), (21, 31)]
def a_EqE : AFunc := ⟨2, 26, [.tmp 4],
  (.seq (.region [⟨(some 4), .mv (.c (.v (.bool false))), none⟩])
  (.seq (.seq (.region [⟨(some 6), .mv (.t 0), none⟩, ⟨(some 7), .len (.t 6), none⟩, ⟨(some 8), .mv (.t 1), none⟩, ⟨(some 9), .len (.t 8), none⟩, ⟨(some 10), .bin .neq (.t 7) (.t 9), none⟩])
  (.cond (.t 10) (.seq (.region [⟨(some 4), .mv (.c (.v (.bool false))), none⟩])
  .ret)
  .skip))
  (.seq (.seq (.region [⟨(some 11), .mv (.t 0), none⟩, ⟨(some 12), .len (.t 11), none⟩, ⟨(some 13), .mv (.c (.v (.int .i64 0))), none⟩])
  (.block 0 (.loop (.seq (.region [⟨(some 14), .bin .lss (.t 13) (.t 12), none⟩])
  (.seq (.cond (.t 14) .skip
  (.exit 0))
  (.seq (.block 1 (.seq (.region [⟨(some 15), .mv (.t 13), none⟩, ⟨(some 5), .mv (.t 15), none⟩])
  (.seq (.draw [⟨0, ⟨(some 16), .mv (.t 0), none⟩, []⟩, ⟨1, ⟨(some 17), .mv (.t 5), none⟩, []⟩, ⟨2, ⟨(some 18), .iaddr 2 (.t 16) (.t 17), none⟩, []⟩, ⟨3, ⟨(some 19), .load (some 2) (.t 18), none⟩, []⟩, ⟨4, ⟨(some 20), .mv (.t 1), none⟩, []⟩, ⟨5, ⟨(some 21), .mv (.t 5), none⟩, []⟩, ⟨6, ⟨(some 22), .iaddr 2 (.t 20) (.t 21), none⟩, []⟩, ⟨7, ⟨(some 23), .load (some 2) (.t 22), none⟩, []⟩, ⟨8, ⟨(some 24), .eqs true [.i, .i] (.t 19) (.t 23), none⟩, []⟩])
  (.cond (.t 24) (.seq (.region [⟨(some 4), .mv (.c (.v (.bool false))), none⟩])
  .ret)
  .skip))))
  (.region [⟨(some 25), .bin .add (.t 13) (.c (.v (.int .i64 1))), none⟩, ⟨(some 13), .mv (.t 25), none⟩])))))))
  (.seq (.region [⟨(some 4), .mv (.c (.v (.bool true))), none⟩])
  .ret))))⟩
theorem a_EqE_ok : cFunc Try.prog 35 = some a_EqE := by kernel_rfl
def r_EqE0 : List (Nat × Nat) := [(4, 5), (13, 25)]

theorem eqE_spec (v : List (Nat × Nat)) (hv : v.length ≤ 1000000) (b l : List Row) : ACalls Try.prog 35 [.v (.isl 2 (v.map eId)), .v (.isl 2 (v.map eId))] b l (fun r b' l' => r = .v (.bool true) ∧ b' = b ∧ l' = l) := by
  refine calls_kept a_EqE_ok rfl (by decide) ?_
  intro B g hB hR hE hA
  simp only [KArgs] at hA
  have hnn : ∀ n : Int, (n != n) = false := fun n => by simp
  simp (disch := (first | decide | omega)) only [a_EqE, hA, List.length_map, hnn, go_sem]
  refine loop_kept (ι := Nat) r_EqE0 (fun i => [(13, .v (.int .i64 i))]) 0 (fun _ => [])
    (fun i => i ≤ v.length) (fun i => v.length - i) 0 (Nat.zero_le _) (by (repeat (first | exact hE.mono (by omega) | refine KLt.up ?_ (by simp (disch := omega) only [AVlt_v, AVlt_any, AVlt_sl, AVlt_ptr, AVlt_mp, AVlt_agg, AVlt_tup, AVlt_fn, RowsLt_nil, RowsLt_live, RowsLt_dead, List.mem_cons, List.not_mem_nil, List.forall_mem_cons, List.forall_mem_nil, or_false, false_or, forall_eq_or_imp, forall_eq, vs_lt, Nat.add_lt_add_iff_left, Nat.reduceLT, true_and, and_true, and_self, List.length_cons, List.length_nil, Nat.reduceAdd, Nat.zero_add, implies_true, false_imp_iff, lt_T, List.mem_map])))) (by ((try simp (disch := decide) only [hA, go_sem]) <;> (repeat' (first | exact trivial | refine And.intro ?_ ?_)) <;> (first | rfl | (congr 2; omega)))) (fun e => Weak.refl _ _ _) ?_
  rintro g1 hE1 hEE1 hg1 i hi
  by_cases hlt : i < v.length
  · have hq : ((((v[i].1 : Nat) : Int) == ((v[i].1 : Nat) : Int)) && (((v[i].2 : Nat) : Int) == ((v[i].2 : Nat) : Int))) = true := by simp
    simp (disch := (first | decide | omega)) only [hA, hg1, eId, hq, List.length_map, go_sem]
    refine ⟨i + 1, hlt, by simp only; omega, ?_⟩
    exact Weak.kround (p := r_EqE0) (k := 0) (by ((repeat refine (kAny_up rfl).trans ?_); exact hEE1)) (by ((try simp (disch := decide) only [hA, go_sem]) <;> (repeat' (first | exact trivial | refine And.intro ?_ ?_)) <;> (first | rfl | (congr 2; omega)))) rfl hE1 (by simp) (by simp (disch := omega) only [KOvLt, AVlt_v, AVlt_any, AVlt_sl, AVlt_ptr, AVlt_mp, AVlt_agg, AVlt_tup, AVlt_fn, RowsLt_nil, RowsLt_live, RowsLt_dead, List.mem_cons, List.not_mem_nil, List.forall_mem_cons, List.forall_mem_nil, or_false, false_or, forall_eq_or_imp, forall_eq, vs_lt, Nat.add_lt_add_iff_left, Nat.reduceLT, true_and, and_true, and_self, List.length_cons, List.length_nil, Nat.reduceAdd, Nat.zero_add, implies_true, false_imp_iff, lt_T, List.mem_map]) hR (by simp (disch := omega) only [AVlt_v, AVlt_any, AVlt_sl, AVlt_ptr, AVlt_mp, AVlt_agg, AVlt_tup, AVlt_fn, RowsLt_nil, RowsLt_live, RowsLt_dead, List.mem_cons, List.not_mem_nil, List.forall_mem_cons, List.forall_mem_nil, or_false, false_or, forall_eq_or_imp, forall_eq, vs_lt, Nat.add_lt_add_iff_left, Nat.reduceLT, true_and, and_true, and_self, List.length_cons, List.length_nil, Nat.reduceAdd, Nat.zero_add, implies_true, false_imp_iff, lt_T, List.mem_map])
  · simp (disch := (first | decide | omega)) only [hA, hg1, List.length_map, go_sem]
    exact leave_pure (xs := [.v (.bool true)]) (.inr rfl) (by simp (disch := (first | decide | omega)) only [resVs, resV, go_sem, hA, hg1]) (by simp only [one, AVlt_v, AVlt_any, AVlt_sl, AVlt_ptr, AVlt_mp, AVlt_agg, AVlt_tup, AVlt_fn, RowsLt_nil, RowsLt_live, RowsLt_dead, List.mem_cons, List.not_mem_nil, List.forall_mem_cons, List.forall_mem_nil, or_false, false_or, forall_eq_or_imp, forall_eq, vs_lt, Nat.add_lt_add_iff_left, Nat.reduceLT, true_and, and_true, and_self, List.length_cons, List.length_nil, Nat.reduceAdd, Nat.zero_add, implies_true, false_imp_iff, lt_T, List.mem_map]) hR hB ⟨rfl, rfl, rfl⟩
theorem eqEz_spec (b l : List Row) : ACalls Try.prog 35 [.v .zsl, .v .zsl] b l (fun r b' l' => r = .v (.bool true) ∧ b' = b ∧ l' = l) := by
  refine ACalls.le (eqE_spec [] (by simp) b l) rfl ?_
  intro i a c h1 h2
  match i with
  | 0 => simp at h1 h2; subst h1; subst h2; exact .v _ _ (.zsl 2)
  | 1 => simp at h1 h2; subst h1; subst h2; exact .v _ _ (.zsl 2)
  | i + 2 => simp at h1
theorem rFut13_spec (t : Tr) (hv : Vok t) (hS : Small t) (hC : (ids t).length ≤ 1000000) (x : Nat × Nat) (hx : x ∈ ids t) (b l : List Row) :
    ACalls Try.prog 38 [.agg [.v (eT t)], idA x] b l (fun r b' l' => r = .v (.isl 1 ((fus t x).map eI)) ∧ b' = b ∧ l' = l) := by
  refine calls_kept a_rFut13_ok rfl (by decide) ?_
  intro B g hB hR hE hA
  simp only [KArgs] at hA
  obtain ⟨p, i⟩ := x
  have hnp := hS.np
  have hfl : ∀ q k, (fuL t (p, i) q k).length = t.length := fun q k => fl_len
  simp (disch := (first | decide | omega)) only [a_rFut13, hA, idA, eT, List.length_map, go_sem]
  refine loop_kept (ι := Nat) r_rFut130 (fun q => [(6, .v (.int .i64 q))]) 3 (fun q => [.live 0 1 [[.v (.isl 3 (t.map ePr))]], .live 0 2 [[.v (.int .i64 p), .v (.int .i64 i)]], .live 0 1 (vs (fuL t (p, i) q 0))])
    (fun q => q ≤ t.length) (fun q => t.length - q) 0 (Nat.zero_le _) (by (repeat (first | exact hE.mono (by omega) | refine KLt.up ?_ (by simp (disch := omega) only [AVlt_v, AVlt_any, AVlt_sl, AVlt_ptr, AVlt_mp, AVlt_agg, AVlt_tup, AVlt_fn, RowsLt_nil, RowsLt_live, RowsLt_dead, List.mem_cons, List.not_mem_nil, List.forall_mem_cons, List.forall_mem_nil, or_false, false_or, forall_eq_or_imp, forall_eq, vs_lt, Nat.add_lt_add_iff_left, Nat.reduceLT, true_and, and_true, and_self, List.length_cons, List.length_nil, Nat.reduceAdd, Nat.zero_add, implies_true, false_imp_iff, lt_T, List.mem_map])))) (by ((try simp (disch := decide) only [hA, go_sem]) <;> (repeat' (first | exact trivial | refine And.intro ?_ ?_)) <;> (first | rfl | (congr 2; omega)))) (fun e => by rw [← fuL_zero]; exact Weak.refl _ _ _) ?_
  intro g1 hE1 hEE1 hg1 q hq
  by_cases hql : q < t.length
  · have hqe := evsOf_lt hql
    have hne := hS.ne _ (List.getElem_mem hql)
    have h01 : (1 : Int) = ((0 + 1 : Nat) : Int) := rfl
    simp (disch := (first | decide | omega)) only [hA, hg1, List.length_map, go_sem]
    refine loop_kept (ι := Nat) r_rFut131 (fun k => [(7, .v (.int .i64 (k + 1 : Nat)))]) 3 (fun k => [.live 0 1 [[.v (.isl 3 (t.map ePr))]], .live 0 2 [[.v (.int .i64 p), .v (.int .i64 i)]], .live 0 1 (vs (fuL t (p, i) q k))])
      (fun k => k ≤ t[q].evs.length ∧ k ≤ fu t (p, i) q) (fun k => t[q].evs.length - k) 0 ⟨Nat.zero_le _, Nat.zero_le _⟩ (by (repeat (first | exact hE1.mono (by omega) | refine KLt.up ?_ (by simp (disch := omega) only [AVlt_v, AVlt_any, AVlt_sl, AVlt_ptr, AVlt_mp, AVlt_agg, AVlt_tup, AVlt_fn, RowsLt_nil, RowsLt_live, RowsLt_dead, List.mem_cons, List.not_mem_nil, List.forall_mem_cons, List.forall_mem_nil, or_false, false_or, forall_eq_or_imp, forall_eq, vs_lt, Nat.add_lt_add_iff_left, Nat.reduceLT, true_and, and_true, and_self, List.length_cons, List.length_nil, Nat.reduceAdd, Nat.zero_add, implies_true, false_imp_iff, lt_T, List.mem_map])))) (by ((try simp (disch := decide) only [hA, hg1, go_sem]) <;> (repeat' (first | exact trivial | refine And.intro ?_ ?_)) <;> (first | rfl | (congr 2; omega)))) (fun e => Weak.refl _ _ _) ?_
    rintro g2 hE2 hEE2 hg2 k ⟨hk, hkf⟩
    have hck : ((k + 1 : Nat) : Int) + 1 = ((k + 1 + 1 : Nat) : Int) := by omega
    by_cases hkl : k < t[q].evs.length
    · have hy : (q, k + 1) ∈ ids t := mem_ids2.2 ⟨hql, by rw [hqe]; exact hkl⟩
      have hfi := fu_iff (t := t) (x := (p, i)) (q := q) (i := k) (by rw [hqe]; exact hkl)
      have hd : decide (((k + 1 : Nat) : Int) ≤ (t[q].evs.length : Int)) = true := decide_eq_true (by omega)
      have hb := fun b l => rBef13_spec t hv hS hC (p, i) (q, k + 1) hx hy b l
      simp only [idA, eT] at hb
      have heq : (((p : Int) == (q : Int)) && ((i : Int) == ((k + 1 : Nat) : Int))) = decide ((p, i) = (q, k + 1)) := by
        rw [Bool.eq_iff_iff]; simp; omega
      have hset : (fuL t (p, i) q k).set q [.int .i64 ((k + 1 : Nat) : Int)] = fuL t (p, i) q (k + 1) := fuL_set
      have hget : (fuL t (p, i) q k)[q]? = some [.int .i64 (k : Int)] := by
        unfold fuL; rw [fl_get hql]
        unfold fuT; rw [if_neg (by omega), if_pos rfl]
      by_cases he : (p, i) = (q, k + 1)
      · rw [decide_eq_true he] at heq
        have hfe : k = fu t (p, i) q := by
          have : ¬ (k < fu t (p, i) q) := fun h => (hfi.1 h) (.inl he)
          omega
        simp (disch := (first | decide | omega)) only [hA, hg1, hg2, ePr, hd, heq, List.length_map, go_sem]
        refine ⟨q + 1, hql, by simp only; omega, ?_⟩
        rw [fuL_next hfe]
        exact Weak.kround (l1 := [.live 0 1 [[.v (.isl 3 (t.map ePr))]], .live 0 2 [[.v (.int .i64 p), .v (.int .i64 i)]], .live 0 1 (vs (fuL t (p, i) (q + 1) 0))]) (p := r_rFut130) (k := 3) (by ((repeat refine (kAny_up rfl).trans ?_); refine (kAny_sub hg2 (kIn_sub rfl)).trans ?_; (repeat refine (kAny_up rfl).trans ?_); exact hEE1)) (by ((try simp (disch := decide) only [hA, go_sem]) <;> (repeat' (first | exact trivial | refine And.intro ?_ ?_)) <;> (first | rfl | (congr 2; omega)))) rfl hE1 (by simp) (by simp (disch := omega) only [KOvLt, AVlt_v, AVlt_any, AVlt_sl, AVlt_ptr, AVlt_mp, AVlt_agg, AVlt_tup, AVlt_fn, RowsLt_nil, RowsLt_live, RowsLt_dead, List.mem_cons, List.not_mem_nil, List.forall_mem_cons, List.forall_mem_nil, or_false, false_or, forall_eq_or_imp, forall_eq, vs_lt, Nat.add_lt_add_iff_left, Nat.reduceLT, true_and, and_true, and_self, List.length_cons, List.length_nil, Nat.reduceAdd, Nat.zero_add, implies_true, false_imp_iff, lt_T, List.mem_map]) hR (by simp (disch := omega) only [AVlt_v, AVlt_any, AVlt_sl, AVlt_ptr, AVlt_mp, AVlt_agg, AVlt_tup, AVlt_fn, RowsLt_nil, RowsLt_live, RowsLt_dead, List.mem_cons, List.not_mem_nil, List.forall_mem_cons, List.forall_mem_nil, or_false, false_or, forall_eq_or_imp, forall_eq, vs_lt, Nat.add_lt_add_iff_left, Nat.reduceLT, true_and, and_true, and_self, List.length_cons, List.length_nil, Nat.reduceAdd, Nat.zero_add, implies_true, false_imp_iff, lt_T, List.mem_map])
      · rw [decide_eq_false he] at heq
        cases hbb : befB t (p, i) (q, k + 1) with
        | true =>
          have hfe : k = fu t (p, i) q := by
            have : ¬ (k < fu t (p, i) q) := fun h => (hfi.1 h) (.inr ((befB_iff hv hx hy).1 hbb))
            omega
          simp (disch := (first | decide | omega)) only [hA, hg1, hg2, ePr, hd, heq, List.length_map, go_sem]
          refine ACalls.nxt (hb _ _) ?_
          rw [hbb]
          simp (disch := (first | decide | omega)) only [hA, hg1, hg2, go_sem]
          refine ⟨q + 1, hql, by simp only; omega, ?_⟩
          rw [fuL_next hfe]
          exact Weak.kround (l1 := [.live 0 1 [[.v (.isl 3 (t.map ePr))]], .live 0 2 [[.v (.int .i64 p), .v (.int .i64 i)]], .live 0 1 (vs (fuL t (p, i) (q + 1) 0))]) (p := r_rFut130) (k := 3) (by ((repeat refine (kAny_up rfl).trans ?_); refine (kAny_sub hg2 (kIn_sub rfl)).trans ?_; (repeat refine (kAny_up rfl).trans ?_); exact hEE1)) (by ((try simp (disch := decide) only [hA, go_sem]) <;> (repeat' (first | exact trivial | refine And.intro ?_ ?_)) <;> (first | rfl | (congr 2; omega)))) rfl hE1 (by simp) (by simp (disch := omega) only [KOvLt, AVlt_v, AVlt_any, AVlt_sl, AVlt_ptr, AVlt_mp, AVlt_agg, AVlt_tup, AVlt_fn, RowsLt_nil, RowsLt_live, RowsLt_dead, List.mem_cons, List.not_mem_nil, List.forall_mem_cons, List.forall_mem_nil, or_false, false_or, forall_eq_or_imp, forall_eq, vs_lt, Nat.add_lt_add_iff_left, Nat.reduceLT, true_and, and_true, and_self, List.length_cons, List.length_nil, Nat.reduceAdd, Nat.zero_add, implies_true, false_imp_iff, lt_T, List.mem_map]) hR (by simp (disch := omega) only [AVlt_v, AVlt_any, AVlt_sl, AVlt_ptr, AVlt_mp, AVlt_agg, AVlt_tup, AVlt_fn, RowsLt_nil, RowsLt_live, RowsLt_dead, List.mem_cons, List.not_mem_nil, List.forall_mem_cons, List.forall_mem_nil, or_false, false_or, forall_eq_or_imp, forall_eq, vs_lt, Nat.add_lt_add_iff_left, Nat.reduceLT, true_and, and_true, and_self, List.length_cons, List.length_nil, Nat.reduceAdd, Nat.zero_add, implies_true, false_imp_iff, lt_T, List.mem_map])
        | false =>
          have hkf2 : k < fu t (p, i) q := hfi.2 (fun h => by
            rcases h with h | h
            · exact he h
            · rw [(befB_iff hv hx hy).2 h] at hbb; cases hbb)
          simp (disch := (first | decide | omega)) only [hA, hg1, hg2, ePr, hd, heq, List.length_map, go_sem]
          refine ACalls.nxt (hb _ _) ?_
          rw [hbb]
          simp (disch := (first | decide | omega)) only [hA, hg1, hg2, hfl, hget, hset, hck, setFrom, cellsOf, go_sem]
          refine ⟨k + 1, ⟨hkl, hkf2⟩, by simp only; omega, ?_⟩
          exact Weak.kround (l1 := [.live 0 1 [[.v (.isl 3 (t.map ePr))]], .live 0 2 [[.v (.int .i64 p), .v (.int .i64 i)]], .live 0 1 (vs (fuL t (p, i) q (k + 1)))]) (p := r_rFut131) (k := 3) (by ((repeat refine (kAny_up rfl).trans ?_); exact hEE2)) (by ((try simp (disch := decide) only [hA, go_sem]) <;> (repeat' (first | exact trivial | refine And.intro ?_ ?_)) <;> (first | rfl | (congr 2; omega)))) rfl hE2 (by simp) (by simp (disch := omega) only [KOvLt, AVlt_v, AVlt_any, AVlt_sl, AVlt_ptr, AVlt_mp, AVlt_agg, AVlt_tup, AVlt_fn, RowsLt_nil, RowsLt_live, RowsLt_dead, List.mem_cons, List.not_mem_nil, List.forall_mem_cons, List.forall_mem_nil, or_false, false_or, forall_eq_or_imp, forall_eq, vs_lt, Nat.add_lt_add_iff_left, Nat.reduceLT, true_and, and_true, and_self, List.length_cons, List.length_nil, Nat.reduceAdd, Nat.zero_add, implies_true, false_imp_iff, lt_T, List.mem_map]) hR (by simp (disch := omega) only [AVlt_v, AVlt_any, AVlt_sl, AVlt_ptr, AVlt_mp, AVlt_agg, AVlt_tup, AVlt_fn, RowsLt_nil, RowsLt_live, RowsLt_dead, List.mem_cons, List.not_mem_nil, List.forall_mem_cons, List.forall_mem_nil, or_false, false_or, forall_eq_or_imp, forall_eq, vs_lt, Nat.add_lt_add_iff_left, Nat.reduceLT, true_and, and_true, and_self, List.length_cons, List.length_nil, Nat.reduceAdd, Nat.zero_add, implies_true, false_imp_iff, lt_T, List.mem_map])
    · obtain rfl : k = t[q].evs.length := by omega
      have hd : decide (((t[q].evs.length + 1 : Nat) : Int) ≤ (t[q].evs.length : Int)) = false := decide_eq_false (by omega)
      have hfe : t[q].evs.length = fu t (p, i) q := by
        have := fu_le (t := t) (x := (p, i)) (q := q)
        rw [hqe] at this
        omega
      simp (disch := (first | decide | omega)) only [hA, hg1, hg2, ePr, hd, List.length_map, go_sem]
      refine ⟨q + 1, hql, by simp only; omega, ?_⟩
      rw [fuL_next hfe]
      exact Weak.kround (l1 := [.live 0 1 [[.v (.isl 3 (t.map ePr))]], .live 0 2 [[.v (.int .i64 p), .v (.int .i64 i)]], .live 0 1 (vs (fuL t (p, i) (q + 1) 0))]) (p := r_rFut130) (k := 3) (by ((repeat refine (kAny_up rfl).trans ?_); refine (kAny_sub hg2 (kIn_sub rfl)).trans ?_; (repeat refine (kAny_up rfl).trans ?_); exact hEE1)) (by ((try simp (disch := decide) only [hA, go_sem]) <;> (repeat' (first | exact trivial | refine And.intro ?_ ?_)) <;> (first | rfl | (congr 2; omega)))) rfl hE1 (by simp) (by simp (disch := omega) only [KOvLt, AVlt_v, AVlt_any, AVlt_sl, AVlt_ptr, AVlt_mp, AVlt_agg, AVlt_tup, AVlt_fn, RowsLt_nil, RowsLt_live, RowsLt_dead, List.mem_cons, List.not_mem_nil, List.forall_mem_cons, List.forall_mem_nil, or_false, false_or, forall_eq_or_imp, forall_eq, vs_lt, Nat.add_lt_add_iff_left, Nat.reduceLT, true_and, and_true, and_self, List.length_cons, List.length_nil, Nat.reduceAdd, Nat.zero_add, implies_true, false_imp_iff, lt_T, List.mem_map]) hR (by simp (disch := omega) only [AVlt_v, AVlt_any, AVlt_sl, AVlt_ptr, AVlt_mp, AVlt_agg, AVlt_tup, AVlt_fn, RowsLt_nil, RowsLt_live, RowsLt_dead, List.mem_cons, List.not_mem_nil, List.forall_mem_cons, List.forall_mem_nil, or_false, false_or, forall_eq_or_imp, forall_eq, vs_lt, Nat.add_lt_add_iff_left, Nat.reduceLT, true_and, and_true, and_self, List.length_cons, List.length_nil, Nat.reduceAdd, Nat.zero_add, implies_true, false_imp_iff, lt_T, List.mem_map])
  · simp (disch := (first | decide | omega)) only [hA, hg1, hfl, go_sem]
    obtain rfl : q = t.length := by omega
    rw [fuL_all]
    exact leave_frz (i := 2) (ver := 0) (sz := 1) (n := t.length) (rows := (fus t (p, i)).map eI) (.inr rfl) (by simp (disch := (first | decide | omega)) only [resVs, resV, hA, hg1, go_sem]) rfl (by simp [fus, fl_len]) hR hB ⟨rfl, rfl, rfl⟩
/-- The step of the reference: the first one directly after x that leads to y. -/
theorem rStep13_spec (t : Tr) (hv : Vok t) (hS : Small t) (s1 : t.length ≤ 20) (s2 : ∀ x ∈ t, x.evs.length ≤ 70) (hC : (ids t).length ≤ 1000000) (x y z : Nat × Nat) (hx : x ∈ ids t) (hy : y ∈ ids t) (hz : stepO t y x = some z) (b l : List Row) :
    ACalls Try.prog 87 [.agg [.v (eT t)], idA x, idA y] b l (fun r b' l' => r = idA z ∧ b' = b ∧ l' = l) := by
  refine calls_kept a_rStep13_ok rfl (by decide) ?_
  intro B g hB hR hE hA
  simp only [KArgs] at hA
  obtain ⟨xp, xi⟩ := x
  obtain ⟨yp, yi⟩ := y
  rw [stepO_find hv hx hy, List.find?_eq_some_iff_getElem] at hz
  obtain ⟨hzp, n, hn, hzn, hbef⟩ := hz
  have hev := fun b l => rEvents_spec t s1 s2 b l
  have hdr := fun w hw b l => rDirect_spec t hS (xp, xi) w hx hw b l
  have hbf := fun w hw b l => rBef13_spec t hv hS hC w (yp, yi) hw hy b l
  simp only [idA] at hdr hbf
  simp (disch := (first | decide | omega)) only [a_rStep13, hA, idA, go_sem]
  refine loop_kept (ι := Nat) r_rStep130 (fun m => [(7, .v (.int .i64 m))]) 4 (fun m => [.live 0 1 [[.v (eT t)]], .live 0 2 [[.v (.int .i64 xp), .v (.int .i64 xi)]], .live 0 2 [[.v (.int .i64 yp), .v (.int .i64 yi)]], .live 0 2 [[.v (.int .i64 0), .v (.int .i64 0)]]])
    (fun m => m ≤ n) (fun m => n - m) 0 (Nat.zero_le _) (by (repeat (first | exact hE.mono (by omega) | refine KLt.up ?_ (by simp (disch := omega) only [AVlt_v, AVlt_any, AVlt_sl, AVlt_ptr, AVlt_mp, AVlt_agg, AVlt_tup, AVlt_fn, RowsLt_nil, RowsLt_live, RowsLt_dead, List.mem_cons, List.not_mem_nil, List.forall_mem_cons, List.forall_mem_nil, or_false, false_or, forall_eq_or_imp, forall_eq, vs_lt, Nat.add_lt_add_iff_left, Nat.reduceLT, true_and, and_true, and_self, List.length_cons, List.length_nil, Nat.reduceAdd, Nat.zero_add, implies_true, false_imp_iff, lt_T, List.mem_map])))) (by ((try simp (disch := decide) only [hA, go_sem]) <;> (repeat' (first | exact trivial | refine And.intro ?_ ?_)) <;> (first | rfl | (congr 2; omega)))) (fun e => Weak.refl _ _ _) ?_
  rintro g1 hE1 hEE1 hg1 m hm
  have hml : m < (ids t).length := by omega
  obtain ⟨⟨wp, wi⟩, hw⟩ : ∃ w, (ids t)[m] = w := ⟨_, rfl⟩
  have hwm : (wp, wi) ∈ ids t := by rw [← hw]; exact List.getElem_mem hml
  have hee := fun b l => rEvent_spec t hS m hml hC b l
  rw [hw] at hee
  simp only [idA] at hee
  have heq : (((wp : Int) == (yp : Int)) && ((wi : Int) == (yi : Int))) = decide ((wp, wi) = (yp, yi)) := by
    rw [Bool.eq_iff_iff]; simp; omega
  have hq : m < n → (dirB t (xp, xi) (wp, wi) && (decide ((wp, wi) = (yp, yi)) || befB t (wp, wi) (yp, yi))) = false := fun h => by
    have := hbef m h
    rw [hw] at this
    simpa only [Bool.not_eq_true'] using this
  have hq2 : m = n → (wp, wi) = z ∧ (dirB t (xp, xi) (wp, wi) && (decide ((wp, wi) = (yp, yi)) || befB t (wp, wi) (yp, yi))) = true := fun h => by
    subst h
    rw [hw] at hzn
    rw [hzn]
    exact ⟨rfl, hzp⟩
  simp (disch := (first | decide | omega)) only [hA, hg1, go_sem]
  refine ACalls.nxt (hev _ _) ?_
  simp (disch := (first | decide | omega)) only [hA, hg1, go_sem]
  refine ACalls.nxt (hee _ _) ?_
  simp (disch := (first | decide | omega)) only [hA, hg1, go_sem]
  refine ACalls.nxt (hdr _ hwm _ _) ?_
  cases h1 : dirB t (xp, xi) (wp, wi) with
  | false =>
    have hlt : m < n := by
      refine Nat.lt_of_le_of_ne hm fun h => ?_
      have := (hq2 h).2
      rw [h1] at this; cases this
    simp (disch := (first | decide | omega)) only [hA, hg1, go_sem]
    refine ⟨m + 1, hlt, by simp only; omega, ?_⟩
    exact Weak.kround (p := r_rStep130) (k := 4) (by ((repeat refine (kAny_up rfl).trans ?_); exact hEE1)) (by ((try simp (disch := decide) only [hA, go_sem]) <;> (repeat' (first | exact trivial | refine And.intro ?_ ?_)) <;> (first | rfl | (congr 2; omega)))) rfl hE1 (by simp) (by simp (disch := omega) only [KOvLt, AVlt_v, AVlt_any, AVlt_sl, AVlt_ptr, AVlt_mp, AVlt_agg, AVlt_tup, AVlt_fn, RowsLt_nil, RowsLt_live, RowsLt_dead, List.mem_cons, List.not_mem_nil, List.forall_mem_cons, List.forall_mem_nil, or_false, false_or, forall_eq_or_imp, forall_eq, vs_lt, Nat.add_lt_add_iff_left, Nat.reduceLT, true_and, and_true, and_self, List.length_cons, List.length_nil, Nat.reduceAdd, Nat.zero_add, implies_true, false_imp_iff, lt_T, List.mem_map]) hR (by simp (disch := omega) only [AVlt_v, AVlt_any, AVlt_sl, AVlt_ptr, AVlt_mp, AVlt_agg, AVlt_tup, AVlt_fn, RowsLt_nil, RowsLt_live, RowsLt_dead, List.mem_cons, List.not_mem_nil, List.forall_mem_cons, List.forall_mem_nil, or_false, false_or, forall_eq_or_imp, forall_eq, vs_lt, Nat.add_lt_add_iff_left, Nat.reduceLT, true_and, and_true, and_self, List.length_cons, List.length_nil, Nat.reduceAdd, Nat.zero_add, implies_true, false_imp_iff, lt_T, List.mem_map])
  | true =>
    by_cases he : (wp, wi) = (yp, yi)
    · rw [decide_eq_true he] at heq
      have hmn : m = n := by
        refine Nat.le_antisymm hm (Nat.le_of_not_lt fun h => ?_)
        have := hq h
        rw [h1, decide_eq_true he] at this; cases this
      rw [← (hq2 hmn).1]
      simp (disch := (first | decide | omega)) only [hA, hg1, heq, go_sem]
      exact leave_pure (xs := [.agg [.v (.int .i64 wp), .v (.int .i64 wi)]]) (.inr rfl) (by simp (disch := (first | decide | omega)) only [resVs, resV, go_sem, hA, hg1]) (by simp only [one, AVlt_v, AVlt_any, AVlt_sl, AVlt_ptr, AVlt_mp, AVlt_agg, AVlt_tup, AVlt_fn, RowsLt_nil, RowsLt_live, RowsLt_dead, List.mem_cons, List.not_mem_nil, List.forall_mem_cons, List.forall_mem_nil, or_false, false_or, forall_eq_or_imp, forall_eq, vs_lt, Nat.add_lt_add_iff_left, Nat.reduceLT, true_and, and_true, and_self, List.length_cons, List.length_nil, Nat.reduceAdd, Nat.zero_add, implies_true, false_imp_iff, lt_T, List.mem_map]) hR hB ⟨rfl, rfl, rfl⟩
    · rw [decide_eq_false he] at heq
      cases h2 : befB t (wp, wi) (yp, yi) with
      | true =>
        have hmn : m = n := by
          refine Nat.le_antisymm hm (Nat.le_of_not_lt fun h => ?_)
          have := hq h
          rw [h1, h2] at this; simp at this
        rw [← (hq2 hmn).1]
        simp (disch := (first | decide | omega)) only [hA, hg1, heq, go_sem]
        refine ACalls.nxt (hbf _ hwm _ _) ?_
        rw [h2]
        simp (disch := (first | decide | omega)) only [hA, hg1, go_sem]
        exact leave_pure (xs := [.agg [.v (.int .i64 wp), .v (.int .i64 wi)]]) (.inr rfl) (by simp (disch := (first | decide | omega)) only [resVs, resV, go_sem, hA, hg1]) (by simp only [one, AVlt_v, AVlt_any, AVlt_sl, AVlt_ptr, AVlt_mp, AVlt_agg, AVlt_tup, AVlt_fn, RowsLt_nil, RowsLt_live, RowsLt_dead, List.mem_cons, List.not_mem_nil, List.forall_mem_cons, List.forall_mem_nil, or_false, false_or, forall_eq_or_imp, forall_eq, vs_lt, Nat.add_lt_add_iff_left, Nat.reduceLT, true_and, and_true, and_self, List.length_cons, List.length_nil, Nat.reduceAdd, Nat.zero_add, implies_true, false_imp_iff, lt_T, List.mem_map]) hR hB ⟨rfl, rfl, rfl⟩
      | false =>
        have hlt : m < n := by
          refine Nat.lt_of_le_of_ne hm fun h => ?_
          have := (hq2 h).2
          rw [h1, h2, decide_eq_false he] at this; cases this
        simp (disch := (first | decide | omega)) only [hA, hg1, heq, go_sem]
        refine ACalls.nxt (hbf _ hwm _ _) ?_
        rw [h2]
        simp (disch := (first | decide | omega)) only [hA, hg1, go_sem]
        refine ⟨m + 1, hlt, by simp only; omega, ?_⟩
        exact Weak.kround (p := r_rStep130) (k := 4) (by ((repeat refine (kAny_up rfl).trans ?_); exact hEE1)) (by ((try simp (disch := decide) only [hA, go_sem]) <;> (repeat' (first | exact trivial | refine And.intro ?_ ?_)) <;> (first | rfl | (congr 2; omega)))) rfl hE1 (by simp) (by simp (disch := omega) only [KOvLt, AVlt_v, AVlt_any, AVlt_sl, AVlt_ptr, AVlt_mp, AVlt_agg, AVlt_tup, AVlt_fn, RowsLt_nil, RowsLt_live, RowsLt_dead, List.mem_cons, List.not_mem_nil, List.forall_mem_cons, List.forall_mem_nil, or_false, false_or, forall_eq_or_imp, forall_eq, vs_lt, Nat.add_lt_add_iff_left, Nat.reduceLT, true_and, and_true, and_self, List.length_cons, List.length_nil, Nat.reduceAdd, Nat.zero_add, implies_true, false_imp_iff, lt_T, List.mem_map]) hR (by simp (disch := omega) only [AVlt_v, AVlt_any, AVlt_sl, AVlt_ptr, AVlt_mp, AVlt_agg, AVlt_tup, AVlt_fn, RowsLt_nil, RowsLt_live, RowsLt_dead, List.mem_cons, List.not_mem_nil, List.forall_mem_cons, List.forall_mem_nil, or_false, false_or, forall_eq_or_imp, forall_eq, vs_lt, Nat.add_lt_add_iff_left, Nat.reduceLT, true_and, and_true, and_self, List.length_cons, List.length_nil, Nat.reduceAdd, Nat.zero_add, implies_true, false_imp_iff, lt_T, List.mem_map])
theorem rPath13_spec (t : Tr) (hv : Vok t) (hS : Small t) (s1 : t.length ≤ 20) (s2 : ∀ x ∈ t, x.evs.length ≤ 70) (hC : (ids t).length ≤ 1000000) (x y : Nat × Nat) (hx : x ∈ ids t) (hy : y ∈ ids t) (b l : List Row) :
    ACalls Try.prog 34 [.agg [.v (eT t)], idA x, idA y] b l (fun r b' l' => r = .tup [.v (if leadB t y x = true then .isl 2 ((pathL t x y).map eId) else .zsl), .v (.bool (leadB t y x))] ∧ b' = b ∧ l' = l) := by
  refine calls_kept a_rPath13_ok rfl (by decide) ?_
  intro B g hB hR hE hA
  simp only [KArgs] at hA
  obtain ⟨xp, xi⟩ := x
  obtain ⟨q, j⟩ := y
  have hbf := fun b l => rBef13_spec t hv hS hC (xp, xi) (q, j) hx hy b l
  have hst0 := fun w z hw hz b l => rStep13_spec t hv hS s1 s2 hC w (q, j) z hw hy hz b l
  simp only [idA] at hbf hst0
  have heq0 : (((xp : Int) == (q : Int)) && ((xi : Int) == (j : Int))) = decide ((xp, xi) = (q, j)) := by
    rw [Bool.eq_iff_iff]; simp; omega
  simp (disch := (first | decide | omega)) only [a_rPath13, hA, idA, go_sem]
  cases hlb : leadB t (q, j) (xp, xi) with
  | false =>
    have hne : (xp, xi) ≠ (q, j) := fun h => by
      have : leadB t (q, j) (xp, xi) = true := (leadB_iff hv hx).2 (.inl h)
      rw [hlb] at this; cases this
    have hb : befB t (xp, xi) (q, j) = false := by
      unfold befB; rw [show decide ((xp, xi).2 ≤ vc t (q, j) (xp, xi).1) = leadB t (q, j) (xp, xi) from rfl, hlb]; simp
    rw [decide_eq_false hne] at heq0
    simp (disch := (first | decide | omega)) only [hA, heq0, go_sem]
    refine ACalls.nxt (hbf _ _) ?_
    rw [hb]
    simp (disch := (first | decide | omega)) only [hA, go_sem]
    exact leave_pure (xs := [.v .zsl, .v (.bool false)]) (.inr rfl) (by simp (disch := (first | decide | omega)) only [resVs, resV, go_sem, hA]) (by simp only [one, AVlt_v, AVlt_any, AVlt_sl, AVlt_ptr, AVlt_mp, AVlt_agg, AVlt_tup, AVlt_fn, RowsLt_nil, RowsLt_live, RowsLt_dead, List.mem_cons, List.not_mem_nil, List.forall_mem_cons, List.forall_mem_nil, or_false, false_or, forall_eq_or_imp, forall_eq, vs_lt, Nat.add_lt_add_iff_left, Nat.reduceLT, true_and, and_true, and_self, List.length_cons, List.length_nil, Nat.reduceAdd, Nat.zero_add, implies_true, false_imp_iff, lt_T, List.mem_map]) hR hB ⟨rfl, rfl, rfl⟩
  | true =>
    have hl0 := (leadB_iff hv hx).1 hlb
    simp only [if_true]
    by_cases he0 : (xp, xi) = (q, j)
    case' pos =>
      rw [decide_eq_true he0] at heq0
      simp (disch := (first | decide | omega)) only [hA, heq0, List.replicate_succ, List.replicate_zero, go_sem]
    case' neg =>
      have hb : befB t (xp, xi) (q, j) = true := by
        unfold befB; rw [show decide ((xp, xi).2 ≤ vc t (q, j) (xp, xi).1) = leadB t (q, j) (xp, xi) from rfl, hlb, decide_eq_false he0]; rfl
      rw [decide_eq_false he0] at heq0
      simp (disch := (first | decide | omega)) only [hA, heq0, go_sem]
      refine ACalls.nxt (hbf _ _) ?_
      rw [hb]
      simp (disch := (first | decide | omega)) only [hA, List.replicate_succ, List.replicate_zero, go_sem]
    all_goals
      refine loop_kept (ι := (Nat × Nat) × Nat × List (Nat × Nat)) r_rPath130 (fun i => [(8, .sl (B.length + 3) i.2.2.length 0 (i.2.2.length + 1))]) 4 (fun i => [.live 0 1 [[.v (eT t)]], .live 0 2 [[.v (.int .i64 i.1.1), .v (.int .i64 i.1.2)]], .live 0 2 [[.v (.int .i64 q), .v (.int .i64 j)]], .live i.2.2.length 2 (vs ((i.2.2 ++ [i.1]).map eId))])
        (fun i => PathOk t (xp, xi) (q, j) i.1 i.2.1 i.2.2 ∧ i.2.2.length + i.2.1 ≤ 1000000) (fun i => i.2.1) ((xp, xi), (ids t).length, []) ⟨.start hv hx hl0, by simpa using hC⟩ (by (repeat (first | exact hE.mono (by omega) | refine KLt.up ?_ (by simp (disch := omega) only [AVlt_v, AVlt_any, AVlt_sl, AVlt_ptr, AVlt_mp, AVlt_agg, AVlt_tup, AVlt_fn, RowsLt_nil, RowsLt_live, RowsLt_dead, List.mem_cons, List.not_mem_nil, List.forall_mem_cons, List.forall_mem_nil, or_false, false_or, forall_eq_or_imp, forall_eq, vs_lt, Nat.add_lt_add_iff_left, Nat.reduceLT, true_and, and_true, and_self, List.length_cons, List.length_nil, Nat.reduceAdd, Nat.zero_add, implies_true, false_imp_iff, lt_T, List.mem_map])))) (by ((try simp (disch := decide) only [hA, go_sem]) <;> (repeat' (first | exact trivial | refine And.intro ?_ ?_)) <;> (first | rfl | (congr 2; omega)))) (fun e => Weak.refl _ _ _) ?_
      rintro g1 hE1 hEE1 hg1 ⟨⟨p, i⟩, n, D⟩ ⟨hok, hbd⟩
      simp only at hok hbd
      have heq : (((p : Int) == (q : Int)) && ((i : Int) == (j : Int))) = decide ((p, i) = (q, j)) := by
        rw [Bool.eq_iff_iff]; simp; omega
      by_cases he : (p, i) = (q, j)
      · rw [decide_eq_true he] at heq
        simp (disch := (first | decide | omega)) only [hA, hg1, heq, go_sem]
        rw [he] at hok
        have hdn := hok.done
        rw [he, hdn]
        exact leave_frz2' (i := 3) (ver := D.length) (sz := 2) (n := D.length + 1) (rows := (pathL t (xp, xi) (q, j)).map eId) (z := .bool true) (.inr rfl) (by simp (disch := (first | decide | omega)) only [resVs, resV, hA, hg1, go_sem]) rfl (by rw [← hdn]; simp) hR hB ⟨rfl, rfl, rfl⟩
      · rw [decide_eq_false he] at heq
        obtain ⟨⟨zp, zi⟩, m, hnm, hst, hok2, dz⟩ := hok.step hv hy he
        have tk : List.take (D.length + 1) ((D ++ [(p, i)]).map eId) = (D ++ [(p, i)]).map eId := List.take_of_length_le (by simp)
        have ts : (D ++ [(p, i)]).map eId ++ [[.int .i64 zp, .int .i64 zi]] = ((D ++ [(p, i)]) ++ [(zp, zi)]).map eId := by rw [List.map_append (l₁ := D ++ [(p, i)])]; rfl
        have hl2 : (D ++ [(p, i)]).length = D.length + 1 := by simp
        simp (disch := (first | decide | omega)) only [hA, hg1, heq, go_sem]
        refine ACalls.nxt (hst0 _ _ hok.mem hst _ _) ?_
        simp (disch := (first | decide | omega)) only [hA, hg1, tk, ts, List.length_map, List.replicate_succ, List.replicate_zero, go_sem]
        refine ⟨((zp, zi), m, D ++ [(p, i)]), ⟨hok2, by simp only [hl2]; omega⟩, by simp only; omega, ?_⟩
        exact Weak.kround (l1 := [.live 0 1 [[.v (eT t)]], .live 0 2 [[.v (.int .i64 zp), .v (.int .i64 zi)]], .live 0 2 [[.v (.int .i64 q), .v (.int .i64 j)]], .live (D ++ [(p, i)]).length 2 (vs (((D ++ [(p, i)]) ++ [(zp, zi)]).map eId))]) (p := r_rPath130) (k := 4) (by ((repeat refine (kAny_up rfl).trans ?_); exact hEE1)) (by ((try simp (disch := decide) only [hA, hg1, hl2, go_sem]) <;> (repeat' (first | exact trivial | refine And.intro ?_ ?_)) <;> (first | rfl | (congr 2; omega)))) (junk := [.live 0 2 [[.v (.int .i64 zp), .v (.int .i64 zi)]]]) (by simp) hE1 (by simp) (by simp (disch := omega) only [KOvLt, AVlt_v, AVlt_any, AVlt_sl, AVlt_ptr, AVlt_mp, AVlt_agg, AVlt_tup, AVlt_fn, RowsLt_nil, RowsLt_live, RowsLt_dead, List.mem_cons, List.not_mem_nil, List.forall_mem_cons, List.forall_mem_nil, or_false, false_or, forall_eq_or_imp, forall_eq, vs_lt, Nat.add_lt_add_iff_left, Nat.reduceLT, true_and, and_true, and_self, List.length_cons, List.length_nil, Nat.reduceAdd, Nat.zero_add, implies_true, false_imp_iff, lt_T, List.mem_map]) hR (by simp (disch := omega) only [AVlt_v, AVlt_any, AVlt_sl, AVlt_ptr, AVlt_mp, AVlt_agg, AVlt_tup, AVlt_fn, RowsLt_nil, RowsLt_live, RowsLt_dead, List.mem_cons, List.not_mem_nil, List.forall_mem_cons, List.forall_mem_nil, or_false, false_or, forall_eq_or_imp, forall_eq, vs_lt, Nat.add_lt_add_iff_left, Nat.reduceLT, true_and, and_true, and_self, List.length_cons, List.length_nil, Nat.reduceAdd, Nat.zero_add, implies_true, false_imp_iff, lt_T, List.mem_map])
end Go.Proofs.Ytnnnccibhhnbaaa

namespace Go.Proofs.Ytnnnccibhhnbaaa
set_option linter.unusedVariables false
set_option linter.unusedSimpArgs false
attribute [local go_sem ↓] run_skip run_region run_draw run_seq run_block run_exit run_ret run_cond atN_app seqC_normal seqC_exit seqC_ret seqQ_normal seqQ_exit seqQ_ret blkQ_normal blkQ_exit blkQ_ret runOps_nil runOps_cons runD_nil runD_cons grdO_true grdO_false grdD_true grdD_false ifC_true ifC_false opS_val opS_call opS_two opK_app dS_val dS_call dS_two dK_app kUp_same kUp_ne
attribute [local go_sem] rechks_nil rechks_cons rechk gcase_true gcase_false ex_val ex_val0 gd_none gd_some ev_t ev_c evs_nil evs_cons evo_some evo_none hget_at hget_first hsetB_at hsetB_first hsetL_at hsetL_first ofOpt_some aop aload astore aslice aappend aiaddr aiaddrA afaddr alen alenS acopy amm acall alookup amupdate alenM comma keyEq apick binV binVB binVS isSh intOp strOp boolOp shOp eqC eqF and2 cellsOf setFrom fillA fillS rd rdI elems mk bounds AV.cell List.all_cons List.all_nil Bool.and_true Bool.true_and Bool.and_self List.length_cons List.length_nil List.length_append Nat.reduceAdd Nat.reduceSub Nat.reduceMul Nat.zero_add Nat.add_zero List.cons_append List.nil_append List.append_assoc List.append_nil List.getElem?_cons_zero List.getElem?_cons_succ List.getElem?_nil List.set_cons_zero List.set_cons_succ List.drop_zero List.drop_succ_cons List.take_zero List.take_succ_cons List.take_nil List.drop_nil List.map_cons List.map_nil Option.map_some if_true if_false Bool.false_eq_true and_self true_and and_true Nat.reduceLeDiff Nat.reduceLT Nat.le_refl Nat.reduceEqDiff ite_true ite_false beq_self_eq_true beq_true beq_false Bool.not_true Bool.not_false Bool.true_beq Bool.false_beq map_vs vs_len vs_get vs_take vs_drop vs_snoc1 vs_snoc2 vs_snoc3 vs_snoc5 vs_set1 vs_set2 vs_rep wrap_id le_T lt_T le_F lt_F leI_T ltI_T leI_F ltI_F geI gtI get_T decide_true decide_false room List.getElem?_map List.length_map List.length_take Int.toNat_natCast Nat.min_def Nat.min_self nth_kOf put_kOf put_kNo kOv_cons kOv_nil KHas KArgs List.getElem_cons_zero List.getElem_cons_succ
def a_QuestL : AFunc := ⟨3, 195, [.tmp 6],
  (.seq (.region [⟨(some 3), .box (.t 0), none⟩, ⟨(some 4), .box (.t 1), none⟩, ⟨(some 5), .box (.t 2), none⟩, ⟨(some 6), .mv (.c (.v (.bool false))), none⟩])
  (.seq (.seq (.region [⟨(some 23), .call (.c (.fn 13 [])) [], none⟩, ⟨(some 24), .not (.t 23), none⟩])
  (.cond (.t 24) (.seq (.region [⟨(some 6), .mv (.c (.v (.bool false))), none⟩])
  .ret)
  .skip))
  (.seq (.seq (.region [⟨(some 25), .load (some 1) (.t 3), none⟩, ⟨(some 26), .call (.c (.fn 14 [])) [(.t 25)], none⟩])
  (.cond (.t 26) (.seq (.region [⟨(some 6), .mv (.c (.v (.bool true))), none⟩])
  .ret)
  .skip))
  (.seq (.region [⟨(some 28), .load (some 1) (.t 3), none⟩, ⟨(some 29), .load (some 2) (.t 4), none⟩, ⟨(some 30), .load (some 2) (.t 5), none⟩, ⟨(some 31), .call (.c (.fn 26 [])) [(.t 28), (.t 29), (.t 30)], none⟩, ⟨(some 27), .mv (.t 31), none⟩, ⟨(some 32), .extract 0 (.t 27), none⟩, ⟨(some 33), .extract 1 (.t 27), none⟩, ⟨(some 7), .mv (.t 32), none⟩, ⟨(some 8), .mv (.t 33), none⟩])
  (.seq (.region [⟨(some 35), .load (some 1) (.t 3), none⟩, ⟨(some 36), .load (some 2) (.t 4), none⟩, ⟨(some 37), .load (some 2) (.t 5), none⟩, ⟨(some 38), .call (.c (.fn 27 [])) [(.t 35), (.t 36), (.t 37)], none⟩, ⟨(some 34), .mv (.t 38), none⟩, ⟨(some 39), .extract 0 (.t 34), none⟩, ⟨(some 40), .extract 1 (.t 34), none⟩, ⟨(some 9), .mv (.t 39), none⟩, ⟨(some 10), .mv (.t 40), none⟩])
  (.seq (.region [⟨(some 42), .load (some 1) (.t 3), none⟩, ⟨(some 43), .load (some 2) (.t 4), none⟩, ⟨(some 44), .load (some 2) (.t 5), none⟩, ⟨(some 45), .call (.c (.fn 28 [])) [(.t 42), (.t 43), (.t 44)], none⟩, ⟨(some 41), .mv (.t 45), none⟩, ⟨(some 46), .extract 0 (.t 41), none⟩, ⟨(some 47), .extract 1 (.t 41), none⟩, ⟨(some 11), .mv (.t 46), none⟩, ⟨(some 12), .mv (.t 47), none⟩])
  (.seq (.region [⟨(some 49), .load (some 1) (.t 3), none⟩, ⟨(some 50), .load (some 2) (.t 4), none⟩, ⟨(some 51), .call (.c (.fn 29 [])) [(.t 49), (.t 50)], none⟩, ⟨(some 48), .mv (.t 51), none⟩, ⟨(some 52), .extract 0 (.t 48), none⟩, ⟨(some 53), .extract 1 (.t 48), none⟩, ⟨(some 13), .mv (.t 52), none⟩, ⟨(some 14), .mv (.t 53), none⟩])
  (.seq (.region [⟨(some 55), .load (some 1) (.t 3), none⟩, ⟨(some 56), .load (some 2) (.t 4), none⟩, ⟨(some 57), .call (.c (.fn 31 [])) [(.t 55), (.t 56)], none⟩, ⟨(some 54), .mv (.t 57), none⟩, ⟨(some 58), .extract 0 (.t 54), none⟩, ⟨(some 59), .extract 1 (.t 54), none⟩, ⟨(some 15), .mv (.t 58), none⟩, ⟨(some 16), .mv (.t 59), none⟩])
  (.seq (.seq (.region [⟨(some 60), .load (some 1) (.t 3), none⟩, ⟨(some 61), .load (some 2) (.t 4), none⟩, ⟨(some 62), .load (some 2) (.t 5), none⟩, ⟨(some 63), .call (.c (.fn 32 [])) [(.t 60), (.t 61), (.t 62)], none⟩, ⟨(some 17), .mv (.t 63), none⟩])
  (.seq (.region [⟨(some 64), .mv (.t 17), none⟩, ⟨(some 65), .bin .neq (.t 64) (.c (.v (.int .i64 0))), none⟩])
  (.cond (.t 65) (.seq (.region [⟨(some 66), .mv (.t 8), none⟩, ⟨(some 67), .mv (.t 17), none⟩, ⟨(some 68), .bin .neq (.t 66) (.t 67), none⟩, ⟨(some 69), .mv (.t 68), none⟩, ⟨(some 70), .mv (.t 7), some (69, false)⟩, ⟨(some 71), .pick (.t 69) (.c (.v (.bool true))) (.t 70), none⟩, ⟨(some 72), .mv (.t 71), none⟩, ⟨(some 73), .mv (.t 10), some (72, false)⟩, ⟨(some 74), .mv (.t 17), some (72, false)⟩, ⟨(some 75), .bin .neq (.t 73) (.t 74), some (72, false)⟩, ⟨(some 76), .pick (.t 72) (.c (.v (.bool true))) (.t 75), none⟩, ⟨(some 77), .mv (.t 76), none⟩, ⟨(some 78), .mv (.t 9), some (77, false)⟩, ⟨(some 79), .pick (.t 77) (.c (.v (.bool true))) (.t 78), none⟩, ⟨(some 80), .mv (.t 79), none⟩, ⟨(some 81), .mv (.t 12), some (80, false)⟩, ⟨(some 82), .mv (.t 17), some (80, false)⟩, ⟨(some 83), .bin .neq (.t 81) (.t 82), some (80, false)⟩, ⟨(some 84), .pick (.t 80) (.c (.v (.bool true))) (.t 83), none⟩, ⟨(some 85), .mv (.t 84), none⟩, ⟨(some 86), .mv (.t 11), some (85, false)⟩, ⟨(some 87), .len (.t 86), some (85, false)⟩, ⟨(some 88), .bin .neq (.t 87) (.c (.v (.int .i64 0))), some (85, false)⟩, ⟨(some 89), .pick (.t 85) (.c (.v (.bool true))) (.t 88), none⟩])
  (.cond (.t 89) (.seq (.region [⟨(some 6), .mv (.c (.v (.bool false))), none⟩])
  .ret)
  .skip))
  (.seq (.draw [⟨0, ⟨(some 90), .load (some 1) (.t 3), none⟩, []⟩, ⟨1, ⟨(some 91), .load (some 2) (.t 4), none⟩, []⟩, ⟨2, ⟨(some 92), .load (some 2) (.t 5), none⟩, []⟩, ⟨4, ⟨(some 94), .load (some 1) (.t 3), none⟩, []⟩, ⟨5, ⟨(some 95), .load (some 2) (.t 5), none⟩, []⟩, ⟨6, ⟨(some 96), .load (some 2) (.t 4), none⟩, []⟩, ⟨3, ⟨(some 93), .call (.c (.fn 33 [])) [(.t 90), (.t 91), (.t 92)], none⟩, [⟨(some 94), .load (some 1) (.t 3), none⟩, ⟨(some 95), .load (some 2) (.t 5), none⟩, ⟨(some 96), .load (some 2) (.t 4), none⟩]⟩, ⟨7, ⟨(some 97), .call (.c (.fn 33 [])) [(.t 94), (.t 95), (.t 96)], none⟩, []⟩, ⟨8, ⟨(some 18), .mv (.t 93), none⟩, []⟩, ⟨9, ⟨(some 19), .mv (.t 97), none⟩, []⟩])
  (.seq (.region [⟨(some 99), .load (some 1) (.t 3), none⟩, ⟨(some 100), .load (some 2) (.t 4), none⟩, ⟨(some 101), .load (some 2) (.t 5), none⟩, ⟨(some 102), .call (.c (.fn 34 [])) [(.t 99), (.t 100), (.t 101)], none⟩, ⟨(some 98), .mv (.t 102), none⟩, ⟨(some 103), .extract 0 (.t 98), none⟩, ⟨(some 104), .extract 1 (.t 98), none⟩, ⟨(some 20), .mv (.t 103), none⟩, ⟨(some 21), .mv (.t 104), none⟩])
  (.seq (.region [⟨(some 105), .mv (.t 8), none⟩, ⟨(some 106), .bin .neq (.t 105) (.c (.v (.int .i64 0))), none⟩, ⟨(some 107), .mv (.t 106), none⟩, ⟨(some 108), .mv (.t 7), some (107, false)⟩, ⟨(some 109), .mv (.t 18), some (107, false)⟩, ⟨(some 110), .binB .neq (.t 108) (.t 109), some (107, false)⟩, ⟨(some 111), .pick (.t 107) (.c (.v (.bool true))) (.t 110), none⟩, ⟨(some 112), .mv (.t 111), none⟩, ⟨(some 113), .mv (.t 10), some (112, false)⟩, ⟨(some 114), .bin .neq (.t 113) (.c (.v (.int .i64 0))), some (112, false)⟩, ⟨(some 115), .pick (.t 112) (.c (.v (.bool true))) (.t 114), none⟩, ⟨(some 116), .mv (.t 115), none⟩, ⟨(some 117), .mv (.t 9), some (116, false)⟩, ⟨(some 118), .load (some 2) (.t 4), some (116, false)⟩, ⟨(some 119), .load (some 2) (.t 5), some (116, false)⟩, ⟨(some 120), .eqs true [.i, .i] (.t 118) (.t 119), some (116, false)⟩, ⟨(some 121), .mv (.t 120), some (116, false)⟩, ⟨(some 122), .mv (.t 18), some (121, true)⟩, ⟨(some 123), .not (.t 122), some (121, true)⟩, ⟨(some 124), .pick (.t 121) (.t 123) (.c (.v (.bool false))), some (116, false)⟩, ⟨(some 125), .mv (.t 124), some (116, false)⟩, ⟨(some 126), .mv (.t 19), some (125, true)⟩, ⟨(some 127), .not (.t 126), some (125, true)⟩, ⟨(some 128), .pick (.t 125) (.t 127) (.c (.v (.bool false))), some (116, false)⟩, ⟨(some 129), .binB .neq (.t 117) (.t 128), some (116, false)⟩, ⟨(some 130), .pick (.t 116) (.c (.v (.bool true))) (.t 129), none⟩, ⟨(some 131), .mv (.t 130), none⟩, ⟨(some 132), .mv (.t 21), some (131, false)⟩, ⟨(some 133), .mv (.t 12), some (131, false)⟩, ⟨(some 134), .bin .eql (.t 133) (.c (.v (.int .i64 0))), some (131, false)⟩, ⟨(some 135), .binB .neq (.t 132) (.t 134), some (131, false)⟩, ⟨(some 136), .pick (.t 131) (.c (.v (.bool true))) (.t 135), none⟩, ⟨(some 137), .mv (.t 136), none⟩, ⟨(some 138), .mv (.t 21), some (137, false)⟩, ⟨(some 139), .not (.t 138), some (137, false)⟩, ⟨(some 140), .mv (.t 139), some (137, false)⟩, ⟨(some 141), .mv (.t 12), some (140, true)⟩, ⟨(some 142), .bin .neq (.t 141) (.c (.v (.int .i64 7))), some (140, true)⟩, ⟨(some 143), .pick (.t 140) (.t 142) (.c (.v (.bool false))), some (137, false)⟩, ⟨(some 144), .pick (.t 137) (.c (.v (.bool true))) (.t 143), none⟩, ⟨(some 145), .mv (.t 144), none⟩, ⟨(some 146), .mv (.t 11), some (145, false)⟩, ⟨(some 147), .mv (.t 20), some (145, false)⟩, ⟨(some 148), .call (.c (.fn 35 [])) [(.t 146), (.t 147)], some (145, false)⟩, ⟨(some 149), .not (.t 148), some (145, false)⟩, ⟨(some 150), .pick (.t 145) (.c (.v (.bool true))) (.t 149), none⟩])
  (.cond (.t 150) (.seq (.region [⟨(some 6), .mv (.c (.v (.bool false))), none⟩])
  .ret)
  .skip)))))))
  (.seq (.seq (.region [⟨(some 151), .load (some 1) (.t 3), none⟩, ⟨(some 152), .load (some 2) (.t 4), none⟩, ⟨(some 153), .load (some 2) (.t 4), none⟩, ⟨(some 154), .call (.c (.fn 32 [])) [(.t 151), (.t 152), (.t 153)], none⟩, ⟨(some 22), .mv (.t 154), none⟩])
  (.seq (.region [⟨(some 155), .mv (.t 22), none⟩, ⟨(some 156), .bin .neq (.t 155) (.c (.v (.int .i64 0))), none⟩])
  (.cond (.t 156) (.seq (.region [⟨(some 157), .mv (.t 14), none⟩, ⟨(some 158), .mv (.t 22), none⟩, ⟨(some 159), .bin .eql (.t 157) (.t 158), none⟩, ⟨(some 160), .mv (.t 159), none⟩, ⟨(some 161), .mv (.t 13), some (160, true)⟩, ⟨(some 162), .len (.t 161), some (160, true)⟩, ⟨(some 163), .bin .eql (.t 162) (.c (.v (.int .i64 0))), some (160, true)⟩, ⟨(some 164), .pick (.t 160) (.t 163) (.c (.v (.bool false))), none⟩, ⟨(some 165), .mv (.t 164), none⟩, ⟨(some 166), .mv (.t 16), some (165, true)⟩, ⟨(some 167), .mv (.t 22), some (165, true)⟩, ⟨(some 168), .bin .eql (.t 166) (.t 167), some (165, true)⟩, ⟨(some 169), .pick (.t 165) (.t 168) (.c (.v (.bool false))), none⟩, ⟨(some 170), .mv (.t 169), none⟩, ⟨(some 171), .mv (.t 15), some (170, true)⟩, ⟨(some 172), .len (.t 171), some (170, true)⟩, ⟨(some 173), .bin .eql (.t 172) (.c (.v (.int .i64 0))), some (170, true)⟩, ⟨(some 174), .pick (.t 170) (.t 173) (.c (.v (.bool false))), none⟩, ⟨(some 6), .mv (.t 174), none⟩])
  .ret)
  .skip)))
  (.seq (.region [⟨(some 175), .mv (.t 14), none⟩, ⟨(some 176), .bin .eql (.t 175) (.c (.v (.int .i64 0))), none⟩, ⟨(some 177), .mv (.t 176), none⟩, ⟨(some 178), .mv (.t 13), some (177, true)⟩, ⟨(some 179), .load (some 1) (.t 3), some (177, true)⟩, ⟨(some 180), .load (some 2) (.t 4), some (177, true)⟩, ⟨(some 181), .call (.c (.fn 37 [])) [(.t 179), (.t 180)], some (177, true)⟩, ⟨(some 182), .call (.c (.fn 36 [])) [(.t 178), (.t 181)], some (177, true)⟩, ⟨(some 183), .pick (.t 177) (.t 182) (.c (.v (.bool false))), none⟩, ⟨(some 184), .mv (.t 183), none⟩, ⟨(some 185), .mv (.t 16), some (184, true)⟩, ⟨(some 186), .bin .eql (.t 185) (.c (.v (.int .i64 0))), some (184, true)⟩, ⟨(some 187), .pick (.t 184) (.t 186) (.c (.v (.bool false))), none⟩, ⟨(some 188), .mv (.t 187), none⟩, ⟨(some 189), .mv (.t 15), some (188, true)⟩, ⟨(some 190), .load (some 1) (.t 3), some (188, true)⟩, ⟨(some 191), .load (some 2) (.t 4), some (188, true)⟩, ⟨(some 192), .call (.c (.fn 38 [])) [(.t 190), (.t 191)], some (188, true)⟩, ⟨(some 193), .call (.c (.fn 36 [])) [(.t 189), (.t 192)], some (188, true)⟩, ⟨(some 194), .pick (.t 188) (.t 193) (.c (.v (.bool false))), none⟩, ⟨(some 6), .mv (.t 194), none⟩])
  .ret)))))))))))⟩
theorem a_QuestL_ok : cFunc Try.prog 5 = some a_QuestL := by kernel_rfl

theorem chk_dup {t : Tr} {x : Int × Int} : chkE t [x, x] = chkE t [x] := by
  unfold chkE
  simp
open Classical in
noncomputable def pastV (t : Tr) (x : Int × Int) : IV := if chkE t [x] = 0 then .isl 1 ((vcs t (x.1.toNat, x.2.toNat)).map eI) else .zsl
open Classical in
noncomputable def futV (t : Tr) (x : Int × Int) : IV := if chkE t [x] = 0 then .isl 1 ((fus t (x.1.toNat, x.2.toNat)).map eI) else .zsl
open Classical in
noncomputable def pathV (t : Tr) (x y : Int × Int) : IV := if chkE t [x, y] = 0 ∧ leadB t (y.1.toNat, y.2.toNat) (x.1.toNat, x.2.toNat) = true then .isl 2 ((pathL t (x.1.toNat, x.2.toNat) (y.1.toNat, y.2.toNat)).map eId) else .zsl
open Classical in
noncomputable def pathE (t : Tr) (x y : Int × Int) : Int := if chkE t [x, y] = 0 then (if leadB t (y.1.toNat, y.2.toNat) (x.1.toNat, x.2.toNat) = true then 0 else 7) else chkE t [x, y]
theorem pastR_v {t : Tr} {x : Int × Int} : pastR t x = .tup [.v (pastV t x), .v (.int .i64 (chkE t [x]))] := by
  unfold pastR pastV
  by_cases h : chkE t [x] = 0
  · rw [if_pos h, if_pos h, h]
  · rw [if_neg h, if_neg h]
theorem futR_v {t : Tr} {x : Int × Int} : futR t x = .tup [.v (futV t x), .v (.int .i64 (chkE t [x]))] := by
  unfold futR futV
  by_cases h : chkE t [x] = 0
  · rw [if_pos h, if_pos h, h]
  · rw [if_neg h, if_neg h]
theorem pathR_v {t : Tr} {x y : Int × Int} : pathR t x y = .tup [.v (pathV t x y), .v (.int .i64 (pathE t x y))] := by
  unfold pathR pathV pathE
  by_cases h : chkE t [x, y] = 0
  · rw [if_pos h, if_pos h]
    by_cases h2 : leadB t (y.1.toNat, y.2.toNat) (x.1.toNat, x.2.toNat) = true
    · rw [if_pos h2, if_pos h2, if_pos ⟨h, h2⟩]
    · rw [if_neg h2, if_neg h2, if_neg (fun k => h2 k.2)]
  · rw [if_neg h, if_neg h, if_neg (fun k => h k.1)]
set_option maxRecDepth 20000 in
set_option maxHeartbeats 8000000 in
theorem causalityQuestions_run (t : Tr) (x y : Int × Int) (hN : Nm t) (b l : List Row) :
    ACalls Try.prog 5 [.agg [.v (eT t)], idP x, idP y] b l (fun r b' l' => r = .v (.bool true) ∧ b' = b ∧ l' = l) := by
  refine calls_kept a_QuestL_ok rfl (by decide) ?_
  intro B g hB hR hE hA
  simp only [KArgs] at hA
  simp (disch := decide) only [a_QuestL, hA, idP, go_sem]
  refine ACalls.nxt (awake13_spec _ _) ?_
  simp (disch := decide) only [hA, go_sem]
  refine ACalls.nxt (great_spec t hN _ _) ?_
  cases hgr : grB t with
  | true =>
    simp (disch := decide) only [hA, go_sem]
    exact leave_pure (xs := [.v (.bool true)]) (.inr rfl) (by simp (disch := (first | decide | omega)) only [resVs, resV, go_sem, hA]) (by simp only [one, AVlt_v, AVlt_any, AVlt_sl, AVlt_ptr, AVlt_mp, AVlt_agg, AVlt_tup, AVlt_fn, RowsLt_nil, RowsLt_live, RowsLt_dead, List.mem_cons, List.not_mem_nil, List.forall_mem_cons, List.forall_mem_nil, or_false, false_or, forall_eq_or_imp, forall_eq, vs_lt, Nat.add_lt_add_iff_left, Nat.reduceLT, true_and, and_true, and_self, List.length_cons, List.length_nil, Nat.reduceAdd, Nat.zero_add, implies_true, false_imp_iff, lt_T, List.mem_map]) hR hB ⟨rfl, rfl, rfl⟩
  | false =>
  obtain ⟨s1, s2, hS, s3⟩ := gr_in hgr
  have hC : validL t = true → (ids t).length ≤ 1000000 := fun h => by have := s3 h; omega
  obtain ⟨b1, hb1⟩ : ∃ z, (decide (chkE t [x, y] = 0) && befB t (x.1.toNat, x.2.toNat) (y.1.toNat, y.2.toNat)) = z := ⟨_, rfl⟩
  obtain ⟨c1, hc1⟩ : ∃ z, (decide (chkE t [x, y] = 0) && concB2 t (x.1.toNat, x.2.toNat) (y.1.toNat, y.2.toNat)) = z := ⟨_, rfl⟩
  obtain ⟨e, he⟩ : ∃ z, chkE t [x, y] = z := ⟨_, rfl⟩
  obtain ⟨e1, he1⟩ : ∃ z, chkE t [x] = z := ⟨_, rfl⟩
  obtain ⟨pv, hpv⟩ : ∃ z, pathV t x y = z := ⟨_, rfl⟩
  obtain ⟨pe, hpe⟩ : ∃ z, pathE t x y = z := ⟨_, rfl⟩
  obtain ⟨av, hav⟩ : ∃ z, pastV t x = z := ⟨_, rfl⟩
  obtain ⟨fv, hfv⟩ : ∃ z, futV t x = z := ⟨_, rfl⟩
  have hbe := fun b l => Before_spec t hS hN hC x y b l
  have hcc := fun b l => ConcC_spec t hS hN hC x y b l
  have hpt := fun b l => PathC_spec t hS hN hC x y b l
  have hpa := fun b l => PastC_spec t hS hN hC x b l
  have hfu := fun b l => FutureC_spec t hS hN hC x b l
  have hft := fun b l => rFault13_spec t hS hN x y b l
  have hft2 := fun b l => rFault13_spec t hS hN x x b l
  unfold befR at hbe
  unfold conR at hcc
  rw [pathR_v] at hpt
  rw [pastR_v] at hpa
  rw [futR_v] at hfu
  rw [chk_dup] at hft2
  rw [hb1, he] at hbe
  rw [hc1, he] at hcc
  rw [hpv, hpe] at hpt
  rw [hav, he1] at hpa
  rw [hfv, he1] at hfu
  rw [he] at hft
  rw [he1] at hft2
  simp only [idP] at hbe hcc hpt hpa hfu hft hft2
  have hn0 : ((0 : Int) != 0) = false := rfl
  have hnn : ∀ n : Int, (n != n) = false := fun n => by simp
  have hee : ∀ n : Int, (n == n) = true := fun n => by simp
  have K : e1 = 0 → (∀ b l, ACalls Try.prog 37 [.agg [.v (eT t)], idP x] b l (fun r b' l' => r = .v av ∧ b' = b ∧ l' = l)) ∧ (∀ b l, ACalls Try.prog 38 [.agg [.v (eT t)], idP x] b l (fun r b' l' => r = .v fv ∧ b' = b ∧ l' = l)) ∧ (∀ b l, ACalls Try.prog 36 [.v av, .v av] b l (fun r b' l' => r = .v (.bool true) ∧ b' = b ∧ l' = l)) ∧ (∀ b l, ACalls Try.prog 36 [.v fv, .v fv] b l (fun r b' l' => r = .v (.bool true) ∧ b' = b ∧ l' = l)) := by
    intro h1
    subst h1
    obtain ⟨hval, hall⟩ := chkE_zero.1 he1
    have hv := vok hval
    obtain ⟨p', i', u1, u2, hx⟩ := existsB_in (hall _ (List.mem_singleton.2 rfl))
    obtain ⟨x1, x2⟩ := x
    simp only at u1 u2
    subst u1; subst u2
    have t1 : ∀ a : Nat, ((a : Nat) : Int).toNat = a := fun a => rfl
    have q1 : av = .isl 1 ((vcs t (p', i' + 1)).map eI) := by
      rw [← hav]
      unfold pastV
      rw [if_pos he1]
      simp only [t1]
    have q2 : fv = .isl 1 ((fus t (p', i' + 1)).map eI) := by
      rw [← hfv]
      unfold futV
      rw [if_pos he1]
      simp only [t1]
    rw [q1, q2]
    have hvl : (vcs t (p', i' + 1)).length ≤ 1000000 := by have : (vcs t (p', i' + 1)).length = t.length := fl_len; omega
    have hul : (fus t (p', i' + 1)).length ≤ 1000000 := by have : (fus t (p', i' + 1)).length = t.length := fl_len; omega
    have hq1 := fun b l => eq1_spec (vcs t (p', i' + 1)) (vcs t (p', i' + 1)) hvl b l
    have hq2 := fun b l => eq1_spec (fus t (p', i' + 1)) (fus t (p', i' + 1)) hul b l
    simp only [decide_true] at hq1 hq2
    exact ⟨fun b l => rPast13_spec t hv hS (hC hval) _ hx b l, fun b l => rFut13_spec t hv hS (hC hval) _ hx b l, hq1, hq2⟩
  have K1 := fun h => (K h).1
  have K2 := fun h => (K h).2.1
  have K3 := fun h => (K h).2.2.1
  have K4 := fun h => (K h).2.2.2
  simp only [idP] at K1 K2
  have K5 : e1 ≠ 0 → av = .zsl := fun h1 => by
    rw [← hav]
    unfold pastV
    rw [if_neg (fun k => h1 (he1 ▸ k))]
  have K6 : e1 ≠ 0 → fv = .zsl := fun h1 => by
    rw [← hfv]
    unfold futV
    rw [if_neg (fun k => h1 (he1 ▸ k))]
  clear hav hfv he1 K
  have h70 : ((7 : Int) == 0) = false := rfl
  simp (disch := decide) only [hA, go_sem]
  refine ACalls.nxt (hbe _ _) ?_
  simp (disch := decide) only [hA, go_sem]
  refine ACalls.nxt (hcc _ _) ?_
  simp (disch := decide) only [hA, go_sem]
  refine ACalls.nxt (hpt _ _) ?_
  simp (disch := decide) only [hA, go_sem]
  refine ACalls.nxt (hpa _ _) ?_
  simp (disch := decide) only [hA, go_sem]
  refine ACalls.nxt (hfu _ _) ?_
  simp (disch := decide) only [hA, go_sem]
  refine ACalls.nxt (hft _ _) ?_
  by_cases h0 : e = 0
  case' neg =>
    have hd : (e != 0) = true := by rw [bne_iff_ne]; exact h0
    have d0 : decide (chkE t [x, y] = 0) = false := decide_eq_false (by rw [he]; exact h0)
    rw [d0, Bool.false_and] at hb1 hc1
    subst hb1
    subst hc1
    have q1 : pathV t x y = .zsl := by unfold pathV; rw [if_neg (fun k => h0 (he ▸ k.1))]
    have q2 : pathE t x y = e := by unfold pathE; rw [if_neg (fun k => h0 (he ▸ k)), he]
    rw [q1] at hpv
    rw [q2] at hpe
    subst hpv
    subst hpe
    simp (disch := decide) only [hA, hd, hnn, hn0, go_sem]
  case' pos =>
    subst h0
    obtain ⟨hval, hall⟩ := chkE_zero.1 he
    have hv := vok hval
    obtain ⟨p, i, u1, u2, hx⟩ := existsB_in (hall x (by simp))
    obtain ⟨q, j, u3, u4, hy⟩ := existsB_in (hall y (by simp))
    obtain ⟨x1, x2⟩ := x
    obtain ⟨y1, y2⟩ := y
    simp only at u1 u2 u3 u4
    subst u1; subst u2; subst u3; subst u4
    simp only [Int.toNat_natCast] at hb1 hc1
    have d0 : decide (chkE t [((p : Int), ((i + 1 : Nat) : Int)), ((q : Int), ((j + 1 : Nat) : Int))] = 0) = true := decide_eq_true he
    rw [d0, Bool.true_and] at hb1 hc1
    have hrb := fun b l => rBef13_spec t hv hS (hC hval) _ _ hx hy b l
    have hrb2 := fun b l => rBef13_spec t hv hS (hC hval) _ _ hy hx b l
    have hrp := fun b l => rPath13_spec t hv hS s1 s2 (hC hval) _ _ hx hy b l
    have q1 : pathV t ((p : Int), ((i + 1 : Nat) : Int)) ((q : Int), ((j + 1 : Nat) : Int)) = if leadB t (q, j + 1) (p, i + 1) = true then .isl 2 ((pathL t (p, i + 1) (q, j + 1)).map eId) else .zsl := by
      unfold pathV
      rw [he]
      simp only [true_and, Int.toNat_natCast]
    have q2 : pathE t ((p : Int), ((i + 1 : Nat) : Int)) ((q : Int), ((j + 1 : Nat) : Int)) = if leadB t (q, j + 1) (p, i + 1) = true then 0 else 7 := by
      unfold pathE
      rw [if_pos he]
      simp only [Int.toNat_natCast]
    rw [q1] at hpv
    rw [q2] at hpe
    have heq : (((p : Int) == (q : Int)) && (((i + 1 : Nat) : Int) == ((j + 1 : Nat) : Int))) = decide ((p, i + 1) = (q, j + 1)) := by
      rw [Bool.eq_iff_iff]; simp; omega
    have hpl : leadB t (q, j + 1) (p, i + 1) = true → (pathL t (p, i + 1) (q, j + 1)).length ≤ 1000000 := fun h => by
      have hn : ∀ n x, (pathF t (q, j + 1) n x).length ≤ n + 1 := by
        intro n
        induction n with
        | zero => intro x; simp [pathF]
        | succ n ih =>
          intro x
          unfold pathF
          split
          · simp
          · split
            · simp
            · rename_i z _
              have := ih z
              simp only [List.length_cons]; omega
      have := hn (ids t).length (p, i + 1)
      have h70 := s3 hval
      unfold pathL
      omega
    have hbl := bef_lead (t := t) (x := (p, i + 1)) (y := (q, j + 1))
    have hcb : concB2 t (p, i + 1) (q, j + 1) = (!(decide ((p, i + 1) = (q, j + 1))) && (!befB t (p, i + 1) (q, j + 1) && !befB t (q, j + 1) (p, i + 1))) := rfl
    have hself : (p, i + 1) = (q, j + 1) → leadB t (q, j + 1) (p, i + 1) = true := fun h => (leadB_iff hv hx).2 (.inl h)
    simp only [idA] at hrb hrb2 hrp
    have hcases : (leadB t (q, j + 1) (p, i + 1) = true ∧ befB t (p, i + 1) (q, j + 1) = true ∧ decide ((p, i + 1) = (q, j + 1)) = false ∧ befB t (q, j + 1) (p, i + 1) = false ∧ concB2 t (p, i + 1) (q, j + 1) = false) ∨ (leadB t (q, j + 1) (p, i + 1) = true ∧ befB t (p, i + 1) (q, j + 1) = false ∧ decide ((p, i + 1) = (q, j + 1)) = true ∧ befB t (q, j + 1) (p, i + 1) = false ∧ concB2 t (p, i + 1) (q, j + 1) = false) ∨ (leadB t (q, j + 1) (p, i + 1) = false ∧ befB t (p, i + 1) (q, j + 1) = false ∧ decide ((p, i + 1) = (q, j + 1)) = false ∧ befB t (q, j + 1) (p, i + 1) = true ∧ concB2 t (p, i + 1) (q, j + 1) = false) ∨ (leadB t (q, j + 1) (p, i + 1) = false ∧ befB t (p, i + 1) (q, j + 1) = false ∧ decide ((p, i + 1) = (q, j + 1)) = false ∧ befB t (q, j + 1) (p, i + 1) = false ∧ concB2 t (p, i + 1) (q, j + 1) = true) := by
      rw [hcb]
      cases hL : leadB t (q, j + 1) (p, i + 1) with
      | true =>
        by_cases hE : (p, i + 1) = (q, j + 1)
        · have h1 : befB t (p, i + 1) (q, j + 1) = false := by rw [hbl, decide_eq_true hE]; rfl
          have h2 : befB t (q, j + 1) (p, i + 1) = false := by rw [bef_lead, decide_eq_true hE.symm]; rfl
          exact .inr (.inl ⟨rfl, h1, decide_eq_true hE, h2, by rw [decide_eq_true hE]; rfl⟩)
        · have h1 : befB t (p, i + 1) (q, j + 1) = true := by rw [hbl, decide_eq_false hE, hL]; rfl
          exact .inl ⟨rfl, h1, decide_eq_false hE, bef_anti hv hx hy h1, by rw [h1]; simp⟩
      | false =>
        have hE : (p, i + 1) ≠ (q, j + 1) := fun h => by rw [hself h] at hL; cases hL
        have h1 : befB t (p, i + 1) (q, j + 1) = false := by rw [hbl, hL, Bool.and_false]
        cases h2 : befB t (q, j + 1) (p, i + 1) with
        | true => exact .inr (.inr (.inl ⟨rfl, h1, decide_eq_false hE, rfl, by simp⟩))
        | false => exact .inr (.inr (.inr ⟨rfl, h1, decide_eq_false hE, rfl, by rw [h1, decide_eq_false hE]; rfl⟩))
    clear hself hbl hcb
    rcases hcases with ⟨hL, hB1, hE1, hB2, hC1⟩ | ⟨hL, hB1, hE1, hB2, hC1⟩ | ⟨hL, hB1, hE1, hB2, hC1⟩ | ⟨hL, hB1, hE1, hB2, hC1⟩
    all_goals
      rw [hB1] at hb1 hrb
      rw [hC1] at hc1
      rw [hB2] at hrb2
      rw [hL] at hpv hpe hrp
      rw [hE1] at heq
      subst hb1
      subst hc1
    case' inl | inr.inl =>
      have hqe := fun b l => eqE_spec (pathL t (p, i + 1) (q, j + 1)) (hpl hL) b l
    case' inr.inr.inl | inr.inr.inr =>
      have hqe := fun b l => eqEz_spec b l
    all_goals
      simp only [if_true, Bool.false_eq_true, if_false] at hpv hpe hrp
      subst hpv
      subst hpe
      simp (disch := decide) only [hA, hn0, hnn, hee, go_sem]
      refine ACalls.nxt (hrb _ _) ?_
      simp (disch := decide) only [hA, hn0, hnn, hee, go_sem]
      refine ACalls.nxt (hrb2 _ _) ?_
      simp (disch := decide) only [hA, hn0, hnn, hee, go_sem]
      refine ACalls.nxt (hrp _ _) ?_
      simp (disch := decide) only [hA, hn0, hnn, hee, heq, h70, go_sem]
      refine ACalls.nxt (hqe _ _) ?_
      simp (disch := decide) only [hA, hn0, hnn, hee, go_sem]
  all_goals
    refine ACalls.nxt (hft2 _ _) ?_
    by_cases h1 : e1 = 0
    · have hd1 : (e1 != 0) = false := by rw [h1]; rfl
      have hd2 : (e1 == 0) = true := by rw [h1]; rfl
      simp (disch := decide) only [hA, hn0, hnn, hee, hd1, hd2, go_sem]
      refine ACalls.nxt (K1 h1 _ _) ?_
      simp (disch := decide) only [hA, hn0, hnn, hee, go_sem]
      refine ACalls.nxt (K3 h1 _ _) ?_
      simp (disch := decide) only [hA, hn0, hnn, hee, hd2, go_sem]
      refine ACalls.nxt (K2 h1 _ _) ?_
      simp (disch := decide) only [hA, hn0, hnn, hee, go_sem]
      refine ACalls.nxt (K4 h1 _ _) ?_
      simp (disch := decide) only [hA, hn0, hnn, hee, go_sem]
      exact leave_pure (xs := [.v (.bool true)]) (.inr rfl) (by simp (disch := (first | decide | omega)) only [resVs, resV, go_sem, hA]) (by simp only [one, AVlt_v, AVlt_any, AVlt_sl, AVlt_ptr, AVlt_mp, AVlt_agg, AVlt_tup, AVlt_fn, RowsLt_nil, RowsLt_live, RowsLt_dead, List.mem_cons, List.not_mem_nil, List.forall_mem_cons, List.forall_mem_nil, or_false, false_or, forall_eq_or_imp, forall_eq, vs_lt, Nat.add_lt_add_iff_left, Nat.reduceLT, true_and, and_true, and_self, List.length_cons, List.length_nil, Nat.reduceAdd, Nat.zero_add, implies_true, false_imp_iff, lt_T, List.mem_map]) hR hB ⟨rfl, rfl, rfl⟩
    · have hd1 : (e1 != 0) = true := by rw [bne_iff_ne]; exact h1
      have q1 := K5 h1
      have q2 := K6 h1
      simp (disch := decide) only [hA, hn0, hnn, hee, hd1, q1, q2, go_sem]
      exact leave_pure (xs := [.v (.bool true)]) (.inr rfl) (by simp (disch := (first | decide | omega)) only [resVs, resV, go_sem, hA]) (by simp only [one, AVlt_v, AVlt_any, AVlt_sl, AVlt_ptr, AVlt_mp, AVlt_agg, AVlt_tup, AVlt_fn, RowsLt_nil, RowsLt_live, RowsLt_dead, List.mem_cons, List.not_mem_nil, List.forall_mem_cons, List.forall_mem_nil, or_false, false_or, forall_eq_or_imp, forall_eq, vs_lt, Nat.add_lt_add_iff_left, Nat.reduceLT, true_and, and_true, and_self, List.length_cons, List.length_nil, Nat.reduceAdd, Nat.zero_add, implies_true, false_imp_iff, lt_T, List.mem_map]) hR hB ⟨rfl, rfl, rfl⟩
end Go.Proofs.Ytnnnccibhhnbaaa

namespace Go.Proofs.Ytnnnccibhhnbaaa
set_option linter.unusedVariables false
theorem tr_eid : TR Try.prog 36 2 (fun x : Int × Int => [.int .i64 x.1, .int .i64 x.2]) (fun x => (Lit.int .i64 x.1).wf = true ∧ (Lit.int .i64 x.2).wf = true) :=
  (tr_struct Try.underlying36 (trf_cons tr_i (by kernel_rfl) rfl (trf_cons tr_i (by kernel_rfl) rfl trf_nil))).map (fun y => (y.1, y.2.1)) (fun _ => rfl) (fun _ h => ⟨h.1, h.2.1⟩)
end Go.Proofs.Ytnnnccibhhnbaaa
