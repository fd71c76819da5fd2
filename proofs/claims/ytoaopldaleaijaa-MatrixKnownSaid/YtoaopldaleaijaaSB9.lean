/- Texts of one proof, laid together: VE, VF, VG, VH, MA, HC, HD, MB, WU, VC, VX, MX, MC, HI. No condition. -/
import Derived.Test.YtoaopldaleaijaaSB8
import Derived.Test.YtoaopldaleaijaaSB3
import Derived.Test.YtoaopldaleaijaaSB2
import Derived.KernelRfl
import Derived.Test.YtoaopldaleaijaaProg
namespace Go.Proofs.Ytoaopldaleaijaa
set_option linter.unusedVariables false
set_option linter.unusedSimpArgs false
attribute [local go_sem ↓] run_skip run_region run_draw run_seq run_block run_exit run_ret run_cond atN_app seqC_normal seqC_exit seqC_ret seqQ_normal seqQ_exit seqQ_ret blkQ_normal blkQ_exit blkQ_ret runOps_nil runOps_cons runD_nil runD_cons grdO_true grdO_false grdD_true grdD_false ifC_true ifC_false opS_val opS_call opS_two opK_app dS_val dS_call dS_two dK_app kUp_same kUp_ne
attribute [local go_sem] rechks_nil rechks_cons rechk gcase_true gcase_false ex_val ex_val0 gd_none gd_some ev_t ev_c evs_nil evs_cons evo_some evo_none hget_at hget_first hsetB_at hsetB_first hsetL_at hsetL_first ofOpt_some aop aload astore aslice aappend aiaddr aiaddrA afaddr alen alenS acopy amm acall alookup amupdate alenM comma keyEq apick binV binVB binVS isSh intOp strOp boolOp shOp eqC eqF and2 cellsOf setFrom fillA fillS rd rdI elems mk bounds AV.cell List.all_cons List.all_nil Bool.and_true Bool.true_and Bool.and_self List.length_cons List.length_nil List.length_append Nat.reduceAdd Nat.reduceSub Nat.reduceMul Nat.zero_add Nat.add_zero List.cons_append List.nil_append List.append_assoc List.append_nil List.getElem?_cons_zero List.getElem?_cons_succ List.getElem?_nil List.set_cons_zero List.set_cons_succ List.drop_zero List.drop_succ_cons List.take_zero List.take_succ_cons List.take_nil List.drop_nil List.map_cons List.map_nil Option.map_some if_true if_false Bool.false_eq_true and_self true_and and_true Nat.reduceLeDiff Nat.reduceLT Nat.le_refl Nat.reduceEqDiff ite_true ite_false beq_self_eq_true beq_true beq_false Bool.not_true Bool.not_false Bool.true_beq Bool.false_beq map_vs vs_len vs_get vs_take vs_drop vs_snoc1 vs_snoc2 vs_snoc3 vs_snoc5 vs_set1 vs_set2 vs_rep wrap_id le_T lt_T le_F lt_F leI_T ltI_T leI_F ltI_F geI gtI get_T decide_true decide_false room List.getElem?_map List.length_map List.length_take Int.toNat_natCast Nat.min_def Nat.min_self nth_kOf put_kOf put_kNo kOv_cons kOv_nil KHas KArgs List.getElem_cons_zero List.getElem_cons_succ
def Dn (t : Tr) (D : Nat → Nat) : Prop := ∀ p, p < t.length → D p ≤ (evsOf t p).length
/-- What a round has done since its start at D0, before process n. -/
def Prg (t : Tr) (D0 D : Nat → Nat) (ag : Bool) (n : Nat) : Prop := Dn t D ∧ (ag = false → D = D0 ∧ ∀ q, q < n → ¬ Rdy t D0 q) ∧ (ag = true → remT t D < remT t D0)
theorem stR_lt0 {t : Tr} {m base : Nat} {D : Nat → Nat} (hm : base + (t.length + 3) ≤ m) : RowsLt m (.live 0 1 [[.v (.isl 3 (t.map ePr))]] :: .live 0 1 (fl t.length fun p => [.sl (base + (p + 1 + 1 + 1)) (D p) 0 (D p)]) :: .live 0 1 (vs (sentL t D)) :: fl t.length (cR t D)) := by
  have h := stR_lt (t := t) (D := D) hm RowsLt_nil
  unfold stR at h
  rwa [List.append_nil] at h
theorem oR_frz {n id ver sz base p : Nat} {rows : List (List IV)} {D : Nat → Nat} (hp : p < n) (hid : base + (n + 3) ≤ id) :
    ((fl n fun q => [AV.sl (base + (q + 1 + 1 + 1)) (D q) 0 (D q)]).set p [.sl (base + (p + 1 + 1 + 1)) (D p + 1) 0 (D p + 1)]).map (List.map (frz0 id ver sz rows)) = fl n fun q => [.sl (base + (q + 1 + 1 + 1)) (fUp D p (D p + 1) q) 0 (fUp D p (D p + 1) q)] := by
  rw [fl_set, fl_map]
  refine fl_congr (fun q hq => ?_)
  by_cases hqp : q = p
  · subst hqp
    rw [fUp_same, fUp_same]
    simp only [List.map_cons, List.map_nil, frz0]
    rw [if_neg (by omega)]
  · rw [fUp_ne hqp, fUp_ne hqp]
    simp only [List.map_cons, List.map_nil, frz0]
    rw [if_neg (by omega)]
theorem cR_frz {t : Tr} {id ver p : Nat} {D : Nat → Nat} (hp : p < t.length) :
    (fl t.length (fUp (cR t D) p (.live (D p + 1) 1 (vs (stRow t p (D p)) ++ [[.sl id ver 0 t.length]])))).map (rowMap (frz0 id ver 1 ((vcs t (p, D p + 1)).map eI))) = fl t.length (cR t (fUp D p (D p + 1))) := by
  rw [fl_map]
  refine fl_congr (fun q hq => ?_)
  by_cases hqp : q = p
  · subst hqp
    unfold cR
    rw [fUp_same, fUp_same]
    simp only [rowMap, List.map_append, vs_frz0, List.map_cons, List.map_nil, frz0]
    rw [if_pos ⟨trivial, trivial, by simp [vcs, fl_len]⟩, ← stRow_next]
    simp [vs, vcs, fl_len]
    unfold fl
    rw [List.take_of_length_le (by simp)]
  · unfold cR
    rw [fUp_ne hqp, fUp_ne hqp]
    simp only [rowMap, vs_frz0]
theorem sent_frz {t : Tr} (hv : Vok t) {id ver p m : Nat} {D : Nat → Nat} (hx : (p, D p + 1) ∈ ids t) (hk : (evAt t (p, D p + 1)).kind = 2) (hm : (evAt t (p, D p + 1)).msg = m) :
    ((vs (sentL t D)).set m [.sl id ver 0 t.length]).map (List.map (frz0 id ver 1 ((vcs t (p, D p + 1)).map eI))) = vs (sentL t (fUp D p (D p + 1))) := by
  rw [← sentL_send hv hx hk hm, List.map_set, vs_frz0]
  simp only [List.map_cons, List.map_nil, frz0]
  rw [if_pos ⟨trivial, trivial, by simp [vcs, fl_len]⟩]
  simp only [vs, List.map_set, List.map_cons, List.map_nil, List.drop_zero]
  rw [List.take_of_length_le (by simp [vcs, fl_len])]
/-- The row of a process at hand. -/
def xRow (x : Pr) : Row := .live 0 3 [[.v (.str x.name), .v (.isl 2 (x.vars.map eVr)), .v (.isl 5 (x.evs.map eEv))]]
theorem st_frz {t : Tr} {base ver p j : Nat} {D : Nat → Nat} {S : List (List AV)} {S' : List (List IV)} {x : Pr} {T : List Row} (hp : p < t.length)
    (hS : S.map (List.map (frz0 (base + (t.length + (j + 1) + 1 + 1 + 1)) ver 1 ((vcs t (p, D p + 1)).map eI))) = vs S') :
    ((Row.live 0 1 [[.v (.isl 3 (t.map ePr))]] :: Row.live 0 1 ((fl t.length fun q => [AV.sl (base + (q + 1 + 1 + 1)) (D q) 0 (D q)]).set p [.sl (base + (p + 1 + 1 + 1)) (D p + 1) 0 (D p + 1)]) :: Row.live 0 1 S ::
      (fl t.length (fUp (cR t D) p (.live (D p + 1) 1 (vs (stRow t p (D p)) ++ [[.sl (base + (t.length + (j + 1) + 1 + 1 + 1)) ver 0 t.length]]))) ++ xRow x :: T)).set (t.length + (j + 1) + 1 + 1 + 1) (.dead ver)).map (rowMap (frz0 (base + (t.length + (j + 1) + 1 + 1 + 1)) ver 1 ((vcs t (p, D p + 1)).map eI)))
    = (Row.live 0 1 [[.v (.isl 3 (t.map ePr))]] :: Row.live 0 1 (fl t.length fun q => [AV.sl (base + (q + 1 + 1 + 1)) (fUp D p (D p + 1) q) 0 (fUp D p (D p + 1) q)]) :: Row.live 0 1 (vs S') :: (fl t.length (cR t (fUp D p (D p + 1))) ++ [xRow x])) ++ (T.set j (.dead ver)).map (rowMap (frz0 (base + (t.length + (j + 1) + 1 + 1 + 1)) ver 1 ((vcs t (p, D p + 1)).map eI))) := by
  simp only [List.set_cons_succ, fa_settail, List.map_cons, List.map_append, rowMap, hS, cR_frz hp]
  rw [oR_frz hp (by omega)]
  simp [rowMap, xRow, frz0]
theorem stR_ltx {t : Tr} {m base : Nat} {D : Nat → Nat} {x : Pr} (hm : base + (t.length + 3) ≤ m) : RowsLt m (.live 0 1 [[.v (.isl 3 (t.map ePr))]] :: .live 0 1 (fl t.length fun p => [.sl (base + (p + 1 + 1 + 1)) (D p) 0 (D p)]) :: .live 0 1 (vs (sentL t D)) :: (fl t.length (cR t D) ++ [xRow x])) :=
  stR_lt (t := t) (D := D) (T := [xRow x]) hm (by simp (disch := omega) only [xRow, AVlt_v, AVlt_any, AVlt_sl, AVlt_ptr, AVlt_mp, AVlt_agg, AVlt_tup, AVlt_fn, RowsLt_nil, RowsLt_live, RowsLt_dead, List.mem_cons, List.not_mem_nil, List.forall_mem_cons, List.forall_mem_nil, or_false, false_or, forall_eq_or_imp, forall_eq, vs_lt, Nat.add_lt_add_iff_left, Nat.reduceLT, true_and, and_true, and_self, List.length_cons, List.length_nil, Nat.reduceAdd, Nat.zero_add, implies_true, false_imp_iff, lt_T, List.mem_map])
/-- The rows of the work, the first i frozen. -/
noncomputable def sfR (t : Tr) (base : Nat) (D : Nat → Nat) (i : Nat) : List Row :=
  .live 0 1 [[.v (.isl 3 (t.map ePr))]] :: .live 0 1 (fl t.length fun p => if p < i then [.v (.isl 1 (stRow t p (D p)))] else [.sl (base + (p + 1 + 1 + 1)) (D p) 0 (D p)]) :: .live 0 1 (vs (sentL t D)) :: fl t.length fun p => if p < i then .dead (D p) else cR t D p
theorem sfR_step {t : Tr} {base : Nat} {D : Nat → Nat} {i : Nat} (h : i < t.length) :
    ((sfR t base D i).set (i + 1 + 1 + 1) (.dead (D i))).map (rowMap (frz0 (base + (i + 1 + 1 + 1)) (D i) 1 (stRow t i (D i)))) = sfR t base D (i + 1) := by
  unfold sfR
  simp only [List.set_cons_succ, List.map_cons, rowMap, vs_frz0, fl_set, fl_map]
  have e0 : List.map (frz0 (base + (i + 1 + 1 + 1)) (D i) 1 (stRow t i (D i))) [AV.v (.isl 3 (t.map ePr))] = [AV.v (.isl 3 (t.map ePr))] := rfl
  refine congr (congrArg _ ?_) ?_
  · simp [frz0]
  refine congr (congrArg _ ?_) (congrArg _ ?_)
  · congr 1
    refine fl_congr (fun j hj => ?_)
    by_cases h1 : j < i
    · rw [if_pos h1, if_pos (by omega)]; rfl
    · rw [if_neg h1]
      by_cases h2 : j = i
      · subst h2
        rw [if_pos (by omega)]
        have : (stRow t j (D j)).length = D j := fl_len
        simp only [List.map_cons, List.map_nil, frz0]
        rw [if_pos ⟨trivial, trivial, by omega⟩, List.drop_zero, List.take_of_length_le (by omega)]
      · rw [if_neg (by omega)]
        simp only [List.map_cons, List.map_nil, frz0]
        rw [if_neg (by omega)]
  · refine fl_congr (fun j hj => ?_)
    by_cases h2 : j = i
    · subst h2
      rw [fUp_same, if_pos (by omega)]
    · rw [fUp_ne h2]
      by_cases h1 : j < i
      · rw [if_pos h1, if_pos (by omega)]
      · rw [if_neg h1, if_neg (by omega)]
        unfold cR
        simp only [rowMap, vs_frz0]
theorem Weak.sfrz {e : List AV} {b : List Row} {t : Tr} {D : Nat → Nat} (he : ∀ i, i < t.length → e.map (frz (b.length + (i + 1 + 1 + 1)) (D i) 1 (stRow t i (D i))) = e) : ∀ i, i ≤ t.length → Weak e b (sfR t b.length D 0) e b (sfR t b.length D i)
  | 0, _ => Weak.refl _ _ _
  | i + 1, hi => by
    refine (Weak.sfrz he i (by omega)).trans ?_
    have := Weak.freezeR (e := e) (b := b) (l := sfR t b.length D i) (i := i + 1 + 1 + 1) (ver := D i) (sz := 1) (rows := stRow t i (D i)) (by
      unfold sfR
      simp only [List.getElem?_cons_succ]
      rw [fl_get (by omega), if_neg (by omega)]; rfl)
    rwa [he i (by omega), sfR_step (by omega)] at this
theorem leave_st {rs : List ARes} {Q : AV → List Row → List Row → Prop} {B e l : _} {t : Tr} {D : Nat → Nat} (hD : ∀ p, p < t.length → D p = (evsOf t p).length) (hx : resVs e B l rs = some [.sl (B.length + 1) 0 0 t.length]) (hl : l = stR t B.length D [])
    (hR : RowsLt B.length B) {b0 l0 : List Row} (hB : B = b0 ++ l0) (hq : Q (.v (.isl 1 (stAll t t.length))) b0 l0) : Leaves rs Q b0.length .ret e B l := by
  have e1 : stR t B.length D [] = sfR t B.length D 0 := by
    unfold stR sfR
    rw [List.append_nil]
    simp
  have e2 : (sfR t B.length D t.length)[1]? = some (.live 0 1 (vs (stAll t t.length))) := by
    unfold sfR
    simp only [List.getElem?_cons_succ, List.getElem?_cons_zero]
    congr 2
    unfold vs stAll
    rw [fl_map]
    refine fl_congr (fun j hj => ?_)
    rw [if_pos hj, hD j hj]; rfl
  refine leave (.inr rfl) hx (y := .v (.isl 1 (stAll t t.length))) (l' := []) ?_ hB (by simpa using hq)
  rw [hl, e1]
  refine (Weak.sfrz (e := [one [AV.sl (B.length + 1) 0 0 t.length]]) (b := B) (fun i hi => ?_) t.length (Nat.le_refl _)).trans ?_
  · simp only [one, List.map_cons, List.map_nil, frz, frz0]
    rw [if_neg (by omega)]
  have h1 := Weak.freezeR (e := [one [AV.sl (B.length + 1) 0 0 t.length]]) (b := B) (i := 1) (rows := stAll t t.length) e2
  refine h1.trans ?_
  have h2 : List.map (frz (B.length + 1) 0 1 (stAll t t.length)) [one [AV.sl (B.length + 1) 0 0 t.length]] = [.v (.isl 1 (stAll t t.length))] := by
    simp [one, frz, frz0, stAll, fl_len]
    unfold fl
    rw [List.take_of_length_le (by simp)]
  rw [h2]
  exact Weak.trim (l1 := []) rfl (by
    intro x hx
    simp only [List.mem_singleton] at hx
    subst hx
    exact .v _) (by simpa using hR) RowsLt_nil
set_option maxRecDepth 20000 in
set_option maxHeartbeats 2000000 in
theorem stamps_spec (t : Tr) (hv : Vok t) (hS : Small t) (b l : List Row) :
    ACalls Try.prog 100 [.agg [.v (eT t)]] b l (fun r b' l' => r = .v (.isl 1 (stAll t t.length)) ∧ b' = b ∧ l' = l) := by
  refine calls_kept a_stamps_ok rfl (by decide) ?_
  intro B g hB hR hE hA
  simp only [KArgs] at hA
  have hlo := hv.hi
  simp (disch := (first | decide | omega)) only [a_stamps, eT, hA, List.length_map, go_sem]
  refine loop_kept (ι := (Nat → Nat) × Bool) r_stamps0 (fun i => [(5, .v (.bool i.2))]) (t.length + 3) (fun i => stR t B.length i.1 [])
    (fun i => Dn t i.1 ∧ (i.2 = false → ∀ p, p < t.length → i.1 p = (evsOf t p).length)) (fun i => 2 * remT t i.1 + cond i.2 1 0) (fun _ => 0, true) ⟨fun p hp => Nat.zero_le _, fun h => by cases h⟩ (by (repeat (first | exact hE.mono (by omega) | refine KLt.up ?_ (by simp (disch := omega) only [AVlt_v, AVlt_any, AVlt_sl, AVlt_ptr, AVlt_mp, AVlt_agg, AVlt_tup, AVlt_fn, RowsLt_nil, RowsLt_live, RowsLt_dead, List.mem_cons, List.not_mem_nil, List.forall_mem_cons, List.forall_mem_nil, or_false, false_or, forall_eq_or_imp, forall_eq, vs_lt, Nat.add_lt_add_iff_left, Nat.reduceLT, true_and, and_true, and_self, List.length_cons, List.length_nil, Nat.reduceAdd, Nat.zero_add, implies_true, false_imp_iff, lt_T, List.mem_map])))) (by ((try simp (disch := decide) only [hA, go_sem]) <;> (repeat' (first | exact trivial | refine And.intro ?_ ?_)) <;> (first | rfl | (congr 2; omega)))) (fun e => by have h := Weak.nilall (t := t) (e := e) (b := B); simp only [vs, List.map_replicate, List.map_cons, List.map_nil]; exact h) ?_
  rintro g1 hE1 hEE1 hg1 ⟨D0, ag0⟩ ⟨hD0, hag0⟩
  cases ag0 with
  | false =>
    have hall := hag0 rfl
    simp (disch := (first | decide | omega)) only [hA, hg1, go_sem]
    exact leave_st hall (by simp (disch := (first | decide | omega)) only [resVs, resV, hA, hg1, go_sem]) rfl hR hB ⟨rfl, rfl, rfl⟩
  | true =>
    simp (disch := (first | decide | omega)) only [hA, hg1, List.length_map, stR, go_sem]
    refine loop_kept (ι := Nat × (Nat → Nat) × Bool) r_stamps1 (fun i => [(5, .v (.bool i.2.2)), (20, .v (.int .i64 i.1))]) (t.length + 3) (fun i => stR t B.length i.2.1 [])
      (fun i => i.1 ≤ t.length ∧ Prg t D0 i.2.1 i.2.2 i.1) (fun i => t.length - i.1) (0, D0, false) ⟨Nat.zero_le _, hD0, fun _ => ⟨rfl, fun q hq => by omega⟩, fun h => by cases h⟩ (by (repeat (first | exact hE1.mono (by omega) | refine KLt.up ?_ (by simp (disch := omega) only [AVlt_v, AVlt_any, AVlt_sl, AVlt_ptr, AVlt_mp, AVlt_agg, AVlt_tup, AVlt_fn, RowsLt_nil, RowsLt_live, RowsLt_dead, List.mem_cons, List.not_mem_nil, List.forall_mem_cons, List.forall_mem_nil, or_false, false_or, forall_eq_or_imp, forall_eq, vs_lt, Nat.add_lt_add_iff_left, Nat.reduceLT, true_and, and_true, and_self, List.length_cons, List.length_nil, Nat.reduceAdd, Nat.zero_add, implies_true, false_imp_iff, lt_T, List.mem_map])))) (by ((try simp (disch := decide) only [hA, hg1, go_sem]) <;> (repeat' (first | exact trivial | refine And.intro ?_ ?_)) <;> (first | rfl | (congr 2; omega)))) (fun e => by unfold stR; rw [List.append_nil]; exact Weak.refl _ _ _) ?_
    rintro g2 hE2 hEE2 hg2 ⟨p, D1, ag1⟩ ⟨hp, hP1⟩
    simp only at hp hP1
    by_cases hlt : p < t.length
    · have heq := evsOf_lt hlt
      have hne := hS.ne _ (List.getElem_mem hlt)
      simp (disch := (first | decide | omega)) only [hA, hg1, hg2, ePr, List.length_map, stR, fl_len, fa_at, fa_tail, fa_tail0, fa_set, fa_settail, fa_settail0, fl_get, go_sem]
      refine loop_kept (ι := (Nat → Nat) × Bool) r_stamps2 (fun i => [(5, .v (.bool i.2))]) (t.length + 4) (fun i => stR t B.length i.1 [xRow t[p]])
        (fun i => Prg t D0 i.1 i.2 p) (fun i => remT t i.1) (D1, ag1) hP1 (by (repeat (first | exact hE2.mono (by omega) | refine KLt.up ?_ (by simp (disch := omega) only [AVlt_v, AVlt_any, AVlt_sl, AVlt_ptr, AVlt_mp, AVlt_agg, AVlt_tup, AVlt_fn, RowsLt_nil, RowsLt_live, RowsLt_dead, List.mem_cons, List.not_mem_nil, List.forall_mem_cons, List.forall_mem_nil, or_false, false_or, forall_eq_or_imp, forall_eq, vs_lt, Nat.add_lt_add_iff_left, Nat.reduceLT, true_and, and_true, and_self, List.length_cons, List.length_nil, Nat.reduceAdd, Nat.zero_add, implies_true, false_imp_iff, lt_T, List.mem_map])))) (by ((try simp (disch := decide) only [hA, hg1, hg2, go_sem]) <;> (repeat' (first | exact trivial | refine And.intro ?_ ?_)) <;> (first | rfl | (congr 2; omega)))) (fun e => by first | exact Weak.refl _ _ _) ?_
      rintro g3 hE3 hEE3 hg3 ⟨D, ag⟩ hP
      simp only at hP
      by_cases hd : D p < (evsOf t p).length
      · have hd' : D p < t[p].evs.length := by rw [← heq]; exact hd
        have hcd : decide ((D p : Int) < (t[p].evs.length : Int)) = true := decide_eq_true (by omega)
        simp (disch := (first | decide | omega)) only [hA, hg1, hg2, hg3, ePr, List.length_map, stR, fl_len, fa_at, fa_tail, fa_tail0, fa_set, fa_settail, fa_settail0, fl_get, xRow, hcd, eEv, go_sem]
        have hx : (p, D p + 1) ∈ ids t := mem_ids2.2 ⟨hlt, hd⟩
        have hev : evAt t (p, D p + 1) = t[p].evs[D p] := by unfold evAt; simp [heq, List.getD, hd']
        have hpl : (prvV t p (D p)).length = t.length := fl_len
        have hrl : (rcvV t p (D p)).length = t.length := rcvV_len
        have hn0 : ((t.length : Int) == 0) = false := beq_eq_false_iff_ne.2 (by omega)
        have hown : (rcvV t p (D p)).getD p 0 = (D p : Int) := by
          have h1 : ((rcvV t p (D p)).set p ((rcvV t p (D p)).getD p 0 + 1)).getD p 0 = (vcs t (p, D p + 1)).getD p 0 := by rw [vcs_set hv hx]
          rw [getD_at (by rw [List.length_set, hrl]; exact hlt), List.getElem_set_self] at h1
          unfold vcs at h1
          rw [fl_getD hlt, vc_own hv hx] at h1
          omega
        have hrg : (rcvV t p (D p))[p]? = some (D p : Int) := by rw [List.getElem?_eq_getElem (by rw [hrl]; exact hlt), ← getD_at (d := 0), hown]
        have hrs : ((rcvV t p (D p)).map eI).set p [.int .i64 ((D p : Int) + 1)] = (vcs t (p, D p + 1)).map eI := by
          rw [← vcs_set hv hx, hown, List.map_set]; rfl
        have h32 : ((3 : Int) == 2) = false := rfl
        have hprg : Prg t D0 (fUp D p (D p + 1)) true p := by
          have hst := remT_step hlt hd
          refine ⟨fun q hq => ?_, (fun h => by cases h), fun _ => ?_⟩
          · by_cases hqp : q = p
            · subst hqp; rw [fUp_same]; omega
            · rw [fUp_ne hqp]; exact hP.1 q hq
          · cases ag with
            | true => have := hP.2.2 rfl; omega
            | false => rw [← (hP.2.1 rfl).1]; omega
        have hvl : ∀ x, (vcs t x).length = t.length := fun x => fl_len
        have hsL : (sentL t D).length = 200 := fl_len
        have hrw : (stRow t p (D p)).length = D p := fl_len
        have tkr : List.take (D p) (stRow t p (D p)) = stRow t p (D p) := List.take_of_length_le (by omega)
        by_cases hk : 0 < D p
        · have hk1 : decide (0 < (D p : Int)) = true := decide_eq_true (by omega)
          have hkt : ((D p : Int) - 1).toNat = D p - 1 := by omega
          have hst : (stRow t p (D p))[D p - 1]? = some [.isl 1 ((prvV t p (D p)).map eI)] := by
            obtain ⟨k, hkk⟩ : ∃ k, D p = k + 1 := ⟨D p - 1, by omega⟩
            rw [hkk, prvV_succ]
            exact fl_get (by omega)
          have tk : List.take t.length ((prvV t p (D p)).map eI) = (prvV t p (D p)).map eI := List.take_of_length_le (by simp [hpl])
          have dr : List.drop t.length (List.replicate t.length [IV.int .i64 0]) = [] := List.drop_eq_nil_of_le (by simp)
          simp (disch := (first | decide | omega)) only [hA, hg1, hg2, hg3, List.length_map, fl_len, fa_at, fa_tail, fa_tail0, fa_set, fa_settail, fa_settail0, fl_get, List.length_replicate, vs_nil, List.length_set, hk1, hkt, hst, hpl, tk, dr, cR, go_sem]
          by_cases hk3 : t[p].evs[D p].kind = 3
          · -- receive
            obtain ⟨m, hm, hm2⟩ := msg_in hv hx (.inr (by rw [hev]; exact hk3))
            have hsv := sentV_recv hv hx (by rw [hev]; exact hk3) hm
            rw [hev] at hm
            have hsg : (sentL t D)[m]? = some [sentV t D m] := fl_get hm2
            by_cases hr : (sndr t (p, D p + 1)).2 ≤ D (sndr t (p, D p + 1)).1
            · rw [if_pos hr] at hsv
              rw [hsv] at hsg
              have hrv : joinV (prvV t p (D p)) (vcs t (sndr t (p, D p + 1))) = rcvV t p (D p) := by unfold rcvV; rw [if_pos (by rw [hev]; exact hk3)]
              simp (disch := (first | decide | omega)) only [hA, hg1, hg2, hg3, List.length_map, fl_len, fa_at, fa_tail, fa_tail0, fa_set, fa_settail, fa_settail0, fl_get, List.length_replicate, vs_nil, List.length_set, hk3, hm, hsg, hsL, hvl, hpl, hn0, go_sem]
              refine ACalls.frzB (i := t.length + 2 + 1 + 1 + 1) (ver := 0) (sz := 1) (rows := (prvV t p (D p)).map eI) (by simp only [List.getElem?_cons_succ, fa_tail, List.getElem?_cons_zero]) (by simp only [List.map_cons, List.map_nil]; rw [frz_own (by simp [hpl]), frz_v]) ?_
              refine ACalls.nxt (joined_own (prvV t p (D p)) (vcs t (sndr t (p, D p + 1))) (by omega) (by omega) (by rw [hpl, hvl]) _ _) ?_
              rw [hrv]
              simp (disch := (first | decide | omega)) only [hA, hg1, hg2, hg3, List.length_map, fl_len, fa_at, fa_tail, fa_tail0, fa_set, fa_settail, fa_settail0, fl_get, List.length_replicate, vs_nil, List.length_set, hk3, hm, hpl, hrl, hrg, hrs, eI, hrw, tkr, cR, h32, setFrom, cellsOf, go_sem]
              refine ⟨(fUp D p (D p + 1), true), hprg, by have := remT_step hlt hd; simp only; omega, ?_⟩
              rw [← sentL_other (D := D) (p := p) (by rw [hev, hk3]; decide)]
              exact Weak.kroundF (p := r_stamps2) (i := t.length + 3 + 1 + 1 + 1) (ver := 1) (sz := 1) (rows := (vcs t (p, D p + 1)).map eI) (k := t.length + 4) (by simp only [List.getElem?_cons_succ, fa_tail, List.getElem?_cons_zero]) (by ((repeat refine (kAny_up rfl).trans ?_); exact hEE3)) (by ((try simp (disch := decide) only [hA, go_sem]) <;> (repeat' (first | exact trivial | refine And.intro ?_ ?_)) <;> (first | rfl | (congr 2; omega)))) (st_frz (j := 2) (x := t[p]) hlt vs_frz0) (by (repeat (first | exact hE3.mono (by omega) | refine KLt.up ?_ (by simp (disch := omega) only [AVlt_v, AVlt_any, AVlt_sl, AVlt_ptr, AVlt_mp, AVlt_agg, AVlt_tup, AVlt_fn, RowsLt_nil, RowsLt_live, RowsLt_dead, List.mem_cons, List.not_mem_nil, List.forall_mem_cons, List.forall_mem_nil, or_false, false_or, forall_eq_or_imp, forall_eq, vs_lt, Nat.add_lt_add_iff_left, Nat.reduceLT, true_and, and_true, and_self, List.length_cons, List.length_nil, Nat.reduceAdd, Nat.zero_add, implies_true, false_imp_iff, lt_T, List.mem_map])))) (by simp [fl_len]) (by simp [fl_len]) (by simp (disch := omega) only [KOvLt, AVlt_v, AVlt_any, AVlt_sl, AVlt_ptr, AVlt_mp, AVlt_agg, AVlt_tup, AVlt_fn, RowsLt_nil, RowsLt_live, RowsLt_dead, List.mem_cons, List.not_mem_nil, List.forall_mem_cons, List.forall_mem_nil, or_false, false_or, forall_eq_or_imp, forall_eq, vs_lt, Nat.add_lt_add_iff_left, Nat.reduceLT, true_and, and_true, and_self, List.length_cons, List.length_nil, Nat.reduceAdd, Nat.zero_add, implies_true, false_imp_iff, lt_T, List.mem_map]) hR (stR_ltx (by simp [fl_len]))
            · rw [if_neg hr] at hsv
              rw [hsv] at hsg
              simp (disch := (first | decide | omega)) only [hA, hg1, hg2, hg3, List.length_map, fl_len, fa_at, fa_tail, fa_tail0, fa_set, fa_settail, fa_settail0, fl_get, List.length_replicate, vs_nil, List.length_set, hk3, hm, hsg, hsL, hvl, hpl, hn0, go_sem]
              refine ⟨(p + 1, D, ag), ⟨hlt, hP.1, fun h => ⟨(hP.2.1 h).1, fun q hq hr2 => ?_⟩, hP.2.2⟩, by simp only; omega, ?_⟩
              · by_cases hqp : q = p
                · subst hqp; rw [← (hP.2.1 h).1] at hr2; exact hr (hr2.2 (by rw [hev]; exact hk3))
                · exact (hP.2.1 h).2 q (by omega) hr2
              · refine Weak.kround (p := r_stamps1) (k := t.length + 3) (by ((repeat refine (kAny_up rfl).trans ?_); refine (kAny_sub hg3 (kIn_sub rfl)).trans ?_; (repeat refine (kAny_up rfl).trans ?_); exact hEE2)) (by ((try simp (disch := decide) only [hA, go_sem]) <;> (repeat' (first | exact trivial | refine And.intro ?_ ?_)) <;> (first | rfl | (congr 2; omega)))) rfl (by (repeat (first | exact hE2.mono (by omega) | refine KLt.up ?_ (by simp (disch := omega) only [AVlt_v, AVlt_any, AVlt_sl, AVlt_ptr, AVlt_mp, AVlt_agg, AVlt_tup, AVlt_fn, RowsLt_nil, RowsLt_live, RowsLt_dead, List.mem_cons, List.not_mem_nil, List.forall_mem_cons, List.forall_mem_nil, or_false, false_or, forall_eq_or_imp, forall_eq, vs_lt, Nat.add_lt_add_iff_left, Nat.reduceLT, true_and, and_true, and_self, List.length_cons, List.length_nil, Nat.reduceAdd, Nat.zero_add, implies_true, false_imp_iff, lt_T, List.mem_map])))) (by simp [fl_len]) (by simp (disch := omega) only [KOvLt, AVlt_v, AVlt_any, AVlt_sl, AVlt_ptr, AVlt_mp, AVlt_agg, AVlt_tup, AVlt_fn, RowsLt_nil, RowsLt_live, RowsLt_dead, List.mem_cons, List.not_mem_nil, List.forall_mem_cons, List.forall_mem_nil, or_false, false_or, forall_eq_or_imp, forall_eq, vs_lt, Nat.add_lt_add_iff_left, Nat.reduceLT, true_and, and_true, and_self, List.length_cons, List.length_nil, Nat.reduceAdd, Nat.zero_add, implies_true, false_imp_iff, lt_T, List.mem_map]) hR (stR_lt0 (by simp [fl_len]))
          · have hk3b : (t[p].evs[D p].kind == 3) = false := beq_eq_false_iff_ne.2 hk3
            have hrv : prvV t p (D p) = rcvV t p (D p) := by unfold rcvV; rw [if_neg (by rw [hev]; exact hk3)]
            by_cases hk2 : t[p].evs[D p].kind = 2
            · obtain ⟨m, hm, hm2⟩ := msg_in hv hx (.inl (by rw [hev]; exact hk2))
              have hm0 := hm
              rw [hev] at hm
              have h23 : ((2 : Int) == 3) = false := rfl
              have hsE : ∀ h : m < (sentL t D).length, (sentL t D)[m]'h = [sentV t D m] := fun h => fl_getE h
              simp (disch := (first | decide | omega)) only [hA, hg1, hg2, hg3, List.length_map, fl_len, fa_at, fa_tail, fa_tail0, fa_set, fa_settail, fa_settail0, fl_get, List.length_replicate, vs_nil, List.length_set, hk2, h23, hm, hsL, hsE, hrv, hrl, hrg, hrs, eI, hrw, tkr, cR, setFrom, cellsOf, go_sem]
              refine ⟨(fUp D p (D p + 1), true), hprg, by have := remT_step hlt hd; simp only; omega, ?_⟩
              exact Weak.kroundF (p := r_stamps2) (i := t.length + 2 + 1 + 1 + 1) (ver := 0) (sz := 1) (rows := (vcs t (p, D p + 1)).map eI) (k := t.length + 4) (by simp only [List.getElem?_cons_succ, fa_tail, List.getElem?_cons_zero]) (by ((repeat refine (kAny_up rfl).trans ?_); exact hEE3)) (by ((try simp (disch := decide) only [hA, go_sem]) <;> (repeat' (first | exact trivial | refine And.intro ?_ ?_)) <;> (first | rfl | (congr 2; omega)))) (st_frz (j := 1) (x := t[p]) hlt (sent_frz hv hx (by rw [hev]; exact hk2) hm0)) (by (repeat (first | exact hE3.mono (by omega) | refine KLt.up ?_ (by simp (disch := omega) only [AVlt_v, AVlt_any, AVlt_sl, AVlt_ptr, AVlt_mp, AVlt_agg, AVlt_tup, AVlt_fn, RowsLt_nil, RowsLt_live, RowsLt_dead, List.mem_cons, List.not_mem_nil, List.forall_mem_cons, List.forall_mem_nil, or_false, false_or, forall_eq_or_imp, forall_eq, vs_lt, Nat.add_lt_add_iff_left, Nat.reduceLT, true_and, and_true, and_self, List.length_cons, List.length_nil, Nat.reduceAdd, Nat.zero_add, implies_true, false_imp_iff, lt_T, List.mem_map])))) (by simp [fl_len]) (by simp [fl_len]) (by simp (disch := omega) only [KOvLt, AVlt_v, AVlt_any, AVlt_sl, AVlt_ptr, AVlt_mp, AVlt_agg, AVlt_tup, AVlt_fn, RowsLt_nil, RowsLt_live, RowsLt_dead, List.mem_cons, List.not_mem_nil, List.forall_mem_cons, List.forall_mem_nil, or_false, false_or, forall_eq_or_imp, forall_eq, vs_lt, Nat.add_lt_add_iff_left, Nat.reduceLT, true_and, and_true, and_self, List.length_cons, List.length_nil, Nat.reduceAdd, Nat.zero_add, implies_true, false_imp_iff, lt_T, List.mem_map]) hR (stR_ltx (by simp [fl_len]))
            · have hk2b : (t[p].evs[D p].kind == 2) = false := beq_eq_false_iff_ne.2 hk2
              simp (disch := (first | decide | omega)) only [hA, hg1, hg2, hg3, List.length_map, fl_len, fa_at, fa_tail, fa_tail0, fa_set, fa_settail, fa_settail0, fl_get, List.length_replicate, vs_nil, List.length_set, hk3b, hk2b, hrv, hrl, hrg, hrs, eI, hrw, tkr, cR, setFrom, cellsOf, go_sem]
              refine ⟨(fUp D p (D p + 1), true), hprg, by have := remT_step hlt hd; simp only; omega, ?_⟩
              rw [← sentL_other (D := D) (p := p) (by rw [hev]; exact hk2)]
              exact Weak.kroundF (p := r_stamps2) (i := t.length + 2 + 1 + 1 + 1) (ver := 0) (sz := 1) (rows := (vcs t (p, D p + 1)).map eI) (k := t.length + 4) (by simp only [List.getElem?_cons_succ, fa_tail, List.getElem?_cons_zero]) (by ((repeat refine (kAny_up rfl).trans ?_); exact hEE3)) (by ((try simp (disch := decide) only [hA, go_sem]) <;> (repeat' (first | exact trivial | refine And.intro ?_ ?_)) <;> (first | rfl | (congr 2; omega)))) (st_frz (j := 1) (x := t[p]) hlt vs_frz0) (by (repeat (first | exact hE3.mono (by omega) | refine KLt.up ?_ (by simp (disch := omega) only [AVlt_v, AVlt_any, AVlt_sl, AVlt_ptr, AVlt_mp, AVlt_agg, AVlt_tup, AVlt_fn, RowsLt_nil, RowsLt_live, RowsLt_dead, List.mem_cons, List.not_mem_nil, List.forall_mem_cons, List.forall_mem_nil, or_false, false_or, forall_eq_or_imp, forall_eq, vs_lt, Nat.add_lt_add_iff_left, Nat.reduceLT, true_and, and_true, and_self, List.length_cons, List.length_nil, Nat.reduceAdd, Nat.zero_add, implies_true, false_imp_iff, lt_T, List.mem_map])))) (by simp [fl_len]) (by simp [fl_len]) (by simp (disch := omega) only [KOvLt, AVlt_v, AVlt_any, AVlt_sl, AVlt_ptr, AVlt_mp, AVlt_agg, AVlt_tup, AVlt_fn, RowsLt_nil, RowsLt_live, RowsLt_dead, List.mem_cons, List.not_mem_nil, List.forall_mem_cons, List.forall_mem_nil, or_false, false_or, forall_eq_or_imp, forall_eq, vs_lt, Nat.add_lt_add_iff_left, Nat.reduceLT, true_and, and_true, and_self, List.length_cons, List.length_nil, Nat.reduceAdd, Nat.zero_add, implies_true, false_imp_iff, lt_T, List.mem_map]) hR (stR_ltx (by simp [fl_len]))
        · have hk1 : decide (0 < (D p : Int)) = false := decide_eq_false (by omega)
          have hz : D p = 0 := by omega
          have hv0 : List.replicate t.length [IV.int .i64 0] = (prvV t p (D p)).map eI := by rw [hz, prvV_zero]
          simp (disch := (first | decide | omega)) only [hA, hg1, hg2, hg3, List.length_map, fl_len, fa_at, fa_tail, fa_tail0, fa_set, fa_settail, fa_settail0, fl_get, List.length_replicate, vs_nil, List.length_set, hk1, hv0, cR, go_sem]
          by_cases hk3 : t[p].evs[D p].kind = 3
          · -- receive
            obtain ⟨m, hm, hm2⟩ := msg_in hv hx (.inr (by rw [hev]; exact hk3))
            have hsv := sentV_recv hv hx (by rw [hev]; exact hk3) hm
            rw [hev] at hm
            have hsg : (sentL t D)[m]? = some [sentV t D m] := fl_get hm2
            by_cases hr : (sndr t (p, D p + 1)).2 ≤ D (sndr t (p, D p + 1)).1
            · rw [if_pos hr] at hsv
              rw [hsv] at hsg
              have hrv : joinV (prvV t p (D p)) (vcs t (sndr t (p, D p + 1))) = rcvV t p (D p) := by unfold rcvV; rw [if_pos (by rw [hev]; exact hk3)]
              simp (disch := (first | decide | omega)) only [hA, hg1, hg2, hg3, List.length_map, fl_len, fa_at, fa_tail, fa_tail0, fa_set, fa_settail, fa_settail0, fl_get, List.length_replicate, vs_nil, List.length_set, hk3, hm, hsg, hsL, hvl, hpl, hn0, go_sem]
              refine ACalls.frzB (i := t.length + 2 + 1 + 1 + 1) (ver := 0) (sz := 1) (rows := (prvV t p (D p)).map eI) (by simp only [List.getElem?_cons_succ, fa_tail, List.getElem?_cons_zero]) (by simp only [List.map_cons, List.map_nil]; rw [frz_own (by simp [hpl]), frz_v]) ?_
              refine ACalls.nxt (joined_own (prvV t p (D p)) (vcs t (sndr t (p, D p + 1))) (by omega) (by omega) (by rw [hpl, hvl]) _ _) ?_
              rw [hrv]
              simp (disch := (first | decide | omega)) only [hA, hg1, hg2, hg3, List.length_map, fl_len, fa_at, fa_tail, fa_tail0, fa_set, fa_settail, fa_settail0, fl_get, List.length_replicate, vs_nil, List.length_set, hk3, hm, hpl, hrl, hrg, hrs, eI, hrw, tkr, cR, h32, setFrom, cellsOf, go_sem]
              refine ⟨(fUp D p (D p + 1), true), hprg, by have := remT_step hlt hd; simp only; omega, ?_⟩
              rw [← sentL_other (D := D) (p := p) (by rw [hev, hk3]; decide)]
              exact Weak.kroundF (p := r_stamps2) (i := t.length + 3 + 1 + 1 + 1) (ver := 1) (sz := 1) (rows := (vcs t (p, D p + 1)).map eI) (k := t.length + 4) (by simp only [List.getElem?_cons_succ, fa_tail, List.getElem?_cons_zero]) (by ((repeat refine (kAny_up rfl).trans ?_); exact hEE3)) (by ((try simp (disch := decide) only [hA, go_sem]) <;> (repeat' (first | exact trivial | refine And.intro ?_ ?_)) <;> (first | rfl | (congr 2; omega)))) (st_frz (j := 2) (x := t[p]) hlt vs_frz0) (by (repeat (first | exact hE3.mono (by omega) | refine KLt.up ?_ (by simp (disch := omega) only [AVlt_v, AVlt_any, AVlt_sl, AVlt_ptr, AVlt_mp, AVlt_agg, AVlt_tup, AVlt_fn, RowsLt_nil, RowsLt_live, RowsLt_dead, List.mem_cons, List.not_mem_nil, List.forall_mem_cons, List.forall_mem_nil, or_false, false_or, forall_eq_or_imp, forall_eq, vs_lt, Nat.add_lt_add_iff_left, Nat.reduceLT, true_and, and_true, and_self, List.length_cons, List.length_nil, Nat.reduceAdd, Nat.zero_add, implies_true, false_imp_iff, lt_T, List.mem_map])))) (by simp [fl_len]) (by simp [fl_len]) (by simp (disch := omega) only [KOvLt, AVlt_v, AVlt_any, AVlt_sl, AVlt_ptr, AVlt_mp, AVlt_agg, AVlt_tup, AVlt_fn, RowsLt_nil, RowsLt_live, RowsLt_dead, List.mem_cons, List.not_mem_nil, List.forall_mem_cons, List.forall_mem_nil, or_false, false_or, forall_eq_or_imp, forall_eq, vs_lt, Nat.add_lt_add_iff_left, Nat.reduceLT, true_and, and_true, and_self, List.length_cons, List.length_nil, Nat.reduceAdd, Nat.zero_add, implies_true, false_imp_iff, lt_T, List.mem_map]) hR (stR_ltx (by simp [fl_len]))
            · rw [if_neg hr] at hsv
              rw [hsv] at hsg
              simp (disch := (first | decide | omega)) only [hA, hg1, hg2, hg3, List.length_map, fl_len, fa_at, fa_tail, fa_tail0, fa_set, fa_settail, fa_settail0, fl_get, List.length_replicate, vs_nil, List.length_set, hk3, hm, hsg, hsL, hvl, hpl, hn0, go_sem]
              refine ⟨(p + 1, D, ag), ⟨hlt, hP.1, fun h => ⟨(hP.2.1 h).1, fun q hq hr2 => ?_⟩, hP.2.2⟩, by simp only; omega, ?_⟩
              · by_cases hqp : q = p
                · subst hqp; rw [← (hP.2.1 h).1] at hr2; exact hr (hr2.2 (by rw [hev]; exact hk3))
                · exact (hP.2.1 h).2 q (by omega) hr2
              · refine Weak.kround (p := r_stamps1) (k := t.length + 3) (by ((repeat refine (kAny_up rfl).trans ?_); refine (kAny_sub hg3 (kIn_sub rfl)).trans ?_; (repeat refine (kAny_up rfl).trans ?_); exact hEE2)) (by ((try simp (disch := decide) only [hA, go_sem]) <;> (repeat' (first | exact trivial | refine And.intro ?_ ?_)) <;> (first | rfl | (congr 2; omega)))) rfl (by (repeat (first | exact hE2.mono (by omega) | refine KLt.up ?_ (by simp (disch := omega) only [AVlt_v, AVlt_any, AVlt_sl, AVlt_ptr, AVlt_mp, AVlt_agg, AVlt_tup, AVlt_fn, RowsLt_nil, RowsLt_live, RowsLt_dead, List.mem_cons, List.not_mem_nil, List.forall_mem_cons, List.forall_mem_nil, or_false, false_or, forall_eq_or_imp, forall_eq, vs_lt, Nat.add_lt_add_iff_left, Nat.reduceLT, true_and, and_true, and_self, List.length_cons, List.length_nil, Nat.reduceAdd, Nat.zero_add, implies_true, false_imp_iff, lt_T, List.mem_map])))) (by simp [fl_len]) (by simp (disch := omega) only [KOvLt, AVlt_v, AVlt_any, AVlt_sl, AVlt_ptr, AVlt_mp, AVlt_agg, AVlt_tup, AVlt_fn, RowsLt_nil, RowsLt_live, RowsLt_dead, List.mem_cons, List.not_mem_nil, List.forall_mem_cons, List.forall_mem_nil, or_false, false_or, forall_eq_or_imp, forall_eq, vs_lt, Nat.add_lt_add_iff_left, Nat.reduceLT, true_and, and_true, and_self, List.length_cons, List.length_nil, Nat.reduceAdd, Nat.zero_add, implies_true, false_imp_iff, lt_T, List.mem_map]) hR (stR_lt0 (by simp [fl_len]))
          · have hk3b : (t[p].evs[D p].kind == 3) = false := beq_eq_false_iff_ne.2 hk3
            have hrv : prvV t p (D p) = rcvV t p (D p) := by unfold rcvV; rw [if_neg (by rw [hev]; exact hk3)]
            by_cases hk2 : t[p].evs[D p].kind = 2
            · obtain ⟨m, hm, hm2⟩ := msg_in hv hx (.inl (by rw [hev]; exact hk2))
              have hm0 := hm
              rw [hev] at hm
              have h23 : ((2 : Int) == 3) = false := rfl
              have hsE : ∀ h : m < (sentL t D).length, (sentL t D)[m]'h = [sentV t D m] := fun h => fl_getE h
              simp (disch := (first | decide | omega)) only [hA, hg1, hg2, hg3, List.length_map, fl_len, fa_at, fa_tail, fa_tail0, fa_set, fa_settail, fa_settail0, fl_get, List.length_replicate, vs_nil, List.length_set, hk2, h23, hm, hsL, hsE, hrv, hrl, hrg, hrs, eI, hrw, tkr, cR, setFrom, cellsOf, go_sem]
              refine ⟨(fUp D p (D p + 1), true), hprg, by have := remT_step hlt hd; simp only; omega, ?_⟩
              exact Weak.kroundF (p := r_stamps2) (i := t.length + 2 + 1 + 1 + 1) (ver := 0) (sz := 1) (rows := (vcs t (p, D p + 1)).map eI) (k := t.length + 4) (by simp only [List.getElem?_cons_succ, fa_tail, List.getElem?_cons_zero]) (by ((repeat refine (kAny_up rfl).trans ?_); exact hEE3)) (by ((try simp (disch := decide) only [hA, go_sem]) <;> (repeat' (first | exact trivial | refine And.intro ?_ ?_)) <;> (first | rfl | (congr 2; omega)))) (st_frz (j := 1) (x := t[p]) hlt (sent_frz hv hx (by rw [hev]; exact hk2) hm0)) (by (repeat (first | exact hE3.mono (by omega) | refine KLt.up ?_ (by simp (disch := omega) only [AVlt_v, AVlt_any, AVlt_sl, AVlt_ptr, AVlt_mp, AVlt_agg, AVlt_tup, AVlt_fn, RowsLt_nil, RowsLt_live, RowsLt_dead, List.mem_cons, List.not_mem_nil, List.forall_mem_cons, List.forall_mem_nil, or_false, false_or, forall_eq_or_imp, forall_eq, vs_lt, Nat.add_lt_add_iff_left, Nat.reduceLT, true_and, and_true, and_self, List.length_cons, List.length_nil, Nat.reduceAdd, Nat.zero_add, implies_true, false_imp_iff, lt_T, List.mem_map])))) (by simp [fl_len]) (by simp [fl_len]) (by simp (disch := omega) only [KOvLt, AVlt_v, AVlt_any, AVlt_sl, AVlt_ptr, AVlt_mp, AVlt_agg, AVlt_tup, AVlt_fn, RowsLt_nil, RowsLt_live, RowsLt_dead, List.mem_cons, List.not_mem_nil, List.forall_mem_cons, List.forall_mem_nil, or_false, false_or, forall_eq_or_imp, forall_eq, vs_lt, Nat.add_lt_add_iff_left, Nat.reduceLT, true_and, and_true, and_self, List.length_cons, List.length_nil, Nat.reduceAdd, Nat.zero_add, implies_true, false_imp_iff, lt_T, List.mem_map]) hR (stR_ltx (by simp [fl_len]))
            · have hk2b : (t[p].evs[D p].kind == 2) = false := beq_eq_false_iff_ne.2 hk2
              simp (disch := (first | decide | omega)) only [hA, hg1, hg2, hg3, List.length_map, fl_len, fa_at, fa_tail, fa_tail0, fa_set, fa_settail, fa_settail0, fl_get, List.length_replicate, vs_nil, List.length_set, hk3b, hk2b, hrv, hrl, hrg, hrs, eI, hrw, tkr, cR, setFrom, cellsOf, go_sem]
              refine ⟨(fUp D p (D p + 1), true), hprg, by have := remT_step hlt hd; simp only; omega, ?_⟩
              rw [← sentL_other (D := D) (p := p) (by rw [hev]; exact hk2)]
              exact Weak.kroundF (p := r_stamps2) (i := t.length + 2 + 1 + 1 + 1) (ver := 0) (sz := 1) (rows := (vcs t (p, D p + 1)).map eI) (k := t.length + 4) (by simp only [List.getElem?_cons_succ, fa_tail, List.getElem?_cons_zero]) (by ((repeat refine (kAny_up rfl).trans ?_); exact hEE3)) (by ((try simp (disch := decide) only [hA, go_sem]) <;> (repeat' (first | exact trivial | refine And.intro ?_ ?_)) <;> (first | rfl | (congr 2; omega)))) (st_frz (j := 1) (x := t[p]) hlt vs_frz0) (by (repeat (first | exact hE3.mono (by omega) | refine KLt.up ?_ (by simp (disch := omega) only [AVlt_v, AVlt_any, AVlt_sl, AVlt_ptr, AVlt_mp, AVlt_agg, AVlt_tup, AVlt_fn, RowsLt_nil, RowsLt_live, RowsLt_dead, List.mem_cons, List.not_mem_nil, List.forall_mem_cons, List.forall_mem_nil, or_false, false_or, forall_eq_or_imp, forall_eq, vs_lt, Nat.add_lt_add_iff_left, Nat.reduceLT, true_and, and_true, and_self, List.length_cons, List.length_nil, Nat.reduceAdd, Nat.zero_add, implies_true, false_imp_iff, lt_T, List.mem_map])))) (by simp [fl_len]) (by simp [fl_len]) (by simp (disch := omega) only [KOvLt, AVlt_v, AVlt_any, AVlt_sl, AVlt_ptr, AVlt_mp, AVlt_agg, AVlt_tup, AVlt_fn, RowsLt_nil, RowsLt_live, RowsLt_dead, List.mem_cons, List.not_mem_nil, List.forall_mem_cons, List.forall_mem_nil, or_false, false_or, forall_eq_or_imp, forall_eq, vs_lt, Nat.add_lt_add_iff_left, Nat.reduceLT, true_and, and_true, and_self, List.length_cons, List.length_nil, Nat.reduceAdd, Nat.zero_add, implies_true, false_imp_iff, lt_T, List.mem_map]) hR (stR_ltx (by simp [fl_len]))
      · have hcd : decide ((D p : Int) < (t[p].evs.length : Int)) = false := decide_eq_false (by rw [heq] at hd; omega)
        simp (disch := (first | decide | omega)) only [hA, hg1, hg2, hg3, ePr, List.length_map, stR, fl_len, fa_at, fa_tail, fa_tail0, fa_set, fa_settail, fa_settail0, fl_get, xRow, hcd, go_sem]
        refine ⟨(p + 1, D, ag), ⟨hlt, hP.1, fun h => ⟨(hP.2.1 h).1, fun q hq hr => ?_⟩, hP.2.2⟩, by simp only; omega, ?_⟩
        · by_cases hqp : q = p
          · subst hqp; rw [← (hP.2.1 h).1] at hr; exact hd hr.1
          · exact (hP.2.1 h).2 q (by omega) hr
        · refine Weak.kround (p := r_stamps1) (k := t.length + 3) (junk := [xRow t[p]]) (by ((repeat refine (kAny_up rfl).trans ?_); refine (kAny_sub hg3 (kIn_sub rfl)).trans ?_; (repeat refine (kAny_up rfl).trans ?_); exact hEE2)) (by ((try simp (disch := decide) only [hA, go_sem]) <;> (repeat' (first | exact trivial | refine And.intro ?_ ?_)) <;> (first | rfl | (congr 2; omega)))) (by simp [xRow]) (by (repeat (first | exact hE2.mono (by omega) | refine KLt.up ?_ (by simp (disch := omega) only [AVlt_v, AVlt_any, AVlt_sl, AVlt_ptr, AVlt_mp, AVlt_agg, AVlt_tup, AVlt_fn, RowsLt_nil, RowsLt_live, RowsLt_dead, List.mem_cons, List.not_mem_nil, List.forall_mem_cons, List.forall_mem_nil, or_false, false_or, forall_eq_or_imp, forall_eq, vs_lt, Nat.add_lt_add_iff_left, Nat.reduceLT, true_and, and_true, and_self, List.length_cons, List.length_nil, Nat.reduceAdd, Nat.zero_add, implies_true, false_imp_iff, lt_T, List.mem_map])))) (by simp [fl_len]) (by simp (disch := omega) only [KOvLt, AVlt_v, AVlt_any, AVlt_sl, AVlt_ptr, AVlt_mp, AVlt_agg, AVlt_tup, AVlt_fn, RowsLt_nil, RowsLt_live, RowsLt_dead, List.mem_cons, List.not_mem_nil, List.forall_mem_cons, List.forall_mem_nil, or_false, false_or, forall_eq_or_imp, forall_eq, vs_lt, Nat.add_lt_add_iff_left, Nat.reduceLT, true_and, and_true, and_self, List.length_cons, List.length_nil, Nat.reduceAdd, Nat.zero_add, implies_true, false_imp_iff, lt_T, List.mem_map]) hR (stR_lt0 (by simp [fl_len]))
    · simp (disch := (first | decide | omega)) only [hA, hg1, hg2, List.length_map, stR, go_sem]
      obtain rfl : p = t.length := by omega
      refine ⟨(D1, ag1), ⟨hP1.1, fun h => ?_⟩, ?_, ?_⟩
      · obtain ⟨e1, e2⟩ := hP1.2.1 h
        simp only
        rw [e1]
        exact none_left hv hD0 e2
      · cases ag1 with
        | true => have := hP1.2.2 rfl; simp only [cond]; omega
        | false => rw [(hP1.2.1 rfl).1]; simp only [cond]; omega
      · refine Weak.kround (p := r_stamps0) (k := t.length + 3) (junk := []) (by ((repeat refine (kAny_up rfl).trans ?_); refine (kAny_sub hg2 (kIn_sub rfl)).trans ?_; (repeat refine (kAny_up rfl).trans ?_); exact hEE1)) (by ((try simp (disch := decide) only [hA, go_sem]) <;> (repeat' (first | exact trivial | refine And.intro ?_ ?_)) <;> (first | rfl | (congr 2; omega)))) (by simp) (by (repeat (first | exact hE1.mono (by omega) | refine KLt.up ?_ (by simp (disch := omega) only [AVlt_v, AVlt_any, AVlt_sl, AVlt_ptr, AVlt_mp, AVlt_agg, AVlt_tup, AVlt_fn, RowsLt_nil, RowsLt_live, RowsLt_dead, List.mem_cons, List.not_mem_nil, List.forall_mem_cons, List.forall_mem_nil, or_false, false_or, forall_eq_or_imp, forall_eq, vs_lt, Nat.add_lt_add_iff_left, Nat.reduceLT, true_and, and_true, and_self, List.length_cons, List.length_nil, Nat.reduceAdd, Nat.zero_add, implies_true, false_imp_iff, lt_T, List.mem_map])))) (by simp [fl_len]) (by simp (disch := omega) only [KOvLt, AVlt_v, AVlt_any, AVlt_sl, AVlt_ptr, AVlt_mp, AVlt_agg, AVlt_tup, AVlt_fn, RowsLt_nil, RowsLt_live, RowsLt_dead, List.mem_cons, List.not_mem_nil, List.forall_mem_cons, List.forall_mem_nil, or_false, false_or, forall_eq_or_imp, forall_eq, vs_lt, Nat.add_lt_add_iff_left, Nat.reduceLT, true_and, and_true, and_self, List.length_cons, List.length_nil, Nat.reduceAdd, Nat.zero_add, implies_true, false_imp_iff, lt_T, List.mem_map]) hR (stR_lt0 (by simp [fl_len]))
end Go.Proofs.Ytoaopldaleaijaa

namespace Go.Proofs.Ytoaopldaleaijaa
set_option linter.unusedVariables false
set_option linter.unusedSimpArgs false
attribute [local go_sem ↓] run_skip run_region run_draw run_seq run_block run_exit run_ret run_cond atN_app seqC_normal seqC_exit seqC_ret seqQ_normal seqQ_exit seqQ_ret blkQ_normal blkQ_exit blkQ_ret runOps_nil runOps_cons runD_nil runD_cons grdO_true grdO_false grdD_true grdD_false ifC_true ifC_false opS_val opS_call opS_two opK_app dS_val dS_call dS_two dK_app kUp_same kUp_ne
attribute [local go_sem] rechks_nil rechks_cons rechk gcase_true gcase_false ex_val ex_val0 gd_none gd_some ev_t ev_c evs_nil evs_cons evo_some evo_none hget_at hget_first hsetB_at hsetB_first hsetL_at hsetL_first ofOpt_some aop aload astore aslice aappend aiaddr aiaddrA afaddr alen alenS acopy amm acall alookup amupdate alenM comma keyEq apick binV binVB binVS isSh intOp strOp boolOp shOp eqC eqF and2 cellsOf setFrom fillA fillS rd rdI elems mk bounds AV.cell List.all_cons List.all_nil Bool.and_true Bool.true_and Bool.and_self List.length_cons List.length_nil List.length_append Nat.reduceAdd Nat.reduceSub Nat.reduceMul Nat.zero_add Nat.add_zero List.cons_append List.nil_append List.append_assoc List.append_nil List.getElem?_cons_zero List.getElem?_cons_succ List.getElem?_nil List.set_cons_zero List.set_cons_succ List.drop_zero List.drop_succ_cons List.take_zero List.take_succ_cons List.take_nil List.drop_nil List.map_cons List.map_nil Option.map_some if_true if_false Bool.false_eq_true and_self true_and and_true Nat.reduceLeDiff Nat.reduceLT Nat.le_refl Nat.reduceEqDiff ite_true ite_false beq_self_eq_true beq_true beq_false Bool.not_true Bool.not_false Bool.true_beq Bool.false_beq map_vs vs_len vs_get vs_take vs_drop vs_snoc1 vs_snoc2 vs_snoc3 vs_snoc5 vs_set1 vs_set2 vs_rep wrap_id le_T lt_T le_F lt_F leI_T ltI_T leI_F ltI_F geI gtI get_T decide_true decide_false room List.getElem?_map List.length_map List.length_take Int.toNat_natCast Nat.min_def Nat.min_self nth_kOf put_kOf put_kNo kOv_cons kOv_nil KHas KArgs List.getElem_cons_zero List.getElem_cons_succ
def a_vStamps : AFunc := ⟨1, 9, [.tmp 2, .tmp 3],
  (.seq (.region [⟨(some 1), .box (.t 0), none⟩, ⟨(some 2), .mv (.c (.v .zsl)), none⟩, ⟨(some 3), .mv (.c (.v (.int .i64 0))), none⟩])
  (.seq (.seq (.region [⟨(some 4), .load (some 1) (.t 1), none⟩, ⟨(some 5), .call (.c (.fn 67 [])) [(.t 4)], none⟩, ⟨(some 6), .not (.t 5), none⟩])
  (.cond (.t 6) (.seq (.region [⟨(some 2), .mv (.c (.v .zsl)), none⟩, ⟨(some 3), .mv (.c (.v (.int .i64 1))), none⟩])
  .ret)
  .skip))
  (.seq (.region [⟨(some 7), .load (some 1) (.t 1), none⟩, ⟨(some 8), .call (.c (.fn 100 [])) [(.t 7)], none⟩, ⟨(some 2), .mv (.t 8), none⟩, ⟨(some 3), .mv (.c (.v (.int .i64 0))), none⟩])
  .ret)))⟩
theorem a_vStamps_ok : cFunc Try.prog 50 = some a_vStamps := by kernel_rfl

def eMx (m : List (List Int)) : List IV := [.isl 1 (m.map eRw)]
end Go.Proofs.Ytoaopldaleaijaa

namespace Go.Proofs.Ytoaopldaleaijaa
set_option linter.unusedVariables false
set_option linter.unusedSimpArgs false
attribute [local go_sem ↓] run_skip run_region run_draw run_seq run_block run_exit run_ret run_cond atN_app seqC_normal seqC_exit seqC_ret seqQ_normal seqQ_exit seqQ_ret blkQ_normal blkQ_exit blkQ_ret runOps_nil runOps_cons runD_nil runD_cons grdO_true grdO_false grdD_true grdD_false ifC_true ifC_false opS_val opS_call opS_two opK_app dS_val dS_call dS_two dK_app kUp_same kUp_ne
attribute [local go_sem] rechks_nil rechks_cons rechk gcase_true gcase_false ex_val ex_val0 gd_none gd_some ev_t ev_c evs_nil evs_cons evo_some evo_none hget_at hget_first hsetB_at hsetB_first hsetL_at hsetL_first ofOpt_some aop aload astore aslice aappend aiaddr aiaddrA afaddr alen alenS acopy amm acall alookup amupdate alenM comma keyEq apick binV binVB binVS isSh intOp strOp boolOp shOp eqC eqF and2 cellsOf setFrom fillA fillS rd rdI elems mk bounds AV.cell List.all_cons List.all_nil Bool.and_true Bool.true_and Bool.and_self List.length_cons List.length_nil List.length_append Nat.reduceAdd Nat.reduceSub Nat.reduceMul Nat.zero_add Nat.add_zero List.cons_append List.nil_append List.append_assoc List.append_nil List.getElem?_cons_zero List.getElem?_cons_succ List.getElem?_nil List.set_cons_zero List.set_cons_succ List.drop_zero List.drop_succ_cons List.take_zero List.take_succ_cons List.take_nil List.drop_nil List.map_cons List.map_nil Option.map_some if_true if_false Bool.false_eq_true and_self true_and and_true Nat.reduceLeDiff Nat.reduceLT Nat.le_refl Nat.reduceEqDiff ite_true ite_false beq_self_eq_true beq_true beq_false Bool.not_true Bool.not_false Bool.true_beq Bool.false_beq map_vs vs_len vs_get vs_take vs_drop vs_snoc1 vs_snoc2 vs_snoc3 vs_snoc5 vs_set1 vs_set2 vs_rep wrap_id le_T lt_T le_F lt_F leI_T ltI_T leI_F ltI_F geI gtI get_T decide_true decide_false room List.getElem?_map List.length_map List.length_take Int.toNat_natCast Nat.min_def Nat.min_self nth_kOf put_kOf put_kNo kOv_cons kOv_nil KHas KArgs List.getElem_cons_zero List.getElem_cons_succ
/-- The stamps of a trace, as lists. -/
noncomputable def stL (t : Tr) : List (List (List Int)) := fl t.length fun p => fl (evsOf t p).length fun i => vcs t (p, i + 1)
theorem stL_all {t : Tr} : stAll t t.length = (stL t).map eMx := by
  unfold stAll stL
  rw [fl_map]
  refine fl_congr (fun p _ => ?_)
  unfold eMx stRow
  rw [fl_map]; rfl
theorem stL_len {t : Tr} : (stL t).length = t.length := fl_len
theorem vStamps_spec (t : Tr) (hS : Small t) (hN : Nm t) (b l : List Row) :
    ACalls Try.prog 50 [.agg [.v (eT t)]] b l (fun r b' l' => r = (if validL t = true then .tup [.v (.isl 1 ((stL t).map eMx)), .v (.int .i64 0)] else .tup [.v .zsl, .v (.int .i64 1)]) ∧ b' = b ∧ l' = l) := by
  refine calls_kept a_vStamps_ok rfl (by decide) ?_
  intro B g hB hR hE hA
  simp only [KArgs] at hA
  simp (disch := decide) only [a_vStamps, hA, go_sem]
  refine ACalls.nxt (valid_spec t hS hN _ _) ?_
  cases hval : validL t with
  | false =>
    simp (disch := decide) only [hA, go_sem]
    exact leave_pure (xs := [.v .zsl, .v (.int .i64 1)]) (.inr rfl) (by simp (disch := (first | decide | omega)) only [resVs, resV, go_sem, hA]) (by simp only [one, AVlt_v, AVlt_any, AVlt_sl, AVlt_ptr, AVlt_mp, AVlt_agg, AVlt_tup, AVlt_fn, RowsLt_nil, RowsLt_live, RowsLt_dead, List.mem_cons, List.not_mem_nil, List.forall_mem_cons, List.forall_mem_nil, or_false, false_or, forall_eq_or_imp, forall_eq, vs_lt, Nat.add_lt_add_iff_left, Nat.reduceLT, true_and, and_true, and_self, List.length_cons, List.length_nil, Nat.reduceAdd, Nat.zero_add, implies_true, false_imp_iff, lt_T, List.mem_map]) hR hB ⟨rfl, rfl, rfl⟩
  | true =>
    have hv := vok hval
    have hst := fun b l => stamps_spec t hv hS b l
    simp only [stL_all] at hst
    simp (disch := decide) only [hA, go_sem]
    refine ACalls.nxt (hst _ _) ?_
    simp (disch := decide) only [hA, go_sem]
    exact leave_pure (xs := [.v (.isl 1 ((stL t).map eMx)), .v (.int .i64 0)]) (.inr rfl) (by simp (disch := (first | decide | omega)) only [resVs, resV, go_sem, hA]) (by simp only [one, AVlt_v, AVlt_any, AVlt_sl, AVlt_ptr, AVlt_mp, AVlt_agg, AVlt_tup, AVlt_fn, RowsLt_nil, RowsLt_live, RowsLt_dead, List.mem_cons, List.not_mem_nil, List.forall_mem_cons, List.forall_mem_nil, or_false, false_or, forall_eq_or_imp, forall_eq, vs_lt, Nat.add_lt_add_iff_left, Nat.reduceLT, true_and, and_true, and_self, List.length_cons, List.length_nil, Nat.reduceAdd, Nat.zero_add, implies_true, false_imp_iff, lt_T, List.mem_map]) hR hB ⟨rfl, rfl, rfl⟩
end Go.Proofs.Ytoaopldaleaijaa

namespace Go.Proofs.Ytoaopldaleaijaa
set_option linter.unusedVariables false
set_option linter.unusedSimpArgs false
attribute [local go_sem ↓] run_skip run_region run_draw run_seq run_block run_exit run_ret run_cond atN_app seqC_normal seqC_exit seqC_ret seqQ_normal seqQ_exit seqQ_ret blkQ_normal blkQ_exit blkQ_ret runOps_nil runOps_cons runD_nil runD_cons grdO_true grdO_false grdD_true grdD_false ifC_true ifC_false opS_val opS_call opS_two opK_app dS_val dS_call dS_two dK_app kUp_same kUp_ne
attribute [local go_sem] rechks_nil rechks_cons rechk gcase_true gcase_false ex_val ex_val0 gd_none gd_some ev_t ev_c evs_nil evs_cons evo_some evo_none hget_at hget_first hsetB_at hsetB_first hsetL_at hsetL_first ofOpt_some aop aload astore aslice aappend aiaddr aiaddrA afaddr alen alenS acopy amm acall alookup amupdate alenM comma keyEq apick binV binVB binVS isSh intOp strOp boolOp shOp eqC eqF and2 cellsOf setFrom fillA fillS rd rdI elems mk bounds AV.cell List.all_cons List.all_nil Bool.and_true Bool.true_and Bool.and_self List.length_cons List.length_nil List.length_append Nat.reduceAdd Nat.reduceSub Nat.reduceMul Nat.zero_add Nat.add_zero List.cons_append List.nil_append List.append_assoc List.append_nil List.getElem?_cons_zero List.getElem?_cons_succ List.getElem?_nil List.set_cons_zero List.set_cons_succ List.drop_zero List.drop_succ_cons List.take_zero List.take_succ_cons List.take_nil List.drop_nil List.map_cons List.map_nil Option.map_some if_true if_false Bool.false_eq_true and_self true_and and_true Nat.reduceLeDiff Nat.reduceLT Nat.le_refl Nat.reduceEqDiff ite_true ite_false beq_self_eq_true beq_true beq_false Bool.not_true Bool.not_false Bool.true_beq Bool.false_beq map_vs vs_len vs_get vs_take vs_drop vs_snoc1 vs_snoc2 vs_snoc3 vs_snoc5 vs_set1 vs_set2 vs_rep wrap_id le_T lt_T le_F lt_F leI_T ltI_T leI_F ltI_F geI gtI get_T decide_true decide_false room List.getElem?_map List.length_map List.length_take Int.toNat_natCast Nat.min_def Nat.min_self nth_kOf put_kOf put_kNo kOv_cons kOv_nil KHas KArgs List.getElem_cons_zero List.getElem_cons_succ
def a_IndE : AFunc := ⟨2, 19, [.tmp 4],
  (.seq (.region [⟨(some 4), .mv (.c (.v (.int .i64 0))), none⟩])
  (.seq (.seq (.region [⟨(some 6), .mv (.t 0), none⟩, ⟨(some 7), .len (.t 6), none⟩, ⟨(some 8), .mv (.c (.v (.int .i64 0))), none⟩])
  (.block 0 (.loop (.seq (.region [⟨(some 9), .bin .lss (.t 8) (.t 7), none⟩])
  (.seq (.cond (.t 9) .skip
  (.exit 0))
  (.seq (.block 1 (.seq (.region [⟨(some 10), .mv (.t 8), none⟩, ⟨(some 5), .mv (.t 10), none⟩])
  (.seq (.region [⟨(some 11), .mv (.t 1), none⟩, ⟨(some 12), .mv (.t 0), none⟩, ⟨(some 13), .mv (.t 5), none⟩, ⟨(some 14), .iaddr 5 (.t 12) (.t 13), none⟩, ⟨(some 15), .load (some 5) (.t 14), none⟩, ⟨(some 16), .call (.t 11) [(.t 15)], none⟩])
  (.cond (.t 16) (.seq (.region [⟨(some 17), .mv (.t 5), none⟩, ⟨(some 4), .mv (.t 17), none⟩])
  .ret)
  .skip))))
  (.region [⟨(some 18), .bin .add (.t 8) (.c (.v (.int .i64 1))), none⟩, ⟨(some 8), .mv (.t 18), none⟩])))))))
  (.seq (.region [⟨(some 4), .mv (.c (.v (.int .i64 (-1)))), none⟩])
  .ret)))⟩
theorem a_IndE_ok : cFunc Try.prog 24 = some a_IndE := by kernel_rfl
def r_IndE0 : List (Nat × Nat) := [(4, 5), (8, 18)]
def a_ConE : AFunc := ⟨2, 9, [.tmp 4],
  (.seq (.region [⟨(some 4), .mv (.c (.v (.bool false))), none⟩])
  (.seq (.region [⟨(some 5), .mv (.t 0), none⟩, ⟨(some 6), .mv (.t 1), none⟩, ⟨(some 7), .call (.c (.fn 24 [])) [(.t 5), (.t 6)], none⟩, ⟨(some 8), .bin .geq (.t 7) (.c (.v (.int .i64 0))), none⟩, ⟨(some 4), .mv (.t 8), none⟩])
  .ret))⟩
theorem a_ConE_ok : cFunc Try.prog 75 = some a_ConE := by kernel_rfl

theorem indexE_spec (v : List (Ev)) (k : Nat) (caps : List AV) (p : Nat → Bool) (hn : v.length ≤ 1000000) (b l : List Row)
    (hp : ∀ (i : Nat) (h : i < v.length), ACalls Try.prog k (.agg ((eEv v[i]).map .v) :: caps) (b ++ l) [] (fun r b' l' => r = .v (.bool (p i)) ∧ b' = b ++ l ∧ l' = [])) :
    ACalls Try.prog 24 [.v (.isl 5 (v.map eEv)), .fn k caps] b l (fun r b' l' => r = .v (.int .i64 (firstP p v.length)) ∧ b' = b ∧ l' = l) := by
  refine calls_kept a_IndE_ok rfl (by decide) ?_
  intro B g hB hR hE hA
  simp only [KArgs] at hA
  simp (disch := decide) only [a_IndE, hA, List.length_map, go_sem]
  refine loop_kept (ι := Nat) r_IndE0 (fun i => [(8, .v (.int .i64 i))]) 0 (fun _ => [])
    (fun i => i ≤ v.length ∧ ∀ j, j < i → p j = false) (fun i => v.length - i) 0 ⟨Nat.zero_le _, fun j hj => by omega⟩ (by (repeat (first | exact hE.mono (by omega) | refine KLt.up ?_ (by simp (disch := omega) only [AVlt_v, AVlt_any, AVlt_sl, AVlt_ptr, AVlt_mp, AVlt_agg, AVlt_tup, AVlt_fn, RowsLt_nil, RowsLt_live, RowsLt_dead, List.mem_cons, List.not_mem_nil, List.forall_mem_cons, List.forall_mem_nil, or_false, false_or, forall_eq_or_imp, forall_eq, vs_lt, Nat.add_lt_add_iff_left, Nat.reduceLT, true_and, and_true, and_self, List.length_cons, List.length_nil, Nat.reduceAdd, Nat.zero_add, implies_true, false_imp_iff, lt_T, List.mem_map])))) (by ((try simp (disch := decide) only [hA, go_sem]) <;> (repeat' (first | exact trivial | refine And.intro ?_ ?_)) <;> (first | rfl | (congr 2; omega)))) (fun e => Weak.refl _ _ _) ?_
  rintro g1 hE1 hEE1 hg1 i ⟨hi, h0⟩
  by_cases hlt : i < v.length
  · have hpi0 := hp i hlt
    try simp only [eEv, List.map_cons, List.map_nil] at hpi0
    simp (disch := (first | decide | omega)) only [hA, hg1, eEv, List.length_map, go_sem]
    refine ACalls_mono _ _ _ _ _ _ (hB ▸ hpi0) ?_
    rintro r b' l' ⟨rfl, rfl, rfl⟩
    cases hpi : p i
    · simp (disch := (first | decide | omega)) only [hA, hg1, hpi, go_sem]
      refine ⟨i + 1, ⟨hlt, fun j hj => ?_⟩, by simp only; omega, ?_⟩
      · rcases Nat.lt_or_ge j i with hji | hji
        · exact h0 j hji
        · have : j = i := by omega
          rw [this]; exact hpi
      exact Weak.kround (p := r_IndE0) (k := 0) (by ((repeat refine (kAny_up rfl).trans ?_); exact hEE1)) (by ((try simp (disch := decide) only [hA, go_sem]) <;> (repeat' (first | exact trivial | refine And.intro ?_ ?_)) <;> (first | rfl | (congr 2; omega)))) rfl hE1 (by simp) (by simp (disch := omega) only [KOvLt, AVlt_v, AVlt_any, AVlt_sl, AVlt_ptr, AVlt_mp, AVlt_agg, AVlt_tup, AVlt_fn, RowsLt_nil, RowsLt_live, RowsLt_dead, List.mem_cons, List.not_mem_nil, List.forall_mem_cons, List.forall_mem_nil, or_false, false_or, forall_eq_or_imp, forall_eq, vs_lt, Nat.add_lt_add_iff_left, Nat.reduceLT, true_and, and_true, and_self, List.length_cons, List.length_nil, Nat.reduceAdd, Nat.zero_add, implies_true, false_imp_iff, lt_T, List.mem_map]) hR (by simp (disch := omega) only [AVlt_v, AVlt_any, AVlt_sl, AVlt_ptr, AVlt_mp, AVlt_agg, AVlt_tup, AVlt_fn, RowsLt_nil, RowsLt_live, RowsLt_dead, List.mem_cons, List.not_mem_nil, List.forall_mem_cons, List.forall_mem_nil, or_false, false_or, forall_eq_or_imp, forall_eq, vs_lt, Nat.add_lt_add_iff_left, Nat.reduceLT, true_and, and_true, and_self, List.length_cons, List.length_nil, Nat.reduceAdd, Nat.zero_add, implies_true, false_imp_iff, lt_T, List.mem_map])
    · simp (disch := (first | decide | omega)) only [hA, hg1, hpi, go_sem]
      exact leave_pure (xs := [.v (.int .i64 i)]) (.inr rfl) (by simp (disch := (first | decide | omega)) only [resVs, resV, go_sem, hA, hg1]) (by simp only [one, AVlt_v, AVlt_any, AVlt_sl, AVlt_ptr, AVlt_mp, AVlt_agg, AVlt_tup, AVlt_fn, RowsLt_nil, RowsLt_live, RowsLt_dead, List.mem_cons, List.not_mem_nil, List.forall_mem_cons, List.forall_mem_nil, or_false, false_or, forall_eq_or_imp, forall_eq, vs_lt, Nat.add_lt_add_iff_left, Nat.reduceLT, true_and, and_true, and_self, List.length_cons, List.length_nil, Nat.reduceAdd, Nat.zero_add, implies_true, false_imp_iff, lt_T, List.mem_map]) hR hB ⟨by rw [firstP_at hlt h0 hpi]; rfl, rfl, rfl⟩
  · simp (disch := (first | decide | omega)) only [hA, hg1, List.length_map, go_sem]
    obtain rfl : i = v.length := by omega
    exact leave_pure (xs := [.v (.int .i64 (-1))]) (.inr rfl) (by simp (disch := (first | decide | omega)) only [resVs, resV, go_sem, hA, hg1]) (by simp only [one, AVlt_v, AVlt_any, AVlt_sl, AVlt_ptr, AVlt_mp, AVlt_agg, AVlt_tup, AVlt_fn, RowsLt_nil, RowsLt_live, RowsLt_dead, List.mem_cons, List.not_mem_nil, List.forall_mem_cons, List.forall_mem_nil, or_false, false_or, forall_eq_or_imp, forall_eq, vs_lt, Nat.add_lt_add_iff_left, Nat.reduceLT, true_and, and_true, and_self, List.length_cons, List.length_nil, Nat.reduceAdd, Nat.zero_add, implies_true, false_imp_iff, lt_T, List.mem_map]) hR hB ⟨by rw [firstP_none h0]; rfl, rfl, rfl⟩
end Go.Proofs.Ytoaopldaleaijaa

namespace Go.Proofs.Ytoaopldaleaijaa
set_option linter.unusedVariables false
set_option linter.unusedSimpArgs false
attribute [local go_sem ↓] run_skip run_region run_draw run_seq run_block run_exit run_ret run_cond atN_app seqC_normal seqC_exit seqC_ret seqQ_normal seqQ_exit seqQ_ret blkQ_normal blkQ_exit blkQ_ret runOps_nil runOps_cons runD_nil runD_cons grdO_true grdO_false grdD_true grdD_false ifC_true ifC_false opS_val opS_call opS_two opK_app dS_val dS_call dS_two dK_app kUp_same kUp_ne
attribute [local go_sem] rechks_nil rechks_cons rechk gcase_true gcase_false ex_val ex_val0 gd_none gd_some ev_t ev_c evs_nil evs_cons evo_some evo_none hget_at hget_first hsetB_at hsetB_first hsetL_at hsetL_first ofOpt_some aop aload astore aslice aappend aiaddr aiaddrA afaddr alen alenS acopy amm acall alookup amupdate alenM comma keyEq apick binV binVB binVS isSh intOp strOp boolOp shOp eqC eqF and2 cellsOf setFrom fillA fillS rd rdI elems mk bounds AV.cell List.all_cons List.all_nil Bool.and_true Bool.true_and Bool.and_self List.length_cons List.length_nil List.length_append Nat.reduceAdd Nat.reduceSub Nat.reduceMul Nat.zero_add Nat.add_zero List.cons_append List.nil_append List.append_assoc List.append_nil List.getElem?_cons_zero List.getElem?_cons_succ List.getElem?_nil List.set_cons_zero List.set_cons_succ List.drop_zero List.drop_succ_cons List.take_zero List.take_succ_cons List.take_nil List.drop_nil List.map_cons List.map_nil Option.map_some if_true if_false Bool.false_eq_true and_self true_and and_true Nat.reduceLeDiff Nat.reduceLT Nat.le_refl Nat.reduceEqDiff ite_true ite_false beq_self_eq_true beq_true beq_false Bool.not_true Bool.not_false Bool.true_beq Bool.false_beq map_vs vs_len vs_get vs_take vs_drop vs_snoc1 vs_snoc2 vs_snoc3 vs_snoc5 vs_set1 vs_set2 vs_rep wrap_id le_T lt_T le_F lt_F leI_T ltI_T leI_F ltI_F geI gtI get_T decide_true decide_false room List.getElem?_map List.length_map List.length_take Int.toNat_natCast Nat.min_def Nat.min_self nth_kOf put_kOf put_kNo kOv_cons kOv_nil KHas KArgs List.getElem_cons_zero List.getElem_cons_succ
def a_mAt : AFunc := ⟨2, 111, [.tmp 4],
  (.seq (.region [⟨(some 3), .box (.t 1), none⟩, ⟨(some 4), .mv (.c (.v .zsl)), none⟩])
  (.seq (.seq (.draw [⟨0, ⟨(some 13), .mv (.t 0), none⟩, []⟩, ⟨1, ⟨(some 14), .nilck (.t 13), none⟩, []⟩, ⟨2, ⟨(some 15), .faddr 1 (.t 14), none⟩, []⟩, ⟨3, ⟨(some 16), .load none (.t 15), none⟩, []⟩, ⟨4, ⟨(some 17), .load (some 2) (.t 3), none⟩, []⟩, ⟨5, ⟨(some 18), .lookup (.many [.i, .i]) (.v .zsl) true (.t 16) (.t 17), none⟩, []⟩, ⟨6, ⟨(some 12), .mv (.t 18), none⟩, []⟩, ⟨7, ⟨(some 19), .extract 0 (.t 12), none⟩, []⟩, ⟨8, ⟨(some 20), .extract 1 (.t 12), none⟩, []⟩, ⟨9, ⟨(some 5), .mv (.t 19), none⟩, []⟩, ⟨10, ⟨(some 6), .mv (.t 20), none⟩, []⟩])
  (.seq (.region [⟨(some 21), .mv (.t 6), none⟩])
  (.cond (.t 21) (.seq (.region [⟨(some 22), .mv (.t 5), none⟩, ⟨(some 4), .mv (.t 22), none⟩])
  .ret)
  .skip)))
  (.seq (.seq (.region [⟨(some 23), .faddr 1 (.t 3), none⟩, ⟨(some 24), .load none (.t 23), none⟩, ⟨(some 25), .bin .eql (.t 24) (.c (.v (.int .i64 0))), none⟩])
  (.cond (.t 25) (.seq (.region [⟨(some 27), .mv (.t 0), none⟩, ⟨(some 28), .nilck (.t 27), none⟩, ⟨(some 29), .faddr 0 (.t 28), none⟩, ⟨(some 30), .faddr 0 (.t 29), none⟩, ⟨(some 31), .load none (.t 30), none⟩, ⟨(some 32), .len (.t 31), none⟩, ⟨(some 33), .call (.c (.fn 141 [])) [(.t 32)], none⟩, ⟨(some 26), .mv (.t 33), none⟩, ⟨(some 34), .extract 0 (.t 26), none⟩, ⟨(some 35), .extract 1 (.t 26), none⟩, ⟨(some 7), .mv (.t 34), none⟩, ⟨(some 8), .mv (.t 35), none⟩])
  (.seq (.draw [⟨0, ⟨(some 36), .mv (.t 0), none⟩, []⟩, ⟨1, ⟨(some 37), .nilck (.t 36), none⟩, []⟩, ⟨2, ⟨(some 38), .faddr 1 (.t 37), none⟩, []⟩, ⟨3, ⟨(some 39), .load none (.t 38), none⟩, []⟩, ⟨4, ⟨(some 40), .load (some 2) (.t 3), none⟩, []⟩, ⟨5, ⟨(some 41), .mv (.t 7), none⟩, []⟩, ⟨6, ⟨none, .mupdate (.many [.i, .i]) (.t 39) (.t 40) (.t 41), none⟩, []⟩])
  (.seq (.region [⟨(some 42), .mv (.t 7), none⟩, ⟨(some 4), .mv (.t 42), none⟩])
  .ret)))
  .skip))
  (.seq (.region [⟨(some 43), .mv (.t 0), none⟩, ⟨(some 44), .faddr 0 (.t 3), none⟩, ⟨(some 45), .load none (.t 44), none⟩, ⟨(some 46), .faddr 1 (.t 3), none⟩, ⟨(some 47), .load none (.t 46), none⟩, ⟨(some 48), .bin .sub (.t 47) (.c (.v (.int .i64 1))), none⟩, ⟨(some 49), .build [(.v (.int .i64 0)), (.v (.int .i64 0))] [(0, 1, (.t 45)), (1, 1, (.t 48))], none⟩, ⟨(some 50), .call (.c (.fn 106 [])) [(.t 43), (.t 49)], none⟩, ⟨(some 9), .mv (.t 50), none⟩])
  (.seq (.seq (.draw [⟨0, ⟨(some 51), .mv (.t 0), none⟩, []⟩, ⟨1, ⟨(some 52), .nilck (.t 51), none⟩, []⟩, ⟨2, ⟨(some 53), .faddr 0 (.t 52), none⟩, []⟩, ⟨3, ⟨(some 54), .faddr 0 (.t 53), none⟩, []⟩, ⟨4, ⟨(some 55), .load none (.t 54), none⟩, []⟩, ⟨5, ⟨(some 56), .faddr 0 (.t 3), none⟩, []⟩, ⟨6, ⟨(some 57), .load none (.t 56), none⟩, []⟩, ⟨7, ⟨(some 58), .iaddr 3 (.t 55) (.t 57), none⟩, []⟩, ⟨8, ⟨(some 59), .faddr 2 (.t 58), none⟩, []⟩, ⟨9, ⟨(some 60), .load none (.t 59), none⟩, []⟩, ⟨10, ⟨(some 61), .faddr 1 (.t 3), none⟩, []⟩, ⟨11, ⟨(some 62), .load none (.t 61), none⟩, []⟩, ⟨12, ⟨(some 63), .bin .sub (.t 62) (.c (.v (.int .i64 1))), none⟩, []⟩, ⟨13, ⟨(some 64), .iaddr 5 (.t 60) (.t 63), none⟩, []⟩, ⟨14, ⟨(some 65), .load (some 5) (.t 64), none⟩, []⟩, ⟨15, ⟨(some 10), .alloc [(.v (.int .i64 0)), (.v (.int .i64 0)), (.v (.int .i64 0)), (.v (.int .i64 0)), (.v .zsl)], none⟩, [⟨(some 51), .mv (.t 0), none⟩, ⟨(some 52), .nilck (.t 51), none⟩, ⟨(some 53), .faddr 0 (.t 52), none⟩, ⟨(some 54), .faddr 0 (.t 53), none⟩, ⟨(some 55), .load none (.t 54), none⟩, ⟨(some 56), .faddr 0 (.t 3), none⟩, ⟨(some 57), .load none (.t 56), none⟩, ⟨(some 58), .iaddr 3 (.t 55) (.t 57), none⟩, ⟨(some 59), .faddr 2 (.t 58), none⟩, ⟨(some 60), .load none (.t 59), none⟩, ⟨(some 61), .faddr 1 (.t 3), none⟩, ⟨(some 62), .load none (.t 61), none⟩, ⟨(some 63), .bin .sub (.t 62) (.c (.v (.int .i64 1))), none⟩, ⟨(some 64), .iaddr 5 (.t 60) (.t 63), none⟩, ⟨(some 65), .load (some 5) (.t 64), none⟩]⟩, ⟨16, ⟨none, .store 5 (.t 10) (.t 65), none⟩, []⟩])
  (.seq (.region [⟨(some 66), .faddr 0 (.t 10), none⟩, ⟨(some 67), .load none (.t 66), none⟩, ⟨(some 68), .bin .eql (.t 67) (.c (.v (.int .i64 3))), none⟩])
  (.cond (.t 68) (.seq (.draw [⟨0, ⟨(some 69), .mv (.t 0), none⟩, []⟩, ⟨1, ⟨(some 70), .nilck (.t 69), none⟩, []⟩, ⟨2, ⟨(some 71), .faddr 0 (.t 70), none⟩, []⟩, ⟨3, ⟨(some 72), .faddr 0 (.t 71), none⟩, []⟩, ⟨4, ⟨(some 73), .load none (.t 72), none⟩, []⟩, ⟨5, ⟨(some 74), .faddr 1 (.t 10), none⟩, []⟩, ⟨6, ⟨(some 75), .load none (.t 74), none⟩, []⟩, ⟨7, ⟨(some 76), .iaddr 3 (.t 73) (.t 75), none⟩, []⟩, ⟨8, ⟨(some 77), .faddr 2 (.t 76), none⟩, []⟩, ⟨9, ⟨(some 78), .load none (.t 77), none⟩, []⟩, ⟨10, ⟨(some 79), .mkfn 142 [(.t 10)], none⟩, []⟩, ⟨11, ⟨(some 80), .call (.c (.fn 24 [])) [(.t 78), (.t 79)], none⟩, []⟩, ⟨12, ⟨(some 11), .mv (.t 80), none⟩, []⟩])
  (.draw [⟨0, ⟨(some 82), .mv (.t 9), none⟩, []⟩, ⟨1, ⟨(some 83), .faddr 0 (.t 3), none⟩, []⟩, ⟨2, ⟨(some 84), .load none (.t 83), none⟩, []⟩, ⟨3, ⟨(some 85), .mv (.t 0), none⟩, []⟩, ⟨4, ⟨(some 86), .faddr 1 (.t 10), none⟩, []⟩, ⟨5, ⟨(some 87), .load none (.t 86), none⟩, []⟩, ⟨6, ⟨(some 88), .mv (.t 11), none⟩, []⟩, ⟨7, ⟨(some 89), .bin .add (.t 88) (.c (.v (.int .i64 1))), none⟩, []⟩, ⟨8, ⟨(some 90), .build [(.v (.int .i64 0)), (.v (.int .i64 0))] [(0, 1, (.t 87)), (1, 1, (.t 89))], none⟩, []⟩, ⟨10, ⟨(some 92), .faddr 1 (.t 10), none⟩, []⟩, ⟨11, ⟨(some 93), .load none (.t 92), none⟩, []⟩, ⟨9, ⟨(some 91), .call (.c (.fn 106 [])) [(.t 85), (.t 90)], none⟩, [⟨(some 82), .mv (.t 9), none⟩, ⟨(some 83), .faddr 0 (.t 3), none⟩, ⟨(some 84), .load none (.t 83), none⟩, ⟨(some 92), .faddr 1 (.t 10), none⟩, ⟨(some 93), .load none (.t 92), none⟩]⟩, ⟨12, ⟨(some 94), .call (.c (.fn 143 [])) [(.t 82), (.t 84), (.t 91), (.t 93)], none⟩, []⟩, ⟨13, ⟨(some 81), .mv (.t 94), none⟩, []⟩, ⟨14, ⟨(some 95), .extract 0 (.t 81), none⟩, []⟩, ⟨15, ⟨(some 96), .extract 1 (.t 81), none⟩, []⟩, ⟨16, ⟨(some 9), .mv (.t 95), none⟩, []⟩]))
  (.region [⟨(some 98), .mv (.t 9), none⟩, ⟨(some 99), .faddr 0 (.t 3), none⟩, ⟨(some 100), .load none (.t 99), none⟩, ⟨(some 101), .call (.c (.fn 144 [])) [(.t 98), (.t 100)], none⟩, ⟨(some 97), .mv (.t 101), none⟩, ⟨(some 102), .extract 0 (.t 97), none⟩, ⟨(some 103), .extract 1 (.t 97), none⟩, ⟨(some 9), .mv (.t 102), none⟩]))))
  (.seq (.draw [⟨0, ⟨(some 104), .mv (.t 0), none⟩, []⟩, ⟨1, ⟨(some 105), .nilck (.t 104), none⟩, []⟩, ⟨2, ⟨(some 106), .faddr 1 (.t 105), none⟩, []⟩, ⟨3, ⟨(some 107), .load none (.t 106), none⟩, []⟩, ⟨4, ⟨(some 108), .load (some 2) (.t 3), none⟩, []⟩, ⟨5, ⟨(some 109), .mv (.t 9), none⟩, []⟩, ⟨6, ⟨none, .mupdate (.many [.i, .i]) (.t 107) (.t 108) (.t 109), none⟩, []⟩])
  (.seq (.region [⟨(some 110), .mv (.t 9), none⟩, ⟨(some 4), .mv (.t 110), none⟩])
  .ret)))))))⟩
theorem a_mAt_ok : cFunc Try.prog 106 = some a_mAt := by kernel_rfl
def a_mAt1 : AFunc := ⟨2, 14, [.tmp 3],
  (.seq (.region [⟨(some 2), .box (.t 0), none⟩, ⟨(some 3), .mv (.c (.v (.bool false))), none⟩])
  (.seq (.region [⟨(some 4), .faddr 0 (.t 2), none⟩, ⟨(some 5), .load none (.t 4), none⟩, ⟨(some 6), .bin .eql (.t 5) (.c (.v (.int .i64 2))), none⟩, ⟨(some 7), .mv (.t 6), none⟩, ⟨(some 8), .faddr 2 (.t 2), some (7, true)⟩, ⟨(some 9), .load none (.t 8), some (7, true)⟩, ⟨(some 10), .faddr 2 (.t 1), some (7, true)⟩, ⟨(some 11), .load none (.t 10), some (7, true)⟩, ⟨(some 12), .bin .eql (.t 9) (.t 11), some (7, true)⟩, ⟨(some 13), .pick (.t 7) (.t 12) (.c (.v (.bool false))), none⟩, ⟨(some 3), .mv (.t 13), none⟩])
  .ret))⟩
theorem a_mAt1_ok : cFunc Try.prog 142 = some a_mAt1 := by kernel_rfl
def a_mOpen : AFunc := ⟨1, 7, [.tmp 2],
  (.seq (.region [⟨(some 1), .box (.t 0), none⟩, ⟨(some 2), .mv (.c (.v .nilp)), none⟩])
  (.seq (.region [⟨(some 3), .load (some 1) (.t 1), none⟩, ⟨(some 4), .mkmap, none⟩, ⟨(some 5), .build [(.v .zsl), (.v .nilm)] [(0, 1, (.t 3)), (1, 1, (.t 4))], none⟩, ⟨(some 6), .box (.t 5), none⟩, ⟨(some 2), .mv (.t 6), none⟩])
  .ret))⟩
theorem a_mOpen_ok : cFunc Try.prog 105 = some a_mOpen := by kernel_rfl
def a_AtM : AFunc := ⟨2, 44, [.tmp 4, .tmp 5],
  (.seq (.region [⟨(some 2), .box (.t 0), none⟩, ⟨(some 3), .box (.t 1), none⟩, ⟨(some 4), .mv (.c (.v .zsl)), none⟩, ⟨(some 5), .mv (.c (.v (.int .i64 0))), none⟩])
  (.seq (.block 0 (.seq (.region [⟨(some 7), .load (some 1) (.t 2), none⟩, ⟨(some 8), .call (.c (.fn 67 [])) [(.t 7)], none⟩, ⟨(some 9), .not (.t 8), none⟩, ⟨(some 6), .mv (.t 9), none⟩])
  (.cond (.t 6) (.seq (.region [⟨(some 4), .mv (.c (.v .zsl)), none⟩, ⟨(some 5), .mv (.c (.v (.int .i64 1))), none⟩])
  .ret)
  (.seq (.draw [⟨0, ⟨(some 11), .faddr 0 (.t 3), none⟩, []⟩, ⟨1, ⟨(some 12), .load none (.t 11), none⟩, []⟩, ⟨2, ⟨(some 13), .bin .lss (.t 12) (.c (.v (.int .i64 0))), none⟩, []⟩, ⟨3, ⟨(some 14), .mv (.t 13), none⟩, []⟩, ⟨4, ⟨(some 15), .faddr 0 (.t 3), some (14, false)⟩, []⟩, ⟨5, ⟨(some 16), .load none (.t 15), some (14, false)⟩, []⟩, ⟨6, ⟨(some 17), .faddr 0 (.t 2), some (14, false)⟩, []⟩, ⟨7, ⟨(some 18), .load none (.t 17), some (14, false)⟩, []⟩, ⟨8, ⟨(some 19), .len (.t 18), some (14, false)⟩, []⟩, ⟨9, ⟨(some 20), .bin .geq (.t 16) (.t 19), some (14, false)⟩, []⟩, ⟨10, ⟨(some 21), .pick (.t 14) (.c (.v (.bool true))) (.t 20), none⟩, []⟩, ⟨11, ⟨(some 22), .mv (.t 21), none⟩, []⟩, ⟨12, ⟨(some 23), .faddr 1 (.t 3), some (22, false)⟩, []⟩, ⟨13, ⟨(some 24), .load none (.t 23), some (22, false)⟩, []⟩, ⟨14, ⟨(some 25), .bin .lss (.t 24) (.c (.v (.int .i64 0))), some (22, false)⟩, []⟩, ⟨15, ⟨(some 26), .pick (.t 22) (.c (.v (.bool true))) (.t 25), none⟩, []⟩, ⟨16, ⟨(some 27), .mv (.t 26), none⟩, []⟩, ⟨17, ⟨(some 28), .faddr 1 (.t 3), some (27, false)⟩, []⟩, ⟨18, ⟨(some 29), .load none (.t 28), some (27, false)⟩, []⟩, ⟨19, ⟨(some 30), .faddr 0 (.t 2), some (27, false)⟩, []⟩, ⟨20, ⟨(some 31), .load none (.t 30), some (27, false)⟩, []⟩, ⟨21, ⟨(some 32), .faddr 0 (.t 3), some (27, false)⟩, []⟩, ⟨22, ⟨(some 33), .load none (.t 32), some (27, false)⟩, []⟩, ⟨23, ⟨(some 34), .iaddr 3 (.t 31) (.t 33), some (27, false)⟩, []⟩, ⟨24, ⟨(some 35), .faddr 2 (.t 34), some (27, false)⟩, []⟩, ⟨25, ⟨(some 36), .load none (.t 35), some (27, false)⟩, []⟩, ⟨26, ⟨(some 37), .len (.t 36), some (27, false)⟩, []⟩, ⟨27, ⟨(some 38), .bin .gtr (.t 29) (.t 37), some (27, false)⟩, []⟩, ⟨28, ⟨(some 39), .pick (.t 27) (.c (.v (.bool true))) (.t 38), none⟩, []⟩, ⟨29, ⟨(some 10), .mv (.t 39), none⟩, []⟩])
  (.cond (.t 10) (.seq (.region [⟨(some 4), .mv (.c (.v .zsl)), none⟩, ⟨(some 5), .mv (.c (.v (.int .i64 2))), none⟩])
  .ret)
  .skip)))))
  (.seq (.draw [⟨0, ⟨(some 40), .load (some 1) (.t 2), none⟩, []⟩, ⟨2, ⟨(some 42), .load (some 2) (.t 3), none⟩, []⟩, ⟨1, ⟨(some 41), .call (.c (.fn 105 [])) [(.t 40)], none⟩, [⟨(some 42), .load (some 2) (.t 3), none⟩]⟩, ⟨3, ⟨(some 43), .call (.c (.fn 106 [])) [(.t 41), (.t 42)], none⟩, []⟩, ⟨4, ⟨(some 4), .mv (.t 43), none⟩, []⟩, ⟨5, ⟨(some 5), .mv (.c (.v (.int .i64 0))), none⟩, []⟩])
  .ret)))⟩
theorem a_AtM_ok : cFunc Try.prog 55 = some a_AtM := by kernel_rfl

noncomputable def eMt (t : Tr) (x : Nat × Nat) : IV := .isl 1 ((mtx t x).map eRw)
noncomputable def kmL (t : Tr) (K : List (Nat × Nat)) : List (List AV) := K.map fun y => [idA y, .v (eMt t y)]
theorem keyEq_id {x y : Nat × Nat} : keyEq (.many [.i, .i]) (idA x) (idA y) = some (decide (x = y)) := by
  obtain ⟨a, c⟩ := x
  obtain ⟨d, e⟩ := y
  simp only [keyEq, idA, eqC, eqF, and2, if_true, Bool.and_true]
  congr 1
  rw [Bool.eq_iff_iff]
  simp
  omega
theorem findM_km {t : Tr} {x : Nat × Nat} : ∀ K, findM (.many [.i, .i]) (idA x) (kmL t K) = some (if x ∈ K then some (.v (eMt t x)) else none)
  | [] => rfl
  | y :: K => by
    have ih := findM_km (t := t) (x := x) K
    unfold kmL at ih ⊢
    rw [List.map_cons]
    simp only [findM]
    rw [keyEq_id]
    by_cases h : x = y
    · subst h; simp
    · rw [decide_eq_false h]
      simp only [ih, List.mem_cons, h, false_or]
def addK (K : List (Nat × Nat)) (x : Nat × Nat) : List (Nat × Nat) := if x ∈ K then K else K ++ [x]
theorem updM_km {t : Tr} {x : Nat × Nat} : ∀ K, updM (.many [.i, .i]) (idA x) (.v (eMt t x)) (kmL t K) = some (kmL t (addK K x))
  | [] => rfl
  | y :: K => by
    have ih := updM_km (t := t) (x := x) K
    have e : kmL t (y :: K) = [idA y, .v (eMt t y)] :: kmL t K := rfl
    rw [e]
    simp only [updM]
    rw [keyEq_id]
    by_cases h : x = y
    · subst h
      simp only [decide_true, addK, List.mem_cons, true_or, if_true]
      rfl
    · rw [decide_eq_false h]
      simp only [ih, Option.map_some, addK, List.mem_cons, h, false_or]
      by_cases hk : x ∈ K
      · rw [if_pos hk, if_pos hk]; rfl
      · rw [if_neg hk, if_neg hk]; rfl
theorem mtx_pp {t : Tr} (hv : Vok t) {p i : Nat} (hp : p < t.length) (hi : i ≤ (evsOf t p).length) : ent (mtx t (p, i)) p p = i := by
  rw [mtx_ent hp hp]
  unfold mE
  rw [vc_self hv hp hi, vc_self hv hp hi]
theorem tick_ok {t : Tr} (hv : Vok t) (hS : Small t) {p i : Nat} (hp : p < t.length) (hi : i ≤ (evsOf t p).length) : tickME (mtx t (p, i)) p = 0 := by
  have h1 := mtx_isM hv hS (by omega) (p, i)
  have h2 := hS.ne _ (List.getElem_mem hp)
  rw [evsOf_lt hp] at hi
  unfold tickME
  rw [h1, mtx_len, Int.toNat_natCast, mtx_pp hv hp (by rw [evsOf_lt hp]; exact hi)]
  rw [if_neg (by simp), if_neg (by omega), if_neg (by omega)]
/-- Who sent what an event receives. -/
theorem sndr_peer {t : Tr} (hv : Vok t) {x : Nat × Nat} (hx : x ∈ ids t) (hk : (evAt t x).kind = 3) : (evAt t x).peer = ((sndr t x).1 : Int) ∧ (sndr t x).1 ≠ x.1 ∧ (evAt t (sndr t x)).kind = 2 ∧ (evAt t (sndr t x)).msg = (evAt t x).msg := by
  obtain ⟨m, q, hm, _, hq, hq2, hqp⟩ := formed_open (formF_formed (hv.form x hx)) (by rw [hk]; rfl)
  have hp := hv.pair x hx
  unfold pairF at hp
  rw [hk] at hp
  simp only [show ((3 : Int) == 2) = false from rfl, show ((3 : Int) == 3) = true from rfl, if_true, Bool.false_eq_true, if_false] at hp
  rw [if_pos (by have := (hv.paired.recv hx hk).1; simpa using this)] at hp
  have hs : sendsB t q (evAt t x).msg x.1 = true := by
    cases h : sendsB t q (evAt t x).msg x.1 with
    | true => rfl
    | false => rw [hq, Int.toNat_natCast, h] at hp; simp at hp
  unfold sendsB at hs
  obtain ⟨e, he, hb⟩ := List.any_eq_true.1 hs
  simp only [Bool.and_eq_true, beq_iff_eq] at hb
  rw [evsOf_lt hq2] at he
  obtain ⟨j, hj, rfl⟩ := List.getElem_of_mem he
  have hyi : (q, j + 1) ∈ ids t := mem_ids2.2 ⟨hq2, by rw [evsOf_lt hq2]; exact hj⟩
  have hye := evAt_eq hq2 hj
  have hf := hv.paired.send hyi (by rw [hye]; exact hb.1.1)
  rw [hye, hb.1.2] at hf
  have e1 : sndr t x = (q, j + 1) := (firstOf_find hf).1
  rw [e1, hye]
  exact ⟨hq, hqp, hb.1.1, hb.1.2⟩
/-- It is the first one of its process. -/
theorem sndr_first {t : Tr} (hv : Vok t) {x : Nat × Nat} (hx : x ∈ ids t) (hk : (evAt t x).kind = 3) {q j : Nat} (hs : sndr t x = (q, j + 1)) (hq : q < t.length) (hj : j < t[q].evs.length) :
    firstP (fun k => ((t[q].evs.getD k dfEv).kind == 2) && ((t[q].evs.getD k dfEv).msg == (evAt t x).msg)) t[q].evs.length = (j : Int) := by
  obtain ⟨_, _, h3, h4⟩ := sndr_peer hv hx hk
  rw [hs, evAt_eq hq hj] at h3 h4
  refine firstP_at hj (fun k hkj => ?_) (by rw [getD_at hj, h3, h4]; simp)
  rw [getD_at (by omega), Bool.eq_false_iff]
  intro h
  simp only [Bool.and_eq_true, beq_iff_eq] at h
  have hki : (q, k + 1) ∈ ids t := mem_ids2.2 ⟨hq, by rw [evsOf_lt hq]; omega⟩
  have hke := evAt_eq hq (show k < t[q].evs.length by omega)
  have hf := hv.paired.send hki (by rw [hke]; exact h.1)
  rw [hke, h.2] at hf
  have : sndr t x = (q, k + 1) := (firstOf_find hf).1
  rw [hs] at this
  have := congrArg Prod.snd this
  simp at this
  omega
theorem recv_ok {t : Tr} (hv : Vok t) (hS : Small t) {p i : Nat} (hx : (p, i + 1) ∈ ids t) (hk : (evAt t (p, i + 1)).kind = 3) : recvE (mtx t (p, i)) p (mtx t (sndr t (p, i + 1))) (sndr t (p, i + 1)).1 = 0 := by
  obtain ⟨hp, hi⟩ := mem_ids2.1 hx
  obtain ⟨_, hne, _, _⟩ := sndr_peer hv hx hk
  have hsq := (mem_ids.1 (sndr_in hv hx hk).1).1
  have h1 := mtx_isM hv hS (by omega) (p, i)
  have h2 := mtx_isM hv hS (by omega) (sndr t (p, i + 1))
  have hM := recv_isM (p := p) (q := (sndr t (p, i + 1)).1) h1 h2 (by rw [mtx_len, mtx_len]) (by rw [mtx_len]; exact hp) (by rw [mtx_len]; exact hsq)
  have hx2 := mtx_recv hv hx hk
  have hl : (recvM (mtx t (p, i)) p (mtx t (sndr t (p, i + 1))) (sndr t (p, i + 1)).1).length = t.length := by unfold recvM; rw [fl_len, mtx_len]
  have hpp : ent (recvM (mtx t (p, i)) p (mtx t (sndr t (p, i + 1))) (sndr t (p, i + 1)).1) p p = i := by
    have h3 := mtx_pp hv hp (show i + 1 ≤ (evsOf t p).length from hi)
    rw [hx2] at h3
    have e : rowAt (tickM (recvM (mtx t (p, i)) p (mtx t (sndr t (p, i + 1))) (sndr t (p, i + 1)).1) p) p = (rowAt (recvM (mtx t (p, i)) p (mtx t (sndr t (p, i + 1))) (sndr t (p, i + 1)).1) p).set p (ent (recvM (mtx t (p, i)) p (mtx t (sndr t (p, i + 1))) (sndr t (p, i + 1)).1) p p + 1) := by
      unfold tickM; rw [hl, show rowAt (fl t.length _) p = _ from fl_getD hp, if_pos rfl]
    have hrl := (isM_open hM).2.2.1 p (by rw [hl]; exact hp)
    rw [hl] at hrl
    unfold ent at h3
    rw [e, getD_at (by rw [List.length_set, hrl]; exact hp), List.getElem_set_self] at h3
    omega
  have hne2 := hS.ne _ (List.getElem_mem hp)
  rw [evsOf_lt hp] at hi
  unfold recvE
  rw [h1, h2, mtx_len, mtx_len]
  rw [if_neg (by simp), if_neg (by omega)]
  unfold tickME
  rw [Int.toNat_natCast, Int.toNat_natCast, hM, hl, hpp]
  rw [if_neg (by simp), if_neg (by omega), if_neg (by omega)]
theorem mAt1_spec (t : Tr) (e f : Ev) (id : Nat) (b : List Row) (hid : b[id]? = some (.live 0 5 [(eEv e).map .v])) : ACalls Try.prog 142 [.agg ((eEv f).map .v), .ptr id 0 0 0] b [] (fun r b' l' => r = .v (.bool ((f.kind == 2) && (f.msg == e.msg))) ∧ b' = b ∧ l' = []) := by
  refine calls_kept a_mAt1_ok rfl (by decide) ?_
  intro B g hB hR hE hA
  simp only [KArgs] at hA
  have hBb : B = b := by rw [hB, List.append_nil]
  have hbase := hget_low (B := B) (hBb.symm ▸ hid)
  cases hk : f.kind == 2 with
  | false =>
    simp (disch := (first | decide | omega)) only [a_mAt1, hA, hbase, eEv, hk, go_sem]
    exact leave_pure (xs := [.v (.bool false)]) (.inr rfl) (by simp (disch := (first | decide | omega)) only [resVs, resV, go_sem, hA]) (by simp only [one, AVlt_v, AVlt_any, AVlt_sl, AVlt_ptr, AVlt_mp, AVlt_agg, AVlt_tup, AVlt_fn, RowsLt_nil, RowsLt_live, RowsLt_dead, List.mem_cons, List.not_mem_nil, List.forall_mem_cons, List.forall_mem_nil, or_false, false_or, forall_eq_or_imp, forall_eq, vs_lt, Nat.add_lt_add_iff_left, Nat.reduceLT, true_and, and_true, and_self, List.length_cons, List.length_nil, Nat.reduceAdd, Nat.zero_add, implies_true, false_imp_iff, lt_T, List.mem_map]) hR hB ⟨rfl, rfl, rfl⟩
  | true =>
    simp (disch := (first | decide | omega)) only [a_mAt1, hA, hbase, eEv, hk, go_sem]
    exact leave_pure (xs := [.v (.bool (f.msg == e.msg))]) (.inr rfl) (by simp (disch := (first | decide | omega)) only [resVs, resV, go_sem, hA]) (by simp only [one, AVlt_v, AVlt_any, AVlt_sl, AVlt_ptr, AVlt_mp, AVlt_agg, AVlt_tup, AVlt_fn, RowsLt_nil, RowsLt_live, RowsLt_dead, List.mem_cons, List.not_mem_nil, List.forall_mem_cons, List.forall_mem_nil, or_false, false_or, forall_eq_or_imp, forall_eq, vs_lt, Nat.add_lt_add_iff_left, Nat.reduceLT, true_and, and_true, and_self, List.length_cons, List.length_nil, Nat.reduceAdd, Nat.zero_add, implies_true, false_imp_iff, lt_T, List.mem_map]) hR hB ⟨rfl, rfl, rfl⟩
/-- A row of the caller's, or of its own: what it is after it was put anew. -/
theorem hset_same {b l : List Row} {m : Nat} {r : Row} (h : (b ++ l)[m]? = some r) : hsetB b m r = b ∧ hsetL b l m r = l := by
  unfold hsetB hsetL
  by_cases hm : m < b.length
  · rw [if_pos hm, if_pos hm]
    rw [List.getElem?_append_left hm] at h
    refine ⟨?_, rfl⟩
    apply List.ext_getElem?
    intro j
    by_cases hj : m = j
    · subst hj; rw [List.getElem?_set_self hm, h]
    · rw [List.getElem?_set_ne hj]
  · rw [if_neg hm, if_neg hm]
    rw [List.getElem?_append_right (by omega)] at h
    refine ⟨rfl, ?_⟩
    apply List.ext_getElem?
    intro j
    have hl := (List.getElem?_eq_some_iff.1 h).1
    by_cases hj : m - b.length = j
    · subst hj; rw [List.getElem?_set_self hl, h]
    · rw [List.getElem?_set_ne hj]
noncomputable def kmR (t : Tr) (K : List (Nat × Nat)) : Row := .live 0 0 (kmL t K)
/-- Where the work of an event stands in an order in which its calls go down. -/
noncomputable def rkM (t : Tr) (x : Nat × Nat) : Nat := if x.2 = 0 then 0 else rk t x + 1
def MQ (t : Tr) (b l : List Row) (m : Nat) (x : Nat × Nat) (r : AV) (b' l' : List Row) : Prop := ∃ K, r = .v (eMt t x) ∧ b' = hsetB b m (kmR t K) ∧ l' = hsetL b l m (kmR t K)
theorem RowsLt.setKm {n m : Nat} {B : List Row} {t : Tr} {K : List (Nat × Nat)} (h : RowsLt n B) : RowsLt n (B.set m (kmR t K)) := by
  intro i v' sz' els hr row hrow c hc
  by_cases hi : m = i
  · subst hi
    rw [List.getElem?_set] at hr
    simp only [if_true] at hr
    split at hr
    · cases hr
      obtain ⟨y, _, rfl⟩ := List.mem_map.1 hrow
      simp only [List.mem_cons, List.not_mem_nil, or_false] at hc
      rcases hc with rfl | rfl
      · unfold idA; simp only [AVlt_v, AVlt_any, AVlt_sl, AVlt_ptr, AVlt_mp, AVlt_agg, AVlt_tup, AVlt_fn, RowsLt_nil, RowsLt_live, RowsLt_dead, List.mem_cons, List.not_mem_nil, List.forall_mem_cons, List.forall_mem_nil, or_false, false_or, forall_eq_or_imp, forall_eq, vs_lt, Nat.add_lt_add_iff_left, Nat.reduceLT, true_and, and_true, and_self, List.length_cons, List.length_nil, Nat.reduceAdd, Nat.zero_add, implies_true, false_imp_iff, lt_T, List.mem_map]
      · exact .v _
    · cases hr
  · rw [List.getElem?_set_ne hi] at hr
    exact h i v' sz' els hr row hrow c hc
set_option maxRecDepth 20000 in
theorem mAt_spec (t : Tr) (hv : Vok t) (hS : Small t) (c m : Nat) (hcm : c ≠ m) : ∀ n (x : Nat × Nat), rkM t x = n → x.1 < t.length → x.2 ≤ (evsOf t x.1).length → ∀ (b l : List Row) (K : List (Nat × Nat)),
    (b ++ l)[c]? = some (.live 0 2 [[.v (eT t), .mp m 0]]) → (b ++ l)[m]? = some (kmR t K) →
    ACalls Try.prog 106 [.ptr c 0 0 0, idA x] b l (MQ t b l m x) := by
  intro n
  induction n using Nat.strongRecOn with
  | _ n ih =>
  rintro ⟨p, i⟩ hn hp hi b l K hc hm
  simp only at hp hi
  refine calls_kept a_mAt_ok rfl (by decide) ?_
  intro B g hB hR hE hA
  simp only [KArgs] at hA
  rw [← hB] at hc hm
  have hcl := (List.getElem?_eq_some_iff.1 hc).1
  have hml := (List.getElem?_eq_some_iff.1 hm).1
  have hgc := hget_low hc
  have hgm := hget_low hm
  have hf := findM_km (t := t) (x := (p, i)) K
  have hke := keyEq_id (x := (p, i)) (y := (p, i))
  rw [decide_eq_true rfl] at hke
  simp only [idA] at hf hke
  have h8 := hv.hi
  have hgm' : ∀ L, hget B L m = some (.live 0 0 (kmL t K)) := hgm
  by_cases hmem : (p, i) ∈ K
  · rw [if_pos hmem] at hf
    simp (disch := (first | decide | omega)) only [a_mAt, hA, idA, hgc, hgm', hf, hke, go_sem]
    have hsm := hset_same (hB ▸ hm)
    exact leave_pure (xs := [.v (eMt t (p, i))]) (.inr rfl) (by simp (disch := (first | decide | omega)) only [resVs, resV, hA, go_sem]) (by simp only [one]; exact .v _) hR hB ⟨K, rfl, hsm.1.symm, hsm.2.symm⟩
  · rw [if_neg hmem] at hf
    have hu : ∀ K, updM (.many [.i, .i]) (.agg [.v (.int .i64 p), .v (.int .i64 i)]) (.v (eMt t (p, i))) (kmL t K) = some (kmL t (addK K (p, i))) := fun K => updM_km (t := t) (x := (p, i)) K
    have hgt : ∀ K' L, hget (B.set m (kmR t K')) L m = some (.live 0 0 (kmL t K')) := fun K' L => by
      unfold hget; rw [if_pos (by rw [List.length_set]; exact hml), List.getElem?_set_self hml]; rfl
    have hgc2 : ∀ K' L, hget (B.set m (kmR t K')) L c = some (.live 0 2 [[.v (eT t), .mp m 0]]) := fun K' L => by
      unfold hget; rw [if_pos (by rw [List.length_set]; exact hcl), List.getElem?_set_ne (Ne.symm hcm), hc]
    have hsBk : ∀ K', hsetB B m (kmR t K') = B.set m (kmR t K') := fun K' => by unfold hsetB; rw [if_pos hml]
    have hsB : ∀ K', hsetB B m (.live 0 0 (kmL t K')) = B.set m (kmR t K') := hsBk
    have hsL : ∀ q L, hsetL B L m q = L := fun q L => by unfold hsetL; rw [if_pos hml]
    have hsB2k : ∀ K' K2, hsetB (B.set m (kmR t K')) m (kmR t K2) = B.set m (kmR t K2) := fun K' q => by unfold hsetB; rw [if_pos (by rw [List.length_set]; exact hml), List.set_set]
    have hsB2 : ∀ K' K2, hsetB (B.set m (kmR t K')) m (.live 0 0 (kmL t K2)) = B.set m (kmR t K2) := hsB2k
    have hsL2 : ∀ K' q L, hsetL (B.set m (kmR t K')) L m q = L := fun K' q L => by unfold hsetL; rw [if_pos (by rw [List.length_set]; exact hml)]
    have hgo : ∀ K' L k, hget (B.set m (kmR t K')) L (B.length + k) = L[k]? := fun K' L k => by
      unfold hget; rw [if_neg (by rw [List.length_set]; omega), List.length_set, Nat.add_sub_cancel_left]
    have hgo0 : ∀ K' L, hget (B.set m (kmR t K')) L B.length = L[0]? := fun K' L => hgo K' L 0
    have hso : ∀ K' L k q, hsetL (B.set m (kmR t K')) L (B.length + k) q = L.set k q := fun K' L k q => by
      unfold hsetL; rw [if_neg (by rw [List.length_set]; omega), List.length_set, Nat.add_sub_cancel_left]
    have hsoB : ∀ K' k q, hsetB (B.set m (kmR t K')) (B.length + k) q = B.set m (kmR t K') := fun K' k q => by
      unfold hsetB; rw [if_neg (by rw [List.length_set]; omega)]
    have fin : ∀ (e : List AV) (L : List Row) (K' : List (Nat × Nat)), resVs e (B.set m (kmR t K')) L a_mAt.res = some [.v (eMt t (p, i))] → Leaves a_mAt.res (MQ t b l m (p, i)) b.length .ret e (B.set m (kmR t K')) L := by
      intro e L K' hx
      have hsplit : B.set m (kmR t K') = hsetB b m (kmR t K') ++ hsetL b l m (kmR t K') := by rw [hset_eq, ← hB]
      have := leave_pure (rs := a_mAt.res) (Q := MQ t b l m (p, i)) (B := B.set m (kmR t K')) (ex := .ret) (e := e) (l := L) (.inr rfl) hx (by simp only [one]; exact .v _) (by rw [List.length_set]; exact RowsLt.setKm hR) hsplit ⟨K', rfl, rfl, rfl⟩
      rwa [hsetB_len] at this
    cases i with
    | zero =>
      have hz : zeroMR (t.length : Int) = .tup [.v (eMt t (p, 0)), .v (.int .i64 0)] := by
        unfold zeroMR eMt
        rw [if_pos (by omega), Int.toNat_natCast, mtx_zero]
      have hi0 : (((0 : Nat) : Int) == 0) = true := rfl
      simp (disch := (first | decide | omega)) only [a_mAt, hA, idA, hgc, hgm', hf, hke, hi0, eT, List.length_map, go_sem]
      refine ACalls.nxt (mZero_spec (t.length : Int) _ _) ?_
      rw [hz]
      simp (disch := (first | decide | omega)) only [hA, hgc, hgm', hke, hu, hsB, hsL, go_sem]
      exact fin _ _ (addK K (p, 0)) (by simp (disch := (first | decide | omega)) only [a_mAt, resVs, resV, hA, go_sem])
    | succ i =>
      have hx : (p, i + 1) ∈ ids t := mem_ids2.2 ⟨hp, hi⟩
      have hrk : rkM t (p, i) < n := by
        rw [← hn]
        unfold rkM
        rw [if_neg (show ¬ (i + 1 = 0) by omega)]
        by_cases h0 : i = 0
        · rw [if_pos h0]; omega
        · rw [if_neg h0]
          have := rk_lt hv hx (hb_row (p := p) (show i < i + 1 by omega) hi)
          omega
      have hi0 : (((i + 1 : Nat) : Int) == 0) = false := beq_eq_false_iff_ne.2 (by omega)
      have hc1 : ((i + 1 : Nat) : Int) - 1 = (i : Int) := by omega
      have hil : i < t[p].evs.length := by rw [evsOf_lt hp] at hi; exact hi
      have hne := hS.ne _ (List.getElem_mem hp)
      have hev := evAt_eq hp hil
      simp (disch := (first | decide | omega)) only [a_mAt, hA, idA, hgc, hgm', hf, hke, hi0, hc1, go_sem]
      refine ACalls_mono _ _ _ _ _ _ (ih _ hrk (p, i) rfl hp (show i ≤ (evsOf t p).length by omega) B _ K (by rw [List.getElem?_append_left hcl]; exact hc) (by rw [List.getElem?_append_left hml]; exact hm)) ?_
      rintro r b' l' ⟨K1, rfl, rfl, rfl⟩
      rw [hsBk, hsL]
      by_cases hk : (evAt t (p, i + 1)).kind = 3
      · have hkb : (t[p].evs[i].kind == 3) = true := by rw [← hev, hk]; rfl
        obtain ⟨hpr, hsne, hsk, hsm⟩ := sndr_peer hv hx hk
        obtain ⟨hsi, hsb⟩ := sndr_in hv hx hk
        have hmr := mtx_recv hv hx hk
        have hro := recv_ok hv hS hx hk
        have hrs : rkM t (sndr t (p, i + 1)) < n := by
          rw [← hn]
          unfold rkM
          rw [if_neg (show ¬ (i + 1 = 0) by omega)]
          have := rk_lt hv hx hsb
          split <;> omega
        obtain ⟨⟨sp, sj⟩, hsd⟩ : ∃ y, sndr t (p, i + 1) = y := ⟨_, rfl⟩
        have hfst := fun (j : Nat) (hj : sj = j + 1) h1 h2 => sndr_first hv hx hk (q := sp) (j := j) (by rw [hsd, hj]) h1 h2
        rw [hsd] at hpr hsne hsk hsm hsi hsb hmr hro hrs
        simp only at hpr hsne hmr hro
        obtain ⟨sj, rfl⟩ : ∃ k, sj = k + 1 := ⟨sj - 1, by have := mem_pos hsi; simp only at this; omega⟩
        obtain ⟨hsp, hsl⟩ := mem_ids2.1 hsi
        have hsl2 : sj < t[sp].evs.length := by rw [evsOf_lt hsp] at hsl; exact hsl
        have hfp := hfst sj rfl hsp hsl2
        have hne2 := hS.ne _ (List.getElem_mem hsp)
        rw [hev] at hpr hfp
        have hcs : (sj : Int) + 1 = ((sj + 1 : Nat) : Int) := by omega
        have hrr : recvR (mtx t (p, i)) (p : Int) (mtx t (sp, sj + 1)) (sp : Int) = .tup [.v (eMt t (p, i + 1)), .v (.int .i64 0)] := by
          unfold recvR eMt
          rw [if_pos hro, Int.toNat_natCast, Int.toNat_natCast, ← hmr]
        simp (disch := (first | decide | omega)) only [hA, hgc2, hgo, hgo0, hso, hsoB, List.length_set, hkb, hc1, eT, ePr, eEv, hpr, go_sem]
        refine ACalls.nxt (indexE_spec t[sp].evs _ [.ptr (B.length + 1) 0 0 0] (fun k => ((t[sp].evs.getD k dfEv).kind == 2) && ((t[sp].evs.getD k dfEv).msg == t[p].evs[i].msg)) hne2 _ _ (fun k hk => by
          rw [getD_at hk]
          exact mAt1_spec t t[p].evs[i] t[sp].evs[k] (B.length + 1) _ (by rw [List.getElem?_append_right (by rw [List.length_set]; omega), List.length_set, Nat.add_sub_cancel_left]; simp only [eEv, hpr, List.map_cons, List.map_nil, List.getElem?_cons_succ, List.getElem?_cons_zero]))) ?_
        rw [hfp]
        simp (disch := (first | decide | omega)) only [hA, hgc2, hgo, hgo0, hso, hsoB, List.length_set, hcs, hpr, go_sem]
        refine ACalls_mono _ _ _ _ _ _ (ih _ hrs (sp, sj + 1) rfl hsp hsl _ _ K1 (by rw [List.getElem?_append_left (by rw [List.length_set]; exact hcl), List.getElem?_set_ne (Ne.symm hcm)]; exact hc) (by rw [List.getElem?_append_left (by rw [List.length_set]; exact hml), List.getElem?_set_self hml])) ?_
        rintro r b' l' ⟨K2, rfl, rfl, rfl⟩
        rw [hsB2k, hsL2]
        simp (disch := (first | decide | omega)) only [hA, hgc2, hgo, hgo0, hso, hsoB, List.length_set, go_sem]
        refine ACalls.nxt (mReceive_spec (mtx t (p, i)) (mtx t (sp, sj + 1)) (mtx_fit hv _) (mtx_fit hv _) (p : Int) (sp : Int) _ _) ?_
        rw [hrr]
        simp (disch := (first | decide | omega)) only [hA, hgc2, hgt, hgo, hgo0, hke, hu, hsB2, hsL2, go_sem]
        exact fin _ _ (addK K2 (p, i + 1)) (by simp (disch := (first | decide | omega)) only [a_mAt, resVs, resV, hA, go_sem])
      · have hkb : (t[p].evs[i].kind == 3) = false := by rw [← hev]; exact beq_eq_false_iff_ne.2 hk
        have ht : tickMR (mtx t (p, i)) (p : Int) = .tup [.v (eMt t (p, i + 1)), .v (.int .i64 0)] := by
          unfold tickMR eMt
          rw [if_pos (tick_ok hv hS hp (by omega)), Int.toNat_natCast, mtx_tick hv hx hk]
        simp (disch := (first | decide | omega)) only [hA, hgc2, hgo, hgo0, hso, hsoB, List.length_set, hkb, hc1, eT, ePr, eEv, go_sem]
        refine ACalls.nxt (mTick_spec (mtx t (p, i)) (mtx_fit hv _) (p : Int) _ _) ?_
        rw [ht]
        simp (disch := (first | decide | omega)) only [hA, hgc2, hgt, hgo, hgo0, hke, hu, hsB2, hsL2, go_sem]
        exact fin _ _ (addK K1 (p, i + 1)) (by simp (disch := (first | decide | omega)) only [a_mAt, resVs, resV, hA, go_sem])
end Go.Proofs.Ytoaopldaleaijaa

namespace Go.Proofs.Ytoaopldaleaijaa
set_option linter.unusedVariables false
set_option linter.unusedSimpArgs false
attribute [local go_sem ↓] run_skip run_region run_draw run_seq run_block run_exit run_ret run_cond atN_app seqC_normal seqC_exit seqC_ret seqQ_normal seqQ_exit seqQ_ret blkQ_normal blkQ_exit blkQ_ret runOps_nil runOps_cons runD_nil runD_cons grdO_true grdO_false grdD_true grdD_false ifC_true ifC_false opS_val opS_call opS_two opK_app dS_val dS_call dS_two dK_app kUp_same kUp_ne
attribute [local go_sem] rechks_nil rechks_cons rechk gcase_true gcase_false ex_val ex_val0 gd_none gd_some ev_t ev_c evs_nil evs_cons evo_some evo_none hget_at hget_first hsetB_at hsetB_first hsetL_at hsetL_first ofOpt_some aop aload astore aslice aappend aiaddr aiaddrA afaddr alen alenS acopy amm acall alookup amupdate alenM comma keyEq apick binV binVB binVS isSh intOp strOp boolOp shOp eqC eqF and2 cellsOf setFrom fillA fillS rd rdI elems mk bounds AV.cell List.all_cons List.all_nil Bool.and_true Bool.true_and Bool.and_self List.length_cons List.length_nil List.length_append Nat.reduceAdd Nat.reduceSub Nat.reduceMul Nat.zero_add Nat.add_zero List.cons_append List.nil_append List.append_assoc List.append_nil List.getElem?_cons_zero List.getElem?_cons_succ List.getElem?_nil List.set_cons_zero List.set_cons_succ List.drop_zero List.drop_succ_cons List.take_zero List.take_succ_cons List.take_nil List.drop_nil List.map_cons List.map_nil Option.map_some if_true if_false Bool.false_eq_true and_self true_and and_true Nat.reduceLeDiff Nat.reduceLT Nat.le_refl Nat.reduceEqDiff ite_true ite_false beq_self_eq_true beq_true beq_false Bool.not_true Bool.not_false Bool.true_beq Bool.false_beq map_vs vs_len vs_get vs_take vs_drop vs_snoc1 vs_snoc2 vs_snoc3 vs_snoc5 vs_set1 vs_set2 vs_rep wrap_id le_T lt_T le_F lt_F leI_T ltI_T leI_F ltI_F geI gtI get_T decide_true decide_false room List.getElem?_map List.length_map List.length_take Int.toNat_natCast Nat.min_def Nat.min_self nth_kOf put_kOf put_kNo kOv_cons kOv_nil KHas KArgs List.getElem_cons_zero List.getElem_cons_succ
def a_past : AFunc := ⟨2, 58, [.tmp 4],
  (.seq (.region [⟨(some 2), .box (.t 0), none⟩, ⟨(some 3), .box (.t 1), none⟩, ⟨(some 4), .mv (.c (.v .zsl)), none⟩])
  (.seq (.region [⟨(some 9), .faddr 0 (.t 2), none⟩, ⟨(some 10), .faddr 0 (.t 9), none⟩, ⟨(some 11), .load none (.t 10), none⟩, ⟨(some 12), .len (.t 11), none⟩, ⟨(some 13), .mkslice 1 [(.v (.int .i64 0))] 8 (.t 12) (.t 12), none⟩, ⟨(some 5), .mv (.t 13), none⟩])
  (.seq (.region [⟨(some 14), .load (some 2) (.t 3), none⟩, ⟨(some 15), .bslice 2 [(.v (.int .i64 0)), (.v (.int .i64 0))] 1 [(0, (.t 14))], none⟩, ⟨(some 6), .mv (.t 15), none⟩])
  (.seq (.block 0 (.loop (.seq (.seq (.region [⟨(some 16), .mv (.t 6), none⟩, ⟨(some 17), .len (.t 16), none⟩, ⟨(some 18), .bin .gtr (.t 17) (.c (.v (.int .i64 0))), none⟩])
  (.cond (.t 18) .skip
  (.exit 0)))
  (.block 1 (.seq (.region [⟨(some 19), .mv (.t 6), none⟩, ⟨(some 20), .iaddr 2 (.t 19) (.c (.v (.int .i64 0))), none⟩, ⟨(some 21), .load (some 2) (.t 20), none⟩, ⟨(some 7), .alloc [(.v (.int .i64 0)), (.v (.int .i64 0))], none⟩, ⟨none, .store 2 (.t 7) (.t 21), none⟩])
  (.seq (.region [⟨(some 22), .mv (.t 6), none⟩, ⟨(some 23), .slice 2 (.t 22) (some (.c (.v (.int .i64 1)))) none, none⟩, ⟨(some 6), .mv (.t 23), none⟩])
  (.seq (.seq (.draw [⟨0, ⟨(some 24), .mv (.t 5), none⟩, []⟩, ⟨1, ⟨(some 25), .faddr 0 (.t 7), none⟩, []⟩, ⟨2, ⟨(some 26), .load none (.t 25), none⟩, []⟩, ⟨3, ⟨(some 27), .iaddr 1 (.t 24) (.t 26), none⟩, []⟩, ⟨4, ⟨(some 28), .load none (.t 27), none⟩, []⟩, ⟨5, ⟨(some 29), .faddr 1 (.t 7), none⟩, []⟩, ⟨6, ⟨(some 30), .load none (.t 29), none⟩, []⟩, ⟨7, ⟨(some 31), .bin .geq (.t 28) (.t 30), none⟩, []⟩])
  (.cond (.t 31) (.exit 1)
  .skip))
  (.seq (.seq (.region [⟨(some 32), .faddr 1 (.t 7), none⟩, ⟨(some 33), .load none (.t 32), none⟩, ⟨(some 8), .mv (.t 33), none⟩])
  (.block 2 (.loop (.seq (.seq (.region [⟨(some 34), .mv (.t 8), none⟩, ⟨(some 35), .mv (.t 5), none⟩, ⟨(some 36), .faddr 0 (.t 7), none⟩, ⟨(some 37), .load none (.t 36), none⟩, ⟨(some 38), .iaddr 1 (.t 35) (.t 37), none⟩, ⟨(some 39), .load none (.t 38), none⟩, ⟨(some 40), .bin .gtr (.t 34) (.t 39), none⟩])
  (.cond (.t 40) .skip
  (.exit 2)))
  (.seq (.block 3 (.region [⟨(some 43), .mv (.t 6), none⟩, ⟨(some 44), .load (some 3) (.t 2), none⟩, ⟨(some 45), .faddr 0 (.t 7), none⟩, ⟨(some 46), .load none (.t 45), none⟩, ⟨(some 47), .mv (.t 8), none⟩, ⟨(some 48), .build [(.v (.int .i64 0)), (.v (.int .i64 0))] [(0, 1, (.t 46)), (1, 1, (.t 47))], none⟩, ⟨(some 49), .call (.c (.fn 133 [])) [(.t 44), (.t 48)], none⟩, ⟨(some 50), .append 2 16 (.t 43) (.t 49), none⟩, ⟨(some 6), .mv (.t 50), none⟩]))
  (.region [⟨(some 41), .mv (.t 8), none⟩, ⟨(some 42), .bin .sub (.t 41) (.c (.v (.int .i64 1))), none⟩, ⟨(some 8), .mv (.t 42), none⟩]))))))
  (.region [⟨(some 51), .mv (.t 5), none⟩, ⟨(some 52), .faddr 0 (.t 7), none⟩, ⟨(some 53), .load none (.t 52), none⟩, ⟨(some 54), .faddr 1 (.t 7), none⟩, ⟨(some 55), .load none (.t 54), none⟩, ⟨(some 56), .iaddr 1 (.t 51) (.t 53), none⟩, ⟨none, .store 1 (.t 56) (.t 55), none⟩])))))))))
  (.seq (.region [⟨(some 57), .mv (.t 5), none⟩, ⟨(some 4), .mv (.t 57), none⟩])
  .ret)))))⟩
theorem a_past_ok : cFunc Try.prog 80 = some a_past := by kernel_rfl
def r_past0 : List (Nat × Nat) := [(6, 8), (16, 56)]
def r_past1 : List (Nat × Nat) := [(6, 6), (8, 8), (34, 50)]
def a_before : AFunc := ⟨3, 22, [.tmp 6],
  (.seq (.region [⟨(some 3), .box (.t 0), none⟩, ⟨(some 4), .box (.t 1), none⟩, ⟨(some 5), .box (.t 2), none⟩, ⟨(some 6), .mv (.c (.v (.bool false))), none⟩])
  (.seq (.draw [⟨0, ⟨(some 7), .load (some 2) (.t 4), none⟩, []⟩, ⟨1, ⟨(some 8), .load (some 2) (.t 5), none⟩, []⟩, ⟨2, ⟨(some 9), .eqs true [.i, .i] (.t 7) (.t 8), none⟩, []⟩, ⟨3, ⟨(some 10), .mv (.t 9), none⟩, []⟩, ⟨4, ⟨(some 11), .load (some 3) (.t 3), some (10, true)⟩, []⟩, ⟨5, ⟨(some 12), .load (some 2) (.t 5), some (10, true)⟩, []⟩, ⟨7, ⟨(some 14), .faddr 0 (.t 4), some (10, true)⟩, []⟩, ⟨8, ⟨(some 15), .load none (.t 14), some (10, true)⟩, []⟩, ⟨11, ⟨(some 18), .faddr 1 (.t 4), some (10, true)⟩, []⟩, ⟨12, ⟨(some 19), .load none (.t 18), some (10, true)⟩, []⟩, ⟨6, ⟨(some 13), .call (.c (.fn 80 [])) [(.t 11), (.t 12)], some (10, true)⟩, [⟨(some 14), .faddr 0 (.t 4), some (10, true)⟩, ⟨(some 15), .load none (.t 14), some (10, true)⟩, ⟨(some 18), .faddr 1 (.t 4), some (10, true)⟩, ⟨(some 19), .load none (.t 18), some (10, true)⟩]⟩, ⟨9, ⟨(some 16), .iaddr 1 (.t 13) (.t 15), some (10, true)⟩, []⟩, ⟨10, ⟨(some 17), .load none (.t 16), some (10, true)⟩, []⟩, ⟨13, ⟨(some 20), .bin .geq (.t 17) (.t 19), some (10, true)⟩, []⟩, ⟨14, ⟨(some 21), .pick (.t 10) (.t 20) (.c (.v (.bool false))), none⟩, []⟩, ⟨15, ⟨(some 6), .mv (.t 21), none⟩, []⟩])
  .ret))⟩
theorem a_before_ok : cFunc Try.prog 81 = some a_before := by kernel_rfl

theorem lft_zero {t : Tr} : lft t (fun _ => 0) = (ids t).length := by
  unfold lft ids
  have : ∀ n, lftN (fun p => (evsOf t p).length) (fun _ => 0) n = ((List.range n).flatMap (idsOf t)).length := by
    intro n
    induction n with
    | zero => rfl
    | succ n ih =>
      unfold lftN
      rw [ih, List.range_succ, List.flatMap_append, List.length_append]
      simp [idsOf]
  exact this _
def cntR (t : Tr) (c : Nat → Nat) : List (List IV) := fl t.length fun q => [.int .i64 (c q)]
/-- The rows of the search. -/
def paR (t : Tr) (s r : Nat) (x : Nat × Nat) (c : Nat → Nat) (v : Nat) (els : List (Nat × Nat)) : List Row :=
  [.live 0 3 [[.v (eT t), .mp s 0, .mp r 0]], .live 0 2 [[.v (.int .i64 x.1), .v (.int .i64 x.2)]], .live 0 1 (vs (cntR t c)), .live v 2 (vs (els.map eId))]
theorem paR_lt {t : Tr} {s r m v : Nat} {x : Nat × Nat} {c : Nat → Nat} {els : List (Nat × Nat)} {T : List Row} {n : Nat} (hs : s < n) (hr : r < n) (h : n + 4 ≤ m) (hT : RowsLt m T) : RowsLt m (paR t s r x c v els ++ T) := by
  have hp : ∀ (rows : List (List IV)) row, row ∈ vs rows → ∀ c ∈ row, AVlt m c := by
    intro rows row h c hc
    obtain ⟨r0, _, rfl⟩ := List.mem_map.1 h
    obtain ⟨x0, _, rfl⟩ := List.mem_map.1 hc
    exact .v _
  intro id ver sz els hr row hrow c hc
  match id, hr with
  | 0, hr => cases hr; simp at hrow; subst hrow; simp at hc; rcases hc with rfl | rfl | rfl <;> first | exact .v _ | exact .mp _ _ (by omega)
  | 1, hr => cases hr; simp at hrow; subst hrow; simp at hc; rcases hc with rfl | rfl <;> exact .v _
  | 2, hr => cases hr; exact hp _ row hrow c hc
  | 3, hr => cases hr; exact hp _ row hrow c hc
  | id + 4, hr => exact hT id ver sz _ hr row hrow c hc
theorem paR_len {t : Tr} {s r v : Nat} {x : Nat × Nat} {c : Nat → Nat} {els : List (Nat × Nat)} : (paR t s r x c v els).length = 4 := rfl
structure PSt where
  c : Nat → Nat
  v : Nat
  els : List (Nat × Nat)
  off : Nat
def POk (t : Tr) (x : Nat × Nat) (i : PSt) : Prop := i.off ≤ i.els.length ∧ Pst t x i.c (i.els.drop i.off) ∧ 3 * lft t i.c + (i.els.length - i.off) ≤ 3 * (ids t).length + 1
theorem past_run (t : Tr) (hv : Vok t) (hS : Small t) (hC : (ids t).length ≤ 1000000) (s r : Nat) (x : Nat × Nat) (hx : x ∈ ids t) (b l : List Row)
    (hs : (b ++ l)[s]? = some (.live 0 0 (mpL t 2 (ids t)))) (hr : (b ++ l)[r]? = some (.live 0 0 (mpL t 3 (ids t)))) :
    ACalls Try.prog 80 [kA t s r, idA x] b l (fun r b' l' => r = .v (.isl 1 ((vcs t x).map eI)) ∧ b' = b ∧ l' = l) := by
  refine calls_kept a_past_ok rfl (by decide) ?_
  intro B g hB hR hE hA
  simp only [KArgs] at hA
  rw [← hB] at hs hr
  have hsl := (List.getElem?_eq_some_iff.1 hs).1
  have hrl := (List.getElem?_eq_some_iff.1 hr).1
  have hnp := hS.np
  simp (disch := (first | decide | omega)) only [a_past, kA, idA, eT, hA, List.length_map, go_sem]
  refine loop_kept (ι := PSt) r_past0 (fun i => [(6, .sl (B.length + 3) i.v i.off (i.els.length - i.off))]) 4 (fun i => paR t s r x i.c i.v i.els)
    (POk t x) (fun i => 3 * lft t i.c + (i.els.length - i.off)) ⟨fun _ => 0, 0, [x], 0⟩ ⟨by simp, .start hx, by rw [lft_zero]; simp⟩ (by (repeat (first | exact hE.mono (by omega) | refine KLt.up ?_ (by simp (disch := omega) only [AVlt_v, AVlt_any, AVlt_sl, AVlt_ptr, AVlt_mp, AVlt_agg, AVlt_tup, AVlt_fn, RowsLt_nil, RowsLt_live, RowsLt_dead, List.mem_cons, List.not_mem_nil, List.forall_mem_cons, List.forall_mem_nil, or_false, false_or, forall_eq_or_imp, forall_eq, vs_lt, Nat.add_lt_add_iff_left, Nat.reduceLT, true_and, and_true, and_self, List.length_cons, List.length_nil, Nat.reduceAdd, Nat.zero_add, implies_true, false_imp_iff, lt_T, List.mem_map])))) (by ((try simp (disch := decide) only [hA, go_sem]) <;> (repeat' (first | exact trivial | refine And.intro ?_ ?_)) <;> (first | rfl | (congr 2; omega)))) (fun e => by
      have e1 : List.replicate t.length [IV.int .i64 0] = cntR t fun _ => 0 := by unfold cntR; rw [fl_const]; rfl
      rw [e1]
      exact Weak.refl _ _ _) ?_
  rintro g1 hE1 hEE1 hg1 ⟨c, v, els, off⟩ ⟨hoff, hP, hM⟩
  simp only at hoff hP hM
  by_cases hlt : off < els.length
  · have hd : decide (((els.length - off : Nat) : Int) > 0) = true := decide_eq_true (by omega)
    obtain ⟨⟨yp, yi⟩, hy⟩ : ∃ y, y = els[off] := ⟨_, rfl⟩
    have hdr : els.drop off = (yp, yi) :: els.drop (off + 1) := by rw [hy]; exact List.drop_eq_getElem_cons hlt
    rw [hdr] at hP
    have hq := (hP.q (yp, yi) (by simp)).1
    obtain ⟨hyp, hy1, hy2⟩ := mem_ids.1 hq
    simp only at hyp hy1 hy2
    have hye : (vs (els.map eId))[off]? = some [.v (.int .i64 yp), .v (.int .i64 yi)] := by
      unfold vs; rw [List.getElem?_map, List.getElem?_map, List.getElem?_eq_getElem hlt, ← hy]; rfl
    have hce : (vs (cntR t c))[yp]? = some [.v (.int .i64 (c yp))] := by
      unfold vs cntR; rw [List.getElem?_map, fl_get hyp]; rfl
    have hz0 : Int.toNat 0 = 0 := rfl
    have hy' := hy.symm
    have hl1 : els.length - off - 1 = els.length - (off + 1) := by omega
    by_cases hge : yi ≤ c yp
    · have hd2 : decide ((c yp : Int) ≥ (yi : Int)) = true := decide_eq_true (by omega)
      simp (disch := (first | decide | omega)) only [hA, hg1, paR, hd, hye, hce, hl1, hd2, hz0, Nat.add_zero, hy', eId, go_sem]
      refine ⟨⟨c, v, els, off + 1⟩, ⟨by simp only; omega, hP.skip hge, by simp only; omega⟩, by simp only; omega, ?_⟩
      exact Weak.kround (l1 := paR t s r x c v els) (p := r_past0) (k := 4) (by ((repeat refine (kAny_up rfl).trans ?_); exact hEE1)) (by ((try simp (disch := decide) only [hA, go_sem]) <;> (repeat' (first | exact trivial | refine And.intro ?_ ?_)) <;> (first | rfl | (congr 2; omega)))) rfl hE1 (by simp [paR]) (by simp (disch := omega) only [KOvLt, paR_len, AVlt_v, AVlt_any, AVlt_sl, AVlt_ptr, AVlt_mp, AVlt_agg, AVlt_tup, AVlt_fn, RowsLt_nil, RowsLt_live, RowsLt_dead, List.mem_cons, List.not_mem_nil, List.forall_mem_cons, List.forall_mem_nil, or_false, false_or, forall_eq_or_imp, forall_eq, vs_lt, Nat.add_lt_add_iff_left, Nat.reduceLT, true_and, and_true, and_self, List.length_cons, List.length_nil, Nat.reduceAdd, Nat.zero_add, implies_true, false_imp_iff, lt_T, List.mem_map]) hR (paR_lt (T := []) hsl hrl (by simp [paR]) RowsLt_nil)
    · have hd2 : decide ((c yp : Int) ≥ (yi : Int)) = false := decide_eq_false (by omega)
      have hyl : yi ≤ (evsOf t yp).length := by rw [evsOf_lt hyp]; exact hy2
      have hne := hS.ne _ (List.getElem_mem hyp)
      have hd0 : els.drop (off + 1) ++ bkL t yp yi yi = els.drop (off + 1) := by rw [bkL_nil, List.append_nil]
      simp (disch := (first | decide | omega)) only [hA, hg1, paR, hd, hye, hce, hl1, hd2, hz0, Nat.add_zero, hy', eId, go_sem]
      refine loop_kept (ι := Nat × Nat × List (Nat × Nat) × Nat) r_past1 (fun i => [(8, .v (.int .i64 i.1)), (6, .sl (B.length + 3) i.2.1 i.2.2.2 (i.2.2.1.length - i.2.2.2))]) 5 (fun i => paR t s r x c i.2.1 i.2.2.1 ++ [.live 0 2 [[.v (.int .i64 yp), .v (.int .i64 yi)]]])
        (fun i => c yp ≤ i.1 ∧ i.1 ≤ yi ∧ i.2.2.2 ≤ i.2.2.1.length ∧ i.2.2.1.drop i.2.2.2 = els.drop (off + 1) ++ bkL t yp yi i.1) (fun i => i.1 - c yp) (yi, v, els, off + 1) ⟨by omega, Nat.le_refl _, hlt, hd0.symm⟩ (by (repeat (first | exact hE1.mono (by omega) | refine KLt.up ?_ (by simp (disch := omega) only [AVlt_v, AVlt_any, AVlt_sl, AVlt_ptr, AVlt_mp, AVlt_agg, AVlt_tup, AVlt_fn, RowsLt_nil, RowsLt_live, RowsLt_dead, List.mem_cons, List.not_mem_nil, List.forall_mem_cons, List.forall_mem_nil, or_false, false_or, forall_eq_or_imp, forall_eq, vs_lt, Nat.add_lt_add_iff_left, Nat.reduceLT, true_and, and_true, and_self, List.length_cons, List.length_nil, Nat.reduceAdd, Nat.zero_add, implies_true, false_imp_iff, lt_T, List.mem_map])))) (by ((try simp (disch := decide) only [hA, hg1, go_sem]) <;> (repeat' (first | exact trivial | refine And.intro ?_ ?_)) <;> (first | rfl | (congr 2; omega)))) (fun e => Weak.refl _ _ _) ?_
      rintro g2 hE2 hEE2 hg2 ⟨i, v2, els2, off2⟩ ⟨hi1, hi2, hi3, hi4⟩
      simp only at hi1 hi2 hi3 hi4
      have hlen : els2.length - off2 = els.length - (off + 1) + (bkL t yp yi i).length := by
        have := congrArg List.length hi4
        rwa [List.length_drop, List.length_append, List.length_drop] at this
      have hbl := bkL_len (t := t) (p := yp) hi2
      have hst := lft_step (t := t) hyp (c := c) (v := yi) (by omega) hyl
      by_cases hil : c yp < i
      · have hd3 : decide ((i : Int) > (c yp : Int)) = true := decide_eq_true (by omega)
        obtain ⟨i, rfl⟩ : ∃ k, i = k + 1 := ⟨i - 1, by omega⟩
        have hci : ((i + 1 : Nat) : Int) - 1 = (i : Int) := by omega
        have hmem : (yp, i + 1) ∈ ids t := mem_ids2.2 ⟨hyp, by omega⟩
        have hbk := fun L => kback_spec t hv hS s r (yp, i + 1) hmem B L (by rw [List.getElem?_append_left hsl]; exact hs)
        have hb2 := backL_len t (yp, i + 1)
        simp (disch := (first | decide | omega)) only [hA, hg1, hg2, paR, hce, hd3, hci, go_sem]
        refine ACalls.nxt (hbk _) ?_
        have htk : vs (List.take (els2.length - off2) (List.drop off2 (els2.map eId))) ++ vs ((backL t (yp, i + 1)).map eId) = vs ((els2.drop off2 ++ backL t (yp, i + 1)).map eId) := by
          unfold vs
          rw [← List.map_drop, List.take_of_length_le (by simp), List.map_append, List.map_append]
        simp (disch := (first | decide | omega)) only [hA, hg1, hg2, paR, hce, hd3, hci, htk, List.length_map, go_sem]
        refine ⟨(i, v2 + 1, els2.drop off2 ++ backL t (yp, i + 1), 0), ⟨by simp only; omega, by simp only; omega, by simp, ?_⟩, by simp only; omega, ?_⟩
        · simp only [List.drop_zero]
          rw [hi4, bkL_step (t := t) (p := yp) (n := yi) (i := i) (by omega), List.append_assoc]
        · exact Weak.kround (junk := []) (p := r_past1) (k := 5) (by ((repeat refine (kAny_up rfl).trans ?_); exact hEE2)) (by ((try simp (disch := decide) only [hA, List.length_append, List.length_drop, Nat.sub_zero, go_sem]) <;> (repeat' (first | exact trivial | refine And.intro ?_ ?_)) <;> (first | rfl | (congr 2; omega)))) (List.append_nil _).symm hE2 (by simp) (by simp (disch := omega) only [KOvLt, List.length_append, List.length_cons, List.length_nil, paR_len, AVlt_v, AVlt_any, AVlt_sl, AVlt_ptr, AVlt_mp, AVlt_agg, AVlt_tup, AVlt_fn, RowsLt_nil, RowsLt_live, RowsLt_dead, List.mem_cons, List.not_mem_nil, List.forall_mem_cons, List.forall_mem_nil, or_false, false_or, forall_eq_or_imp, forall_eq, vs_lt, Nat.add_lt_add_iff_left, Nat.reduceLT, true_and, and_true, and_self, List.length_cons, List.length_nil, Nat.reduceAdd, Nat.zero_add, implies_true, false_imp_iff, lt_T, List.mem_map]) hR (paR_lt (T := [_]) hsl hrl (by simp) (by simp only [AVlt_v, AVlt_any, AVlt_sl, AVlt_ptr, AVlt_mp, AVlt_agg, AVlt_tup, AVlt_fn, RowsLt_nil, RowsLt_live, RowsLt_dead, List.mem_cons, List.not_mem_nil, List.forall_mem_cons, List.forall_mem_nil, or_false, false_or, forall_eq_or_imp, forall_eq, vs_lt, Nat.add_lt_add_iff_left, Nat.reduceLT, true_and, and_true, and_self, List.length_cons, List.length_nil, Nat.reduceAdd, Nat.zero_add, implies_true, false_imp_iff, lt_T, List.mem_map]))
      · have hd3 : decide ((i : Int) > (c yp : Int)) = false := decide_eq_false (by omega)
        obtain rfl : i = c yp := by omega
        have hcs : (cntR t c).set yp [.int .i64 (yi : Int)] = cntR t (fUp c yp yi) := by
          unfold cntR
          rw [fl_set]
          refine fl_congr (fun q _ => ?_)
          by_cases hq : q = yp
          · subst hq; rw [fUp_same, fUp_same]
          · rw [fUp_ne hq, fUp_ne hq]
        simp (disch := (first | decide | omega)) only [hA, hg1, hg2, paR, hce, hd3, go_sem]
        refine ⟨⟨fUp c yp yi, v2, els2, off2⟩, ⟨hi3, ?_, by simp only; omega⟩, by simp only; omega, ?_⟩
        · simp only
          rw [hi4]
          exact hP.mark hv (by omega)
        · rw [hcs]
          exact Weak.kround (l1 := paR t s r x (fUp c yp yi) v2 els2) (p := r_past0) (k := 4) (by ((repeat refine (kAny_up rfl).trans ?_); refine (kAny_sub hg2 (kIn_sub rfl)).trans ?_; (repeat refine (kAny_up rfl).trans ?_); exact hEE1)) (by ((try simp (disch := decide) only [hA, go_sem]) <;> (repeat' (first | exact trivial | refine And.intro ?_ ?_)) <;> (first | rfl | (congr 2; omega)))) rfl hE1 (by simp [paR]) (by simp (disch := omega) only [KOvLt, paR_len, AVlt_v, AVlt_any, AVlt_sl, AVlt_ptr, AVlt_mp, AVlt_agg, AVlt_tup, AVlt_fn, RowsLt_nil, RowsLt_live, RowsLt_dead, List.mem_cons, List.not_mem_nil, List.forall_mem_cons, List.forall_mem_nil, or_false, false_or, forall_eq_or_imp, forall_eq, vs_lt, Nat.add_lt_add_iff_left, Nat.reduceLT, true_and, and_true, and_self, List.length_cons, List.length_nil, Nat.reduceAdd, Nat.zero_add, implies_true, false_imp_iff, lt_T, List.mem_map]) hR (paR_lt (T := []) hsl hrl (by simp [paR]) RowsLt_nil)
  · have hd : decide (((els.length - off : Nat) : Int) > 0) = false := decide_eq_false (by omega)
    simp (disch := (first | decide | omega)) only [hA, hg1, paR, hd, go_sem]
    have hz : els.drop off = [] := List.drop_eq_nil_of_le (by omega)
    rw [hz] at hP
    have hcn : cntR t c = (vcs t x).map eI := by
      unfold cntR vcs
      rw [fl_map]
      refine fl_congr (fun q hq => ?_)
      rw [hP.done hv hx hq]; rfl
    rw [hcn]
    exact leave_frz (i := 2) (ver := 0) (sz := 1) (n := t.length) (rows := (vcs t x).map eI) (.inr rfl) (by simp (disch := (first | decide | omega)) only [resVs, resV, hA, hg1, go_sem]) rfl (by simp [vcs, fl_len]) hR hB ⟨rfl, rfl, rfl⟩
/-- Whether an event happened before another one, by counts. -/
noncomputable def befB (t : Tr) (x y : Nat × Nat) : Bool := !(decide (x = y)) && decide (x.2 ≤ vc t y x.1)
theorem befB_iff {t : Tr} (hv : Vok t) {x y : Nat × Nat} (hx : x ∈ ids t) (hy : y ∈ ids t) : befB t x y = true ↔ Hb t x y := by
  obtain ⟨p, i⟩ := x
  obtain ⟨i, rfl⟩ : ∃ k, i = k + 1 := ⟨i - 1, by have := mem_pos hx; simp only at this; omega⟩
  obtain ⟨hp, hi⟩ := mem_ids2.1 hx
  unfold befB
  simp only [Bool.and_eq_true, Bool.not_eq_true', decide_eq_false_iff_not, decide_eq_true_eq]
  rw [show (i + 1 ≤ vc t y p) ↔ Le t (p, i + 1) y from (vc_iff hi).symm]
  constructor
  · rintro ⟨h1, h2⟩; exact h2.resolve_left h1
  · intro h
    refine ⟨fun he => ?_, .inr h⟩
    subst he
    have := rk_lt hv hx h; omega
theorem before_spec (t : Tr) (hv : Vok t) (hS : Small t) (hC : (ids t).length ≤ 1000000) (s r : Nat) (x y : Nat × Nat) (hx : x ∈ ids t) (hy : y ∈ ids t) (b l : List Row)
    (hs : (b ++ l)[s]? = some (.live 0 0 (mpL t 2 (ids t)))) (hr : (b ++ l)[r]? = some (.live 0 0 (mpL t 3 (ids t)))) :
    ACalls Try.prog 81 [kA t s r, idA x, idA y] b l (fun r b' l' => r = .v (.bool (befB t x y)) ∧ b' = b ∧ l' = l) := by
  refine calls_kept a_before_ok rfl (by decide) ?_
  intro B g hB hR hE hA
  simp only [KArgs] at hA
  rw [← hB] at hs hr
  have hsl := (List.getElem?_eq_some_iff.1 hs).1
  have hrl := (List.getElem?_eq_some_iff.1 hr).1
  obtain ⟨p, i⟩ := x
  obtain ⟨q, j⟩ := y
  obtain ⟨hp, hi⟩ := mem_ids.1 hx
  simp only at hp
  have hq : Unit → (((p : Int) == (q : Int)) && ((i : Int) == (j : Int))) = decide ((p, i) = (q, j)) := fun (_ : Unit) => by
    rw [Bool.eq_iff_iff]; simp; omega
  have hgt : ((vcs t (q, j)).map eI)[p]? = some [.int .i64 (vc t (q, j) p)] := by
    unfold vcs; rw [List.getElem?_map, fl_get hp]; rfl
  by_cases he : (p, i) = (q, j)
  · have hee : (((p : Int) == (q : Int)) && ((i : Int) == (j : Int))) = true := by rw [hq ()]; exact decide_eq_true he
    simp (disch := (first | decide | omega)) only [a_before, kA, idA, eT, hA, hee, go_sem]
    exact leave_pure (xs := [.v (.bool false)]) (.inr rfl) (by simp (disch := (first | decide | omega)) only [resVs, resV, go_sem, hA]) (by simp only [one, AVlt_v, AVlt_any, AVlt_sl, AVlt_ptr, AVlt_mp, AVlt_agg, AVlt_tup, AVlt_fn, RowsLt_nil, RowsLt_live, RowsLt_dead, List.mem_cons, List.not_mem_nil, List.forall_mem_cons, List.forall_mem_nil, or_false, false_or, forall_eq_or_imp, forall_eq, vs_lt, Nat.add_lt_add_iff_left, Nat.reduceLT, true_and, and_true, and_self, List.length_cons, List.length_nil, Nat.reduceAdd, Nat.zero_add, implies_true, false_imp_iff, lt_T, List.mem_map]) hR hB ⟨by rw [show befB t (p, i) (q, j) = false by unfold befB; rw [decide_eq_true he]; rfl]; rfl, rfl, rfl⟩
  · have hee : (((p : Int) == (q : Int)) && ((i : Int) == (j : Int))) = false := by rw [hq ()]; exact decide_eq_false he
    have hpa := fun L => past_run t hv hS hC s r (q, j) hy B L (by rw [List.getElem?_append_left hsl]; exact hs) (by rw [List.getElem?_append_left hrl]; exact hr)
    simp (disch := (first | decide | omega)) only [a_before, kA, idA, eT, hA, hee, go_sem]
    refine ACalls.nxt (hpa _) ?_
    have hb : befB t (p, i) (q, j) = decide ((i : Int) ≤ (vc t (q, j) p : Int)) := by unfold befB; rw [decide_eq_false he]; simp
    rw [hb]
    simp (disch := (first | decide | omega)) only [hA, hgt, go_sem]
    exact leave_pure (xs := [.v (.bool (decide ((i : Int) ≤ (vc t (q, j) p : Int))))]) (.inr rfl) (by simp (disch := (first | decide | omega)) only [resVs, resV, go_sem, hA]) (by simp only [one, AVlt_v, AVlt_any, AVlt_sl, AVlt_ptr, AVlt_mp, AVlt_agg, AVlt_tup, AVlt_fn, RowsLt_nil, RowsLt_live, RowsLt_dead, List.mem_cons, List.not_mem_nil, List.forall_mem_cons, List.forall_mem_nil, or_false, false_or, forall_eq_or_imp, forall_eq, vs_lt, Nat.add_lt_add_iff_left, Nat.reduceLT, true_and, and_true, and_self, List.length_cons, List.length_nil, Nat.reduceAdd, Nat.zero_add, implies_true, false_imp_iff, lt_T, List.mem_map]) hR hB ⟨rfl, rfl, rfl⟩
end Go.Proofs.Ytoaopldaleaijaa

namespace Go.Proofs.Ytoaopldaleaijaa
set_option linter.unusedVariables false
set_option linter.unusedSimpArgs false
attribute [local go_sem ↓] run_skip run_region run_draw run_seq run_block run_exit run_ret run_cond atN_app seqC_normal seqC_exit seqC_ret seqQ_normal seqQ_exit seqQ_ret blkQ_normal blkQ_exit blkQ_ret runOps_nil runOps_cons runD_nil runD_cons grdO_true grdO_false grdD_true grdD_false ifC_true ifC_false opS_val opS_call opS_two opK_app dS_val dS_call dS_two dK_app kUp_same kUp_ne
attribute [local go_sem] rechks_nil rechks_cons rechk gcase_true gcase_false ex_val ex_val0 gd_none gd_some ev_t ev_c evs_nil evs_cons evo_some evo_none hget_at hget_first hsetB_at hsetB_first hsetL_at hsetL_first ofOpt_some aop aload astore aslice aappend aiaddr aiaddrA afaddr alen alenS acopy amm acall alookup amupdate alenM comma keyEq apick binV binVB binVS isSh intOp strOp boolOp shOp eqC eqF and2 cellsOf setFrom fillA fillS rd rdI elems mk bounds AV.cell List.all_cons List.all_nil Bool.and_true Bool.true_and Bool.and_self List.length_cons List.length_nil List.length_append Nat.reduceAdd Nat.reduceSub Nat.reduceMul Nat.zero_add Nat.add_zero List.cons_append List.nil_append List.append_assoc List.append_nil List.getElem?_cons_zero List.getElem?_cons_succ List.getElem?_nil List.set_cons_zero List.set_cons_succ List.drop_zero List.drop_succ_cons List.take_zero List.take_succ_cons List.take_nil List.drop_nil List.map_cons List.map_nil Option.map_some if_true if_false Bool.false_eq_true and_self true_and and_true Nat.reduceLeDiff Nat.reduceLT Nat.le_refl Nat.reduceEqDiff ite_true ite_false beq_self_eq_true beq_true beq_false Bool.not_true Bool.not_false Bool.true_beq Bool.false_beq map_vs vs_len vs_get vs_take vs_drop vs_snoc1 vs_snoc2 vs_snoc3 vs_snoc5 vs_set1 vs_set2 vs_rep wrap_id le_T lt_T le_F lt_F leI_T ltI_T leI_F ltI_F geI gtI get_T decide_true decide_false room List.getElem?_map List.length_map List.length_take Int.toNat_natCast Nat.min_def Nat.min_self nth_kOf put_kOf put_kNo kOv_cons kOv_nil KHas KArgs List.getElem_cons_zero List.getElem_cons_succ
def a_exists : AFunc := ⟨2, 34, [.tmp 4],
  (.seq (.region [⟨(some 2), .box (.t 0), none⟩, ⟨(some 3), .box (.t 1), none⟩, ⟨(some 4), .mv (.c (.v (.bool false))), none⟩])
  (.seq (.draw [⟨0, ⟨(some 5), .faddr 0 (.t 3), none⟩, []⟩, ⟨1, ⟨(some 6), .load none (.t 5), none⟩, []⟩, ⟨2, ⟨(some 7), .bin .geq (.t 6) (.c (.v (.int .i64 0))), none⟩, []⟩, ⟨3, ⟨(some 8), .mv (.t 7), none⟩, []⟩, ⟨4, ⟨(some 9), .faddr 0 (.t 3), some (8, true)⟩, []⟩, ⟨5, ⟨(some 10), .load none (.t 9), some (8, true)⟩, []⟩, ⟨6, ⟨(some 11), .faddr 0 (.t 2), some (8, true)⟩, []⟩, ⟨7, ⟨(some 12), .load none (.t 11), some (8, true)⟩, []⟩, ⟨8, ⟨(some 13), .len (.t 12), some (8, true)⟩, []⟩, ⟨9, ⟨(some 14), .bin .lss (.t 10) (.t 13), some (8, true)⟩, []⟩, ⟨10, ⟨(some 15), .pick (.t 8) (.t 14) (.c (.v (.bool false))), none⟩, []⟩, ⟨11, ⟨(some 16), .mv (.t 15), none⟩, []⟩, ⟨12, ⟨(some 17), .faddr 1 (.t 3), some (16, true)⟩, []⟩, ⟨13, ⟨(some 18), .load none (.t 17), some (16, true)⟩, []⟩, ⟨14, ⟨(some 19), .bin .geq (.t 18) (.c (.v (.int .i64 1))), some (16, true)⟩, []⟩, ⟨15, ⟨(some 20), .pick (.t 16) (.t 19) (.c (.v (.bool false))), none⟩, []⟩, ⟨16, ⟨(some 21), .mv (.t 20), none⟩, []⟩, ⟨17, ⟨(some 22), .faddr 1 (.t 3), some (21, true)⟩, []⟩, ⟨18, ⟨(some 23), .load none (.t 22), some (21, true)⟩, []⟩, ⟨19, ⟨(some 24), .faddr 0 (.t 2), some (21, true)⟩, []⟩, ⟨20, ⟨(some 25), .load none (.t 24), some (21, true)⟩, []⟩, ⟨21, ⟨(some 26), .faddr 0 (.t 3), some (21, true)⟩, []⟩, ⟨22, ⟨(some 27), .load none (.t 26), some (21, true)⟩, []⟩, ⟨23, ⟨(some 28), .iaddr 3 (.t 25) (.t 27), some (21, true)⟩, []⟩, ⟨24, ⟨(some 29), .faddr 2 (.t 28), some (21, true)⟩, []⟩, ⟨25, ⟨(some 30), .load none (.t 29), some (21, true)⟩, []⟩, ⟨26, ⟨(some 31), .len (.t 30), some (21, true)⟩, []⟩, ⟨27, ⟨(some 32), .bin .leq (.t 23) (.t 31), some (21, true)⟩, []⟩, ⟨28, ⟨(some 33), .pick (.t 21) (.t 32) (.c (.v (.bool false))), none⟩, []⟩, ⟨29, ⟨(some 4), .mv (.t 33), none⟩, []⟩])
  .ret))⟩
theorem a_exists_ok : cFunc Try.prog 132 = some a_exists := by kernel_rfl
def a_check : AFunc := ⟨2, 21, [.tmp 4],
  (.seq (.region [⟨(some 2), .box (.t 0), none⟩, ⟨(some 4), .mv (.c (.v (.int .i64 0))), none⟩])
  (.seq (.seq (.region [⟨(some 7), .load (some 1) (.t 2), none⟩, ⟨(some 8), .call (.c (.fn 67 [])) [(.t 7)], none⟩, ⟨(some 9), .not (.t 8), none⟩])
  (.cond (.t 9) (.seq (.region [⟨(some 4), .mv (.c (.v (.int .i64 1))), none⟩])
  .ret)
  .skip))
  (.seq (.seq (.region [⟨(some 10), .mv (.t 1), none⟩, ⟨(some 11), .len (.t 10), none⟩, ⟨(some 12), .mv (.c (.v (.int .i64 0))), none⟩])
  (.block 0 (.loop (.seq (.region [⟨(some 13), .bin .lss (.t 12) (.t 11), none⟩])
  (.seq (.cond (.t 13) .skip
  (.exit 0))
  (.seq (.block 1 (.seq (.region [⟨(some 14), .iaddr 2 (.t 10) (.t 12), none⟩, ⟨(some 15), .load (some 2) (.t 14), none⟩, ⟨(some 6), .alloc [(.v (.int .i64 0)), (.v (.int .i64 0))], none⟩, ⟨none, .store 2 (.t 6) (.t 15), none⟩])
  (.seq (.region [⟨(some 16), .load (some 1) (.t 2), none⟩, ⟨(some 17), .load (some 2) (.t 6), none⟩, ⟨(some 18), .call (.c (.fn 132 [])) [(.t 16), (.t 17)], none⟩, ⟨(some 19), .not (.t 18), none⟩])
  (.cond (.t 19) (.seq (.region [⟨(some 4), .mv (.c (.v (.int .i64 2))), none⟩])
  .ret)
  .skip))))
  (.region [⟨(some 20), .bin .add (.t 12) (.c (.v (.int .i64 1))), none⟩, ⟨(some 12), .mv (.t 20), none⟩])))))))
  (.seq (.region [⟨(some 4), .mv (.c (.v (.int .i64 0))), none⟩])
  .ret))))⟩
theorem a_check_ok : cFunc Try.prog 78 = some a_check := by kernel_rfl
def r_check0 : List (Nat × Nat) := [(4, 4), (6, 6), (12, 20)]
def a_Before : AFunc := ⟨3, 22, [.tmp 6, .tmp 7],
  (.seq (.region [⟨(some 3), .box (.t 0), none⟩, ⟨(some 4), .box (.t 1), none⟩, ⟨(some 5), .box (.t 2), none⟩, ⟨(some 6), .mv (.c (.v (.bool false))), none⟩, ⟨(some 7), .mv (.c (.v (.int .i64 0))), none⟩])
  (.seq (.seq (.region [⟨(some 9), .load (some 1) (.t 3), none⟩, ⟨(some 10), .load (some 2) (.t 4), none⟩, ⟨(some 11), .load (some 2) (.t 5), none⟩, ⟨(some 12), .bslice 2 [(.v (.int .i64 0)), (.v (.int .i64 0))] 2 [(0, (.t 10)), (1, (.t 11))], none⟩, ⟨(some 13), .call (.c (.fn 78 [])) [(.t 9), (.t 12)], none⟩, ⟨(some 8), .mv (.t 13), none⟩])
  (.seq (.region [⟨(some 14), .mv (.t 8), none⟩, ⟨(some 15), .bin .neq (.t 14) (.c (.v (.int .i64 0))), none⟩])
  (.cond (.t 15) (.seq (.region [⟨(some 16), .mv (.t 8), none⟩, ⟨(some 6), .mv (.c (.v (.bool false))), none⟩, ⟨(some 7), .mv (.t 16), none⟩])
  .ret)
  .skip)))
  (.seq (.draw [⟨0, ⟨(some 17), .load (some 1) (.t 3), none⟩, []⟩, ⟨2, ⟨(some 19), .load (some 2) (.t 4), none⟩, []⟩, ⟨3, ⟨(some 20), .load (some 2) (.t 5), none⟩, []⟩, ⟨1, ⟨(some 18), .call (.c (.fn 79 [])) [(.t 17)], none⟩, [⟨(some 19), .load (some 2) (.t 4), none⟩, ⟨(some 20), .load (some 2) (.t 5), none⟩]⟩, ⟨4, ⟨(some 21), .call (.c (.fn 81 [])) [(.t 18), (.t 19), (.t 20)], none⟩, []⟩, ⟨5, ⟨(some 6), .mv (.t 21), none⟩, []⟩, ⟨6, ⟨(some 7), .mv (.c (.v (.int .i64 0))), none⟩, []⟩])
  .ret)))⟩
theorem a_Before_ok : cFunc Try.prog 23 = some a_Before := by kernel_rfl

def existsB (t : Tr) (a c : Int) : Bool := decide (0 ≤ a) && (decide (a < (t.length : Int)) && (decide (1 ≤ c) && decide (c ≤ ((evsOf t a.toNat).length : Int))))
theorem existsB_in {t : Tr} {a c : Int} (h : existsB t a c = true) : ∃ p i : Nat, a = p ∧ c = ((i + 1 : Nat) : Int) ∧ (p, i + 1) ∈ ids t := by
  simp only [existsB, Bool.and_eq_true, decide_eq_true_eq] at h
  obtain ⟨h1, h2, h3, h4⟩ := h
  refine ⟨a.toNat, c.toNat - 1, by omega, by omega, mem_ids2.2 ⟨by omega, by omega⟩⟩
theorem existsB_of {t : Tr} {p i : Nat} (h : (p, i + 1) ∈ ids t) : existsB t p ((i + 1 : Nat) : Int) = true := by
  obtain ⟨h1, h2⟩ := mem_ids2.1 h
  simp only [existsB, Bool.and_eq_true, decide_eq_true_eq, Int.toNat_natCast]
  omega
def idP (x : Int × Int) : AV := .agg [.v (.int .i64 x.1), .v (.int .i64 x.2)]
theorem exists_gen (k : Nat) (hk : cFunc Try.prog k = some a_exists) (t : Tr) (hS : Small t) (x : Int × Int) (b l : List Row) :
    ACalls Try.prog k [.agg [.v (eT t)], idP x] b l (fun r b' l' => r = .v (.bool (existsB t x.1 x.2)) ∧ b' = b ∧ l' = l) := by
  refine calls_kept hk rfl (by decide) ?_
  intro B g hB hR hE hA
  simp only [KArgs] at hA
  obtain ⟨a, c⟩ := x
  have hnp := hS.np
  by_cases h1 : 0 ≤ a
  · have d1 := decide_eq_true h1
    have d1' : decide (a ≥ 0) = true := d1
    by_cases h2 : a < (t.length : Int)
    · have d2 := decide_eq_true h2
      obtain ⟨p, rfl⟩ : ∃ p : Nat, a = p := ⟨a.toNat, by omega⟩
      have hp : p < t.length := by omega
      have hne := hS.ne _ (List.getElem_mem hp)
      by_cases h3 : 1 ≤ c
      · have d3 := decide_eq_true h3
        have d3' : decide (c ≥ 1) = true := d3
        have he : existsB t p c = decide (c ≤ (t[p].evs.length : Int)) := by simp [existsB, h2, h3, evsOf_lt hp]
        rw [he]
        simp (disch := (first | decide | omega)) only [a_exists, idP, eT, hA, ePr, d1, d1', d2, d3, d3', List.length_map, go_sem]
        exact leave_pure (xs := [.v (.bool (decide (c ≤ (t[p].evs.length : Int))))]) (.inr rfl) (by simp (disch := (first | decide | omega)) only [resVs, resV, go_sem, hA]) (by simp only [one, AVlt_v, AVlt_any, AVlt_sl, AVlt_ptr, AVlt_mp, AVlt_agg, AVlt_tup, AVlt_fn, RowsLt_nil, RowsLt_live, RowsLt_dead, List.mem_cons, List.not_mem_nil, List.forall_mem_cons, List.forall_mem_nil, or_false, false_or, forall_eq_or_imp, forall_eq, vs_lt, Nat.add_lt_add_iff_left, Nat.reduceLT, true_and, and_true, and_self, List.length_cons, List.length_nil, Nat.reduceAdd, Nat.zero_add, implies_true, false_imp_iff, lt_T, List.mem_map]) hR hB ⟨rfl, rfl, rfl⟩
      · have d3 := decide_eq_false h3
        have d3' : decide (c ≥ 1) = false := d3
        have he : existsB t p c = false := by simp [existsB, h3]
        rw [he]
        simp (disch := (first | decide | omega)) only [a_exists, idP, eT, hA, ePr, d1, d1', d2, d3, d3', List.length_map, go_sem]
        exact leave_pure (xs := [.v (.bool false)]) (.inr rfl) (by simp (disch := (first | decide | omega)) only [resVs, resV, go_sem, hA]) (by simp only [one, AVlt_v, AVlt_any, AVlt_sl, AVlt_ptr, AVlt_mp, AVlt_agg, AVlt_tup, AVlt_fn, RowsLt_nil, RowsLt_live, RowsLt_dead, List.mem_cons, List.not_mem_nil, List.forall_mem_cons, List.forall_mem_nil, or_false, false_or, forall_eq_or_imp, forall_eq, vs_lt, Nat.add_lt_add_iff_left, Nat.reduceLT, true_and, and_true, and_self, List.length_cons, List.length_nil, Nat.reduceAdd, Nat.zero_add, implies_true, false_imp_iff, lt_T, List.mem_map]) hR hB ⟨rfl, rfl, rfl⟩
    · have d2 := decide_eq_false h2
      have he : existsB t a c = false := by simp [existsB, h2]
      rw [he]
      simp (disch := (first | decide | omega)) only [a_exists, idP, eT, hA, ePr, d1, d1', d2, List.length_map, go_sem]
      exact leave_pure (xs := [.v (.bool false)]) (.inr rfl) (by simp (disch := (first | decide | omega)) only [resVs, resV, go_sem, hA]) (by simp only [one, AVlt_v, AVlt_any, AVlt_sl, AVlt_ptr, AVlt_mp, AVlt_agg, AVlt_tup, AVlt_fn, RowsLt_nil, RowsLt_live, RowsLt_dead, List.mem_cons, List.not_mem_nil, List.forall_mem_cons, List.forall_mem_nil, or_false, false_or, forall_eq_or_imp, forall_eq, vs_lt, Nat.add_lt_add_iff_left, Nat.reduceLT, true_and, and_true, and_self, List.length_cons, List.length_nil, Nat.reduceAdd, Nat.zero_add, implies_true, false_imp_iff, lt_T, List.mem_map]) hR hB ⟨rfl, rfl, rfl⟩
  · have d1 := decide_eq_false h1
    have d1' : decide (a ≥ 0) = false := d1
    have he : existsB t a c = false := by simp [existsB, h1]
    rw [he]
    simp (disch := (first | decide | omega)) only [a_exists, idP, eT, hA, ePr, d1, d1', List.length_map, go_sem]
    exact leave_pure (xs := [.v (.bool false)]) (.inr rfl) (by simp (disch := (first | decide | omega)) only [resVs, resV, go_sem, hA]) (by simp only [one, AVlt_v, AVlt_any, AVlt_sl, AVlt_ptr, AVlt_mp, AVlt_agg, AVlt_tup, AVlt_fn, RowsLt_nil, RowsLt_live, RowsLt_dead, List.mem_cons, List.not_mem_nil, List.forall_mem_cons, List.forall_mem_nil, or_false, false_or, forall_eq_or_imp, forall_eq, vs_lt, Nat.add_lt_add_iff_left, Nat.reduceLT, true_and, and_true, and_self, List.length_cons, List.length_nil, Nat.reduceAdd, Nat.zero_add, implies_true, false_imp_iff, lt_T, List.mem_map]) hR hB ⟨rfl, rfl, rfl⟩
theorem exists_spec (t : Tr) (hS : Small t) (x : Int × Int) (b l : List Row) :
    ACalls Try.prog 132 [.agg [.v (eT t)], idP x] b l (fun r b' l' => r = .v (.bool (existsB t x.1 x.2)) ∧ b' = b ∧ l' = l) := exists_gen _ a_exists_ok t hS x b l
/-- The error of a trace and of events. -/
noncomputable def chkE (t : Tr) (l : List (Int × Int)) : Int := if validL t = true then (if l.all (fun x => existsB t x.1 x.2) then 0 else 2) else 1
def eIdP (x : Int × Int) : List IV := [.int .i64 x.1, .int .i64 x.2]
theorem check_spec (t : Tr) (hS : Small t) (hN : Nm t) (v : List (Int × Int)) (hl : v.length ≤ 1000000) (b l : List Row) :
    ACalls Try.prog 78 [.agg [.v (eT t)], .v (.isl 2 (v.map eIdP))] b l (fun r b' l' => r = .v (.int .i64 (chkE t v)) ∧ b' = b ∧ l' = l) := by
  refine calls_kept a_check_ok rfl (by decide) ?_
  intro B g hB hR hE hA
  simp only [KArgs] at hA
  simp (disch := (first | decide | omega)) only [a_check, hA, go_sem]
  refine ACalls.nxt (valid_spec t hS hN _ _) ?_
  cases hval : validL t with
  | false =>
    simp (disch := (first | decide | omega)) only [hA, go_sem]
    exact leave_pure (xs := [.v (.int .i64 1)]) (.inr rfl) (by simp (disch := (first | decide | omega)) only [resVs, resV, go_sem, hA]) (by simp only [one, AVlt_v, AVlt_any, AVlt_sl, AVlt_ptr, AVlt_mp, AVlt_agg, AVlt_tup, AVlt_fn, RowsLt_nil, RowsLt_live, RowsLt_dead, List.mem_cons, List.not_mem_nil, List.forall_mem_cons, List.forall_mem_nil, or_false, false_or, forall_eq_or_imp, forall_eq, vs_lt, Nat.add_lt_add_iff_left, Nat.reduceLT, true_and, and_true, and_self, List.length_cons, List.length_nil, Nat.reduceAdd, Nat.zero_add, implies_true, false_imp_iff, lt_T, List.mem_map]) hR hB ⟨by unfold chkE; rw [hval]; rfl, rfl, rfl⟩
  | true =>
    simp (disch := (first | decide | omega)) only [hA, List.length_map, go_sem]
    refine loop_kept (ι := Nat) r_check0 (fun i => [(12, .v (.int .i64 i))]) 1 (fun i => [.live 0 1 [[.v (eT t)]]])
      (fun i => i ≤ v.length ∧ ∀ j (h : j < v.length), j < i → existsB t v[j].1 v[j].2 = true) (fun i => v.length - i) 0 ⟨Nat.zero_le _, fun j _ h => by omega⟩ (by (repeat (first | exact hE.mono (by omega) | refine KLt.up ?_ (by simp (disch := omega) only [AVlt_v, AVlt_any, AVlt_sl, AVlt_ptr, AVlt_mp, AVlt_agg, AVlt_tup, AVlt_fn, RowsLt_nil, RowsLt_live, RowsLt_dead, List.mem_cons, List.not_mem_nil, List.forall_mem_cons, List.forall_mem_nil, or_false, false_or, forall_eq_or_imp, forall_eq, vs_lt, Nat.add_lt_add_iff_left, Nat.reduceLT, true_and, and_true, and_self, List.length_cons, List.length_nil, Nat.reduceAdd, Nat.zero_add, implies_true, false_imp_iff, lt_T, List.mem_map])))) (by ((try simp (disch := decide) only [hA, go_sem]) <;> (repeat' (first | exact trivial | refine And.intro ?_ ?_)) <;> (first | rfl | (congr 2; omega)))) (fun e => Weak.refl _ _ _) ?_
    rintro g1 hE1 hEE1 hg1 i ⟨hi, hbef⟩
    by_cases hil : i < v.length
    · simp (disch := (first | decide | omega)) only [hA, hg1, eIdP, go_sem]
      refine ACalls.nxt (exists_spec t hS v[i] _ _) ?_
      cases hex : existsB t v[i].1 v[i].2 with
      | false =>
        simp (disch := (first | decide | omega)) only [hA, hg1, go_sem]
        have hall : (v.all fun x => existsB t x.1 x.2) = false := by
          rw [Bool.eq_false_iff]; intro h
          rw [List.all_eq_true] at h
          have := h _ (List.getElem_mem hil)
          rw [hex] at this; cases this
        exact leave_pure (xs := [.v (.int .i64 2)]) (.inr rfl) (by simp (disch := (first | decide | omega)) only [resVs, resV, go_sem, hA, hg1]) (by simp only [one, AVlt_v, AVlt_any, AVlt_sl, AVlt_ptr, AVlt_mp, AVlt_agg, AVlt_tup, AVlt_fn, RowsLt_nil, RowsLt_live, RowsLt_dead, List.mem_cons, List.not_mem_nil, List.forall_mem_cons, List.forall_mem_nil, or_false, false_or, forall_eq_or_imp, forall_eq, vs_lt, Nat.add_lt_add_iff_left, Nat.reduceLT, true_and, and_true, and_self, List.length_cons, List.length_nil, Nat.reduceAdd, Nat.zero_add, implies_true, false_imp_iff, lt_T, List.mem_map]) hR hB ⟨by unfold chkE; rw [hval, hall]; rfl, rfl, rfl⟩
      | true =>
        simp (disch := (first | decide | omega)) only [hA, hg1, go_sem]
        refine ⟨i + 1, ⟨hil, fun j hj h => ?_⟩, by simp only; omega, ?_⟩
        · by_cases hji : j = i
          · subst hji; exact hex
          · exact hbef j hj (by omega)
        · exact Weak.kround (p := r_check0) (k := 1) (by ((repeat refine (kAny_up rfl).trans ?_); exact hEE1)) (by ((try simp (disch := decide) only [hA, go_sem]) <;> (repeat' (first | exact trivial | refine And.intro ?_ ?_)) <;> (first | rfl | (congr 2; omega)))) rfl hE1 (by simp) (by simp (disch := omega) only [KOvLt, AVlt_v, AVlt_any, AVlt_sl, AVlt_ptr, AVlt_mp, AVlt_agg, AVlt_tup, AVlt_fn, RowsLt_nil, RowsLt_live, RowsLt_dead, List.mem_cons, List.not_mem_nil, List.forall_mem_cons, List.forall_mem_nil, or_false, false_or, forall_eq_or_imp, forall_eq, vs_lt, Nat.add_lt_add_iff_left, Nat.reduceLT, true_and, and_true, and_self, List.length_cons, List.length_nil, Nat.reduceAdd, Nat.zero_add, implies_true, false_imp_iff, lt_T, List.mem_map]) hR (by simp (disch := omega) only [AVlt_v, AVlt_any, AVlt_sl, AVlt_ptr, AVlt_mp, AVlt_agg, AVlt_tup, AVlt_fn, RowsLt_nil, RowsLt_live, RowsLt_dead, List.mem_cons, List.not_mem_nil, List.forall_mem_cons, List.forall_mem_nil, or_false, false_or, forall_eq_or_imp, forall_eq, vs_lt, Nat.add_lt_add_iff_left, Nat.reduceLT, true_and, and_true, and_self, List.length_cons, List.length_nil, Nat.reduceAdd, Nat.zero_add, implies_true, false_imp_iff, lt_T, List.mem_map])
    · simp (disch := (first | decide | omega)) only [hA, hg1, go_sem]
      have hall : (v.all fun x => existsB t x.1 x.2) = true := by
        rw [List.all_eq_true]
        intro x hx
        obtain ⟨j, hj, rfl⟩ := List.getElem_of_mem hx
        exact hbef j hj (by omega)
      exact leave_pure (xs := [.v (.int .i64 0)]) (.inr rfl) (by simp (disch := (first | decide | omega)) only [resVs, resV, go_sem, hA, hg1]) (by simp only [one, AVlt_v, AVlt_any, AVlt_sl, AVlt_ptr, AVlt_mp, AVlt_agg, AVlt_tup, AVlt_fn, RowsLt_nil, RowsLt_live, RowsLt_dead, List.mem_cons, List.not_mem_nil, List.forall_mem_cons, List.forall_mem_nil, or_false, false_or, forall_eq_or_imp, forall_eq, vs_lt, Nat.add_lt_add_iff_left, Nat.reduceLT, true_and, and_true, and_self, List.length_cons, List.length_nil, Nat.reduceAdd, Nat.zero_add, implies_true, false_imp_iff, lt_T, List.mem_map]) hR hB ⟨by unfold chkE; rw [hval, hall]; rfl, rfl, rfl⟩
noncomputable def befR (t : Tr) (x y : Int × Int) : AV := .tup [.v (.bool (decide (chkE t [x, y] = 0) && befB t (x.1.toNat, x.2.toNat) (y.1.toNat, y.2.toNat))), .v (.int .i64 (chkE t [x, y]))]
theorem chkE_zero {t : Tr} {l : List (Int × Int)} : chkE t l = 0 ↔ validL t = true ∧ ∀ x ∈ l, existsB t x.1 x.2 = true := by
  unfold chkE
  cases validL t
  · simp
  · simp only [if_true, true_and]
    cases h : l.all (fun x => existsB t x.1 x.2) with
    | true => simp [List.all_eq_true.1 h]; intro a b hab; exact List.all_eq_true.1 h _ hab
    | false =>
      simp only [Bool.false_eq_true, if_false]
      constructor
      · intro h2; simp at h2
      · intro h2
        rw [List.all_eq_true.2 h2] at h; cases h
theorem Before_spec (t : Tr) (hS : Small t) (hN : Nm t) (hC : validL t = true → (ids t).length ≤ 1000000) (x y : Int × Int) (b l : List Row) :
    ACalls Try.prog 23 [.agg [.v (eT t)], idP x, idP y] b l (fun r b' l' => r = befR t x y ∧ b' = b ∧ l' = l) := by
  refine calls_kept a_Before_ok rfl (by decide) ?_
  intro B g hB hR hE hA
  simp only [KArgs] at hA
  simp (disch := (first | decide | omega)) only [a_Before, hA, idP, List.replicate_succ, List.replicate_zero, go_sem]
  refine ACalls.frzB (i := 3) (ver := 0) (sz := 2) (rows := [eIdP x, eIdP y]) (args' := [.agg [.v (eT t)], .v (.isl 2 [eIdP x, eIdP y])]) rfl (by simp [frz, frz0]) ?_
  refine ACalls.nxt (check_spec t hS hN [x, y] (by simp) _ _) ?_
  by_cases h0 : chkE t [x, y] = 0
  · obtain ⟨hval, hall⟩ := chkE_zero.1 h0
    have hv := vok hval
    obtain ⟨p, i, e1, e2, hx⟩ := existsB_in (hall x (by simp))
    obtain ⟨q, j, e3, e4, hy⟩ := existsB_in (hall y (by simp))
    have hn0 : ((0 : Int) != 0) = false := rfl
    unfold befR
    rw [h0]
    simp (disch := (first | decide | omega)) only [hA, hn0, idP, go_sem]
    refine ACalls.nxt (knows_spec t hv hS _ _) ?_
    have hb := fun b l s r => before_spec t hv hS (hC hval) s r _ _ hx hy b l
    simp only [idA, ← e1, ← e2, ← e3, ← e4] at hb
    simp (disch := (first | decide | omega)) only [hA, kA, knoR, go_sem]
    refine ACalls.nxt (hb _ _ _ _ (by rw [List.getElem?_append_right (by omega), show B.length + 4 + 2 - B.length = 6 by omega]; rfl) (by rw [List.getElem?_append_right (by omega), show B.length + 4 + 3 - B.length = 7 by omega]; rfl)) ?_
    have t1 : x.1.toNat = p := by omega
    have t2 : x.2.toNat = i + 1 := by omega
    have t3 : y.1.toNat = q := by omega
    have t4 : y.2.toNat = j + 1 := by omega
    rw [t1, t2, t3, t4]
    simp (disch := (first | decide | omega)) only [hA, go_sem]
    exact leave_pure (xs := [.v (.bool (befB t (p, i + 1) (q, j + 1))), .v (.int .i64 0)]) (.inr rfl) (by simp (disch := (first | decide | omega)) only [resVs, resV, go_sem, hA]) (by simp only [one, AVlt_v, AVlt_any, AVlt_sl, AVlt_ptr, AVlt_mp, AVlt_agg, AVlt_tup, AVlt_fn, RowsLt_nil, RowsLt_live, RowsLt_dead, List.mem_cons, List.not_mem_nil, List.forall_mem_cons, List.forall_mem_nil, or_false, false_or, forall_eq_or_imp, forall_eq, vs_lt, Nat.add_lt_add_iff_left, Nat.reduceLT, true_and, and_true, and_self, List.length_cons, List.length_nil, Nat.reduceAdd, Nat.zero_add, implies_true, false_imp_iff, lt_T, List.mem_map]) hR hB ⟨rfl, rfl, rfl⟩
  · have hn0 : (chkE t [x, y] != 0) = true := by simpa using h0
    simp (disch := (first | decide | omega)) only [hA, hn0, go_sem]
    exact leave_pure (xs := [.v (.bool false), .v (.int .i64 (chkE t [x, y]))]) (.inr rfl) (by simp (disch := (first | decide | omega)) only [resVs, resV, go_sem, hA]) (by simp only [one, AVlt_v, AVlt_any, AVlt_sl, AVlt_ptr, AVlt_mp, AVlt_agg, AVlt_tup, AVlt_fn, RowsLt_nil, RowsLt_live, RowsLt_dead, List.mem_cons, List.not_mem_nil, List.forall_mem_cons, List.forall_mem_nil, or_false, false_or, forall_eq_or_imp, forall_eq, vs_lt, Nat.add_lt_add_iff_left, Nat.reduceLT, true_and, and_true, and_self, List.length_cons, List.length_nil, Nat.reduceAdd, Nat.zero_add, implies_true, false_imp_iff, lt_T, List.mem_map]) hR hB ⟨by unfold befR; rw [decide_eq_false h0]; rfl, rfl, rfl⟩
theorem befR_ids {t : Tr} (hval : validL t = true) {a c : Nat × Nat} (ha : a ∈ ids t) (hc : c ∈ ids t) : befR t ((a.1 : Int), (a.2 : Int)) ((c.1 : Int), (c.2 : Int)) = .tup [.v (.bool (befB t a c)), .v (.int .i64 0)] := by
  have h0 : chkE t [((a.1 : Int), (a.2 : Int)), ((c.1 : Int), (c.2 : Int))] = 0 := by
    refine chkE_zero.2 ⟨hval, fun z hz => ?_⟩
    obtain ⟨a1, a2⟩ := a
    obtain ⟨c1, c2⟩ := c
    obtain ⟨a2, rfl⟩ : ∃ k, a2 = k + 1 := ⟨a2 - 1, by have := mem_pos ha; simp only at this; omega⟩
    obtain ⟨c2, rfl⟩ : ∃ k, c2 = k + 1 := ⟨c2 - 1, by have := mem_pos hc; simp only at this; omega⟩
    simp only [List.mem_cons, List.not_mem_nil, or_false] at hz
    rcases hz with rfl | rfl
    · exact existsB_of ha
    · exact existsB_of hc
  unfold befR
  rw [h0]
  simp
end Go.Proofs.Ytoaopldaleaijaa

namespace Go.Proofs.Ytoaopldaleaijaa
set_option linter.unusedVariables false
set_option linter.unusedSimpArgs false
attribute [local go_sem ↓] run_skip run_region run_draw run_seq run_block run_exit run_ret run_cond atN_app seqC_normal seqC_exit seqC_ret seqQ_normal seqQ_exit seqQ_ret blkQ_normal blkQ_exit blkQ_ret runOps_nil runOps_cons runD_nil runD_cons grdO_true grdO_false grdD_true grdD_false ifC_true ifC_false opS_val opS_call opS_two opK_app dS_val dS_call dS_two dK_app kUp_same kUp_ne
attribute [local go_sem] rechks_nil rechks_cons rechk gcase_true gcase_false ex_val ex_val0 gd_none gd_some ev_t ev_c evs_nil evs_cons evo_some evo_none hget_at hget_first hsetB_at hsetB_first hsetL_at hsetL_first ofOpt_some aop aload astore aslice aappend aiaddr aiaddrA afaddr alen alenS acopy amm acall alookup amupdate alenM comma keyEq apick binV binVB binVS isSh intOp strOp boolOp shOp eqC eqF and2 cellsOf setFrom fillA fillS rd rdI elems mk bounds AV.cell List.all_cons List.all_nil Bool.and_true Bool.true_and Bool.and_self List.length_cons List.length_nil List.length_append Nat.reduceAdd Nat.reduceSub Nat.reduceMul Nat.zero_add Nat.add_zero List.cons_append List.nil_append List.append_assoc List.append_nil List.getElem?_cons_zero List.getElem?_cons_succ List.getElem?_nil List.set_cons_zero List.set_cons_succ List.drop_zero List.drop_succ_cons List.take_zero List.take_succ_cons List.take_nil List.drop_nil List.map_cons List.map_nil Option.map_some if_true if_false Bool.false_eq_true and_self true_and and_true Nat.reduceLeDiff Nat.reduceLT Nat.le_refl Nat.reduceEqDiff ite_true ite_false beq_self_eq_true beq_true beq_false Bool.not_true Bool.not_false Bool.true_beq Bool.false_beq map_vs vs_len vs_get vs_take vs_drop vs_snoc1 vs_snoc2 vs_snoc3 vs_snoc5 vs_set1 vs_set2 vs_rep wrap_id le_T lt_T le_F lt_F leI_T ltI_T leI_F ltI_F geI gtI get_T decide_true decide_false room List.getElem?_map List.length_map List.length_take Int.toNat_natCast Nat.min_def Nat.min_self nth_kOf put_kOf put_kNo kOv_cons kOv_nil KHas KArgs List.getElem_cons_zero List.getElem_cons_succ
def a_small16 : AFunc := ⟨1, 34, [.tmp 2],
  (.seq (.region [⟨(some 1), .box (.t 0), none⟩, ⟨(some 2), .mv (.c (.v (.bool false))), none⟩])
  (.seq (.seq (.region [⟨(some 6), .faddr 0 (.t 1), none⟩, ⟨(some 7), .load none (.t 6), none⟩, ⟨(some 8), .len (.t 7), none⟩, ⟨(some 9), .bin .gtr (.t 8) (.c (.v (.int .i64 10))), none⟩])
  (.cond (.t 9) (.seq (.region [⟨(some 2), .mv (.c (.v (.bool false))), none⟩])
  .ret)
  .skip))
  (.seq (.region [⟨(some 3), .mv (.c (.v (.int .i64 0))), none⟩])
  (.seq (.seq (.region [⟨(some 10), .faddr 0 (.t 1), none⟩, ⟨(some 11), .load none (.t 10), none⟩, ⟨(some 12), .len (.t 11), none⟩, ⟨(some 13), .mv (.c (.v (.int .i64 0))), none⟩])
  (.block 0 (.loop (.seq (.region [⟨(some 14), .bin .lss (.t 13) (.t 12), none⟩])
  (.seq (.cond (.t 14) .skip
  (.exit 0))
  (.seq (.block 1 (.seq (.region [⟨(some 15), .iaddr 3 (.t 11) (.t 13), none⟩, ⟨(some 16), .load (some 3) (.t 15), none⟩, ⟨(some 5), .alloc [(.v (.str ⟨#[]⟩)), (.v .zsl), (.v .zsl)], none⟩, ⟨none, .store 3 (.t 5) (.t 16), none⟩])
  (.seq (.region [⟨(some 17), .mv (.t 3), none⟩, ⟨(some 18), .faddr 2 (.t 5), none⟩, ⟨(some 19), .load none (.t 18), none⟩, ⟨(some 20), .len (.t 19), none⟩, ⟨(some 21), .bin .add (.t 17) (.t 20), none⟩, ⟨(some 3), .mv (.t 21), none⟩])
  (.seq (.region [⟨(some 22), .faddr 1 (.t 5), none⟩, ⟨(some 23), .load none (.t 22), none⟩, ⟨(some 24), .len (.t 23), none⟩, ⟨(some 25), .bin .gtr (.t 24) (.c (.v (.int .i64 12))), none⟩, ⟨(some 26), .mv (.t 25), none⟩, ⟨(some 27), .faddr 2 (.t 5), some (26, false)⟩, ⟨(some 28), .load none (.t 27), some (26, false)⟩, ⟨(some 29), .call (.c (.fn 75 [])) [(.t 28), (.c (.fn 104 []))], some (26, false)⟩, ⟨(some 30), .pick (.t 26) (.c (.v (.bool true))) (.t 29), none⟩])
  (.cond (.t 30) (.seq (.region [⟨(some 2), .mv (.c (.v (.bool false))), none⟩])
  .ret)
  .skip)))))
  (.region [⟨(some 31), .bin .add (.t 13) (.c (.v (.int .i64 1))), none⟩, ⟨(some 13), .mv (.t 31), none⟩])))))))
  (.seq (.region [⟨(some 32), .mv (.t 3), none⟩, ⟨(some 33), .bin .leq (.t 32) (.c (.v (.int .i64 60))), none⟩, ⟨(some 2), .mv (.t 33), none⟩])
  .ret)))))⟩
theorem a_small16_ok : cFunc Try.prog 54 = some a_small16 := by kernel_rfl
def r_small160 : List (Nat × Nat) := [(2, 3), (5, 5), (13, 31)]
def a_small161 : AFunc := ⟨1, 7, [.tmp 2],
  (.seq (.region [⟨(some 1), .box (.t 0), none⟩, ⟨(some 2), .mv (.c (.v (.bool false))), none⟩])
  (.seq (.region [⟨(some 3), .faddr 4 (.t 1), none⟩, ⟨(some 4), .load none (.t 3), none⟩, ⟨(some 5), .len (.t 4), none⟩, ⟨(some 6), .bin .gtr (.t 5) (.c (.v (.int .i64 12))), none⟩, ⟨(some 2), .mv (.t 6), none⟩])
  .ret))⟩
theorem a_small161_ok : cFunc Try.prog 104 = some a_small161 := by kernel_rfl

theorem mOpen_spec (t : Tr) (b l : List Row) : ACalls Try.prog 105 [.agg [.v (eT t)]] b l (fun r b' l' => r = .ptr (b.length + l.length + 2) 0 0 0 ∧ b' = b ∧ l' = l ++ [.live 0 1 [[.v (eT t)]], .live 0 0 [], .live 0 2 [[.v (eT t), .mp (b.length + l.length + 1) 0]]]) := by
  refine calls_kept a_mOpen_ok rfl (by decide) ?_
  intro B g hB hR hE hA
  simp only [KArgs] at hA
  have hBl : B.length = b.length + l.length := by rw [hB, List.length_append]
  simp (disch := (first | decide | omega)) only [a_mOpen, hA, go_sem]
  exact leave (.inr rfl) (xs := [.ptr (B.length + 2) 0 0 0]) (by simp (disch := (first | decide | omega)) only [resVs, resV, hA, go_sem]) (y := .ptr (B.length + 2) 0 0 0) (Weak.refl _ _ _) hB ⟨by rw [hBl], rfl, by rw [hBl]⟩
def inT (t : Tr) (x : Int × Int) : Prop := 0 ≤ x.1 ∧ x.1 < (t.length : Int) ∧ 0 ≤ x.2 ∧ x.2 ≤ ((evsOf t x.1.toNat).length : Int)
open Classical in
noncomputable def AtR (t : Tr) (x : Int × Int) : AV := if validL t = true then (if inT t x then .tup [.v (eMt t (x.1.toNat, x.2.toNat)), .v (.int .i64 0)] else .tup [.v .zsl, .v (.int .i64 2)]) else .tup [.v .zsl, .v (.int .i64 1)]
theorem At_spec (t : Tr) (hS : Sm t) (hN : Nm t) (x : Int × Int) (b l : List Row) : ACalls Try.prog 55 [.agg [.v (eT t)], idP x] b l (fun r b' l' => r = AtR t x ∧ b' = b ∧ l' = l) := by
  refine calls_kept a_AtM_ok rfl (by decide) ?_
  intro B g hB hR hE hA
  simp only [KArgs] at hA
  simp (disch := (first | decide | omega)) only [a_AtM, hA, idP, go_sem]
  refine ACalls.nxt (valid_specS t hS hN _ _) ?_
  cases hval : validL t with
  | false =>
    simp (disch := (first | decide | omega)) only [hA, go_sem]
    exact leave_pure (xs := [.v .zsl, .v (.int .i64 1)]) (.inr rfl) (by simp (disch := (first | decide | omega)) only [resVs, resV, go_sem, hA]) (by simp only [one, AVlt_v, AVlt_any, AVlt_sl, AVlt_ptr, AVlt_mp, AVlt_agg, AVlt_tup, AVlt_fn, RowsLt_nil, RowsLt_live, RowsLt_dead, List.mem_cons, List.not_mem_nil, List.forall_mem_cons, List.forall_mem_nil, or_false, false_or, forall_eq_or_imp, forall_eq, vs_lt, Nat.add_lt_add_iff_left, Nat.reduceLT, true_and, and_true, and_self, List.length_cons, List.length_nil, Nat.reduceAdd, Nat.zero_add, implies_true, false_imp_iff, lt_T, List.mem_map]) hR hB ⟨by unfold AtR; rw [hval]; rfl, rfl, rfl⟩
  | true =>
    have hv := vok hval
    have hS := hS.small hv.head
    obtain ⟨a, c⟩ := x
    have bad : ¬ inT t (a, c) → AtR t (a, c) = .tup [.v .zsl, .v (.int .i64 2)] := fun h => by unfold AtR; rw [if_pos hval, if_neg h]
    by_cases h1 : a < 0
    · have d1 := decide_eq_true h1
      simp (disch := (first | decide | omega)) only [hA, d1, eT, List.length_map, go_sem]
      exact leave_pure (xs := [.v .zsl, .v (.int .i64 2)]) (.inr rfl) (by simp (disch := (first | decide | omega)) only [resVs, resV, go_sem, hA]) (by simp only [one, AVlt_v, AVlt_any, AVlt_sl, AVlt_ptr, AVlt_mp, AVlt_agg, AVlt_tup, AVlt_fn, RowsLt_nil, RowsLt_live, RowsLt_dead, List.mem_cons, List.not_mem_nil, List.forall_mem_cons, List.forall_mem_nil, or_false, false_or, forall_eq_or_imp, forall_eq, vs_lt, Nat.add_lt_add_iff_left, Nat.reduceLT, true_and, and_true, and_self, List.length_cons, List.length_nil, Nat.reduceAdd, Nat.zero_add, implies_true, false_imp_iff, lt_T, List.mem_map]) hR hB ⟨by rw [bad (fun h => by have := h.1; simp only at this; omega)]; rfl, rfl, rfl⟩
    · have d1 := decide_eq_false h1
      obtain ⟨p, rfl⟩ : ∃ p : Nat, a = p := ⟨a.toNat, by omega⟩
      by_cases h2 : (p : Int) ≥ (t.length : Int)
      · have d2 := decide_eq_true h2
        have d2' : decide ((t.length : Int) ≤ (p : Int)) = true := d2
        simp (disch := (first | decide | omega)) only [hA, d1, d2, d2', eT, List.length_map, go_sem]
        exact leave_pure (xs := [.v .zsl, .v (.int .i64 2)]) (.inr rfl) (by simp (disch := (first | decide | omega)) only [resVs, resV, go_sem, hA]) (by simp only [one, AVlt_v, AVlt_any, AVlt_sl, AVlt_ptr, AVlt_mp, AVlt_agg, AVlt_tup, AVlt_fn, RowsLt_nil, RowsLt_live, RowsLt_dead, List.mem_cons, List.not_mem_nil, List.forall_mem_cons, List.forall_mem_nil, or_false, false_or, forall_eq_or_imp, forall_eq, vs_lt, Nat.add_lt_add_iff_left, Nat.reduceLT, true_and, and_true, and_self, List.length_cons, List.length_nil, Nat.reduceAdd, Nat.zero_add, implies_true, false_imp_iff, lt_T, List.mem_map]) hR hB ⟨by rw [bad (fun h => by have := h.2.1; simp only at this; omega)]; rfl, rfl, rfl⟩
      · have d2 := decide_eq_false h2
        have d2' : decide ((t.length : Int) ≤ (p : Int)) = false := d2
        have hp : p < t.length := by omega
        have hpe := evsOf_lt hp
        have hne := hS.ne _ (List.getElem_mem hp)
        by_cases h3 : c < 0
        · have d3 := decide_eq_true h3
          simp (disch := (first | decide | omega)) only [hA, d1, d2, d2', d3, eT, List.length_map, go_sem]
          exact leave_pure (xs := [.v .zsl, .v (.int .i64 2)]) (.inr rfl) (by simp (disch := (first | decide | omega)) only [resVs, resV, go_sem, hA]) (by simp only [one, AVlt_v, AVlt_any, AVlt_sl, AVlt_ptr, AVlt_mp, AVlt_agg, AVlt_tup, AVlt_fn, RowsLt_nil, RowsLt_live, RowsLt_dead, List.mem_cons, List.not_mem_nil, List.forall_mem_cons, List.forall_mem_nil, or_false, false_or, forall_eq_or_imp, forall_eq, vs_lt, Nat.add_lt_add_iff_left, Nat.reduceLT, true_and, and_true, and_self, List.length_cons, List.length_nil, Nat.reduceAdd, Nat.zero_add, implies_true, false_imp_iff, lt_T, List.mem_map]) hR hB ⟨by rw [bad (fun h => by have := h.2.2.1; simp only at this; omega)]; rfl, rfl, rfl⟩
        · have d3 := decide_eq_false h3
          obtain ⟨i, rfl⟩ : ∃ i : Nat, c = i := ⟨c.toNat, by omega⟩
          by_cases h4 : (i : Int) > (t[p].evs.length : Int)
          · have d4 := decide_eq_true h4
            have d4' : decide ((t[p].evs.length : Int) < (i : Int)) = true := d4
            simp (disch := (first | decide | omega)) only [hA, d1, d2, d2', d3, d4, d4', eT, ePr, List.length_map, go_sem]
            exact leave_pure (xs := [.v .zsl, .v (.int .i64 2)]) (.inr rfl) (by simp (disch := (first | decide | omega)) only [resVs, resV, go_sem, hA]) (by simp only [one, AVlt_v, AVlt_any, AVlt_sl, AVlt_ptr, AVlt_mp, AVlt_agg, AVlt_tup, AVlt_fn, RowsLt_nil, RowsLt_live, RowsLt_dead, List.mem_cons, List.not_mem_nil, List.forall_mem_cons, List.forall_mem_nil, or_false, false_or, forall_eq_or_imp, forall_eq, vs_lt, Nat.add_lt_add_iff_left, Nat.reduceLT, true_and, and_true, and_self, List.length_cons, List.length_nil, Nat.reduceAdd, Nat.zero_add, implies_true, false_imp_iff, lt_T, List.mem_map]) hR hB ⟨by rw [bad (fun h => by have := h.2.2.2; simp only [Int.toNat_natCast, hpe] at this; omega)]; rfl, rfl, rfl⟩
          · have d4 := decide_eq_false h4
            have d4' : decide ((t[p].evs.length : Int) < (i : Int)) = false := d4
            have good : AtR t ((p : Int), (i : Int)) = .tup [.v (eMt t (p, i)), .v (.int .i64 0)] := by
              unfold AtR
              rw [if_pos hval, if_pos ⟨by simp only; omega, by simp only; omega, by simp only; omega, by simp only [Int.toNat_natCast, hpe]; omega⟩]
              simp
            rw [good]
            simp (disch := (first | decide | omega)) only [hA, d1, d2, d2', d3, d4, d4', eT, ePr, List.length_map, go_sem]
            refine ACalls.nxt (mOpen_spec t _ _) ?_
            simp (disch := (first | decide | omega)) only [hA, go_sem]
            refine ACalls_mono _ _ _ _ _ _ (mAt_spec t hv hS (B.length + 4) (B.length + 3) (by omega) _ (p, i) rfl hp (by rw [hpe]; show i ≤ _; omega) _ _ [] (by rw [List.getElem?_append_right (by omega), Nat.add_sub_cancel_left]; rfl) (by rw [List.getElem?_append_right (by omega), Nat.add_sub_cancel_left]; rfl)) ?_
            rintro r b' l' ⟨K1, rfl, rfl, rfl⟩
            simp (disch := (first | decide | omega)) only [hA, go_sem]
            exact leave_pure (xs := [.v (eMt t (p, i)), .v (.int .i64 0)]) (.inr rfl) (by simp (disch := (first | decide | omega)) only [resVs, resV, go_sem, hA]) (by simp only [one, AVlt_v, AVlt_any, AVlt_sl, AVlt_ptr, AVlt_mp, AVlt_agg, AVlt_tup, AVlt_fn, RowsLt_nil, RowsLt_live, RowsLt_dead, List.mem_cons, List.not_mem_nil, List.forall_mem_cons, List.forall_mem_nil, or_false, false_or, forall_eq_or_imp, forall_eq, vs_lt, Nat.add_lt_add_iff_left, Nat.reduceLT, true_and, and_true, and_self, List.length_cons, List.length_nil, Nat.reduceAdd, Nat.zero_add, implies_true, false_imp_iff, lt_T, List.mem_map]) hR hB ⟨rfl, rfl, rfl⟩
theorem indexE_specL (v : List (Ev)) (k : Nat) (caps : List AV) (p : Nat → Bool) (hn : v.length ≤ 9223372036854775807) (b l : List Row)
    (hp : ∀ (i : Nat) (h : i < v.length), ACalls Try.prog k (.agg ((eEv v[i]).map .v) :: caps) (b ++ l) [] (fun r b' l' => r = .v (.bool (p i)) ∧ b' = b ++ l ∧ l' = [])) :
    ACalls Try.prog 24 [.v (.isl 5 (v.map eEv)), .fn k caps] b l (fun r b' l' => r = .v (.int .i64 (firstP p v.length)) ∧ b' = b ∧ l' = l) := by
  refine calls_kept a_IndE_ok rfl (by decide) ?_
  intro B g hB hR hE hA
  simp only [KArgs] at hA
  simp (disch := decide) only [a_IndE, hA, List.length_map, go_sem]
  refine loop_kept (ι := Nat) r_IndE0 (fun i => [(8, .v (.int .i64 i))]) 0 (fun _ => [])
    (fun i => i ≤ v.length ∧ ∀ j, j < i → p j = false) (fun i => v.length - i) 0 ⟨Nat.zero_le _, fun j hj => by omega⟩ (by (repeat (first | exact hE.mono (by omega) | refine KLt.up ?_ (by simp (disch := omega) only [AVlt_v, AVlt_any, AVlt_sl, AVlt_ptr, AVlt_mp, AVlt_agg, AVlt_tup, AVlt_fn, RowsLt_nil, RowsLt_live, RowsLt_dead, List.mem_cons, List.not_mem_nil, List.forall_mem_cons, List.forall_mem_nil, or_false, false_or, forall_eq_or_imp, forall_eq, vs_lt, Nat.add_lt_add_iff_left, Nat.reduceLT, true_and, and_true, and_self, List.length_cons, List.length_nil, Nat.reduceAdd, Nat.zero_add, implies_true, false_imp_iff, lt_T, List.mem_map])))) (by ((try simp (disch := decide) only [hA, go_sem]) <;> (repeat' (first | exact trivial | refine And.intro ?_ ?_)) <;> (first | rfl | (congr 2; omega)))) (fun e => Weak.refl _ _ _) ?_
  rintro g1 hE1 hEE1 hg1 i ⟨hi, h0⟩
  by_cases hlt : i < v.length
  · have hpi0 := hp i hlt
    try simp only [eEv, List.map_cons, List.map_nil] at hpi0
    simp (disch := (first | decide | omega)) only [hA, hg1, eEv, List.length_map, go_sem]
    refine ACalls_mono _ _ _ _ _ _ (hB ▸ hpi0) ?_
    rintro r b' l' ⟨rfl, rfl, rfl⟩
    cases hpi : p i
    · simp (disch := (first | decide | omega)) only [hA, hg1, hpi, go_sem]
      refine ⟨i + 1, ⟨hlt, fun j hj => ?_⟩, by simp only; omega, ?_⟩
      · rcases Nat.lt_or_ge j i with hji | hji
        · exact h0 j hji
        · have : j = i := by omega
          rw [this]; exact hpi
      exact Weak.kround (p := r_IndE0) (k := 0) (by ((repeat refine (kAny_up rfl).trans ?_); exact hEE1)) (by ((try simp (disch := decide) only [hA, go_sem]) <;> (repeat' (first | exact trivial | refine And.intro ?_ ?_)) <;> (first | rfl | (congr 2; omega)))) rfl hE1 (by simp) (by simp (disch := omega) only [KOvLt, AVlt_v, AVlt_any, AVlt_sl, AVlt_ptr, AVlt_mp, AVlt_agg, AVlt_tup, AVlt_fn, RowsLt_nil, RowsLt_live, RowsLt_dead, List.mem_cons, List.not_mem_nil, List.forall_mem_cons, List.forall_mem_nil, or_false, false_or, forall_eq_or_imp, forall_eq, vs_lt, Nat.add_lt_add_iff_left, Nat.reduceLT, true_and, and_true, and_self, List.length_cons, List.length_nil, Nat.reduceAdd, Nat.zero_add, implies_true, false_imp_iff, lt_T, List.mem_map]) hR (by simp (disch := omega) only [AVlt_v, AVlt_any, AVlt_sl, AVlt_ptr, AVlt_mp, AVlt_agg, AVlt_tup, AVlt_fn, RowsLt_nil, RowsLt_live, RowsLt_dead, List.mem_cons, List.not_mem_nil, List.forall_mem_cons, List.forall_mem_nil, or_false, false_or, forall_eq_or_imp, forall_eq, vs_lt, Nat.add_lt_add_iff_left, Nat.reduceLT, true_and, and_true, and_self, List.length_cons, List.length_nil, Nat.reduceAdd, Nat.zero_add, implies_true, false_imp_iff, lt_T, List.mem_map])
    · simp (disch := (first | decide | omega)) only [hA, hg1, hpi, go_sem]
      exact leave_pure (xs := [.v (.int .i64 i)]) (.inr rfl) (by simp (disch := (first | decide | omega)) only [resVs, resV, go_sem, hA, hg1]) (by simp only [one, AVlt_v, AVlt_any, AVlt_sl, AVlt_ptr, AVlt_mp, AVlt_agg, AVlt_tup, AVlt_fn, RowsLt_nil, RowsLt_live, RowsLt_dead, List.mem_cons, List.not_mem_nil, List.forall_mem_cons, List.forall_mem_nil, or_false, false_or, forall_eq_or_imp, forall_eq, vs_lt, Nat.add_lt_add_iff_left, Nat.reduceLT, true_and, and_true, and_self, List.length_cons, List.length_nil, Nat.reduceAdd, Nat.zero_add, implies_true, false_imp_iff, lt_T, List.mem_map]) hR hB ⟨by rw [firstP_at hlt h0 hpi]; rfl, rfl, rfl⟩
  · simp (disch := (first | decide | omega)) only [hA, hg1, List.length_map, go_sem]
    obtain rfl : i = v.length := by omega
    exact leave_pure (xs := [.v (.int .i64 (-1))]) (.inr rfl) (by simp (disch := (first | decide | omega)) only [resVs, resV, go_sem, hA, hg1]) (by simp only [one, AVlt_v, AVlt_any, AVlt_sl, AVlt_ptr, AVlt_mp, AVlt_agg, AVlt_tup, AVlt_fn, RowsLt_nil, RowsLt_live, RowsLt_dead, List.mem_cons, List.not_mem_nil, List.forall_mem_cons, List.forall_mem_nil, or_false, false_or, forall_eq_or_imp, forall_eq, vs_lt, Nat.add_lt_add_iff_left, Nat.reduceLT, true_and, and_true, and_self, List.length_cons, List.length_nil, Nat.reduceAdd, Nat.zero_add, implies_true, false_imp_iff, lt_T, List.mem_map]) hR hB ⟨by rw [firstP_none h0]; rfl, rfl, rfl⟩
theorem containsE_specL (v : List (Ev)) (k : Nat) (caps : List AV) (p : Nat → Bool) (hn : v.length ≤ 9223372036854775807) (b l : List Row)
    (hp : ∀ (i : Nat) (h : i < v.length), ACalls Try.prog k (.agg ((eEv v[i]).map .v) :: caps) (b ++ l) [] (fun r b' l' => r = .v (.bool (p i)) ∧ b' = b ++ l ∧ l' = [])) :
    ACalls Try.prog 75 [.v (.isl 5 (v.map eEv)), .fn k caps] b l (fun r b' l' => r = .v (.bool ((List.range v.length).any p)) ∧ b' = b ∧ l' = l) := by
  refine calls_kept a_ConE_ok rfl (by decide) ?_
  intro B g hB hR hE hA
  simp only [KArgs] at hA
  simp (disch := decide) only [a_ConE, hA, go_sem]
  refine ACalls.nxt (indexE_specL v k caps p hn B [] (by rw [List.append_nil, hB]; exact hp)) ?_
  simp (disch := decide) only [hA, go_sem]
  exact leave_pure (xs := [.v (.bool (decide (0 ≤ firstP p v.length)))]) (.inr rfl) (by simp (disch := (first | decide | omega)) only [resVs, resV, go_sem, hA]) (by simp only [one, AVlt_v, AVlt_any, AVlt_sl, AVlt_ptr, AVlt_mp, AVlt_agg, AVlt_tup, AVlt_fn, RowsLt_nil, RowsLt_live, RowsLt_dead, List.mem_cons, List.not_mem_nil, List.forall_mem_cons, List.forall_mem_nil, or_false, false_or, forall_eq_or_imp, forall_eq, vs_lt, Nat.add_lt_add_iff_left, Nat.reduceLT, true_and, and_true, and_self, List.length_cons, List.length_nil, Nat.reduceAdd, Nat.zero_add, implies_true, false_imp_iff, lt_T, List.mem_map]) hR hB ⟨by rw [firstP_ge]; rfl, rfl, rfl⟩

def lg12E (e : Ev) : Bool := decide (12 < e.asg.length)
def lg12P (x : Pr) : Bool := decide (12 < x.vars.length) || (List.range x.evs.length).any fun j => lg12E (x.evs.getD j dfEv)
/-- The number of events, as the program counts it. -/
def wcnt (t : Tr) : Nat → Int
  | 0 => 0
  | i + 1 => IntKind.i64.wrap (wcnt t i + ((evsOf t i).length : Int))
def sm16B (t : Tr) : Bool := decide (t.length ≤ 10) && (!((List.range t.length).any fun j => lg12P (t.getD j dfPr)) && decide (wcnt t t.length ≤ 60))
theorem small161_spec (e : Ev) (b l : List Row) : ACalls Try.prog 104 [.agg ((eEv e).map .v)] b l (fun r b' l' => r = .v (.bool (lg12E e)) ∧ b' = b ∧ l' = l) := by
  refine calls_kept a_small161_ok rfl (by decide) ?_
  intro B g hB hR hE hA
  simp only [KArgs] at hA
  have hd : decide ((e.asg.length : Int) > 12) = lg12E e := by unfold lg12E; rw [Bool.eq_iff_iff]; simp; omega
  have hd' : decide ((12 : Int) < e.asg.length) = lg12E e := hd
  simp (disch := (first | decide | omega)) only [a_small161, hA, eEv, List.length_map, hd, hd', go_sem]
  exact leave_pure (xs := [.v (.bool (lg12E e))]) (.inr rfl) (by simp (disch := (first | decide | omega)) only [resVs, resV, go_sem, hA]) (by simp only [one, AVlt_v, AVlt_any, AVlt_sl, AVlt_ptr, AVlt_mp, AVlt_agg, AVlt_tup, AVlt_fn, RowsLt_nil, RowsLt_live, RowsLt_dead, List.mem_cons, List.not_mem_nil, List.forall_mem_cons, List.forall_mem_nil, or_false, false_or, forall_eq_or_imp, forall_eq, vs_lt, Nat.add_lt_add_iff_left, Nat.reduceLT, true_and, and_true, and_self, List.length_cons, List.length_nil, Nat.reduceAdd, Nat.zero_add, implies_true, false_imp_iff, lt_T, List.mem_map]) hR hB ⟨rfl, rfl, rfl⟩
theorem any_last {n : Nat} {f : Nat → Bool} {i : Nat} (hi : i < n) (h : f i = true) : (List.range n).any f = true := List.any_eq_true.2 ⟨i, List.mem_range.2 hi, h⟩
theorem small16_spec (t : Tr) (hM : ∀ x ∈ t, x.evs.length ≤ 9223372036854775807) (b l : List Row) : ACalls Try.prog 54 [.agg [.v (eT t)]] b l (fun r b' l' => r = .v (.bool (sm16B t)) ∧ b' = b ∧ l' = l) := by
  refine calls_kept a_small16_ok rfl (by decide) ?_
  intro B g hB hR hE hA
  simp only [KArgs] at hA
  by_cases h1 : t.length ≤ 10
  case neg =>
    have hd : decide ((t.length : Int) > 10) = true := decide_eq_true (by omega)
    have hd' : decide ((10 : Int) < (t.length : Int)) = true := hd
    have hq : sm16B t = false := by unfold sm16B; rw [decide_eq_false h1]; rfl
    simp (disch := (first | decide | omega)) only [a_small16, hA, eT, List.length_map, hd, hd', go_sem]
    exact leave_pure (xs := [.v (.bool false)]) (.inr rfl) (by simp (disch := (first | decide | omega)) only [resVs, resV, go_sem, hA]) (by simp only [one, AVlt_v, AVlt_any, AVlt_sl, AVlt_ptr, AVlt_mp, AVlt_agg, AVlt_tup, AVlt_fn, RowsLt_nil, RowsLt_live, RowsLt_dead, List.mem_cons, List.not_mem_nil, List.forall_mem_cons, List.forall_mem_nil, or_false, false_or, forall_eq_or_imp, forall_eq, vs_lt, Nat.add_lt_add_iff_left, Nat.reduceLT, true_and, and_true, and_self, List.length_cons, List.length_nil, Nat.reduceAdd, Nat.zero_add, implies_true, false_imp_iff, lt_T, List.mem_map]) hR hB ⟨by rw [hq]; rfl, rfl, rfl⟩
  have hd : decide ((t.length : Int) > 10) = false := decide_eq_false (by omega)
  have hd' : decide ((10 : Int) < (t.length : Int)) = false := hd
  have hw0 : wcnt t 0 = 0 := rfl
  simp (disch := (first | decide | omega)) only [a_small16, hA, eT, List.length_map, hd, hd', go_sem]
  refine loop_kept (ι := Nat) r_small160 (fun i => [(13, .v (.int .i64 i)), (3, .v (.int .i64 (wcnt t i)))]) 1 (fun i => [.live 0 1 [[.v (.isl 3 (t.map ePr))]]])
    (fun i => i ≤ t.length ∧ ∀ j, j < i → lg12P (t.getD j dfPr) = false) (fun i => t.length - i) 0 ⟨Nat.zero_le _, fun j h => by omega⟩ (by (repeat (first | exact hE.mono (by omega) | refine KLt.up ?_ (by simp (disch := omega) only [AVlt_v, AVlt_any, AVlt_sl, AVlt_ptr, AVlt_mp, AVlt_agg, AVlt_tup, AVlt_fn, RowsLt_nil, RowsLt_live, RowsLt_dead, List.mem_cons, List.not_mem_nil, List.forall_mem_cons, List.forall_mem_nil, or_false, false_or, forall_eq_or_imp, forall_eq, vs_lt, Nat.add_lt_add_iff_left, Nat.reduceLT, true_and, and_true, and_self, List.length_cons, List.length_nil, Nat.reduceAdd, Nat.zero_add, implies_true, false_imp_iff, lt_T, List.mem_map])))) (by ((try simp (disch := decide) only [hA, hw0, go_sem]) <;> (repeat' (first | exact trivial | refine And.intro ?_ ?_)) <;> (first | rfl | (congr 2; omega)))) (fun e => Weak.refl _ _ _) ?_
  rintro g1 hE1 hEE1 hg1 i ⟨hi, hbef⟩
  by_cases hil : i < t.length
  · have hwn : IntKind.i64.wrap (wcnt t i + (t[i].evs.length : Int)) = wcnt t (i + 1) := by
      show _ = IntKind.i64.wrap (wcnt t i + ((evsOf t i).length : Int)); rw [evsOf_lt hil]
    have hlen := hM _ (List.getElem_mem hil)
    have hpe : lg12P (t.getD i dfPr) = (decide (12 < t[i].vars.length) || (List.range t[i].evs.length).any fun j => lg12E (t[i].evs.getD j dfEv)) := by rw [getD_at hil]; rfl
    have bad : lg12P (t.getD i dfPr) = true → sm16B t = false := fun h => by
      unfold sm16B; rw [any_last hil h]; simp
    by_cases hv : 12 < t[i].vars.length
    · have e1 : decide ((t[i].vars.length : Int) > 12) = true := decide_eq_true (by omega)
      have e1' : decide ((12 : Int) < (t[i].vars.length : Int)) = true := e1
      simp (disch := (first | decide | omega)) only [hA, hg1, ePr, List.length_map, hwn, e1, e1', go_sem]
      exact leave_pure (xs := [.v (.bool false)]) (.inr rfl) (by simp (disch := (first | decide | omega)) only [resVs, resV, go_sem, hA, hg1]) (by simp only [one, AVlt_v, AVlt_any, AVlt_sl, AVlt_ptr, AVlt_mp, AVlt_agg, AVlt_tup, AVlt_fn, RowsLt_nil, RowsLt_live, RowsLt_dead, List.mem_cons, List.not_mem_nil, List.forall_mem_cons, List.forall_mem_nil, or_false, false_or, forall_eq_or_imp, forall_eq, vs_lt, Nat.add_lt_add_iff_left, Nat.reduceLT, true_and, and_true, and_self, List.length_cons, List.length_nil, Nat.reduceAdd, Nat.zero_add, implies_true, false_imp_iff, lt_T, List.mem_map]) hR hB ⟨by rw [bad (by rw [hpe, decide_eq_true hv]; rfl)]; rfl, rfl, rfl⟩
    · have e1 : decide ((t[i].vars.length : Int) > 12) = false := decide_eq_false (by omega)
      have e1' : decide ((12 : Int) < (t[i].vars.length : Int)) = false := e1
      simp (disch := (first | decide | omega)) only [hA, hg1, ePr, List.length_map, hwn, e1, e1', go_sem]
      refine ACalls.nxt (containsE_specL t[i].evs _ [] (fun j => lg12E (t[i].evs.getD j dfEv)) hlen _ _ (fun k hk => by simp only [getD_at hk]; exact small161_spec _ _ _)) ?_
      cases hany : (List.range t[i].evs.length).any fun j => lg12E (t[i].evs.getD j dfEv) with
      | true =>
        simp (disch := (first | decide | omega)) only [hA, hg1, go_sem]
        exact leave_pure (xs := [.v (.bool false)]) (.inr rfl) (by simp (disch := (first | decide | omega)) only [resVs, resV, go_sem, hA, hg1]) (by simp only [one, AVlt_v, AVlt_any, AVlt_sl, AVlt_ptr, AVlt_mp, AVlt_agg, AVlt_tup, AVlt_fn, RowsLt_nil, RowsLt_live, RowsLt_dead, List.mem_cons, List.not_mem_nil, List.forall_mem_cons, List.forall_mem_nil, or_false, false_or, forall_eq_or_imp, forall_eq, vs_lt, Nat.add_lt_add_iff_left, Nat.reduceLT, true_and, and_true, and_self, List.length_cons, List.length_nil, Nat.reduceAdd, Nat.zero_add, implies_true, false_imp_iff, lt_T, List.mem_map]) hR hB ⟨by rw [bad (by rw [hpe, hany, Bool.or_true])]; rfl, rfl, rfl⟩
      | false =>
        simp (disch := (first | decide | omega)) only [hA, hg1, go_sem]
        refine ⟨i + 1, ⟨hil, fun j hj => ?_⟩, by simp only; omega, ?_⟩
        · by_cases hji : j = i
          · subst hji; rw [hpe, hany, decide_eq_false hv]; rfl
          · exact hbef j (by omega)
        · exact Weak.kround (p := r_small160) (k := 1) (by ((repeat refine (kAny_up rfl).trans ?_); exact hEE1)) (by ((try simp (disch := decide) only [hA, go_sem]) <;> (repeat' (first | exact trivial | refine And.intro ?_ ?_)) <;> (first | rfl | (congr 2; omega)))) rfl hE1 (by simp) (by simp (disch := omega) only [KOvLt, AVlt_v, AVlt_any, AVlt_sl, AVlt_ptr, AVlt_mp, AVlt_agg, AVlt_tup, AVlt_fn, RowsLt_nil, RowsLt_live, RowsLt_dead, List.mem_cons, List.not_mem_nil, List.forall_mem_cons, List.forall_mem_nil, or_false, false_or, forall_eq_or_imp, forall_eq, vs_lt, Nat.add_lt_add_iff_left, Nat.reduceLT, true_and, and_true, and_self, List.length_cons, List.length_nil, Nat.reduceAdd, Nat.zero_add, implies_true, false_imp_iff, lt_T, List.mem_map]) hR (by simp (disch := omega) only [AVlt_v, AVlt_any, AVlt_sl, AVlt_ptr, AVlt_mp, AVlt_agg, AVlt_tup, AVlt_fn, RowsLt_nil, RowsLt_live, RowsLt_dead, List.mem_cons, List.not_mem_nil, List.forall_mem_cons, List.forall_mem_nil, or_false, false_or, forall_eq_or_imp, forall_eq, vs_lt, Nat.add_lt_add_iff_left, Nat.reduceLT, true_and, and_true, and_self, List.length_cons, List.length_nil, Nat.reduceAdd, Nat.zero_add, implies_true, false_imp_iff, lt_T, List.mem_map])
  · obtain rfl : i = t.length := by omega
    have hno : ((List.range t.length).any fun j => lg12P (t.getD j dfPr)) = false := by
      rw [List.any_eq_false]; intro j hj; rw [hbef j (List.mem_range.1 hj)]; simp
    have hq : sm16B t = decide (wcnt t t.length ≤ 60) := by unfold sm16B; rw [decide_eq_true h1, hno]; rfl
    rw [hq]
    simp (disch := (first | decide | omega)) only [hA, hg1, go_sem]
    exact leave_pure (xs := [.v (.bool (decide (wcnt t t.length ≤ 60)))]) (.inr rfl) (by simp (disch := (first | decide | omega)) only [resVs, resV, go_sem, hA, hg1]) (by simp only [one, AVlt_v, AVlt_any, AVlt_sl, AVlt_ptr, AVlt_mp, AVlt_agg, AVlt_tup, AVlt_fn, RowsLt_nil, RowsLt_live, RowsLt_dead, List.mem_cons, List.not_mem_nil, List.forall_mem_cons, List.forall_mem_nil, or_false, false_or, forall_eq_or_imp, forall_eq, vs_lt, Nat.add_lt_add_iff_left, Nat.reduceLT, true_and, and_true, and_self, List.length_cons, List.length_nil, Nat.reduceAdd, Nat.zero_add, implies_true, false_imp_iff, lt_T, List.mem_map]) hR hB ⟨rfl, rfl, rfl⟩
theorem sm16_sm {t : Tr} (hM : ∀ x ∈ t, x.evs.length ≤ 9223372036854775807) (h : sm16B t = true) : Sm t := by
  simp only [sm16B, Bool.and_eq_true, decide_eq_true_eq, Bool.not_eq_true', List.any_eq_false, List.mem_range] at h
  obtain ⟨h1, h2, _⟩ := h
  have key : ∀ x ∈ t, x.vars.length ≤ 12 ∧ ∀ e ∈ x.evs, e.asg.length ≤ 12 := by
    intro x hx
    obtain ⟨i, hi, rfl⟩ := List.getElem_of_mem hx
    have := h2 i hi
    rw [getD_at hi] at this
    simp only [lg12P, Bool.or_eq_true, decide_eq_true_eq, List.any_eq_true, List.mem_range, not_or, not_exists, not_and] at this
    refine ⟨by omega, fun e he => ?_⟩
    obtain ⟨j, hj, rfl⟩ := List.getElem_of_mem he
    have h3 := this.2 j hj
    rw [getD_at hj] at h3
    simp only [lg12E, decide_eq_true_eq] at h3
    omega
  exact ⟨by omega, fun x hx => by have := (key x hx).1; omega, hM, fun x hx e he => by have := (key x hx).2 e he; omega⟩
end Go.Proofs.Ytoaopldaleaijaa

namespace Go.Proofs.Ytoaopldaleaijaa
set_option linter.unusedVariables false
set_option linter.unusedSimpArgs false

inductive IVle : IV → IV → Prop where
  | refl (x : IV) : IVle x x
  | zsl (sz : Nat) : IVle .zsl (.isl sz [])
  | isl (sz : Nat) (rows rows' : List (List IV)) (hl : rows.length = rows'.length) (hl2 : ∀ (k : Nat) (row row' : List IV), rows[k]? = some row → rows'[k]? = some row' → row.length = row'.length)
      (hr : ∀ (k : Nat) (row row' : List IV) (j : Nat) (a a' : IV), rows[k]? = some row → rows'[k]? = some row' → row[j]? = some a → row'[j]? = some a' → IVle a a') : IVle (.isl sz rows) (.isl sz rows')

theorem RepI.le {w : World} {F : Nat → Prop} {x y : IV} (h : IVle x y) : ∀ {v : Value}, RepI w F x v → RepI w F y v := by
  induction h with
  | refl x => exact fun h => h
  | zsl sz => intro v h; cases h; exact .isl0 _ _ _ (Nat.zero_le _)
  | isl sz rows rows' hl hl2 hr ih =>
    intro v h
    obtain ⟨A, c, rfl, h2, h3, h4⟩ := repI_isl h
    rw [hl] at h2 h4 ⊢
    refine isl_repI h2 h3 (fun h0 => ?_)
    obtain ⟨b, off, h5, h6, h7⟩ := h4 h0
    refine ⟨b, off, h5, h6, fun k row' hk' => ?_⟩
    have hk : k < rows.length := by rw [hl]; exact (List.getElem?_eq_some_iff.1 hk').1
    obtain ⟨g1, g2⟩ := h7 k rows[k] (List.getElem?_eq_getElem hk)
    have hll := hl2 k rows[k] row' (List.getElem?_eq_getElem hk) hk'
    refine ⟨by rw [← hll]; exact g1, fun j a' hj' => ?_⟩
    have hj : j < rows[k].length := by rw [hll]; exact (List.getElem?_eq_some_iff.1 hj').1
    obtain ⟨v, hv, hrep⟩ := g2 j rows[k][j] (List.getElem?_eq_getElem hj)
    exact ⟨v, hv, ih k _ _ j _ _ (List.getElem?_eq_getElem hk) hk' (List.getElem?_eq_getElem hj) hj' hrep⟩

/-- Row by row. -/
def RowsLe : List (List IV) → List (List IV) → Prop
  | [], [] => True
  | r :: rs, q :: qs => (r.length = q.length ∧ ∀ (j : Nat) (a a' : IV), r[j]? = some a → q[j]? = some a' → IVle a a') ∧ RowsLe rs qs
  | _, _ => False
theorem RowsLe.len : ∀ {r q : List (List IV)}, RowsLe r q → r.length = q.length
  | [], [], _ => rfl
  | _ :: _, _ :: _, h => by simp [RowsLe.len h.2]
  | [], _ :: _, h => h.elim
  | _ :: _, [], h => h.elim
theorem RowsLe.get : ∀ {r q : List (List IV)}, RowsLe r q → ∀ (k : Nat) (row row' : List IV), r[k]? = some row → q[k]? = some row' → row.length = row'.length ∧ ∀ (j : Nat) (a a' : IV), row[j]? = some a → row'[j]? = some a' → IVle a a'
  | [], [], _, k, row, row', h, _ => by simp at h
  | r :: rs, q :: qs, h, k, row, row', h1, h2 => by
    cases k with
    | zero => simp at h1 h2; subst h1; subst h2; exact h.1
    | succ k => simp at h1 h2; exact RowsLe.get h.2 k row row' h1 h2
  | [], _ :: _, h, _, _, _, _, _ => h.elim
  | _ :: _, [], h, _, _, _, _, _ => h.elim
theorem IVle.rows {sz : Nat} {r q : List (List IV)} (h : RowsLe r q) : IVle (.isl sz r) (.isl sz q) :=
  .isl sz r q h.len (fun k row row' h1 h2 => (h.get k row row' h1 h2).1) (fun k row row' j a a' h1 h2 => (h.get k row row' h1 h2).2 j a a')

inductive AVle : AV → AV → Prop where
  | refl (x : AV) : AVle x x
  | v (x y : IV) (h : IVle x y) : AVle (.v x) (.v y)
  | agg (cs ds : List AV) (hl : cs.length = ds.length) (h : ∀ (i : Nat) (a c : AV), cs[i]? = some a → ds[i]? = some c → AVle a c) : AVle (.agg cs) (.agg ds)
theorem RepA.le {w : World} {F : Nat → Prop} {L : LMap} {x y : AV} (h : AVle x y) : ∀ {v : Value}, RepA w F L x v → RepA w F L y v := by
  induction h with
  | refl x => exact fun h => h
  | v x y h => intro v hx; exact .v _ _ (hx.vI.le h)
  | agg cs ds hl h ih =>
    intro v hx
    obtain ⟨vs, rfl, hr⟩ := hx.aggL
    refine RepL.agg ⟨by rw [← hl]; exact hr.1, fun i c u hc hu => ?_⟩
    have hi : i < cs.length := by rw [hl]; exact (List.getElem?_eq_some_iff.1 hc).1
    exact ih i cs[i] c (List.getElem?_eq_getElem hi) hc (hr.2 i _ u (List.getElem?_eq_getElem hi) hu)
/-- Arguments that say more will do. -/
theorem ACalls.le {P : Program} {f : Nat} {args args' : List AV} {b l : List Row} {Q : AV → List Row → List Row → Prop} (h : ACalls P f args b l Q) (hl : args'.length = args.length) (hle : ∀ (i : Nat) (a c : AV), args'[i]? = some a → args[i]? = some c → AVle a c) : ACalls P f args' b l Q :=
  ⟨h.1, fun F L w vs s hr => h.2 F L w vs s ⟨by rw [← hl]; exact hr.1, fun i c v hc hv => by
    have hi : i < args'.length := by rw [hl]; exact (List.getElem?_eq_some_iff.1 hc).1
    exact RepA.le (hle i args'[i] c (List.getElem?_eq_getElem hi) hc) (hr.2 i _ v (List.getElem?_eq_getElem hi) hv)⟩⟩
/-- A state that says less. -/
theorem Weak.le {e e' : List AV} {b l : List Row} (hl : e.length = e'.length) (h : ∀ (i : Nat) (x y : AV), e[i]? = some x → e'[i]? = some y → AVle x y) : Weak e b l e' b l := by
  intro F L w a s hea
  refine ⟨F, L, s, ⟨hea.1, by rw [← hl]; exact hea.2.1, fun i y v hy hv => ?_⟩, Step.refl _ _ _ _ _, rfl⟩
  have hi : i < e.length := by rw [hl]; exact (List.getElem?_eq_some_iff.1 hy).1
  exact RepA.le (h i e[i] y (List.getElem?_eq_getElem hi) hy) (hea.2.2 i _ v (List.getElem?_eq_getElem hi) hv)
end Go.Proofs.Ytoaopldaleaijaa

namespace Go.Proofs.Ytoaopldaleaijaa
set_option linter.unusedVariables false
def concB (t : Tr) (rank : Nat × Nat → Nat) : Bool :=
  decide (1 ≤ t.length) && (decide (t.length ≤ 8) && ((List.range t.length).all (fun p => headF t p == 0) && ((ids t).all (fun x => formF t x == 0) && ((ids t).all (fun x => pairF t x == 0) && (ids t).all (fun x => (dirL t x).all fun y => decide (rank x < rank y))))))
theorem conc_fault {t : Tr} {rank : Nat × Nat → Nat} (h : concB t rank = true) : faultL t = ((0, 0), 0) := by
  simp only [concB, Bool.and_eq_true, decide_eq_true_eq, List.all_eq_true, beq_iff_eq] at h
  obtain ⟨h1, h2, h3, h4, h5, h6⟩ := h
  have hb : ∀ {x y : Nat × Nat}, Hb t x y → x ∈ ids t → rank x < rank y := by
    intro x y hxy
    induction hxy with
    | one h => intro hx; exact h6 _ hx _ (mem_dirL.2 h)
    | more h k ih =>
      intro hx
      exact Nat.lt_trans (ih hx) (h6 _ (Hb.mem hx h) _ (mem_dirL.2 k))
  unfold faultL
  rw [if_neg (by omega)]
  have e1 : (List.range t.length).find? (fun p => headF t p != 0) = none := by
    rw [List.find?_eq_none]; intro p hp; simp [h3 p hp]
  have e2 : (ids t).find? (fun x => formF t x != 0) = none := by
    rw [List.find?_eq_none]; intro p hp; simp [h4 p hp]
  have e3 : (ids t).find? (fun x => pairF t x != 0) = none := by
    rw [List.find?_eq_none]; intro p hp; simp [h5 p hp]
  rw [e1]; simp only
  rw [e2]; simp only
  rw [e3]; simp only
  have e4 : (ids t).find? (fun x => @decide (Hb t x x) (Classical.propDecidable _)) = none := by
    rw [List.find?_eq_none]
    intro x hx
    simp only [decide_eq_true_eq]
    intro hh
    have := hb hh hx
    omega
  rw [e4]
theorem conc_valid {t : Tr} {rank : Nat × Nat → Nat} (h : concB t rank = true) : validL t = true := by simp [validL, conc_fault h]
end Go.Proofs.Ytoaopldaleaijaa

namespace Go.Proofs.Ytoaopldaleaijaa
set_option linter.unusedVariables false
set_option linter.unusedSimpArgs false
def xOk : XV → Bool
  | .ok (.v (.bool true)) _ _ _ => true
  | _ => false
theorem xOk_ok {x : XV} (h : xOk x = true) : ∃ b l t, x = .ok (.v (.bool true)) b l t := by
  unfold xOk at h
  split at h
  · exact ⟨_, _, _, rfl⟩
  · exact absurd h (by decide)
noncomputable def tab15 : Nat → Option AFunc := fun f => cFunc Try.prog f
set_option maxRecDepth 100000
theorem getLe_nil {f : IV → IV → Prop} : ∀ (j : Nat) (a a' : IV), ([] : List IV)[j]? = some a → ([] : List IV)[j]? = some a' → f a a' := fun j a a' h => by simp at h
theorem getLe_cons {f : IV → IV → Prop} {x y : IV} {xs ys : List IV} (h : f x y) (hs : ∀ (j : Nat) (a a' : IV), xs[j]? = some a → ys[j]? = some a' → f a a') : ∀ (j : Nat) (a a' : IV), (x :: xs)[j]? = some a → (y :: ys)[j]? = some a' → f a a' := by
  intro j a a' h1 h2
  cases j with
  | zero => simp at h1 h2; subst h1; subst h2; exact h
  | succ j => simp at h1 h2; exact hs j a a' h1 h2
/-- A contract of a function without arguments that answers with a bool, with nothing said of rows: it holds among any rows. -/
theorem ACalls.lift_bool {P : Program} {f : Nat} {z : Bool} (h : ACalls P f [] [] [] (fun r _ _ => r = .v (.bool z))) (b l : List Row) : ACalls P f [] b l (fun r b' l' => r = .v (.bool z) ∧ b' = b ∧ l' = l) := by
  refine ACalls.of_ext h.1 (fun F L w vs hr => ?_)
  have hn : vs = #[] := Array.toList_inj.1 (repL_nil hr)
  subst hn
  refine (ACalls.calls h (vs := #[]) RepL.nil).mono ?_
  rintro en w' ⟨v, x, b', l', F', L', he, hx, hE, rfl⟩
  cases hx.vI
  exact ⟨hE, _, _, he, .v _ _ (.bool _), rfl, rfl, rfl⟩
end Go.Proofs.Ytoaopldaleaijaa

namespace Go.Proofs.Ytoaopldaleaijaa
set_option linter.unusedVariables false
set_option linter.unusedSimpArgs false
def pair16 : Tr := [⟨⟨#[97]⟩, [], [⟨2, 1, 0, 0, []⟩]⟩, ⟨⟨#[98]⟩, [], [⟨3, 0, 0, 0, []⟩]⟩]
def epair16 : IV := .isl 3 [[.str ⟨#[97]⟩, .zsl, .isl 5 [[.int .i64 2, .int .i64 1, .int .i64 0, .int .i64 0, .zsl]]], [.str ⟨#[98]⟩, .zsl, .isl 5 [[.int .i64 3, .int .i64 0, .int .i64 0, .int .i64 0, .zsl]]]]
def ora16 : Nat → List AV → Option AV := fun f args => if (f == 67 && eqL (eqA 20) args [.agg [.v epair16]]) = true then some (.v (.bool true)) else none
def frz16 : Nat → Nat := fun f => if f = 55 then 500 else 0
set_option maxRecDepth 100000
theorem run16 : xOk (E1.xcall tab15 ora16 frz16 (E1.exec tab15 ora16 frz16 3000) 53 [] [] []) = true := by kernel_rfl
theorem epair16_le : IVle epair16 (eT pair16) := by
  have ev : ∀ (a c d e : Int), IVle (.isl 5 [[.int .i64 a, .int .i64 c, .int .i64 d, .int .i64 e, .zsl]]) (.isl 5 [[.int .i64 a, .int .i64 c, .int .i64 d, .int .i64 e, .isl 2 []]]) := fun a c d e =>
    .rows ⟨⟨rfl, getLe_cons (.refl _) (getLe_cons (.refl _) (getLe_cons (.refl _) (getLe_cons (.refl _) (getLe_cons (.zsl 2) getLe_nil))))⟩, trivial⟩
  exact .rows ⟨⟨rfl, getLe_cons (.refl _) (getLe_cons (.zsl 2) (getLe_cons (ev _ _ _ _) getLe_nil))⟩, ⟨rfl, getLe_cons (.refl _) (getLe_cons (.zsl 2) (getLe_cons (ev _ _ _ _) getLe_nil))⟩, trivial⟩
theorem pair16_small : Small pair16 := ⟨by decide, by decide, by decide, by decide⟩
theorem pair16_nm : Nm pair16 := by
  intro p hp
  simp [pair16] at hp
  rcases hp with rfl | rfl <;> exact ⟨by decide, by simp⟩
theorem pair16_valid : validL pair16 = true := conc_valid (rank := fun x => x.1 * 10 + x.2) (by kernel_rfl)
theorem ora16_ok (f : Nat) (args : List AV) (y : AV) (h : ora16 f args = some y) (b l : List Row) : ACalls Try.prog f args b l (fun r b' l' => r = y ∧ b' = b ∧ l' = l) := by
  unfold ora16 at h
  split at h
  · rename_i hc
    simp only [Bool.and_eq_true, beq_iff_eq] at hc
    obtain ⟨rfl, h2⟩ := hc
    have h3 := eqL_eq (eqA_eq 20) h2
    subst h3
    cases h
    have hv := valid_spec pair16 pair16_small pair16_nm b l
    rw [pair16_valid] at hv
    refine ACalls.le hv rfl ?_
    intro i a c h1 h2
    cases i with
    | zero =>
      simp at h1 h2; subst h1; subst h2
      refine .agg _ _ rfl (fun i a c h1 h2 => ?_)
      cases i with
      | zero => simp at h1 h2; subst h1; subst h2; exact .v _ _ epair16_le
      | succ i => simp at h1
    | succ i => simp at h1
  · cases h
/-- The example of chapter 16. -/
theorem awake16_spec (b l : List Row) : ACalls Try.prog 53 [] b l (fun r b' l' => r = .v (.bool true) ∧ b' = b ∧ l' = l) := by
  obtain ⟨b1, l1, t, h⟩ := xOk_ok run16
  exact ACalls.lift_bool (E1.ACalls.of_exec (T := tab15) (O := ora16) (Z := frz16) (fun f af h => h) ora16_ok h) b l
end Go.Proofs.Ytoaopldaleaijaa

namespace Go.Proofs.Ytoaopldaleaijaa
set_option linter.unusedVariables false
set_option linter.unusedSimpArgs false
theorem mtx_at {t : Tr} {x : Nat × Nat} {q : Nat} : ∀ h, (mtx t x)[q]'h = vcs t (q, vc t x q) := fun h => fl_getE h
/-- What is known of a trace that is small for chapter 16, and valid. -/
theorem okTr_len {t : Tr} (h : OkTr t) : ∀ x ∈ t, x.evs.length ≤ 9223372036854775807 := fun x hx => by
  have := (h.2 x hx).2.2
  rwa [maxLen_eq] at this
theorem ids_valid {t : Tr} (hv : Vok t) : (ids t).length ≤ 1000000 := by
  have h8 := hv.hi
  have key : ∀ n, n ≤ t.length → ((List.range n).flatMap (idsOf t)).length ≤ 64 * n := by
    intro n
    induction n with
    | zero => intro _; simp
    | succ n ih =>
      intro hn
      rw [List.range_succ, List.flatMap_append, List.length_append]
      have h1 := ih (by omega)
      have h2 := head_evs (show n < t.length by omega) (hv.head n (by omega))
      have h3 : (List.flatMap (idsOf t) [n]).length ≤ 64 := by
        simp only [List.flatMap_cons, List.flatMap_nil, List.append_nil, idsOf, List.length_map, List.length_range]
        rw [evsOf_lt (by omega)]; exact h2
      omega
  have := key t.length (Nat.le_refl _)
  unfold ids
  omega
theorem any_no {n : Nat} {f : Nat → Bool} (h : ∀ i, i < n → f i = false) : (List.range n).any f = false := by
  rw [List.any_eq_false]; intro i hi; rw [h i (List.mem_range.1 hi)]; simp
theorem AtR_in {t : Tr} (hval : validL t = true) {p i : Nat} (hp : p < t.length) (hi : i ≤ (evsOf t p).length) : AtR t ((p : Int), (i : Int)) = .tup [.v (eMt t (p, i)), .v (.int .i64 0)] := by
  unfold AtR
  rw [if_pos hval, if_pos ⟨by simp only; omega, by simp only; omega, by simp only; omega, by simp only [Int.toNat_natCast]; omega⟩]
  simp
theorem vcs_at {t : Tr} {x : Nat × Nat} {q : Nat} : ∀ h, (vcs t x)[q]'h = (vc t x q : Int) := fun h => fl_getE h
theorem hb_lt {t : Tr} (hv : Vok t) {p i j : Nat} (hx : (p, i) ∈ ids t) (hy : (p, j) ∈ ids t) (h : Hb t (p, i) (p, j)) : i < j := by
  refine Nat.lt_of_not_le fun hle => ?_
  have h1 := rk_lt hv hy h
  have h2 : Le t (p, j) (p, i) := le_row hle (by have := (mem_ids.1 hx).2.2; rw [evsOf_lt (mem_ids.1 hx).1]; exact this)
  rcases h2 with h2 | h2
  · rw [h2] at h1; omega
  · have := rk_lt hv hx h2; omega
end Go.Proofs.Ytoaopldaleaijaa

namespace Go.Proofs.Ytoaopldaleaijaa
set_option linter.unusedVariables false
theorem tr_eid : TR Try.prog 26 2 (fun x : Int × Int => [.int .i64 x.1, .int .i64 x.2]) (fun x => (Lit.int .i64 x.1).wf = true ∧ (Lit.int .i64 x.2).wf = true) :=
  (tr_struct Try.underlying26 (trf_cons tr_i (by kernel_rfl) rfl (trf_cons tr_i (by kernel_rfl) rfl trf_nil))).map (fun y => (y.1, y.2.1)) (fun _ => rfl) (fun _ h => ⟨h.1, h.2.1⟩)
end Go.Proofs.Ytoaopldaleaijaa
