/- Texts of one proof, laid together: VE, VF, VG, VH, VJ, WU, VC, VX, MT, HE, HF, HI, HG. No condition. -/
import Derived.Test.YtoaopldaleaijaaSA8
import Derived.Test.YtoaopldaleaijaaSA3
import Derived.Test.YtoaopldaleaijaaSA2
import Derived.KernelRfl
import Derived.Test.YtoaopldaleaijaaProg
namespace Go.Proofs.Ytoaopldaleaijaa
set_option linter.unusedVariables false
set_option linter.unusedSimpArgs false
attribute [local go_sem ↓] run_skip run_region run_draw run_seq run_block run_exit run_ret run_cond atN_app seqC_normal seqC_exit seqC_ret seqQ_normal seqQ_exit seqQ_ret blkQ_normal blkQ_exit blkQ_ret runOps_nil runOps_cons runD_nil runD_cons grdO_true grdO_false grdD_true grdD_false ifC_true ifC_false opS_val opS_call opS_two opK_app dS_val dS_call dS_two dK_app kUp_same kUp_ne
attribute [local go_sem] rechks_nil rechks_cons rechk gcase_true gcase_false ex_val ex_val0 gd_none gd_some ev_t ev_c evs_nil evs_cons evo_some evo_none hget_at hget_first hsetB_at hsetB_first hsetL_at hsetL_first ofOpt_some aop aload astore aslice aappend aiaddr aiaddrA afaddr alen alenS acopy amm acall alookup amupdate alenM comma keyEq apick binV binVB binVS isSh intOp strOp boolOp shOp eqC eqF and2 cellsOf setFrom fillA fillS rd rdI elems mk bounds AV.cell List.all_cons List.all_nil Bool.and_true Bool.true_and Bool.and_self List.length_cons List.length_nil List.length_append Nat.reduceAdd Nat.reduceSub Nat.reduceMul Nat.zero_add Nat.add_zero List.cons_append List.nil_append List.append_assoc List.append_nil List.getElem?_cons_zero List.getElem?_cons_succ List.getElem?_nil List.set_cons_zero List.set_cons_succ List.drop_zero List.drop_succ_cons List.take_zero List.take_succ_cons List.take_nil List.drop_nil List.map_cons List.map_nil Option.map_some if_true if_false Bool.false_eq_true and_self true_and and_true Nat.reduceLeDiff Nat.reduceLT Nat.le_refl Nat.reduceEqDiff ite_true ite_false beq_self_eq_true beq_true beq_false Bool.not_true Bool.not_false Bool.true_beq Bool.false_beq map_vs vs_len vs_get vs_take vs_drop vs_snoc1 vs_snoc2 vs_snoc3 vs_snoc5 vs_set1 vs_set2 vs_rep wrap_id le_T lt_T le_F lt_F leI_T ltI_T leI_F ltI_F geI gtI get_T decide_true decide_false room List.getElem?_map List.length_map List.length_take Int.toNat_natCast Nat.min_def Nat.min_self nth_kOf put_kOf put_kNo kOv_cons kOv_nil KHas KArgs List.getElem_cons_zero List.getElem_cons_succ
def Dn (t : Tr) (D : Nat → Nat) : Prop := ∀ p, p < t.length → D p ≤ (evsOf t p).length
/-- What a round has done since its start at D0, before process n. -/
def Prg (t : Tr) (D0 D : Nat → Nat) (ag : Bool) (n : Nat) : Prop := Dn t D ∧ (ag = false → D = D0 ∧ ∀ q, q < n → ¬ Rdy t D0 q) ∧ (ag = true → remT t D < remT t D0)
theorem stR_lt0 {t : Tr} {m base : Nat} {D : Nat → Nat} (hm : base + (t.length + 3) ≤ m) : RowsLt m (.live 0 1 [[.v (.isl 3 (t.map ePr))]] :: .live 0 1 (fl t.length fun p => [.sl (base + (p + 1 + 1 + 1)) (D p) 0 (D p)]) :: .live 0 1 (vs (sentL t D)) :: fl t.length (cR t D)) := by
  have h := stR_lt (t := t) (D := D) hm RowsLt_nil
  unfold stR at h
  rwa [List.append_nil] at h
theorem oR_frz {n id ver sz base p : Nat} {rows : List (List IV)} {D : Nat → Nat} (hp : p < n) (hid : base + (n + 3) ≤ id) :
    ((fl n fun q => [AV.sl (base + (q + 1 + 1 + 1)) (D q) 0 (D q)]).set p [.sl (base + (p + 1 + 1 + 1)) (D p + 1) 0 (D p + 1)]).map (List.map (frz0 id ver sz rows)) = fl n fun q => [.sl (base + (q + 1 + 1 + 1)) (fUp D p (D p + 1) q) 0 (fUp D p (D p + 1) q)] := by
  rw [fl_set, fl_map]
  refine fl_congr (fun q hq => ?_)
  by_cases hqp : q = p
  · subst hqp
    rw [fUp_same, fUp_same]
    simp only [List.map_cons, List.map_nil, frz0]
    rw [if_neg (by omega)]
  · rw [fUp_ne hqp, fUp_ne hqp]
    simp only [List.map_cons, List.map_nil, frz0]
    rw [if_neg (by omega)]
theorem cR_frz {t : Tr} {id ver p : Nat} {D : Nat → Nat} (hp : p < t.length) :
    (fl t.length (fUp (cR t D) p (.live (D p + 1) 1 (vs (stRow t p (D p)) ++ [[.sl id ver 0 t.length]])))).map (rowMap (frz0 id ver 1 ((vcs t (p, D p + 1)).map eI))) = fl t.length (cR t (fUp D p (D p + 1))) := by
  rw [fl_map]
  refine fl_congr (fun q hq => ?_)
  by_cases hqp : q = p
  · subst hqp
    unfold cR
    rw [fUp_same, fUp_same]
    simp only [rowMap, List.map_append, vs_frz0, List.map_cons, List.map_nil, frz0]
    rw [if_pos ⟨trivial, trivial, by simp [vcs, fl_len]⟩, ← stRow_next]
    simp [vs, vcs, fl_len]
    unfold fl
    rw [List.take_of_length_le (by simp)]
  · unfold cR
    rw [fUp_ne hqp, fUp_ne hqp]
    simp only [rowMap, vs_frz0]
theorem sent_frz {t : Tr} (hv : Vok t) {id ver p m : Nat} {D : Nat → Nat} (hx : (p, D p + 1) ∈ ids t) (hk : (evAt t (p, D p + 1)).kind = 2) (hm : (evAt t (p, D p + 1)).msg = m) :
    ((vs (sentL t D)).set m [.sl id ver 0 t.length]).map (List.map (frz0 id ver 1 ((vcs t (p, D p + 1)).map eI))) = vs (sentL t (fUp D p (D p + 1))) := by
  rw [← sentL_send hv hx hk hm, List.map_set, vs_frz0]
  simp only [List.map_cons, List.map_nil, frz0]
  rw [if_pos ⟨trivial, trivial, by simp [vcs, fl_len]⟩]
  simp only [vs, List.map_set, List.map_cons, List.map_nil, List.drop_zero]
  rw [List.take_of_length_le (by simp [vcs, fl_len])]
/-- The row of a process at hand. -/
def xRow (x : Pr) : Row := .live 0 3 [[.v (.str x.name), .v (.isl 2 (x.vars.map eVr)), .v (.isl 5 (x.evs.map eEv))]]
theorem st_frz {t : Tr} {base ver p j : Nat} {D : Nat → Nat} {S : List (List AV)} {S' : List (List IV)} {x : Pr} {T : List Row} (hp : p < t.length)
    (hS : S.map (List.map (frz0 (base + (t.length + (j + 1) + 1 + 1 + 1)) ver 1 ((vcs t (p, D p + 1)).map eI))) = vs S') :
    ((Row.live 0 1 [[.v (.isl 3 (t.map ePr))]] :: Row.live 0 1 ((fl t.length fun q => [AV.sl (base + (q + 1 + 1 + 1)) (D q) 0 (D q)]).set p [.sl (base + (p + 1 + 1 + 1)) (D p + 1) 0 (D p + 1)]) :: Row.live 0 1 S ::
      (fl t.length (fUp (cR t D) p (.live (D p + 1) 1 (vs (stRow t p (D p)) ++ [[.sl (base + (t.length + (j + 1) + 1 + 1 + 1)) ver 0 t.length]]))) ++ xRow x :: T)).set (t.length + (j + 1) + 1 + 1 + 1) (.dead ver)).map (rowMap (frz0 (base + (t.length + (j + 1) + 1 + 1 + 1)) ver 1 ((vcs t (p, D p + 1)).map eI)))
    = (Row.live 0 1 [[.v (.isl 3 (t.map ePr))]] :: Row.live 0 1 (fl t.length fun q => [AV.sl (base + (q + 1 + 1 + 1)) (fUp D p (D p + 1) q) 0 (fUp D p (D p + 1) q)]) :: Row.live 0 1 (vs S') :: (fl t.length (cR t (fUp D p (D p + 1))) ++ [xRow x])) ++ (T.set j (.dead ver)).map (rowMap (frz0 (base + (t.length + (j + 1) + 1 + 1 + 1)) ver 1 ((vcs t (p, D p + 1)).map eI))) := by
  simp only [List.set_cons_succ, fa_settail, List.map_cons, List.map_append, rowMap, hS, cR_frz hp]
  rw [oR_frz hp (by omega)]
  simp [rowMap, xRow, frz0]
theorem stR_ltx {t : Tr} {m base : Nat} {D : Nat → Nat} {x : Pr} (hm : base + (t.length + 3) ≤ m) : RowsLt m (.live 0 1 [[.v (.isl 3 (t.map ePr))]] :: .live 0 1 (fl t.length fun p => [.sl (base + (p + 1 + 1 + 1)) (D p) 0 (D p)]) :: .live 0 1 (vs (sentL t D)) :: (fl t.length (cR t D) ++ [xRow x])) :=
  stR_lt (t := t) (D := D) (T := [xRow x]) hm (by simp (disch := omega) only [xRow, AVlt_v, AVlt_any, AVlt_sl, AVlt_ptr, AVlt_mp, AVlt_agg, AVlt_tup, AVlt_fn, RowsLt_nil, RowsLt_live, RowsLt_dead, List.mem_cons, List.not_mem_nil, List.forall_mem_cons, List.forall_mem_nil, or_false, false_or, forall_eq_or_imp, forall_eq, vs_lt, Nat.add_lt_add_iff_left, Nat.reduceLT, true_and, and_true, and_self, List.length_cons, List.length_nil, Nat.reduceAdd, Nat.zero_add, implies_true, false_imp_iff, lt_T, List.mem_map])
/-- The rows of the work, the first i frozen. -/
noncomputable def sfR (t : Tr) (base : Nat) (D : Nat → Nat) (i : Nat) : List Row :=
  .live 0 1 [[.v (.isl 3 (t.map ePr))]] :: .live 0 1 (fl t.length fun p => if p < i then [.v (.isl 1 (stRow t p (D p)))] else [.sl (base + (p + 1 + 1 + 1)) (D p) 0 (D p)]) :: .live 0 1 (vs (sentL t D)) :: fl t.length fun p => if p < i then .dead (D p) else cR t D p
theorem sfR_step {t : Tr} {base : Nat} {D : Nat → Nat} {i : Nat} (h : i < t.length) :
    ((sfR t base D i).set (i + 1 + 1 + 1) (.dead (D i))).map (rowMap (frz0 (base + (i + 1 + 1 + 1)) (D i) 1 (stRow t i (D i)))) = sfR t base D (i + 1) := by
  unfold sfR
  simp only [List.set_cons_succ, List.map_cons, rowMap, vs_frz0, fl_set, fl_map]
  have e0 : List.map (frz0 (base + (i + 1 + 1 + 1)) (D i) 1 (stRow t i (D i))) [AV.v (.isl 3 (t.map ePr))] = [AV.v (.isl 3 (t.map ePr))] := rfl
  refine congr (congrArg _ ?_) ?_
  · simp [frz0]
  refine congr (congrArg _ ?_) (congrArg _ ?_)
  · congr 1
    refine fl_congr (fun j hj => ?_)
    by_cases h1 : j < i
    · rw [if_pos h1, if_pos (by omega)]; rfl
    · rw [if_neg h1]
      by_cases h2 : j = i
      · subst h2
        rw [if_pos (by omega)]
        have : (stRow t j (D j)).length = D j := fl_len
        simp only [List.map_cons, List.map_nil, frz0]
        rw [if_pos ⟨trivial, trivial, by omega⟩, List.drop_zero, List.take_of_length_le (by omega)]
      · rw [if_neg (by omega)]
        simp only [List.map_cons, List.map_nil, frz0]
        rw [if_neg (by omega)]
  · refine fl_congr (fun j hj => ?_)
    by_cases h2 : j = i
    · subst h2
      rw [fUp_same, if_pos (by omega)]
    · rw [fUp_ne h2]
      by_cases h1 : j < i
      · rw [if_pos h1, if_pos (by omega)]
      · rw [if_neg h1, if_neg (by omega)]
        unfold cR
        simp only [rowMap, vs_frz0]
theorem Weak.sfrz {e : List AV} {b : List Row} {t : Tr} {D : Nat → Nat} (he : ∀ i, i < t.length → e.map (frz (b.length + (i + 1 + 1 + 1)) (D i) 1 (stRow t i (D i))) = e) : ∀ i, i ≤ t.length → Weak e b (sfR t b.length D 0) e b (sfR t b.length D i)
  | 0, _ => Weak.refl _ _ _
  | i + 1, hi => by
    refine (Weak.sfrz he i (by omega)).trans ?_
    have := Weak.freezeR (e := e) (b := b) (l := sfR t b.length D i) (i := i + 1 + 1 + 1) (ver := D i) (sz := 1) (rows := stRow t i (D i)) (by
      unfold sfR
      simp only [List.getElem?_cons_succ]
      rw [fl_get (by omega), if_neg (by omega)]; rfl)
    rwa [he i (by omega), sfR_step (by omega)] at this
theorem leave_st {rs : List ARes} {Q : AV → List Row → List Row → Prop} {B e l : _} {t : Tr} {D : Nat → Nat} (hD : ∀ p, p < t.length → D p = (evsOf t p).length) (hx : resVs e B l rs = some [.sl (B.length + 1) 0 0 t.length]) (hl : l = stR t B.length D [])
    (hR : RowsLt B.length B) {b0 l0 : List Row} (hB : B = b0 ++ l0) (hq : Q (.v (.isl 1 (stAll t t.length))) b0 l0) : Leaves rs Q b0.length .ret e B l := by
  have e1 : stR t B.length D [] = sfR t B.length D 0 := by
    unfold stR sfR
    rw [List.append_nil]
    simp
  have e2 : (sfR t B.length D t.length)[1]? = some (.live 0 1 (vs (stAll t t.length))) := by
    unfold sfR
    simp only [List.getElem?_cons_succ, List.getElem?_cons_zero]
    congr 2
    unfold vs stAll
    rw [fl_map]
    refine fl_congr (fun j hj => ?_)
    rw [if_pos hj, hD j hj]; rfl
  refine leave (.inr rfl) hx (y := .v (.isl 1 (stAll t t.length))) (l' := []) ?_ hB (by simpa using hq)
  rw [hl, e1]
  refine (Weak.sfrz (e := [one [AV.sl (B.length + 1) 0 0 t.length]]) (b := B) (fun i hi => ?_) t.length (Nat.le_refl _)).trans ?_
  · simp only [one, List.map_cons, List.map_nil, frz, frz0]
    rw [if_neg (by omega)]
  have h1 := Weak.freezeR (e := [one [AV.sl (B.length + 1) 0 0 t.length]]) (b := B) (i := 1) (rows := stAll t t.length) e2
  refine h1.trans ?_
  have h2 : List.map (frz (B.length + 1) 0 1 (stAll t t.length)) [one [AV.sl (B.length + 1) 0 0 t.length]] = [.v (.isl 1 (stAll t t.length))] := by
    simp [one, frz, frz0, stAll, fl_len]
    unfold fl
    rw [List.take_of_length_le (by simp)]
  rw [h2]
  exact Weak.trim (l1 := []) rfl (by
    intro x hx
    simp only [List.mem_singleton] at hx
    subst hx
    exact .v _) (by simpa using hR) RowsLt_nil
set_option maxRecDepth 20000 in
set_option maxHeartbeats 2000000 in
theorem stamps_spec (t : Tr) (hv : Vok t) (hS : Small t) (b l : List Row) :
    ACalls Try.prog 100 [.agg [.v (eT t)]] b l (fun r b' l' => r = .v (.isl 1 (stAll t t.length)) ∧ b' = b ∧ l' = l) := by
  refine calls_kept a_stamps_ok rfl (by decide) ?_
  intro B g hB hR hE hA
  simp only [KArgs] at hA
  have hlo := hv.hi
  simp (disch := (first | decide | omega)) only [a_stamps, eT, hA, List.length_map, go_sem]
  refine loop_kept (ι := (Nat → Nat) × Bool) r_stamps0 (fun i => [(5, .v (.bool i.2))]) (t.length + 3) (fun i => stR t B.length i.1 [])
    (fun i => Dn t i.1 ∧ (i.2 = false → ∀ p, p < t.length → i.1 p = (evsOf t p).length)) (fun i => 2 * remT t i.1 + cond i.2 1 0) (fun _ => 0, true) ⟨fun p hp => Nat.zero_le _, fun h => by cases h⟩ (by (repeat (first | exact hE.mono (by omega) | refine KLt.up ?_ (by simp (disch := omega) only [AVlt_v, AVlt_any, AVlt_sl, AVlt_ptr, AVlt_mp, AVlt_agg, AVlt_tup, AVlt_fn, RowsLt_nil, RowsLt_live, RowsLt_dead, List.mem_cons, List.not_mem_nil, List.forall_mem_cons, List.forall_mem_nil, or_false, false_or, forall_eq_or_imp, forall_eq, vs_lt, Nat.add_lt_add_iff_left, Nat.reduceLT, true_and, and_true, and_self, List.length_cons, List.length_nil, Nat.reduceAdd, Nat.zero_add, implies_true, false_imp_iff, lt_T, List.mem_map])))) (by ((try simp (disch := decide) only [hA, go_sem]) <;> (repeat' (first | exact trivial | refine And.intro ?_ ?_)) <;> (first | rfl | (congr 2; omega)))) (fun e => by have h := Weak.nilall (t := t) (e := e) (b := B); simp only [vs, List.map_replicate, List.map_cons, List.map_nil]; exact h) ?_
  rintro g1 hE1 hEE1 hg1 ⟨D0, ag0⟩ ⟨hD0, hag0⟩
  cases ag0 with
  | false =>
    have hall := hag0 rfl
    simp (disch := (first | decide | omega)) only [hA, hg1, go_sem]
    exact leave_st hall (by simp (disch := (first | decide | omega)) only [resVs, resV, hA, hg1, go_sem]) rfl hR hB ⟨rfl, rfl, rfl⟩
  | true =>
    simp (disch := (first | decide | omega)) only [hA, hg1, List.length_map, stR, go_sem]
    refine loop_kept (ι := Nat × (Nat → Nat) × Bool) r_stamps1 (fun i => [(5, .v (.bool i.2.2)), (20, .v (.int .i64 i.1))]) (t.length + 3) (fun i => stR t B.length i.2.1 [])
      (fun i => i.1 ≤ t.length ∧ Prg t D0 i.2.1 i.2.2 i.1) (fun i => t.length - i.1) (0, D0, false) ⟨Nat.zero_le _, hD0, fun _ => ⟨rfl, fun q hq => by omega⟩, fun h => by cases h⟩ (by (repeat (first | exact hE1.mono (by omega) | refine KLt.up ?_ (by simp (disch := omega) only [AVlt_v, AVlt_any, AVlt_sl, AVlt_ptr, AVlt_mp, AVlt_agg, AVlt_tup, AVlt_fn, RowsLt_nil, RowsLt_live, RowsLt_dead, List.mem_cons, List.not_mem_nil, List.forall_mem_cons, List.forall_mem_nil, or_false, false_or, forall_eq_or_imp, forall_eq, vs_lt, Nat.add_lt_add_iff_left, Nat.reduceLT, true_and, and_true, and_self, List.length_cons, List.length_nil, Nat.reduceAdd, Nat.zero_add, implies_true, false_imp_iff, lt_T, List.mem_map])))) (by ((try simp (disch := decide) only [hA, hg1, go_sem]) <;> (repeat' (first | exact trivial | refine And.intro ?_ ?_)) <;> (first | rfl | (congr 2; omega)))) (fun e => by unfold stR; rw [List.append_nil]; exact Weak.refl _ _ _) ?_
    rintro g2 hE2 hEE2 hg2 ⟨p, D1, ag1⟩ ⟨hp, hP1⟩
    simp only at hp hP1
    by_cases hlt : p < t.length
    · have heq := evsOf_lt hlt
      have hne := hS.ne _ (List.getElem_mem hlt)
      simp (disch := (first | decide | omega)) only [hA, hg1, hg2, ePr, List.length_map, stR, fl_len, fa_at, fa_tail, fa_tail0, fa_set, fa_settail, fa_settail0, fl_get, go_sem]
      refine loop_kept (ι := (Nat → Nat) × Bool) r_stamps2 (fun i => [(5, .v (.bool i.2))]) (t.length + 4) (fun i => stR t B.length i.1 [xRow t[p]])
        (fun i => Prg t D0 i.1 i.2 p) (fun i => remT t i.1) (D1, ag1) hP1 (by (repeat (first | exact hE2.mono (by omega) | refine KLt.up ?_ (by simp (disch := omega) only [AVlt_v, AVlt_any, AVlt_sl, AVlt_ptr, AVlt_mp, AVlt_agg, AVlt_tup, AVlt_fn, RowsLt_nil, RowsLt_live, RowsLt_dead, List.mem_cons, List.not_mem_nil, List.forall_mem_cons, List.forall_mem_nil, or_false, false_or, forall_eq_or_imp, forall_eq, vs_lt, Nat.add_lt_add_iff_left, Nat.reduceLT, true_and, and_true, and_self, List.length_cons, List.length_nil, Nat.reduceAdd, Nat.zero_add, implies_true, false_imp_iff, lt_T, List.mem_map])))) (by ((try simp (disch := decide) only [hA, hg1, hg2, go_sem]) <;> (repeat' (first | exact trivial | refine And.intro ?_ ?_)) <;> (first | rfl | (congr 2; omega)))) (fun e => by first | exact Weak.refl _ _ _) ?_
      rintro g3 hE3 hEE3 hg3 ⟨D, ag⟩ hP
      simp only at hP
      by_cases hd : D p < (evsOf t p).length
      · have hd' : D p < t[p].evs.length := by rw [← heq]; exact hd
        have hcd : decide ((D p : Int) < (t[p].evs.length : Int)) = true := decide_eq_true (by omega)
        simp (disch := (first | decide | omega)) only [hA, hg1, hg2, hg3, ePr, List.length_map, stR, fl_len, fa_at, fa_tail, fa_tail0, fa_set, fa_settail, fa_settail0, fl_get, xRow, hcd, eEv, go_sem]
        have hx : (p, D p + 1) ∈ ids t := mem_ids2.2 ⟨hlt, hd⟩
        have hev : evAt t (p, D p + 1) = t[p].evs[D p] := by unfold evAt; simp [heq, List.getD, hd']
        have hpl : (prvV t p (D p)).length = t.length := fl_len
        have hrl : (rcvV t p (D p)).length = t.length := rcvV_len
        have hn0 : ((t.length : Int) == 0) = false := beq_eq_false_iff_ne.2 (by omega)
        have hown : (rcvV t p (D p)).getD p 0 = (D p : Int) := by
          have h1 : ((rcvV t p (D p)).set p ((rcvV t p (D p)).getD p 0 + 1)).getD p 0 = (vcs t (p, D p + 1)).getD p 0 := by rw [vcs_set hv hx]
          rw [getD_at (by rw [List.length_set, hrl]; exact hlt), List.getElem_set_self] at h1
          unfold vcs at h1
          rw [fl_getD hlt, vc_own hv hx] at h1
          omega
        have hrg : (rcvV t p (D p))[p]? = some (D p : Int) := by rw [List.getElem?_eq_getElem (by rw [hrl]; exact hlt), ← getD_at (d := 0), hown]
        have hrs : ((rcvV t p (D p)).map eI).set p [.int .i64 ((D p : Int) + 1)] = (vcs t (p, D p + 1)).map eI := by
          rw [← vcs_set hv hx, hown, List.map_set]; rfl
        have h32 : ((3 : Int) == 2) = false := rfl
        have hprg : Prg t D0 (fUp D p (D p + 1)) true p := by
          have hst := remT_step hlt hd
          refine ⟨fun q hq => ?_, (fun h => by cases h), fun _ => ?_⟩
          · by_cases hqp : q = p
            · subst hqp; rw [fUp_same]; omega
            · rw [fUp_ne hqp]; exact hP.1 q hq
          · cases ag with
            | true => have := hP.2.2 rfl; omega
            | false => rw [← (hP.2.1 rfl).1]; omega
        have hvl : ∀ x, (vcs t x).length = t.length := fun x => fl_len
        have hsL : (sentL t D).length = 200 := fl_len
        have hrw : (stRow t p (D p)).length = D p := fl_len
        have tkr : List.take (D p) (stRow t p (D p)) = stRow t p (D p) := List.take_of_length_le (by omega)
        by_cases hk : 0 < D p
        · have hk1 : decide (0 < (D p : Int)) = true := decide_eq_true (by omega)
          have hkt : ((D p : Int) - 1).toNat = D p - 1 := by omega
          have hst : (stRow t p (D p))[D p - 1]? = some [.isl 1 ((prvV t p (D p)).map eI)] := by
            obtain ⟨k, hkk⟩ : ∃ k, D p = k + 1 := ⟨D p - 1, by omega⟩
            rw [hkk, prvV_succ]
            exact fl_get (by omega)
          have tk : List.take t.length ((prvV t p (D p)).map eI) = (prvV t p (D p)).map eI := List.take_of_length_le (by simp [hpl])
          have dr : List.drop t.length (List.replicate t.length [IV.int .i64 0]) = [] := List.drop_eq_nil_of_le (by simp)
          simp (disch := (first | decide | omega)) only [hA, hg1, hg2, hg3, List.length_map, fl_len, fa_at, fa_tail, fa_tail0, fa_set, fa_settail, fa_settail0, fl_get, List.length_replicate, vs_nil, List.length_set, hk1, hkt, hst, hpl, tk, dr, cR, go_sem]
          by_cases hk3 : t[p].evs[D p].kind = 3
          · -- receive
            obtain ⟨m, hm, hm2⟩ := msg_in hv hx (.inr (by rw [hev]; exact hk3))
            have hsv := sentV_recv hv hx (by rw [hev]; exact hk3) hm
            rw [hev] at hm
            have hsg : (sentL t D)[m]? = some [sentV t D m] := fl_get hm2
            by_cases hr : (sndr t (p, D p + 1)).2 ≤ D (sndr t (p, D p + 1)).1
            · rw [if_pos hr] at hsv
              rw [hsv] at hsg
              have hrv : joinV (prvV t p (D p)) (vcs t (sndr t (p, D p + 1))) = rcvV t p (D p) := by unfold rcvV; rw [if_pos (by rw [hev]; exact hk3)]
              simp (disch := (first | decide | omega)) only [hA, hg1, hg2, hg3, List.length_map, fl_len, fa_at, fa_tail, fa_tail0, fa_set, fa_settail, fa_settail0, fl_get, List.length_replicate, vs_nil, List.length_set, hk3, hm, hsg, hsL, hvl, hpl, hn0, go_sem]
              refine ACalls.frzB (i := t.length + 2 + 1 + 1 + 1) (ver := 0) (sz := 1) (rows := (prvV t p (D p)).map eI) (by simp only [List.getElem?_cons_succ, fa_tail, List.getElem?_cons_zero]) (by simp only [List.map_cons, List.map_nil]; rw [frz_own (by simp [hpl]), frz_v]) ?_
              refine ACalls.nxt (joined_own (prvV t p (D p)) (vcs t (sndr t (p, D p + 1))) (by omega) (by omega) (by rw [hpl, hvl]) _ _) ?_
              rw [hrv]
              simp (disch := (first | decide | omega)) only [hA, hg1, hg2, hg3, List.length_map, fl_len, fa_at, fa_tail, fa_tail0, fa_set, fa_settail, fa_settail0, fl_get, List.length_replicate, vs_nil, List.length_set, hk3, hm, hpl, hrl, hrg, hrs, eI, hrw, tkr, cR, h32, setFrom, cellsOf, go_sem]
              refine ⟨(fUp D p (D p + 1), true), hprg, by have := remT_step hlt hd; simp only; omega, ?_⟩
              rw [← sentL_other (D := D) (p := p) (by rw [hev, hk3]; decide)]
              exact Weak.kroundF (p := r_stamps2) (i := t.length + 3 + 1 + 1 + 1) (ver := 1) (sz := 1) (rows := (vcs t (p, D p + 1)).map eI) (k := t.length + 4) (by simp only [List.getElem?_cons_succ, fa_tail, List.getElem?_cons_zero]) (by ((repeat refine (kAny_up rfl).trans ?_); exact hEE3)) (by ((try simp (disch := decide) only [hA, go_sem]) <;> (repeat' (first | exact trivial | refine And.intro ?_ ?_)) <;> (first | rfl | (congr 2; omega)))) (st_frz (j := 2) (x := t[p]) hlt vs_frz0) (by (repeat (first | exact hE3.mono (by omega) | refine KLt.up ?_ (by simp (disch := omega) only [AVlt_v, AVlt_any, AVlt_sl, AVlt_ptr, AVlt_mp, AVlt_agg, AVlt_tup, AVlt_fn, RowsLt_nil, RowsLt_live, RowsLt_dead, List.mem_cons, List.not_mem_nil, List.forall_mem_cons, List.forall_mem_nil, or_false, false_or, forall_eq_or_imp, forall_eq, vs_lt, Nat.add_lt_add_iff_left, Nat.reduceLT, true_and, and_true, and_self, List.length_cons, List.length_nil, Nat.reduceAdd, Nat.zero_add, implies_true, false_imp_iff, lt_T, List.mem_map])))) (by simp [fl_len]) (by simp [fl_len]) (by simp (disch := omega) only [KOvLt, AVlt_v, AVlt_any, AVlt_sl, AVlt_ptr, AVlt_mp, AVlt_agg, AVlt_tup, AVlt_fn, RowsLt_nil, RowsLt_live, RowsLt_dead, List.mem_cons, List.not_mem_nil, List.forall_mem_cons, List.forall_mem_nil, or_false, false_or, forall_eq_or_imp, forall_eq, vs_lt, Nat.add_lt_add_iff_left, Nat.reduceLT, true_and, and_true, and_self, List.length_cons, List.length_nil, Nat.reduceAdd, Nat.zero_add, implies_true, false_imp_iff, lt_T, List.mem_map]) hR (stR_ltx (by simp [fl_len]))
            · rw [if_neg hr] at hsv
              rw [hsv] at hsg
              simp (disch := (first | decide | omega)) only [hA, hg1, hg2, hg3, List.length_map, fl_len, fa_at, fa_tail, fa_tail0, fa_set, fa_settail, fa_settail0, fl_get, List.length_replicate, vs_nil, List.length_set, hk3, hm, hsg, hsL, hvl, hpl, hn0, go_sem]
              refine ⟨(p + 1, D, ag), ⟨hlt, hP.1, fun h => ⟨(hP.2.1 h).1, fun q hq hr2 => ?_⟩, hP.2.2⟩, by simp only; omega, ?_⟩
              · by_cases hqp : q = p
                · subst hqp; rw [← (hP.2.1 h).1] at hr2; exact hr (hr2.2 (by rw [hev]; exact hk3))
                · exact (hP.2.1 h).2 q (by omega) hr2
              · refine Weak.kround (p := r_stamps1) (k := t.length + 3) (by ((repeat refine (kAny_up rfl).trans ?_); refine (kAny_sub hg3 (kIn_sub rfl)).trans ?_; (repeat refine (kAny_up rfl).trans ?_); exact hEE2)) (by ((try simp (disch := decide) only [hA, go_sem]) <;> (repeat' (first | exact trivial | refine And.intro ?_ ?_)) <;> (first | rfl | (congr 2; omega)))) rfl (by (repeat (first | exact hE2.mono (by omega) | refine KLt.up ?_ (by simp (disch := omega) only [AVlt_v, AVlt_any, AVlt_sl, AVlt_ptr, AVlt_mp, AVlt_agg, AVlt_tup, AVlt_fn, RowsLt_nil, RowsLt_live, RowsLt_dead, List.mem_cons, List.not_mem_nil, List.forall_mem_cons, List.forall_mem_nil, or_false, false_or, forall_eq_or_imp, forall_eq, vs_lt, Nat.add_lt_add_iff_left, Nat.reduceLT, true_and, and_true, and_self, List.length_cons, List.length_nil, Nat.reduceAdd, Nat.zero_add, implies_true, false_imp_iff, lt_T, List.mem_map])))) (by simp [fl_len]) (by simp (disch := omega) only [KOvLt, AVlt_v, AVlt_any, AVlt_sl, AVlt_ptr, AVlt_mp, AVlt_agg, AVlt_tup, AVlt_fn, RowsLt_nil, RowsLt_live, RowsLt_dead, List.mem_cons, List.not_mem_nil, List.forall_mem_cons, List.forall_mem_nil, or_false, false_or, forall_eq_or_imp, forall_eq, vs_lt, Nat.add_lt_add_iff_left, Nat.reduceLT, true_and, and_true, and_self, List.length_cons, List.length_nil, Nat.reduceAdd, Nat.zero_add, implies_true, false_imp_iff, lt_T, List.mem_map]) hR (stR_lt0 (by simp [fl_len]))
          · have hk3b : (t[p].evs[D p].kind == 3) = false := beq_eq_false_iff_ne.2 hk3
            have hrv : prvV t p (D p) = rcvV t p (D p) := by unfold rcvV; rw [if_neg (by rw [hev]; exact hk3)]
            by_cases hk2 : t[p].evs[D p].kind = 2
            · obtain ⟨m, hm, hm2⟩ := msg_in hv hx (.inl (by rw [hev]; exact hk2))
              have hm0 := hm
              rw [hev] at hm
              have h23 : ((2 : Int) == 3) = false := rfl
              have hsE : ∀ h : m < (sentL t D).length, (sentL t D)[m]'h = [sentV t D m] := fun h => fl_getE h
              simp (disch := (first | decide | omega)) only [hA, hg1, hg2, hg3, List.length_map, fl_len, fa_at, fa_tail, fa_tail0, fa_set, fa_settail, fa_settail0, fl_get, List.length_replicate, vs_nil, List.length_set, hk2, h23, hm, hsL, hsE, hrv, hrl, hrg, hrs, eI, hrw, tkr, cR, setFrom, cellsOf, go_sem]
              refine ⟨(fUp D p (D p + 1), true), hprg, by have := remT_step hlt hd; simp only; omega, ?_⟩
              exact Weak.kroundF (p := r_stamps2) (i := t.length + 2 + 1 + 1 + 1) (ver := 0) (sz := 1) (rows := (vcs t (p, D p + 1)).map eI) (k := t.length + 4) (by simp only [List.getElem?_cons_succ, fa_tail, List.getElem?_cons_zero]) (by ((repeat refine (kAny_up rfl).trans ?_); exact hEE3)) (by ((try simp (disch := decide) only [hA, go_sem]) <;> (repeat' (first | exact trivial | refine And.intro ?_ ?_)) <;> (first | rfl | (congr 2; omega)))) (st_frz (j := 1) (x := t[p]) hlt (sent_frz hv hx (by rw [hev]; exact hk2) hm0)) (by (repeat (first | exact hE3.mono (by omega) | refine KLt.up ?_ (by simp (disch := omega) only [AVlt_v, AVlt_any, AVlt_sl, AVlt_ptr, AVlt_mp, AVlt_agg, AVlt_tup, AVlt_fn, RowsLt_nil, RowsLt_live, RowsLt_dead, List.mem_cons, List.not_mem_nil, List.forall_mem_cons, List.forall_mem_nil, or_false, false_or, forall_eq_or_imp, forall_eq, vs_lt, Nat.add_lt_add_iff_left, Nat.reduceLT, true_and, and_true, and_self, List.length_cons, List.length_nil, Nat.reduceAdd, Nat.zero_add, implies_true, false_imp_iff, lt_T, List.mem_map])))) (by simp [fl_len]) (by simp [fl_len]) (by simp (disch := omega) only [KOvLt, AVlt_v, AVlt_any, AVlt_sl, AVlt_ptr, AVlt_mp, AVlt_agg, AVlt_tup, AVlt_fn, RowsLt_nil, RowsLt_live, RowsLt_dead, List.mem_cons, List.not_mem_nil, List.forall_mem_cons, List.forall_mem_nil, or_false, false_or, forall_eq_or_imp, forall_eq, vs_lt, Nat.add_lt_add_iff_left, Nat.reduceLT, true_and, and_true, and_self, List.length_cons, List.length_nil, Nat.reduceAdd, Nat.zero_add, implies_true, false_imp_iff, lt_T, List.mem_map]) hR (stR_ltx (by simp [fl_len]))
            · have hk2b : (t[p].evs[D p].kind == 2) = false := beq_eq_false_iff_ne.2 hk2
              simp (disch := (first | decide | omega)) only [hA, hg1, hg2, hg3, List.length_map, fl_len, fa_at, fa_tail, fa_tail0, fa_set, fa_settail, fa_settail0, fl_get, List.length_replicate, vs_nil, List.length_set, hk3b, hk2b, hrv, hrl, hrg, hrs, eI, hrw, tkr, cR, setFrom, cellsOf, go_sem]
              refine ⟨(fUp D p (D p + 1), true), hprg, by have := remT_step hlt hd; simp only; omega, ?_⟩
              rw [← sentL_other (D := D) (p := p) (by rw [hev]; exact hk2)]
              exact Weak.kroundF (p := r_stamps2) (i := t.length + 2 + 1 + 1 + 1) (ver := 0) (sz := 1) (rows := (vcs t (p, D p + 1)).map eI) (k := t.length + 4) (by simp only [List.getElem?_cons_succ, fa_tail, List.getElem?_cons_zero]) (by ((repeat refine (kAny_up rfl).trans ?_); exact hEE3)) (by ((try simp (disch := decide) only [hA, go_sem]) <;> (repeat' (first | exact trivial | refine And.intro ?_ ?_)) <;> (first | rfl | (congr 2; omega)))) (st_frz (j := 1) (x := t[p]) hlt vs_frz0) (by (repeat (first | exact hE3.mono (by omega) | refine KLt.up ?_ (by simp (disch := omega) only [AVlt_v, AVlt_any, AVlt_sl, AVlt_ptr, AVlt_mp, AVlt_agg, AVlt_tup, AVlt_fn, RowsLt_nil, RowsLt_live, RowsLt_dead, List.mem_cons, List.not_mem_nil, List.forall_mem_cons, List.forall_mem_nil, or_false, false_or, forall_eq_or_imp, forall_eq, vs_lt, Nat.add_lt_add_iff_left, Nat.reduceLT, true_and, and_true, and_self, List.length_cons, List.length_nil, Nat.reduceAdd, Nat.zero_add, implies_true, false_imp_iff, lt_T, List.mem_map])))) (by simp [fl_len]) (by simp [fl_len]) (by simp (disch := omega) only [KOvLt, AVlt_v, AVlt_any, AVlt_sl, AVlt_ptr, AVlt_mp, AVlt_agg, AVlt_tup, AVlt_fn, RowsLt_nil, RowsLt_live, RowsLt_dead, List.mem_cons, List.not_mem_nil, List.forall_mem_cons, List.forall_mem_nil, or_false, false_or, forall_eq_or_imp, forall_eq, vs_lt, Nat.add_lt_add_iff_left, Nat.reduceLT, true_and, and_true, and_self, List.length_cons, List.length_nil, Nat.reduceAdd, Nat.zero_add, implies_true, false_imp_iff, lt_T, List.mem_map]) hR (stR_ltx (by simp [fl_len]))
        · have hk1 : decide (0 < (D p : Int)) = false := decide_eq_false (by omega)
          have hz : D p = 0 := by omega
          have hv0 : List.replicate t.length [IV.int .i64 0] = (prvV t p (D p)).map eI := by rw [hz, prvV_zero]
          simp (disch := (first | decide | omega)) only [hA, hg1, hg2, hg3, List.length_map, fl_len, fa_at, fa_tail, fa_tail0, fa_set, fa_settail, fa_settail0, fl_get, List.length_replicate, vs_nil, List.length_set, hk1, hv0, cR, go_sem]
          by_cases hk3 : t[p].evs[D p].kind = 3
          · -- receive
            obtain ⟨m, hm, hm2⟩ := msg_in hv hx (.inr (by rw [hev]; exact hk3))
            have hsv := sentV_recv hv hx (by rw [hev]; exact hk3) hm
            rw [hev] at hm
            have hsg : (sentL t D)[m]? = some [sentV t D m] := fl_get hm2
            by_cases hr : (sndr t (p, D p + 1)).2 ≤ D (sndr t (p, D p + 1)).1
            · rw [if_pos hr] at hsv
              rw [hsv] at hsg
              have hrv : joinV (prvV t p (D p)) (vcs t (sndr t (p, D p + 1))) = rcvV t p (D p) := by unfold rcvV; rw [if_pos (by rw [hev]; exact hk3)]
              simp (disch := (first | decide | omega)) only [hA, hg1, hg2, hg3, List.length_map, fl_len, fa_at, fa_tail, fa_tail0, fa_set, fa_settail, fa_settail0, fl_get, List.length_replicate, vs_nil, List.length_set, hk3, hm, hsg, hsL, hvl, hpl, hn0, go_sem]
              refine ACalls.frzB (i := t.length + 2 + 1 + 1 + 1) (ver := 0) (sz := 1) (rows := (prvV t p (D p)).map eI) (by simp only [List.getElem?_cons_succ, fa_tail, List.getElem?_cons_zero]) (by simp only [List.map_cons, List.map_nil]; rw [frz_own (by simp [hpl]), frz_v]) ?_
              refine ACalls.nxt (joined_own (prvV t p (D p)) (vcs t (sndr t (p, D p + 1))) (by omega) (by omega) (by rw [hpl, hvl]) _ _) ?_
              rw [hrv]
              simp (disch := (first | decide | omega)) only [hA, hg1, hg2, hg3, List.length_map, fl_len, fa_at, fa_tail, fa_tail0, fa_set, fa_settail, fa_settail0, fl_get, List.length_replicate, vs_nil, List.length_set, hk3, hm, hpl, hrl, hrg, hrs, eI, hrw, tkr, cR, h32, setFrom, cellsOf, go_sem]
              refine ⟨(fUp D p (D p + 1), true), hprg, by have := remT_step hlt hd; simp only; omega, ?_⟩
              rw [← sentL_other (D := D) (p := p) (by rw [hev, hk3]; decide)]
              exact Weak.kroundF (p := r_stamps2) (i := t.length + 3 + 1 + 1 + 1) (ver := 1) (sz := 1) (rows := (vcs t (p, D p + 1)).map eI) (k := t.length + 4) (by simp only [List.getElem?_cons_succ, fa_tail, List.getElem?_cons_zero]) (by ((repeat refine (kAny_up rfl).trans ?_); exact hEE3)) (by ((try simp (disch := decide) only [hA, go_sem]) <;> (repeat' (first | exact trivial | refine And.intro ?_ ?_)) <;> (first | rfl | (congr 2; omega)))) (st_frz (j := 2) (x := t[p]) hlt vs_frz0) (by (repeat (first | exact hE3.mono (by omega) | refine KLt.up ?_ (by simp (disch := omega) only [AVlt_v, AVlt_any, AVlt_sl, AVlt_ptr, AVlt_mp, AVlt_agg, AVlt_tup, AVlt_fn, RowsLt_nil, RowsLt_live, RowsLt_dead, List.mem_cons, List.not_mem_nil, List.forall_mem_cons, List.forall_mem_nil, or_false, false_or, forall_eq_or_imp, forall_eq, vs_lt, Nat.add_lt_add_iff_left, Nat.reduceLT, true_and, and_true, and_self, List.length_cons, List.length_nil, Nat.reduceAdd, Nat.zero_add, implies_true, false_imp_iff, lt_T, List.mem_map])))) (by simp [fl_len]) (by simp [fl_len]) (by simp (disch := omega) only [KOvLt, AVlt_v, AVlt_any, AVlt_sl, AVlt_ptr, AVlt_mp, AVlt_agg, AVlt_tup, AVlt_fn, RowsLt_nil, RowsLt_live, RowsLt_dead, List.mem_cons, List.not_mem_nil, List.forall_mem_cons, List.forall_mem_nil, or_false, false_or, forall_eq_or_imp, forall_eq, vs_lt, Nat.add_lt_add_iff_left, Nat.reduceLT, true_and, and_true, and_self, List.length_cons, List.length_nil, Nat.reduceAdd, Nat.zero_add, implies_true, false_imp_iff, lt_T, List.mem_map]) hR (stR_ltx (by simp [fl_len]))
            · rw [if_neg hr] at hsv
              rw [hsv] at hsg
              simp (disch := (first | decide | omega)) only [hA, hg1, hg2, hg3, List.length_map, fl_len, fa_at, fa_tail, fa_tail0, fa_set, fa_settail, fa_settail0, fl_get, List.length_replicate, vs_nil, List.length_set, hk3, hm, hsg, hsL, hvl, hpl, hn0, go_sem]
              refine ⟨(p + 1, D, ag), ⟨hlt, hP.1, fun h => ⟨(hP.2.1 h).1, fun q hq hr2 => ?_⟩, hP.2.2⟩, by simp only; omega, ?_⟩
              · by_cases hqp : q = p
                · subst hqp; rw [← (hP.2.1 h).1] at hr2; exact hr (hr2.2 (by rw [hev]; exact hk3))
                · exact (hP.2.1 h).2 q (by omega) hr2
              · refine Weak.kround (p := r_stamps1) (k := t.length + 3) (by ((repeat refine (kAny_up rfl).trans ?_); refine (kAny_sub hg3 (kIn_sub rfl)).trans ?_; (repeat refine (kAny_up rfl).trans ?_); exact hEE2)) (by ((try simp (disch := decide) only [hA, go_sem]) <;> (repeat' (first | exact trivial | refine And.intro ?_ ?_)) <;> (first | rfl | (congr 2; omega)))) rfl (by (repeat (first | exact hE2.mono (by omega) | refine KLt.up ?_ (by simp (disch := omega) only [AVlt_v, AVlt_any, AVlt_sl, AVlt_ptr, AVlt_mp, AVlt_agg, AVlt_tup, AVlt_fn, RowsLt_nil, RowsLt_live, RowsLt_dead, List.mem_cons, List.not_mem_nil, List.forall_mem_cons, List.forall_mem_nil, or_false, false_or, forall_eq_or_imp, forall_eq, vs_lt, Nat.add_lt_add_iff_left, Nat.reduceLT, true_and, and_true, and_self, List.length_cons, List.length_nil, Nat.reduceAdd, Nat.zero_add, implies_true, false_imp_iff, lt_T, List.mem_map])))) (by simp [fl_len]) (by simp (disch := omega) only [KOvLt, AVlt_v, AVlt_any, AVlt_sl, AVlt_ptr, AVlt_mp, AVlt_agg, AVlt_tup, AVlt_fn, RowsLt_nil, RowsLt_live, RowsLt_dead, List.mem_cons, List.not_mem_nil, List.forall_mem_cons, List.forall_mem_nil, or_false, false_or, forall_eq_or_imp, forall_eq, vs_lt, Nat.add_lt_add_iff_left, Nat.reduceLT, true_and, and_true, and_self, List.length_cons, List.length_nil, Nat.reduceAdd, Nat.zero_add, implies_true, false_imp_iff, lt_T, List.mem_map]) hR (stR_lt0 (by simp [fl_len]))
          · have hk3b : (t[p].evs[D p].kind == 3) = false := beq_eq_false_iff_ne.2 hk3
            have hrv : prvV t p (D p) = rcvV t p (D p) := by unfold rcvV; rw [if_neg (by rw [hev]; exact hk3)]
            by_cases hk2 : t[p].evs[D p].kind = 2
            · obtain ⟨m, hm, hm2⟩ := msg_in hv hx (.inl (by rw [hev]; exact hk2))
              have hm0 := hm
              rw [hev] at hm
              have h23 : ((2 : Int) == 3) = false := rfl
              have hsE : ∀ h : m < (sentL t D).length, (sentL t D)[m]'h = [sentV t D m] := fun h => fl_getE h
              simp (disch := (first | decide | omega)) only [hA, hg1, hg2, hg3, List.length_map, fl_len, fa_at, fa_tail, fa_tail0, fa_set, fa_settail, fa_settail0, fl_get, List.length_replicate, vs_nil, List.length_set, hk2, h23, hm, hsL, hsE, hrv, hrl, hrg, hrs, eI, hrw, tkr, cR, setFrom, cellsOf, go_sem]
              refine ⟨(fUp D p (D p + 1), true), hprg, by have := remT_step hlt hd; simp only; omega, ?_⟩
              exact Weak.kroundF (p := r_stamps2) (i := t.length + 2 + 1 + 1 + 1) (ver := 0) (sz := 1) (rows := (vcs t (p, D p + 1)).map eI) (k := t.length + 4) (by simp only [List.getElem?_cons_succ, fa_tail, List.getElem?_cons_zero]) (by ((repeat refine (kAny_up rfl).trans ?_); exact hEE3)) (by ((try simp (disch := decide) only [hA, go_sem]) <;> (repeat' (first | exact trivial | refine And.intro ?_ ?_)) <;> (first | rfl | (congr 2; omega)))) (st_frz (j := 1) (x := t[p]) hlt (sent_frz hv hx (by rw [hev]; exact hk2) hm0)) (by (repeat (first | exact hE3.mono (by omega) | refine KLt.up ?_ (by simp (disch := omega) only [AVlt_v, AVlt_any, AVlt_sl, AVlt_ptr, AVlt_mp, AVlt_agg, AVlt_tup, AVlt_fn, RowsLt_nil, RowsLt_live, RowsLt_dead, List.mem_cons, List.not_mem_nil, List.forall_mem_cons, List.forall_mem_nil, or_false, false_or, forall_eq_or_imp, forall_eq, vs_lt, Nat.add_lt_add_iff_left, Nat.reduceLT, true_and, and_true, and_self, List.length_cons, List.length_nil, Nat.reduceAdd, Nat.zero_add, implies_true, false_imp_iff, lt_T, List.mem_map])))) (by simp [fl_len]) (by simp [fl_len]) (by simp (disch := omega) only [KOvLt, AVlt_v, AVlt_any, AVlt_sl, AVlt_ptr, AVlt_mp, AVlt_agg, AVlt_tup, AVlt_fn, RowsLt_nil, RowsLt_live, RowsLt_dead, List.mem_cons, List.not_mem_nil, List.forall_mem_cons, List.forall_mem_nil, or_false, false_or, forall_eq_or_imp, forall_eq, vs_lt, Nat.add_lt_add_iff_left, Nat.reduceLT, true_and, and_true, and_self, List.length_cons, List.length_nil, Nat.reduceAdd, Nat.zero_add, implies_true, false_imp_iff, lt_T, List.mem_map]) hR (stR_ltx (by simp [fl_len]))
            · have hk2b : (t[p].evs[D p].kind == 2) = false := beq_eq_false_iff_ne.2 hk2
              simp (disch := (first | decide | omega)) only [hA, hg1, hg2, hg3, List.length_map, fl_len, fa_at, fa_tail, fa_tail0, fa_set, fa_settail, fa_settail0, fl_get, List.length_replicate, vs_nil, List.length_set, hk3b, hk2b, hrv, hrl, hrg, hrs, eI, hrw, tkr, cR, setFrom, cellsOf, go_sem]
              refine ⟨(fUp D p (D p + 1), true), hprg, by have := remT_step hlt hd; simp only; omega, ?_⟩
              rw [← sentL_other (D := D) (p := p) (by rw [hev]; exact hk2)]
              exact Weak.kroundF (p := r_stamps2) (i := t.length + 2 + 1 + 1 + 1) (ver := 0) (sz := 1) (rows := (vcs t (p, D p + 1)).map eI) (k := t.length + 4) (by simp only [List.getElem?_cons_succ, fa_tail, List.getElem?_cons_zero]) (by ((repeat refine (kAny_up rfl).trans ?_); exact hEE3)) (by ((try simp (disch := decide) only [hA, go_sem]) <;> (repeat' (first | exact trivial | refine And.intro ?_ ?_)) <;> (first | rfl | (congr 2; omega)))) (st_frz (j := 1) (x := t[p]) hlt vs_frz0) (by (repeat (first | exact hE3.mono (by omega) | refine KLt.up ?_ (by simp (disch := omega) only [AVlt_v, AVlt_any, AVlt_sl, AVlt_ptr, AVlt_mp, AVlt_agg, AVlt_tup, AVlt_fn, RowsLt_nil, RowsLt_live, RowsLt_dead, List.mem_cons, List.not_mem_nil, List.forall_mem_cons, List.forall_mem_nil, or_false, false_or, forall_eq_or_imp, forall_eq, vs_lt, Nat.add_lt_add_iff_left, Nat.reduceLT, true_and, and_true, and_self, List.length_cons, List.length_nil, Nat.reduceAdd, Nat.zero_add, implies_true, false_imp_iff, lt_T, List.mem_map])))) (by simp [fl_len]) (by simp [fl_len]) (by simp (disch := omega) only [KOvLt, AVlt_v, AVlt_any, AVlt_sl, AVlt_ptr, AVlt_mp, AVlt_agg, AVlt_tup, AVlt_fn, RowsLt_nil, RowsLt_live, RowsLt_dead, List.mem_cons, List.not_mem_nil, List.forall_mem_cons, List.forall_mem_nil, or_false, false_or, forall_eq_or_imp, forall_eq, vs_lt, Nat.add_lt_add_iff_left, Nat.reduceLT, true_and, and_true, and_self, List.length_cons, List.length_nil, Nat.reduceAdd, Nat.zero_add, implies_true, false_imp_iff, lt_T, List.mem_map]) hR (stR_ltx (by simp [fl_len]))
      · have hcd : decide ((D p : Int) < (t[p].evs.length : Int)) = false := decide_eq_false (by rw [heq] at hd; omega)
        simp (disch := (first | decide | omega)) only [hA, hg1, hg2, hg3, ePr, List.length_map, stR, fl_len, fa_at, fa_tail, fa_tail0, fa_set, fa_settail, fa_settail0, fl_get, xRow, hcd, go_sem]
        refine ⟨(p + 1, D, ag), ⟨hlt, hP.1, fun h => ⟨(hP.2.1 h).1, fun q hq hr => ?_⟩, hP.2.2⟩, by simp only; omega, ?_⟩
        · by_cases hqp : q = p
          · subst hqp; rw [← (hP.2.1 h).1] at hr; exact hd hr.1
          · exact (hP.2.1 h).2 q (by omega) hr
        · refine Weak.kround (p := r_stamps1) (k := t.length + 3) (junk := [xRow t[p]]) (by ((repeat refine (kAny_up rfl).trans ?_); refine (kAny_sub hg3 (kIn_sub rfl)).trans ?_; (repeat refine (kAny_up rfl).trans ?_); exact hEE2)) (by ((try simp (disch := decide) only [hA, go_sem]) <;> (repeat' (first | exact trivial | refine And.intro ?_ ?_)) <;> (first | rfl | (congr 2; omega)))) (by simp [xRow]) (by (repeat (first | exact hE2.mono (by omega) | refine KLt.up ?_ (by simp (disch := omega) only [AVlt_v, AVlt_any, AVlt_sl, AVlt_ptr, AVlt_mp, AVlt_agg, AVlt_tup, AVlt_fn, RowsLt_nil, RowsLt_live, RowsLt_dead, List.mem_cons, List.not_mem_nil, List.forall_mem_cons, List.forall_mem_nil, or_false, false_or, forall_eq_or_imp, forall_eq, vs_lt, Nat.add_lt_add_iff_left, Nat.reduceLT, true_and, and_true, and_self, List.length_cons, List.length_nil, Nat.reduceAdd, Nat.zero_add, implies_true, false_imp_iff, lt_T, List.mem_map])))) (by simp [fl_len]) (by simp (disch := omega) only [KOvLt, AVlt_v, AVlt_any, AVlt_sl, AVlt_ptr, AVlt_mp, AVlt_agg, AVlt_tup, AVlt_fn, RowsLt_nil, RowsLt_live, RowsLt_dead, List.mem_cons, List.not_mem_nil, List.forall_mem_cons, List.forall_mem_nil, or_false, false_or, forall_eq_or_imp, forall_eq, vs_lt, Nat.add_lt_add_iff_left, Nat.reduceLT, true_and, and_true, and_self, List.length_cons, List.length_nil, Nat.reduceAdd, Nat.zero_add, implies_true, false_imp_iff, lt_T, List.mem_map]) hR (stR_lt0 (by simp [fl_len]))
    · simp (disch := (first | decide | omega)) only [hA, hg1, hg2, List.length_map, stR, go_sem]
      obtain rfl : p = t.length := by omega
      refine ⟨(D1, ag1), ⟨hP1.1, fun h => ?_⟩, ?_, ?_⟩
      · obtain ⟨e1, e2⟩ := hP1.2.1 h
        simp only
        rw [e1]
        exact none_left hv hD0 e2
      · cases ag1 with
        | true => have := hP1.2.2 rfl; simp only [cond]; omega
        | false => rw [(hP1.2.1 rfl).1]; simp only [cond]; omega
      · refine Weak.kround (p := r_stamps0) (k := t.length + 3) (junk := []) (by ((repeat refine (kAny_up rfl).trans ?_); refine (kAny_sub hg2 (kIn_sub rfl)).trans ?_; (repeat refine (kAny_up rfl).trans ?_); exact hEE1)) (by ((try simp (disch := decide) only [hA, go_sem]) <;> (repeat' (first | exact trivial | refine And.intro ?_ ?_)) <;> (first | rfl | (congr 2; omega)))) (by simp) (by (repeat (first | exact hE1.mono (by omega) | refine KLt.up ?_ (by simp (disch := omega) only [AVlt_v, AVlt_any, AVlt_sl, AVlt_ptr, AVlt_mp, AVlt_agg, AVlt_tup, AVlt_fn, RowsLt_nil, RowsLt_live, RowsLt_dead, List.mem_cons, List.not_mem_nil, List.forall_mem_cons, List.forall_mem_nil, or_false, false_or, forall_eq_or_imp, forall_eq, vs_lt, Nat.add_lt_add_iff_left, Nat.reduceLT, true_and, and_true, and_self, List.length_cons, List.length_nil, Nat.reduceAdd, Nat.zero_add, implies_true, false_imp_iff, lt_T, List.mem_map])))) (by simp [fl_len]) (by simp (disch := omega) only [KOvLt, AVlt_v, AVlt_any, AVlt_sl, AVlt_ptr, AVlt_mp, AVlt_agg, AVlt_tup, AVlt_fn, RowsLt_nil, RowsLt_live, RowsLt_dead, List.mem_cons, List.not_mem_nil, List.forall_mem_cons, List.forall_mem_nil, or_false, false_or, forall_eq_or_imp, forall_eq, vs_lt, Nat.add_lt_add_iff_left, Nat.reduceLT, true_and, and_true, and_self, List.length_cons, List.length_nil, Nat.reduceAdd, Nat.zero_add, implies_true, false_imp_iff, lt_T, List.mem_map]) hR (stR_lt0 (by simp [fl_len]))
end Go.Proofs.Ytoaopldaleaijaa

namespace Go.Proofs.Ytoaopldaleaijaa
set_option linter.unusedVariables false
set_option linter.unusedSimpArgs false
attribute [local go_sem ↓] run_skip run_region run_draw run_seq run_block run_exit run_ret run_cond atN_app seqC_normal seqC_exit seqC_ret seqQ_normal seqQ_exit seqQ_ret blkQ_normal blkQ_exit blkQ_ret runOps_nil runOps_cons runD_nil runD_cons grdO_true grdO_false grdD_true grdD_false ifC_true ifC_false opS_val opS_call opS_two opK_app dS_val dS_call dS_two dK_app kUp_same kUp_ne
attribute [local go_sem] rechks_nil rechks_cons rechk gcase_true gcase_false ex_val ex_val0 gd_none gd_some ev_t ev_c evs_nil evs_cons evo_some evo_none hget_at hget_first hsetB_at hsetB_first hsetL_at hsetL_first ofOpt_some aop aload astore aslice aappend aiaddr aiaddrA afaddr alen alenS acopy amm acall alookup amupdate alenM comma keyEq apick binV binVB binVS isSh intOp strOp boolOp shOp eqC eqF and2 cellsOf setFrom fillA fillS rd rdI elems mk bounds AV.cell List.all_cons List.all_nil Bool.and_true Bool.true_and Bool.and_self List.length_cons List.length_nil List.length_append Nat.reduceAdd Nat.reduceSub Nat.reduceMul Nat.zero_add Nat.add_zero List.cons_append List.nil_append List.append_assoc List.append_nil List.getElem?_cons_zero List.getElem?_cons_succ List.getElem?_nil List.set_cons_zero List.set_cons_succ List.drop_zero List.drop_succ_cons List.take_zero List.take_succ_cons List.take_nil List.drop_nil List.map_cons List.map_nil Option.map_some if_true if_false Bool.false_eq_true and_self true_and and_true Nat.reduceLeDiff Nat.reduceLT Nat.le_refl Nat.reduceEqDiff ite_true ite_false beq_self_eq_true beq_true beq_false Bool.not_true Bool.not_false Bool.true_beq Bool.false_beq map_vs vs_len vs_get vs_take vs_drop vs_snoc1 vs_snoc2 vs_snoc3 vs_snoc5 vs_set1 vs_set2 vs_rep wrap_id le_T lt_T le_F lt_F leI_T ltI_T leI_F ltI_F geI gtI get_T decide_true decide_false room List.getElem?_map List.length_map List.length_take Int.toNat_natCast Nat.min_def Nat.min_self nth_kOf put_kOf put_kNo kOv_cons kOv_nil KHas KArgs List.getElem_cons_zero List.getElem_cons_succ
def a_vStamps : AFunc := ⟨1, 9, [.tmp 2, .tmp 3],
  (.seq (.region [⟨(some 1), .box (.t 0), none⟩, ⟨(some 2), .mv (.c (.v .zsl)), none⟩, ⟨(some 3), .mv (.c (.v (.int .i64 0))), none⟩])
  (.seq (.seq (.region [⟨(some 4), .load (some 1) (.t 1), none⟩, ⟨(some 5), .call (.c (.fn 67 [])) [(.t 4)], none⟩, ⟨(some 6), .not (.t 5), none⟩])
  (.cond (.t 6) (.seq (.region [⟨(some 2), .mv (.c (.v .zsl)), none⟩, ⟨(some 3), .mv (.c (.v (.int .i64 1))), none⟩])
  .ret)
  .skip))
  (.seq (.region [⟨(some 7), .load (some 1) (.t 1), none⟩, ⟨(some 8), .call (.c (.fn 100 [])) [(.t 7)], none⟩, ⟨(some 2), .mv (.t 8), none⟩, ⟨(some 3), .mv (.c (.v (.int .i64 0))), none⟩])
  .ret)))⟩
theorem a_vStamps_ok : cFunc Try.prog 50 = some a_vStamps := by kernel_rfl

def eMx (m : List (List Int)) : List IV := [.isl 1 (m.map eRw)]
end Go.Proofs.Ytoaopldaleaijaa

namespace Go.Proofs.Ytoaopldaleaijaa
set_option linter.unusedVariables false
set_option linter.unusedSimpArgs false
attribute [local go_sem ↓] run_skip run_region run_draw run_seq run_block run_exit run_ret run_cond atN_app seqC_normal seqC_exit seqC_ret seqQ_normal seqQ_exit seqQ_ret blkQ_normal blkQ_exit blkQ_ret runOps_nil runOps_cons runD_nil runD_cons grdO_true grdO_false grdD_true grdD_false ifC_true ifC_false opS_val opS_call opS_two opK_app dS_val dS_call dS_two dK_app kUp_same kUp_ne
attribute [local go_sem] rechks_nil rechks_cons rechk gcase_true gcase_false ex_val ex_val0 gd_none gd_some ev_t ev_c evs_nil evs_cons evo_some evo_none hget_at hget_first hsetB_at hsetB_first hsetL_at hsetL_first ofOpt_some aop aload astore aslice aappend aiaddr aiaddrA afaddr alen alenS acopy amm acall alookup amupdate alenM comma keyEq apick binV binVB binVS isSh intOp strOp boolOp shOp eqC eqF and2 cellsOf setFrom fillA fillS rd rdI elems mk bounds AV.cell List.all_cons List.all_nil Bool.and_true Bool.true_and Bool.and_self List.length_cons List.length_nil List.length_append Nat.reduceAdd Nat.reduceSub Nat.reduceMul Nat.zero_add Nat.add_zero List.cons_append List.nil_append List.append_assoc List.append_nil List.getElem?_cons_zero List.getElem?_cons_succ List.getElem?_nil List.set_cons_zero List.set_cons_succ List.drop_zero List.drop_succ_cons List.take_zero List.take_succ_cons List.take_nil List.drop_nil List.map_cons List.map_nil Option.map_some if_true if_false Bool.false_eq_true and_self true_and and_true Nat.reduceLeDiff Nat.reduceLT Nat.le_refl Nat.reduceEqDiff ite_true ite_false beq_self_eq_true beq_true beq_false Bool.not_true Bool.not_false Bool.true_beq Bool.false_beq map_vs vs_len vs_get vs_take vs_drop vs_snoc1 vs_snoc2 vs_snoc3 vs_snoc5 vs_set1 vs_set2 vs_rep wrap_id le_T lt_T le_F lt_F leI_T ltI_T leI_F ltI_F geI gtI get_T decide_true decide_false room List.getElem?_map List.length_map List.length_take Int.toNat_natCast Nat.min_def Nat.min_self nth_kOf put_kOf put_kNo kOv_cons kOv_nil KHas KArgs List.getElem_cons_zero List.getElem_cons_succ
/-- The stamps of a trace, as lists. -/
noncomputable def stL (t : Tr) : List (List (List Int)) := fl t.length fun p => fl (evsOf t p).length fun i => vcs t (p, i + 1)
theorem stL_all {t : Tr} : stAll t t.length = (stL t).map eMx := by
  unfold stAll stL
  rw [fl_map]
  refine fl_congr (fun p _ => ?_)
  unfold eMx stRow
  rw [fl_map]; rfl
theorem stL_len {t : Tr} : (stL t).length = t.length := fl_len
theorem vStamps_spec (t : Tr) (hS : Small t) (hN : Nm t) (b l : List Row) :
    ACalls Try.prog 50 [.agg [.v (eT t)]] b l (fun r b' l' => r = (if validL t = true then .tup [.v (.isl 1 ((stL t).map eMx)), .v (.int .i64 0)] else .tup [.v .zsl, .v (.int .i64 1)]) ∧ b' = b ∧ l' = l) := by
  refine calls_kept a_vStamps_ok rfl (by decide) ?_
  intro B g hB hR hE hA
  simp only [KArgs] at hA
  simp (disch := decide) only [a_vStamps, hA, go_sem]
  refine ACalls.nxt (valid_spec t hS hN _ _) ?_
  cases hval : validL t with
  | false =>
    simp (disch := decide) only [hA, go_sem]
    exact leave_pure (xs := [.v .zsl, .v (.int .i64 1)]) (.inr rfl) (by simp (disch := (first | decide | omega)) only [resVs, resV, go_sem, hA]) (by simp only [one, AVlt_v, AVlt_any, AVlt_sl, AVlt_ptr, AVlt_mp, AVlt_agg, AVlt_tup, AVlt_fn, RowsLt_nil, RowsLt_live, RowsLt_dead, List.mem_cons, List.not_mem_nil, List.forall_mem_cons, List.forall_mem_nil, or_false, false_or, forall_eq_or_imp, forall_eq, vs_lt, Nat.add_lt_add_iff_left, Nat.reduceLT, true_and, and_true, and_self, List.length_cons, List.length_nil, Nat.reduceAdd, Nat.zero_add, implies_true, false_imp_iff, lt_T, List.mem_map]) hR hB ⟨rfl, rfl, rfl⟩
  | true =>
    have hv := vok hval
    have hst := fun b l => stamps_spec t hv hS b l
    simp only [stL_all] at hst
    simp (disch := decide) only [hA, go_sem]
    refine ACalls.nxt (hst _ _) ?_
    simp (disch := decide) only [hA, go_sem]
    exact leave_pure (xs := [.v (.isl 1 ((stL t).map eMx)), .v (.int .i64 0)]) (.inr rfl) (by simp (disch := (first | decide | omega)) only [resVs, resV, go_sem, hA]) (by simp only [one, AVlt_v, AVlt_any, AVlt_sl, AVlt_ptr, AVlt_mp, AVlt_agg, AVlt_tup, AVlt_fn, RowsLt_nil, RowsLt_live, RowsLt_dead, List.mem_cons, List.not_mem_nil, List.forall_mem_cons, List.forall_mem_nil, or_false, false_or, forall_eq_or_imp, forall_eq, vs_lt, Nat.add_lt_add_iff_left, Nat.reduceLT, true_and, and_true, and_self, List.length_cons, List.length_nil, Nat.reduceAdd, Nat.zero_add, implies_true, false_imp_iff, lt_T, List.mem_map]) hR hB ⟨rfl, rfl, rfl⟩
end Go.Proofs.Ytoaopldaleaijaa

namespace Go.Proofs.Ytoaopldaleaijaa
set_option linter.unusedVariables false
set_option linter.unusedSimpArgs false
attribute [local go_sem ↓] run_skip run_region run_draw run_seq run_block run_exit run_ret run_cond atN_app seqC_normal seqC_exit seqC_ret seqQ_normal seqQ_exit seqQ_ret blkQ_normal blkQ_exit blkQ_ret runOps_nil runOps_cons runD_nil runD_cons grdO_true grdO_false grdD_true grdD_false ifC_true ifC_false opS_val opS_call opS_two opK_app dS_val dS_call dS_two dK_app kUp_same kUp_ne
attribute [local go_sem] rechks_nil rechks_cons rechk gcase_true gcase_false ex_val ex_val0 gd_none gd_some ev_t ev_c evs_nil evs_cons evo_some evo_none hget_at hget_first hsetB_at hsetB_first hsetL_at hsetL_first ofOpt_some aop aload astore aslice aappend aiaddr aiaddrA afaddr alen alenS acopy amm acall alookup amupdate alenM comma keyEq apick binV binVB binVS isSh intOp strOp boolOp shOp eqC eqF and2 cellsOf setFrom fillA fillS rd rdI elems mk bounds AV.cell List.all_cons List.all_nil Bool.and_true Bool.true_and Bool.and_self List.length_cons List.length_nil List.length_append Nat.reduceAdd Nat.reduceSub Nat.reduceMul Nat.zero_add Nat.add_zero List.cons_append List.nil_append List.append_assoc List.append_nil List.getElem?_cons_zero List.getElem?_cons_succ List.getElem?_nil List.set_cons_zero List.set_cons_succ List.drop_zero List.drop_succ_cons List.take_zero List.take_succ_cons List.take_nil List.drop_nil List.map_cons List.map_nil Option.map_some if_true if_false Bool.false_eq_true and_self true_and and_true Nat.reduceLeDiff Nat.reduceLT Nat.le_refl Nat.reduceEqDiff ite_true ite_false beq_self_eq_true beq_true beq_false Bool.not_true Bool.not_false Bool.true_beq Bool.false_beq map_vs vs_len vs_get vs_take vs_drop vs_snoc1 vs_snoc2 vs_snoc3 vs_snoc5 vs_set1 vs_set2 vs_rep wrap_id le_T lt_T le_F lt_F leI_T ltI_T leI_F ltI_F geI gtI get_T decide_true decide_false room List.getElem?_map List.length_map List.length_take Int.toNat_natCast Nat.min_def Nat.min_self nth_kOf put_kOf put_kNo kOv_cons kOv_nil KHas KArgs List.getElem_cons_zero List.getElem_cons_succ
def a_IndP : AFunc := ⟨2, 19, [.tmp 4],
  (.seq (.region [⟨(some 4), .mv (.c (.v (.int .i64 0))), none⟩])
  (.seq (.seq (.region [⟨(some 6), .mv (.t 0), none⟩, ⟨(some 7), .len (.t 6), none⟩, ⟨(some 8), .mv (.c (.v (.int .i64 0))), none⟩])
  (.block 0 (.loop (.seq (.region [⟨(some 9), .bin .lss (.t 8) (.t 7), none⟩])
  (.seq (.cond (.t 9) .skip
  (.exit 0))
  (.seq (.block 1 (.seq (.region [⟨(some 10), .mv (.t 8), none⟩, ⟨(some 5), .mv (.t 10), none⟩])
  (.seq (.region [⟨(some 11), .mv (.t 1), none⟩, ⟨(some 12), .mv (.t 0), none⟩, ⟨(some 13), .mv (.t 5), none⟩, ⟨(some 14), .iaddr 3 (.t 12) (.t 13), none⟩, ⟨(some 15), .load (some 3) (.t 14), none⟩, ⟨(some 16), .call (.t 11) [(.t 15)], none⟩])
  (.cond (.t 16) (.seq (.region [⟨(some 17), .mv (.t 5), none⟩, ⟨(some 4), .mv (.t 17), none⟩])
  .ret)
  .skip))))
  (.region [⟨(some 18), .bin .add (.t 8) (.c (.v (.int .i64 1))), none⟩, ⟨(some 8), .mv (.t 18), none⟩])))))))
  (.seq (.region [⟨(some 4), .mv (.c (.v (.int .i64 (-1)))), none⟩])
  .ret)))⟩
theorem a_IndP_ok : cFunc Try.prog 126 = some a_IndP := by kernel_rfl
def r_IndP0 : List (Nat × Nat) := [(4, 5), (8, 18)]
def a_ConP : AFunc := ⟨2, 9, [.tmp 4],
  (.seq (.region [⟨(some 4), .mv (.c (.v (.bool false))), none⟩])
  (.seq (.region [⟨(some 5), .mv (.t 0), none⟩, ⟨(some 6), .mv (.t 1), none⟩, ⟨(some 7), .call (.c (.fn 126 [])) [(.t 5), (.t 6)], none⟩, ⟨(some 8), .bin .geq (.t 7) (.c (.v (.int .i64 0))), none⟩, ⟨(some 4), .mv (.t 8), none⟩])
  .ret))⟩
theorem a_ConP_ok : cFunc Try.prog 73 = some a_ConP := by kernel_rfl
def a_IndE : AFunc := ⟨2, 19, [.tmp 4],
  (.seq (.region [⟨(some 4), .mv (.c (.v (.int .i64 0))), none⟩])
  (.seq (.seq (.region [⟨(some 6), .mv (.t 0), none⟩, ⟨(some 7), .len (.t 6), none⟩, ⟨(some 8), .mv (.c (.v (.int .i64 0))), none⟩])
  (.block 0 (.loop (.seq (.region [⟨(some 9), .bin .lss (.t 8) (.t 7), none⟩])
  (.seq (.cond (.t 9) .skip
  (.exit 0))
  (.seq (.block 1 (.seq (.region [⟨(some 10), .mv (.t 8), none⟩, ⟨(some 5), .mv (.t 10), none⟩])
  (.seq (.region [⟨(some 11), .mv (.t 1), none⟩, ⟨(some 12), .mv (.t 0), none⟩, ⟨(some 13), .mv (.t 5), none⟩, ⟨(some 14), .iaddr 5 (.t 12) (.t 13), none⟩, ⟨(some 15), .load (some 5) (.t 14), none⟩, ⟨(some 16), .call (.t 11) [(.t 15)], none⟩])
  (.cond (.t 16) (.seq (.region [⟨(some 17), .mv (.t 5), none⟩, ⟨(some 4), .mv (.t 17), none⟩])
  .ret)
  .skip))))
  (.region [⟨(some 18), .bin .add (.t 8) (.c (.v (.int .i64 1))), none⟩, ⟨(some 8), .mv (.t 18), none⟩])))))))
  (.seq (.region [⟨(some 4), .mv (.c (.v (.int .i64 (-1)))), none⟩])
  .ret)))⟩
theorem a_IndE_ok : cFunc Try.prog 24 = some a_IndE := by kernel_rfl
def r_IndE0 : List (Nat × Nat) := [(4, 5), (8, 18)]
def a_ConE : AFunc := ⟨2, 9, [.tmp 4],
  (.seq (.region [⟨(some 4), .mv (.c (.v (.bool false))), none⟩])
  (.seq (.region [⟨(some 5), .mv (.t 0), none⟩, ⟨(some 6), .mv (.t 1), none⟩, ⟨(some 7), .call (.c (.fn 24 [])) [(.t 5), (.t 6)], none⟩, ⟨(some 8), .bin .geq (.t 7) (.c (.v (.int .i64 0))), none⟩, ⟨(some 4), .mv (.t 8), none⟩])
  .ret))⟩
theorem a_ConE_ok : cFunc Try.prog 75 = some a_ConE := by kernel_rfl
def a_few15 : AFunc := ⟨1, 13, [.tmp 2],
  (.seq (.region [⟨(some 1), .box (.t 0), none⟩, ⟨(some 2), .mv (.c (.v (.bool false))), none⟩])
  (.seq (.region [⟨(some 3), .faddr 0 (.t 1), none⟩, ⟨(some 4), .load none (.t 3), none⟩, ⟨(some 5), .len (.t 4), none⟩, ⟨(some 6), .bin .leq (.t 5) (.c (.v (.int .i64 10))), none⟩, ⟨(some 7), .mv (.t 6), none⟩, ⟨(some 8), .faddr 0 (.t 1), some (7, true)⟩, ⟨(some 9), .load none (.t 8), some (7, true)⟩, ⟨(some 10), .call (.c (.fn 73 [])) [(.t 9), (.c (.fn 98 []))], some (7, true)⟩, ⟨(some 11), .not (.t 10), some (7, true)⟩, ⟨(some 12), .pick (.t 7) (.t 11) (.c (.v (.bool false))), none⟩, ⟨(some 2), .mv (.t 12), none⟩])
  .ret))⟩
theorem a_few15_ok : cFunc Try.prog 48 = some a_few15 := by kernel_rfl
def a_few15P : AFunc := ⟨1, 18, [.tmp 2],
  (.seq (.region [⟨(some 1), .box (.t 0), none⟩, ⟨(some 2), .mv (.c (.v (.bool false))), none⟩])
  (.seq (.region [⟨(some 3), .faddr 2 (.t 1), none⟩, ⟨(some 4), .load none (.t 3), none⟩, ⟨(some 5), .len (.t 4), none⟩, ⟨(some 6), .bin .gtr (.t 5) (.c (.v (.int .i64 20))), none⟩, ⟨(some 7), .mv (.t 6), none⟩, ⟨(some 8), .faddr 1 (.t 1), some (7, false)⟩, ⟨(some 9), .load none (.t 8), some (7, false)⟩, ⟨(some 10), .len (.t 9), some (7, false)⟩, ⟨(some 11), .bin .gtr (.t 10) (.c (.v (.int .i64 20))), some (7, false)⟩, ⟨(some 12), .pick (.t 7) (.c (.v (.bool true))) (.t 11), none⟩, ⟨(some 13), .mv (.t 12), none⟩, ⟨(some 14), .faddr 2 (.t 1), some (13, false)⟩, ⟨(some 15), .load none (.t 14), some (13, false)⟩, ⟨(some 16), .call (.c (.fn 75 [])) [(.t 15), (.c (.fn 99 []))], some (13, false)⟩, ⟨(some 17), .pick (.t 13) (.c (.v (.bool true))) (.t 16), none⟩, ⟨(some 2), .mv (.t 17), none⟩])
  .ret))⟩
theorem a_few15P_ok : cFunc Try.prog 98 = some a_few15P := by kernel_rfl
def a_few15E : AFunc := ⟨1, 7, [.tmp 2],
  (.seq (.region [⟨(some 1), .box (.t 0), none⟩, ⟨(some 2), .mv (.c (.v (.bool false))), none⟩])
  (.seq (.region [⟨(some 3), .faddr 4 (.t 1), none⟩, ⟨(some 4), .load none (.t 3), none⟩, ⟨(some 5), .len (.t 4), none⟩, ⟨(some 6), .bin .gtr (.t 5) (.c (.v (.int .i64 20))), none⟩, ⟨(some 2), .mv (.t 6), none⟩])
  .ret))⟩
theorem a_few15E_ok : cFunc Try.prog 99 = some a_few15E := by kernel_rfl

theorem indexP_spec (v : List (Pr)) (k : Nat) (caps : List AV) (p : Nat → Bool) (hn : v.length ≤ 1000000) (b l : List Row)
    (hp : ∀ (i : Nat) (h : i < v.length), ACalls Try.prog k (.agg ((ePr v[i]).map .v) :: caps) (b ++ l) [] (fun r b' l' => r = .v (.bool (p i)) ∧ b' = b ++ l ∧ l' = [])) :
    ACalls Try.prog 126 [.v (.isl 3 (v.map ePr)), .fn k caps] b l (fun r b' l' => r = .v (.int .i64 (firstP p v.length)) ∧ b' = b ∧ l' = l) := by
  refine calls_kept a_IndP_ok rfl (by decide) ?_
  intro B g hB hR hE hA
  simp only [KArgs] at hA
  simp (disch := decide) only [a_IndP, hA, List.length_map, go_sem]
  refine loop_kept (ι := Nat) r_IndP0 (fun i => [(8, .v (.int .i64 i))]) 0 (fun _ => [])
    (fun i => i ≤ v.length ∧ ∀ j, j < i → p j = false) (fun i => v.length - i) 0 ⟨Nat.zero_le _, fun j hj => by omega⟩ (by (repeat (first | exact hE.mono (by omega) | refine KLt.up ?_ (by simp (disch := omega) only [AVlt_v, AVlt_any, AVlt_sl, AVlt_ptr, AVlt_mp, AVlt_agg, AVlt_tup, AVlt_fn, RowsLt_nil, RowsLt_live, RowsLt_dead, List.mem_cons, List.not_mem_nil, List.forall_mem_cons, List.forall_mem_nil, or_false, false_or, forall_eq_or_imp, forall_eq, vs_lt, Nat.add_lt_add_iff_left, Nat.reduceLT, true_and, and_true, and_self, List.length_cons, List.length_nil, Nat.reduceAdd, Nat.zero_add, implies_true, false_imp_iff, lt_T, List.mem_map])))) (by ((try simp (disch := decide) only [hA, go_sem]) <;> (repeat' (first | exact trivial | refine And.intro ?_ ?_)) <;> (first | rfl | (congr 2; omega)))) (fun e => Weak.refl _ _ _) ?_
  rintro g1 hE1 hEE1 hg1 i ⟨hi, h0⟩
  by_cases hlt : i < v.length
  · have hpi0 := hp i hlt
    try simp only [ePr, List.map_cons, List.map_nil] at hpi0
    simp (disch := (first | decide | omega)) only [hA, hg1, ePr, List.length_map, go_sem]
    refine ACalls_mono _ _ _ _ _ _ (hB ▸ hpi0) ?_
    rintro r b' l' ⟨rfl, rfl, rfl⟩
    cases hpi : p i
    · simp (disch := (first | decide | omega)) only [hA, hg1, hpi, go_sem]
      refine ⟨i + 1, ⟨hlt, fun j hj => ?_⟩, by simp only; omega, ?_⟩
      · rcases Nat.lt_or_ge j i with hji | hji
        · exact h0 j hji
        · have : j = i := by omega
          rw [this]; exact hpi
      exact Weak.kround (p := r_IndP0) (k := 0) (by ((repeat refine (kAny_up rfl).trans ?_); exact hEE1)) (by ((try simp (disch := decide) only [hA, go_sem]) <;> (repeat' (first | exact trivial | refine And.intro ?_ ?_)) <;> (first | rfl | (congr 2; omega)))) rfl hE1 (by simp) (by simp (disch := omega) only [KOvLt, AVlt_v, AVlt_any, AVlt_sl, AVlt_ptr, AVlt_mp, AVlt_agg, AVlt_tup, AVlt_fn, RowsLt_nil, RowsLt_live, RowsLt_dead, List.mem_cons, List.not_mem_nil, List.forall_mem_cons, List.forall_mem_nil, or_false, false_or, forall_eq_or_imp, forall_eq, vs_lt, Nat.add_lt_add_iff_left, Nat.reduceLT, true_and, and_true, and_self, List.length_cons, List.length_nil, Nat.reduceAdd, Nat.zero_add, implies_true, false_imp_iff, lt_T, List.mem_map]) hR (by simp (disch := omega) only [AVlt_v, AVlt_any, AVlt_sl, AVlt_ptr, AVlt_mp, AVlt_agg, AVlt_tup, AVlt_fn, RowsLt_nil, RowsLt_live, RowsLt_dead, List.mem_cons, List.not_mem_nil, List.forall_mem_cons, List.forall_mem_nil, or_false, false_or, forall_eq_or_imp, forall_eq, vs_lt, Nat.add_lt_add_iff_left, Nat.reduceLT, true_and, and_true, and_self, List.length_cons, List.length_nil, Nat.reduceAdd, Nat.zero_add, implies_true, false_imp_iff, lt_T, List.mem_map])
    · simp (disch := (first | decide | omega)) only [hA, hg1, hpi, go_sem]
      exact leave_pure (xs := [.v (.int .i64 i)]) (.inr rfl) (by simp (disch := (first | decide | omega)) only [resVs, resV, go_sem, hA, hg1]) (by simp only [one, AVlt_v, AVlt_any, AVlt_sl, AVlt_ptr, AVlt_mp, AVlt_agg, AVlt_tup, AVlt_fn, RowsLt_nil, RowsLt_live, RowsLt_dead, List.mem_cons, List.not_mem_nil, List.forall_mem_cons, List.forall_mem_nil, or_false, false_or, forall_eq_or_imp, forall_eq, vs_lt, Nat.add_lt_add_iff_left, Nat.reduceLT, true_and, and_true, and_self, List.length_cons, List.length_nil, Nat.reduceAdd, Nat.zero_add, implies_true, false_imp_iff, lt_T, List.mem_map]) hR hB ⟨by rw [firstP_at hlt h0 hpi]; rfl, rfl, rfl⟩
  · simp (disch := (first | decide | omega)) only [hA, hg1, List.length_map, go_sem]
    obtain rfl : i = v.length := by omega
    exact leave_pure (xs := [.v (.int .i64 (-1))]) (.inr rfl) (by simp (disch := (first | decide | omega)) only [resVs, resV, go_sem, hA, hg1]) (by simp only [one, AVlt_v, AVlt_any, AVlt_sl, AVlt_ptr, AVlt_mp, AVlt_agg, AVlt_tup, AVlt_fn, RowsLt_nil, RowsLt_live, RowsLt_dead, List.mem_cons, List.not_mem_nil, List.forall_mem_cons, List.forall_mem_nil, or_false, false_or, forall_eq_or_imp, forall_eq, vs_lt, Nat.add_lt_add_iff_left, Nat.reduceLT, true_and, and_true, and_self, List.length_cons, List.length_nil, Nat.reduceAdd, Nat.zero_add, implies_true, false_imp_iff, lt_T, List.mem_map]) hR hB ⟨by rw [firstP_none h0]; rfl, rfl, rfl⟩
theorem containsP_spec (v : List (Pr)) (k : Nat) (caps : List AV) (p : Nat → Bool) (hn : v.length ≤ 1000000) (b l : List Row)
    (hp : ∀ (i : Nat) (h : i < v.length), ACalls Try.prog k (.agg ((ePr v[i]).map .v) :: caps) (b ++ l) [] (fun r b' l' => r = .v (.bool (p i)) ∧ b' = b ++ l ∧ l' = [])) :
    ACalls Try.prog 73 [.v (.isl 3 (v.map ePr)), .fn k caps] b l (fun r b' l' => r = .v (.bool ((List.range v.length).any p)) ∧ b' = b ∧ l' = l) := by
  refine calls_kept a_ConP_ok rfl (by decide) ?_
  intro B g hB hR hE hA
  simp only [KArgs] at hA
  simp (disch := decide) only [a_ConP, hA, go_sem]
  refine ACalls.nxt (indexP_spec v k caps p hn B [] (by rw [List.append_nil, hB]; exact hp)) ?_
  simp (disch := decide) only [hA, go_sem]
  exact leave_pure (xs := [.v (.bool (decide (0 ≤ firstP p v.length)))]) (.inr rfl) (by simp (disch := (first | decide | omega)) only [resVs, resV, go_sem, hA]) (by simp only [one, AVlt_v, AVlt_any, AVlt_sl, AVlt_ptr, AVlt_mp, AVlt_agg, AVlt_tup, AVlt_fn, RowsLt_nil, RowsLt_live, RowsLt_dead, List.mem_cons, List.not_mem_nil, List.forall_mem_cons, List.forall_mem_nil, or_false, false_or, forall_eq_or_imp, forall_eq, vs_lt, Nat.add_lt_add_iff_left, Nat.reduceLT, true_and, and_true, and_self, List.length_cons, List.length_nil, Nat.reduceAdd, Nat.zero_add, implies_true, false_imp_iff, lt_T, List.mem_map]) hR hB ⟨by rw [firstP_ge]; rfl, rfl, rfl⟩

theorem indexE_spec (v : List (Ev)) (k : Nat) (caps : List AV) (p : Nat → Bool) (hn : v.length ≤ 1000000) (b l : List Row)
    (hp : ∀ (i : Nat) (h : i < v.length), ACalls Try.prog k (.agg ((eEv v[i]).map .v) :: caps) (b ++ l) [] (fun r b' l' => r = .v (.bool (p i)) ∧ b' = b ++ l ∧ l' = [])) :
    ACalls Try.prog 24 [.v (.isl 5 (v.map eEv)), .fn k caps] b l (fun r b' l' => r = .v (.int .i64 (firstP p v.length)) ∧ b' = b ∧ l' = l) := by
  refine calls_kept a_IndE_ok rfl (by decide) ?_
  intro B g hB hR hE hA
  simp only [KArgs] at hA
  simp (disch := decide) only [a_IndE, hA, List.length_map, go_sem]
  refine loop_kept (ι := Nat) r_IndE0 (fun i => [(8, .v (.int .i64 i))]) 0 (fun _ => [])
    (fun i => i ≤ v.length ∧ ∀ j, j < i → p j = false) (fun i => v.length - i) 0 ⟨Nat.zero_le _, fun j hj => by omega⟩ (by (repeat (first | exact hE.mono (by omega) | refine KLt.up ?_ (by simp (disch := omega) only [AVlt_v, AVlt_any, AVlt_sl, AVlt_ptr, AVlt_mp, AVlt_agg, AVlt_tup, AVlt_fn, RowsLt_nil, RowsLt_live, RowsLt_dead, List.mem_cons, List.not_mem_nil, List.forall_mem_cons, List.forall_mem_nil, or_false, false_or, forall_eq_or_imp, forall_eq, vs_lt, Nat.add_lt_add_iff_left, Nat.reduceLT, true_and, and_true, and_self, List.length_cons, List.length_nil, Nat.reduceAdd, Nat.zero_add, implies_true, false_imp_iff, lt_T, List.mem_map])))) (by ((try simp (disch := decide) only [hA, go_sem]) <;> (repeat' (first | exact trivial | refine And.intro ?_ ?_)) <;> (first | rfl | (congr 2; omega)))) (fun e => Weak.refl _ _ _) ?_
  rintro g1 hE1 hEE1 hg1 i ⟨hi, h0⟩
  by_cases hlt : i < v.length
  · have hpi0 := hp i hlt
    try simp only [eEv, List.map_cons, List.map_nil] at hpi0
    simp (disch := (first | decide | omega)) only [hA, hg1, eEv, List.length_map, go_sem]
    refine ACalls_mono _ _ _ _ _ _ (hB ▸ hpi0) ?_
    rintro r b' l' ⟨rfl, rfl, rfl⟩
    cases hpi : p i
    · simp (disch := (first | decide | omega)) only [hA, hg1, hpi, go_sem]
      refine ⟨i + 1, ⟨hlt, fun j hj => ?_⟩, by simp only; omega, ?_⟩
      · rcases Nat.lt_or_ge j i with hji | hji
        · exact h0 j hji
        · have : j = i := by omega
          rw [this]; exact hpi
      exact Weak.kround (p := r_IndE0) (k := 0) (by ((repeat refine (kAny_up rfl).trans ?_); exact hEE1)) (by ((try simp (disch := decide) only [hA, go_sem]) <;> (repeat' (first | exact trivial | refine And.intro ?_ ?_)) <;> (first | rfl | (congr 2; omega)))) rfl hE1 (by simp) (by simp (disch := omega) only [KOvLt, AVlt_v, AVlt_any, AVlt_sl, AVlt_ptr, AVlt_mp, AVlt_agg, AVlt_tup, AVlt_fn, RowsLt_nil, RowsLt_live, RowsLt_dead, List.mem_cons, List.not_mem_nil, List.forall_mem_cons, List.forall_mem_nil, or_false, false_or, forall_eq_or_imp, forall_eq, vs_lt, Nat.add_lt_add_iff_left, Nat.reduceLT, true_and, and_true, and_self, List.length_cons, List.length_nil, Nat.reduceAdd, Nat.zero_add, implies_true, false_imp_iff, lt_T, List.mem_map]) hR (by simp (disch := omega) only [AVlt_v, AVlt_any, AVlt_sl, AVlt_ptr, AVlt_mp, AVlt_agg, AVlt_tup, AVlt_fn, RowsLt_nil, RowsLt_live, RowsLt_dead, List.mem_cons, List.not_mem_nil, List.forall_mem_cons, List.forall_mem_nil, or_false, false_or, forall_eq_or_imp, forall_eq, vs_lt, Nat.add_lt_add_iff_left, Nat.reduceLT, true_and, and_true, and_self, List.length_cons, List.length_nil, Nat.reduceAdd, Nat.zero_add, implies_true, false_imp_iff, lt_T, List.mem_map])
    · simp (disch := (first | decide | omega)) only [hA, hg1, hpi, go_sem]
      exact leave_pure (xs := [.v (.int .i64 i)]) (.inr rfl) (by simp (disch := (first | decide | omega)) only [resVs, resV, go_sem, hA, hg1]) (by simp only [one, AVlt_v, AVlt_any, AVlt_sl, AVlt_ptr, AVlt_mp, AVlt_agg, AVlt_tup, AVlt_fn, RowsLt_nil, RowsLt_live, RowsLt_dead, List.mem_cons, List.not_mem_nil, List.forall_mem_cons, List.forall_mem_nil, or_false, false_or, forall_eq_or_imp, forall_eq, vs_lt, Nat.add_lt_add_iff_left, Nat.reduceLT, true_and, and_true, and_self, List.length_cons, List.length_nil, Nat.reduceAdd, Nat.zero_add, implies_true, false_imp_iff, lt_T, List.mem_map]) hR hB ⟨by rw [firstP_at hlt h0 hpi]; rfl, rfl, rfl⟩
  · simp (disch := (first | decide | omega)) only [hA, hg1, List.length_map, go_sem]
    obtain rfl : i = v.length := by omega
    exact leave_pure (xs := [.v (.int .i64 (-1))]) (.inr rfl) (by simp (disch := (first | decide | omega)) only [resVs, resV, go_sem, hA, hg1]) (by simp only [one, AVlt_v, AVlt_any, AVlt_sl, AVlt_ptr, AVlt_mp, AVlt_agg, AVlt_tup, AVlt_fn, RowsLt_nil, RowsLt_live, RowsLt_dead, List.mem_cons, List.not_mem_nil, List.forall_mem_cons, List.forall_mem_nil, or_false, false_or, forall_eq_or_imp, forall_eq, vs_lt, Nat.add_lt_add_iff_left, Nat.reduceLT, true_and, and_true, and_self, List.length_cons, List.length_nil, Nat.reduceAdd, Nat.zero_add, implies_true, false_imp_iff, lt_T, List.mem_map]) hR hB ⟨by rw [firstP_none h0]; rfl, rfl, rfl⟩
theorem containsE_spec (v : List (Ev)) (k : Nat) (caps : List AV) (p : Nat → Bool) (hn : v.length ≤ 1000000) (b l : List Row)
    (hp : ∀ (i : Nat) (h : i < v.length), ACalls Try.prog k (.agg ((eEv v[i]).map .v) :: caps) (b ++ l) [] (fun r b' l' => r = .v (.bool (p i)) ∧ b' = b ++ l ∧ l' = [])) :
    ACalls Try.prog 75 [.v (.isl 5 (v.map eEv)), .fn k caps] b l (fun r b' l' => r = .v (.bool ((List.range v.length).any p)) ∧ b' = b ∧ l' = l) := by
  refine calls_kept a_ConE_ok rfl (by decide) ?_
  intro B g hB hR hE hA
  simp only [KArgs] at hA
  simp (disch := decide) only [a_ConE, hA, go_sem]
  refine ACalls.nxt (indexE_spec v k caps p hn B [] (by rw [List.append_nil, hB]; exact hp)) ?_
  simp (disch := decide) only [hA, go_sem]
  exact leave_pure (xs := [.v (.bool (decide (0 ≤ firstP p v.length)))]) (.inr rfl) (by simp (disch := (first | decide | omega)) only [resVs, resV, go_sem, hA]) (by simp only [one, AVlt_v, AVlt_any, AVlt_sl, AVlt_ptr, AVlt_mp, AVlt_agg, AVlt_tup, AVlt_fn, RowsLt_nil, RowsLt_live, RowsLt_dead, List.mem_cons, List.not_mem_nil, List.forall_mem_cons, List.forall_mem_nil, or_false, false_or, forall_eq_or_imp, forall_eq, vs_lt, Nat.add_lt_add_iff_left, Nat.reduceLT, true_and, and_true, and_self, List.length_cons, List.length_nil, Nat.reduceAdd, Nat.zero_add, implies_true, false_imp_iff, lt_T, List.mem_map]) hR hB ⟨by rw [firstP_ge]; rfl, rfl, rfl⟩

def lgE (e : Ev) : Bool := decide (20 < e.asg.length)
def lgP (x : Pr) : Bool := decide (20 < x.evs.length) || (decide (20 < x.vars.length) || (List.range x.evs.length).any fun j => lgE (x.evs.getD j dfEv))
def few15B (t : Tr) : Bool := decide (t.length ≤ 10) && !(List.range t.length).any fun j => lgP (t.getD j dfPr)
theorem few15E_spec (e : Ev) (b l : List Row) : ACalls Try.prog 99 [.agg ((eEv e).map .v)] b l (fun r b' l' => r = .v (.bool (lgE e)) ∧ b' = b ∧ l' = l) := by
  refine calls_kept a_few15E_ok rfl (by decide) ?_
  intro B g hB hR hE hA
  simp only [KArgs] at hA
  simp only [eEv, List.map_cons, List.map_nil] at hA
  simp (disch := (first | decide | omega)) only [a_few15E, hA, List.length_map, go_sem]
  have : decide (20 < (e.asg.length : Int)) = lgE e := by unfold lgE; simp only [decide_eq_decide]; omega
  exact leave_pure (xs := [.v (.bool (decide (20 < (e.asg.length : Int))))]) (.inr rfl) (by simp (disch := (first | decide | omega)) only [resVs, resV, go_sem, hA]) (by simp only [one, AVlt_v, AVlt_any, AVlt_sl, AVlt_ptr, AVlt_mp, AVlt_agg, AVlt_tup, AVlt_fn, RowsLt_nil, RowsLt_live, RowsLt_dead, List.mem_cons, List.not_mem_nil, List.forall_mem_cons, List.forall_mem_nil, or_false, false_or, forall_eq_or_imp, forall_eq, vs_lt, Nat.add_lt_add_iff_left, Nat.reduceLT, true_and, and_true, and_self, List.length_cons, List.length_nil, Nat.reduceAdd, Nat.zero_add, implies_true, false_imp_iff, lt_T, List.mem_map]) hR hB ⟨by rw [this]; rfl, rfl, rfl⟩
theorem few15P_spec (x : Pr) (b l : List Row) : ACalls Try.prog 98 [.agg ((ePr x).map .v)] b l (fun r b' l' => r = .v (.bool (lgP x)) ∧ b' = b ∧ l' = l) := by
  refine calls_kept a_few15P_ok rfl (by decide) ?_
  intro B g hB hR hE hA
  simp only [KArgs] at hA
  simp only [ePr, List.map_cons, List.map_nil] at hA
  by_cases h1 : 20 < x.evs.length
  · have hd : decide (20 < (x.evs.length : Int)) = true := decide_eq_true (by omega)
    have hq : lgP x = true := by unfold lgP; rw [decide_eq_true h1]; rfl
    simp (disch := (first | decide | omega)) only [a_few15P, hA, List.length_map, hd, go_sem]
    exact leave_pure (xs := [.v (.bool true)]) (.inr rfl) (by simp (disch := (first | decide | omega)) only [resVs, resV, go_sem, hA]) (by simp only [one, AVlt_v, AVlt_any, AVlt_sl, AVlt_ptr, AVlt_mp, AVlt_agg, AVlt_tup, AVlt_fn, RowsLt_nil, RowsLt_live, RowsLt_dead, List.mem_cons, List.not_mem_nil, List.forall_mem_cons, List.forall_mem_nil, or_false, false_or, forall_eq_or_imp, forall_eq, vs_lt, Nat.add_lt_add_iff_left, Nat.reduceLT, true_and, and_true, and_self, List.length_cons, List.length_nil, Nat.reduceAdd, Nat.zero_add, implies_true, false_imp_iff, lt_T, List.mem_map]) hR hB ⟨by rw [hq]; rfl, rfl, rfl⟩
  have hd : decide (20 < (x.evs.length : Int)) = false := decide_eq_false (by omega)
  by_cases h2 : 20 < x.vars.length
  · have hd2 : decide (20 < (x.vars.length : Int)) = true := decide_eq_true (by omega)
    have hq : lgP x = true := by unfold lgP; rw [decide_eq_true h2]; simp
    simp (disch := (first | decide | omega)) only [a_few15P, hA, List.length_map, hd, hd2, go_sem]
    exact leave_pure (xs := [.v (.bool true)]) (.inr rfl) (by simp (disch := (first | decide | omega)) only [resVs, resV, go_sem, hA]) (by simp only [one, AVlt_v, AVlt_any, AVlt_sl, AVlt_ptr, AVlt_mp, AVlt_agg, AVlt_tup, AVlt_fn, RowsLt_nil, RowsLt_live, RowsLt_dead, List.mem_cons, List.not_mem_nil, List.forall_mem_cons, List.forall_mem_nil, or_false, false_or, forall_eq_or_imp, forall_eq, vs_lt, Nat.add_lt_add_iff_left, Nat.reduceLT, true_and, and_true, and_self, List.length_cons, List.length_nil, Nat.reduceAdd, Nat.zero_add, implies_true, false_imp_iff, lt_T, List.mem_map]) hR hB ⟨by rw [hq]; rfl, rfl, rfl⟩
  have hd2 : decide (20 < (x.vars.length : Int)) = false := decide_eq_false (by omega)
  have hq : lgP x = (List.range x.evs.length).any fun j => lgE (x.evs.getD j dfEv) := by
    unfold lgP; rw [decide_eq_false h1, decide_eq_false h2]; rfl
  simp (disch := (first | decide | omega)) only [a_few15P, hA, List.length_map, hd, hd2, go_sem]
  refine ACalls.nxt (containsE_spec x.evs _ [] (fun j => lgE (x.evs.getD j dfEv)) (by omega) _ _ (fun i hi => by simp only [getD_at hi]; exact few15E_spec _ _ _)) ?_
  rw [← hq]
  simp (disch := (first | decide | omega)) only [hA, go_sem]
  exact leave_pure (xs := [.v (.bool (lgP x))]) (.inr rfl) (by simp (disch := (first | decide | omega)) only [resVs, resV, go_sem, hA]) (by simp only [one, AVlt_v, AVlt_any, AVlt_sl, AVlt_ptr, AVlt_mp, AVlt_agg, AVlt_tup, AVlt_fn, RowsLt_nil, RowsLt_live, RowsLt_dead, List.mem_cons, List.not_mem_nil, List.forall_mem_cons, List.forall_mem_nil, or_false, false_or, forall_eq_or_imp, forall_eq, vs_lt, Nat.add_lt_add_iff_left, Nat.reduceLT, true_and, and_true, and_self, List.length_cons, List.length_nil, Nat.reduceAdd, Nat.zero_add, implies_true, false_imp_iff, lt_T, List.mem_map]) hR hB ⟨rfl, rfl, rfl⟩
theorem few15_spec (t : Tr) (b l : List Row) : ACalls Try.prog 48 [.agg [.v (eT t)]] b l (fun r b' l' => r = .v (.bool (few15B t)) ∧ b' = b ∧ l' = l) := by
  refine calls_kept a_few15_ok rfl (by decide) ?_
  intro B g hB hR hE hA
  simp only [KArgs] at hA
  by_cases h1 : t.length ≤ 10
  case neg =>
    have hd : decide ((t.length : Int) ≤ 10) = false := decide_eq_false (by omega)
    have hq : few15B t = false := by unfold few15B; rw [decide_eq_false h1]; rfl
    simp (disch := (first | decide | omega)) only [a_few15, hA, eT, List.length_map, hd, go_sem]
    exact leave_pure (xs := [.v (.bool false)]) (.inr rfl) (by simp (disch := (first | decide | omega)) only [resVs, resV, go_sem, hA]) (by simp only [one, AVlt_v, AVlt_any, AVlt_sl, AVlt_ptr, AVlt_mp, AVlt_agg, AVlt_tup, AVlt_fn, RowsLt_nil, RowsLt_live, RowsLt_dead, List.mem_cons, List.not_mem_nil, List.forall_mem_cons, List.forall_mem_nil, or_false, false_or, forall_eq_or_imp, forall_eq, vs_lt, Nat.add_lt_add_iff_left, Nat.reduceLT, true_and, and_true, and_self, List.length_cons, List.length_nil, Nat.reduceAdd, Nat.zero_add, implies_true, false_imp_iff, lt_T, List.mem_map]) hR hB ⟨by rw [hq]; rfl, rfl, rfl⟩
  have hd : decide ((t.length : Int) ≤ 10) = true := decide_eq_true (by omega)
  have hq : few15B t = !(List.range t.length).any fun j => lgP (t.getD j dfPr) := by unfold few15B; rw [decide_eq_true h1]; rfl
  simp (disch := (first | decide | omega)) only [a_few15, hA, eT, List.length_map, hd, go_sem]
  refine ACalls.nxt (containsP_spec t _ [] (fun j => lgP (t.getD j dfPr)) (by omega) _ _ (fun i hi => by simp only [getD_at hi]; exact few15P_spec _ _ _)) ?_
  simp (disch := (first | decide | omega)) only [hA, go_sem]
  exact leave_pure (xs := [.v (.bool (!(List.range t.length).any fun j => lgP (t.getD j dfPr)))]) (.inr rfl) (by simp (disch := (first | decide | omega)) only [resVs, resV, go_sem, hA]) (by simp only [one, AVlt_v, AVlt_any, AVlt_sl, AVlt_ptr, AVlt_mp, AVlt_agg, AVlt_tup, AVlt_fn, RowsLt_nil, RowsLt_live, RowsLt_dead, List.mem_cons, List.not_mem_nil, List.forall_mem_cons, List.forall_mem_nil, or_false, false_or, forall_eq_or_imp, forall_eq, vs_lt, Nat.add_lt_add_iff_left, Nat.reduceLT, true_and, and_true, and_self, List.length_cons, List.length_nil, Nat.reduceAdd, Nat.zero_add, implies_true, false_imp_iff, lt_T, List.mem_map]) hR hB ⟨by rw [hq]; rfl, rfl, rfl⟩
end Go.Proofs.Ytoaopldaleaijaa

namespace Go.Proofs.Ytoaopldaleaijaa
set_option linter.unusedVariables false
set_option linter.unusedSimpArgs false
attribute [local go_sem ↓] run_skip run_region run_draw run_seq run_block run_exit run_ret run_cond atN_app seqC_normal seqC_exit seqC_ret seqQ_normal seqQ_exit seqQ_ret blkQ_normal blkQ_exit blkQ_ret runOps_nil runOps_cons runD_nil runD_cons grdO_true grdO_false grdD_true grdD_false ifC_true ifC_false opS_val opS_call opS_two opK_app dS_val dS_call dS_two dK_app kUp_same kUp_ne
attribute [local go_sem] rechks_nil rechks_cons rechk gcase_true gcase_false ex_val ex_val0 gd_none gd_some ev_t ev_c evs_nil evs_cons evo_some evo_none hget_at hget_first hsetB_at hsetB_first hsetL_at hsetL_first ofOpt_some aop aload astore aslice aappend aiaddr aiaddrA afaddr alen alenS acopy amm acall alookup amupdate alenM comma keyEq apick binV binVB binVS isSh intOp strOp boolOp shOp eqC eqF and2 cellsOf setFrom fillA fillS rd rdI elems mk bounds AV.cell List.all_cons List.all_nil Bool.and_true Bool.true_and Bool.and_self List.length_cons List.length_nil List.length_append Nat.reduceAdd Nat.reduceSub Nat.reduceMul Nat.zero_add Nat.add_zero List.cons_append List.nil_append List.append_assoc List.append_nil List.getElem?_cons_zero List.getElem?_cons_succ List.getElem?_nil List.set_cons_zero List.set_cons_succ List.drop_zero List.drop_succ_cons List.take_zero List.take_succ_cons List.take_nil List.drop_nil List.map_cons List.map_nil Option.map_some if_true if_false Bool.false_eq_true and_self true_and and_true Nat.reduceLeDiff Nat.reduceLT Nat.le_refl Nat.reduceEqDiff ite_true ite_false beq_self_eq_true beq_true beq_false Bool.not_true Bool.not_false Bool.true_beq Bool.false_beq map_vs vs_len vs_get vs_take vs_drop vs_snoc1 vs_snoc2 vs_snoc3 vs_snoc5 vs_set1 vs_set2 vs_rep wrap_id le_T lt_T le_F lt_F leI_T ltI_T leI_F ltI_F geI gtI get_T decide_true decide_false room List.getElem?_map List.length_map List.length_take Int.toNat_natCast Nat.min_def Nat.min_self nth_kOf put_kOf put_kNo kOv_cons kOv_nil KHas KArgs List.getElem_cons_zero List.getElem_cons_succ
theorem few15_in {t : Tr} (h : few15B t = true) : t.length ≤ 10 ∧ ∀ x ∈ t, lgP x = false := by
  simp only [few15B, Bool.and_eq_true, decide_eq_true_eq, Bool.not_eq_true', List.any_eq_false, List.mem_range] at h
  refine ⟨h.1, fun x hx => ?_⟩
  obtain ⟨i, hi, rfl⟩ := List.getElem_of_mem hx
  have := h.2 i hi
  rw [getD_at hi] at this
  simpa using this
theorem lgP_in {x : Pr} (h : lgP x = false) : x.evs.length ≤ 20 ∧ x.vars.length ≤ 20 ∧ ∀ e ∈ x.evs, e.asg.length ≤ 20 := by
  simp only [lgP, Bool.or_eq_false_iff, decide_eq_false_iff_not, List.any_eq_false, List.mem_range] at h
  refine ⟨by omega, by omega, fun e he => ?_⟩
  obtain ⟨i, hi, rfl⟩ := List.getElem_of_mem he
  have := h.2.2 i hi
  rw [getD_at hi] at this
  simp only [lgE, decide_eq_true_eq] at this
  omega
theorem ids_few15 {t : Tr} (h : ∀ x ∈ t, x.evs.length ≤ 20) : (ids t).length ≤ 20 * t.length := by
  have : ∀ n, n ≤ t.length → ((List.range n).flatMap (idsOf t)).length ≤ 20 * n := by
    intro n
    induction n with
    | zero => intro _; simp
    | succ n ih =>
      intro hn
      rw [List.range_succ, List.flatMap_append, List.length_append]
      have h1 := ih (by omega)
      have h2 : (List.flatMap (idsOf t) [n]).length ≤ 20 := by
        simp only [List.flatMap_cons, List.flatMap_nil, List.append_nil, idsOf, List.length_map, List.length_range]
        rw [evsOf_lt (by omega)]
        exact h _ (List.getElem_mem _)
      omega
  exact this _ (Nat.le_refl _)
end Go.Proofs.Ytoaopldaleaijaa

namespace Go.Proofs.Ytoaopldaleaijaa
set_option linter.unusedVariables false
set_option linter.unusedSimpArgs false

inductive IVle : IV → IV → Prop where
  | refl (x : IV) : IVle x x
  | zsl (sz : Nat) : IVle .zsl (.isl sz [])
  | isl (sz : Nat) (rows rows' : List (List IV)) (hl : rows.length = rows'.length) (hl2 : ∀ (k : Nat) (row row' : List IV), rows[k]? = some row → rows'[k]? = some row' → row.length = row'.length)
      (hr : ∀ (k : Nat) (row row' : List IV) (j : Nat) (a a' : IV), rows[k]? = some row → rows'[k]? = some row' → row[j]? = some a → row'[j]? = some a' → IVle a a') : IVle (.isl sz rows) (.isl sz rows')

theorem RepI.le {w : World} {F : Nat → Prop} {x y : IV} (h : IVle x y) : ∀ {v : Value}, RepI w F x v → RepI w F y v := by
  induction h with
  | refl x => exact fun h => h
  | zsl sz => intro v h; cases h; exact .isl0 _ _ _ (Nat.zero_le _)
  | isl sz rows rows' hl hl2 hr ih =>
    intro v h
    obtain ⟨A, c, rfl, h2, h3, h4⟩ := repI_isl h
    rw [hl] at h2 h4 ⊢
    refine isl_repI h2 h3 (fun h0 => ?_)
    obtain ⟨b, off, h5, h6, h7⟩ := h4 h0
    refine ⟨b, off, h5, h6, fun k row' hk' => ?_⟩
    have hk : k < rows.length := by rw [hl]; exact (List.getElem?_eq_some_iff.1 hk').1
    obtain ⟨g1, g2⟩ := h7 k rows[k] (List.getElem?_eq_getElem hk)
    have hll := hl2 k rows[k] row' (List.getElem?_eq_getElem hk) hk'
    refine ⟨by rw [← hll]; exact g1, fun j a' hj' => ?_⟩
    have hj : j < rows[k].length := by rw [hll]; exact (List.getElem?_eq_some_iff.1 hj').1
    obtain ⟨v, hv, hrep⟩ := g2 j rows[k][j] (List.getElem?_eq_getElem hj)
    exact ⟨v, hv, ih k _ _ j _ _ (List.getElem?_eq_getElem hk) hk' (List.getElem?_eq_getElem hj) hj' hrep⟩

/-- Row by row. -/
def RowsLe : List (List IV) → List (List IV) → Prop
  | [], [] => True
  | r :: rs, q :: qs => (r.length = q.length ∧ ∀ (j : Nat) (a a' : IV), r[j]? = some a → q[j]? = some a' → IVle a a') ∧ RowsLe rs qs
  | _, _ => False
theorem RowsLe.len : ∀ {r q : List (List IV)}, RowsLe r q → r.length = q.length
  | [], [], _ => rfl
  | _ :: _, _ :: _, h => by simp [RowsLe.len h.2]
  | [], _ :: _, h => h.elim
  | _ :: _, [], h => h.elim
theorem RowsLe.get : ∀ {r q : List (List IV)}, RowsLe r q → ∀ (k : Nat) (row row' : List IV), r[k]? = some row → q[k]? = some row' → row.length = row'.length ∧ ∀ (j : Nat) (a a' : IV), row[j]? = some a → row'[j]? = some a' → IVle a a'
  | [], [], _, k, row, row', h, _ => by simp at h
  | r :: rs, q :: qs, h, k, row, row', h1, h2 => by
    cases k with
    | zero => simp at h1 h2; subst h1; subst h2; exact h.1
    | succ k => simp at h1 h2; exact RowsLe.get h.2 k row row' h1 h2
  | [], _ :: _, h, _, _, _, _, _ => h.elim
  | _ :: _, [], h, _, _, _, _, _ => h.elim
theorem IVle.rows {sz : Nat} {r q : List (List IV)} (h : RowsLe r q) : IVle (.isl sz r) (.isl sz q) :=
  .isl sz r q h.len (fun k row row' h1 h2 => (h.get k row row' h1 h2).1) (fun k row row' j a a' h1 h2 => (h.get k row row' h1 h2).2 j a a')

inductive AVle : AV → AV → Prop where
  | refl (x : AV) : AVle x x
  | v (x y : IV) (h : IVle x y) : AVle (.v x) (.v y)
  | agg (cs ds : List AV) (hl : cs.length = ds.length) (h : ∀ (i : Nat) (a c : AV), cs[i]? = some a → ds[i]? = some c → AVle a c) : AVle (.agg cs) (.agg ds)
theorem RepA.le {w : World} {F : Nat → Prop} {L : LMap} {x y : AV} (h : AVle x y) : ∀ {v : Value}, RepA w F L x v → RepA w F L y v := by
  induction h with
  | refl x => exact fun h => h
  | v x y h => intro v hx; exact .v _ _ (hx.vI.le h)
  | agg cs ds hl h ih =>
    intro v hx
    obtain ⟨vs, rfl, hr⟩ := hx.aggL
    refine RepL.agg ⟨by rw [← hl]; exact hr.1, fun i c u hc hu => ?_⟩
    have hi : i < cs.length := by rw [hl]; exact (List.getElem?_eq_some_iff.1 hc).1
    exact ih i cs[i] c (List.getElem?_eq_getElem hi) hc (hr.2 i _ u (List.getElem?_eq_getElem hi) hu)
/-- Arguments that say more will do. -/
theorem ACalls.le {P : Program} {f : Nat} {args args' : List AV} {b l : List Row} {Q : AV → List Row → List Row → Prop} (h : ACalls P f args b l Q) (hl : args'.length = args.length) (hle : ∀ (i : Nat) (a c : AV), args'[i]? = some a → args[i]? = some c → AVle a c) : ACalls P f args' b l Q :=
  ⟨h.1, fun F L w vs s hr => h.2 F L w vs s ⟨by rw [← hl]; exact hr.1, fun i c v hc hv => by
    have hi : i < args'.length := by rw [hl]; exact (List.getElem?_eq_some_iff.1 hc).1
    exact RepA.le (hle i args'[i] c (List.getElem?_eq_getElem hi) hc) (hr.2 i _ v (List.getElem?_eq_getElem hi) hv)⟩⟩
/-- A state that says less. -/
theorem Weak.le {e e' : List AV} {b l : List Row} (hl : e.length = e'.length) (h : ∀ (i : Nat) (x y : AV), e[i]? = some x → e'[i]? = some y → AVle x y) : Weak e b l e' b l := by
  intro F L w a s hea
  refine ⟨F, L, s, ⟨hea.1, by rw [← hl]; exact hea.2.1, fun i y v hy hv => ?_⟩, Step.refl _ _ _ _ _, rfl⟩
  have hi : i < e.length := by rw [hl]; exact (List.getElem?_eq_some_iff.1 hy).1
  exact RepA.le (h i e[i] y (List.getElem?_eq_getElem hi) hy) (hea.2.2 i _ v (List.getElem?_eq_getElem hi) hv)
end Go.Proofs.Ytoaopldaleaijaa

namespace Go.Proofs.Ytoaopldaleaijaa
set_option linter.unusedVariables false
def concB (t : Tr) (rank : Nat × Nat → Nat) : Bool :=
  decide (1 ≤ t.length) && (decide (t.length ≤ 8) && ((List.range t.length).all (fun p => headF t p == 0) && ((ids t).all (fun x => formF t x == 0) && ((ids t).all (fun x => pairF t x == 0) && (ids t).all (fun x => (dirL t x).all fun y => decide (rank x < rank y))))))
theorem conc_fault {t : Tr} {rank : Nat × Nat → Nat} (h : concB t rank = true) : faultL t = ((0, 0), 0) := by
  simp only [concB, Bool.and_eq_true, decide_eq_true_eq, List.all_eq_true, beq_iff_eq] at h
  obtain ⟨h1, h2, h3, h4, h5, h6⟩ := h
  have hb : ∀ {x y : Nat × Nat}, Hb t x y → x ∈ ids t → rank x < rank y := by
    intro x y hxy
    induction hxy with
    | one h => intro hx; exact h6 _ hx _ (mem_dirL.2 h)
    | more h k ih =>
      intro hx
      exact Nat.lt_trans (ih hx) (h6 _ (Hb.mem hx h) _ (mem_dirL.2 k))
  unfold faultL
  rw [if_neg (by omega)]
  have e1 : (List.range t.length).find? (fun p => headF t p != 0) = none := by
    rw [List.find?_eq_none]; intro p hp; simp [h3 p hp]
  have e2 : (ids t).find? (fun x => formF t x != 0) = none := by
    rw [List.find?_eq_none]; intro p hp; simp [h4 p hp]
  have e3 : (ids t).find? (fun x => pairF t x != 0) = none := by
    rw [List.find?_eq_none]; intro p hp; simp [h5 p hp]
  rw [e1]; simp only
  rw [e2]; simp only
  rw [e3]; simp only
  have e4 : (ids t).find? (fun x => @decide (Hb t x x) (Classical.propDecidable _)) = none := by
    rw [List.find?_eq_none]
    intro x hx
    simp only [decide_eq_true_eq]
    intro hh
    have := hb hh hx
    omega
  rw [e4]
theorem conc_valid {t : Tr} {rank : Nat × Nat → Nat} (h : concB t rank = true) : validL t = true := by simp [validL, conc_fault h]
end Go.Proofs.Ytoaopldaleaijaa

namespace Go.Proofs.Ytoaopldaleaijaa
set_option linter.unusedVariables false
set_option linter.unusedSimpArgs false
def xOk : XV → Bool
  | .ok (.v (.bool true)) _ _ _ => true
  | _ => false
theorem xOk_ok {x : XV} (h : xOk x = true) : ∃ b l t, x = .ok (.v (.bool true)) b l t := by
  unfold xOk at h
  split at h
  · exact ⟨_, _, _, rfl⟩
  · exact absurd h (by decide)
def pair15 : Tr := [⟨⟨#[97]⟩, [], [⟨1, 0, 0, 0, []⟩, ⟨2, 1, 5, 0, []⟩]⟩, ⟨⟨#[98]⟩, [], [⟨3, 0, 5, 0, []⟩, ⟨1, 0, 0, 0, []⟩]⟩]
def epair15 : IV := .isl 3 [[.str ⟨#[97]⟩, .zsl, .isl 5 [[.int .i64 1, .int .i64 0, .int .i64 0, .int .i64 0, .zsl], [.int .i64 2, .int .i64 1, .int .i64 5, .int .i64 0, .zsl]]], [.str ⟨#[98]⟩, .zsl, .isl 5 [[.int .i64 3, .int .i64 0, .int .i64 5, .int .i64 0, .zsl], [.int .i64 1, .int .i64 0, .int .i64 0, .int .i64 0, .zsl]]]]
noncomputable def tab15 : Nat → Option AFunc := fun f => cFunc Try.prog f
def ora15 : Nat → List AV → Option AV := fun f args => if (f == 67 && eqL (eqA 20) args [.agg [.v epair15]]) = true then some (.v (.bool true)) else none
def frz15 : Nat → Nat := fun f => if f = 96 then 5 else 0
set_option maxRecDepth 100000
theorem run15 : xOk (xcall tab15 ora15 frz15 (exec tab15 ora15 frz15 3000) 47 [] [] []) = true := by kernel_rfl
theorem getLe_nil {f : IV → IV → Prop} : ∀ (j : Nat) (a a' : IV), ([] : List IV)[j]? = some a → ([] : List IV)[j]? = some a' → f a a' := fun j a a' h => by simp at h
theorem getLe_cons {f : IV → IV → Prop} {x y : IV} {xs ys : List IV} (h : f x y) (hs : ∀ (j : Nat) (a a' : IV), xs[j]? = some a → ys[j]? = some a' → f a a') : ∀ (j : Nat) (a a' : IV), (x :: xs)[j]? = some a → (y :: ys)[j]? = some a' → f a a' := by
  intro j a a' h1 h2
  cases j with
  | zero => simp at h1 h2; subst h1; subst h2; exact h
  | succ j => simp at h1 h2; exact hs j a a' h1 h2
theorem epair_le : IVle epair15 (eT pair15) := by
  have ev : ∀ (a c d e a2 c2 d2 e2 : Int), IVle (.isl 5 [[.int .i64 a, .int .i64 c, .int .i64 d, .int .i64 e, .zsl], [.int .i64 a2, .int .i64 c2, .int .i64 d2, .int .i64 e2, .zsl]]) (.isl 5 [[.int .i64 a, .int .i64 c, .int .i64 d, .int .i64 e, .isl 2 []], [.int .i64 a2, .int .i64 c2, .int .i64 d2, .int .i64 e2, .isl 2 []]]) := fun a c d e a2 c2 d2 e2 =>
    .rows ⟨⟨rfl, getLe_cons (.refl _) (getLe_cons (.refl _) (getLe_cons (.refl _) (getLe_cons (.refl _) (getLe_cons (.zsl 2) getLe_nil))))⟩, ⟨rfl, getLe_cons (.refl _) (getLe_cons (.refl _) (getLe_cons (.refl _) (getLe_cons (.refl _) (getLe_cons (.zsl 2) getLe_nil))))⟩, trivial⟩
  exact .rows ⟨⟨rfl, getLe_cons (.refl _) (getLe_cons (.zsl 2) (getLe_cons (ev _ _ _ _ _ _ _ _) getLe_nil))⟩, ⟨rfl, getLe_cons (.refl _) (getLe_cons (.zsl 2) (getLe_cons (ev _ _ _ _ _ _ _ _) getLe_nil))⟩, trivial⟩
theorem pair15_small : Small pair15 := ⟨by decide, by decide, by decide, by decide⟩
theorem pair15_nm : Nm pair15 := by
  intro p hp
  simp [pair15] at hp
  rcases hp with rfl | rfl <;> exact ⟨by decide, by simp⟩
theorem pair15_valid : validL pair15 = true := conc_valid (rank := fun x => x.1 * 10 + x.2) (by kernel_rfl)
theorem ora15_ok (f : Nat) (args : List AV) (y : AV) (h : ora15 f args = some y) (b l : List Row) : ACalls Try.prog f args b l (fun r b' l' => r = y ∧ b' = b ∧ l' = l) := by
  unfold ora15 at h
  split at h
  · rename_i hc
    simp only [Bool.and_eq_true, beq_iff_eq] at hc
    obtain ⟨rfl, h2⟩ := hc
    have h3 := eqL_eq (eqA_eq 20) h2
    subst h3
    cases h
    have hv := valid_spec pair15 pair15_small pair15_nm b l
    rw [pair15_valid] at hv
    refine ACalls.le hv rfl ?_
    intro i a c h1 h2
    cases i with
    | zero =>
      simp at h1 h2; subst h1; subst h2
      refine .agg _ _ rfl (fun i a c h1 h2 => ?_)
      cases i with
      | zero => simp at h1 h2; subst h1; subst h2; exact .v _ _ epair_le
      | succ i => simp at h1
    | succ i => simp at h1
  · cases h
/-- A contract of a function without arguments that answers with a bool, with nothing said of rows: it holds among any rows. -/
theorem ACalls.lift_bool {P : Program} {f : Nat} {z : Bool} (h : ACalls P f [] [] [] (fun r _ _ => r = .v (.bool z))) (b l : List Row) : ACalls P f [] b l (fun r b' l' => r = .v (.bool z) ∧ b' = b ∧ l' = l) := by
  refine ACalls.of_ext h.1 (fun F L w vs hr => ?_)
  have hn : vs = #[] := Array.toList_inj.1 (repL_nil hr)
  subst hn
  refine (ACalls.calls h (vs := #[]) RepL.nil).mono ?_
  rintro en w' ⟨v, x, b', l', F', L', he, hx, hE, rfl⟩
  cases hx.vI
  exact ⟨hE, _, _, he, .v _ _ (.bool _), rfl, rfl, rfl⟩
/-- The example of chapter 15. -/
theorem awake15_spec (b l : List Row) : ACalls Try.prog 47 [] b l (fun r b' l' => r = .v (.bool true) ∧ b' = b ∧ l' = l) := by
  obtain ⟨b1, l1, t, h⟩ := xOk_ok run15
  exact ACalls.lift_bool (ACalls.of_exec (T := tab15) (O := ora15) (Z := frz15) (fun f af h => h) ora15_ok h) b l
end Go.Proofs.Ytoaopldaleaijaa

namespace Go.Proofs.Ytoaopldaleaijaa
set_option linter.unusedVariables false
set_option linter.unusedSimpArgs false
attribute [local go_sem ↓] run_skip run_region run_draw run_seq run_block run_exit run_ret run_cond atN_app seqC_normal seqC_exit seqC_ret seqQ_normal seqQ_exit seqQ_ret blkQ_normal blkQ_exit blkQ_ret runOps_nil runOps_cons runD_nil runD_cons grdO_true grdO_false grdD_true grdD_false ifC_true ifC_false opS_val opS_call opS_two opK_app dS_val dS_call dS_two dK_app kUp_same kUp_ne
attribute [local go_sem] rechks_nil rechks_cons rechk gcase_true gcase_false ex_val ex_val0 gd_none gd_some ev_t ev_c evs_nil evs_cons evo_some evo_none hget_at hget_first hsetB_at hsetB_first hsetL_at hsetL_first ofOpt_some aop aload astore aslice aappend aiaddr aiaddrA afaddr alen alenS acopy amm acall alookup amupdate alenM comma keyEq apick binV binVB binVS isSh intOp strOp boolOp shOp eqC eqF and2 cellsOf setFrom fillA fillS rd rdI elems mk bounds AV.cell List.all_cons List.all_nil Bool.and_true Bool.true_and Bool.and_self List.length_cons List.length_nil List.length_append Nat.reduceAdd Nat.reduceSub Nat.reduceMul Nat.zero_add Nat.add_zero List.cons_append List.nil_append List.append_assoc List.append_nil List.getElem?_cons_zero List.getElem?_cons_succ List.getElem?_nil List.set_cons_zero List.set_cons_succ List.drop_zero List.drop_succ_cons List.take_zero List.take_succ_cons List.take_nil List.drop_nil List.map_cons List.map_nil Option.map_some if_true if_false Bool.false_eq_true and_self true_and and_true Nat.reduceLeDiff Nat.reduceLT Nat.le_refl Nat.reduceEqDiff ite_true ite_false beq_self_eq_true beq_true beq_false Bool.not_true Bool.not_false Bool.true_beq Bool.false_beq map_vs vs_len vs_get vs_take vs_drop vs_snoc1 vs_snoc2 vs_snoc3 vs_snoc5 vs_set1 vs_set2 vs_rep wrap_id le_T lt_T le_F lt_F leI_T ltI_T leI_F ltI_F geI gtI get_T decide_true decide_false room List.getElem?_map List.length_map List.length_take Int.toNat_natCast Nat.min_def Nat.min_self nth_kOf put_kOf put_kNo kOv_cons kOv_nil KHas KArgs List.getElem_cons_zero List.getElem_cons_succ
def a_ConM : AFunc := ⟨2, 9, [.tmp 4],
  (.seq (.region [⟨(some 4), .mv (.c (.v (.bool false))), none⟩])
  (.seq (.region [⟨(some 5), .mv (.t 0), none⟩, ⟨(some 6), .mv (.t 1), none⟩, ⟨(some 7), .call (.c (.fn 112 [])) [(.t 5), (.t 6)], none⟩, ⟨(some 8), .bin .geq (.t 7) (.c (.v (.int .i64 0))), none⟩, ⟨(some 4), .mv (.t 8), none⟩])
  .ret))⟩
theorem a_ConM_ok : cFunc Try.prog 59 = some a_ConM := by kernel_rfl
def a_IndM : AFunc := ⟨2, 19, [.tmp 4],
  (.seq (.region [⟨(some 4), .mv (.c (.v (.int .i64 0))), none⟩])
  (.seq (.seq (.region [⟨(some 6), .mv (.t 0), none⟩, ⟨(some 7), .len (.t 6), none⟩, ⟨(some 8), .mv (.c (.v (.int .i64 0))), none⟩])
  (.block 0 (.loop (.seq (.region [⟨(some 9), .bin .lss (.t 8) (.t 7), none⟩])
  (.seq (.cond (.t 9) .skip
  (.exit 0))
  (.seq (.block 1 (.seq (.region [⟨(some 10), .mv (.t 8), none⟩, ⟨(some 5), .mv (.t 10), none⟩])
  (.seq (.region [⟨(some 11), .mv (.t 1), none⟩, ⟨(some 12), .mv (.t 0), none⟩, ⟨(some 13), .mv (.t 5), none⟩, ⟨(some 14), .iaddr 1 (.t 12) (.t 13), none⟩, ⟨(some 15), .load none (.t 14), none⟩, ⟨(some 16), .call (.t 11) [(.t 15)], none⟩])
  (.cond (.t 16) (.seq (.region [⟨(some 17), .mv (.t 5), none⟩, ⟨(some 4), .mv (.t 17), none⟩])
  .ret)
  .skip))))
  (.region [⟨(some 18), .bin .add (.t 8) (.c (.v (.int .i64 1))), none⟩, ⟨(some 8), .mv (.t 18), none⟩])))))))
  (.seq (.region [⟨(some 4), .mv (.c (.v (.int .i64 (-1)))), none⟩])
  .ret)))⟩
theorem a_IndM_ok : cFunc Try.prog 112 = some a_IndM := by kernel_rfl
def r_IndM0 : List (Nat × Nat) := [(4, 5), (8, 18)]

theorem indexM_spec (v : List (List Int)) (k : Nat) (caps : List AV) (p : Nat → Bool) (hn : v.length ≤ 1000000) (b l : List Row)
    (hp : ∀ (i : Nat) (h : i < v.length), ACalls Try.prog k (.v (.isl 1 (v[i].map eI)) :: caps) (b ++ l) [] (fun r b' l' => r = .v (.bool (p i)) ∧ b' = b ++ l ∧ l' = [])) :
    ACalls Try.prog 112 [.v (.isl 1 (v.map eRw)), .fn k caps] b l (fun r b' l' => r = .v (.int .i64 (firstP p v.length)) ∧ b' = b ∧ l' = l) := by
  refine calls_kept a_IndM_ok rfl (by decide) ?_
  intro B g hB hR hE hA
  simp only [KArgs] at hA
  simp (disch := decide) only [a_IndM, hA, List.length_map, go_sem]
  refine loop_kept (ι := Nat) r_IndM0 (fun i => [(8, .v (.int .i64 i))]) 0 (fun _ => [])
    (fun i => i ≤ v.length ∧ ∀ j, j < i → p j = false) (fun i => v.length - i) 0 ⟨Nat.zero_le _, fun j hj => by omega⟩ (by (repeat (first | exact hE.mono (by omega) | refine KLt.up ?_ (by simp (disch := omega) only [AVlt_v, AVlt_any, AVlt_sl, AVlt_ptr, AVlt_mp, AVlt_agg, AVlt_tup, AVlt_fn, RowsLt_nil, RowsLt_live, RowsLt_dead, List.mem_cons, List.not_mem_nil, List.forall_mem_cons, List.forall_mem_nil, or_false, false_or, forall_eq_or_imp, forall_eq, vs_lt, Nat.add_lt_add_iff_left, Nat.reduceLT, true_and, and_true, and_self, List.length_cons, List.length_nil, Nat.reduceAdd, Nat.zero_add, implies_true, false_imp_iff, lt_T, List.mem_map])))) (by ((try simp (disch := decide) only [hA, go_sem]) <;> (repeat' (first | exact trivial | refine And.intro ?_ ?_)) <;> (first | rfl | (congr 2; omega)))) (fun e => Weak.refl _ _ _) ?_
  rintro g1 hE1 hEE1 hg1 i ⟨hi, h0⟩
  by_cases hlt : i < v.length
  · simp (disch := (first | decide | omega)) only [hA, hg1, eRw, go_sem]
    refine ACalls_mono _ _ _ _ _ _ (hB ▸ hp i hlt) ?_
    rintro r b' l' ⟨rfl, rfl, rfl⟩
    cases hpi : p i
    · simp (disch := (first | decide | omega)) only [hA, hg1, hpi, go_sem]
      refine ⟨i + 1, ⟨hlt, fun j hj => ?_⟩, by simp only; omega, ?_⟩
      · rcases Nat.lt_or_ge j i with hji | hji
        · exact h0 j hji
        · have : j = i := by omega
          rw [this]; exact hpi
      exact Weak.kround (p := r_IndM0) (k := 0) (by ((repeat refine (kAny_up rfl).trans ?_); exact hEE1)) (by ((try simp (disch := decide) only [hA, go_sem]) <;> (repeat' (first | exact trivial | refine And.intro ?_ ?_)) <;> (first | rfl | (congr 2; omega)))) rfl hE1 (by simp) (by simp (disch := omega) only [KOvLt, AVlt_v, AVlt_any, AVlt_sl, AVlt_ptr, AVlt_mp, AVlt_agg, AVlt_tup, AVlt_fn, RowsLt_nil, RowsLt_live, RowsLt_dead, List.mem_cons, List.not_mem_nil, List.forall_mem_cons, List.forall_mem_nil, or_false, false_or, forall_eq_or_imp, forall_eq, vs_lt, Nat.add_lt_add_iff_left, Nat.reduceLT, true_and, and_true, and_self, List.length_cons, List.length_nil, Nat.reduceAdd, Nat.zero_add, implies_true, false_imp_iff, lt_T, List.mem_map]) hR (by simp (disch := omega) only [AVlt_v, AVlt_any, AVlt_sl, AVlt_ptr, AVlt_mp, AVlt_agg, AVlt_tup, AVlt_fn, RowsLt_nil, RowsLt_live, RowsLt_dead, List.mem_cons, List.not_mem_nil, List.forall_mem_cons, List.forall_mem_nil, or_false, false_or, forall_eq_or_imp, forall_eq, vs_lt, Nat.add_lt_add_iff_left, Nat.reduceLT, true_and, and_true, and_self, List.length_cons, List.length_nil, Nat.reduceAdd, Nat.zero_add, implies_true, false_imp_iff, lt_T, List.mem_map])
    · simp (disch := (first | decide | omega)) only [hA, hg1, hpi, go_sem]
      exact leave_pure (xs := [.v (.int .i64 i)]) (.inr rfl) (by simp (disch := (first | decide | omega)) only [resVs, resV, go_sem, hA, hg1]) (by simp only [one, AVlt_v, AVlt_any, AVlt_sl, AVlt_ptr, AVlt_mp, AVlt_agg, AVlt_tup, AVlt_fn, RowsLt_nil, RowsLt_live, RowsLt_dead, List.mem_cons, List.not_mem_nil, List.forall_mem_cons, List.forall_mem_nil, or_false, false_or, forall_eq_or_imp, forall_eq, vs_lt, Nat.add_lt_add_iff_left, Nat.reduceLT, true_and, and_true, and_self, List.length_cons, List.length_nil, Nat.reduceAdd, Nat.zero_add, implies_true, false_imp_iff, lt_T, List.mem_map]) hR hB ⟨by rw [firstP_at hlt h0 hpi]; rfl, rfl, rfl⟩
  · simp (disch := (first | decide | omega)) only [hA, hg1, go_sem]
    obtain rfl : i = v.length := by omega
    exact leave_pure (xs := [.v (.int .i64 (-1))]) (.inr rfl) (by simp (disch := (first | decide | omega)) only [resVs, resV, go_sem, hA, hg1]) (by simp only [one, AVlt_v, AVlt_any, AVlt_sl, AVlt_ptr, AVlt_mp, AVlt_agg, AVlt_tup, AVlt_fn, RowsLt_nil, RowsLt_live, RowsLt_dead, List.mem_cons, List.not_mem_nil, List.forall_mem_cons, List.forall_mem_nil, or_false, false_or, forall_eq_or_imp, forall_eq, vs_lt, Nat.add_lt_add_iff_left, Nat.reduceLT, true_and, and_true, and_self, List.length_cons, List.length_nil, Nat.reduceAdd, Nat.zero_add, implies_true, false_imp_iff, lt_T, List.mem_map]) hR hB ⟨by rw [firstP_none h0]; rfl, rfl, rfl⟩
theorem containsM_spec (v : List (List Int)) (k : Nat) (caps : List AV) (p : Nat → Bool) (hn : v.length ≤ 1000000) (b l : List Row)
    (hp : ∀ (i : Nat) (h : i < v.length), ACalls Try.prog k (.v (.isl 1 (v[i].map eI)) :: caps) (b ++ l) [] (fun r b' l' => r = .v (.bool (p i)) ∧ b' = b ++ l ∧ l' = [])) :
    ACalls Try.prog 59 [.v (.isl 1 (v.map eRw)), .fn k caps] b l (fun r b' l' => r = .v (.bool ((List.range v.length).any p)) ∧ b' = b ∧ l' = l) := by
  refine calls_kept a_ConM_ok rfl (by decide) ?_
  intro B g hB hR hE hA
  simp only [KArgs] at hA
  simp (disch := decide) only [a_ConM, hA, go_sem]
  refine ACalls.nxt (indexM_spec v k caps p hn B [] (by rw [List.append_nil, hB]; exact hp)) ?_
  simp (disch := decide) only [hA, go_sem]
  exact leave_pure (xs := [.v (.bool (decide (0 ≤ firstP p v.length)))]) (.inr rfl) (by simp (disch := (first | decide | omega)) only [resVs, resV, go_sem, hA]) (by simp only [one, AVlt_v, AVlt_any, AVlt_sl, AVlt_ptr, AVlt_mp, AVlt_agg, AVlt_tup, AVlt_fn, RowsLt_nil, RowsLt_live, RowsLt_dead, List.mem_cons, List.not_mem_nil, List.forall_mem_cons, List.forall_mem_nil, or_false, false_or, forall_eq_or_imp, forall_eq, vs_lt, Nat.add_lt_add_iff_left, Nat.reduceLT, true_and, and_true, and_self, List.length_cons, List.length_nil, Nat.reduceAdd, Nat.zero_add, implies_true, false_imp_iff, lt_T, List.mem_map]) hR hB ⟨by rw [firstP_ge]; rfl, rfl, rfl⟩
end Go.Proofs.Ytoaopldaleaijaa

namespace Go.Proofs.Ytoaopldaleaijaa
set_option linter.unusedVariables false
set_option linter.unusedSimpArgs false
attribute [local go_sem ↓] run_skip run_region run_draw run_seq run_block run_exit run_ret run_cond atN_app seqC_normal seqC_exit seqC_ret seqQ_normal seqQ_exit seqQ_ret blkQ_normal blkQ_exit blkQ_ret runOps_nil runOps_cons runD_nil runD_cons grdO_true grdO_false grdD_true grdD_false ifC_true ifC_false opS_val opS_call opS_two opK_app dS_val dS_call dS_two dK_app kUp_same kUp_ne
attribute [local go_sem] rechks_nil rechks_cons rechk gcase_true gcase_false ex_val ex_val0 gd_none gd_some ev_t ev_c evs_nil evs_cons evo_some evo_none hget_at hget_first hsetB_at hsetB_first hsetL_at hsetL_first ofOpt_some aop aload astore aslice aappend aiaddr aiaddrA afaddr alen alenS acopy amm acall alookup amupdate alenM comma keyEq apick binV binVB binVS isSh intOp strOp boolOp shOp eqC eqF and2 cellsOf setFrom fillA fillS rd rdI elems mk bounds AV.cell List.all_cons List.all_nil Bool.and_true Bool.true_and Bool.and_self List.length_cons List.length_nil List.length_append Nat.reduceAdd Nat.reduceSub Nat.reduceMul Nat.zero_add Nat.add_zero List.cons_append List.nil_append List.append_assoc List.append_nil List.getElem?_cons_zero List.getElem?_cons_succ List.getElem?_nil List.set_cons_zero List.set_cons_succ List.drop_zero List.drop_succ_cons List.take_zero List.take_succ_cons List.take_nil List.drop_nil List.map_cons List.map_nil Option.map_some if_true if_false Bool.false_eq_true and_self true_and and_true Nat.reduceLeDiff Nat.reduceLT Nat.le_refl Nat.reduceEqDiff ite_true ite_false beq_self_eq_true beq_true beq_false Bool.not_true Bool.not_false Bool.true_beq Bool.false_beq map_vs vs_len vs_get vs_take vs_drop vs_snoc1 vs_snoc2 vs_snoc3 vs_snoc5 vs_set1 vs_set2 vs_rep wrap_id le_T lt_T le_F lt_F leI_T ltI_T leI_F ltI_F geI gtI get_T decide_true decide_false room List.getElem?_map List.length_map List.length_take Int.toNat_natCast Nat.min_def Nat.min_self nth_kOf put_kOf put_kNo kOv_cons kOv_nil KHas KArgs List.getElem_cons_zero List.getElem_cons_succ
def a_shaped : AFunc := ⟨2, 36, [.tmp 4],
  (.seq (.region [⟨(some 2), .box (.t 0), none⟩, ⟨(some 4), .mv (.c (.v (.bool false))), none⟩])
  (.seq (.seq (.region [⟨(some 7), .mv (.t 1), none⟩, ⟨(some 8), .len (.t 7), none⟩, ⟨(some 9), .faddr 0 (.t 2), none⟩, ⟨(some 10), .load none (.t 9), none⟩, ⟨(some 11), .len (.t 10), none⟩, ⟨(some 12), .bin .neq (.t 8) (.t 11), none⟩])
  (.cond (.t 12) (.seq (.region [⟨(some 4), .mv (.c (.v (.bool false))), none⟩])
  .ret)
  .skip))
  (.seq (.seq (.region [⟨(some 13), .mv (.t 1), none⟩, ⟨(some 14), .len (.t 13), none⟩, ⟨(some 15), .mv (.c (.v (.int .i64 0))), none⟩])
  (.block 0 (.loop (.seq (.region [⟨(some 16), .bin .lss (.t 15) (.t 14), none⟩])
  (.seq (.cond (.t 16) .skip
  (.exit 0))
  (.seq (.block 1 (.seq (.region [⟨(some 17), .mv (.t 15), none⟩, ⟨(some 18), .iaddr 1 (.t 13) (.t 15), none⟩, ⟨(some 19), .load none (.t 18), none⟩, ⟨(some 5), .mv (.t 17), none⟩, ⟨(some 6), .mv (.t 19), none⟩])
  (.seq (.region [⟨(some 20), .mv (.t 6), none⟩, ⟨(some 21), .len (.t 20), none⟩, ⟨(some 22), .faddr 0 (.t 2), none⟩, ⟨(some 23), .load none (.t 22), none⟩, ⟨(some 24), .mv (.t 5), none⟩, ⟨(some 25), .iaddr 3 (.t 23) (.t 24), none⟩, ⟨(some 26), .faddr 2 (.t 25), none⟩, ⟨(some 27), .load none (.t 26), none⟩, ⟨(some 28), .len (.t 27), none⟩, ⟨(some 29), .bin .neq (.t 21) (.t 28), none⟩, ⟨(some 30), .mv (.t 29), none⟩, ⟨(some 31), .mv (.t 6), some (30, false)⟩, ⟨(some 32), .mkfn 101 [(.t 2)], some (30, false)⟩, ⟨(some 33), .call (.c (.fn 59 [])) [(.t 31), (.t 32)], some (30, false)⟩, ⟨(some 34), .pick (.t 30) (.c (.v (.bool true))) (.t 33), none⟩])
  (.cond (.t 34) (.seq (.region [⟨(some 4), .mv (.c (.v (.bool false))), none⟩])
  .ret)
  .skip))))
  (.region [⟨(some 35), .bin .add (.t 15) (.c (.v (.int .i64 1))), none⟩, ⟨(some 15), .mv (.t 35), none⟩])))))))
  (.seq (.region [⟨(some 4), .mv (.c (.v (.bool true))), none⟩])
  .ret))))⟩
theorem a_shaped_ok : cFunc Try.prog 51 = some a_shaped := by kernel_rfl
def r_shaped0 : List (Nat × Nat) := [(4, 6), (15, 35)]
def a_shaped1 : AFunc := ⟨2, 10, [.tmp 3],
  (.seq (.region [⟨(some 3), .mv (.c (.v (.bool false))), none⟩])
  (.seq (.region [⟨(some 4), .mv (.t 0), none⟩, ⟨(some 5), .len (.t 4), none⟩, ⟨(some 6), .faddr 0 (.t 1), none⟩, ⟨(some 7), .load none (.t 6), none⟩, ⟨(some 8), .len (.t 7), none⟩, ⟨(some 9), .bin .neq (.t 5) (.t 8), none⟩, ⟨(some 3), .mv (.t 9), none⟩])
  .ret))⟩
theorem a_shaped1_ok : cFunc Try.prog 101 = some a_shaped1 := by kernel_rfl

theorem vcs_len {t : Tr} {x : Nat × Nat} : (vcs t x).length = t.length := fl_len
theorem vcs_getD {t : Tr} {x : Nat × Nat} {q : Nat} (h : q < t.length) : (vcs t x).getD q 0 = vc t x q := fl_getD h
theorem vcs_isV {t : Tr} (hv : Vok t) (hS : Small t) (h1 : 1 ≤ t.length) (x : Nat × Nat) : isV (vcs t x) = true := by
  refine isV_mk (by rw [vcs_len]; exact h1) (by rw [vcs_len]; exact hv.hi) (fun i hi => ?_)
  rw [vcs_len] at hi
  rw [vcs_getD hi]
  have h2 := vc_le (t := t) (x := x) (q := i)
  have h3 := hS.ne _ (List.getElem_mem hi)
  rw [evsOf_lt hi] at h2
  omega
theorem le_vc {t : Tr} (hv : Vok t) {x y : Nat × Nat} (hx : x ∈ ids t) : Le t x y ↔ x.2 ≤ vc t y x.1 := by
  obtain ⟨p, i⟩ := x
  obtain ⟨i, rfl⟩ : ∃ k, i = k + 1 := ⟨i - 1, by have := mem_pos hx; simp only at this; omega⟩
  exact vc_iff (mem_ids2.1 hx).2
theorem vc_at {t : Tr} (hv : Vok t) {x : Nat × Nat} (hx : x ∈ ids t) : vc t x x.1 = x.2 := by
  obtain ⟨p, i⟩ := x
  obtain ⟨i, rfl⟩ : ∃ k, i = k + 1 := ⟨i - 1, by have := mem_pos hx; simp only at this; omega⟩
  exact vc_own hv hx
theorem leq_vcs {t : Tr} (hv : Vok t) {x y : Nat × Nat} (hx : x ∈ ids t) : leqV (vcs t x) (vcs t y) = true ↔ Le t x y := by
  rw [leqV_iff, vcs_len]
  constructor
  · intro h
    have hp := (mem_ids.1 hx).1
    have := h x.1 hp
    rw [vcs_getD hp, vcs_getD hp, vc_at hv hx] at this
    rw [le_vc hv hx]; omega
  · intro h q hq
    rw [vcs_getD hq, vcs_getD hq]
    have := vc_mono h q
    omega
theorem le_anti {t : Tr} (hv : Vok t) {x y : Nat × Nat} (hx : x ∈ ids t) (hy : y ∈ ids t) (h1 : Le t x y) (h2 : Le t y x) : x = y := by
  rcases h1 with h1 | h1
  · exact h1
  rcases h2 with h2 | h2
  · exact h2.symm
  have := rk_lt hv hy h1
  have := rk_lt hv hx h2
  omega
theorem bef_le {t : Tr} (hv : Vok t) {x y : Nat × Nat} (hx : x ∈ ids t) (hne : x ≠ y) : befB t x y = true ↔ Le t x y := by
  unfold befB
  rw [decide_eq_false hne, le_vc hv hx]
  simp
theorem exact_eq {t : Tr} (hv : Vok t) {x : Nat × Nat} (hx : x ∈ ids t) : cmpV (vcs t x) (vcs t x) = 0 ∧ befB t x x = false := by
  have h : leqV (vcs t x) (vcs t x) = true := (leq_vcs hv hx).2 (.refl x)
  refine ⟨by unfold cmpV; rw [if_pos h, if_pos h], by unfold befB; simp⟩
theorem exact_ne {t : Tr} (hv : Vok t) {x y : Nat × Nat} (hx : x ∈ ids t) (hy : y ∈ ids t) (hne : x ≠ y) :
    ((befB t x y = true ∧ befB t y x = false ∧ cmpV (vcs t x) (vcs t y) = -1) ∨ (befB t x y = false ∧ befB t y x = true ∧ cmpV (vcs t x) (vcs t y) = 1) ∨ (befB t x y = false ∧ befB t y x = false ∧ cmpV (vcs t x) (vcs t y) = 2)) ∧
    decide ((vc t x x.1 : Int) ≤ (vc t y x.1 : Int)) = befB t x y ∧ decide ((vc t y y.1 : Int) ≤ (vc t x y.1 : Int)) = befB t y x := by
  have e1 : leqV (vcs t x) (vcs t y) = befB t x y := by rw [Bool.eq_iff_iff, leq_vcs hv hx, bef_le hv hx hne]
  have e2 : leqV (vcs t y) (vcs t x) = befB t y x := by rw [Bool.eq_iff_iff, leq_vcs hv hy, bef_le hv hy (Ne.symm hne)]
  refine ⟨?_, ?_, ?_⟩
  · unfold cmpV
    rw [e1, e2]
    cases h1 : befB t x y with
    | true => cases h2 : befB t y x with
      | true => exact absurd (le_anti hv hx hy ((bef_le hv hx hne).1 h1) ((bef_le hv hy (Ne.symm hne)).1 h2)) hne
      | false => simp
    | false => cases h2 : befB t y x <;> simp
  · rw [vc_at hv hx]; unfold befB; rw [decide_eq_false hne]; simp
  · rw [vc_at hv hy]; unfold befB; rw [decide_eq_false (Ne.symm hne)]; simp
theorem event_spec (t : Tr) (hS : Small t) (x : Int × Int) (b l : List Row) :
    ACalls Try.prog 49 [.agg [.v (eT t)], idP x] b l (fun r b' l' => r = .v (.bool (existsB t x.1 x.2)) ∧ b' = b ∧ l' = l) := exists_gen _ (by kernel_rfl) t hS x b l
theorem shaped1_spec (t : Tr) (x : List Int) (id : Nat) (b : List Row) (hid : b[id]? = some (.live 0 1 [[.v (eT t)]])) : ACalls Try.prog 101 [.v (.isl 1 (x.map eI)), .ptr id 0 0 0] b [] (fun r b' l' => r = .v (.bool ((x.length : Int) != (t.length : Int))) ∧ b' = b ∧ l' = []) := by
  refine calls_kept a_shaped1_ok rfl (by decide) ?_
  intro B g hB hR hE hA
  simp only [KArgs] at hA
  have hBb : B = b := by rw [hB, List.append_nil]
  have hbase := hget_low (B := B) (hBb.symm ▸ hid)
  simp (disch := (first | decide | omega)) only [a_shaped1, hA, hbase, eT, List.length_map, go_sem]
  exact leave_pure (xs := [.v (.bool ((x.length : Int) != (t.length : Int)))]) (.inr rfl) (by simp (disch := (first | decide | omega)) only [resVs, resV, go_sem, hA]) (by simp only [one, AVlt_v, AVlt_any, AVlt_sl, AVlt_ptr, AVlt_mp, AVlt_agg, AVlt_tup, AVlt_fn, RowsLt_nil, RowsLt_live, RowsLt_dead, List.mem_cons, List.not_mem_nil, List.forall_mem_cons, List.forall_mem_nil, or_false, false_or, forall_eq_or_imp, forall_eq, vs_lt, Nat.add_lt_add_iff_left, Nat.reduceLT, true_and, and_true, and_self, List.length_cons, List.length_nil, Nat.reduceAdd, Nat.zero_add, implies_true, false_imp_iff, lt_T, List.mem_map]) hR hB ⟨rfl, rfl, rfl⟩
theorem stL_at {t : Tr} {p : Nat} (h : p < t.length) : (stL t)[p]? = some (fl (evsOf t p).length fun i => vcs t (p, i + 1)) := fl_get h
theorem shaped_spec (t : Tr) (hv : Vok t) (hS : Small t) (b l : List Row) :
    ACalls Try.prog 51 [.agg [.v (eT t)], .v (.isl 1 ((stL t).map eMx))] b l (fun r b' l' => r = .v (.bool true) ∧ b' = b ∧ l' = l) := by
  refine calls_kept a_shaped_ok rfl (by decide) ?_
  intro B g hB hR hE hA
  simp only [KArgs] at hA
  have h8 := hv.hi
  have hnn : ∀ n : Int, (n != n) = false := fun n => by simp
  simp (disch := (first | decide | omega)) only [a_shaped, hA, List.length_map, stL_len, eT, hnn, go_sem]
  refine loop_kept (ι := Nat) r_shaped0 (fun i => [(15, .v (.int .i64 i))]) 1 (fun i => [.live 0 1 [[.v (eT t)]]])
    (fun i => i ≤ t.length) (fun i => t.length - i) 0 (Nat.zero_le _) (by (repeat (first | exact hE.mono (by omega) | refine KLt.up ?_ (by simp (disch := omega) only [AVlt_v, AVlt_any, AVlt_sl, AVlt_ptr, AVlt_mp, AVlt_agg, AVlt_tup, AVlt_fn, RowsLt_nil, RowsLt_live, RowsLt_dead, List.mem_cons, List.not_mem_nil, List.forall_mem_cons, List.forall_mem_nil, or_false, false_or, forall_eq_or_imp, forall_eq, vs_lt, Nat.add_lt_add_iff_left, Nat.reduceLT, true_and, and_true, and_self, List.length_cons, List.length_nil, Nat.reduceAdd, Nat.zero_add, implies_true, false_imp_iff, lt_T, List.mem_map])))) (by ((try simp (disch := decide) only [hA, go_sem]) <;> (repeat' (first | exact trivial | refine And.intro ?_ ?_)) <;> (first | rfl | (congr 2; omega)))) (fun e => Weak.refl _ _ _) ?_
  intro g1 hE1 hEE1 hg1 i hi
  by_cases hil : i < t.length
  · have hst := stL_at hil
    have hst' : ∀ h, (stL t)[i]'h = fl (evsOf t i).length fun k => vcs t (i, k + 1) := fun h => fl_getE h
    have hne := hS.ne _ (List.getElem_mem hil)
    have hil2 : i < (stL t).length := by rw [stL_len]; exact hil
    have hev := evsOf_lt hil
    simp (disch := (first | decide | omega)) only [hA, hg1, hst', eMx, ePr, eT, List.length_map, fl_len, hev, hnn, go_sem]
    refine ACalls.nxt (containsM_spec (fl t[i].evs.length fun k => vcs t (i, k + 1)) _ [.ptr B.length 0 0 0] (fun k => ((t.length : Int) != (t.length : Int))) (by rw [fl_len]; omega) _ _ (fun k hk => by
      have := shaped1_spec t ((fl t[i].evs.length fun k => vcs t (i, k + 1))[k]) B.length (B ++ [.live 0 1 [[.v (eT t)]]]) (by rw [List.getElem?_append_right (Nat.le_refl _)]; simp)
      have e : ((fl t[i].evs.length fun k => vcs t (i, k + 1))[k]).length = t.length := by rw [fl_getE hk, vcs_len]
      rw [e] at this
      exact this)) ?_
    have hany : ((List.range (fl t[i].evs.length fun k => vcs t (i, k + 1)).length).any fun k => ((t.length : Int) != (t.length : Int))) = false := by
      rw [List.any_eq_false]; intro k _; simp
    rw [hany]
    simp (disch := (first | decide | omega)) only [hA, hg1, go_sem]
    refine ⟨i + 1, hil, by simp only; omega, ?_⟩
    exact Weak.kround (p := r_shaped0) (k := 1) (by ((repeat refine (kAny_up rfl).trans ?_); exact hEE1)) (by ((try simp (disch := decide) only [hA, go_sem]) <;> (repeat' (first | exact trivial | refine And.intro ?_ ?_)) <;> (first | rfl | (congr 2; omega)))) rfl hE1 (by simp) (by simp (disch := omega) only [KOvLt, AVlt_v, AVlt_any, AVlt_sl, AVlt_ptr, AVlt_mp, AVlt_agg, AVlt_tup, AVlt_fn, RowsLt_nil, RowsLt_live, RowsLt_dead, List.mem_cons, List.not_mem_nil, List.forall_mem_cons, List.forall_mem_nil, or_false, false_or, forall_eq_or_imp, forall_eq, vs_lt, Nat.add_lt_add_iff_left, Nat.reduceLT, true_and, and_true, and_self, List.length_cons, List.length_nil, Nat.reduceAdd, Nat.zero_add, implies_true, false_imp_iff, lt_T, List.mem_map]) hR (by simp (disch := omega) only [AVlt_v, AVlt_any, AVlt_sl, AVlt_ptr, AVlt_mp, AVlt_agg, AVlt_tup, AVlt_fn, RowsLt_nil, RowsLt_live, RowsLt_dead, List.mem_cons, List.not_mem_nil, List.forall_mem_cons, List.forall_mem_nil, or_false, false_or, forall_eq_or_imp, forall_eq, vs_lt, Nat.add_lt_add_iff_left, Nat.reduceLT, true_and, and_true, and_self, List.length_cons, List.length_nil, Nat.reduceAdd, Nat.zero_add, implies_true, false_imp_iff, lt_T, List.mem_map])
  · simp (disch := (first | decide | omega)) only [hA, hg1, stL_len, go_sem]
    exact leave_pure (xs := [.v (.bool true)]) (.inr rfl) (by simp (disch := (first | decide | omega)) only [resVs, resV, go_sem, hA, hg1]) (by simp only [one, AVlt_v, AVlt_any, AVlt_sl, AVlt_ptr, AVlt_mp, AVlt_agg, AVlt_tup, AVlt_fn, RowsLt_nil, RowsLt_live, RowsLt_dead, List.mem_cons, List.not_mem_nil, List.forall_mem_cons, List.forall_mem_nil, or_false, false_or, forall_eq_or_imp, forall_eq, vs_lt, Nat.add_lt_add_iff_left, Nat.reduceLT, true_and, and_true, and_self, List.length_cons, List.length_nil, Nat.reduceAdd, Nat.zero_add, implies_true, false_imp_iff, lt_T, List.mem_map]) hR hB ⟨rfl, rfl, rfl⟩
end Go.Proofs.Ytoaopldaleaijaa

namespace Go.Proofs.Ytoaopldaleaijaa
set_option linter.unusedVariables false
set_option linter.unusedSimpArgs false
attribute [local go_sem ↓] run_skip run_region run_draw run_seq run_block run_exit run_ret run_cond atN_app seqC_normal seqC_exit seqC_ret seqQ_normal seqQ_exit seqQ_ret blkQ_normal blkQ_exit blkQ_ret runOps_nil runOps_cons runD_nil runD_cons grdO_true grdO_false grdD_true grdD_false ifC_true ifC_false opS_val opS_call opS_two opK_app dS_val dS_call dS_two dK_app kUp_same kUp_ne
attribute [local go_sem] rechks_nil rechks_cons rechk gcase_true gcase_false ex_val ex_val0 gd_none gd_some ev_t ev_c evs_nil evs_cons evo_some evo_none hget_at hget_first hsetB_at hsetB_first hsetL_at hsetL_first ofOpt_some aop aload astore aslice aappend aiaddr aiaddrA afaddr alen alenS acopy amm acall alookup amupdate alenM comma keyEq apick binV binVB binVS isSh intOp strOp boolOp shOp eqC eqF and2 cellsOf setFrom fillA fillS rd rdI elems mk bounds AV.cell List.all_cons List.all_nil Bool.and_true Bool.true_and Bool.and_self List.length_cons List.length_nil List.length_append Nat.reduceAdd Nat.reduceSub Nat.reduceMul Nat.zero_add Nat.add_zero List.cons_append List.nil_append List.append_assoc List.append_nil List.getElem?_cons_zero List.getElem?_cons_succ List.getElem?_nil List.set_cons_zero List.set_cons_succ List.drop_zero List.drop_succ_cons List.take_zero List.take_succ_cons List.take_nil List.drop_nil List.map_cons List.map_nil Option.map_some if_true if_false Bool.false_eq_true and_self true_and and_true Nat.reduceLeDiff Nat.reduceLT Nat.le_refl Nat.reduceEqDiff ite_true ite_false beq_self_eq_true beq_true beq_false Bool.not_true Bool.not_false Bool.true_beq Bool.false_beq map_vs vs_len vs_get vs_take vs_drop vs_snoc1 vs_snoc2 vs_snoc3 vs_snoc5 vs_set1 vs_set2 vs_rep wrap_id le_T lt_T le_F lt_F leI_T ltI_T leI_F ltI_F geI gtI get_T decide_true decide_false room List.getElem?_map List.length_map List.length_take Int.toNat_natCast Nat.min_def Nat.min_self nth_kOf put_kOf put_kNo kOv_cons kOv_nil KHas KArgs List.getElem_cons_zero List.getElem_cons_succ
def a_VectorExact : AFunc := ⟨3, 166, [.tmp 6],
  (.seq (.region [⟨(some 3), .box (.t 0), none⟩, ⟨(some 4), .box (.t 1), none⟩, ⟨(some 5), .box (.t 2), none⟩, ⟨(some 6), .mv (.c (.v (.bool false))), none⟩])
  (.seq (.seq (.region [⟨(some 17), .call (.c (.fn 47 [])) [], none⟩, ⟨(some 18), .not (.t 17), none⟩])
  (.cond (.t 18) (.seq (.region [⟨(some 6), .mv (.c (.v (.bool false))), none⟩])
  .ret)
  .skip))
  (.seq (.seq (.region [⟨(some 19), .load (some 1) (.t 3), none⟩, ⟨(some 20), .call (.c (.fn 48 [])) [(.t 19)], none⟩, ⟨(some 21), .not (.t 20), none⟩, ⟨(some 22), .mv (.t 21), none⟩, ⟨(some 23), .load (some 1) (.t 3), some (22, false)⟩, ⟨(some 24), .call (.c (.fn 17 [])) [(.t 23)], some (22, false)⟩, ⟨(some 25), .not (.t 24), some (22, false)⟩, ⟨(some 26), .pick (.t 22) (.c (.v (.bool true))) (.t 25), none⟩, ⟨(some 27), .mv (.t 26), none⟩, ⟨(some 28), .load (some 1) (.t 3), some (27, false)⟩, ⟨(some 29), .load (some 2) (.t 4), some (27, false)⟩, ⟨(some 30), .call (.c (.fn 49 [])) [(.t 28), (.t 29)], some (27, false)⟩, ⟨(some 31), .not (.t 30), some (27, false)⟩, ⟨(some 32), .pick (.t 27) (.c (.v (.bool true))) (.t 31), none⟩, ⟨(some 33), .mv (.t 32), none⟩, ⟨(some 34), .load (some 1) (.t 3), some (33, false)⟩, ⟨(some 35), .load (some 2) (.t 5), some (33, false)⟩, ⟨(some 36), .call (.c (.fn 49 [])) [(.t 34), (.t 35)], some (33, false)⟩, ⟨(some 37), .not (.t 36), some (33, false)⟩, ⟨(some 38), .pick (.t 33) (.c (.v (.bool true))) (.t 37), none⟩])
  (.cond (.t 38) (.seq (.region [⟨(some 6), .mv (.c (.v (.bool true))), none⟩])
  .ret)
  .skip))
  (.seq (.region [⟨(some 40), .load (some 1) (.t 3), none⟩, ⟨(some 41), .call (.c (.fn 50 [])) [(.t 40)], none⟩, ⟨(some 39), .mv (.t 41), none⟩, ⟨(some 42), .extract 0 (.t 39), none⟩, ⟨(some 43), .extract 1 (.t 39), none⟩, ⟨(some 7), .mv (.t 42), none⟩, ⟨(some 8), .mv (.t 43), none⟩])
  (.seq (.seq (.region [⟨(some 44), .mv (.t 8), none⟩, ⟨(some 45), .bin .neq (.t 44) (.c (.v (.int .i64 0))), none⟩, ⟨(some 46), .mv (.t 45), none⟩, ⟨(some 47), .load (some 1) (.t 3), some (46, false)⟩, ⟨(some 48), .mv (.t 7), some (46, false)⟩, ⟨(some 49), .call (.c (.fn 51 [])) [(.t 47), (.t 48)], some (46, false)⟩, ⟨(some 50), .not (.t 49), some (46, false)⟩, ⟨(some 51), .pick (.t 46) (.c (.v (.bool true))) (.t 50), none⟩])
  (.cond (.t 51) (.seq (.region [⟨(some 6), .mv (.c (.v (.bool false))), none⟩])
  .ret)
  .skip))
  (.seq (.draw [⟨0, ⟨(some 52), .mv (.t 7), none⟩, []⟩, ⟨1, ⟨(some 53), .faddr 0 (.t 4), none⟩, []⟩, ⟨2, ⟨(some 54), .load none (.t 53), none⟩, []⟩, ⟨3, ⟨(some 55), .iaddr 1 (.t 52) (.t 54), none⟩, []⟩, ⟨4, ⟨(some 56), .load none (.t 55), none⟩, []⟩, ⟨5, ⟨(some 57), .faddr 1 (.t 4), none⟩, []⟩, ⟨6, ⟨(some 58), .load none (.t 57), none⟩, []⟩, ⟨7, ⟨(some 59), .bin .sub (.t 58) (.c (.v (.int .i64 1))), none⟩, []⟩, ⟨8, ⟨(some 60), .iaddr 1 (.t 56) (.t 59), none⟩, []⟩, ⟨9, ⟨(some 61), .load none (.t 60), none⟩, []⟩, ⟨10, ⟨(some 62), .mv (.t 7), none⟩, []⟩, ⟨11, ⟨(some 63), .faddr 0 (.t 5), none⟩, []⟩, ⟨12, ⟨(some 64), .load none (.t 63), none⟩, []⟩, ⟨13, ⟨(some 65), .iaddr 1 (.t 62) (.t 64), none⟩, []⟩, ⟨14, ⟨(some 66), .load none (.t 65), none⟩, []⟩, ⟨15, ⟨(some 67), .faddr 1 (.t 5), none⟩, []⟩, ⟨16, ⟨(some 68), .load none (.t 67), none⟩, []⟩, ⟨17, ⟨(some 69), .bin .sub (.t 68) (.c (.v (.int .i64 1))), none⟩, []⟩, ⟨18, ⟨(some 70), .iaddr 1 (.t 66) (.t 69), none⟩, []⟩, ⟨19, ⟨(some 71), .load none (.t 70), none⟩, []⟩, ⟨20, ⟨(some 9), .mv (.t 61), none⟩, []⟩, ⟨21, ⟨(some 10), .mv (.t 71), none⟩, []⟩])
  (.seq (.region [⟨(some 73), .load (some 1) (.t 3), none⟩, ⟨(some 74), .load (some 2) (.t 4), none⟩, ⟨(some 75), .load (some 2) (.t 5), none⟩, ⟨(some 76), .call (.c (.fn 23 [])) [(.t 73), (.t 74), (.t 75)], none⟩, ⟨(some 72), .mv (.t 76), none⟩, ⟨(some 77), .extract 0 (.t 72), none⟩, ⟨(some 78), .extract 1 (.t 72), none⟩, ⟨(some 11), .mv (.t 77), none⟩, ⟨(some 12), .mv (.t 78), none⟩])
  (.seq (.region [⟨(some 80), .load (some 1) (.t 3), none⟩, ⟨(some 81), .load (some 2) (.t 5), none⟩, ⟨(some 82), .load (some 2) (.t 4), none⟩, ⟨(some 83), .call (.c (.fn 23 [])) [(.t 80), (.t 81), (.t 82)], none⟩, ⟨(some 79), .mv (.t 83), none⟩, ⟨(some 84), .extract 0 (.t 79), none⟩, ⟨(some 85), .extract 1 (.t 79), none⟩, ⟨(some 13), .mv (.t 84), none⟩, ⟨(some 14), .mv (.t 85), none⟩])
  (.seq (.region [⟨(some 87), .mv (.t 9), none⟩, ⟨(some 88), .mv (.t 10), none⟩, ⟨(some 89), .call (.c (.fn 52 [])) [(.t 87), (.t 88)], none⟩, ⟨(some 86), .mv (.t 89), none⟩, ⟨(some 90), .extract 0 (.t 86), none⟩, ⟨(some 91), .extract 1 (.t 86), none⟩, ⟨(some 15), .mv (.t 90), none⟩, ⟨(some 16), .mv (.t 91), none⟩])
  (.seq (.seq (.region [⟨(some 92), .mv (.t 12), none⟩, ⟨(some 93), .bin .neq (.t 92) (.c (.v (.int .i64 0))), none⟩, ⟨(some 94), .mv (.t 93), none⟩, ⟨(some 95), .mv (.t 14), some (94, false)⟩, ⟨(some 96), .bin .neq (.t 95) (.c (.v (.int .i64 0))), some (94, false)⟩, ⟨(some 97), .pick (.t 94) (.c (.v (.bool true))) (.t 96), none⟩, ⟨(some 98), .mv (.t 97), none⟩, ⟨(some 99), .mv (.t 16), some (98, false)⟩, ⟨(some 100), .bin .neq (.t 99) (.c (.v (.int .i64 0))), some (98, false)⟩, ⟨(some 101), .pick (.t 98) (.c (.v (.bool true))) (.t 100), none⟩])
  (.cond (.t 101) (.seq (.region [⟨(some 6), .mv (.c (.v (.bool false))), none⟩])
  .ret)
  .skip))
  (.seq (.seq (.region [⟨(some 102), .load (some 2) (.t 4), none⟩, ⟨(some 103), .load (some 2) (.t 5), none⟩, ⟨(some 104), .eqs false [.i, .i] (.t 102) (.t 103), none⟩])
  (.cond (.t 104) (.seq (.region [⟨(some 105), .mv (.t 15), none⟩, ⟨(some 106), .bin .eql (.t 105) (.c (.v (.int .i64 0))), none⟩, ⟨(some 107), .mv (.t 106), none⟩, ⟨(some 108), .mv (.t 11), some (107, true)⟩, ⟨(some 109), .not (.t 108), some (107, true)⟩, ⟨(some 110), .pick (.t 107) (.t 109) (.c (.v (.bool false))), none⟩, ⟨(some 111), .mv (.t 110), none⟩, ⟨(some 112), .mv (.t 13), some (111, true)⟩, ⟨(some 113), .not (.t 112), some (111, true)⟩, ⟨(some 114), .pick (.t 111) (.t 113) (.c (.v (.bool false))), none⟩, ⟨(some 6), .mv (.t 114), none⟩])
  .ret)
  .skip))
  (.seq (.draw [⟨0, ⟨(some 115), .mv (.t 15), none⟩, []⟩, ⟨1, ⟨(some 116), .bin .eql (.t 115) (.c (.v (.int .i64 (-1)))), none⟩, []⟩, ⟨2, ⟨(some 117), .mv (.t 11), none⟩, []⟩, ⟨3, ⟨(some 118), .binB .eql (.t 116) (.t 117), none⟩, []⟩, ⟨4, ⟨(some 119), .mv (.t 118), none⟩, []⟩, ⟨5, ⟨(some 120), .mv (.t 15), some (119, true)⟩, []⟩, ⟨6, ⟨(some 121), .bin .eql (.t 120) (.c (.v (.int .i64 1))), some (119, true)⟩, []⟩, ⟨7, ⟨(some 122), .mv (.t 13), some (119, true)⟩, []⟩, ⟨8, ⟨(some 123), .binB .eql (.t 121) (.t 122), some (119, true)⟩, []⟩, ⟨9, ⟨(some 124), .pick (.t 119) (.t 123) (.c (.v (.bool false))), none⟩, []⟩, ⟨10, ⟨(some 125), .mv (.t 124), none⟩, []⟩, ⟨11, ⟨(some 126), .mv (.t 15), some (125, true)⟩, []⟩, ⟨12, ⟨(some 127), .bin .eql (.t 126) (.c (.v (.int .i64 2))), some (125, true)⟩, []⟩, ⟨13, ⟨(some 128), .mv (.t 11), some (125, true)⟩, []⟩, ⟨14, ⟨(some 129), .not (.t 128), some (125, true)⟩, []⟩, ⟨15, ⟨(some 130), .mv (.t 129), some (125, true)⟩, []⟩, ⟨16, ⟨(some 131), .mv (.t 13), some (130, true)⟩, []⟩, ⟨17, ⟨(some 132), .not (.t 131), some (130, true)⟩, []⟩, ⟨18, ⟨(some 133), .pick (.t 130) (.t 132) (.c (.v (.bool false))), some (125, true)⟩, []⟩, ⟨19, ⟨(some 134), .binB .eql (.t 127) (.t 133), some (125, true)⟩, []⟩, ⟨20, ⟨(some 135), .pick (.t 125) (.t 134) (.c (.v (.bool false))), none⟩, []⟩, ⟨21, ⟨(some 136), .mv (.t 135), none⟩, []⟩, ⟨22, ⟨(some 137), .mv (.t 9), some (136, true)⟩, []⟩, ⟨23, ⟨(some 138), .faddr 0 (.t 4), some (136, true)⟩, []⟩, ⟨24, ⟨(some 139), .load none (.t 138), some (136, true)⟩, []⟩, ⟨25, ⟨(some 140), .iaddr 1 (.t 137) (.t 139), some (136, true)⟩, []⟩, ⟨26, ⟨(some 141), .load none (.t 140), some (136, true)⟩, []⟩, ⟨27, ⟨(some 142), .mv (.t 10), some (136, true)⟩, []⟩, ⟨28, ⟨(some 143), .faddr 0 (.t 4), some (136, true)⟩, []⟩, ⟨29, ⟨(some 144), .load none (.t 143), some (136, true)⟩, []⟩, ⟨30, ⟨(some 145), .iaddr 1 (.t 142) (.t 144), some (136, true)⟩, []⟩, ⟨31, ⟨(some 146), .load none (.t 145), some (136, true)⟩, []⟩, ⟨32, ⟨(some 147), .bin .leq (.t 141) (.t 146), some (136, true)⟩, []⟩, ⟨33, ⟨(some 148), .mv (.t 11), some (136, true)⟩, []⟩, ⟨34, ⟨(some 149), .binB .eql (.t 147) (.t 148), some (136, true)⟩, []⟩, ⟨35, ⟨(some 150), .pick (.t 136) (.t 149) (.c (.v (.bool false))), none⟩, []⟩, ⟨36, ⟨(some 151), .mv (.t 150), none⟩, []⟩, ⟨37, ⟨(some 152), .mv (.t 10), some (151, true)⟩, []⟩, ⟨38, ⟨(some 153), .faddr 0 (.t 5), some (151, true)⟩, []⟩, ⟨39, ⟨(some 154), .load none (.t 153), some (151, true)⟩, []⟩, ⟨40, ⟨(some 155), .iaddr 1 (.t 152) (.t 154), some (151, true)⟩, []⟩, ⟨41, ⟨(some 156), .load none (.t 155), some (151, true)⟩, []⟩, ⟨42, ⟨(some 157), .mv (.t 9), some (151, true)⟩, []⟩, ⟨43, ⟨(some 158), .faddr 0 (.t 5), some (151, true)⟩, []⟩, ⟨44, ⟨(some 159), .load none (.t 158), some (151, true)⟩, []⟩, ⟨45, ⟨(some 160), .iaddr 1 (.t 157) (.t 159), some (151, true)⟩, []⟩, ⟨46, ⟨(some 161), .load none (.t 160), some (151, true)⟩, []⟩, ⟨47, ⟨(some 162), .bin .leq (.t 156) (.t 161), some (151, true)⟩, []⟩, ⟨48, ⟨(some 163), .mv (.t 13), some (151, true)⟩, []⟩, ⟨49, ⟨(some 164), .binB .eql (.t 162) (.t 163), some (151, true)⟩, []⟩, ⟨50, ⟨(some 165), .pick (.t 151) (.t 164) (.c (.v (.bool false))), none⟩, []⟩, ⟨51, ⟨(some 6), .mv (.t 165), none⟩, []⟩])
  .ret))))))))))))⟩
theorem a_VectorExact_ok : cFunc Try.prog 9 = some a_VectorExact := by kernel_rfl

set_option maxRecDepth 20000 in
set_option maxHeartbeats 2000000 in
theorem vectorExact_run (t : Tr) (x y : Int × Int) (hN : Nm t) (b l : List Row)
    (hw : ∀ b l, ACalls Try.prog 47 [] b l (fun r b' l' => r = .v (.bool true) ∧ b' = b ∧ l' = l)) :
    ACalls Try.prog 9 [.agg [.v (eT t)], idP x, idP y] b l (fun r b' l' => r = .v (.bool true) ∧ b' = b ∧ l' = l) := by
  refine calls_kept a_VectorExact_ok rfl (by decide) ?_
  intro B g hB hR hE hA
  simp only [KArgs] at hA
  simp (disch := decide) only [a_VectorExact, hA, idP, go_sem]
  refine ACalls.nxt (hw _ _) ?_
  simp (disch := decide) only [hA, go_sem]
  refine ACalls.nxt (few15_spec t _ _) ?_
  cases hf : few15B t with
  | false =>
    simp (disch := decide) only [hA, go_sem]
    exact leave_pure (xs := [.v (.bool true)]) (.inr rfl) (by simp (disch := (first | decide | omega)) only [resVs, resV, go_sem, hA]) (by simp only [one, AVlt_v, AVlt_any, AVlt_sl, AVlt_ptr, AVlt_mp, AVlt_agg, AVlt_tup, AVlt_fn, RowsLt_nil, RowsLt_live, RowsLt_dead, List.mem_cons, List.not_mem_nil, List.forall_mem_cons, List.forall_mem_nil, or_false, false_or, forall_eq_or_imp, forall_eq, vs_lt, Nat.add_lt_add_iff_left, Nat.reduceLT, true_and, and_true, and_self, List.length_cons, List.length_nil, Nat.reduceAdd, Nat.zero_add, implies_true, false_imp_iff, lt_T, List.mem_map]) hR hB ⟨rfl, rfl, rfl⟩
  | true =>
    obtain ⟨f1, f2⟩ := few15_in hf
    have f3 := fun x hx => lgP_in (f2 x hx)
    have hS : Small t := ⟨by omega, fun x hx => by have := (f3 x hx).2.1; omega, fun x hx => by have := (f3 x hx).1; omega, fun x hx e he => by have := (f3 x hx).2.2 e he; omega⟩
    have hC : (ids t).length ≤ 1000000 := by have := ids_few15 (fun x hx => (f3 x hx).1); omega
    simp (disch := decide) only [hA, go_sem]
    refine ACalls.nxt (rvalid_spec t hS hN _ _) ?_
    cases hval : validL t with
    | false =>
      simp (disch := decide) only [hA, go_sem]
      exact leave_pure (xs := [.v (.bool true)]) (.inr rfl) (by simp (disch := (first | decide | omega)) only [resVs, resV, go_sem, hA]) (by simp only [one, AVlt_v, AVlt_any, AVlt_sl, AVlt_ptr, AVlt_mp, AVlt_agg, AVlt_tup, AVlt_fn, RowsLt_nil, RowsLt_live, RowsLt_dead, List.mem_cons, List.not_mem_nil, List.forall_mem_cons, List.forall_mem_nil, or_false, false_or, forall_eq_or_imp, forall_eq, vs_lt, Nat.add_lt_add_iff_left, Nat.reduceLT, true_and, and_true, and_self, List.length_cons, List.length_nil, Nat.reduceAdd, Nat.zero_add, implies_true, false_imp_iff, lt_T, List.mem_map]) hR hB ⟨rfl, rfl, rfl⟩
    | true =>
      have hv := vok hval
      simp (disch := decide) only [hA, go_sem]
      refine ACalls.nxt (event_spec t hS x _ _) ?_
      cases hx : existsB t x.1 x.2 with
      | false =>
        simp (disch := decide) only [hA, go_sem]
        exact leave_pure (xs := [.v (.bool true)]) (.inr rfl) (by simp (disch := (first | decide | omega)) only [resVs, resV, go_sem, hA]) (by simp only [one, AVlt_v, AVlt_any, AVlt_sl, AVlt_ptr, AVlt_mp, AVlt_agg, AVlt_tup, AVlt_fn, RowsLt_nil, RowsLt_live, RowsLt_dead, List.mem_cons, List.not_mem_nil, List.forall_mem_cons, List.forall_mem_nil, or_false, false_or, forall_eq_or_imp, forall_eq, vs_lt, Nat.add_lt_add_iff_left, Nat.reduceLT, true_and, and_true, and_self, List.length_cons, List.length_nil, Nat.reduceAdd, Nat.zero_add, implies_true, false_imp_iff, lt_T, List.mem_map]) hR hB ⟨rfl, rfl, rfl⟩
      | true =>
        simp (disch := decide) only [hA, go_sem]
        refine ACalls.nxt (event_spec t hS y _ _) ?_
        cases hy : existsB t y.1 y.2 with
        | false =>
          simp (disch := decide) only [hA, go_sem]
          exact leave_pure (xs := [.v (.bool true)]) (.inr rfl) (by simp (disch := (first | decide | omega)) only [resVs, resV, go_sem, hA]) (by simp only [one, AVlt_v, AVlt_any, AVlt_sl, AVlt_ptr, AVlt_mp, AVlt_agg, AVlt_tup, AVlt_fn, RowsLt_nil, RowsLt_live, RowsLt_dead, List.mem_cons, List.not_mem_nil, List.forall_mem_cons, List.forall_mem_nil, or_false, false_or, forall_eq_or_imp, forall_eq, vs_lt, Nat.add_lt_add_iff_left, Nat.reduceLT, true_and, and_true, and_self, List.length_cons, List.length_nil, Nat.reduceAdd, Nat.zero_add, implies_true, false_imp_iff, lt_T, List.mem_map]) hR hB ⟨rfl, rfl, rfl⟩
        | true =>
          obtain ⟨p, i, e1, e2, hxi⟩ := existsB_in hx
          obtain ⟨q, j, e3, e4, hyi⟩ := existsB_in hy
          obtain ⟨x1, x2⟩ := x
          obtain ⟨y1, y2⟩ := y
          simp only at e1 e2 e3 e4
          subst e1; subst e2; subst e3; subst e4
          obtain ⟨hp, hpi⟩ := mem_ids2.1 hxi
          obtain ⟨hq, hqj⟩ := mem_ids2.1 hyi
          have h1 : 1 ≤ t.length := by omega
          simp (disch := decide) only [hA, go_sem]
          refine ACalls.nxt (vStamps_spec t hS hN _ _) ?_
          rw [if_pos hval]
          have hn0 : ((0 : Int) != 0) = false := rfl
          simp (disch := decide) only [hA, hn0, go_sem]
          refine ACalls.nxt (shaped_spec t hv hS _ _) ?_
          have hc1 : ((i + 1 : Nat) : Int) - 1 = (i : Int) := by omega
          have hc2 : ((j + 1 : Nat) : Int) - 1 = (j : Int) := by omega
          have hsp : (stL t)[p]? = some _ := stL_at hp
          have hsq : (stL t)[q]? = some _ := stL_at hq
          have hb1 := befR_ids hval hxi hyi
          have hb2 := befR_ids hval hyi hxi
          simp only at hb1 hb2
          have hpe := evsOf_lt hp
          have hqe := evsOf_lt hq
          have hstp : ∀ h, (stL t)[p]'h = fl (evsOf t p).length fun k => vcs t (p, k + 1) := fun h => fl_getE h
          have hstq : ∀ h, (stL t)[q]'h = fl (evsOf t q).length fun k => vcs t (q, k + 1) := fun h => fl_getE h
          have hrp : ∀ h, (fl (evsOf t p).length fun k => vcs t (p, k + 1))[i]'h = vcs t (p, i + 1) := fun h => fl_getE h
          have hrq : ∀ h, (fl (evsOf t q).length fun k => vcs t (q, k + 1))[j]'h = vcs t (q, j + 1) := fun h => fl_getE h
          have hlen : ∀ z, (vcs t z).length = t.length := fun z => fl_len
          have hgt : ∀ z r, r < t.length → ∀ h, (vcs t z)[r]'h = (vc t z r : Int) := fun z r hr h => fl_getE h
          have hboth := bothV_mk (vcs_isV hv hS h1 (p, i + 1)) (vcs_isV hv hS h1 (q, j + 1)) (by rw [hlen, hlen])
          have hcmp : cmpR (vcs t (p, i + 1)) (vcs t (q, j + 1)) = .tup [.v (.int .i64 (cmpV (vcs t (p, i + 1)) (vcs t (q, j + 1)))), .v (.int .i64 0)] := by
            unfold cmpR; rw [if_pos hboth, if_pos hboth]
          have hbp : (evsOf t p).length ≤ 1000000 := by rw [evsOf_lt hp]; exact hS.ne _ (List.getElem_mem hp)
          have hbq : (evsOf t q).length ≤ 1000000 := by rw [evsOf_lt hq]; exact hS.ne _ (List.getElem_mem hq)
          have hl1 : p < (stL t).length := by rw [stL_len]; exact hp
          have hl2 : q < (stL t).length := by rw [stL_len]; exact hq
          have hl3 : i < (fl (evsOf t p).length fun k => vcs t (p, k + 1)).length := by rw [fl_len]; exact hpi
          have hl4 : j < (fl (evsOf t q).length fun k => vcs t (q, k + 1)).length := by rw [fl_len]; exact hqj
          simp (disch := (first | decide | omega)) only [hA, hstp, hstq, hrp, hrq, hc1, hc2, eMx, eRw, go_sem]
          refine ACalls.nxt (Before_spec t hS hN (fun _ => hC) ((p : Int), ((i + 1 : Nat) : Int)) ((q : Int), ((j + 1 : Nat) : Int)) _ _) ?_
          rw [hb1]
          simp (disch := (first | decide | omega)) only [hA, go_sem]
          refine ACalls.nxt (Before_spec t hS hN (fun _ => hC) ((q : Int), ((j + 1 : Nat) : Int)) ((p : Int), ((i + 1 : Nat) : Int)) _ _) ?_
          rw [hb2]
          simp (disch := (first | decide | omega)) only [hA, go_sem]
          refine ACalls.nxt (compare_spec (vcs t (p, i + 1)) (vcs t (q, j + 1)) _ _) ?_
          rw [hcmp]
          simp (disch := (first | decide | omega)) only [hA, hn0, go_sem]
          have hxy : (((p : Int) == (q : Int)) && (((i + 1 : Nat) : Int) == ((j + 1 : Nat) : Int))) = decide ((p, i + 1) = (q, j + 1)) := by
            rw [Bool.eq_iff_iff]; simp; omega
          by_cases hne : (p, i + 1) = (q, j + 1)
          · obtain ⟨c1, c2⟩ := exact_eq hv hxi
            have hxy' := hxy.trans (decide_eq_true hne)
            rw [← hne, c1, c2]
            simp (disch := (first | decide | omega)) only [hA, hn0, hxy', go_sem]
            exact leave_pure (xs := [.v (.bool true)]) (.inr rfl) (by simp (disch := (first | decide | omega)) only [resVs, resV, go_sem, hA]) (by simp only [one, AVlt_v, AVlt_any, AVlt_sl, AVlt_ptr, AVlt_mp, AVlt_agg, AVlt_tup, AVlt_fn, RowsLt_nil, RowsLt_live, RowsLt_dead, List.mem_cons, List.not_mem_nil, List.forall_mem_cons, List.forall_mem_nil, or_false, false_or, forall_eq_or_imp, forall_eq, vs_lt, Nat.add_lt_add_iff_left, Nat.reduceLT, true_and, and_true, and_self, List.length_cons, List.length_nil, Nat.reduceAdd, Nat.zero_add, implies_true, false_imp_iff, lt_T, List.mem_map]) hR hB ⟨rfl, rfl, rfl⟩
          · obtain ⟨hcs, d1, d2⟩ := exact_ne hv hxi hyi hne
            have hxy' := hxy.trans (decide_eq_false hne)
            have l1 : ((-1 : Int) == 1) = false := rfl
            have l2 : ((-1 : Int) == 2) = false := rfl
            have l3 : ((1 : Int) == -1) = false := rfl
            have l4 : ((1 : Int) == 2) = false := rfl
            have l5 : ((2 : Int) == -1) = false := rfl
            have l6 : ((2 : Int) == 1) = false := rfl
            simp only at d1 d2
            rcases hcs with ⟨c1, c2, c3⟩ | ⟨c1, c2, c3⟩ | ⟨c1, c2, c3⟩ <;>
            · rw [c1, c2, c3]
              rw [c1] at d1
              rw [c2] at d2
              have m1 := hlen (p, i + 1)
              have m2 := hlen (q, j + 1)
              have m3 := hgt (p, i + 1) p hp
              have m4 := hgt (q, j + 1) p hp
              have m5 := hgt (p, i + 1) q hq
              have m6 := hgt (q, j + 1) q hq
              simp (disch := (first | decide | omega)) only [hA, hn0, hxy', m3, m4, m5, m6, d1, d2, eI, l1, l2, l3, l4, l5, l6, go_sem]
              exact leave_pure (xs := [.v (.bool true)]) (.inr rfl) (by simp (disch := (first | decide | omega)) only [resVs, resV, go_sem, hA]) (by simp only [one, AVlt_v, AVlt_any, AVlt_sl, AVlt_ptr, AVlt_mp, AVlt_agg, AVlt_tup, AVlt_fn, RowsLt_nil, RowsLt_live, RowsLt_dead, List.mem_cons, List.not_mem_nil, List.forall_mem_cons, List.forall_mem_nil, or_false, false_or, forall_eq_or_imp, forall_eq, vs_lt, Nat.add_lt_add_iff_left, Nat.reduceLT, true_and, and_true, and_self, List.length_cons, List.length_nil, Nat.reduceAdd, Nat.zero_add, implies_true, false_imp_iff, lt_T, List.mem_map]) hR hB ⟨rfl, rfl, rfl⟩
end Go.Proofs.Ytoaopldaleaijaa

namespace Go.Proofs.Ytoaopldaleaijaa
set_option linter.unusedVariables false
theorem tr_eid : TR Try.prog 26 2 (fun x : Int × Int => [.int .i64 x.1, .int .i64 x.2]) (fun x => (Lit.int .i64 x.1).wf = true ∧ (Lit.int .i64 x.2).wf = true) :=
  (tr_struct Try.underlying26 (trf_cons tr_i (by kernel_rfl) rfl (trf_cons tr_i (by kernel_rfl) rfl trf_nil))).map (fun y => (y.1, y.2.1)) (fun _ => rfl) (fun _ h => ⟨h.1, h.2.1⟩)
end Go.Proofs.Ytoaopldaleaijaa

namespace Go.Proofs.Ytoaopldaleaijaa
set_option linter.unusedVariables false
set_option linter.unusedSimpArgs false
attribute [local go_sem ↓] run_skip run_region run_draw run_seq run_block run_exit run_ret run_cond atN_app seqC_normal seqC_exit seqC_ret seqQ_normal seqQ_exit seqQ_ret blkQ_normal blkQ_exit blkQ_ret runOps_nil runOps_cons runD_nil runD_cons grdO_true grdO_false grdD_true grdD_false ifC_true ifC_false opS_val opS_call opS_two opK_app dS_val dS_call dS_two dK_app kUp_same kUp_ne
attribute [local go_sem] rechks_nil rechks_cons rechk gcase_true gcase_false ex_val ex_val0 gd_none gd_some ev_t ev_c evs_nil evs_cons evo_some evo_none hget_at hget_first hsetB_at hsetB_first hsetL_at hsetL_first ofOpt_some aop aload astore aslice aappend aiaddr aiaddrA afaddr alen alenS acopy amm acall alookup amupdate alenM comma keyEq apick binV binVB binVS isSh intOp strOp boolOp shOp eqC eqF and2 cellsOf setFrom fillA fillS rd rdI elems mk bounds AV.cell List.all_cons List.all_nil Bool.and_true Bool.true_and Bool.and_self List.length_cons List.length_nil List.length_append Nat.reduceAdd Nat.reduceSub Nat.reduceMul Nat.zero_add Nat.add_zero List.cons_append List.nil_append List.append_assoc List.append_nil List.getElem?_cons_zero List.getElem?_cons_succ List.getElem?_nil List.set_cons_zero List.set_cons_succ List.drop_zero List.drop_succ_cons List.take_zero List.take_succ_cons List.take_nil List.drop_nil List.map_cons List.map_nil Option.map_some if_true if_false Bool.false_eq_true and_self true_and and_true Nat.reduceLeDiff Nat.reduceLT Nat.le_refl Nat.reduceEqDiff ite_true ite_false beq_self_eq_true beq_true beq_false Bool.not_true Bool.not_false Bool.true_beq Bool.false_beq map_vs vs_len vs_get vs_take vs_drop vs_snoc1 vs_snoc2 vs_snoc3 vs_snoc5 vs_set1 vs_set2 vs_rep wrap_id le_T lt_T le_F lt_F leI_T ltI_T leI_F ltI_F geI gtI get_T decide_true decide_false room List.getElem?_map List.length_map List.length_take Int.toNat_natCast Nat.min_def Nat.min_self nth_kOf put_kOf put_kNo kOv_cons kOv_nil KHas KArgs List.getElem_cons_zero List.getElem_cons_succ
def a_VectorCounts : AFunc := ⟨2, 97, [.tmp 4],
  (.seq (.region [⟨(some 2), .box (.t 0), none⟩, ⟨(some 3), .box (.t 1), none⟩, ⟨(some 4), .mv (.c (.v (.bool false))), none⟩])
  (.seq (.seq (.region [⟨(some 15), .call (.c (.fn 47 [])) [], none⟩, ⟨(some 16), .not (.t 15), none⟩])
  (.cond (.t 16) (.seq (.region [⟨(some 4), .mv (.c (.v (.bool false))), none⟩])
  .ret)
  .skip))
  (.seq (.seq (.region [⟨(some 17), .load (some 1) (.t 2), none⟩, ⟨(some 18), .call (.c (.fn 48 [])) [(.t 17)], none⟩, ⟨(some 19), .not (.t 18), none⟩, ⟨(some 20), .mv (.t 19), none⟩, ⟨(some 21), .load (some 1) (.t 2), some (20, false)⟩, ⟨(some 22), .call (.c (.fn 17 [])) [(.t 21)], some (20, false)⟩, ⟨(some 23), .not (.t 22), some (20, false)⟩, ⟨(some 24), .pick (.t 20) (.c (.v (.bool true))) (.t 23), none⟩, ⟨(some 25), .mv (.t 24), none⟩, ⟨(some 26), .load (some 1) (.t 2), some (25, false)⟩, ⟨(some 27), .load (some 2) (.t 3), some (25, false)⟩, ⟨(some 28), .call (.c (.fn 49 [])) [(.t 26), (.t 27)], some (25, false)⟩, ⟨(some 29), .not (.t 28), some (25, false)⟩, ⟨(some 30), .pick (.t 25) (.c (.v (.bool true))) (.t 29), none⟩])
  (.cond (.t 30) (.seq (.region [⟨(some 4), .mv (.c (.v (.bool true))), none⟩])
  .ret)
  .skip))
  (.seq (.region [⟨(some 32), .load (some 1) (.t 2), none⟩, ⟨(some 33), .call (.c (.fn 50 [])) [(.t 32)], none⟩, ⟨(some 31), .mv (.t 33), none⟩, ⟨(some 34), .extract 0 (.t 31), none⟩, ⟨(some 35), .extract 1 (.t 31), none⟩, ⟨(some 5), .mv (.t 34), none⟩, ⟨(some 6), .mv (.t 35), none⟩])
  (.seq (.seq (.region [⟨(some 36), .mv (.t 6), none⟩, ⟨(some 37), .bin .neq (.t 36) (.c (.v (.int .i64 0))), none⟩, ⟨(some 38), .mv (.t 37), none⟩, ⟨(some 39), .load (some 1) (.t 2), some (38, false)⟩, ⟨(some 40), .mv (.t 5), some (38, false)⟩, ⟨(some 41), .call (.c (.fn 51 [])) [(.t 39), (.t 40)], some (38, false)⟩, ⟨(some 42), .not (.t 41), some (38, false)⟩, ⟨(some 43), .pick (.t 38) (.c (.v (.bool true))) (.t 42), none⟩])
  (.cond (.t 43) (.seq (.region [⟨(some 4), .mv (.c (.v (.bool false))), none⟩])
  .ret)
  .skip))
  (.seq (.draw [⟨0, ⟨(some 44), .mv (.t 5), none⟩, []⟩, ⟨1, ⟨(some 45), .faddr 0 (.t 3), none⟩, []⟩, ⟨2, ⟨(some 46), .load none (.t 45), none⟩, []⟩, ⟨3, ⟨(some 47), .iaddr 1 (.t 44) (.t 46), none⟩, []⟩, ⟨4, ⟨(some 48), .load none (.t 47), none⟩, []⟩, ⟨5, ⟨(some 49), .faddr 1 (.t 3), none⟩, []⟩, ⟨6, ⟨(some 50), .load none (.t 49), none⟩, []⟩, ⟨7, ⟨(some 51), .bin .sub (.t 50) (.c (.v (.int .i64 1))), none⟩, []⟩, ⟨8, ⟨(some 52), .iaddr 1 (.t 48) (.t 51), none⟩, []⟩, ⟨9, ⟨(some 53), .load none (.t 52), none⟩, []⟩, ⟨10, ⟨(some 7), .mv (.t 53), none⟩, []⟩])
  (.seq (.seq (.region [⟨(some 54), .faddr 0 (.t 2), none⟩, ⟨(some 55), .load none (.t 54), none⟩, ⟨(some 56), .len (.t 55), none⟩, ⟨(some 57), .mv (.c (.v (.int .i64 0))), none⟩])
  (.block 0 (.loop (.seq (.region [⟨(some 58), .bin .lss (.t 57) (.t 56), none⟩])
  (.seq (.cond (.t 58) .skip
  (.exit 0))
  (.seq (.block 1 (.seq (.region [⟨(some 59), .mv (.t 57), none⟩, ⟨(some 60), .iaddr 3 (.t 55) (.t 57), none⟩, ⟨(some 61), .load (some 3) (.t 60), none⟩, ⟨(some 9), .alloc [(.v (.str ⟨#[]⟩)), (.v .zsl), (.v .zsl)], none⟩, ⟨(some 8), .mv (.t 59), none⟩, ⟨none, .store 3 (.t 9) (.t 61), none⟩])
  (.seq (.region [⟨(some 10), .mv (.c (.v (.int .i64 0))), none⟩])
  (.seq (.seq (.region [⟨(some 62), .faddr 2 (.t 9), none⟩, ⟨(some 63), .load none (.t 62), none⟩, ⟨(some 64), .len (.t 63), none⟩, ⟨(some 65), .mv (.c (.v (.int .i64 0))), none⟩])
  (.block 2 (.loop (.seq (.region [⟨(some 66), .bin .lss (.t 65) (.t 64), none⟩])
  (.seq (.cond (.t 66) .skip
  (.exit 2))
  (.seq (.block 3 (.seq (.region [⟨(some 67), .mv (.t 65), none⟩, ⟨(some 11), .mv (.t 67), none⟩])
  (.seq (.region [⟨(some 68), .mv (.t 8), none⟩, ⟨(some 69), .mv (.t 11), none⟩, ⟨(some 70), .bin .add (.t 69) (.c (.v (.int .i64 1))), none⟩, ⟨(some 71), .build [(.v (.int .i64 0)), (.v (.int .i64 0))] [(0, 1, (.t 68)), (1, 1, (.t 70))], none⟩, ⟨(some 12), .alloc [(.v (.int .i64 0)), (.v (.int .i64 0))], none⟩, ⟨none, .store 2 (.t 12) (.t 71), none⟩])
  (.seq (.region [⟨(some 73), .load (some 1) (.t 2), none⟩, ⟨(some 74), .load (some 2) (.t 12), none⟩, ⟨(some 75), .load (some 2) (.t 3), none⟩, ⟨(some 76), .call (.c (.fn 23 [])) [(.t 73), (.t 74), (.t 75)], none⟩, ⟨(some 72), .mv (.t 76), none⟩, ⟨(some 77), .extract 0 (.t 72), none⟩, ⟨(some 78), .extract 1 (.t 72), none⟩, ⟨(some 13), .mv (.t 77), none⟩, ⟨(some 14), .mv (.t 78), none⟩])
  (.seq (.seq (.region [⟨(some 79), .mv (.t 14), none⟩, ⟨(some 80), .bin .neq (.t 79) (.c (.v (.int .i64 0))), none⟩])
  (.cond (.t 80) (.seq (.region [⟨(some 4), .mv (.c (.v (.bool false))), none⟩])
  .ret)
  .skip))
  (.seq (.region [⟨(some 81), .mv (.t 13), none⟩, ⟨(some 82), .mv (.t 81), none⟩, ⟨(some 83), .load (some 2) (.t 12), some (82, false)⟩, ⟨(some 84), .load (some 2) (.t 3), some (82, false)⟩, ⟨(some 85), .eqs false [.i, .i] (.t 83) (.t 84), some (82, false)⟩, ⟨(some 86), .pick (.t 82) (.c (.v (.bool true))) (.t 85), none⟩])
  (.cond (.t 86) (.region [⟨(some 87), .mv (.t 10), none⟩, ⟨(some 88), .bin .add (.t 87) (.c (.v (.int .i64 1))), none⟩, ⟨(some 10), .mv (.t 88), none⟩])
  .skip)))))))
  (.region [⟨(some 89), .bin .add (.t 65) (.c (.v (.int .i64 1))), none⟩, ⟨(some 65), .mv (.t 89), none⟩])))))))
  (.seq (.region [⟨(some 90), .mv (.t 7), none⟩, ⟨(some 91), .mv (.t 8), none⟩, ⟨(some 92), .iaddr 1 (.t 90) (.t 91), none⟩, ⟨(some 93), .load none (.t 92), none⟩, ⟨(some 94), .mv (.t 10), none⟩, ⟨(some 95), .bin .neq (.t 93) (.t 94), none⟩])
  (.cond (.t 95) (.seq (.region [⟨(some 4), .mv (.c (.v (.bool false))), none⟩])
  .ret)
  .skip))))))
  (.region [⟨(some 96), .bin .add (.t 57) (.c (.v (.int .i64 1))), none⟩, ⟨(some 57), .mv (.t 96), none⟩])))))))
  (.seq (.region [⟨(some 4), .mv (.c (.v (.bool true))), none⟩])
  .ret))))))))⟩
theorem a_VectorCounts_ok : cFunc Try.prog 8 = some a_VectorCounts := by kernel_rfl
def r_VectorCounts0 : List (Nat × Nat) := [(4, 4), (8, 14), (57, 96)]
def r_VectorCounts1 : List (Nat × Nat) := [(4, 4), (10, 14), (65, 89)]

def upTo (k n : Nat) : Nat := min k n
set_option maxRecDepth 20000 in
set_option maxHeartbeats 2000000 in
theorem vectorCounts_run (t : Tr) (x : Int × Int) (hN : Nm t) (b l : List Row)
    (hw : ∀ b l, ACalls Try.prog 47 [] b l (fun r b' l' => r = .v (.bool true) ∧ b' = b ∧ l' = l)) :
    ACalls Try.prog 8 [.agg [.v (eT t)], idP x] b l (fun r b' l' => r = .v (.bool true) ∧ b' = b ∧ l' = l) := by
  refine calls_kept a_VectorCounts_ok rfl (by decide) ?_
  intro B g hB hR hE hA
  simp only [KArgs] at hA
  simp (disch := decide) only [a_VectorCounts, hA, idP, go_sem]
  refine ACalls.nxt (hw _ _) ?_
  simp (disch := decide) only [hA, go_sem]
  refine ACalls.nxt (few15_spec t _ _) ?_
  cases hf : few15B t with
  | false =>
    simp (disch := decide) only [hA, go_sem]
    exact leave_pure (xs := [.v (.bool true)]) (.inr rfl) (by simp (disch := (first | decide | omega)) only [resVs, resV, go_sem, hA]) (by simp only [one, AVlt_v, AVlt_any, AVlt_sl, AVlt_ptr, AVlt_mp, AVlt_agg, AVlt_tup, AVlt_fn, RowsLt_nil, RowsLt_live, RowsLt_dead, List.mem_cons, List.not_mem_nil, List.forall_mem_cons, List.forall_mem_nil, or_false, false_or, forall_eq_or_imp, forall_eq, vs_lt, Nat.add_lt_add_iff_left, Nat.reduceLT, true_and, and_true, and_self, List.length_cons, List.length_nil, Nat.reduceAdd, Nat.zero_add, implies_true, false_imp_iff, lt_T, List.mem_map]) hR hB ⟨rfl, rfl, rfl⟩
  | true =>
    obtain ⟨f1, f2⟩ := few15_in hf
    have f3 := fun x hx => lgP_in (f2 x hx)
    have hS : Small t := ⟨by omega, fun x hx => by have := (f3 x hx).2.1; omega, fun x hx => by have := (f3 x hx).1; omega, fun x hx e he => by have := (f3 x hx).2.2 e he; omega⟩
    have hC : (ids t).length ≤ 1000000 := by have := ids_few15 (fun x hx => (f3 x hx).1); omega
    simp (disch := decide) only [hA, go_sem]
    refine ACalls.nxt (rvalid_spec t hS hN _ _) ?_
    cases hval : validL t with
    | false =>
      simp (disch := decide) only [hA, go_sem]
      exact leave_pure (xs := [.v (.bool true)]) (.inr rfl) (by simp (disch := (first | decide | omega)) only [resVs, resV, go_sem, hA]) (by simp only [one, AVlt_v, AVlt_any, AVlt_sl, AVlt_ptr, AVlt_mp, AVlt_agg, AVlt_tup, AVlt_fn, RowsLt_nil, RowsLt_live, RowsLt_dead, List.mem_cons, List.not_mem_nil, List.forall_mem_cons, List.forall_mem_nil, or_false, false_or, forall_eq_or_imp, forall_eq, vs_lt, Nat.add_lt_add_iff_left, Nat.reduceLT, true_and, and_true, and_self, List.length_cons, List.length_nil, Nat.reduceAdd, Nat.zero_add, implies_true, false_imp_iff, lt_T, List.mem_map]) hR hB ⟨rfl, rfl, rfl⟩
    | true =>
      have hv := vok hval
      simp (disch := decide) only [hA, go_sem]
      refine ACalls.nxt (event_spec t hS x _ _) ?_
      cases hx : existsB t x.1 x.2 with
      | false =>
        simp (disch := decide) only [hA, go_sem]
        exact leave_pure (xs := [.v (.bool true)]) (.inr rfl) (by simp (disch := (first | decide | omega)) only [resVs, resV, go_sem, hA]) (by simp only [one, AVlt_v, AVlt_any, AVlt_sl, AVlt_ptr, AVlt_mp, AVlt_agg, AVlt_tup, AVlt_fn, RowsLt_nil, RowsLt_live, RowsLt_dead, List.mem_cons, List.not_mem_nil, List.forall_mem_cons, List.forall_mem_nil, or_false, false_or, forall_eq_or_imp, forall_eq, vs_lt, Nat.add_lt_add_iff_left, Nat.reduceLT, true_and, and_true, and_self, List.length_cons, List.length_nil, Nat.reduceAdd, Nat.zero_add, implies_true, false_imp_iff, lt_T, List.mem_map]) hR hB ⟨rfl, rfl, rfl⟩
      | true =>
          obtain ⟨p, i, e1, e2, hxi⟩ := existsB_in hx
          obtain ⟨x1, x2⟩ := x
          simp only at e1 e2
          subst e1; subst e2
          obtain ⟨hp, hpi⟩ := mem_ids2.1 hxi
          have h1 : 1 ≤ t.length := by omega
          simp (disch := decide) only [hA, go_sem]
          refine ACalls.nxt (vStamps_spec t hS hN _ _) ?_
          rw [if_pos hval]
          have hn0 : ((0 : Int) != 0) = false := rfl
          simp (disch := decide) only [hA, hn0, go_sem]
          refine ACalls.nxt (shaped_spec t hv hS _ _) ?_
          have hc1 : ((i + 1 : Nat) : Int) - 1 = (i : Int) := by omega
          have hpe := evsOf_lt hp
          have hstp : ∀ h, (stL t)[p]'h = fl (evsOf t p).length fun k => vcs t (p, k + 1) := fun h => fl_getE h
          have hrp : ∀ h, (fl (evsOf t p).length fun k => vcs t (p, k + 1))[i]'h = vcs t (p, i + 1) := fun h => fl_getE h
          have hlen : ∀ z, (vcs t z).length = t.length := fun z => fl_len
          have hgt : ∀ z r, r < t.length → ∀ h, (vcs t z)[r]'h = (vc t z r : Int) := fun z r hr h => fl_getE h
          have hbp : (evsOf t p).length ≤ 1000000 := by rw [evsOf_lt hp]; exact hS.ne _ (List.getElem_mem hp)
          have hl1 : p < (stL t).length := by rw [stL_len]; exact hp
          have hl3 : i < (fl (evsOf t p).length fun k => vcs t (p, k + 1)).length := by rw [fl_len]; exact hpi
          simp (disch := (first | decide | omega)) only [hA, hstp, hrp, hc1, eMx, eRw, eT, List.length_map, go_sem]
          refine loop_kept (ι := Nat) r_VectorCounts0 (fun q => [(57, .v (.int .i64 q))]) 2 (fun q => [.live 0 1 [[.v (.isl 3 (t.map ePr))]], .live 0 2 [[.v (.int .i64 p), .v (.int .i64 ((i + 1 : Nat) : Int))]]])
            (fun q => q ≤ t.length) (fun q => t.length - q) 0 (Nat.zero_le _) (by (repeat (first | exact hE.mono (by omega) | refine KLt.up ?_ (by simp (disch := omega) only [AVlt_v, AVlt_any, AVlt_sl, AVlt_ptr, AVlt_mp, AVlt_agg, AVlt_tup, AVlt_fn, RowsLt_nil, RowsLt_live, RowsLt_dead, List.mem_cons, List.not_mem_nil, List.forall_mem_cons, List.forall_mem_nil, or_false, false_or, forall_eq_or_imp, forall_eq, vs_lt, Nat.add_lt_add_iff_left, Nat.reduceLT, true_and, and_true, and_self, List.length_cons, List.length_nil, Nat.reduceAdd, Nat.zero_add, implies_true, false_imp_iff, lt_T, List.mem_map])))) (by ((try simp (disch := decide) only [hA, go_sem]) <;> (repeat' (first | exact trivial | refine And.intro ?_ ?_)) <;> (first | rfl | (congr 2; omega)))) (fun e => Weak.refl _ _ _) ?_
          intro g1 hE1 hEE1 hg1 q hq
          by_cases hql : q < t.length
          · have hne := hS.ne _ (List.getElem_mem hql)
            have hqe := evsOf_lt hql
            have hvl := vc_le (t := t) (x := (p, i + 1)) (q := q)
            rw [hqe] at hvl
            have hz : ((upTo 0 (vc t (p, i + 1) q) : Nat) : Int) = 0 := by simp [upTo]
            simp (disch := (first | decide | omega)) only [hA, hg1, ePr, List.length_map, go_sem]
            refine loop_kept (ι := Nat) r_VectorCounts1 (fun k => [(65, .v (.int .i64 k)), (10, .v (.int .i64 ((upTo k (vc t (p, i + 1) q) : Nat) : Int)))]) 3 (fun k => [.live 0 1 [[.v (.isl 3 (t.map ePr))]], .live 0 2 [[.v (.int .i64 p), .v (.int .i64 ((i + 1 : Nat) : Int))]], .live 0 3 [[.v (.str t[q].name), .v (.isl 2 (t[q].vars.map eVr)), .v (.isl 5 (t[q].evs.map eEv))]]])
              (fun k => k ≤ t[q].evs.length) (fun k => t[q].evs.length - k) 0 (Nat.zero_le _) (by (repeat (first | exact hE1.mono (by omega) | refine KLt.up ?_ (by simp (disch := omega) only [AVlt_v, AVlt_any, AVlt_sl, AVlt_ptr, AVlt_mp, AVlt_agg, AVlt_tup, AVlt_fn, RowsLt_nil, RowsLt_live, RowsLt_dead, List.mem_cons, List.not_mem_nil, List.forall_mem_cons, List.forall_mem_nil, or_false, false_or, forall_eq_or_imp, forall_eq, vs_lt, Nat.add_lt_add_iff_left, Nat.reduceLT, true_and, and_true, and_self, List.length_cons, List.length_nil, Nat.reduceAdd, Nat.zero_add, implies_true, false_imp_iff, lt_T, List.mem_map])))) (by ((try simp (disch := decide) only [hA, hg1, hz, go_sem]) <;> (repeat' (first | exact trivial | refine And.intro ?_ ?_)) <;> (first | rfl | (congr 2; omega)))) (fun e => Weak.refl _ _ _) ?_
            intro g2 hE2 hEE2 hg2 k hk
            by_cases hkl : k < t[q].evs.length
            · have hyi : (q, k + 1) ∈ ids t := mem_ids2.2 ⟨hql, by rw [hqe]; exact hkl⟩
              have hb := befR_ids hval hyi hxi
              have hck : ((k + 1 : Nat) : Int) = (k : Int) + 1 := by omega
              simp only [hck] at hb
              simp (disch := (first | decide | omega)) only [hA, hg1, hg2, go_sem]
              refine ACalls.nxt (Before_spec t hS hN (fun _ => hC) ((q : Int), (k : Int) + 1) ((p : Int), ((i + 1 : Nat) : Int)) _ _) ?_
              rw [hb]
              have hup : upTo k (vc t (p, i + 1) q) ≤ k := Nat.min_le_left _ _
              have hyx : (((q : Int) == (p : Int)) && ((k : Int) + 1 == ((i + 1 : Nat) : Int))) = decide ((q, k + 1) = (p, i + 1)) := by
                rw [Bool.eq_iff_iff]; simp; omega
              have hlv := le_vc hv hyi (y := (p, i + 1))
              simp only at hlv
              cases hbb : befB t (q, k + 1) (p, i + 1) with
              | true =>
                have hle := ((befB_iff hv hyi hxi).1 hbb)
                have hkv := hlv.1 (.inr hle)
                have hinc : ((upTo k (vc t (p, i + 1) q) : Nat) : Int) + 1 = ((upTo (k + 1) (vc t (p, i + 1) q) : Nat) : Int) := by unfold upTo; omega
                simp (disch := (first | decide | omega)) only [hA, hg1, hg2, hn0, go_sem]
                refine ⟨k + 1, hkl, by simp only; omega, ?_⟩
                exact Weak.kround (p := r_VectorCounts1) (k := 3) (by ((repeat refine (kAny_up rfl).trans ?_); exact hEE2)) (by ((try simp (disch := decide) only [hA, hinc, go_sem]) <;> (repeat' (first | exact trivial | refine And.intro ?_ ?_)) <;> (first | rfl | (congr 2; omega)))) rfl hE2 (by simp) (by simp (disch := omega) only [KOvLt, AVlt_v, AVlt_any, AVlt_sl, AVlt_ptr, AVlt_mp, AVlt_agg, AVlt_tup, AVlt_fn, RowsLt_nil, RowsLt_live, RowsLt_dead, List.mem_cons, List.not_mem_nil, List.forall_mem_cons, List.forall_mem_nil, or_false, false_or, forall_eq_or_imp, forall_eq, vs_lt, Nat.add_lt_add_iff_left, Nat.reduceLT, true_and, and_true, and_self, List.length_cons, List.length_nil, Nat.reduceAdd, Nat.zero_add, implies_true, false_imp_iff, lt_T, List.mem_map]) hR (by simp (disch := omega) only [AVlt_v, AVlt_any, AVlt_sl, AVlt_ptr, AVlt_mp, AVlt_agg, AVlt_tup, AVlt_fn, RowsLt_nil, RowsLt_live, RowsLt_dead, List.mem_cons, List.not_mem_nil, List.forall_mem_cons, List.forall_mem_nil, or_false, false_or, forall_eq_or_imp, forall_eq, vs_lt, Nat.add_lt_add_iff_left, Nat.reduceLT, true_and, and_true, and_self, List.length_cons, List.length_nil, Nat.reduceAdd, Nat.zero_add, implies_true, false_imp_iff, lt_T, List.mem_map])
              | false =>
                by_cases hyq : (q, k + 1) = (p, i + 1)
                · have hyx' := hyx.trans (decide_eq_true hyq)
                  have hkv := hlv.1 (.inl hyq)
                  have hinc : ((upTo k (vc t (p, i + 1) q) : Nat) : Int) + 1 = ((upTo (k + 1) (vc t (p, i + 1) q) : Nat) : Int) := by unfold upTo; omega
                  simp (disch := (first | decide | omega)) only [hA, hg1, hg2, hn0, hyx', go_sem]
                  refine ⟨k + 1, hkl, by simp only; omega, ?_⟩
                  exact Weak.kround (p := r_VectorCounts1) (k := 3) (by ((repeat refine (kAny_up rfl).trans ?_); exact hEE2)) (by ((try simp (disch := decide) only [hA, hinc, go_sem]) <;> (repeat' (first | exact trivial | refine And.intro ?_ ?_)) <;> (first | rfl | (congr 2; omega)))) rfl hE2 (by simp) (by simp (disch := omega) only [KOvLt, AVlt_v, AVlt_any, AVlt_sl, AVlt_ptr, AVlt_mp, AVlt_agg, AVlt_tup, AVlt_fn, RowsLt_nil, RowsLt_live, RowsLt_dead, List.mem_cons, List.not_mem_nil, List.forall_mem_cons, List.forall_mem_nil, or_false, false_or, forall_eq_or_imp, forall_eq, vs_lt, Nat.add_lt_add_iff_left, Nat.reduceLT, true_and, and_true, and_self, List.length_cons, List.length_nil, Nat.reduceAdd, Nat.zero_add, implies_true, false_imp_iff, lt_T, List.mem_map]) hR (by simp (disch := omega) only [AVlt_v, AVlt_any, AVlt_sl, AVlt_ptr, AVlt_mp, AVlt_agg, AVlt_tup, AVlt_fn, RowsLt_nil, RowsLt_live, RowsLt_dead, List.mem_cons, List.not_mem_nil, List.forall_mem_cons, List.forall_mem_nil, or_false, false_or, forall_eq_or_imp, forall_eq, vs_lt, Nat.add_lt_add_iff_left, Nat.reduceLT, true_and, and_true, and_self, List.length_cons, List.length_nil, Nat.reduceAdd, Nat.zero_add, implies_true, false_imp_iff, lt_T, List.mem_map])
                · have hyx' := hyx.trans (decide_eq_false hyq)
                  have hkv : ¬ (k + 1 ≤ vc t (p, i + 1) q) := fun h => by
                    have := (bef_le hv hyi hyq).2 (hlv.2 h)
                    rw [hbb] at this; cases this
                  have hinc : upTo (k + 1) (vc t (p, i + 1) q) = upTo k (vc t (p, i + 1) q) := by unfold upTo; omega
                  simp (disch := (first | decide | omega)) only [hA, hg1, hg2, hn0, hyx', go_sem]
                  refine ⟨k + 1, hkl, by simp only; omega, ?_⟩
                  exact Weak.kround (p := r_VectorCounts1) (k := 3) (by ((repeat refine (kAny_up rfl).trans ?_); exact hEE2)) (by ((try simp (disch := decide) only [hA, hinc, go_sem]) <;> (repeat' (first | exact trivial | refine And.intro ?_ ?_)) <;> (first | rfl | (congr 2; omega)))) rfl hE2 (by simp) (by simp (disch := omega) only [KOvLt, AVlt_v, AVlt_any, AVlt_sl, AVlt_ptr, AVlt_mp, AVlt_agg, AVlt_tup, AVlt_fn, RowsLt_nil, RowsLt_live, RowsLt_dead, List.mem_cons, List.not_mem_nil, List.forall_mem_cons, List.forall_mem_nil, or_false, false_or, forall_eq_or_imp, forall_eq, vs_lt, Nat.add_lt_add_iff_left, Nat.reduceLT, true_and, and_true, and_self, List.length_cons, List.length_nil, Nat.reduceAdd, Nat.zero_add, implies_true, false_imp_iff, lt_T, List.mem_map]) hR (by simp (disch := omega) only [AVlt_v, AVlt_any, AVlt_sl, AVlt_ptr, AVlt_mp, AVlt_agg, AVlt_tup, AVlt_fn, RowsLt_nil, RowsLt_live, RowsLt_dead, List.mem_cons, List.not_mem_nil, List.forall_mem_cons, List.forall_mem_nil, or_false, false_or, forall_eq_or_imp, forall_eq, vs_lt, Nat.add_lt_add_iff_left, Nat.reduceLT, true_and, and_true, and_self, List.length_cons, List.length_nil, Nat.reduceAdd, Nat.zero_add, implies_true, false_imp_iff, lt_T, List.mem_map])
            · obtain rfl : k = t[q].evs.length := by omega
              have hup : upTo t[q].evs.length (vc t (p, i + 1) q) = vc t (p, i + 1) q := by unfold upTo; omega
              have hm := hgt (p, i + 1) q hql
              have hml := hlen (p, i + 1)
              have hnn : ∀ n : Int, (n != n) = false := fun n => by simp
              simp (disch := (first | decide | omega)) only [hA, hg1, hg2, hm, hup, hnn, eI, go_sem]
              refine ⟨q + 1, hql, by simp only; omega, ?_⟩
              exact Weak.kround (p := r_VectorCounts0) (k := 2) (by ((repeat refine (kAny_up rfl).trans ?_); refine (kAny_sub hg2 (kIn_sub rfl)).trans ?_; (repeat refine (kAny_up rfl).trans ?_); exact hEE1)) (by ((try simp (disch := decide) only [hA, hg1, go_sem]) <;> (repeat' (first | exact trivial | refine And.intro ?_ ?_)) <;> (first | rfl | (congr 2; omega)))) rfl hE1 (by simp) (by simp (disch := omega) only [KOvLt, AVlt_v, AVlt_any, AVlt_sl, AVlt_ptr, AVlt_mp, AVlt_agg, AVlt_tup, AVlt_fn, RowsLt_nil, RowsLt_live, RowsLt_dead, List.mem_cons, List.not_mem_nil, List.forall_mem_cons, List.forall_mem_nil, or_false, false_or, forall_eq_or_imp, forall_eq, vs_lt, Nat.add_lt_add_iff_left, Nat.reduceLT, true_and, and_true, and_self, List.length_cons, List.length_nil, Nat.reduceAdd, Nat.zero_add, implies_true, false_imp_iff, lt_T, List.mem_map]) hR (by simp (disch := omega) only [AVlt_v, AVlt_any, AVlt_sl, AVlt_ptr, AVlt_mp, AVlt_agg, AVlt_tup, AVlt_fn, RowsLt_nil, RowsLt_live, RowsLt_dead, List.mem_cons, List.not_mem_nil, List.forall_mem_cons, List.forall_mem_nil, or_false, false_or, forall_eq_or_imp, forall_eq, vs_lt, Nat.add_lt_add_iff_left, Nat.reduceLT, true_and, and_true, and_self, List.length_cons, List.length_nil, Nat.reduceAdd, Nat.zero_add, implies_true, false_imp_iff, lt_T, List.mem_map])
          · simp (disch := (first | decide | omega)) only [hA, hg1, go_sem]
            exact leave_pure (xs := [.v (.bool true)]) (.inr rfl) (by simp (disch := (first | decide | omega)) only [resVs, resV, go_sem, hA, hg1]) (by simp only [one, AVlt_v, AVlt_any, AVlt_sl, AVlt_ptr, AVlt_mp, AVlt_agg, AVlt_tup, AVlt_fn, RowsLt_nil, RowsLt_live, RowsLt_dead, List.mem_cons, List.not_mem_nil, List.forall_mem_cons, List.forall_mem_nil, or_false, false_or, forall_eq_or_imp, forall_eq, vs_lt, Nat.add_lt_add_iff_left, Nat.reduceLT, true_and, and_true, and_self, List.length_cons, List.length_nil, Nat.reduceAdd, Nat.zero_add, implies_true, false_imp_iff, lt_T, List.mem_map]) hR hB ⟨rfl, rfl, rfl⟩
end Go.Proofs.Ytoaopldaleaijaa
