/- Texts of one proof, laid together: H1, I3, WU, I9, IB, H2, IC, IE, IK, VC. No condition. -/
import Derived.Test.YtanblnhnfkeffaaD311
import Derived.Test.YtanblnhnfkeffaaD38
import Derived.Test.YtanblnhnfkeffaaD39
import Derived.Test.YtanblnhnfkeffaaD32
import Derived.Test.YtanblnhnfkeffaaD33
import Derived.KernelRfl
namespace Go.Proofs.Ytanblnhnfkeffaa
set_option linter.unusedVariables false
set_option linter.unusedSimpArgs false
attribute [local go_sem ↓] run_skip run_region run_draw run_both run_seq run_block run_exit run_ret run_cond atN_app seqC_normal seqC_exit seqC_ret seqQ_normal seqQ_exit seqQ_ret blkQ_normal blkQ_exit blkQ_ret runOps_nil runOps_cons runD_nil runD_cons grdO_true grdO_false grdD_true grdD_false ifC_true ifC_false opS_val opS_call opS_two opK_app dS_val dS_call dS_two dK_app kUp_same kUp_ne
attribute [local go_sem] rechks_nil rechks_cons rechk gcase_true gcase_false ex_val ex_val0 gd_none gd_some ev_t ev_c evs_nil evs_cons evo_some evo_none hget_at hget_first hsetB_at hsetB_first hsetL_at hsetL_first ofOpt_some aop aload astore aslice aappend aiaddr aiaddrA afaddr alen alenS acopy amm acall alookup amupdate alenM atostr comma keyEq apick binV binVB binVS isSh intOp strOp boolOp shOp eqC eqF and2 cellsOf setFrom fillA fillS rd rdI elems mk bounds AV.cell List.all_cons List.all_nil Bool.and_true Bool.true_and Bool.and_self List.length_cons List.length_nil List.length_append Nat.reduceAdd Nat.reduceSub Nat.reduceMul Nat.zero_add Nat.add_zero List.cons_append List.nil_append List.append_assoc List.append_nil List.getElem?_cons_zero List.getElem?_cons_succ List.getElem?_nil List.set_cons_zero List.set_cons_succ List.drop_zero List.drop_succ_cons List.take_zero List.take_succ_cons List.take_nil List.drop_nil List.map_cons List.map_nil Option.map_some if_true if_false Bool.false_eq_true and_self true_and and_true Nat.reduceLeDiff Nat.reduceLT Nat.le_refl Nat.reduceEqDiff ite_true ite_false beq_self_eq_true beq_true beq_false Bool.not_true Bool.not_false Bool.true_beq Bool.false_beq map_vs vs_len vs_get vs_take vs_drop vs_snoc1 vs_snoc2 vs_snoc3 vs_snoc5 vs_set1 vs_set2 vs_rep wrap_id le_T lt_T le_F lt_F leI_T ltI_T leI_F ltI_F geI gtI get_T decide_true decide_false room List.getElem?_map List.length_map List.length_take Int.toNat_natCast Nat.min_def Nat.min_self nth_kOf put_kOf put_kNo kOv_cons kOv_nil KHas KArgs List.getElem_cons_zero List.getElem_cons_succ
def evN (t : Tr) (i : Nat) : Nat := (idsTo t i 0).length
theorem evN_zero {t : Tr} : evN t 0 = 0 := rfl
theorem evN_succ {t : Tr} {i : Nat} (h : i < t.length) : evN t (i + 1) = evN t i + t[i].evs.length := by
 unfold evN
 rw [← idsTo_next t i h]
 simp [idsTo]
theorem evN_all {t : Tr} : evN t t.length = (ids t).length := by unfold evN; rw [idsTo_all]
theorem evN_le {t : Tr} (h : ∀ x ∈ t, x.evs.length ≤ 70) : ∀ i, i ≤ t.length → evN t i ≤ 70 * i
 | 0, _ => by rw [evN_zero]; omega
 | i + 1, hi => by
   have := evN_le h i oM
   have h2 := h _ (List.getElem_mem (show i < t.length by omega))
   rw [evN_succ oM]; omega
theorem ids_at {t : Tr} {i j : Nat} (hi : i < t.length) (hj : j < t[i].evs.length) : (ids t)[evN t i + j]? = some (i, j + 1) := by
 obtain ⟨c, hc⟩ := idsTo_prefix t i (j + 1) hi hj
 rw [← hc, idsTo_succ, List.append_assoc, List.getElem?_append_right (by simp [evN, idsTo])]
 simp [evN, idsTo]
def evL (t : Tr) (p i : Nat) : Nat := (idsTo t p i).length
theorem evL_le {t : Tr} {p i : Nat} (hp : p < t.length) (hi : i ≤ t[p].evs.length) : evL t p i ≤ (ids t).length := by
 obtain ⟨c, hc⟩ := idsTo_prefix t p i hp hi
 unfold evL
 rw [← hc, List.length_append]; omega
end Go.Proofs.Ytanblnhnfkeffaa
namespace Go.Proofs.Ytanblnhnfkeffaa
set_option linter.unusedVariables false
set_option linter.unusedSimpArgs false

inductive IVle : IV → IV → Prop where
 | refl (x : IV) : IVle x x
 | zsl (sz : Nat) : IVle .zsl (.isl sz [])
 | isl (sz : Nat) (rows rows' : List (List IV)) (hl : rows.length = rows'.length) (hl2 : ∀ (k : Nat) (row row' : List IV), rows[k]? = some row → rows'[k]? = some row' → row.length = row'.length)
   (hr : ∀ (k : Nat) (row row' : List IV) (j : Nat) (a a' : IV), rows[k]? = some row → rows'[k]? = some row' → row[j]? = some a → row'[j]? = some a' → IVle a a') : IVle (.isl sz rows) (.isl sz rows')

theorem RepI.le {w : World} {F : Nat → Prop} {x y : IV} (h : IVle x y) : ∀ {v : Value}, RepI w F x v → RepI w F y v := by
 induction h with
 | refl x => exact fun h => h
 | zsl sz => intro v h; cases h; exact .isl0 _ _ _ (Nat.zero_le _)
 | isl sz rows rows' hl hl2 hr ih =>
   intro v h
   obtain ⟨A, c, rfl, h2, h3, h4⟩ := repI_isl h
   rw [hl] at h2 h4 ⊢
   refine isl_repI h2 h3 (fun h0 => ?_)
   obtain ⟨b, off, h5, h6, h7⟩ := h4 h0
   refine ⟨b, off, h5, h6, fun k row' hk' => ?_⟩
   have hk : k < rows.length := by rw [hl]; exact (List.getElem?_eq_some_iff.1 hk').1
   obtain ⟨g1, g2⟩ := h7 k rows[k] (List.getElem?_eq_getElem hk)
   have hll := hl2 k rows[k] row' (List.getElem?_eq_getElem hk) hk'
   refine ⟨by rw [← hll]; exact g1, fun j a' hj' => ?_⟩
   have hj : j < rows[k].length := by rw [hll]; exact (List.getElem?_eq_some_iff.1 hj').1
   obtain ⟨v, hv, hrep⟩ := g2 j rows[k][j] (List.getElem?_eq_getElem hj)
   exact ⟨v, hv, ih k _ _ j _ _ (List.getElem?_eq_getElem hk) hk' (List.getElem?_eq_getElem hj) hj' hrep⟩

def RowsLe : List (List IV) → List (List IV) → Prop
 | [], [] => True
 | r :: rs, q :: qs => (r.length = q.length ∧ ∀ (j : Nat) (a a' : IV), r[j]? = some a → q[j]? = some a' → IVle a a') ∧ RowsLe rs qs
 | _, _ => False
theorem RowsLe.len : ∀ {r q : List (List IV)}, RowsLe r q → r.length = q.length
 | [], [], _ => rfl
 | _ :: _, _ :: _, h => by simp [RowsLe.len h.2]
 | [], _ :: _, h => h.elim
 | _ :: _, [], h => h.elim
theorem RowsLe.get : ∀ {r q : List (List IV)}, RowsLe r q → ∀ (k : Nat) (row row' : List IV), r[k]? = some row → q[k]? = some row' → row.length = row'.length ∧ ∀ (j : Nat) (a a' : IV), row[j]? = some a → row'[j]? = some a' → IVle a a'
 | [], [], _, k, row, row', h, _ => by simp at h
 | r :: rs, q :: qs, h, k, row, row', h1, h2 => by
   cases k with
   | zero => simp at h1 h2; subst h1; subst h2; exact h.1
   | succ k => simp at h1 h2; exact RowsLe.get h.2 k row row' h1 h2
 | [], _ :: _, h, _, _, _, _, _ => h.elim
 | _ :: _, [], h, _, _, _, _, _ => h.elim
theorem IVle.rows {sz : Nat} {r q : List (List IV)} (h : RowsLe r q) : IVle (.isl sz r) (.isl sz q) :=
 .isl sz r q h.len (fun k row row' h1 h2 => (h.get k row row' h1 h2).1) (fun k row row' j a a' h1 h2 => (h.get k row row' h1 h2).2 j a a')

inductive AVle : AV → AV → Prop where
 | refl (x : AV) : AVle x x
 | v (x y : IV) (h : IVle x y) : AVle (.v x) (.v y)
 | agg (cs ds : List AV) (hl : cs.length = ds.length) (h : ∀ (i : Nat) (a c : AV), cs[i]? = some a → ds[i]? = some c → AVle a c) : AVle (.agg cs) (.agg ds)
theorem RepA.le {w : World} {F : Nat → Prop} {L : LMap} {x y : AV} (h : AVle x y) : ∀ {v : Value}, RepA w F L x v → RepA w F L y v := by
 induction h with
 | refl x => exact fun h => h
 | v x y h => intro v hx; exact .v _ _ (hx.vI.le h)
 | agg cs ds hl h ih =>
   intro v hx
   obtain ⟨vs, rfl, hr⟩ := hx.aggL
   refine RepL.agg ⟨by rw [← hl]; exact hr.1, fun i c u hc hu => ?_⟩
   have hi : i < cs.length := by rw [hl]; exact (List.getElem?_eq_some_iff.1 hc).1
   exact ih i cs[i] c (List.getElem?_eq_getElem hi) hc (hr.2 i _ u (List.getElem?_eq_getElem hi) hu)
theorem ACalls.le {P : Program} {f : Nat} {args args' : List AV} {b l : List Row} {Q : AV → List Row → List Row → Prop} (h : ACalls P f args b l Q) (hl : args'.length = args.length) (hle : ∀ (i : Nat) (a c : AV), args'[i]? = some a → args[i]? = some c → AVle a c) : ACalls P f args' b l Q :=
 ⟨h.1, fun F L w vs s hr => h.2 F L w vs s ⟨by rw [← hl]; exact hr.1, fun i c v hc hv => by
  have hi : i < args'.length := by rw [hl]; exact (List.getElem?_eq_some_iff.1 hc).1
  exact RepA.le (hle i args'[i] c (List.getElem?_eq_getElem hi) hc) (hr.2 i _ v (List.getElem?_eq_getElem hi) hv)⟩⟩
theorem Weak.le {e e' : List AV} {b l : List Row} (hl : e.length = e'.length) (h : ∀ (i : Nat) (x y : AV), e[i]? = some x → e'[i]? = some y → AVle x y) : Weak e b l e' b l := by
 intro F L w a s hea
 refine ⟨F, L, s, ⟨hea.1, by rw [← hl]; exact hea.2.1, fun i y v hy hv => ?_⟩, Step.refl _ _ _ _ _, rfl⟩
 have hi : i < e.length := by rw [hl]; exact (List.getElem?_eq_some_iff.1 hy).1
 exact RepA.le (h i e[i] y (List.getElem?_eq_getElem hi) hy) (hea.2.2 i _ v (List.getElem?_eq_getElem hi) hv)
end Go.Proofs.Ytanblnhnfkeffaa
namespace Go.Proofs.Ytanblnhnfkeffaa
set_option linter.unusedVariables false
theorem Hb.front {t : Tr} {x y : Nat × Nat} (h : Hb t x y) : ∃ z, Dir t x z ∧ (z = y ∨ Hb t z y) := by
 induction h with
 | one d => exact ⟨_, d, .inl rfl⟩
 | more _ d ih =>
   obtain ⟨z, dz, hz⟩ := ih
   refine ⟨z, dz, .inr ?_⟩
   rcases hz with rfl | hz
   ·exact .one d
   ·exact .more hz d
end Go.Proofs.Ytanblnhnfkeffaa
namespace Go.Proofs.Ytanblnhnfkeffaa
set_option linter.unusedVariables false
set_option linter.unusedSimpArgs false
def lt2 (a b : Nat × Nat) : Prop := a.1 < b.1 ∨ (a.1 = b.1 ∧ a.2 < b.2)
def rcvO (t : Tr) (x : Nat × Nat) : Option (Nat × Nat) := if (evAt t x).kind = 2 then findL t 3 (evAt t x).msg else none
def rowN (t : Tr) (x : Nat × Nat) : List (Nat × Nat) := if x.2 < (evsOf t x.1).length then [(x.1, x.2 + 1)] else []
def nextL (t : Tr) (x : Nat × Nat) : List (Nat × Nat) := match rcvO t x with
 | none => rowN t x
 | some z => if z.1 < x.1 then z :: rowN t x else rowN t x ++ [z]
theorem mem_rowN {t : Tr} {x z : Nat × Nat} : z ∈ rowN t x ↔ z = (x.1, x.2 + 1) ∧ x.2 < (evsOf t x.1).length := by
 unfold rowN
 by_cases h : x.2 < (evsOf t x.1).length
 ·rw [if_pos h]; simp [h]
 ·rw [if_neg h]; simp [h]
theorem mem_nextL {t : Tr} {x z : Nat × Nat} : z ∈ nextL t x ↔ Dir t x z := by
 have e : z ∈ nextL t x ↔ z ∈ rowN t x ∨ rcvO t x = some z := by
  unfold nextL
  cases hr : rcvO t x with
  | none => simp
  | some w =>
    simp only
    by_cases hw : w.1 < x.1
    ·rw [if_pos hw, List.mem_cons]
     constructor
     ·rintro (h | h)
      ·exact .inr (by rw [h])
      ·exact .inl h
     ·rintro (h | h)
      ·exact .inr h
      ·exact .inl (Option.some.inj h).symm
    ·rw [if_neg hw, List.mem_append, List.mem_singleton]
     constructor
     ·rintro (h | h)
      ·exact .inl h
      ·exact .inr (by rw [h])
     ·rintro (h | h)
      ·exact .inl h
      ·exact .inr (Option.some.inj h).symm
 rw [e, mem_rowN]
 unfold Dir rcvO
 by_cases hk : (evAt t x).kind = 2
 ·rw [if_pos hk]; simp [hk]
 ·rw [if_neg hk]; simp [hk]
theorem le_cnt {t : Tr} {x y : Nat × Nat} (hx : x ∈ ids t) : Le t x y ↔ x.2 ≤ vc t y x.1 := by
 obtain ⟨p, i⟩ := x
 obtain ⟨i, rfl⟩ : ∃ k, i = k + 1 := ⟨i - 1, by have := mem_pos hx; simp only at this; omega⟩
 exact vc_iff (mem_ids2.1 hx).2
noncomputable def leadB (t : Tr) (y z : Nat × Nat) : Bool := decide (z.2 ≤ vc t y z.1)
theorem leadB_iff {t : Tr} (hv : Vok t) {y z : Nat × Nat} (hz : z ∈ ids t) : leadB t y z = true ↔ Le t z y := by
 unfold leadB
 rw [decide_eq_true_eq]
 exact (le_cnt hz).symm
noncomputable def stepO (t : Tr) (y x : Nat × Nat) : Option (Nat × Nat) := (nextL t x).find? (leadB t y)
theorem stepO_some {t : Tr} (hv : Vok t) {x y : Nat × Nat} (hx : x ∈ ids t) (hy : y ∈ ids t) (hl : Le t x y) (hne : x ≠ y) : ∃ z, stepO t y x = some z ∧ z ∈ ids t ∧ Dir t x z ∧ Le t z y := by
 rcases hl with rfl | h
 ·exact absurd rfl hne
 obtain ⟨z, dz, hz⟩ := h.front
 have hzm := dz.mem hx
 have hlz : Le t z y := hz
 cases hs : stepO t y x with
 | none =>
   unfold stepO at hs
   rw [List.find?_eq_none] at hs
   exact absurd ((leadB_iff hv hzm).2 hlz) (hs z (mem_nextL.2 dz))
 | some w =>
   unfold stepO at hs
   have h1 := List.mem_of_find?_eq_some hs
   have h2 := List.find?_some hs
   have dw := mem_nextL.1 h1
   have hw := dw.mem hx
   exact ⟨w, rfl, hw, dw, (leadB_iff hv hw).1 h2⟩
noncomputable def pathF (t : Tr) (y : Nat × Nat) : Nat → Nat × Nat → List (Nat × Nat)
 | 0, x => [x]
 | n + 1, x => if x = y then [x] else match stepO t y x with
   | none => [x]
   | some z => x :: pathF t y n z
noncomputable def pathL (t : Tr) (x y : Nat × Nat) : List (Nat × Nat) := pathF t y (ids t).length x
theorem rk_le {t : Tr} (hv : Vok t) {x y : Nat × Nat} (hy : y ∈ ids t) (h : Le t x y) : rk t x ≤ rk t y := by
 rcases h with rfl | h
 ·exact Nat.le_refl _
 ·exact Nat.le_of_lt (rk_lt hv hy h)
structure PathOk (t : Tr) (x0 y x : Nat × Nat) (n : Nat) (done : List (Nat × Nat)) : Prop where
 mem : x ∈ ids t
 le : Le t x y
 fuel : rk t y ≤ rk t x + n
 eq : done ++ pathF t y n x = pathL t x0 y
theorem PathOk.start {t : Tr} (hv : Vok t) {x y : Nat × Nat} (hx : x ∈ ids t) (h : Le t x y) : PathOk t x y x (ids t).length [] :=
 ⟨hx, h, by have := List.countP_le_length (p := fun z => leB t z y) (l := ids t); unfold rk; omega, rfl⟩
theorem PathOk.done {t : Tr} {x0 y : Nat × Nat} {n : Nat} {D : List (Nat × Nat)} (h : PathOk t x0 y y n D) : D ++ [y] = pathL t x0 y := by
 rw [← h.eq]
 cases n with
 | zero => rfl
 | succ n => unfold pathF; rw [if_pos rfl]
theorem PathOk.step {t : Tr} (hv : Vok t) {x0 y x : Nat × Nat} {n : Nat} {D : List (Nat × Nat)} (h : PathOk t x0 y x n D) (hy : y ∈ ids t) (hne : x ≠ y) : ∃ z m, n = m + 1 ∧ stepO t y x = some z ∧ PathOk t x0 y z m (D ++ [x]) ∧ Dir t x z := by
 obtain ⟨z, hs, hz, dz, hl⟩ := stepO_some hv h.mem hy h.le hne
 have hlt := rk_lt hv hz (.one dz)
 have hle := rk_le hv hy hl
 have hf := h.fuel
 cases n with
 | zero => omega
 | succ m =>
   refine ⟨z, m, rfl, hs, ⟨hz, hl, by omega, ?_⟩, dz⟩
   rw [← h.eq, List.append_assoc]
   congr 1
   rw [pathF, if_neg hne, hs]
   rfl
def PathIs (t : Tr) (y : Nat × Nat) (l : List (Nat × Nat)) : Prop := l.getLast? = some y ∧ ∀ a (h : a + 1 < l.length), l[a + 1] ∈ ids t ∧ Dir t l[a] l[a + 1]
theorem PathIs.cons {t : Tr} {y x z : Nat × Nat} {r : List (Nat × Nat)} (hz : z ∈ ids t) (d : Dir t x z) (h : PathIs t y (z :: r)) : PathIs t y (x :: z :: r) := by
 refine ⟨by rw [List.getLast?_cons_cons]; exact h.1, fun a ha => ?_⟩
 cases a with
 | zero => exact ⟨hz, d⟩
 | succ a => exact h.2 a (by simpa using ha)
end Go.Proofs.Ytanblnhnfkeffaa
namespace Go.Proofs.Ytanblnhnfkeffaa
set_option linter.unusedVariables false
set_option linter.unusedSimpArgs false
attribute [local go_sem ↓] run_skip run_region run_draw run_both run_seq run_block run_exit run_ret run_cond atN_app seqC_normal seqC_exit seqC_ret seqQ_normal seqQ_exit seqQ_ret blkQ_normal blkQ_exit blkQ_ret runOps_nil runOps_cons runD_nil runD_cons grdO_true grdO_false grdD_true grdD_false ifC_true ifC_false opS_val opS_call opS_two opK_app dS_val dS_call dS_two dK_app kUp_same kUp_ne
attribute [local go_sem] rechks_nil rechks_cons rechk gcase_true gcase_false ex_val ex_val0 gd_none gd_some ev_t ev_c evs_nil evs_cons evo_some evo_none hget_at hget_first hsetB_at hsetB_first hsetL_at hsetL_first ofOpt_some aop aload astore aslice aappend aiaddr aiaddrA afaddr alen alenS acopy amm acall alookup amupdate alenM atostr comma keyEq apick binV binVB binVS isSh intOp strOp boolOp shOp eqC eqF and2 cellsOf setFrom fillA fillS rd rdI elems mk bounds AV.cell List.all_cons List.all_nil Bool.and_true Bool.true_and Bool.and_self List.length_cons List.length_nil List.length_append Nat.reduceAdd Nat.reduceSub Nat.reduceMul Nat.zero_add Nat.add_zero List.cons_append List.nil_append List.append_assoc List.append_nil List.getElem?_cons_zero List.getElem?_cons_succ List.getElem?_nil List.set_cons_zero List.set_cons_succ List.drop_zero List.drop_succ_cons List.take_zero List.take_succ_cons List.take_nil List.drop_nil List.map_cons List.map_nil Option.map_some if_true if_false Bool.false_eq_true and_self true_and and_true Nat.reduceLeDiff Nat.reduceLT Nat.le_refl Nat.reduceEqDiff ite_true ite_false beq_self_eq_true beq_true beq_false Bool.not_true Bool.not_false Bool.true_beq Bool.false_beq map_vs vs_len vs_get vs_take vs_drop vs_snoc1 vs_snoc2 vs_snoc3 vs_snoc5 vs_set1 vs_set2 vs_rep wrap_id le_T lt_T le_F lt_F leI_T ltI_T leI_F ltI_F geI gtI get_T decide_true decide_false room List.getElem?_map List.length_map List.length_take Int.toNat_natCast Nat.min_def Nat.min_self nth_kOf put_kOf put_kNo kOv_cons kOv_nil KHas KArgs List.getElem_cons_zero List.getElem_cons_succ
theorem chk_one {t : Tr} {x : Int × Int} (h : chkE t [x] = 0) : validL t = true ∧ existsB t x.1 x.2 = true := by
 obtain ⟨h1, h2⟩ := chkE_zero.1 h
 exact ⟨h1, h2 x (by simp)⟩
def a_numc : AFunc := ⟨2,28,[.tmp 4],(.seq (.region [⟨some 2,.box (.t 0),none⟩,⟨some 3,.box (.t 1),none⟩,⟨some 4,.mv (.c (.v (.int .i64 0))),none⟩]) (.seq (.region [⟨some 8,.faddr 1 (.t 3),none⟩,⟨some 9,.load none (.t 8),none⟩,⟨some 10,.bin .sub (.t 9) (.c (.v (.int .i64 1))),none⟩,⟨some 5,.mv (.t 10),none⟩]) (.seq (.seq (.region [⟨some 11,.faddr 0 (.t 2),none⟩,⟨some 12,.load none (.t 11),none⟩,⟨some 13,.faddr 0 (.t 3),none⟩,⟨some 14,.load none (.t 13),none⟩,⟨some 15,.slice 3 (.t 12) none (some (.t 14)),none⟩,⟨some 16,.len (.t 15),none⟩,⟨some 17,.mv (.c (.v (.int .i64 0))),none⟩]) (.block 0 (.loop (.seq (.region [⟨some 18,.bin .lss (.t 17) (.t 16),none⟩]) (.seq (.cond (.t 18) .skip (.exit 0)) (.seq (.block 1 (.seq (.region [⟨some 19,.iaddr 3 (.t 15) (.t 17),none⟩,⟨some 20,.load (some 3) (.t 19),none⟩,⟨some 7,.alloc [(.v (.str ⟨#[]⟩)),(.v .zsl),(.v .zsl)],none⟩,⟨none,.store 3 (.t 7) (.t 20),none⟩]) (.region [⟨some 21,.mv (.t 5),none⟩,⟨some 22,.faddr 2 (.t 7),none⟩,⟨some 23,.load none (.t 22),none⟩,⟨some 24,.len (.t 23),none⟩,⟨some 25,.bin .add (.t 21) (.t 24),none⟩,⟨some 5,.mv (.t 25),none⟩]))) (.region [⟨some 26,.bin .add (.t 17) (.c (.v (.int .i64 1))),none⟩,⟨some 17,.mv (.t 26),none⟩]))))))) (.seq (.region [⟨some 27,.mv (.t 5),none⟩,⟨some 4,.mv (.t 27),none⟩]) .ret))))⟩
theorem a_numc_ok : cFunc Try.prog 176 = some a_numc := by kernel_rfl
def r_numc0 : List (Nat × Nat) := [(5, 5), (7, 7), (17, 26)]
def a_NumC : AFunc := ⟨2,17,[.tmp 4,.tmp 5],(.seq (.region [⟨some 2,.box (.t 0),none⟩,⟨some 3,.box (.t 1),none⟩,⟨some 4,.mv (.c (.v (.int .i64 0))),none⟩,⟨some 5,.mv (.c (.v (.int .i64 0))),none⟩]) (.seq (.seq (.region [⟨some 7,.load (some 1) (.t 2),none⟩,⟨some 8,.load (some 2) (.t 3),none⟩,⟨some 9,.bslice 2 [(.v (.int .i64 0)),(.v (.int .i64 0))] 1 [(0,(.t 8))],none⟩,⟨some 10,.call (.c (.fn 137 [])) [(.t 7),(.t 9)],none⟩,⟨some 6,.mv (.t 10),none⟩]) (.seq (.region [⟨some 11,.mv (.t 6),none⟩,⟨some 12,.bin .neq (.t 11) (.c (.v (.int .i64 0))),none⟩]) (.cond (.t 12) (.seq (.region [⟨some 13,.mv (.t 6),none⟩,⟨some 4,.mv (.c (.v (.int .i64 0))),none⟩,⟨some 5,.mv (.t 13),none⟩]) .ret) .skip))) (.seq (.region [⟨some 14,.load (some 1) (.t 2),none⟩,⟨some 15,.load (some 2) (.t 3),none⟩,⟨some 16,.call (.c (.fn 176 [])) [(.t 14),(.t 15)],none⟩,⟨some 4,.mv (.t 16),none⟩,⟨some 5,.mv (.c (.v (.int .i64 0))),none⟩]) .ret)))⟩
theorem a_NumC_ok : cFunc Try.prog 129 = some a_NumC := by kernel_rfl

def numN (t : Tr) (x : Nat × Nat) : Nat := evN t x.1 + (x.2 - 1)
theorem numN_at {t : Tr} {x : Nat × Nat} (hx : x ∈ ids t) : ∃ h : numN t x < (ids t).length, (ids t)[numN t x] = x := by
 obtain ⟨p, i⟩ := x
 obtain ⟨i, rfl⟩ : ∃ k, i = k + 1 := ⟨i - 1, by have := mem_pos hx; simp only at this; omega⟩
 obtain ⟨hp, hi⟩ := mem_ids2.1 hx
 rw [evsOf_lt hp] at hi
 have := ids_at hp hi
 obtain ⟨h1, h2⟩ := List.getElem?_eq_some_iff.1 this
 exact ⟨h1, h2⟩
theorem numc_spec (t : Tr) (hn : t.length ≤ 20) (he : ∀ x ∈ t, x.evs.length ≤ 70) (x : Nat × Nat) (hx : x ∈ ids t) (b l : List Row) :
  ACalls Try.prog 176 [.agg [.v (eT t)], idA x] b l (fun r b' l' => r = .v (.int .i64 (numN t x : Nat)) ∧ b' = b ∧ l' = l) := by
 refine calls_kept a_numc_ok rfl (by decide) ?_
 intro B g hB hR hE hA
 simp only [KArgs] at hA
 obtain ⟨p, i⟩ := x
 obtain ⟨i, rfl⟩ : ∃ k, i = k + 1 := ⟨i - 1, by have := mem_pos hx; simp only at this; omega⟩
 obtain ⟨hp, hi⟩ := mem_ids2.1 hx
 rw [evsOf_lt hp] at hi
 have hie := he _ (List.getElem_mem hp)
 have hc : ((i + 1 : Nat) : Int) - 1 = ((evN t 0 + i : Nat) : Int) := by rw [evN_zero]; omega
 have htk : (List.take p (t.map ePr)).length = p := by simp; omega
 simp (disch := (first | decide | omega)) only [a_numc, hA, idA, eT, hc, htk, List.length_map, go_sem]
 refine loop_kept (ι := Nat) r_numc0 (fun q => [(17, .v (.int .i64 q)), (5, .v (.int .i64 (evN t q + i : Nat)))]) 2 (fun q => [.live 0 1 [[.v (.isl 3 (t.map ePr))]], .live 0 2 [[.v (.int .i64 p), .v (.int .i64 ((i + 1 : Nat) : Int))]]])
  (fun q => q ≤ p) (fun q => p - q) 0 (Nat.zero_le _) (by (repeat (first | exact hE.mono oM | refine KLt.up ?_ kL))) (by ((try simp (disch := decide) only [hA, go_sem]) <;> exact kH)) (fun e => Weak.refl _ _ _) ?_
 intro g1 hE1 hEE1 hg1 q hq
 by_cases hql : q < p
 ·have h1 := evN_le he q oM
  have h2 := he _ (List.getElem_mem (show q < t.length by omega))
  have hs := evN_succ (show q < t.length by omega)
  have hinc : ((evN t q + i : Nat) : Int) + (t[q].evs.length : Int) = ((evN t (q + 1) + i : Nat) : Int) := by omega
  have hg : (List.take p (t.map ePr))[q]? = some (ePr t[q]) := by rw [List.getElem?_take_of_lt hql, List.getElem?_map, List.getElem?_eq_getElem oM]; rfl
  simp (disch := (first | decide | omega)) only [hA, hg1, ePr, hg, htk, List.length_map, go_sem]
  refine ⟨q + 1, hql, by simp only; omega, ?_⟩
  exact Weak.kround (p := r_numc0) (k := 2) (by ((repeat refine (kAny_up rfl).trans ?_); exact hEE1)) (by ((try simp (disch := decide) only [hA, hinc, go_sem]) <;> exact kH)) rfl hE1 (by simp) kV hR kL
 ·obtain rfl : q = p := by omega
  simp (disch := (first | decide | omega)) only [hA, hg1, htk, List.length_map, go_sem]
  exact leave_pure (xs := [.v (.int .i64 (evN t q + i : Nat))]) (.inr rfl) (by simp (disch := (first | decide | omega)) only [resVs, resV, go_sem, hA, hg1]) kO hR hB ⟨rfl, rfl, rfl⟩
noncomputable def numR (t : Tr) (x : Int × Int) : AV := .tup [.v (.int .i64 (if chkE t [x] = 0 then (numN t (x.1.toNat, x.2.toNat) : Int) else 0)), .v (.int .i64 (chkE t [x]))]
theorem NumC_spec (t : Tr) (hS : Small t) (hN : Nm t) (hn : t.length ≤ 20) (he : ∀ x ∈ t, x.evs.length ≤ 70) (x : Int × Int) (b l : List Row) :
  ACalls Try.prog 129 [.agg [.v (eT t)], idP x] b l (fun r b' l' => r = numR t x ∧ b' = b ∧ l' = l) := by
 refine calls_kept a_NumC_ok rfl (by decide) ?_
 intro B g hB hR hE hA
 simp only [KArgs] at hA
 simp (disch := (first | decide | omega)) only [a_NumC, hA, idP, List.replicate_succ, List.replicate_zero, go_sem]
 refine ACalls.frzB (i := 2) (ver := 0) (sz := 2) (rows := [eIdP x]) (args' := [.agg [.v (eT t)], .v (.isl 2 [eIdP x])]) rfl (by simp [frz, frz0]) ?_
 refine ACalls.nxt (check_spec t hS hN [x] (by simp) _ _) ?_
 by_cases h0 : chkE t [x] = 0
 ·obtain ⟨hval, hex⟩ := chk_one h0
  obtain ⟨p, i, e1, e2, hx⟩ := existsB_in hex
  obtain ⟨x1, x2⟩ := x
  simp only at e1 e2
  subst e1; subst e2
  have hn0 : ((0 : Int) != 0) = false := rfl
  have hnu := numc_spec t hn he (p, i + 1) hx
  simp only [idA] at hnu
  unfold numR
  rw [h0, if_pos rfl]
  simp (disch := (first | decide | omega)) only [hA, hn0, idP, go_sem]
  refine ACalls.nxt (hnu _ _) ?_
  simp (disch := (first | decide | omega)) only [hA, go_sem]
  exact leave_pure (xs := [.v (.int .i64 (numN t (p, i + 1) : Nat)), .v (.int .i64 0)]) (.inr rfl) (by simp (disch := (first | decide | omega)) only [resVs, resV, go_sem, hA]) kO hR hB ⟨rfl, rfl, rfl⟩
 ·have hn0 : (chkE t [x] != 0) = true := by simpa using h0
  unfold numR
  rw [if_neg h0]
  simp (disch := (first | decide | omega)) only [hA, hn0, go_sem]
  exact leave_pure (xs := [.v (.int .i64 0), .v (.int .i64 (chkE t [x]))]) (.inr rfl) (by simp (disch := (first | decide | omega)) only [resVs, resV, go_sem, hA]) kO hR hB ⟨rfl, rfl, rfl⟩
end Go.Proofs.Ytanblnhnfkeffaa
namespace Go.Proofs.Ytanblnhnfkeffaa
set_option linter.unusedVariables false
set_option linter.unusedSimpArgs false
structure Cinv (t : Tr) (x : Nat × Nat) (c : Nat → Nat) : Prop where
 le : ∀ q, c q ≤ vc t x q
 src : x.2 ≤ c x.1
 out : ∀ q, t.length ≤ q → c q = 0
theorem Cinv.dn {t : Tr} {x : Nat × Nat} {c : Nat → Nat} (h : Cinv t x c) (q : Nat) : c q ≤ (evsOf t q).length := Nat.le_trans (h.le q) vc_le
theorem Cinv.at {t : Tr} {x : Nat × Nat} {c : Nat → Nat} (h : Cinv t x c) {q j : Nat} (hj : j < c q) : (q, j + 1) ∈ ids t ∧ Le t (q, j + 1) x := by
 have hq : q < t.length := Nat.lt_of_not_le fun hn => by have := h.out q hn; omega
 have h1 := h.dn q
 exact ⟨mem_ids2.2 ⟨hq, by omega⟩, (vc_iff oM).2 (by have := h.le q; omega)⟩
def clo0 (x : Nat × Nat) : Nat → Nat := fUp (fun _ => 0) x.1 x.2
theorem Cinv.start {t : Tr} (hv : Vok t) {x : Nat × Nat} (hx : x ∈ ids t) : Cinv t x (clo0 x) := by
 have hp := (mem_ids.1 hx).1
 refine ⟨fun q => ?_, by unfold clo0; rw [fUp_same]; exact Nat.le_refl _, fun q hq => ?_⟩
 ·unfold clo0
  by_cases hq : q = x.1
  ·subst hq; rw [fUp_same]; exact (le_cnt hx).1 (.refl _)
  ·rw [fUp_ne hq]; exact Nat.zero_le _
 ·unfold clo0
  rw [fUp_ne oM]
def okC (t : Tr) (c : Nat → Nat) (q j : Nat) : Prop := (evAt t (q, j + 1)).kind = 3 → (sndr t (q, j + 1)).2 ≤ c (sndr t (q, j + 1)).1
theorem Cinv.up {t : Tr} (hv : Vok t) {x : Nat × Nat} {c : Nat → Nat} (h : Cinv t x c) {q j : Nat} (hj : j < c q) (hk : (evAt t (q, j + 1)).kind = 3) (hlt : c (sndr t (q, j + 1)).1 < (sndr t (q, j + 1)).2) :
  Cinv t x (fUp c (sndr t (q, j + 1)).1 (sndr t (q, j + 1)).2) := by
 obtain ⟨h1, h2⟩ := h.at hj
 obtain ⟨s1, s2⟩ := sndr_in hv h1 hk
 have hl : Le t (sndr t (q, j + 1)) x := Le.trans (.inr s2) h2
 refine ⟨fun r => ?_, ?_, fun r hr => ?_⟩
 ·by_cases hr : r = (sndr t (q, j + 1)).1
  ·rw [hr, fUp_same]; exact (le_cnt s1).1 hl
  ·rw [fUp_ne hr]; exact h.le r
 ·by_cases hr : x.1 = (sndr t (q, j + 1)).1
  ·rw [hr, fUp_same]; have := h.src; rw [hr] at this; omega
  ·rw [fUp_ne hr]; exact h.src
 ·rw [fUp_ne (by have := (mem_ids.1 s1).1; omega)]; exact h.out r hr
theorem Cinv.done {t : Tr} (hv : Vok t) {x : Nat × Nat} (hx : x ∈ ids t) {c : Nat → Nat} (h : Cinv t x c) (hc : ∀ q, q < t.length → ∀ j, j < c q → okC t c q j) {q : Nat} (hq : q < t.length) : c q = vc t x q := by
 have hP : Pst t x c [] := by
  refine ⟨fun y hy => by simp at hy, fun p i hi => ?_, .inr h.src, fun z hz hzc y hy => .inr ?_⟩
  ·obtain ⟨h1, h2⟩ := h.at hi
   exact ⟨(mem_ids2.1 h1).1, (mem_ids2.1 h1).2, h2⟩
  ·obtain ⟨p, i⟩ := z
   obtain ⟨i, rfl⟩ : ∃ k, i = k + 1 := ⟨i - 1, by have := mem_pos hz; simp only at this; omega⟩
   simp only at hzc
   rcases backL_cases hy with ⟨h1, rfl⟩ | ⟨h1, rfl⟩
   ·simp only; omega
   ·exact hc p (mem_ids2.1 hz).1 i oM h1
 exact hP.done hv hx hq
end Go.Proofs.Ytanblnhnfkeffaa
namespace Go.Proofs.Ytanblnhnfkeffaa
set_option linter.unusedVariables false
set_option linter.unusedSimpArgs false
attribute [local go_sem ↓] run_skip run_region run_draw run_both run_seq run_block run_exit run_ret run_cond atN_app seqC_normal seqC_exit seqC_ret seqQ_normal seqQ_exit seqQ_ret blkQ_normal blkQ_exit blkQ_ret runOps_nil runOps_cons runD_nil runD_cons grdO_true grdO_false grdD_true grdD_false ifC_true ifC_false opS_val opS_call opS_two opK_app dS_val dS_call dS_two dK_app kUp_same kUp_ne
attribute [local go_sem] rechks_nil rechks_cons rechk gcase_true gcase_false ex_val ex_val0 gd_none gd_some ev_t ev_c evs_nil evs_cons evo_some evo_none hget_at hget_first hsetB_at hsetB_first hsetL_at hsetL_first ofOpt_some aop aload astore aslice aappend aiaddr aiaddrA afaddr alen alenS acopy amm acall alookup amupdate alenM atostr comma keyEq apick binV binVB binVS isSh intOp strOp boolOp shOp eqC eqF and2 cellsOf setFrom fillA fillS rd rdI elems mk bounds AV.cell List.all_cons List.all_nil Bool.and_true Bool.true_and Bool.and_self List.length_cons List.length_nil List.length_append Nat.reduceAdd Nat.reduceSub Nat.reduceMul Nat.zero_add Nat.add_zero List.cons_append List.nil_append List.append_assoc List.append_nil List.getElem?_cons_zero List.getElem?_cons_succ List.getElem?_nil List.set_cons_zero List.set_cons_succ List.drop_zero List.drop_succ_cons List.take_zero List.take_succ_cons List.take_nil List.drop_nil List.map_cons List.map_nil Option.map_some if_true if_false Bool.false_eq_true and_self true_and and_true Nat.reduceLeDiff Nat.reduceLT Nat.le_refl Nat.reduceEqDiff ite_true ite_false beq_self_eq_true beq_true beq_false Bool.not_true Bool.not_false Bool.true_beq Bool.false_beq map_vs vs_len vs_get vs_take vs_drop vs_snoc1 vs_snoc2 vs_snoc3 vs_snoc5 vs_set1 vs_set2 vs_rep wrap_id le_T lt_T le_F lt_F leI_T ltI_T leI_F ltI_F geI gtI get_T decide_true decide_false room List.getElem?_map List.length_map List.length_take Int.toNat_natCast Nat.min_def Nat.min_self nth_kOf put_kOf put_kNo kOv_cons kOv_nil KHas KArgs List.getElem_cons_zero List.getElem_cons_succ
theorem Weak.shift {e e' : List AV} {b pre l l' : List Row} (h : Weak e (b ++ pre) l e' (b ++ pre) l') : Weak e b (pre ++ l) e' b (pre ++ l') := by
 intro F L w a s he
 rw [← List.append_assoc] at s
 obtain ⟨F', L', h1, h2, h3, h4⟩ := h F L w a s he
 refine ⟨F', L', by rw [← List.append_assoc]; exact h1, h2, ?_, rfl⟩
 rw [← List.append_assoc, ← List.append_assoc]
 exact h3.weaken (by simp)
def bR (n : Nat) (f : Nat → Bool) : List (List IV) := fl n fun k => [.bool (f k)]
def tbW (n : Nat) (R : Nat → Nat → Bool) (j : Nat) : Row := .live 0 1 (vs (bR n (R j)))
end Go.Proofs.Ytanblnhnfkeffaa
namespace Go.Proofs.Ytanblnhnfkeffaa
set_option linter.unusedVariables false
def concB (t : Tr) (rank : Nat × Nat → Nat) : Bool :=
 decide (1 ≤ t.length) && (decide (t.length ≤ 8) && ((List.range t.length).all (fun p => headF t p == 0) && ((ids t).all (fun x => formF t x == 0) && ((ids t).all (fun x => pairF t x == 0) && (ids t).all (fun x => (dirL t x).all fun y => decide (rank x < rank y))))))
theorem conc_fault {t : Tr} {rank : Nat × Nat → Nat} (h : concB t rank = true) : faultL t = ((0, 0), 0) := by
 simp only [concB, Bool.and_eq_true, decide_eq_true_eq, List.all_eq_true, beq_iff_eq] at h
 obtain ⟨h1, h2, h3, h4, h5, h6⟩ := h
 have hb : ∀ {x y : Nat × Nat}, Hb t x y → x ∈ ids t → rank x < rank y := by
  intro x y hxy
  induction hxy with
  | one h => intro hx; exact h6 _ hx _ (mem_dirL.2 h)
  | more h k ih =>
    intro hx
    exact Nat.lt_trans (ih hx) (h6 _ (Hb.mem hx h) _ (mem_dirL.2 k))
 unfold faultL
 rw [if_neg oM]
 have e1 : (List.range t.length).find? (fun p => headF t p != 0) = none := by
  rw [List.find?_eq_none]; intro p hp; simp [h3 p hp]
 have e2 : (ids t).find? (fun x => formF t x != 0) = none := by
  rw [List.find?_eq_none]; intro p hp; simp [h4 p hp]
 have e3 : (ids t).find? (fun x => pairF t x != 0) = none := by
  rw [List.find?_eq_none]; intro p hp; simp [h5 p hp]
 rw [e1]; simp only
 rw [e2]; simp only
 rw [e3]; simp only
 have e4 : (ids t).find? (fun x => @decide (Hb t x x) (Classical.propDecidable _)) = none := by
  rw [List.find?_eq_none]
  intro x hx
  simp only [decide_eq_true_eq]
  intro hh
  have := hb hh hx
  omega
 rw [e4]
theorem conc_valid {t : Tr} {rank : Nat × Nat → Nat} (h : concB t rank = true) : validL t = true := by simp [validL, conc_fault h]
end Go.Proofs.Ytanblnhnfkeffaa
