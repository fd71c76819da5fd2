/- Texts of one proof, laid together: J7, J9, JB, JC, K1, K6. No condition. -/
import Derived.Test.YtnihdkfmmbpilaaDoorPC12
import Derived.Test.YtnihdkfmmbpilaaDoorPC13
import Derived.Test.YtnihdkfmmbpilaaDoorPC2
import Derived.Test.YtnihdkfmmbpilaaDoorPC16
import Derived.Test.YtnihdkfmmbpilaaDoorPC15
import Derived.Test.YtnihdkfmmbpilaaDoorPC8
import Derived.Test.YtnihdkfmmbpilaaDoorPC3
import Derived.Test.YtnihdkfmmbpilaaDoorPC5
namespace Go.Proofs.YtnihdkfmmbpilaaDoor
set_option linter.unusedVariables false
set_option linter.unusedSimpArgs false
attribute [local go_sem ↓] run_skip run_region run_draw run_both run_seq run_block run_exit run_ret run_cond atN_app seqC_normal seqC_exit seqC_ret seqQ_normal seqQ_exit seqQ_ret blkQ_normal blkQ_exit blkQ_ret runOps_nil runOps_cons runD_nil runD_cons grdO_true grdO_false grdD_true grdD_false ifC_true ifC_false opS_val opS_call opS_two opK_app dS_val dS_call dS_two dK_app kUp_same kUp_ne
attribute [local go_sem] rechks_nil rechks_cons rechk gcase_true gcase_false ex_val ex_val0 gd_none gd_some ev_t ev_c evs_nil evs_cons evo_some evo_none hget_at hget_first hsetB_at hsetB_first hsetL_at hsetL_first ofOpt_some aop aload astore aslice aappend aiaddr aiaddrA afaddr alen alenS acopy amm acall alookup amupdate alenM atostr aappz comma keyEq apick binV binVB binVS isSh intOp strOp boolOp shOp eqC eqF and2 cellsOf setFrom fillA fillS rd rdI elems mk bounds AV.cell List.all_cons List.all_nil Bool.and_true Bool.true_and Bool.and_self List.length_cons List.length_nil List.length_append Nat.reduceAdd Nat.reduceSub Nat.reduceMul Nat.zero_add Nat.add_zero List.cons_append List.nil_append List.append_assoc List.append_nil List.getElem?_cons_zero List.getElem?_cons_succ List.getElem?_nil List.set_cons_zero List.set_cons_succ List.drop_zero List.drop_succ_cons List.take_zero List.take_succ_cons List.take_nil List.drop_nil List.map_cons List.map_nil Option.map_some if_true if_false Bool.false_eq_true and_self true_and and_true Nat.reduceLeDiff Nat.reduceLT Nat.le_refl Nat.reduceEqDiff ite_true ite_false beq_self_eq_true beq_true beq_false Bool.not_true Bool.not_false Bool.true_beq Bool.false_beq map_vs vs_len vs_get vs_take vs_drop vs_snoc1 vs_snoc2 vs_snoc3 vs_snoc5 vs_set1 vs_set2 vs_rep wrap_id le_T lt_T le_F lt_F leI_T ltI_T leI_F ltI_F geI gtI get_T decide_true decide_false room List.getElem?_map List.length_map List.length_take Int.toNat_natCast Nat.min_def Nat.min_self nth_kOf put_kOf put_kNo kOv_cons kOv_nil KHas KArgs List.getElem_cons_zero List.getElem_cons_succ
noncomputable def unB (t : Tr) (j i : Nat) : Bool := !decide (j ∈ relT t i) && !decide (i ∈ relT t j)
noncomputable def idN (t : Tr) (i : Nat) : Nat × Nat := (ids t).getD i (0, 0)
noncomputable def cmN (t : Tr) (k j i : Nat) : Int := cmpV (fcs t k (idN t j)) (fcs t k (idN t i))
def mxI (x y : Int) : Int := if y > x then y else x
def szW (v w : List Int) : Nat → Int
 | 0 => 0
 | i + 1 => IntKind.i64.wrap (szW v w i + mxI (IntKind.i64.wrap (v.getD i 0 - w.getD i 0)) (IntKind.i64.wrap (w.getD i 0 - v.getD i 0)))
noncomputable def szN (t : Tr) (k j i : Nat) : Int := szW (fcs t k (idN t j)) (fcs t k (idN t i)) k
def wGt (s : Int × Nat × Nat) (n : Int) (j i : Nat) : Prop := n > s.1 ∨ n = s.1 ∧ (j < s.2.1 ∨ j = s.2.1 ∧ i < s.2.2)
instance {s : Int × Nat × Nat} {n : Int} {j i : Nat} : Decidable (wGt s n j i) := by unfold wGt; exact inferInstance
end Go.Proofs.YtnihdkfmmbpilaaDoor
namespace Go.Proofs.YtnihdkfmmbpilaaDoor
set_option linter.unusedVariables false
set_option linter.unusedSimpArgs false
noncomputable def lam (t : Tr) (x : Nat × Nat) : Nat := fc t 1 x 0
def Mle (t : Tr) (M : Nat → Nat → Nat) : Prop := ∀ x ∈ ids t, M x.1 x.2 ≤ lam t x
def mUp (M : Nat → Nat → Nat) (x : Nat × Nat) (v : Nat) : Nat → Nat → Nat := fun p i => if p = x.1 ∧ i = x.2 then v else M p i
theorem mUp_same {M : Nat → Nat → Nat} {x : Nat × Nat} {v : Nat} : mUp M x v x.1 x.2 = v := if_pos ⟨rfl, rfl⟩
theorem mUp_ne {M : Nat → Nat → Nat} {x y : Nat × Nat} {v : Nat} (h : y ≠ x) : mUp M x v y.1 y.2 = M y.1 y.2 := if_neg (fun k => h (Prod.ext k.1 k.2))
theorem Mle.up {t : Tr} {M : Nat → Nat → Nat} (hM : Mle t M) {x : Nat × Nat} {v : Nat} (h : v ≤ lam t x) : Mle t (mUp M x v) := by
 intro y hy
 by_cases he : y = x
 ·subst he; rw [mUp_same]; exact h
 ·rw [mUp_ne he]; exact hM y hy
end Go.Proofs.YtnihdkfmmbpilaaDoor
namespace Go.Proofs.YtnihdkfmmbpilaaDoor
set_option linter.unusedVariables false
set_option linter.unusedSimpArgs false
noncomputable def hpB (t : Tr) (i j : Nat) : Bool := befB t (idN t i) (idN t j)
def isEr (t : Tr) (k j i : Nat) : Prop := unB t j i = true ∧ cmN t k j i ≠ 2
def lexLe (a b : Nat × Nat) : Prop := a.1 < b.1 ∨ (a.1 = b.1 ∧ a.2 ≤ b.2)
structure Best (t : Tr) (k : Nat) (S : Nat → Nat → Prop) (s : Int × Nat × Nat) : Prop where
 no : s.1 = -1 → s = (-1, 0, 0) ∧ ∀ j i, S j i → ¬ isEr t k j i
 yes : s.1 ≠ -1 → S s.2.1 s.2.2 ∧ isEr t k s.2.1 s.2.2 ∧ s.1 = szN t k s.2.1 s.2.2 ∧ ∀ j i, S j i → isEr t k j i → szN t k j i < s.1 ∨ (szN t k j i = s.1 ∧ lexLe s.2 (j, i))
theorem Best.same {t : Tr} {k : Nat} {S : Nat → Nat → Prop} {s r : Int × Nat × Nat} (h1 : Best t k S s) (h2 : Best t k S r) : s = r := by
 obtain ⟨m, a, c⟩ := s
 obtain ⟨m', a', c'⟩ := r
 by_cases e1 : m = -1
 ·by_cases e2 : m' = -1
  ·rw [(h1.no e1).1, (h2.no e2).1]
  ·obtain ⟨q1, q2, q3, q4⟩ := h2.yes e2
   exact absurd q2 ((h1.no e1).2 _ _ q1)
 ·obtain ⟨p1, p2, p3, p4⟩ := h1.yes e1
  by_cases e2 : m' = -1
  ·exact absurd p2 ((h2.no e2).2 _ _ p1)
  ·obtain ⟨q1, q2, q3, q4⟩ := h2.yes e2
   have a1 := p4 _ _ q1 q2
   have a2 := q4 _ _ p1 p2
   rw [← q3] at a1
   rw [← p3] at a2
   unfold lexLe at a1 a2
   simp only at a1 a2
   obtain rfl : m = m' := by omega
   obtain rfl : a = a' := by omega
   obtain rfl : c = c' := by omega
   rfl
theorem Best.congr {t : Tr} {k : Nat} {S S' : Nat → Nat → Prop} {s : Int × Nat × Nat} (h : Best t k S s) (hs : ∀ j i, S j i ↔ S' j i) : Best t k S' s := by
 have : S = S' := funext fun j => funext fun i => propext (hs j i)
 rw [← this]; exact h
theorem Best.skip {t : Tr} {k : Nat} {S S' : Nat → Nat → Prop} {s : Int × Nat × Nat} {j i : Nat} (h : Best t k S s) (hs : ∀ a c, S' a c ↔ S a c ∨ (a = j ∧ c = i)) (hn : ¬ isEr t k j i) : Best t k S' s := by
 refine ⟨fun e => ⟨(h.no e).1, fun a c hac => ?_⟩, fun e => ?_⟩
 ·rcases (hs a c).1 hac with h1 | ⟨rfl, rfl⟩
  ·exact (h.no e).2 a c h1
  ·exact hn
 ·obtain ⟨p1, p2, p3, p4⟩ := h.yes e
  refine ⟨(hs _ _).2 (.inl p1), p2, p3, fun a c hac he => ?_⟩
  rcases (hs a c).1 hac with h1 | ⟨rfl, rfl⟩
  ·exact p4 a c h1 he
  ·exact absurd he hn
theorem Best.take {t : Tr} {k : Nat} {S S' : Nat → Nat → Prop} {s : Int × Nat × Nat} {j i : Nat} (h : Best t k S s) (hs : ∀ a c, S' a c ↔ S a c ∨ (a = j ∧ c = i)) (he : isEr t k j i) (h0 : 0 ≤ szN t k j i) (hw : wGt s (szN t k j i) j i) : Best t k S' (szN t k j i, j, i) := by
 refine ⟨fun e => absurd e (by simp only; omega), fun _ => ⟨(hs _ _).2 (.inr ⟨rfl, rfl⟩), he, rfl, fun a c hac hea => ?_⟩⟩
 rcases (hs a c).1 hac with h1 | ⟨rfl, rfl⟩
 ·by_cases e : s.1 = -1
  ·exact absurd hea ((h.no e).2 a c h1)
  ·obtain ⟨p1, p2, p3, p4⟩ := h.yes e
   have := p4 a c h1 hea
   unfold wGt at hw
   unfold lexLe at this ⊢
   simp only at this ⊢
   omega
 ·exact .inr ⟨rfl, .inr ⟨rfl, Nat.le_refl _⟩⟩
theorem Best.keep {t : Tr} {k : Nat} {S S' : Nat → Nat → Prop} {s : Int × Nat × Nat} {j i : Nat} (h : Best t k S s) (hs : ∀ a c, S' a c ↔ S a c ∨ (a = j ∧ c = i)) (he : isEr t k j i) (h0 : 0 ≤ szN t k j i) (hw : ¬ wGt s (szN t k j i) j i) : Best t k S' s := by
 unfold wGt at hw
 by_cases e : s.1 = -1
 ·omega
 ·refine ⟨fun e2 => absurd e2 e, fun _ => ?_⟩
  obtain ⟨p1, p2, p3, p4⟩ := h.yes e
  refine ⟨(hs _ _).2 (.inl p1), p2, p3, fun a c hac hea => ?_⟩
  rcases (hs a c).1 hac with h1 | ⟨rfl, rfl⟩
  ·exact p4 a c h1 hea
  ·unfold lexLe
   simp only
   omega
theorem Best.nil {t : Tr} {k : Nat} {S : Nat → Nat → Prop} (h : ∀ j i, ¬ S j i) : Best t k S (-1, 0, 0) := ⟨fun _ => ⟨rfl, fun j i hs => absurd hs (h j i)⟩, fun h => absurd rfl h⟩
end Go.Proofs.YtnihdkfmmbpilaaDoor
