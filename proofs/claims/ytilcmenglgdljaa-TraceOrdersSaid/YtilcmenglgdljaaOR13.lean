/- Texts of one proof, laid together: PA, PE, PD, PK, PN. No condition. -/
import Derived.Test.YtilcmenglgdljaaOR12
import Derived.Test.YtilcmenglgdljaaOR2
import Derived.Test.YtilcmenglgdljaaOR8
namespace Go.Proofs.Ytilcmenglgdljaa
set_option linter.unusedVariables false
set_option linter.unusedSimpArgs false
attribute [local go_sem ↓] run_skip run_region run_draw run_seq run_block run_exit run_ret run_cond atN_app seqC_normal seqC_exit seqC_ret seqQ_normal seqQ_exit seqQ_ret blkQ_normal blkQ_exit blkQ_ret runOps_nil runOps_cons runD_nil runD_cons grdO_true grdO_false grdD_true grdD_false ifC_true ifC_false opS_val opS_call opS_two opK_app dS_val dS_call dS_two dK_app
attribute [local go_sem] rechks_nil rechks_cons rechk gcase_true gcase_false ex_val ex_val0 gd_none gd_some nth_zero nth_succ upd_zero upd_succ put_some put_none ev_t ev_c evs_nil evs_cons evo_some evo_none hget_at hget_first hsetB_at hsetB_first hsetL_at hsetL_first ofOpt_some aop aload astore aslice aappend aiaddr aiaddrA afaddr alen alenS acopy amm acall alookup amupdate alenM comma keyEq apick binV binVB binVS isSh intOp strOp boolOp shOp eqC eqF and2 cellsOf setFrom fillA fillS rd rdI elems mk bounds AV.cell List.all_cons List.all_nil Bool.and_true Bool.true_and Bool.and_self List.length_cons List.length_nil List.length_append Nat.reduceAdd Nat.reduceSub Nat.reduceMul Nat.zero_add Nat.add_zero List.replicate_succ List.replicate_zero List.cons_append List.nil_append List.append_assoc List.append_nil List.getElem?_cons_zero List.getElem?_cons_succ List.getElem?_nil List.set_cons_zero List.set_cons_succ List.drop_zero List.drop_succ_cons List.take_zero List.take_succ_cons List.take_nil List.drop_nil List.map_cons List.map_nil Option.map_some if_true if_false Bool.false_eq_true and_self true_and and_true Nat.reduceLeDiff Nat.reduceLT Nat.le_refl Nat.reduceEqDiff ite_true ite_false beq_self_eq_true beq_true beq_false Bool.not_true Bool.not_false Bool.true_beq Bool.false_beq map_vs vs_len vs_get vs_take vs_drop vs_snoc1 vs_snoc2 vs_snoc3 vs_snoc5 vs_set1 vs_set2 vs_rep wrap_id le_T lt_T le_F lt_F leI_T ltI_T leI_F ltI_F geI gtI get_T decide_true decide_false room List.getElem?_map List.length_map List.length_take Int.toNat_natCast Nat.min_def Nat.min_self List.getElem_cons_zero List.getElem_cons_succ
theorem rFind_spec (t : Tr) (hS : Small t) (hN : Nm t) (k m : Int) (b l : List Row) : ACalls Try.prog 20 [.agg [.v (eT t)], .v (.int .i64 k), .v (.int .i64 m)] b l (fun r b' l' => r = idA (findV t k m) ∧ b' = b ∧ l' = l) := by
 refine ACalls.of_ext ⟨_, Try.func20, by kernel_rfl, by kernel_rfl⟩ (fun F L w vs hr => ?_)
 obtain ⟨u, us, rfl, hs, hr2⟩ := repL_tr hN hr
 obtain ⟨v, us, rfl, h3, hr2⟩ := repL_cons hr2
 obtain ⟨v', us, rfl, h4, hr2⟩ := repL_cons hr2
 obtain rfl := repL_nil hr2
 cases h3.vI
 cases h4.vI
 refine (Find_any u t k m w hS hs).mono ?_
 rintro e w' ⟨rfl, he⟩
 exact ⟨he, _, _, rfl, idA_rep _ _ _ _, rfl, rfl, rfl⟩

structure CutIn (t : Tr) (cs : List Int) : Prop where
 len : cs.length = t.length
 le : ∀ (k : Nat) (h : k < t.length) (h2 : k < cs.length), 0 ≤ cs[k] ∧ cs[k] ≤ t[k].evs.length
def evp (t : Tr) (p j : Nat) : Ev := evAt t (p, j + 1)
def toI (t : Tr) (p j : Nat) : Nat := (findV t 3 (evp t p j).msg).2
def pairBad (t : Tr) (p j i : Nat) : Bool :=
 (evp t p j).kind == 2 && ((evp t p i).kind == 2 && ((evp t p j).peer == (evp t p i).peer && (toI t p i != 0 && (toI t p j == 0 || decide (toI t p i < toI t p j)))))
structure FfI (t : Tr) (p q k last : Nat) (mis : Bool) : Prop where
 m1 : ∀ j, j < k → (evp t p j).kind = 2 → (evp t p j).peer = q → toI t p j = 0 → mis = true
 m2 : mis = true → ∃ j, j < k ∧ (evp t p j).kind = 2 ∧ (evp t p j).peer = q ∧ toI t p j = 0
 l1 : ∀ j, j < k → (evp t p j).kind = 2 → (evp t p j).peer = q → toI t p j ≤ last
 l2 : 0 < last → ∃ j, j < k ∧ (evp t p j).kind = 2 ∧ (evp t p j).peer = q ∧ toI t p j = last
 g : ∀ i, i < k → ∀ j, j < i → (evp t p i).peer = q → pairBad t p j i = false
theorem FfI.start (t : Tr) (p q : Nat) : FfI t p q 0 0 false := ⟨fun j h => by omega, fun h => (by cases h), fun j h => by omega, fun h => by omega, fun j h => by omega⟩
theorem FfI.skip {t : Tr} {p q k last : Nat} {mis : Bool} (h : FfI t p q k last mis) (hk : ¬ ((evp t p k).kind = 2 ∧ (evp t p k).peer = q)) : FfI t p q (k + 1) last mis := by
 have up : ∀ j, j < k + 1 → j < k ∨ j = k := fun j hj => by omega
 refine ⟨fun j hj a b c => ?_, fun hm => ?_, fun j hj a b => ?_, fun hl => ?_, fun i hi j hj hp => ?_⟩
 ·rcases up j hj with h1 | rfl
  ·exact h.m1 j h1 a b c
  ·exact absurd ⟨a, b⟩ hk
 ·obtain ⟨j, h1, h2⟩ := h.m2 hm; exact ⟨j, by omega, h2⟩
 ·rcases up j hj with h1 | rfl
  ·exact h.l1 j h1 a b
  ·exact absurd ⟨a, b⟩ hk
 ·obtain ⟨j, h1, h2⟩ := h.l2 hl; exact ⟨j, by omega, h2⟩
 ·rcases up i hi with h1 | rfl
  ·exact h.g i h1 j hj hp
  ·have : ((evp t p i).kind == 2) = false := by
    cases hh : (evp t p i).kind == 2 with
    | false => rfl
    | true => exact absurd ⟨by simpa using hh, hp⟩ hk
   unfold pairBad; rw [this]; simp
theorem FfI.next {t : Tr} {p q k last : Nat} (h : FfI t p q k last false) (h1 : (evp t p k).kind = 2) (h2 : (evp t p k).peer = q) (h3 : toI t p k ≠ 0) (h4 : last ≤ toI t p k) : FfI t p q (k + 1) (toI t p k) false := by
 have up : ∀ j, j < k + 1 → j < k ∨ j = k := fun j hj => by omega
 refine ⟨fun j hj a b c => ?_, fun hm => (by cases hm), fun j hj a b => ?_, fun hl => ⟨k, by omega, h1, h2, rfl⟩, fun i hi j hj hp => ?_⟩
 ·rcases up j hj with g | rfl
  ·exact h.m1 j g a b c
  ·exact absurd c h3
 ·rcases up j hj with g | rfl
  ·have := h.l1 j g a b; omega
  ·exact Nat.le_refl _
 ·rcases up i hi with g | rfl
  ·exact h.g i g j hj hp
  ·unfold pairBad
   cases hk : (evp t p j).kind == 2
   ·simp
   cases he : (evp t p j).peer == (evp t p i).peer
   ·simp
   have hk : (evp t p j).kind = 2 := by simpa using hk
   have he : (evp t p j).peer = q := by rw [← h2]; simpa using he
   have hz : (toI t p j == 0) = false := by
    cases hq : toI t p j == 0 with
    | false => rfl
    | true => exact absurd (h.m1 j hj hk he (by simpa using hq)) (by simp)
   have := h.l1 j hj hk he
   rw [hz, decide_eq_false oM]; simp
theorem FfI.bad {t : Tr} {p q k last : Nat} {mis : Bool} (h : FfI t p q k last mis) (h1 : (evp t p k).kind = 2) (h2 : (evp t p k).peer = q) (h3 : toI t p k ≠ 0) (h4 : mis = true ∨ toI t p k < last) : ∃ j, j < k ∧ pairBad t p j k = true := by
 rcases h4 with h4 | h4
 ·obtain ⟨j, g1, g2, g3, g4⟩ := h.m2 h4
  refine ⟨j, g1, ?_⟩
  unfold pairBad; rw [g2, g3, h1, h2, g4]; simp [h3]
 ·obtain ⟨j, g1, g2, g3, g4⟩ := h.l2 oM
  refine ⟨j, g1, ?_⟩
  unfold pairBad; rw [g2, g3, h1, h2, g4]; simp [h3, h4]
theorem CutIn.ok {t : Tr} {cs : List Int} (h : CutIn t cs) (hS : Small t) : CutOk t cs := ⟨h.len, hS.np, hS.nv, hS.ne, hS.na, h.le⟩

end Go.Proofs.Ytilcmenglgdljaa
namespace Go.Proofs.Ytilcmenglgdljaa
set_option linter.unusedVariables false
set_option linter.unusedSimpArgs false
structure Cutt (t : Tr) (cs : List Int) : Prop where
 v : Vok t
 len : cs.length = t.length
 rng : ∀ p, p < t.length → 0 ≤ cAt cs p ∧ cAt cs p ≤ (evsOf t p).length
 ok : ∀ x ∈ ids t, (evAt t x).kind = 3 → (x.2 : Int) ≤ cAt cs x.1 → ((sndr t x).2 : Int) ≤ cAt cs (sndr t x).1
section
variable {t : Tr} {cs : List Int} (h : Cutt t cs)
include h
end
end Go.Proofs.Ytilcmenglgdljaa
namespace Go.Proofs.Ytilcmenglgdljaa
set_option linter.unusedVariables false
set_option linter.unusedSimpArgs false
section
variable {t : Tr} {cs : List Int} (h : Cutt t cs)
include h
end
def evC (t : Tr) (i : Nat) : Nat := (idsTo t i 0).length
theorem evC_succ {t : Tr} {i : Nat} (h : i < t.length) : evC t (i + 1) = evC t i + t[i].evs.length := by
 unfold evC
 rw [← idsTo_next t i h]
 simp [idsTo]
theorem evC_all {t : Tr} : evC t t.length = (ids t).length := by unfold evC; rw [idsTo_all]
theorem vok_evs {t : Tr} (h : Vok t) {p : Nat} (hp : p < t.length) : t[p].evs.length ≤ 64 := by
 have h0 := h.head p hp
 unfold headF at h0
 rw [getD_at hp] at h0
 split at h0
 ·simp at h0
 split at h0
 ·simp at h0
 split at h0
 ·rename_i q; exact absurd h0 q
 split at h0
 ·simp at h0
 ·omega
theorem vok_ids {t : Tr} (h : Vok t) : (ids t).length ≤ 512 := by
 have : ∀ i, i ≤ t.length → evC t i ≤ 64 * i := by
  intro i
  induction i with
  | zero => intro _; exact Nat.le_refl _
  | succ i ih =>
    intro hi
    have := ih oM
    have := vok_evs h (show i < t.length by omega)
    rw [evC_succ oM]; omega
 have h1 := this t.length (Nat.le_refl _)
 rw [evC_all] at h1
 have := h.hi
 omega
end Go.Proofs.Ytilcmenglgdljaa
