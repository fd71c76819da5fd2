/- Texts of one proof, laid together: HA, HN, OD, VR. No condition. -/
import Derived.Test.YtanblnhnfkeffaaBU4
import Derived.Test.YtanblnhnfkeffaaBU2
import Derived.Test.YtanblnhnfkeffaaBU6
import Derived.Test.YtanblnhnfkeffaaBU7
import Derived.Test.YtanblnhnfkeffaaProg
import Derived.KernelRfl
namespace Go.Proofs.Ytanblnhnfkeffaa
set_option linter.unusedVariables false
set_option linter.unusedSimpArgs false
structure Pst (t : Tr) (x : Nat × Nat) (c : Nat → Nat) (Q : List (Nat × Nat)) : Prop where
 q : ∀ y ∈ Q, y ∈ ids t ∧ Le t y x
 le : ∀ p i, i < c p → p < t.length ∧ i < (evsOf t p).length ∧ Le t (p, i + 1) x
 src : x ∈ Q ∨ x.2 ≤ c x.1
 cl : ∀ z ∈ ids t, z.2 ≤ c z.1 → ∀ y ∈ backL t z, y ∈ Q ∨ y.2 ≤ c y.1
theorem Pst.start {t : Tr} {x : Nat × Nat} (hx : x ∈ ids t) : Pst t x (fun _ => 0) [x] := by
 refine ⟨fun y hy => ?_, fun p i h => by simp at h, .inl (by simp), fun z hz h => ?_⟩
 ·simp only [List.mem_singleton] at hy; subst hy; exact ⟨hx, .refl _⟩
 ·have := (mem_ids.1 hz).2.1
  omega
theorem Pst.cle {t : Tr} {x : Nat × Nat} {c : Nat → Nat} {Q : List (Nat × Nat)} (h : Pst t x c Q) (p : Nat) : c p ≤ (evsOf t p).length := by
 cases hc : c p with
 | zero => omega
 | succ n => have := (h.le p n oM).2.1; omega
theorem Pst.skip {t : Tr} {x y : Nat × Nat} {c : Nat → Nat} {Q : List (Nat × Nat)} (h : Pst t x c (y :: Q)) (hc : y.2 ≤ c y.1) : Pst t x c Q := by
 refine ⟨fun z hz => h.q z (by simp [hz]), h.le, ?_, fun z hz hzc w hw => ?_⟩
 ·rcases h.src with h1 | h1
  ·rcases List.mem_cons.1 h1 with rfl | h2
   ·exact .inr hc
   ·exact .inl h2
  ·exact .inr h1
 ·rcases h.cl z hz hzc w hw with h1 | h1
  ·rcases List.mem_cons.1 h1 with rfl | h2
   ·exact .inr hc
   ·exact .inl h2
  ·exact .inr h1
theorem Pst.all {t : Tr} (hv : Vok t) {x : Nat × Nat} {c : Nat → Nat} (h : Pst t x c []) : ∀ n z, rk t z = n → z ∈ ids t → z.2 ≤ c z.1 → ∀ w ∈ ids t, Le t w z → w.2 ≤ c w.1 := by
 intro n
 induction n using Nat.strongRecOn with
 | _ n ih =>
   intro z hn hz hzc w hw hl
   rcases (le_back hv hz hw).1 hl with rfl | ⟨y, hy, hl2⟩
   ·exact hzc
   ·obtain ⟨h1, h2⟩ := back_mem hv hz hy
    rcases h.cl z hz hzc y hy with h3 | h3
    ·simp at h3
    ·exact ih (rk t y) (by rw [← hn]; exact rk_lt hv hz h2) y rfl h1 h3 w hw hl2
theorem Pst.done {t : Tr} (hv : Vok t) {x : Nat × Nat} (hx : x ∈ ids t) {c : Nat → Nat} (h : Pst t x c []) {p : Nat} (hp : p < t.length) : c p = vc t x p := by
 refine thresh (n := (evsOf t p).length) (h.cle p) vc_le (fun j hj => ?_)
 rw [← vc_iff hj]
 constructor
 ·exact fun hl => (h.le p j hl).2.2
 ·intro hl
  have hs : x.2 ≤ c x.1 := h.src.resolve_left (by simp)
  have := h.all hv (rk t x) x rfl hx hs (p, j + 1) (mem_ids2.2 ⟨hp, hj⟩) hl
  exact this
end Go.Proofs.Ytanblnhnfkeffaa
namespace Go.Proofs.Ytanblnhnfkeffaa
set_option linter.unusedVariables false
set_option linter.unusedSimpArgs false
theorem sndr_in {t : Tr} (hv : Vok t) {x : Nat × Nat} (hx : x ∈ ids t) (hk : (evAt t x).kind = 3) : sndr t x ∈ ids t ∧ Hb t (sndr t x) x := back_mem hv hx (sndr_back hk)
theorem sndr_peer {t : Tr} (hv : Vok t) {x : Nat × Nat} (hx : x ∈ ids t) (hk : (evAt t x).kind = 3) : (evAt t x).peer = ((sndr t x).1 : Int) ∧ (sndr t x).1 ≠ x.1 ∧ (evAt t (sndr t x)).kind = 2 ∧ (evAt t (sndr t x)).msg = (evAt t x).msg := by
 obtain ⟨m, q, hm, _, hq, hq2, hqp⟩ := formed_open (formF_formed (hv.form x hx)) (by rw [hk]; rfl)
 have hp := hv.pair x hx
 unfold pairF at hp
 rw [hk] at hp
 simp only [show ((3 : Int) == 2) = false from rfl, show ((3 : Int) == 3) = true from rfl, if_true, Bool.false_eq_true, if_false] at hp
 rw [if_pos (by have := (hv.paired.recv hx hk).1; simpa using this)] at hp
 have hs : sendsB t q (evAt t x).msg x.1 = true := by
  cases h : sendsB t q (evAt t x).msg x.1 with
  | true => rfl
  | false => rw [hq, Int.toNat_natCast, h] at hp; simp at hp
 unfold sendsB at hs
 obtain ⟨e, he, hb⟩ := List.any_eq_true.1 hs
 simp only [Bool.and_eq_true, beq_iff_eq] at hb
 rw [evsOf_lt hq2] at he
 obtain ⟨j, hj, rfl⟩ := List.getElem_of_mem he
 have hyi : (q, j + 1) ∈ ids t := mem_ids2.2 ⟨hq2, by rw [evsOf_lt hq2]; exact hj⟩
 have hye := evAt_eq hq2 hj
 have hf := hv.paired.send hyi (by rw [hye]; exact hb.1.1)
 rw [hye, hb.1.2] at hf
 have e1 : sndr t x = (q, j + 1) := (firstOf_find hf).1
 rw [e1, hye]
 exact ⟨hq, hqp, hb.1.1, hb.1.2⟩
end Go.Proofs.Ytanblnhnfkeffaa
namespace Go.Proofs.Ytanblnhnfkeffaa
set_option linter.unusedVariables false
set_option linter.unusedSimpArgs false
theorem mem_evAt {t : Tr} {p : Nat} {e : Ev} (hp : p < t.length) (he : e ∈ evsOf t p) : ∃ i, (p, i + 1) ∈ ids t ∧ evAt t (p, i + 1) = e := by
 obtain ⟨i, hi, rfl⟩ := List.getElem_of_mem he
 refine ⟨i, mem_ids2.2 ⟨hp, hi⟩, ?_⟩
 unfold evAt
 simp only [Nat.add_sub_cancel]
 exact getD_lt dfEv _ hi
def Qb (t : Tr) (k j : Nat) (x y : Nat × Nat) : Prop := Hb t x y ∧ (y = (k, j + 2) → Le t x (k, j) ∨ ((evAt t (k, j + 2)).kind = 3 ∧ Le t x (sndr t (k, j + 2))))
theorem Qb.trans {t : Tr} {k j : Nat} {x y z : Nat × Nat} (h : Qb t k j x y) (g : Qb t k j y z) : Qb t k j x z := by
 refine ⟨h.1.trans g.1, fun e => ?_⟩
 rcases g.2 e with a | ⟨a, c⟩
 ·exact .inl ((Le.trans (.inr h.1) a))
 ·exact .inr ⟨a, (Le.trans (.inr h.1) c)⟩
theorem Hb.pos {t : Tr} {x y : Nat × Nat} (h : Hb t x y) : 1 ≤ y.2 := by
 have d : ∀ {a c : Nat × Nat}, Dir t a c → 1 ≤ c.2 := fun {a c} d => by
  rcases d with ⟨rfl, _⟩ | ⟨_, hf⟩
  ·exact Nat.le_add_left _ _
  ·exact (firstOf_find hf).2.1
 cases h with
 | one h => exact d h
 | more _ h => exact d h
end Go.Proofs.Ytanblnhnfkeffaa
namespace Go.Proofs.Ytanblnhnfkeffaa
set_option linter.unusedVariables false
set_option linter.unusedSimpArgs false
attribute [local go_sem ↓] run_skip run_region run_draw run_both run_seq run_block run_exit run_ret run_cond atN_app seqC_normal seqC_exit seqC_ret seqQ_normal seqQ_exit seqQ_ret blkQ_normal blkQ_exit blkQ_ret runOps_nil runOps_cons runD_nil runD_cons grdO_true grdO_false grdD_true grdD_false ifC_true ifC_false opS_val opS_call opS_two opK_app dS_val dS_call dS_two dK_app kUp_same kUp_ne
attribute [local go_sem] rechks_nil rechks_cons rechk gcase_true gcase_false ex_val ex_val0 gd_none gd_some ev_t ev_c evs_nil evs_cons evo_some evo_none hget_at hget_first hsetB_at hsetB_first hsetL_at hsetL_first ofOpt_some aop aload astore aslice aappend aiaddr aiaddrA afaddr alen alenS acopy amm acall alookup amupdate alenM atostr comma keyEq apick binV binVB binVS isSh intOp strOp boolOp shOp eqC eqF and2 cellsOf setFrom fillA fillS rd rdI elems mk bounds AV.cell List.all_cons List.all_nil Bool.and_true Bool.true_and Bool.and_self List.length_cons List.length_nil List.length_append Nat.reduceAdd Nat.reduceSub Nat.reduceMul Nat.zero_add Nat.add_zero List.cons_append List.nil_append List.append_assoc List.append_nil List.getElem?_cons_zero List.getElem?_cons_succ List.getElem?_nil List.set_cons_zero List.set_cons_succ List.drop_zero List.drop_succ_cons List.take_zero List.take_succ_cons List.take_nil List.drop_nil List.map_cons List.map_nil Option.map_some if_true if_false Bool.false_eq_true and_self true_and and_true Nat.reduceLeDiff Nat.reduceLT Nat.le_refl Nat.reduceEqDiff ite_true ite_false beq_self_eq_true beq_true beq_false Bool.not_true Bool.not_false Bool.true_beq Bool.false_beq map_vs vs_len vs_get vs_take vs_drop vs_snoc1 vs_snoc2 vs_snoc3 vs_snoc5 vs_set1 vs_set2 vs_rep wrap_id le_T lt_T le_F lt_F leI_T ltI_T leI_F ltI_F geI gtI get_T decide_true decide_false room List.getElem?_map List.length_map List.length_take Int.toNat_natCast Nat.min_def Nat.min_self nth_kOf put_kOf put_kNo kOv_cons kOv_nil KHas KArgs List.getElem_cons_zero List.getElem_cons_succ
def iv (v : List Int) : AV := .v (.isl 1 (v.map eI))

end Go.Proofs.Ytanblnhnfkeffaa
