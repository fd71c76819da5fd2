/- Texts of one proof, laid together: PT, PX, PY, PQ. No condition. -/
import Derived.Test.YtanblnhnfkeffaaBU12
import Derived.Test.YtanblnhnfkeffaaBU8
import Derived.Test.YtanblnhnfkeffaaBU9
import Derived.Test.YtanblnhnfkeffaaBU11
namespace Go.Proofs.Ytanblnhnfkeffaa
set_option linter.unusedVariables false
set_option linter.unusedSimpArgs false
structure Cutw (t : Tr) (cs : List Int) : Prop where
 v : Vok t
 len : cs.length = t.length
 rng : ∀ p, p < t.length → 0 ≤ cAt cs p ∧ cAt cs p ≤ (evsOf t p).length
section
variable {t : Tr} {cs : List Int} (h : Cutw t cs)
include h
theorem cw_len : (firstL t cs).length = t.length := by unfold firstL; simp; have := h.len; omega
theorem cw_get {p : Nat} (hp : p < t.length) : (firstL t cs)[p]'(by rw [cw_len h]; exact hp) = cutP t[p] (cs[p]'(by rw [h.len]; exact hp)) := by
 unfold firstL; simp
theorem cw_at {p : Nat} (hp : p < t.length) : cs[p]'(by rw [h.len]; exact hp) = cAt cs p := by
 unfold cAt; simp [List.getD, show p < cs.length by rw [h.len]; exact hp]
theorem cw_evs {p : Nat} (hp : p < t.length) : evsOf (firstL t cs) p = (evsOf t p).take (cN cs p) := by
 rw [evsOf_lt (by rw [cw_len h]; exact hp), evsOf_lt hp, cw_get h hp]
 unfold cutP cN
 rw [cw_at h hp]
theorem cw_mem {p i : Nat} : (p, i + 1) ∈ ids (firstL t cs) ↔ (p, i + 1) ∈ ids t ∧ i < cN cs p := by
 rw [mem_ids2, mem_ids2, cw_len h]
 constructor
 ·rintro ⟨hp, hi⟩
  rw [cw_evs h hp, List.length_take] at hi
  exact ⟨⟨hp, by omega⟩, by omega⟩
 ·rintro ⟨⟨hp, hi⟩, hc⟩
  refine ⟨hp, ?_⟩
  rw [cw_evs h hp, List.length_take]; omega
theorem cw_mem2 {x : Nat × Nat} : x ∈ ids (firstL t cs) ↔ x ∈ ids t ∧ x.2 ≤ cN cs x.1 := by
 obtain ⟨p, i⟩ := x
 cases i with
 | zero =>
   constructor
   ·intro hx; have := mem_pos hx; simp at this
   ·rintro ⟨hx, _⟩; have := mem_pos hx; simp at this
 | succ i => rw [cw_mem h]; simp only; exact ⟨fun ⟨a, b⟩ => ⟨a, by omega⟩, fun ⟨a, b⟩ => ⟨a, by omega⟩⟩
theorem cw_ev {x : Nat × Nat} (hx : x ∈ ids (firstL t cs)) : evAt (firstL t cs) x = evAt t x := by
 obtain ⟨p, i⟩ := x
 obtain ⟨i, rfl⟩ : ∃ k, i = k + 1 := ⟨i - 1, by have := mem_pos hx; simp only at this; omega⟩
 obtain ⟨h1, h2⟩ := (cw_mem h).1 hx
 have hp := (mem_ids2.1 h1).1
 unfold evAt
 simp only [Nat.add_sub_cancel]
 rw [cw_evs h hp]
 unfold List.getD
 rw [List.getElem?_take_of_lt h2]
theorem cw_key {x : Nat × Nat} (hx : x ∈ ids t) {k : Int} (hk : k = 2 ∨ k = 3) (hkx : (evAt t x).kind = k) : findL t k (evAt t x).msg = some x := by
 rcases hk with rfl | rfl
 ·exact h.v.paired.send hx hkx
 ·exact (h.v.paired.recv hx hkx).1
theorem cw_find {k m : Int} (hk : k = 2 ∨ k = 3) {y : Nat × Nat} : findL (firstL t cs) k m = some y ↔ findL t k m = some y ∧ y ∈ ids (firstL t cs) := by
 have fw : ∀ z, findL (firstL t cs) k m = some z → findL t k m = some z ∧ z ∈ ids (firstL t cs) := fun z hz => by
  have hm := (firstOf_find hz).2.2
  obtain ⟨k1, k2⟩ := find_key hz
  rw [cw_ev h hm] at k1 k2
  have := cw_key h ((cw_mem2 h).1 hm).1 hk k1
  rw [k2] at this
  exact ⟨this, hm⟩
 constructor
 ·exact fw y
 ·rintro ⟨h1, h2⟩
  cases hf : findL (firstL t cs) k m with
  | some z =>
    have := (fw z hf).1
    rw [h1] at this
    rw [Option.some.inj this]
  | none =>
    obtain ⟨k1, k2⟩ := find_key h1
    rw [← cw_ev h h2] at k1 k2
    have e : findL (firstL t cs) k m = (ids (firstL t cs)).find? (keyB (firstL t cs) k m) := rfl
    rw [e, List.find?_eq_none] at hf
    exact absurd (by unfold keyB; rw [k1, k2]; simp) (hf y h2)
theorem cw_to {x z : Nat × Nat} (hx : x ∈ ids t) (hk : (evAt t x).kind = 2) (hz : findL t 3 (evAt t x).msg = some z) : (evAt t x).peer = (z.1 : Int) ∧ ∃ q : Nat, (evAt t z).peer = (q : Int) ∧ x.1 = q ∧ sendsB t q (evAt t x).msg z.1 = true := by
 have hzm := (firstOf_find hz).2.2
 obtain ⟨k3, km⟩ := find_key hz
 obtain ⟨m, q, hm, _, hq, hq2, hqp⟩ := formed_open (formF_formed (h.v.form z hzm)) (by rw [k3]; rfl)
 have hp := h.v.pair z hzm
 unfold pairF at hp
 rw [k3] at hp
 simp only [show ((3 : Int) == 2) = false from rfl, show ((3 : Int) == 3) = true from rfl, if_true, Bool.false_eq_true, if_false] at hp
 rw [if_pos (by have := (h.v.paired.recv hzm k3).1; simpa using this)] at hp
 have hs : sendsB t q (evAt t z).msg z.1 = true := by
  cases hc : sendsB t q (evAt t z).msg z.1 with
  | true => rfl
  | false => rw [hq, Int.toNat_natCast, hc] at hp; simp at hp
 have hs0 := hs
 unfold sendsB at hs
 obtain ⟨e, he, hb⟩ := List.any_eq_true.1 hs
 simp only [Bool.and_eq_true, beq_iff_eq] at hb
 rw [evsOf_lt hq2] at he
 obtain ⟨j, hj, rfl⟩ := List.getElem_of_mem he
 have hyi : (q, j + 1) ∈ ids t := mem_ids2.2 ⟨hq2, by rw [evsOf_lt hq2]; exact hj⟩
 have hye := evAt_eq hq2 hj
 have hf := cw_key h hyi (.inl rfl) (by rw [hye]; exact hb.1.1)
 have hfx := cw_key h hx (.inl rfl) hk
 rw [hye, hb.1.2, km, hfx] at hf
 have hxe := Option.some.inj hf
 rw [hxe, hye]
 exact ⟨hb.2, q, hq, rfl, by rw [← hxe, ← km] at *; rw [hb.1.2] at *; exact hs0⟩
theorem cw_head {p : Nat} (hp : p < t.length) : headF (firstL t cs) p = 0 := by
 have h0 := h.v.head p hp
 have hpu : p < (firstL t cs).length := by rw [cw_len h]; exact hp
 have hmap : (firstL t cs).map (·.name) = t.map (·.name) := by
  refine List.ext_getElem (by simp [cw_len h]) (fun i h1 h2 => ?_)
  simp only [List.length_map] at h1 h2
  simp only [List.getElem_map]
  rw [cw_get h h2]; rfl
 have hg : (firstL t cs).getD p dfPr = cutP t[p] (cs[p]'(by rw [h.len]; exact hp)) := by rw [getD_at hpu, cw_get h hp]
 have hgt : t.getD p dfPr = t[p] := getD_at hp
 have hany : ∀ g : ByteArray → Bool, ((firstL t cs).take p).any (fun y => g y.name) = (t.take p).any (fun y => g y.name) := fun g => by
  have e1 : ∀ l : List Pr, l.any (fun y => g y.name) = (l.map (·.name)).any g := fun l => by rw [List.any_map]; rfl
  rw [e1, e1, List.map_take, List.map_take, hmap]
 unfold headF at h0 ⊢
 rw [hgt] at h0
 rw [hg]
 have hn : (cutP t[p] (cs[p]'(by rw [h.len]; exact hp))).name = t[p].name := rfl
 have hv : (cutP t[p] (cs[p]'(by rw [h.len]; exact hp))).vars = t[p].vars := rfl
 rw [hn, hv]
 have ha : ((firstL t cs).take p).any (fun y => y.name.toList == t[p].name.toList) = (t.take p).any (fun y => y.name.toList == t[p].name.toList) := hany (fun s => s.toList == t[p].name.toList)
 rw [ha]
 split at h0
 ·simp at h0
 rename_i q1
 rw [if_neg q1]
 split at h0
 ·simp at h0
 rename_i q2
 rw [if_neg q2]
 split at h0
 ·rename_i q3; exact absurd h0 q3
 rename_i q3
 rw [if_neg q3]
 split at h0
 ·simp at h0
 rename_i q4
 rw [if_neg]
 have : (cutP t[p] (cs[p]'(by rw [h.len]; exact hp))).evs.length ≤ t[p].evs.length := by unfold cutP; rw [List.length_take]; omega
 omega
theorem cw_form {x : Nat × Nat} (hx : x ∈ ids (firstL t cs)) : formF (firstL t cs) x = 0 := by
 obtain ⟨h1, h2⟩ := (cw_mem2 h).1 hx
 have hp := (mem_ids.1 h1).1
 have h0 := h.v.form x h1
 have hl : lastT (firstL t cs) x = lastT t x := by
  unfold lastT
  by_cases hc : 1 < x.2
  ·rw [if_pos hc, if_pos hc, cw_evs h hp]
   unfold List.getD
   rw [List.getElem?_take_of_lt oM]
  ·rw [if_neg hc, if_neg hc]
 have hg : ((firstL t cs).getD x.1 dfPr).vars = (t.getD x.1 dfPr).vars := by
  rw [getD_at (by rw [cw_len h]; exact hp), cw_get h hp, getD_at hp]; rfl
 unfold formF at h0 ⊢
 rw [cw_ev h hx, cw_len h, hl, hg]
 exact h0
theorem cw_pair {x : Nat × Nat} (hx : x ∈ ids (firstL t cs)) (hs3 : (evAt t x).kind = 3 → sndr t x ∈ ids (firstL t cs)) : pairF (firstL t cs) x = 0 := by
 obtain ⟨h1, h2⟩ := (cw_mem2 h).1 hx
 have hev := cw_ev h hx
 unfold pairF
 rw [hev]
 by_cases k2 : (evAt t x).kind = 2
 ·have hf : findL (firstL t cs) 2 (evAt t x).msg = some x := (cw_find h (.inl rfl)).2 ⟨cw_key h h1 (.inl rfl) k2, hx⟩
  rw [hf, k2]; simp
 ·by_cases k3 : (evAt t x).kind = 3
  ·have hf : findL (firstL t cs) 3 (evAt t x).msg = some x := (cw_find h (.inr rfl)).2 ⟨cw_key h h1 (.inr rfl) k3, hx⟩
   have sm := hs3 k3
   obtain ⟨p1, p2, p3, p4⟩ := sndr_peer h.v h1 k3
   obtain ⟨s1, _⟩ := sndr_in h.v h1 k3
   have hto := (cw_to h s1 p3 (z := x) (by rw [p4]; exact cw_key h h1 (.inr rfl) k3)).1
   have hsm : sendsB (firstL t cs) (evAt t x).peer.toNat (evAt t x).msg x.1 = true := by
    rw [p1, Int.toNat_natCast]
    unfold sendsB
    rw [List.any_eq_true]
    obtain ⟨⟨sp, si⟩, hs⟩ : ∃ s, sndr t x = s := ⟨_, rfl⟩
    rw [hs] at sm s1 p3 p4 hto ⊢
    obtain ⟨si, rfl⟩ : ∃ k, si = k + 1 := ⟨si - 1, by have := mem_pos s1; simp only at this; omega⟩
    obtain ⟨m1, m2⟩ := mem_ids2.1 sm
    have hev2 := cw_ev h sm
    refine ⟨(evsOf (firstL t cs) sp)[si], List.getElem_mem m2, ?_⟩
    have e : evAt (firstL t cs) (sp, si + 1) = (evsOf (firstL t cs) sp)[si] := by
     unfold evAt; simp only [Nat.add_sub_cancel]; exact getD_at m2
    rw [← e, hev2, p3, p4, hto]; simp
   rw [hf, k3, hsm]; simp
  ·have e2 : ((evAt t x).kind == 2) = false := beq_eq_false_iff_ne.2 k2
   have e3 : ((evAt t x).kind == 3) = false := beq_eq_false_iff_ne.2 k3
   rw [e2, e3]; rfl
end
structure Cutb (t : Tr) (cs : List Int) (x0 : Nat × Nat) : Prop where
 w : Cutw t cs
 mem : x0 ∈ ids (firstL t cs)
 k3 : (evAt t x0).kind = 3
 bad : sndr t x0 ∉ ids (firstL t cs)
 ok : ∀ x ∈ ids (firstL t cs), x ≠ x0 → (evAt t x).kind = 3 → sndr t x ∈ ids (firstL t cs)
theorem cb_pair {t : Tr} {cs : List Int} {x0 : Nat × Nat} (h : Cutb t cs x0) : pairF (firstL t cs) x0 = 7 := by
 obtain ⟨h1, h2⟩ := (cw_mem2 h.w).1 h.mem
 have hev := cw_ev h.w h.mem
 have k3 := h.k3
 unfold pairF
 rw [hev]
 have hf : findL (firstL t cs) 3 (evAt t x0).msg = some x0 := (cw_find h.w (.inr rfl)).2 ⟨cw_key h.w h1 (.inr rfl) k3, h.mem⟩
 obtain ⟨p1, p2, p3, p4⟩ := sndr_peer h.w.v h1 k3
 obtain ⟨s1, _⟩ := sndr_in h.w.v h1 k3
 have hsm : sendsB (firstL t cs) (evAt t x0).peer.toNat (evAt t x0).msg x0.1 = false := by
  rw [p1, Int.toNat_natCast]
  cases hc : sendsB (firstL t cs) (sndr t x0).1 (evAt t x0).msg x0.1 with
  | false => rfl
  | true =>
    exfalso
    unfold sendsB at hc
    rw [List.any_eq_true] at hc
    obtain ⟨e, he, hb⟩ := hc
    simp only [Bool.and_eq_true, beq_iff_eq] at hb
    have hp : (sndr t x0).1 < (firstL t cs).length := by rw [cw_len h.w]; exact (mem_ids.1 s1).1
    obtain ⟨i, hi, rfl⟩ := mem_evAt hp he
    have hi2 := ((cw_mem2 h.w).1 hi).1
    rw [cw_ev h.w hi] at hb
    have e1 := cw_key h.w hi2 (.inl rfl) hb.1.1
    have e2 := cw_key h.w s1 (.inl rfl) p3
    rw [hb.1.2] at e1
    rw [p4, e1] at e2
    have e3 := Option.some.inj e2
    exact h.bad (by rw [← e3]; exact hi)
 rw [hf, k3, hsm]; simp
open Classical in
theorem cb_fault {t : Tr} {cs : List Int} {x0 : Nat × Nat} (h : Cutb t cs x0) : faultL (firstL t cs) = (x0, 7) := by
 have hlen : inB ((firstL t cs).length : Int) 1 8 = true := by
  have h1 := h.w.v.lo
  have h2 := h.w.v.hi
  rw [cw_len h.w]
  unfold inB; simp; omega
 have h0 : ∀ q, q < (firstL t cs).length → headF (firstL t cs) q = 0 := fun q hq => cw_head h.w (by rw [cw_len h.w] at hq; exact hq)
 have hf : (ids (firstL t cs)).find? (fun x => formF (firstL t cs) x != 0) = none := by
  rw [List.find?_eq_none]; intro x hx; rw [cw_form h.w hx]; simp
 have hp : (ids (firstL t cs)).find? (fun x => pairF (firstL t cs) x != 0) = some x0 := by
  cases hq : (ids (firstL t cs)).find? (fun x => pairF (firstL t cs) x != 0) with
  | none =>
    rw [List.find?_eq_none] at hq
    have := hq x0 h.mem
    rw [cb_pair h] at this
    simp at this
  | some x =>
    have h1 := List.find?_some hq
    have h2 := List.mem_of_find?_eq_some hq
    by_cases hx : x = x0
    ·rw [hx]
    ·have := cw_pair h.w h2 (h.ok x h2 hx)
     rw [this] at h1
     simp at h1
 rw [fault_pair hlen h0 hf hp, cb_pair h]
end Go.Proofs.Ytanblnhnfkeffaa
namespace Go.Proofs.Ytanblnhnfkeffaa
set_option linter.unusedVariables false
set_option linter.unusedSimpArgs false
attribute [local go_sem ↓] run_skip run_region run_draw run_both run_seq run_block run_exit run_ret run_cond atN_app seqC_normal seqC_exit seqC_ret seqQ_normal seqQ_exit seqQ_ret blkQ_normal blkQ_exit blkQ_ret runOps_nil runOps_cons runD_nil runD_cons grdO_true grdO_false grdD_true grdD_false ifC_true ifC_false opS_val opS_call opS_two opK_app dS_val dS_call dS_two dK_app kUp_same kUp_ne
attribute [local go_sem] rechks_nil rechks_cons rechk gcase_true gcase_false ex_val ex_val0 gd_none gd_some ev_t ev_c evs_nil evs_cons evo_some evo_none hget_at hget_first hsetB_at hsetB_first hsetL_at hsetL_first ofOpt_some aop aload astore aslice aappend aiaddr aiaddrA afaddr alen alenS acopy amm acall alookup amupdate alenM atostr comma keyEq apick binV binVB binVS isSh intOp strOp boolOp shOp eqC eqF and2 cellsOf setFrom fillA fillS rd rdI elems mk bounds AV.cell List.all_cons List.all_nil Bool.and_true Bool.true_and Bool.and_self List.length_cons List.length_nil List.length_append Nat.reduceAdd Nat.reduceSub Nat.reduceMul Nat.zero_add Nat.add_zero List.cons_append List.nil_append List.append_assoc List.append_nil List.getElem?_cons_zero List.getElem?_cons_succ List.getElem?_nil List.set_cons_zero List.set_cons_succ List.drop_zero List.drop_succ_cons List.take_zero List.take_succ_cons List.take_nil List.drop_nil List.map_cons List.map_nil Option.map_some if_true if_false Bool.false_eq_true and_self true_and and_true Nat.reduceLeDiff Nat.reduceLT Nat.le_refl Nat.reduceEqDiff ite_true ite_false beq_self_eq_true beq_true beq_false Bool.not_true Bool.not_false Bool.true_beq Bool.false_beq map_vs vs_len vs_get vs_take vs_drop vs_snoc1 vs_snoc2 vs_snoc3 vs_snoc5 vs_set1 vs_set2 vs_rep wrap_id le_T lt_T le_F lt_F leI_T ltI_T leI_F ltI_F geI gtI get_T decide_true decide_false room List.getElem?_map List.length_map List.length_take Int.toNat_natCast Nat.min_def Nat.min_self nth_kOf put_kOf put_kNo kOv_cons kOv_nil KHas KArgs List.getElem_cons_zero List.getElem_cons_succ
theorem tr_dv {u : Tr} {base v : Nat} {N : List Row} {E : List (List AV)} (h0 : N[0]? = some (.live v 3 E)) (hE : E.length = u.length)
  (he : ∀ q, q < u.length → E[q]? = some [.v (.str (u.getD q dfPr).name), .v (.isl 2 ((u.getD q dfPr).vars.map eVr)), .sl (base + (1 + q)) (evsOf u q).length 0 (evsOf u q).length])
  (hn : ∀ q, q < u.length → N[1 + q]? = some (.live (evsOf u q).length 5 (vs ((evsOf u q).map eEv)))) : Dv base N (.sl base v 0 u.length) (.v (eT u)) := by
 unfold eT
 refine Dv.slR (i := 0) h0 oM (by rw [List.length_map]) (fun p r row h1 h2 => ?_)
 rw [Nat.zero_add] at h1
 have hpl : p < u.length := by
  have := (List.getElem?_eq_some_iff.1 h2).1
  rw [List.length_map] at this; exact this
 rw [he p hpl] at h1
 rw [List.getElem?_map, List.getElem?_eq_getElem hpl] at h2
 cases h1; cases h2
 rw [getD_lt dfPr _ hpl, evsOf_lt hpl]
 unfold ePr
 refine .cons (.v _) (.cons (.v _) (.cons ?_ .nil))
 have := hn p hpl
 rw [evsOf_lt hpl] at this
 exact Dv.slV (i := 1 + p) (rows := u[p].evs.map eEv) this (by rw [List.length_map])
theorem ap_evs {t : Tr} {p : Nat} {x : Ev} (h : p < t.length) : evsOf (apT t p x) p = evsOf t p ++ [x] := by unfold evsOf; rw [ap_getk h]; rfl
theorem ap_evo {t : Tr} {p q : Nat} {x : Ev} (h : q ≠ p) : evsOf (apT t p x) q = evsOf t q := by unfold evsOf; rw [ap_getp h]
theorem ap_nv {t : Tr} {p : Nat} {x : Ev} (h : p < t.length) (q : Nat) : ((apT t p x).getD q dfPr).vars = (t.getD q dfPr).vars ∧ ((apT t p x).getD q dfPr).name = (t.getD q dfPr).name := by
 by_cases hq : q = p
 ·subst hq; rw [ap_getk h]; exact ⟨rfl, rfl⟩
 ·rw [ap_getp hq]; exact ⟨rfl, rfl⟩
theorem mem_apT {t : Tr} {p : Nat} {e : Ev} (h : p < t.length) {x : Pr} (hx : x ∈ apT t p e) : ∃ y ∈ t, x.vars = y.vars ∧ x.name = y.name ∧ (x.evs = y.evs ∨ x.evs = y.evs ++ [e]) := by
 unfold apT at hx
 rcases List.mem_or_eq_of_mem_set hx with hx | rfl
 ·exact ⟨x, hx, rfl, rfl, .inl rfl⟩
 ·exact ⟨t.getD p dfPr, by rw [getD_lt dfPr t h]; exact List.getElem_mem h, rfl, rfl, .inr rfl⟩
theorem ap_sm {t : Tr} {p : Nat} {x : Ev} (h : p < t.length) (hS : Small t) (hx : x.asg.length ≤ 1000000) : Sm (apT t p x) := by
 refine ⟨by rw [ap_len]; exact hS.np, fun y hy => ?_, fun y hy => ?_, fun y hy e he => ?_⟩
 ·obtain ⟨z, hz, e1, _⟩ := mem_apT h hy
  rw [e1]; exact hS.nv z hz
 ·obtain ⟨z, hz, _, _, e1 | e1⟩ := mem_apT h hy
  ·rw [e1]; exact Nat.le_trans (hS.ne z hz) (by decide)
  ·rw [e1, List.length_append]
   have := hS.ne z hz
   simp only [List.length_cons, List.length_nil]; omega
 ·obtain ⟨z, hz, _, _, e1 | e1⟩ := mem_apT h hy
  ·rw [e1] at he; exact hS.na z hz e he
  ·rw [e1] at he
   rcases List.mem_append.1 he with he | he
   ·exact hS.na z hz e he
   ·simp only [List.mem_singleton] at he; subst he; exact hx
theorem ap_nm {t : Tr} {p : Nat} {e : Ev} (h : p < t.length) (hN : Nm t) : Nm (apT t p e) := fun x hx => by
 obtain ⟨y, hy, e1, e2, _⟩ := mem_apT h hx
 rw [e1, e2]; exact hN y hy
noncomputable def apR (t : Tr) (p : Nat) (x : Ev) : AV := .tup [if (faultL (apT t p x)).2 = 0 then .agg [.v (eT (apT t p x))] else .agg [.v .zsl], .v (.int .i64 (faultL (apT t p x)).2)]
set_option maxRecDepth 20000 in
set_option maxHeartbeats 16000000 in
theorem append_spec (t : Tr) (hval : validL t = true) (hS : Small t) (hN : Nm t) (p : Nat) (hp : p < t.length) (x : Ev) (hx : x.asg.length ≤ 1000000) (b l : List Row) :
  ACalls Try.prog 19 [.agg [.v (eT t)], .v (.int .i64 p), .agg [.v (.int .i64 x.kind), .v (.int .i64 x.peer), .v (.int .i64 x.msg), .v (.int .i64 x.time), .v (.isl 2 (x.asg.map eAsg))]] b l (fun r b' l' => r = apR t p x ∧ b' = b ∧ l' = l) := by
 refine calls_kept a_tApp_ok rfl (by decide) ?_
 intro B g hB hR hE hA
 simp only [KArgs] at hA
 have hv := vok hval
 have hlo := hv.lo
 have hhi := hv.hi
 have eTe : eT t = .isl 3 (t.map ePr) := rfl
 have cV := fun b l => valid_spec t hS hN b l
 have cLe := fun b l => tLens_spec t hS b l
 have cFi := fun b l => first_live t hS b l
 have cAs := fun b l => cloneAsg_spec (x.asg.map eAsg) b l (by simp; omega)
 rw [hval] at cV
 rw [eTe] at cV cLe cFi
 have w1 : (t.length : Int) - 1 = ((t.length - 1 : Nat) : Int) := by omega
 have hin : inB (p : Int) 0 ((t.length - 1 : Nat) : Int) = true := by unfold inB; simp; omega
 have cI := fun b l => tinP_spec (p : Int) 0 ((t.length - 1 : Nat) : Int) b l
 rw [hin] at cI
 simp (disch := (first | decide | omega)) only [a_tApp, hA, eTe, setFrom, cellsOf, List.length_map, go_sem]
 refine ACalls.nxt (cV _ _) ?_
 simp (disch := (first | decide | omega)) only [hA, w1, List.length_map, setFrom, cellsOf, go_sem]
 refine ACalls.nxt (cI _ _) ?_
 simp (disch := (first | decide | omega)) only [hA, setFrom, cellsOf, go_sem]
 refine ACalls.nxt (cLe _ _) ?_
 simp (disch := (first | decide | omega)) only [hA, setFrom, cellsOf, go_sem]
 refine ACalls.nxt (cFi _ _) ?_
 have hpk : prA t p = t[p] := getD_lt dfPr t hp
 obtain ⟨C, hC⟩ : ∃ C, cpR t (B.length + 3) = C := ⟨_, rfl⟩
 have hCl : C.length = t.length + 1 := by rw [← hC]; simp [cpR, fl_len]
 obtain ⟨EL, hEL⟩ : ∃ EL, fl t.length (cpC t (B.length + 3) 1) = EL := ⟨_, rfl⟩
 have hELl : EL.length = t.length := by rw [← hEL, fl_len]
 obtain ⟨ys, hys⟩ : ∃ ys, t[p].evs = ys := ⟨_, rfl⟩
 have hne := hS.ne t[p] (List.getElem_mem hp)
 rw [hys] at hne
 have c3 : ∀ a b c R, (a :: b :: c :: (C ++ R))[3]? = some (.live t.length 3 EL) := fun a b c R => by rw [← hC, ← hEL]; rfl
 have c3' : ∀ a b c, (a :: b :: c :: C)[3]? = some (.live t.length 3 EL) := fun a b c => by rw [← hC, ← hEL]; rfl
 have c4 : ∀ a b c R, (a :: b :: c :: (C ++ R))[4 + p]? = some (.live ys.length 5 (vs (ys.map eEv))) := fun a b c R => by
  rw [show 4 + p = (p + 1) + 1 + 1 + 1 by omega]
  simp only [List.getElem?_cons_succ]
  rw [List.getElem?_append_left oM, ← hC]
  show (fl t.length (cpE t))[p]? = _
  rw [fl_get hp]
  unfold cpE
  rw [hpk, hys]
 have hEp : EL[p]? = some [.v (.str t[p].name), .v (.isl 2 (t[p].vars.map eVr)), .sl (B.length + (4 + p)) ys.length 0 ys.length] := by
  rw [← hEL, fl_get hp]
  unfold cpC
  rw [hpk, hys, show B.length + 3 + (1 + p) = B.length + (4 + p) by omega]
 have hB3 : B.length + [Row.live 0 1 [[AV.v (.isl 3 (t.map ePr))]], Row.live 0 5 [[AV.v (.int .i64 x.kind), .v (.int .i64 x.peer), .v (.int .i64 x.msg), .v (.int .i64 x.time), .v (.isl 2 (x.asg.map eAsg))]], Row.live 0 1 [[AV.v .zsl]]].length = B.length + 3 := rfl
 rw [hB3, hC]
 simp (disch := (first | decide | omega)) only [hA, setFrom, cellsOf, go_sem]
 refine ACalls.nxt (cAs _ _) ?_
 have htk : List.take ys.length (ys.map eEv) = ys.map eEv := List.take_of_length_le (by simp)
 have st4 : ∀ (a b c : Row) (R : List Row) (Y : Row), (a :: b :: c :: (C ++ R)).set (4 + p) Y = a :: b :: c :: (C.set (1 + p) Y ++ R) := fun a b c R Y => by
  rw [show 4 + p = (1 + p) + 1 + 1 + 1 by omega]
  simp only [List.set_cons_succ]
  rw [List.set_append_left _ _ oM]
 have c3s : ∀ a b c Y R, (a :: b :: c :: (C.set (1 + p) Y ++ R))[3]? = some (.live t.length 3 EL) := fun a b c Y R => by
  simp only [List.getElem?_cons_succ]
  rw [List.getElem?_append_left (by rw [List.length_set]; omega), List.getElem?_set_ne oM, ← hC, ← hEL]; rfl
 have st3 : ∀ (a b c : Row) (Y : Row) (R : List Row) (Z : Row), (a :: b :: c :: (C.set (1 + p) Y ++ R)).set 3 Z = a :: b :: c :: ((C.set (1 + p) Y).set 0 Z ++ R) := fun a b c Y R Z => by
  simp only [List.set_cons_succ]
  rw [List.set_append_left _ _ (by rw [List.length_set]; omega)]
 simp (disch := (first | decide | omega)) only [hA, setFrom, cellsOf, c3, c3', c4, hEp, htk, st4, c3s, st3, app_at0, fillS, List.replicate_succ, List.replicate_zero, List.set_cons_zero, List.length_map, go_sem]
 obtain ⟨W, hW⟩ : ∃ W : List AV, W = [.v (.str t[p].name), .v (.isl 2 (t[p].vars.map eVr)), .sl (B.length + (4 + p)) (ys.length + 1) 0 (ys.length + 1)] := ⟨_, rfl⟩
 obtain ⟨Y, hY⟩ : ∃ Y : Row, Y = .live (ys.length + 1) 5 (vs (ys.map eEv ++ [[.int .i64 x.kind, .int .i64 x.peer, .int .i64 x.msg, .int .i64 x.time, .isl 2 (x.asg.map eAsg)]])) := ⟨_, rfl⟩
 obtain ⟨N, hNd⟩ : ∃ N, N = (C.set (1 + p) Y).set 0 (.live t.length 3 (EL.set p W)) := ⟨_, rfl⟩
 rw [← hW, ← hY, ← hNd]
 have hau : (apT t p x).length = t.length := ap_len
 have hdv : Dv (B.length + 3) N (.sl (B.length + 3) t.length 0 t.length) (.v (eT (apT t p x))) := by
  have := tr_dv (u := apT t p x) (base := B.length + 3) (v := t.length) (N := N) (E := EL.set p W) (by rw [hNd]; exact List.getElem?_set_self (by rw [List.length_set]; omega)) (by rw [List.length_set, hELl, hau]) (fun q hq => ?_) (fun q hq => ?_)
  ·rw [hau] at this; exact this
  ·rw [hau] at hq
   rw [(ap_nv hp q).1, (ap_nv hp q).2]
   by_cases hqp : q = p
   ·subst hqp
    rw [List.getElem?_set_self oM, ap_evs hp, hW, List.length_append, evsOf_lt hp, hys, getD_lt dfPr t hp, show B.length + 3 + (1 + q) = B.length + (4 + q) by omega]
    rfl
   ·rw [List.getElem?_set_ne (fun e => hqp e.symm), ap_evo hqp, ← hEL, fl_get hq]
    rfl
  ·rw [hau] at hq
   rw [hNd, List.getElem?_set_ne oM]
   by_cases hqp : q = p
   ·subst hqp
    rw [List.getElem?_set_self oM, ap_evs hp, hY, List.length_append, evsOf_lt hp, hys, List.map_append]
    rfl
   ·rw [List.getElem?_set_ne oM, ap_evo hqp, ← hC, show 1 + q = q + 1 by omega]
    show (fl t.length (cpE t))[q]? = _
    rw [fl_get hq]
    rfl
 refine ACalls.deepCell (l1 := [.live 0 1 [[.sl (B.length + 3) t.length 0 t.length]], .live 0 5 [[.v (.int .i64 x.kind), .v (.int .i64 x.peer), .v (.int .i64 x.msg), .v (.int .i64 x.time), .v (.isl 2 (x.asg.map eAsg))]], .live 0 1 [[.v .zsl]]]) (N := N) (i0 := 0) (args' := [.agg [.v (eT (apT t p x))]]) rfl (fun i y z hy hz => ?_) rfl hdv ?_
 ·cases i with
  | zero => simp at hy hz; subst hy; subst hz; exact Dv.aggL (.cons hdv .nil)
  | succ i => simp at hy
 have hcf := fun b l => fault_specS (apT t p x) (ap_sm hp hS hx) (ap_nm hp hN) b l
 unfold apR
 obtain ⟨⟨⟨fa, fc⟩, fe⟩, hff⟩ : ∃ z, faultL (apT t p x) = z := ⟨_, rfl⟩
 simp only [hff, idA] at hcf ⊢
 refine ACalls.nxt (hcf _ _) ?_
 have hml : (N.map deadR).length = N.length := List.length_map _
 have dD : ∀ R : List Row, (N.map deadR ++ R)[N.length + 1]? = R[1]? := fun R => by rw [← hml]; exact app_at
 have dS : ∀ (R : List Row) (z : Row), (N.map deadR ++ R).set (N.length + 1) z = N.map deadR ++ R.set 1 z := fun R z => by rw [← hml]; exact app_set
 by_cases h0 : fe = 0
 ·subst h0
  have hz : ((0 : Nat) : Int) = 0 := rfl
  have n0 : ((0 : Int) != 0) = false := rfl
  simp (disch := (first | decide | omega)) only [hA, hz, n0, dD, dS, setFrom, cellsOf, go_sem]
  exact leave_pure (xs := [.agg [.v (eT (apT t p x))], .v (.int .i64 0)]) (.inr rfl) (by simp (disch := (first | decide | omega)) only [resVs, resV, hA, go_sem]) kO hR hB ⟨rfl, rfl, rfl⟩
 ·have n0 : ((fe : Int) != 0) = true := by rw [bne_iff_ne]; omega
  simp (disch := (first | decide | omega)) only [hA, n0, dD, dS, setFrom, cellsOf, go_sem]
  exact leave_pure (xs := [.agg [.v .zsl], .v (.int .i64 fe)]) (.inr rfl) (by simp (disch := (first | decide | omega)) only [resVs, resV, hA, go_sem]) kO hR hB ⟨by simp only [one, if_neg h0], rfl, rfl⟩
end Go.Proofs.Ytanblnhnfkeffaa
namespace Go.Proofs.Ytanblnhnfkeffaa
set_option linter.unusedVariables false
set_option linter.unusedSimpArgs false
theorem cAt_set {cs : List Int} {p q : Nat} {c : Int} (hp : p < cs.length) : cAt (cs.set p c) q = if q = p then c else cAt cs q := by
 unfold cAt
 by_cases h : q = p
 ·subst h
  rw [if_pos rfl, List.getD_eq_getElem?_getD, List.getElem?_set_self hp]; rfl
 ·rw [if_neg h, List.getD_eq_getElem?_getD, List.getElem?_set_ne (fun e => h e.symm), ← List.getD_eq_getElem?_getD]
theorem Cutw.more {t : Tr} {cs : List Int} (h : Cutw t cs) {p : Nat} (hp : p < t.length) (hc : cAt cs p < (evsOf t p).length) : Cutw t (cs.set p (cAt cs p + 1)) := by
 refine ⟨h.v, by rw [List.length_set]; exact h.len, fun q hq => ?_⟩
 have hr := h.rng q hq
 rw [cAt_set (by rw [h.len]; exact hp)]
 by_cases hqp : q = p
 ·subst hqp; rw [if_pos rfl]; omega
 ·rw [if_neg hqp]; exact hr
theorem cw_ap {t : Tr} {cs : List Int} (h : Cutw t cs) {p : Nat} (hp : p < t.length) (hc : cAt cs p < (evsOf t p).length) : apT (firstL t cs) p ((evsOf t p).getD (cN cs p) dfEv) = firstL t (cs.set p (cAt cs p + 1)) := by
 have h' := h.more hp hc
 have hpc : p < cs.length := by rw [h.len]; exact hp
 have hr := h.rng p hp
 refine List.ext_getElem (by rw [ap_len, cw_len h, cw_len h']) (fun q h1 h2 => ?_)
 have hq1 : q < t.length := by have := h1; rw [ap_len, cw_len h] at this; exact this
 have hql : q < (apT (firstL t cs) p ((evsOf t p).getD (cN cs p) dfEv)).length := by rw [ap_len, cw_len h]; exact hq1
 rw [← getD_lt dfPr _ hql, cw_get h' hq1]
 have ha := cw_at h' hq1
 by_cases hqp : q = p
 ·subst hqp
  have e1 : (cs.set q (cAt cs q + 1))[q]'(by rw [h'.len]; exact hq1) = cAt cs q + 1 := by rw [ha, cAt_set hpc, if_pos rfl]
  rw [ap_getk (by rw [cw_len h]; exact hq1), getD_lt dfPr _ (by rw [cw_len h]; exact hq1), cw_get h hq1, cw_evs h hq1, e1]
  unfold cutP
  have e2 : (cAt cs q + 1).toNat = cN cs q + 1 := by unfold cN; omega
  have e3 : cN cs q < t[q].evs.length := by rw [evsOf_lt hq1] at hc; unfold cN; omega
  simp only
  rw [e2, evsOf_lt hq1, getD_lt dfEv _ e3, ← take_snoc e3]
 ·have e1 : (cs.set p (cAt cs p + 1))[q]'(by rw [h'.len]; exact hq1) = cs[q]'(by rw [h.len]; exact hq1) := by rw [List.getElem_set_ne (fun e => hqp e.symm)]
  rw [ap_getp hqp, getD_lt dfPr _ (by rw [cw_len h]; exact hq1), cw_get h hq1, e1]
theorem Cutt.w {t : Tr} {cs : List Int} (h : Cutt t cs) : Cutw t cs := ⟨h.v, h.len, h.rng⟩
section
variable {t : Tr} {cs : List Int} {p : Nat}
theorem set_ge {q : Nat} (hp : p < cs.length) : cAt cs q ≤ cAt (cs.set p (cAt cs p + 1)) q := by
 rw [cAt_set hp]
 split
 ·rename_i e; subst e; omega
 ·exact Int.le_refl _
theorem in_more (h : Cutw t cs) (hp : p < t.length) {x : Nat × Nat} (hx : (x.2 : Int) ≤ cAt (cs.set p (cAt cs p + 1)) x.1) (hne : x ≠ (p, cN cs p + 1)) : (x.2 : Int) ≤ cAt cs x.1 := by
 have hr := h.rng p hp
 rw [cAt_set (by rw [h.len]; exact hp)] at hx
 obtain ⟨q, i⟩ := x
 simp only at *
 split at hx
 ·rename_i e
  subst e
  by_cases hi : (i : Int) ≤ cAt cs q
  ·exact hi
  ·exfalso
   apply hne
   have : i = cN cs q + 1 := by unfold cN; omega
   rw [this]
 ·exact hx
theorem Cutt.more (h : Cutt t cs) (hp : p < t.length) (hc : cAt cs p < (evsOf t p).length) (hr : (evAt t (p, cN cs p + 1)).kind = 3 → ((sndr t (p, cN cs p + 1)).2 : Int) ≤ cAt cs (sndr t (p, cN cs p + 1)).1) : Cutt t (cs.set p (cAt cs p + 1)) := by
 have hw := h.w.more hp hc
 have hpc : p < cs.length := by rw [h.len]; exact hp
 refine ⟨h.v, hw.len, hw.rng, fun x hx hk hle => ?_⟩
 by_cases hne : x = (p, cN cs p + 1)
 ·rw [hne] at hk ⊢
  exact Int.le_trans (hr hk) (set_ge hpc)
 ·exact Int.le_trans (h.ok x hx hk (in_more h.w hp hle hne)) (set_ge hpc)
theorem Cutt.bad (h : Cutt t cs) (hp : p < t.length) (hc : cAt cs p < (evsOf t p).length) (hk : (evAt t (p, cN cs p + 1)).kind = 3) (hb : ¬ ((sndr t (p, cN cs p + 1)).2 : Int) ≤ cAt cs (sndr t (p, cN cs p + 1)).1) : Cutb t (cs.set p (cAt cs p + 1)) (p, cN cs p + 1) := by
 have hw := h.w.more hp hc
 have hpc : p < cs.length := by rw [h.len]; exact hp
 have hr := h.rng p hp
 have hx : (p, cN cs p + 1) ∈ ids t := mem_ids2.2 ⟨hp, by unfold cN; omega⟩
 have hn : ∀ q, cN (cs.set p (cAt cs p + 1)) q = (cAt (cs.set p (cAt cs p + 1)) q).toNat := fun _ => rfl
 obtain ⟨_, hne, _, _⟩ := sndr_peer h.v hx hk
 refine ⟨hw, (cw_mem2 hw).2 ⟨hx, ?_⟩, hk, fun hm => ?_, fun x hx2 hxne hk2 => ?_⟩
 ·simp only
  rw [hn, cAt_set hpc, if_pos rfl]
  unfold cN; omega
 ·have := ((cw_mem2 hw).1 hm).2
  rw [hn, cAt_set hpc, if_neg hne] at this
  have hs := h.rng (sndr t (p, cN cs p + 1)).1 (mem_ids.1 ((cw_mem2 hw).1 hm).1).1
  omega
 ·obtain ⟨g1, g2⟩ := (cw_mem2 hw).1 hx2
  have hxr := hw.rng x.1 (mem_ids.1 g1).1
  have hin := in_more h.w hp (x := x) (by rw [hn] at g2; omega) hxne
  have hok := h.ok x g1 hk2 hin
  have hge := set_ge (cs := cs) (p := p) (q := (sndr t x).1) hpc
  refine (cw_mem2 hw).2 ⟨(sndr_in h.v g1 hk2).1, ?_⟩
  rw [hn]; omega
end
end Go.Proofs.Ytanblnhnfkeffaa
namespace Go.Proofs.Ytanblnhnfkeffaa
set_option linter.unusedVariables false
set_option linter.unusedSimpArgs false
noncomputable def rdyB (t : Tr) (cs : List Int) (p : Nat) : Bool := !((evAt t (p, cN cs p + 1)).kind == 3) || decide (((sndr t (p, cN cs p + 1)).2 : Int) ≤ cAt cs (sndr t (p, cN cs p + 1)).1)
noncomputable def stepC (t : Tr) (cs : List Int) (p : Nat) : List Int := if rdyB t cs p = true then cs.set p (cAt cs p + 1) else cs
noncomputable def rT (t : Tr) (cs : List Int) : Nat → List Int
 | 0 => cs
 | k + 1 => if cAt (rT t cs k) k < ((evsOf t k).length : Int) then stepC t (rT t cs k) k else rT t cs k
def dnN (cs : List Int) : Nat → Nat
 | 0 => 0
 | n + 1 => dnN cs n + cN cs n
def totN (t : Tr) : Nat → Nat
 | 0 => 0
 | n + 1 => totN t n + (evsOf t n).length
theorem rdy_imp {t : Tr} {cs : List Int} {p : Nat} (h : rdyB t cs p = true) : (evAt t (p, cN cs p + 1)).kind = 3 → ((sndr t (p, cN cs p + 1)).2 : Int) ≤ cAt cs (sndr t (p, cN cs p + 1)).1 := by
 intro hk
 unfold rdyB at h
 rw [hk] at h
 simpa using h
theorem rdy_of {t : Tr} {cs : List Int} {p : Nat} (h : (evAt t (p, cN cs p + 1)).kind = 3 → ((sndr t (p, cN cs p + 1)).2 : Int) ≤ cAt cs (sndr t (p, cN cs p + 1)).1) : rdyB t cs p = true := by
 unfold rdyB
 cases hk : (evAt t (p, cN cs p + 1)).kind == 3 with
 | false => rfl
 | true => simpa using h (by simpa using hk)
theorem Cutt.step {t : Tr} {cs : List Int} {p : Nat} (h : Cutt t cs) (hp : p < t.length) (hc : cAt cs p < (evsOf t p).length) : Cutt t (stepC t cs p) := by
 unfold stepC
 split
 ·rename_i hr; exact h.more hp hc (rdy_imp hr)
 ·exact h
theorem stepC_ne {t : Tr} {cs : List Int} {p q : Nat} (hp : p < cs.length) (h : q ≠ p) : cAt (stepC t cs p) q = cAt cs q := by
 unfold stepC
 split
 ·rw [cAt_set hp, if_neg h]
 ·rfl
theorem stepC_ge {t : Tr} {cs : List Int} {p q : Nat} (hp : p < cs.length) : cAt cs q ≤ cAt (stepC t cs p) q := by
 unfold stepC
 split
 ·exact set_ge hp
 ·exact Int.le_refl _
theorem rT_cutt {t : Tr} {cs : List Int} (h : Cutt t cs) : ∀ k, k ≤ t.length → Cutt t (rT t cs k)
 | 0, _ => h
 | k + 1, hk => by
   have ih := rT_cutt h k oM
   unfold rT
   split
   ·rename_i hc; exact ih.step oM hc
   ·exact ih
theorem rT_later {t : Tr} {cs : List Int} (h : Cutt t cs) {q : Nat} : ∀ k, k ≤ t.length → k ≤ q → cAt (rT t cs k) q = cAt cs q
 | 0, _, _ => rfl
 | k + 1, hk, hq => by
   have ih := rT_later h (q := q) k oM oM
   have hl := (rT_cutt h k oM).len
   unfold rT
   split
   ·rw [stepC_ne (by rw [hl]; omega) oM]; exact ih
   ·exact ih
theorem rT_ge {t : Tr} {cs : List Int} (h : Cutt t cs) {q : Nat} : ∀ k, k ≤ t.length → cAt cs q ≤ cAt (rT t cs k) q
 | 0, _ => Int.le_refl _
 | k + 1, hk => by
   have ih := rT_ge h (q := q) k oM
   have hl := (rT_cutt h k oM).len
   unfold rT
   split
   ·exact Int.le_trans ih (stepC_ge (by rw [hl]; omega))
   ·exact ih
theorem rT_mono {t : Tr} {cs : List Int} (h : Cutt t cs) {q k : Nat} : ∀ j, k + j ≤ t.length → cAt (rT t cs k) q ≤ cAt (rT t cs (k + j)) q
 | 0, _ => Int.le_refl _
 | j + 1, hk => by
   have ih := rT_mono h (q := q) (k := k) j oM
   have hl := (rT_cutt h (k + j) oM).len
   have e : rT t cs (k + (j + 1)) = if cAt (rT t cs (k + j)) (k + j) < ((evsOf t (k + j)).length : Int) then stepC t (rT t cs (k + j)) (k + j) else rT t cs (k + j) := rfl
   rw [e]
   split
   ·exact Int.le_trans ih (stepC_ge (by rw [hl]; omega))
   ·exact ih
theorem dnN_mono {cs ds : List Int} (h : ∀ q, cAt cs q ≤ cAt ds q) : ∀ n, dnN cs n ≤ dnN ds n
 | 0 => Nat.le_refl _
 | n + 1 => by
   have ih := dnN_mono h n
   have := h n
   unfold dnN cN; omega
theorem dnN_lt {cs ds : List Int} (h : ∀ q, cAt cs q ≤ cAt ds q) {p : Nat} (h0 : 0 ≤ cAt cs p) (hp : cAt cs p < cAt ds p) : ∀ n, p < n → dnN cs n < dnN ds n
 | 0, h => by omega
 | n + 1, hn => by
   have h2 := h n
   by_cases hpn : p = n
   ·subst hpn
    have := dnN_mono h p
    unfold dnN cN; omega
   ·have ih := dnN_lt h h0 hp n oM
    unfold dnN cN; omega
theorem dnN_le {t : Tr} {cs : List Int} (h : Cutt t cs) : ∀ n, n ≤ t.length → dnN cs n ≤ totN t n
 | 0, _ => Nat.le_refl _
 | n + 1, hn => by
   have ih := dnN_le h n oM
   have := h.rng n oM
   unfold dnN totN cN; omega
def leftB (t : Tr) (cs : List Int) : Nat → Bool
 | 0 => false
 | k + 1 => if cAt cs k < ((evsOf t k).length : Int) then true else leftB t cs k
theorem left_some {t : Tr} {cs : List Int} : ∀ {k}, leftB t cs k = true → ∃ p, p < k ∧ cAt cs p < ((evsOf t p).length : Int)
 | 0, h => by unfold leftB at h; cases h
 | k + 1, h => by
   unfold leftB at h
   split at h
   ·rename_i hc; exact ⟨k, by omega, hc⟩
   ·obtain ⟨p, h1, h2⟩ := left_some h
    exact ⟨p, by omega, h2⟩
theorem left_none {t : Tr} {cs : List Int} : ∀ {k}, leftB t cs k = false → ∀ p, p < k → ¬ cAt cs p < ((evsOf t p).length : Int)
 | 0, _, p, hp => by omega
 | k + 1, h, p, hp => by
   unfold leftB at h
   split at h
   ·cases h
   ·rename_i hc
    by_cases hpk : p = k
    ·subst hpk; exact hc
    ·exact left_none h p oM
theorem rT_none {t : Tr} {cs : List Int} : ∀ {k}, leftB t cs k = false → rT t cs k = cs
 | 0, _ => rfl
 | k + 1, h => by
   unfold leftB at h
   split at h
   ·cases h
   ·rename_i hc
    have ih := rT_none h
    rw [rT, ih, if_neg hc]
theorem rT_more {t : Tr} {cs : List Int} (h : Cutt t cs) (hl : leftB t cs t.length = true) : dnN cs t.length + 1 ≤ dnN (rT t cs t.length) t.length := by
 have hD : ∀ p, p < t.length → cN cs p ≤ (evsOf t p).length := fun p hp => by have := h.rng p hp; unfold cN; omega
 obtain ⟨p0, hp0, hc0⟩ := left_some hl
 obtain ⟨p, hp, hc, hr⟩ := some_ready h.v (cN cs) hD ⟨p0, hp0, by have := h.rng p0 hp0; unfold cN; omega⟩
 have hp2 := h.rng p hp
 refine dnN_lt (fun q => rT_ge h t.length (Nat.le_refl _)) (p := p) hp2.1 ?_ t.length hp
 have hs := rT_cutt h p oM
 have he := rT_later h (q := p) p oM (Nat.le_refl _)
 have hen : cN (rT t cs p) p = cN cs p := by unfold cN; rw [he]
 have hrd : rdyB t (rT t cs p) p = true := rdy_of (by
  rw [hen]
  intro hk
  have h1 := hr hk
  have h2 := rT_ge h (q := (sndr t (p, cN cs p + 1)).1) p oM
  have hx : (p, cN cs p + 1) ∈ ids t := mem_ids2.2 ⟨hp, hc⟩
  have h3 := h.rng (sndr t (p, cN cs p + 1)).1 (mem_ids.1 (sndr_in h.v hx hk).1).1
  unfold cN at h1 h2 ⊢
  unfold cN at h3
  omega)
 have h1 : cAt (rT t cs (p + 1)) p = cAt cs p + 1 := by
  rw [rT, if_pos (by rw [he]; unfold cN at hc; omega), stepC, if_pos hrd, cAt_set (by rw [hs.len]; exact hp), if_pos rfl, he]
 have h2 := rT_mono h (q := p) (k := p + 1) (t.length - (p + 1)) oM
 rw [show p + 1 + (t.length - (p + 1)) = t.length by omega] at h2
 omega
theorem built_all {t : Tr} {cs : List Int} (h : Cutt t cs) (hl : leftB t cs t.length = false) : firstL t cs = t := by
 refine List.ext_getElem (cu_len h) (fun q h1 h2 => ?_)
 have hr := h.rng q h2
 have hn := left_none hl q h2
 rw [cu_get h h2, cu_at h h2]
 unfold cutP
 rw [List.take_of_length_le (by rw [← evsOf_lt h2]; omega)]
theorem tot_w {t : Tr} : ∀ n, n ≤ t.length → totN t n = wSum t n
 | 0, _ => by simp [totN, wSum]
 | n + 1, hn => by rw [wSum_succ oM, totN, tot_w n oM, evsOf_lt oM]
theorem few_tot {t : Tr} (h : fewB t = true) : totN t t.length ≤ 120 := by
 cases hn : t.length with
 | zero => simp [totN]
 | succ n =>
   rw [← hn, tot_w _ (Nat.le_refl _), hn]
   unfold fewB at h
   simp only [Bool.and_eq_true, decide_eq_true_eq, List.all_eq_true, List.mem_range, Bool.not_eq_true'] at h
   have hb := h.2 n oM
   unfold badAt at hb
   rw [List.getElem?_eq_getElem oM] at hb
   simp only [Bool.or_eq_false_iff, decide_eq_false_iff_not] at hb
   omega
end Go.Proofs.Ytanblnhnfkeffaa
