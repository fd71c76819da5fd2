/- Texts of one proof, laid together: YJ. No condition. -/
import Derived.Test.YtanblnhnfkeffaaD321
import Derived.Test.YtanblnhnfkeffaaD316
import Derived.Test.YtanblnhnfkeffaaD39
namespace Go.Proofs.Ytanblnhnfkeffaa
set_option linter.unusedVariables false
def Pot (es : List Dm) (T : Nat → Int) : Prop := ∀ a c w, (a, c, w) ∈ es → T c - T a ≤ w
theorem Pot.wk {es : List Dm} {T : Nat → Int} (h : Pot es T) {i j : Nat} {s : Int} (w : Wk es i j s) : T j - T i ≤ s := by
 induction w with
 | nil => omega
 | snoc _ he ih => have := h _ _ _ he; omega
theorem Pot.noneg {es : List Dm} {T : Nat → Int} (h : Pot es T) : NoNeg es := fun u s w => by have := h.wk w; omega
section
variable {t : Tr} {bn : Bn} (h : Bok t bn)
include h
omit h in
theorem es_pot {T : Nat → Int} (hT : ∀ x, x ∈ ids t → T (numN t x + 1) - T 0 ≤ hiA t bn x ∧ T 0 - T (numN t x + 1) ≤ 0 - loA t bn x ∧ (1 < x.2 → T (numN t x) - T (numN t x + 1) ≤ 0) ∧
  ((evAt t x).kind = 3 → T (numN t x + 1) - T (numN t (sndr t x) + 1) ≤ bn.hi ∧ T (numN t (sndr t x) + 1) - T (numN t x + 1) ≤ 0 - bn.lo)) : Pot (esT t bn) T := by
 intro a c w hd
 obtain ⟨x, hx, hd⟩ := List.mem_flatMap.1 hd
 obtain ⟨h1, h2, h3, h4⟩ := hT x hx
 unfold evE at hd
 simp only [List.mem_append, List.mem_cons, List.not_mem_nil, or_false] at hd
 rcases hd with ((hd | hd) | hd) | hd
 ·cases hd; exact h1
 ·cases hd; exact h2
 ·split at hd
  ·rename_i hc
   simp only [List.mem_cons, List.not_mem_nil, or_false] at hd
   cases hd; exact h3 hc
  ·simp at hd
 ·split at hd
  ·rename_i hc
   simp only [List.mem_cons, List.not_mem_nil, or_false] at hd
   rcases hd with hd | hd
   ·cases hd; exact (h4 hc).1
   ·cases hd; exact (h4 hc).2
  ·simp at hd
omit h in
theorem es_has {x : Nat × Nat} (hx : x ∈ ids t) : (0, numN t x + 1, hiA t bn x) ∈ esT t bn ∧ (numN t x + 1, 0, 0 - loA t bn x) ∈ esT t bn ∧ (1 < x.2 → (numN t x + 1, numN t x, 0) ∈ esT t bn) ∧
  ((evAt t x).kind = 3 → (numN t (sndr t x) + 1, numN t x + 1, bn.hi) ∈ esT t bn ∧ (numN t x + 1, numN t (sndr t x) + 1, 0 - bn.lo) ∈ esT t bn) := by
 have key : ∀ d, d ∈ evE t bn x → d ∈ esT t bn := fun d hd => List.mem_flatMap.2 ⟨x, hx, hd⟩
 refine ⟨key _ (by unfold evE; simp), key _ (by unfold evE; simp), fun hc => key _ (by unfold evE; simp [hc]), fun hc => ⟨key _ (by unfold evE; simp [hc]), key _ (by unfold evE; simp [hc])⟩⟩
theorem Bok.tri (hk : okB t bn = true) {i j k : Nat} (hi : i < (ids t).length + 1) (hj : j < (ids t).length + 1) (hk' : k < (ids t).length + 1) : dM t bn i k ≤ dM t bn i j + dM t bn j k := by
 have hn := h.ok_iff.1 hk
 have w1 := (fw_least h.sys (by decide) h.ini hn hi hj).1
 have w2 := (fw_least h.sys (by decide) h.ini hn hj hk').1
 exact (fw_least h.sys (by decide) h.ini hn hi hk').2.1 _ (w1.trans w2)
theorem Bok.edge (hk : okB t bn = true) {i j : Nat} {w : Int} (he : (i, j, w) ∈ esT t bn) : dM t bn i j ≤ w := by
 have hn := h.ok_iff.1 hk
 have := h.sys.e0 he
 exact (fw_least h.sys (by decide) h.ini hn this.1 this.2.1).2.1 _ (Wk.one he)
theorem Bok.diag (hk : okB t bn = true) {i : Nat} (hi : i < (ids t).length + 1) : dM t bn i i = 0 := by
 have hn := h.ok_iff.1 hk
 have h1 := fw_least h.sys (by decide) h.ini hn hi hi
 have h2 := hn _ _ h1.1
 have h3 := h1.2.1 _ (Wk.nil _)
 unfold dM
 omega
theorem Bok.pot_le (hk : okB t bn = true) {T : Nat → Int} (hT : Pot (esT t bn) T) {i j : Nat} (hi : i < (ids t).length + 1) (hj : j < (ids t).length + 1) : T j - T i ≤ dM t bn i j :=
 hT.wk (fw_least h.sys (by decide) h.ini (h.ok_iff.1 hk) hi hj).1
def asT (t : Tr) (m : List (List Int)) (v : Nat) : Int := if v = 0 then 0 else tmA m ((ids t).getD (v - 1) (0, 0)).1 (((ids t).getD (v - 1) (0, 0)).2 - 1)
omit h in
theorem asT_num {m : List (List Int)} {p i : Nat} (hx : (p, i + 1) ∈ ids t) : asT t m (numN t (p, i + 1) + 1) = tmA m p i := by
 obtain ⟨h1, h2⟩ := numN_at hx
 unfold asT
 rw [if_neg oM]
 simp only [Nat.add_sub_cancel]
 rw [List.getD_eq_getElem?_getD, List.getElem?_eq_getElem h1, h2]
 rfl
omit h in
theorem asT_z {m : List (List Int)} : asT t m 0 = 0 := by unfold asT; rw [if_pos rfl]
omit h in
theorem num_prev {p i : Nat} : numN t (p, i + 2) = numN t (p, i + 1) + 1 := by unfold numN; show evN t p + (i + 1) = evN t p + i + 1; omega
omit h in
theorem prv_in19 {p i : Nat} (hx : (p, i + 2) ∈ ids t) : (p, i + 1) ∈ ids t := by
 obtain ⟨h1, h2⟩ := mem_ids2.1 hx
 exact mem_ids2.2 ⟨h1, by omega⟩
theorem Bok.asg_pot {m : List (List Int)} (ha : Asg' t bn m) : Pot (esT t bn) (asT t m) := by
 refine es_pot (fun x hx => ?_)
 obtain ⟨p, i⟩ := x
 obtain ⟨i, rfl⟩ : ∃ j, i = j + 1 := ⟨i - 1, by have := (mem_ids.1 hx); omega⟩
 have hA := ha.2 p i hx
 rw [asT_num hx, asT_z]
 refine ⟨by have := hA.1.2; omega, by have := hA.1.1; omega, fun hc => ?_, fun hc => ?_⟩
 ·obtain ⟨i, rfl⟩ : ∃ j, i = j + 1 := ⟨i - 1, by simp only at hc; omega⟩
  rw [num_prev, asT_num (prv_in19 hx)]
  have := hA.2.1 oM
  simp only [Nat.add_sub_cancel] at this
  omega
 ·have hs := (sndr_in h.v hx hc).1
  have hA3 := hA.2.2 hc
  obtain ⟨q, j, hqj⟩ : ∃ q j, sndr t (p, i + 1) = (q, j + 1) := by
   obtain ⟨h1, h2⟩ := mem_ids.1 hs
   exact ⟨(sndr t (p, i + 1)).1, (sndr t (p, i + 1)).2 - 1, Prod.ext rfl (by simp only; omega)⟩
  rw [hqj] at hs hA3 ⊢
  rw [asT_num hs]
  simp only [Nat.add_sub_cancel] at hA3
  omega
theorem Bok.asg_ok {m : List (List Int)} (ha : Asg' t bn m) : okB t bn = true := h.ok_iff.2 (h.asg_pot ha).noneg
theorem Bok.pot_asg {m : List (List Int)} {T : Nat → Int} (hs : shpOk t m) (hT : Pot (esT t bn) T) (h0 : T 0 = 0) (hm : ∀ p i, (p, i + 1) ∈ ids t → tmA m p i = T (numN t (p, i + 1) + 1)) : Asg' t bn m := by
 refine ⟨hs, fun p i hx => ?_⟩
 obtain ⟨e1, e2, e3, e4⟩ := es_has (bn := bn) hx
 have e1 := hT _ _ _ e1
 have e2 := hT _ _ _ e2
 rw [h0] at e1 e2
 refine ⟨⟨by rw [hm p i hx]; omega, by rw [hm p i hx]; omega⟩, fun hi => ?_, fun hc => ?_⟩
 ·obtain ⟨i, rfl⟩ : ∃ j, i = j + 1 := ⟨i - 1, by omega⟩
  have e3 := hT _ _ _ (e3 (by simp))
  rw [hm p _ hx, Nat.add_sub_cancel, hm p i (prv_in19 hx)]
  rw [num_prev] at e3 ⊢
  omega
 ·have hs := (sndr_in h.v hx hc).1
  have e5 := hT _ _ _ (e4 hc).1
  have e6 := hT _ _ _ (e4 hc).2
  obtain ⟨q, j, hqj⟩ : ∃ q j, sndr t (p, i + 1) = (q, j + 1) := by
   obtain ⟨h1, h2⟩ := mem_ids.1 hs
   exact ⟨(sndr t (p, i + 1)).1, (sndr t (p, i + 1)).2 - 1, Prod.ext rfl (by simp only; omega)⟩
  rw [hqj] at hs e5 e6 ⊢
  rw [hm p i hx]
  simp only [Nat.add_sub_cancel]
  rw [hm q j hs]
  omega
omit h in
theorem en_shape {w : Nat} : shpOk t (enAll t bn w t.length) := by
 refine ⟨fl_len, fun p hp => ?_⟩
 rw [List.getD_eq_getElem?_getD, show (enAll t bn w t.length)[p]? = some (enRow t bn w p (evsOf t p).length) from fl_get hp]
 exact fl_len
omit h in
theorem en_tm {w p i : Nat} (hx : (p, i + 1) ∈ ids t) : tmA (enAll t bn w t.length) p i = enF t bn w (numN t (p, i + 1)) := by
 obtain ⟨h1, h2⟩ := mem_ids2.1 hx
 unfold tmA
 rw [List.getD_eq_getElem?_getD (l := enAll t bn w t.length), show (enAll t bn w t.length)[p]? = some (enRow t bn w p (evsOf t p).length) from fl_get h1]
 show (enRow t bn w p (evsOf t p).length).getD i 0 = _
 rw [List.getD_eq_getElem?_getD, show (enRow t bn w p (evsOf t p).length)[i]? = some (enF t bn w (evN t p + i)) from fl_get h2]
 rfl
theorem Bok.lo_pot (hk : okB t bn = true) : Pot (esT t bn) (fun v => -dM t bn v 0) := fun a c w he => by
 have h0 := h.sys.e0 he
 have h1 := h.tri hk h0.1 h0.2.1 (k := 0) oM
 have h2 := h.edge hk he
 simp only
 omega
theorem Bok.hi_pot (hk : okB t bn = true) : Pot (esT t bn) (fun v => dM t bn 0 v) := fun a c w he => by
 have h0 := h.sys.e0 he
 have h1 := h.tri hk (i := 0) oM h0.1 h0.2.1
 have h2 := h.edge hk he
 simp only
 omega
theorem Bok.en_asg (hk : okB t bn = true) {w : Nat} : asgB t bn (enAll t bn w t.length) = true := by
 refine asg_yes ?_
 by_cases hw : w = 0
 ·refine h.pot_asg en_shape (h.lo_pot hk) (by simp only [h.diag hk (i := 0) oM]; rfl) (fun p i hx => ?_)
  rw [en_tm hx]
  unfold enF loN
  rw [if_pos hw, phN_num hx]
 ·refine h.pot_asg en_shape (h.hi_pot hk) (h.diag hk (i := 0) oM) (fun p i hx => ?_)
  rw [en_tm hx]
  unfold enF hiN
  rw [if_neg hw, phN_num hx]
theorem Bok.tight_own (hk : okB t bn = true) {p i : Nat} (hx : (p, i + 1) ∈ ids t) : loA t bn (p, i + 1) ≤ loN t bn (evN t p + i) ∧ hiN t bn (evN t p + i) ≤ hiA t bn (p, i + 1) ∧ loN t bn (evN t p + i) ≤ hiN t bn (evN t p + i) := by
 obtain ⟨e1, e2, _, _⟩ := es_has (bn := bn) hx
 have hn := h.num hx
 have e1 := h.edge hk e1
 have e2 := h.edge hk e2
 have e3 := h.tri hk (i := 0) (j := numN t (p, i + 1) + 1) (k := 0) oM oM oM
 rw [h.diag hk oM] at e3
 have e4 := phN_num hx
 have e5 : evN t p + i = numN t (p, i + 1) := rfl
 unfold loN hiN
 rw [e5, e4]
 omega
theorem Bok.asg_in (hk : okB t bn = true) {m : List (List Int)} (ha : asgB t bn m = true) {p i : Nat} (hx : (p, i + 1) ∈ ids t) : loN t bn (evN t p + i) ≤ tmA m p i ∧ tmA m p i ≤ hiN t bn (evN t p + i) := by
 have hA : Asg' t bn m := by unfold asgB at ha; simpa using ha
 have hn := h.num hx
 have hT := h.asg_pot hA
 have e1 := h.pot_le hk hT (i := 0) (j := numN t (p, i + 1) + 1) oM oM
 have e2 := h.pot_le hk hT (i := numN t (p, i + 1) + 1) (j := 0) oM oM
 rw [asT_num hx, asT_z] at e1 e2
 have e4 := phN_num hx
 have e5 : evN t p + i = numN t (p, i + 1) := rfl
 unfold loN hiN
 rw [e5, e4]
 omega
theorem Bok.asg_none (hk : okB t bn = false) (m : List (List Int)) : asgB t bn m = false :=
 asg_no (fun ha => by rw [h.asg_ok ha] at hk; cases hk)
theorem Bok.cer_trans (hk : okB t bn = true) {x y z : Nat × Nat} (hx : x ∈ ids t) (hy : y ∈ ids t) (hz : z ∈ ids t) (h1 : cerB t bn x y = true) (h2 : cerB t bn y z = true) : cerB t bn x z = true := by
 have a := h.num hx
 have b := h.num hy
 have c := h.num hz
 unfold cerB at *
 have h1 := of_decide_eq_true h1
 have h2 := of_decide_eq_true h2
 have := h.tri hk (i := numN t z + 1) (j := numN t y + 1) (k := numN t x + 1) oM oM oM
 exact decide_eq_true oM
theorem Bok.cer_anti (hk : okB t bn = true) {x y : Nat × Nat} (hx : x ∈ ids t) (hy : y ∈ ids t) (h1 : cerB t bn x y = true) : cerB t bn y x = false ∧ x ≠ y := by
 have a := h.num hx
 have b := h.num hy
 unfold cerB at *
 have h1 := of_decide_eq_true h1
 have := h.tri hk (i := numN t y + 1) (j := numN t x + 1) (k := numN t y + 1) oM oM oM
 rw [h.diag hk oM] at this
 refine ⟨decide_eq_false oM, fun e => ?_⟩
 subst e
 rw [h.diag hk oM] at h1
 omega
theorem Bok.hb_le (hk : okB t bn = true) {x : Nat × Nat} (hx : x ∈ ids t) {y : Nat × Nat} (hb : Hb t x y) : y ∈ ids t ∧ dM t bn (numN t y + 1) (numN t x + 1) ≤ 0 ∧ (x.1 ≠ y.1 → dM t bn (numN t y + 1) (numN t x + 1) ≤ 0 - bn.lo) := by
 have hlo := h.lo
 have dir : ∀ {a c : Nat × Nat}, a ∈ ids t → Dir t a c → c ∈ ids t → dM t bn (numN t c + 1) (numN t a + 1) ≤ 0 ∧ (a.1 ≠ c.1 → dM t bn (numN t c + 1) (numN t a + 1) ≤ 0 - bn.lo) := by
  intro a c ha hd hc
  have hm : a ∈ backL t c := (mem_backL h.v.paired hc).2 ⟨ha, hd⟩
  obtain ⟨_, _, e3, e4⟩ := es_has (bn := bn) hc
  rcases backL_cases hm with ⟨h1, rfl⟩ | ⟨h1, rfl⟩
  ·have e3 := h.edge hk (e3 h1)
   have : numN t c = numN t (c.1, c.2 - 1) + 1 := by unfold numN; simp only; omega
   rw [this] at e3 ⊢
   exact ⟨e3, fun hne => absurd rfl hne⟩
  ·have e4 := h.edge hk (e4 h1).2
   exact ⟨by omega, fun _ => e4⟩
 induction hb with
 | one hd =>
   have hy := Hb.mem hx (.one hd)
   exact ⟨hy, dir hx hd hy⟩
 | @more y z hb hd ih =>
   obtain ⟨hy, i1, i2⟩ := ih
   have hz := Hb.mem hx (.more hb hd)
   obtain ⟨d1, d2⟩ := dir hy hd hz
   have a := h.num hx
   have b := h.num hy
   have c := h.num hz
   have := h.tri hk (i := numN t z + 1) (j := numN t y + 1) (k := numN t x + 1) oM oM oM
   refine ⟨hz, by omega, fun hne => ?_⟩
   by_cases hxy : x.1 = y.1
   ·have := d2 (by rw [← hxy]; exact hne)
    omega
   ·have := i2 hxy
    omega
theorem Bok.cer_hb (hk : okB t bn = true) {x y : Nat × Nat} (hx : x ∈ ids t) (hb : Hb t x y) : cerB t bn y x = false ∧ (0 < bn.lo → x.1 ≠ y.1 → cerB t bn x y = true) := by
 obtain ⟨hy, h1, h2⟩ := h.hb_le hk hx hb
 have a := h.num hx
 have b := h.num hy
 have := h.tri hk (i := numN t y + 1) (j := numN t x + 1) (k := numN t y + 1) oM oM oM
 rw [h.diag hk oM] at this
 unfold cerB
 exact ⟨decide_eq_false oM, fun h3 h4 => decide_eq_true (by have := h2 h4; omega)⟩
theorem Bok.cer_asg (hk : okB t bn = true) {m : List (List Int)} (ha : asgB t bn m = true) {p i q j : Nat} (hx : (p, i + 1) ∈ ids t) (hy : (q, j + 1) ∈ ids t) (hc : cerB t bn (p, i + 1) (q, j + 1) = true) : tmA m p i < tmA m q j := by
 have hA : Asg' t bn m := by unfold asgB at ha; simpa using ha
 have a := h.num hx
 have b := h.num hy
 unfold cerB at hc
 have hc := of_decide_eq_true hc
 have := h.pot_le hk (h.asg_pot hA) (i := numN t (q, j + 1) + 1) (j := numN t (p, i + 1) + 1) oM oM
 rw [asT_num hx, asT_num hy] at this
 omega
end
end Go.Proofs.Ytanblnhnfkeffaa
