/- Texts of one proof, laid together: YK, DG. No condition. -/
import Derived.Test.YtanblnhnfkeffaaD326
import Derived.Test.YtanblnhnfkeffaaD37
namespace Go.Proofs.Ytanblnhnfkeffaa
set_option linter.unusedVariables false
structure Wdr (t : Tr) (bn wd : Bn) : Prop where
 b : Bok t bn
 w : Bok t wd
 lo : wd.lo ≤ bn.lo
 hi : bn.hi ≤ wd.hi
 er : ∀ p, p < t.length → erB bn p ≤ erB wd p
section
variable {t : Tr} {bn wd : Bn} (h : Wdr t bn wd)
include h
theorem Wdr.edge {i j : Nat} {w : Int} (he : (i, j, w) ∈ esT t wd) : ∃ s, s ≤ w ∧ (i, j, s) ∈ esT t bn := by
 obtain ⟨x, hx, hd⟩ := List.mem_flatMap.1 he
 obtain ⟨e1, e2, e3, e4⟩ := es_has (bn := bn) hx
 have her := h.er x.1 (mem_ids.1 hx).1
 have hlo := h.lo
 have hhi := h.hi
 unfold evE at hd
 simp only [List.mem_append, List.mem_cons, List.not_mem_nil, or_false] at hd
 rcases hd with ((hd | hd) | hd) | hd
 ·cases hd; exact ⟨_, by unfold hiA; omega, e1⟩
 ·cases hd; exact ⟨_, by unfold loA; omega, e2⟩
 ·split at hd
  ·rename_i hc
   simp only [List.mem_cons, List.not_mem_nil, or_false] at hd
   cases hd; exact ⟨_, by omega, e3 hc⟩
  ·simp at hd
 ·split at hd
  ·rename_i hc
   simp only [List.mem_cons, List.not_mem_nil, or_false] at hd
   rcases hd with hd | hd
   ·cases hd; exact ⟨_, by omega, (e4 hc).1⟩
   ·cases hd; exact ⟨_, by omega, (e4 hc).2⟩
  ·simp at hd
theorem Wdr.wk {i j : Nat} {w : Int} (hw : Wk (esT t wd) i j w) : ∃ s, s ≤ w ∧ Wk (esT t bn) i j s := by
 induction hw with
 | nil => exact ⟨0, by omega, .nil _⟩
 | snoc _ he ih =>
   obtain ⟨s, hs, w1⟩ := ih
   obtain ⟨r, hr, e1⟩ := h.edge he
   exact ⟨s + r, by omega, w1.snoc e1⟩
theorem Wdr.ok (hk : okB t bn = true) : okB t wd = true :=
 h.w.ok_iff.2 (fun u s w => by
  obtain ⟨r, hr, w1⟩ := h.wk w
  have := h.b.ok_iff.1 hk _ _ w1
  omega)
theorem Wdr.le (hk : okB t bn = true) {i j : Nat} (hi : i < (ids t).length + 1) (hj : j < (ids t).length + 1) : dM t bn i j ≤ dM t wd i j := by
 have h1 := (fw_least h.w.sys (by decide) h.w.ini (h.w.ok_iff.1 (h.ok hk)) hi hj).1
 obtain ⟨r, hr, w1⟩ := h.wk h1
 have h2 := (fw_least h.b.sys (by decide) h.b.ini (h.b.ok_iff.1 hk) hi hj).2.1 _ w1
 unfold dM
 omega
theorem Wdr.ends (hk : okB t bn = true) {p i : Nat} (hx : (p, i + 1) ∈ ids t) : loN t wd (evN t p + i) ≤ loN t bn (evN t p + i) ∧ hiN t bn (evN t p + i) ≤ hiN t wd (evN t p + i) := by
 have hn := h.b.num hx
 have e1 := h.le hk (i := 0) (j := numN t (p, i + 1) + 1) oM oM
 have e2 := h.le hk (i := numN t (p, i + 1) + 1) (j := 0) oM oM
 have e4 := phN_num hx
 have e5 : evN t p + i = numN t (p, i + 1) := rfl
 unfold loN hiN
 rw [e5, e4]
 omega
theorem Wdr.cer (hk : okB t bn = true) {x y : Nat × Nat} (hx : x ∈ ids t) (hy : y ∈ ids t) (hc : cerB t wd x y = true) : cerB t bn x y = true := by
 have a := h.b.num hx
 have b := h.b.num hy
 unfold cerB at *
 have hc := of_decide_eq_true hc
 have := h.le hk (i := numN t y + 1) (j := numN t x + 1) oM oM
 exact decide_eq_true oM
end
end Go.Proofs.Ytanblnhnfkeffaa
namespace Go.Proofs.Ytanblnhnfkeffaa
set_option linter.unusedVariables false
set_option linter.unusedSimpArgs false
theorem ACalls.deepCellG {P : Program} {f : Nat} {args args' : List AV} {b l1 N l2 : List Row} {i0 ver0 z0 k0 j0 id1 ver1 off1 len1 : Nat} {els0 : List (List AV)} {row0 : List AV} {y0 : IV} {Q : AV → List Row → List Row → Prop} (hl : args.length = args'.length)
  (hd : ∀ (i : Nat) (x y : AV), args[i]? = some x → args'[i]? = some y → Dv (b.length + l1.length) N x y) (hi0 : l1[i0]? = some (.live ver0 z0 els0)) (hk0 : els0[k0]? = some row0) (hj0 : row0[j0]? = some (.sl id1 ver1 off1 len1)) (hd0 : Dv (b.length + l1.length) N (.sl id1 ver1 off1 len1) (.v y0)) (h : ACalls P f args' b (l1.set i0 (.live ver0 z0 (els0.set k0 (row0.set j0 (.v y0)))) ++ (N.map deadR ++ l2)) Q) : ACalls P f args b (l1 ++ (N ++ l2)) Q := by
 refine ⟨h.1, fun F L w us s hr => ?_⟩
 obtain ⟨n, hn⟩ : ∃ n, n = b.length + l1.length := ⟨_, rfl⟩
 rw [← hn] at hd hd0
 have e1 : ∀ X : List Row, ∀ j, j < n → (b ++ (l1 ++ (X ++ l2)))[j]? = (b ++ l1)[j]? := fun X j hj => by
  rw [← List.append_assoc, List.getElem?_append_left (by rw [List.length_append]; omega)]
 have e2 : ∀ X : List Row, ∀ j, j < X.length → (b ++ (l1 ++ (X ++ l2)))[n + j]? = X[j]? := fun X j hj => by
  rw [← List.append_assoc, List.getElem?_append_right (by rw [List.length_append]; omega), List.length_append, ← hn, Nat.add_sub_cancel_left, List.getElem?_append_left hj]
 have e3 : ∀ X : List Row, ∀ j, (b ++ (l1 ++ (X ++ l2)))[n + X.length + j]? = l2[j]? := fun X j => by
  rw [← List.append_assoc, List.getElem?_append_right (by rw [List.length_append]; omega), List.length_append, ← hn, Nat.add_assoc, Nat.add_sub_cancel_left, List.getElem?_append_right oM, Nat.add_sub_cancel_left]
 have sp : ∀ j, j < n ∨ (∃ i, i < N.length ∧ j = n + i) ∨ ∃ i, j = n + N.length + i := fun j => by
  by_cases h1 : j < n
  ·exact .inl h1
  ·by_cases h2 : j < n + N.length
   ·exact .inr (.inl ⟨j - n, by omega, by omega⟩)
   ·exact .inr (.inr ⟨j - (n + N.length), by omega⟩)
 have hml : (N.map deadR).length = N.length := List.length_map _
 have e2d : ∀ i, i < N.length → ∃ r, N[i]? = some r ∧ (b ++ (l1 ++ (N ++ l2)))[n + i]? = some r ∧ (b ++ (l1 ++ (N.map deadR ++ l2)))[n + i]? = some (deadR r) := fun i hi => by
  refine ⟨N[i], List.getElem?_eq_getElem hi, by rw [e2 _ _ hi, List.getElem?_eq_getElem hi], ?_⟩
  rw [e2 _ _ (by rw [hml]; exact hi), List.getElem?_map, List.getElem?_eq_getElem hi]; rfl
 have e3d : ∀ j, (b ++ (l1 ++ (N.map deadR ++ l2)))[n + N.length + j]? = l2[j]? := fun j => by
  have := e3 (N.map deadR) j
  rw [hml] at this; exact this
 have gH : ∀ {j v z : Nat} {els : List (List AV)}, (b ++ (l1 ++ (N.map deadR ++ l2)))[j]? = some (.live v z els) → (∀ i, i < N.length → j ≠ n + i) ∧ (b ++ (l1 ++ (N ++ l2)))[j]? = some (.live v z els) := fun {j v z els} hj => by
  rcases sp j with h1 | ⟨i, hi, rfl⟩ | ⟨i, rfl⟩
  ·rw [e1 _ _ h1] at hj ⊢; exact ⟨fun i _ => by omega, hj⟩
  ·obtain ⟨r, _, _, h4⟩ := e2d i hi
   rw [h4] at hj; cases hj
  ·rw [e3d] at hj; rw [e3]; exact ⟨fun i _ => by omega, hj⟩
 have hin : ∀ {i ver sz els}, N[i]? = some (.live ver sz els) → i < N.length ∧ (b ++ (l1 ++ (N ++ l2)))[n + i]? = some (.live ver sz els) := fun {i ver sz els} hi => by
  have := (List.getElem?_eq_some_iff.1 hi).1
  exact ⟨this, by rw [e2 _ _ this]; exact hi⟩
 have hown : ∀ k, Owned L (b ++ (l1 ++ (N.map deadR ++ l2))) k → Owned L (b ++ (l1 ++ (N ++ l2))) k := by
  rintro k ⟨j, v, z, els, q, h1, h2, h3⟩
  exact ⟨j, v, z, els, q, (gH h1).2, h2, h3⟩
 have s1 : Sim (FD F L n N) L (b ++ (l1 ++ (N.map deadR ++ l2))) w := by
  refine ⟨fun j v z els hj => ?_, fun j v q hq => ?_, fun j j' v v' z z' e1 e2 bb q1 q2 h1 h2 => s.apart j j' v v' z z' e1 e2 bb q1 q2 (gH h1).2 (gH h2).2, fun k hk => ?_⟩
  ·obtain ⟨q, g1, g2⟩ := s.row j v z els (gH hj).2
   exact ⟨q, g1, g2.mono (fun _ _ => rfl) (fun _ _ h => h.mono (fun _ h => .inl h) (fun _ _ => rfl) (fun _ _ _ h => h))⟩
  ·obtain ⟨r, h1, h2⟩ := s.born j v q hq
   rcases sp j with h3 | ⟨i, hi, rfl⟩ | ⟨i, rfl⟩
   ·exact ⟨r, by rw [e1 _ _ h3] at h1 ⊢; exact h1, h2⟩
   ·obtain ⟨r', _, h4, h5⟩ := e2d i hi
    rw [h4] at h1; cases h1
    exact ⟨deadR r, h5, h2⟩
   ·exact ⟨r, by rw [e3] at h1; rw [e3d]; exact h1, h2⟩
  ·rcases hk with hk | ⟨i, ver, sz, els, q, h1, h2, h3⟩
   ·exact ⟨(s.imm k hk).1, fun ho => (s.imm k hk).2 (hown k ho)⟩
   ·obtain ⟨hi, h1⟩ := hin h1
    obtain ⟨q', g1, g2⟩ := s.row _ _ _ _ h1
    rw [h2] at g1; cases g1
    refine ⟨g2.lt h3, ?_⟩
    rintro ⟨j, v, z, els', q2, k1, k2, k3⟩
    obtain ⟨hj, k4⟩ := gH k1
    exact hj i hi (s.apart j (n + i) v ver z sz els' els k q2 q k4 h1 k2 h2 k3 h3)
 have hrep : RepL w (FD F L n N) L args' us.toList := ⟨by rw [← hl]; exact hr.1, fun j y v hy hv => by
  have hil := (List.getElem?_eq_some_iff.1 hy).1
  have hx : args[j]? = some args[j] := List.getElem?_eq_getElem oM
  exact (hd j _ y hx hy).repR (fun i ver sz els hi => s.row _ _ _ _ (hin hi).2) v (hr.2 j _ v hx hv)⟩
 have hi1 := (List.getElem?_eq_some_iff.1 hi0).1
 have hrow0 : (b ++ (l1 ++ (N.map deadR ++ l2)))[b.length + i0]? = some (.live ver0 z0 els0) := by
  rw [List.getElem?_append_right oM, Nat.add_sub_cancel_left, List.getElem?_append_left hi1]; exact hi0
 obtain ⟨s2, own2⟩ := s1.setCell hrow0 hk0 hj0 (y := .v y0) (fun v hv => by
  have hv' : RepA w F L (.sl id1 ver1 off1 len1) v := by
   cases hv with
   | sl _ _ _ _ b1 o1 z1 c1 hL g1 g2 => exact .sl _ _ _ _ b1 o1 z1 c1 hL g1 g2
   | slz _ _ _ b1 o1 z1 c1 x1 hL g1 => exact .slz _ _ _ b1 o1 z1 c1 x1 hL g1
   | sln _ _ ad hL => exact .sln _ _ ad hL
  exact hd0.repR (fun i ver sz els hi => s.row _ _ _ _ (hin hi).2) v hv') rfl
 have hset : (b ++ (l1 ++ (N.map deadR ++ l2))).set (b.length + i0) (.live ver0 z0 (els0.set k0 (row0.set j0 (.v y0)))) = b ++ (l1.set i0 (.live ver0 z0 (els0.set k0 (row0.set j0 (.v y0)))) ++ (N.map deadR ++ l2)) := by
  rw [List.set_append_right _ _ oM, Nat.add_sub_cancel_left, List.set_append_left _ _ hi1]
 rw [hset] at s2 own2
 refine Calls.mono (h.2 _ L w us s2 hrep) ?_
 rintro en w' ⟨v, x, b', l', F2, L2, h1, h2, h3, h4, h5, h6⟩
 have hlen : (b ++ (l1.set i0 (.live ver0 z0 (els0.set k0 (row0.set j0 (.v y0)))) ++ (N.map deadR ++ l2))).length = (b ++ (l1 ++ (N ++ l2))).length := by simp
 have st : Step (b ++ (l1 ++ (N ++ l2))).length F L (b ++ (l1 ++ (N ++ l2))) w (FD F L n N) L (b ++ (l1.set i0 (.live ver0 z0 (els0.set k0 (row0.set j0 (.v y0)))) ++ (N.map deadR ++ l2))) w := by
  refine ⟨fun _ h => .inl h, fun _ _ _ _ h => h, rfl, rfl, rfl, Nat.le_refl _, fun _ _ _ => rfl, fun k _ ho => hown k (own2 k ho), fun id hid v hv => ?_, fun k hk hf => ?_⟩
  ·rw [← hset]
   have hne : b.length + i0 ≠ id := fun e => by
    rw [← e, List.getElem?_append_right oM, Nat.add_sub_cancel_left, List.getElem?_append_left hi1, hi0] at hv
    cases hv
   rw [List.getElem?_set_ne hne]
   rcases sp id with h3 | ⟨i, hi, rfl⟩ | ⟨i, rfl⟩
   ·rw [e1 _ _ h3] at hv ⊢; exact hv
   ·obtain ⟨r, _, h4, h5⟩ := e2d i hi
    rw [h4] at hv; cases hv
    exact h5
   ·rw [e3] at hv; rw [e3d]; exact hv
  ·rcases hf with hf | ⟨i, ver, sz, els, q, h1, h2, h3⟩
   ·exact .inl hf
   ·exact .inr ⟨_, _, _, _, _, (hin h1).2, h2, h3⟩
 exact ⟨v, x, b', l', F2, L2, h1, h2, h3, st.trans (hlen ▸ h4), h5, h6⟩
end Go.Proofs.Ytanblnhnfkeffaa
