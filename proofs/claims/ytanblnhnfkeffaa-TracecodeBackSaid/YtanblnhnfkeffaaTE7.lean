/- Texts of one proof, laid together: DV, OF, PV, VL. No condition. -/
import Derived.Test.YtanblnhnfkeffaaTE2
import Derived.Test.YtanblnhnfkeffaaD331
import Derived.KernelRfl
namespace Go.Proofs.Ytanblnhnfkeffaa
set_option linter.unusedVariables false
set_option linter.unusedSimpArgs false
inductive Dv (n : Nat) (l : List Row) : AV → AV → Prop where
 | v (x : IV) : Dv n l (.v x) (.v x)
 | z (sz : Nat) : Dv n l (.v .zsl) (.v (.isl sz []))
 | sl (i ver off len sz : Nat) (els : List (List AV)) (rows : List (List IV)) (hi : l[i]? = some (.live ver sz els)) (hle : off + len ≤ els.length) (hl : rows.length = len)
   (h1 : ∀ (k : Nat) (r : List AV) (row : List IV), els[off + k]? = some r → rows[k]? = some row → r.length = row.length)
   (h2 : ∀ (k : Nat) (r : List AV) (row : List IV) (j : Nat) (a : AV) (c : IV), els[off + k]? = some r → rows[k]? = some row → r[j]? = some a → row[j]? = some c → Dv n l a (.v c)) : Dv n l (.sl (n + i) ver off len) (.v (.isl sz rows))
 | agg (cs ds : List AV) (hl : cs.length = ds.length) (h : ∀ (i : Nat) (c d : AV), cs[i]? = some c → ds[i]? = some d → Dv n l c d) : Dv n l (.agg cs) (.agg ds)
 | tup (cs ds : List AV) (hl : cs.length = ds.length) (h : ∀ (i : Nat) (c d : AV), cs[i]? = some c → ds[i]? = some d → Dv n l c d) : Dv n l (.tup cs) (.tup ds)
def DvR (n : Nat) (l : List Row) (r : List AV) (row : List IV) : Prop := r.length = row.length ∧ ∀ (j : Nat) (a : AV) (c : IV), r[j]? = some a → row[j]? = some c → Dv n l a (.v c)
theorem DvR.nil {n : Nat} {l : List Row} : DvR n l [] [] := ⟨rfl, fun j a c h => by simp at h⟩
theorem DvR.cons {n : Nat} {l : List Row} {a : AV} {c : IV} {r : List AV} {row : List IV} (h : Dv n l a (.v c)) (t : DvR n l r row) : DvR n l (a :: r) (c :: row) := by
 refine ⟨by simp [t.1], fun j x y hx hy => ?_⟩
 cases j with
 | zero => simp at hx hy; subst hx; subst hy; exact h
 | succ j => exact t.2 j x y (by simpa using hx) (by simpa using hy)
theorem DvR.plain {n : Nat} {l : List Row} {row : List IV} : DvR n l (row.map .v) row := by
 refine ⟨by simp, fun j a c ha hc => ?_⟩
 rw [List.getElem?_map, hc] at ha
 cases ha
 exact .v c
def DvL (n : Nat) (l : List Row) (cs ds : List AV) : Prop := cs.length = ds.length ∧ ∀ (i : Nat) (c d : AV), cs[i]? = some c → ds[i]? = some d → Dv n l c d
theorem DvL.nil {n : Nat} {l : List Row} : DvL n l [] [] := ⟨rfl, fun j a c h => by simp at h⟩
theorem DvL.cons {n : Nat} {l : List Row} {a d : AV} {cs ds : List AV} (h : Dv n l a d) (t : DvL n l cs ds) : DvL n l (a :: cs) (d :: ds) := by
 refine ⟨by simp [t.1], fun j x y hx hy => ?_⟩
 cases j with
 | zero => simp at hx hy; subst hx; subst hy; exact h
 | succ j => exact t.2 j x y (by simpa using hx) (by simpa using hy)
theorem Dv.aggL {n : Nat} {l : List Row} {cs ds : List AV} (h : DvL n l cs ds) : Dv n l (.agg cs) (.agg ds) := .agg cs ds h.1 h.2
theorem Dv.tupL {n : Nat} {l : List Row} {cs ds : List AV} (h : DvL n l cs ds) : Dv n l (.tup cs) (.tup ds) := .tup cs ds h.1 h.2
theorem Dv.slR {n : Nat} {l : List Row} {i ver off len sz : Nat} {els : List (List AV)} {rows : List (List IV)} (hi : l[i]? = some (.live ver sz els)) (hle : off + len ≤ els.length) (hl : rows.length = len)
  (h : ∀ (k : Nat) (r : List AV) (row : List IV), els[off + k]? = some r → rows[k]? = some row → DvR n l r row) : Dv n l (.sl (n + i) ver off len) (.v (.isl sz rows)) :=
 .sl i ver off len sz els rows hi hle hl (fun k r row h1 h2 => (h k r row h1 h2).1) (fun k r row j a c h1 h2 => (h k r row h1 h2).2 j a c)
theorem Dv.slV {n : Nat} {l : List Row} {i ver sz len : Nat} {rows : List (List IV)} (hi : l[i]? = some (.live ver sz (vs rows))) (hl : len = rows.length) : Dv n l (.sl (n + i) ver 0 len) (.v (.isl sz rows)) := by
 refine Dv.slR hi (by rw [vs_len]; omega) hl.symm (fun k r row h1 h2 => ?_)
 rw [Nat.zero_add, vs_get, h2] at h1
 cases h1
 exact DvR.plain
theorem Dv.lt {n : Nat} {l : List Row} {x y : AV} (h : Dv n l x y) (m : Nat) : AVlt m y := by
 induction h with
 | v x => exact .v x
 | z sz => exact .v _
 | sl => exact .v _
 | agg cs ds hl _ ih =>
   refine .agg _ (fun d hd => ?_)
   obtain ⟨i, hi⟩ := List.mem_iff_getElem?.1 hd
   have hl2 := (List.getElem?_eq_some_iff.1 hi).1
   exact ih i cs[i] d (List.getElem?_eq_getElem oM) hi
 | tup cs ds hl _ ih =>
   refine .tup _ (fun d hd => ?_)
   obtain ⟨i, hi⟩ := List.mem_iff_getElem?.1 hd
   have hl2 := (List.getElem?_eq_some_iff.1 hi).1
   exact ih i cs[i] d (List.getElem?_eq_getElem oM) hi
theorem Dv.more {n : Nat} {l : List Row} (k : List Row) {x y : AV} (h : Dv n l x y) : Dv n (l ++ k) x y := by
 induction h with
 | v x => exact .v x
 | z sz => exact .z sz
 | sl i ver off len sz els rows hi hle hl h1 _ ih =>
   exact .sl i ver off len sz els rows (by rw [List.getElem?_append_left (List.getElem?_eq_some_iff.1 hi).1]; exact hi) hle hl h1 ih
 | agg cs ds hl _ ih => exact .agg cs ds hl ih
 | tup cs ds hl _ ih => exact .tup cs ds hl ih
def FD (F : Nat → Prop) (L : LMap) (n : Nat) (l : List Row) (k : Nat) : Prop := F k ∨ ∃ i ver sz els q, l[i]? = some (.live ver sz els) ∧ L (n + i) ver = some q ∧ q.on k
theorem Dv.rep {F : Nat → Prop} {L : LMap} {b l : List Row} {w : World} (s : Sim F L (b ++ l) w) {x y : AV} (h : Dv b.length l x y) : ∀ v, RepA w F L x v → RepA w (FD F L b.length l) L y v := by
 have mono : ∀ {x : AV} {v : Value}, RepA w F L x v → RepA w (FD F L b.length l) L x v := fun hx => hx.mono (fun _ h => .inl h) (fun _ _ => rfl) (fun _ _ _ h => h)
 induction h with
 | v x => exact fun v hv => mono hv
 | z sz =>
   intro v hv
   cases hv.vI
   exact .v _ _ (.isl0 _ _ _ (Nat.zero_le _))
 | sl i ver off len sz els rows hi hle hl h1 h2 ih =>
   intro v hv
   have hrow : (b ++ l)[b.length + i]? = some (.live ver sz els) := by rw [List.getElem?_append_right oM, Nat.add_sub_cancel_left]; exact hi
   obtain ⟨q, k1, k2⟩ := s.row _ _ _ _ hrow
   refine .v _ _ ?_
   cases hv with
   | sl _ _ _ _ blk o z cap hL g1 g2 =>
     rw [k1] at hL; cases hL
     obtain ⟨q1, q2, q3, cur, T, q4, q5, q6, q7⟩ := k2
     subst q1
     have hcell : ∀ (k : Nat) (row : List IV) (j : Nat) (c : IV), rows[k]? = some row → row[j]? = some c → ∃ u, w.cell? ⟨blk, o + off * z + k * z + j, none⟩ = some u ∧ RepI w (FD F L b.length l) c u := by
      intro k row j c hk hj
      have hkl := (List.getElem?_eq_some_iff.1 hk).1
      have hjl := (List.getElem?_eq_some_iff.1 hj).1
      have hr : els[off + k]? = some els[off + k] := List.getElem?_eq_getElem oM
      have hlr := h1 k _ row hr hk
      have ha : els[off + k][j]? = some els[off + k][j] := List.getElem?_eq_getElem oM
      obtain ⟨_, u, g3, g4⟩ := q7 (off + k) _ j _ hr ha
      refine ⟨u, ?_, (ih k _ row j _ c hr hk ha hj u g4).vI⟩
      rw [Nat.add_mul] at g3
      simp only [World.cell?, q4]
      rw [← g3]
      simp [Nat.add_assoc]
     have := RepI.isl (w := w) (F := FD F L b.length l) rows blk (o + off * z) z (cap - off) (fun k j => (w.cell? ⟨blk, o + off * z + k * z + j, none⟩).getD undef) (.inr ⟨i, ver, z, els, _, hi, k1, rfl⟩) oM oM
      (fun k row hk => by
       have hkl := (List.getElem?_eq_some_iff.1 hk).1
       have hr : els[off + k]? = some els[off + k] := List.getElem?_eq_getElem oM
       rw [← h1 k _ row hr hk]
       exact q6 _ _ hr)
      (fun k row j c hk hj => by
       obtain ⟨u, g3, _⟩ := hcell k row j c hk hj
       rw [g3]; rfl)
      (fun k row j c hk hj => by
       obtain ⟨u, g3, g4⟩ := hcell k row j c hk hj
       rw [g3]; exact g4)
     rw [hl] at this
     exact this
   | slz =>
     have : rows = [] := List.eq_nil_of_length_eq_zero hl
     rw [this]; exact .isl0 _ _ _ oM
   | sln =>
     have : rows = [] := List.eq_nil_of_length_eq_zero hl
     rw [this]; exact .isl0 _ _ _ oM
 | agg cs ds hl _ ih =>
   intro v hv
   obtain ⟨us, rfl, hu⟩ := hv.aggL
   refine RepL.agg ⟨by rw [← hl]; exact hu.1, fun j d u hd hju => ?_⟩
   have hjl := (List.getElem?_eq_some_iff.1 hd).1
   have hc : cs[j]? = some cs[j] := List.getElem?_eq_getElem oM
   exact ih j _ d hc hd u (hu.2 j _ u hc hju)
 | tup cs ds hl _ ih =>
   intro v hv
   obtain ⟨us, rfl, hu⟩ := hv.tupL
   refine RepL.tup ⟨by rw [← hl]; exact hu.1, fun j d u hd hju => ?_⟩
   have hjl := (List.getElem?_eq_some_iff.1 hd).1
   have hc : cs[j]? = some cs[j] := List.getElem?_eq_getElem oM
   exact ih j _ d hc hd u (hu.2 j _ u hc hju)
def deadR (r : Row) : Row := .dead r.ver
theorem deadL_get {b l : List Row} {j v z : Nat} {els : List (List AV)} (h : (b ++ l.map deadR)[j]? = some (.live v z els)) : j < b.length ∧ (b ++ l)[j]? = some (.live v z els) := by
 by_cases hj : j < b.length
 ·rw [List.getElem?_append_left hj] at h ⊢
  exact ⟨hj, h⟩
 ·rw [List.getElem?_append_right oM, List.getElem?_map] at h
  cases hq : l[j - b.length]? with
  | none => rw [hq] at h; cases h
  | some r => rw [hq] at h; cases h
theorem Weak.deep {b l : List Row} {e e' : List AV} (hl : e.length = e'.length) (hd : ∀ (i : Nat) (x y : AV), e[i]? = some x → e'[i]? = some y → Dv b.length l x y) (hR : RowsLt b.length b) : Weak e b l e' b [] := by
 refine Weak.trans (e2 := e') (b2 := b) (l2 := l.map deadR) ?_ (Weak.trim (l1 := []) rfl (fun y hy => ?_) (by simpa using hR) RowsLt_nil)
 ·intro F L w a s hea
  have hown : ∀ k, Owned L (b ++ l.map deadR) k → Owned L (b ++ l) k := by
   rintro k ⟨j, v, z, els, q, h1, h2, h3⟩
   exact ⟨j, v, z, els, q, (deadL_get h1).2, h2, h3⟩
  have hin : ∀ {i ver sz els}, l[i]? = some (.live ver sz els) → (b ++ l)[b.length + i]? = some (.live ver sz els) := fun hi => by
   rw [List.getElem?_append_right oM, Nat.add_sub_cancel_left]; exact hi
  refine ⟨FD F L b.length l, L, ⟨fun j v z els hj => ?_, fun j v q hq => ?_, fun j j' v v' z z' e1 e2 bb q1 q2 h1 h2 => s.apart j j' v v' z z' e1 e2 bb q1 q2 (deadL_get h1).2 (deadL_get h2).2, fun k hk => ?_, s.glob.mono (fun _ h => .inl h) (fun _ _ => rfl)⟩,
   ⟨hea.1, by rw [← hl]; exact hea.2.1, fun i y v hy hv => ?_⟩, ⟨fun _ h => .inl h, fun _ _ _ _ h => h, rfl, rfl, rfl, Nat.le_refl _, fun _ _ _ => rfl, fun k _ ho => hown k ho, fun id hid v hv => ?_, fun k hk hf => ?_⟩, rfl⟩
  ·obtain ⟨q, g1, g2⟩ := s.row j v z els (deadL_get hj).2
   exact ⟨q, g1, g2.mono (fun _ _ => rfl) (fun _ _ h => h.mono (fun _ h => .inl h) (fun _ _ => rfl) (fun _ _ _ h => h))⟩
  ·obtain ⟨r, h1, h2⟩ := s.born j v q hq
   by_cases hj : j < b.length
   ·exact ⟨r, by rw [List.getElem?_append_left hj] at h1 ⊢; exact h1, h2⟩
   ·rw [List.getElem?_append_right oM] at h1
    exact ⟨deadR r, by rw [List.getElem?_append_right oM, List.getElem?_map, h1]; rfl, h2⟩
  ·rcases hk with hk | ⟨i, ver, sz, els, q, h1, h2, h3⟩
   ·exact ⟨(s.imm k hk).1, fun ho => (s.imm k hk).2 (hown k ho)⟩
   ·obtain ⟨q', g1, g2⟩ := s.row _ _ _ _ (hin h1)
    rw [h2] at g1; cases g1
    refine ⟨g2.lt h3, ?_⟩
    rintro ⟨j, v, z, els', q2, k1, k2, k3⟩
    obtain ⟨hj, k4⟩ := deadL_get k1
    have := s.apart j (b.length + i) v ver z sz els' els k q2 q k4 (hin h1) k2 h2 k3 h3
    omega
  ·have hil := (List.getElem?_eq_some_iff.1 hy).1
   have hx : e[i]? = some e[i] := List.getElem?_eq_getElem oM
   exact (hd i _ y hx hy).rep s v (hea.2.2 i _ v hx hv)
  ·rw [List.getElem?_append_left hid] at hv ⊢; exact hv
  ·rcases hf with hf | ⟨i, ver, sz, els, q, h1, h2, h3⟩
   ·exact .inl hf
   ·exact .inr ⟨_, _, _, _, _, hin h1, h2, h3⟩
 ·obtain ⟨i, hi⟩ := List.mem_iff_getElem?.1 hy
  have hil := (List.getElem?_eq_some_iff.1 hi).1
  exact (hd i _ y (List.getElem?_eq_getElem (show i < e.length by omega)) hi).lt _
theorem leave_deep {e : List AV} {l : List Row} {rs : List ARes} {Q : AV → List Row → List Row → Prop} {B : List Row} {ex : AExit} (hex : ex = .normal ∨ ex = .ret) {xs : List AV} (hx : resVs e B l rs = some xs) {y : AV} (hd : Dv B.length l (one xs) y) (hR : RowsLt B.length B) {b0 l0 : List Row} (hB : B = b0 ++ l0) (hq : Q y b0 l0) :
  Leaves rs Q b0.length ex e B l :=
 leave hex hx (y := y) (l' := []) (Weak.deep rfl (fun i x z hx hz => by
  cases i with
  | zero => simp at hx hz; subst hx; subst hz; exact hd
  | succ i => simp at hx) hR) hB (by rw [List.append_nil]; exact hq)
theorem ACalls.deep {P : Program} {f : Nat} {args : List AV} {b l N : List Row} {x y : AV} (hd : Dv (b.length + l.length) N x y)
  (h : ACalls P f args b l (fun r b' l' => r = x ∧ b' = b ∧ l' = l ++ N)) : ACalls P f args b l (fun r b' l' => r = y ∧ b' = b ∧ l' = l) := by
 refine ⟨h.1, fun F L w vs s hr => Calls.mono (h.2 F L w vs s hr) ?_⟩
 rintro en w' ⟨v, x', b', l', F', L', h1, h2, h3, h4, h5, rfl, rfl, rfl⟩
 have hbl : (b' ++ l).length = b'.length + l.length := List.length_append
 have hsim : Sim F' L' ((b' ++ l) ++ N) w' := by rw [List.append_assoc]; exact h3
 have hw : Weak [x'] (b' ++ l) N [y] (b' ++ l) [] := Weak.deep rfl (fun i x z hx hz => by
  cases i with
  | zero => simp at hx hz; subst hx; subst hz; rw [hbl]; exact hd
  | succ i => simp at hx) s.rowsLt
 obtain ⟨F3, L3, k1, k2, k3, k5⟩ := hw F' L' w' { tmps := #[v], defers := [] } hsim ⟨rfl, rfl, fun j z u hz hu => by
  cases j with
  | zero => simp at hz hu; subst hz; subst hu; exact h2
  | succ j => simp at hz⟩
 rw [List.append_nil] at k1 k3
 refine ⟨v, y, b', l, F3, L3, h1, k2.2.2 0 _ v rfl rfl, k1, ?_, h5, rfl, rfl, rfl⟩
 refine h4.trans ?_
 rw [← List.append_assoc]
 exact k3
end Go.Proofs.Ytanblnhnfkeffaa
namespace Go.Proofs.Ytanblnhnfkeffaa
set_option linter.unusedVariables false
set_option linter.unusedSimpArgs false
theorem Dv.repR {F : Nat → Prop} {L : LMap} {n : Nat} {l : List Row} {w : World} (hs : ∀ i ver sz els, l[i]? = some (.live ver sz els) → ∃ q, L (n + i) ver = some q ∧ RowAt w F L sz els q) {x y : AV} (h : Dv n l x y) : ∀ v, RepA w F L x v → RepA w (FD F L n l) L y v := by
 have mono : ∀ {x : AV} {v : Value}, RepA w F L x v → RepA w (FD F L n l) L x v := fun hx => hx.mono (fun _ h => .inl h) (fun _ _ => rfl) (fun _ _ _ h => h)
 induction h with
 | v x => exact fun v hv => mono hv
 | z sz =>
   intro v hv
   cases hv.vI
   exact .v _ _ (.isl0 _ _ _ (Nat.zero_le _))
 | sl i ver off len sz els rows hi hle hl h1 h2 ih =>
   intro v hv
   obtain ⟨q, k1, k2⟩ := hs _ _ _ _ hi
   refine .v _ _ ?_
   cases hv with
   | sl _ _ _ _ blk o z cap hL g1 g2 =>
     rw [k1] at hL; cases hL
     obtain ⟨q1, q2, q3, cur, T, q4, q5, q6, q7⟩ := k2
     subst q1
     have hcell : ∀ (k : Nat) (row : List IV) (j : Nat) (c : IV), rows[k]? = some row → row[j]? = some c → ∃ u, w.cell? ⟨blk, o + off * z + k * z + j, none⟩ = some u ∧ RepI w (FD F L n l) c u := by
      intro k row j c hk hj
      have hkl := (List.getElem?_eq_some_iff.1 hk).1
      have hjl := (List.getElem?_eq_some_iff.1 hj).1
      have hr : els[off + k]? = some els[off + k] := List.getElem?_eq_getElem oM
      have hlr := h1 k _ row hr hk
      have ha : els[off + k][j]? = some els[off + k][j] := List.getElem?_eq_getElem oM
      obtain ⟨_, u, g3, g4⟩ := q7 (off + k) _ j _ hr ha
      refine ⟨u, ?_, (ih k _ row j _ c hr hk ha hj u g4).vI⟩
      rw [Nat.add_mul] at g3
      simp only [World.cell?, q4]
      rw [← g3]
      simp [Nat.add_assoc]
     have := RepI.isl (w := w) (F := FD F L n l) rows blk (o + off * z) z (cap - off) (fun k j => (w.cell? ⟨blk, o + off * z + k * z + j, none⟩).getD undef) (.inr ⟨i, ver, z, els, _, hi, k1, rfl⟩) oM oM
      (fun k row hk => by
       have hkl := (List.getElem?_eq_some_iff.1 hk).1
       have hr : els[off + k]? = some els[off + k] := List.getElem?_eq_getElem oM
       rw [← h1 k _ row hr hk]
       exact q6 _ _ hr)
      (fun k row j c hk hj => by
       obtain ⟨u, g3, _⟩ := hcell k row j c hk hj
       rw [g3]; rfl)
      (fun k row j c hk hj => by
       obtain ⟨u, g3, g4⟩ := hcell k row j c hk hj
       rw [g3]; exact g4)
     rw [hl] at this
     exact this
   | slz =>
     have : rows = [] := List.eq_nil_of_length_eq_zero hl
     rw [this]; exact .isl0 _ _ _ oM
   | sln =>
     have : rows = [] := List.eq_nil_of_length_eq_zero hl
     rw [this]; exact .isl0 _ _ _ oM
 | agg cs ds hl _ ih =>
   intro v hv
   obtain ⟨us, rfl, hu⟩ := hv.aggL
   refine RepL.agg ⟨by rw [← hl]; exact hu.1, fun j d u hd hju => ?_⟩
   have hjl := (List.getElem?_eq_some_iff.1 hd).1
   have hc : cs[j]? = some cs[j] := List.getElem?_eq_getElem oM
   exact ih j _ d hc hd u (hu.2 j _ u hc hju)
 | tup cs ds hl _ ih =>
   intro v hv
   obtain ⟨us, rfl, hu⟩ := hv.tupL
   refine RepL.tup ⟨by rw [← hl]; exact hu.1, fun j d u hd hju => ?_⟩
   have hjl := (List.getElem?_eq_some_iff.1 hd).1
   have hc : cs[j]? = some cs[j] := List.getElem?_eq_getElem oM
   exact ih j _ d hc hd u (hu.2 j _ u hc hju)

end Go.Proofs.Ytanblnhnfkeffaa
namespace Go.Proofs.Ytanblnhnfkeffaa
set_option linter.unusedVariables false
set_option linter.unusedSimpArgs false
theorem ACalls.deepCell {P : Program} {f : Nat} {args args' : List AV} {b l1 N l2 : List Row} {i0 ver0 id1 ver1 off1 len1 : Nat} {y0 : IV} {Q : AV → List Row → List Row → Prop} (hl : args.length = args'.length)
  (hd : ∀ (i : Nat) (x y : AV), args[i]? = some x → args'[i]? = some y → Dv (b.length + l1.length) N x y) (hi0 : l1[i0]? = some (.live ver0 1 [[.sl id1 ver1 off1 len1]])) (hd0 : Dv (b.length + l1.length) N (.sl id1 ver1 off1 len1) (.v y0)) (h : ACalls P f args' b (l1.set i0 (.live ver0 1 [[.v y0]]) ++ (N.map deadR ++ l2)) Q) : ACalls P f args b (l1 ++ (N ++ l2)) Q := by
 refine ⟨h.1, fun F L w us s hr => ?_⟩
 obtain ⟨n, hn⟩ : ∃ n, n = b.length + l1.length := ⟨_, rfl⟩
 rw [← hn] at hd hd0
 have e1 : ∀ X : List Row, ∀ j, j < n → (b ++ (l1 ++ (X ++ l2)))[j]? = (b ++ l1)[j]? := fun X j hj => by
  rw [← List.append_assoc, List.getElem?_append_left (by rw [List.length_append]; omega)]
 have e2 : ∀ X : List Row, ∀ j, j < X.length → (b ++ (l1 ++ (X ++ l2)))[n + j]? = X[j]? := fun X j hj => by
  rw [← List.append_assoc, List.getElem?_append_right (by rw [List.length_append]; omega), List.length_append, ← hn, Nat.add_sub_cancel_left, List.getElem?_append_left hj]
 have e3 : ∀ X : List Row, ∀ j, (b ++ (l1 ++ (X ++ l2)))[n + X.length + j]? = l2[j]? := fun X j => by
  rw [← List.append_assoc, List.getElem?_append_right (by rw [List.length_append]; omega), List.length_append, ← hn, Nat.add_assoc, Nat.add_sub_cancel_left, List.getElem?_append_right oM, Nat.add_sub_cancel_left]
 have sp : ∀ j, j < n ∨ (∃ i, i < N.length ∧ j = n + i) ∨ ∃ i, j = n + N.length + i := fun j => by
  by_cases h1 : j < n
  ·exact .inl h1
  ·by_cases h2 : j < n + N.length
   ·exact .inr (.inl ⟨j - n, by omega, by omega⟩)
   ·exact .inr (.inr ⟨j - (n + N.length), by omega⟩)
 have hml : (N.map deadR).length = N.length := List.length_map _
 have e2d : ∀ i, i < N.length → ∃ r, N[i]? = some r ∧ (b ++ (l1 ++ (N ++ l2)))[n + i]? = some r ∧ (b ++ (l1 ++ (N.map deadR ++ l2)))[n + i]? = some (deadR r) := fun i hi => by
  refine ⟨N[i], List.getElem?_eq_getElem hi, by rw [e2 _ _ hi, List.getElem?_eq_getElem hi], ?_⟩
  rw [e2 _ _ (by rw [hml]; exact hi), List.getElem?_map, List.getElem?_eq_getElem hi]; rfl
 have e3d : ∀ j, (b ++ (l1 ++ (N.map deadR ++ l2)))[n + N.length + j]? = l2[j]? := fun j => by
  have := e3 (N.map deadR) j
  rw [hml] at this; exact this
 have gH : ∀ {j v z : Nat} {els : List (List AV)}, (b ++ (l1 ++ (N.map deadR ++ l2)))[j]? = some (.live v z els) → (∀ i, i < N.length → j ≠ n + i) ∧ (b ++ (l1 ++ (N ++ l2)))[j]? = some (.live v z els) := fun {j v z els} hj => by
  rcases sp j with h1 | ⟨i, hi, rfl⟩ | ⟨i, rfl⟩
  ·rw [e1 _ _ h1] at hj ⊢; exact ⟨fun i _ => by omega, hj⟩
  ·obtain ⟨r, _, _, h4⟩ := e2d i hi
   rw [h4] at hj; cases hj
  ·rw [e3d] at hj; rw [e3]; exact ⟨fun i _ => by omega, hj⟩
 have hin : ∀ {i ver sz els}, N[i]? = some (.live ver sz els) → i < N.length ∧ (b ++ (l1 ++ (N ++ l2)))[n + i]? = some (.live ver sz els) := fun {i ver sz els} hi => by
  have := (List.getElem?_eq_some_iff.1 hi).1
  exact ⟨this, by rw [e2 _ _ this]; exact hi⟩
 have hown : ∀ k, Owned L (b ++ (l1 ++ (N.map deadR ++ l2))) k → Owned L (b ++ (l1 ++ (N ++ l2))) k := by
  rintro k ⟨j, v, z, els, q, h1, h2, h3⟩
  exact ⟨j, v, z, els, q, (gH h1).2, h2, h3⟩
 have s1 : Sim (FD F L n N) L (b ++ (l1 ++ (N.map deadR ++ l2))) w := by
  refine ⟨fun j v z els hj => ?_, fun j v q hq => ?_, fun j j' v v' z z' e1 e2 bb q1 q2 h1 h2 => s.apart j j' v v' z z' e1 e2 bb q1 q2 (gH h1).2 (gH h2).2, fun k hk => ?_, s.glob.mono (fun _ h => .inl h) (fun _ _ => rfl)⟩
  ·obtain ⟨q, g1, g2⟩ := s.row j v z els (gH hj).2
   exact ⟨q, g1, g2.mono (fun _ _ => rfl) (fun _ _ h => h.mono (fun _ h => .inl h) (fun _ _ => rfl) (fun _ _ _ h => h))⟩
  ·obtain ⟨r, h1, h2⟩ := s.born j v q hq
   rcases sp j with h3 | ⟨i, hi, rfl⟩ | ⟨i, rfl⟩
   ·exact ⟨r, by rw [e1 _ _ h3] at h1 ⊢; exact h1, h2⟩
   ·obtain ⟨r', _, h4, h5⟩ := e2d i hi
    rw [h4] at h1; cases h1
    exact ⟨deadR r, h5, h2⟩
   ·exact ⟨r, by rw [e3] at h1; rw [e3d]; exact h1, h2⟩
  ·rcases hk with hk | ⟨i, ver, sz, els, q, h1, h2, h3⟩
   ·exact ⟨(s.imm k hk).1, fun ho => (s.imm k hk).2 (hown k ho)⟩
   ·obtain ⟨hi, h1⟩ := hin h1
    obtain ⟨q', g1, g2⟩ := s.row _ _ _ _ h1
    rw [h2] at g1; cases g1
    refine ⟨g2.lt h3, ?_⟩
    rintro ⟨j, v, z, els', q2, k1, k2, k3⟩
    obtain ⟨hj, k4⟩ := gH k1
    exact hj i hi (s.apart j (n + i) v ver z sz els' els k q2 q k4 h1 k2 h2 k3 h3)
 have hrep : RepL w (FD F L n N) L args' us.toList := ⟨by rw [← hl]; exact hr.1, fun j y v hy hv => by
  have hil := (List.getElem?_eq_some_iff.1 hy).1
  have hx : args[j]? = some args[j] := List.getElem?_eq_getElem oM
  exact (hd j _ y hx hy).repR (fun i ver sz els hi => s.row _ _ _ _ (hin hi).2) v (hr.2 j _ v hx hv)⟩
 have hi1 := (List.getElem?_eq_some_iff.1 hi0).1
 have hrow0 : (b ++ (l1 ++ (N.map deadR ++ l2)))[b.length + i0]? = some (.live ver0 1 [[.sl id1 ver1 off1 len1]]) := by
  rw [List.getElem?_append_right oM, Nat.add_sub_cancel_left, List.getElem?_append_left hi1]; exact hi0
 obtain ⟨s2, own2⟩ := s1.setCell hrow0 (k := 0) (j := 0) rfl rfl (y := .v y0) (fun v hv => by
  have hv' : RepA w F L (.sl id1 ver1 off1 len1) v := by
   cases hv with
   | sl _ _ _ _ b1 o1 z1 c1 hL g1 g2 => exact .sl _ _ _ _ b1 o1 z1 c1 hL g1 g2
   | slz _ _ _ b1 o1 z1 c1 x1 hL g1 => exact .slz _ _ _ b1 o1 z1 c1 x1 hL g1
   | sln _ _ ad hL => exact .sln _ _ ad hL
  exact hd0.repR (fun i ver sz els hi => s.row _ _ _ _ (hin hi).2) v hv') rfl
 have hset : (b ++ (l1 ++ (N.map deadR ++ l2))).set (b.length + i0) (.live ver0 1 [[.v y0]]) = b ++ (l1.set i0 (.live ver0 1 [[.v y0]]) ++ (N.map deadR ++ l2)) := by
  rw [List.set_append_right _ _ oM, Nat.add_sub_cancel_left, List.set_append_left _ _ hi1]
 have hset' : (b ++ (l1 ++ (N.map deadR ++ l2))).set (b.length + i0) (.live ver0 1 (([[.sl id1 ver1 off1 len1]] : List (List AV)).set 0 (([.sl id1 ver1 off1 len1] : List AV).set 0 (.v y0)))) = b ++ (l1.set i0 (.live ver0 1 [[.v y0]]) ++ (N.map deadR ++ l2)) := hset
 rw [hset'] at s2 own2
 refine Calls.mono (h.2 _ L w us s2 hrep) ?_
 rintro en w' ⟨v, x, b', l', F2, L2, h1, h2, h3, h4, h5, h6⟩
 have hlen : (b ++ (l1.set i0 (.live ver0 1 [[.v y0]]) ++ (N.map deadR ++ l2))).length = (b ++ (l1 ++ (N ++ l2))).length := by simp
 have st : Step (b ++ (l1 ++ (N ++ l2))).length F L (b ++ (l1 ++ (N ++ l2))) w (FD F L n N) L (b ++ (l1.set i0 (.live ver0 1 [[.v y0]]) ++ (N.map deadR ++ l2))) w := by
  refine ⟨fun _ h => .inl h, fun _ _ _ _ h => h, rfl, rfl, rfl, Nat.le_refl _, fun _ _ _ => rfl, fun k _ ho => hown k (own2 k ho), fun id hid v hv => ?_, fun k hk hf => ?_⟩
  ·rw [← hset]
   have hne : b.length + i0 ≠ id := fun e => by
    rw [← e, List.getElem?_append_right oM, Nat.add_sub_cancel_left, List.getElem?_append_left hi1, hi0] at hv
    cases hv
   rw [List.getElem?_set_ne hne]
   rcases sp id with h3 | ⟨i, hi, rfl⟩ | ⟨i, rfl⟩
   ·rw [e1 _ _ h3] at hv ⊢; exact hv
   ·obtain ⟨r, _, h4, h5⟩ := e2d i hi
    rw [h4] at hv; cases hv
    exact h5
   ·rw [e3] at hv; rw [e3d]; exact hv
  ·rcases hf with hf | ⟨i, ver, sz, els, q, h1, h2, h3⟩
   ·exact .inl hf
   ·exact .inr ⟨_, _, _, _, _, (hin h1).2, h2, h3⟩
 exact ⟨v, x, b', l', F2, L2, h1, h2, h3, st.trans (hlen ▸ h4), h5, h6⟩
end Go.Proofs.Ytanblnhnfkeffaa
namespace Go.Proofs.Ytanblnhnfkeffaa
set_option linter.unusedVariables false
set_option linter.unusedSimpArgs false

theorem getD_at {α : Type} {l : List α} {i : Nat} {d : α} (h : i < l.length) : l.getD i d = l[i] := by simp [List.getD, h]
theorem getD_set_ne {α : Type} {l : List α} {i j : Nat} {x d : α} (h : i ≠ j) : (l.set i x).getD j d = l.getD j d := by
 simp only [List.getD_eq_getElem?_getD, List.getElem?_set_ne h]
end Go.Proofs.Ytanblnhnfkeffaa
