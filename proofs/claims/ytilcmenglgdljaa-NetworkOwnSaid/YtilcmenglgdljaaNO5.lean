/- Texts of one proof, laid together: DV, DR, NA, VR, NB, NC, ND. No condition. -/
import Derived.Test.YtilcmenglgdljaaNO2
import Derived.Test.YtilcmenglgdljaaNO3
import Derived.Test.YtilcmenglgdljaaProg
import Derived.KernelRfl
namespace Go.Proofs.Ytilcmenglgdljaa
set_option linter.unusedVariables false
set_option linter.unusedSimpArgs false
inductive Dv (n : Nat) (l : List Row) : AV → AV → Prop where
 | v (x : IV) : Dv n l (.v x) (.v x)
 | z (sz : Nat) : Dv n l (.v .zsl) (.v (.isl sz []))
 | sl (i ver off len sz : Nat) (els : List (List AV)) (rows : List (List IV)) (hi : l[i]? = some (.live ver sz els)) (hle : off + len ≤ els.length) (hl : rows.length = len)
   (h1 : ∀ (k : Nat) (r : List AV) (row : List IV), els[off + k]? = some r → rows[k]? = some row → r.length = row.length)
   (h2 : ∀ (k : Nat) (r : List AV) (row : List IV) (j : Nat) (a : AV) (c : IV), els[off + k]? = some r → rows[k]? = some row → r[j]? = some a → row[j]? = some c → Dv n l a (.v c)) : Dv n l (.sl (n + i) ver off len) (.v (.isl sz rows))
 | agg (cs ds : List AV) (hl : cs.length = ds.length) (h : ∀ (i : Nat) (c d : AV), cs[i]? = some c → ds[i]? = some d → Dv n l c d) : Dv n l (.agg cs) (.agg ds)
 | tup (cs ds : List AV) (hl : cs.length = ds.length) (h : ∀ (i : Nat) (c d : AV), cs[i]? = some c → ds[i]? = some d → Dv n l c d) : Dv n l (.tup cs) (.tup ds)
def DvR (n : Nat) (l : List Row) (r : List AV) (row : List IV) : Prop := r.length = row.length ∧ ∀ (j : Nat) (a : AV) (c : IV), r[j]? = some a → row[j]? = some c → Dv n l a (.v c)
theorem DvR.nil {n : Nat} {l : List Row} : DvR n l [] [] := ⟨rfl, fun j a c h => by simp at h⟩
theorem DvR.cons {n : Nat} {l : List Row} {a : AV} {c : IV} {r : List AV} {row : List IV} (h : Dv n l a (.v c)) (t : DvR n l r row) : DvR n l (a :: r) (c :: row) := by
 refine ⟨by simp [t.1], fun j x y hx hy => ?_⟩
 cases j with
 | zero => simp at hx hy; subst hx; subst hy; exact h
 | succ j => exact t.2 j x y (by simpa using hx) (by simpa using hy)
theorem DvR.plain {n : Nat} {l : List Row} {row : List IV} : DvR n l (row.map .v) row := by
 refine ⟨by simp, fun j a c ha hc => ?_⟩
 rw [List.getElem?_map, hc] at ha
 cases ha
 exact .v c
def DvL (n : Nat) (l : List Row) (cs ds : List AV) : Prop := cs.length = ds.length ∧ ∀ (i : Nat) (c d : AV), cs[i]? = some c → ds[i]? = some d → Dv n l c d
theorem DvL.nil {n : Nat} {l : List Row} : DvL n l [] [] := ⟨rfl, fun j a c h => by simp at h⟩
theorem DvL.cons {n : Nat} {l : List Row} {a d : AV} {cs ds : List AV} (h : Dv n l a d) (t : DvL n l cs ds) : DvL n l (a :: cs) (d :: ds) := by
 refine ⟨by simp [t.1], fun j x y hx hy => ?_⟩
 cases j with
 | zero => simp at hx hy; subst hx; subst hy; exact h
 | succ j => exact t.2 j x y (by simpa using hx) (by simpa using hy)
theorem Dv.aggL {n : Nat} {l : List Row} {cs ds : List AV} (h : DvL n l cs ds) : Dv n l (.agg cs) (.agg ds) := .agg cs ds h.1 h.2
theorem Dv.tupL {n : Nat} {l : List Row} {cs ds : List AV} (h : DvL n l cs ds) : Dv n l (.tup cs) (.tup ds) := .tup cs ds h.1 h.2
theorem Dv.slR {n : Nat} {l : List Row} {i ver off len sz : Nat} {els : List (List AV)} {rows : List (List IV)} (hi : l[i]? = some (.live ver sz els)) (hle : off + len ≤ els.length) (hl : rows.length = len)
  (h : ∀ (k : Nat) (r : List AV) (row : List IV), els[off + k]? = some r → rows[k]? = some row → DvR n l r row) : Dv n l (.sl (n + i) ver off len) (.v (.isl sz rows)) :=
 .sl i ver off len sz els rows hi hle hl (fun k r row h1 h2 => (h k r row h1 h2).1) (fun k r row j a c h1 h2 => (h k r row h1 h2).2 j a c)
theorem Dv.slV {n : Nat} {l : List Row} {i ver sz len : Nat} {rows : List (List IV)} (hi : l[i]? = some (.live ver sz (vs rows))) (hl : len = rows.length) : Dv n l (.sl (n + i) ver 0 len) (.v (.isl sz rows)) := by
 refine Dv.slR hi (by rw [vs_len]; omega) hl.symm (fun k r row h1 h2 => ?_)
 rw [Nat.zero_add, vs_get, h2] at h1
 cases h1
 exact DvR.plain
theorem Dv.slVoff {n : Nat} {l : List Row} {i ver sz off len : Nat} {rows : List (List IV)} (hi : l[i]? = some (.live ver sz (vs rows))) (hl : off + len = rows.length) : Dv n l (.sl (n + i) ver off len) (.v (.isl sz (rows.drop off))) := by
 refine Dv.slR hi (by rw [vs_len]; omega) (by rw [List.length_drop]; omega) (fun k r row h1 h2 => ?_)
 rw [List.getElem?_drop] at h2
 rw [vs_get, h2] at h1
 cases h1
 exact DvR.plain
theorem Dv.lt {n : Nat} {l : List Row} {x y : AV} (h : Dv n l x y) (m : Nat) : AVlt m y := by
 induction h with
 | v x => exact .v x
 | z sz => exact .v _
 | sl => exact .v _
 | agg cs ds hl _ ih =>
   refine .agg _ (fun d hd => ?_)
   obtain ⟨i, hi⟩ := List.mem_iff_getElem?.1 hd
   have hl2 := (List.getElem?_eq_some_iff.1 hi).1
   exact ih i cs[i] d (List.getElem?_eq_getElem oM) hi
 | tup cs ds hl _ ih =>
   refine .tup _ (fun d hd => ?_)
   obtain ⟨i, hi⟩ := List.mem_iff_getElem?.1 hd
   have hl2 := (List.getElem?_eq_some_iff.1 hi).1
   exact ih i cs[i] d (List.getElem?_eq_getElem oM) hi
theorem Dv.more {n : Nat} {l : List Row} (k : List Row) {x y : AV} (h : Dv n l x y) : Dv n (l ++ k) x y := by
 induction h with
 | v x => exact .v x
 | z sz => exact .z sz
 | sl i ver off len sz els rows hi hle hl h1 _ ih =>
   exact .sl i ver off len sz els rows (by rw [List.getElem?_append_left (List.getElem?_eq_some_iff.1 hi).1]; exact hi) hle hl h1 ih
 | agg cs ds hl _ ih => exact .agg cs ds hl ih
 | tup cs ds hl _ ih => exact .tup cs ds hl ih
def FD (F : Nat → Prop) (L : LMap) (n : Nat) (l : List Row) (k : Nat) : Prop := F k ∨ ∃ i ver sz els q, l[i]? = some (.live ver sz els) ∧ L (n + i) ver = some q ∧ q.on k
theorem Dv.rep {F : Nat → Prop} {L : LMap} {b l : List Row} {w : World} (s : Sim F L (b ++ l) w) {x y : AV} (h : Dv b.length l x y) : ∀ v, RepA w F L x v → RepA w (FD F L b.length l) L y v := by
 have mono : ∀ {x : AV} {v : Value}, RepA w F L x v → RepA w (FD F L b.length l) L x v := fun hx => hx.mono (fun _ h => .inl h) (fun _ _ => rfl) (fun _ _ _ h => h)
 induction h with
 | v x => exact fun v hv => mono hv
 | z sz =>
   intro v hv
   cases hv.vI
   exact .v _ _ (.isl0 _ _ _ (Nat.zero_le _))
 | sl i ver off len sz els rows hi hle hl h1 h2 ih =>
   intro v hv
   have hrow : (b ++ l)[b.length + i]? = some (.live ver sz els) := by rw [List.getElem?_append_right oM, Nat.add_sub_cancel_left]; exact hi
   obtain ⟨q, k1, k2⟩ := s.row _ _ _ _ hrow
   refine .v _ _ ?_
   cases hv with
   | sl _ _ _ _ blk o z cap hL g1 g2 =>
     rw [k1] at hL; cases hL
     obtain ⟨q1, q2, q3, cur, T, q4, q5, q6, q7⟩ := k2
     subst q1
     have hcell : ∀ (k : Nat) (row : List IV) (j : Nat) (c : IV), rows[k]? = some row → row[j]? = some c → ∃ u, w.cell? ⟨blk, o + off * z + k * z + j, none⟩ = some u ∧ RepI w (FD F L b.length l) c u := by
      intro k row j c hk hj
      have hkl := (List.getElem?_eq_some_iff.1 hk).1
      have hjl := (List.getElem?_eq_some_iff.1 hj).1
      have hr : els[off + k]? = some els[off + k] := List.getElem?_eq_getElem oM
      have hlr := h1 k _ row hr hk
      have ha : els[off + k][j]? = some els[off + k][j] := List.getElem?_eq_getElem oM
      obtain ⟨_, u, g3, g4⟩ := q7 (off + k) _ j _ hr ha
      refine ⟨u, ?_, (ih k _ row j _ c hr hk ha hj u g4).vI⟩
      rw [Nat.add_mul] at g3
      simp only [World.cell?, q4]
      rw [← g3]
      simp [Nat.add_assoc]
     have := RepI.isl (w := w) (F := FD F L b.length l) rows blk (o + off * z) z (cap - off) (fun k j => (w.cell? ⟨blk, o + off * z + k * z + j, none⟩).getD undef) (.inr ⟨i, ver, z, els, _, hi, k1, rfl⟩) oM oM
      (fun k row hk => by
       have hkl := (List.getElem?_eq_some_iff.1 hk).1
       have hr : els[off + k]? = some els[off + k] := List.getElem?_eq_getElem oM
       rw [← h1 k _ row hr hk]
       exact q6 _ _ hr)
      (fun k row j c hk hj => by
       obtain ⟨u, g3, _⟩ := hcell k row j c hk hj
       rw [g3]; rfl)
      (fun k row j c hk hj => by
       obtain ⟨u, g3, g4⟩ := hcell k row j c hk hj
       rw [g3]; exact g4)
     rw [hl] at this
     exact this
   | slz =>
     have : rows = [] := List.eq_nil_of_length_eq_zero hl
     rw [this]; exact .isl0 _ _ _ oM
   | sln =>
     have : rows = [] := List.eq_nil_of_length_eq_zero hl
     rw [this]; exact .isl0 _ _ _ oM
 | agg cs ds hl _ ih =>
   intro v hv
   obtain ⟨us, rfl, hu⟩ := hv.aggL
   refine RepL.agg ⟨by rw [← hl]; exact hu.1, fun j d u hd hju => ?_⟩
   have hjl := (List.getElem?_eq_some_iff.1 hd).1
   have hc : cs[j]? = some cs[j] := List.getElem?_eq_getElem oM
   exact ih j _ d hc hd u (hu.2 j _ u hc hju)
 | tup cs ds hl _ ih =>
   intro v hv
   obtain ⟨us, rfl, hu⟩ := hv.tupL
   refine RepL.tup ⟨by rw [← hl]; exact hu.1, fun j d u hd hju => ?_⟩
   have hjl := (List.getElem?_eq_some_iff.1 hd).1
   have hc : cs[j]? = some cs[j] := List.getElem?_eq_getElem oM
   exact ih j _ d hc hd u (hu.2 j _ u hc hju)
def deadR (r : Row) : Row := .dead r.ver
theorem deadL_get {b l : List Row} {j v z : Nat} {els : List (List AV)} (h : (b ++ l.map deadR)[j]? = some (.live v z els)) : j < b.length ∧ (b ++ l)[j]? = some (.live v z els) := by
 by_cases hj : j < b.length
 ·rw [List.getElem?_append_left hj] at h ⊢
  exact ⟨hj, h⟩
 ·rw [List.getElem?_append_right oM, List.getElem?_map] at h
  cases hq : l[j - b.length]? with
  | none => rw [hq] at h; cases h
  | some r => rw [hq] at h; cases h
theorem Weak.deep {b l : List Row} {e e' : List AV} (hl : e.length = e'.length) (hd : ∀ (i : Nat) (x y : AV), e[i]? = some x → e'[i]? = some y → Dv b.length l x y) (hR : RowsLt b.length b) : Weak e b l e' b [] := by
 refine Weak.trans (e2 := e') (b2 := b) (l2 := l.map deadR) ?_ (Weak.trim (l1 := []) rfl (fun y hy => ?_) (by simpa using hR) RowsLt_nil)
 ·intro F L w a s hea
  have hown : ∀ k, Owned L (b ++ l.map deadR) k → Owned L (b ++ l) k := by
   rintro k ⟨j, v, z, els, q, h1, h2, h3⟩
   exact ⟨j, v, z, els, q, (deadL_get h1).2, h2, h3⟩
  have hin : ∀ {i ver sz els}, l[i]? = some (.live ver sz els) → (b ++ l)[b.length + i]? = some (.live ver sz els) := fun hi => by
   rw [List.getElem?_append_right oM, Nat.add_sub_cancel_left]; exact hi
  refine ⟨FD F L b.length l, L, ⟨fun j v z els hj => ?_, fun j v q hq => ?_, fun j j' v v' z z' e1 e2 bb q1 q2 h1 h2 => s.apart j j' v v' z z' e1 e2 bb q1 q2 (deadL_get h1).2 (deadL_get h2).2, fun k hk => ?_⟩,
   ⟨hea.1, by rw [← hl]; exact hea.2.1, fun i y v hy hv => ?_⟩, ⟨fun _ h => .inl h, fun _ _ _ _ h => h, rfl, rfl, rfl, Nat.le_refl _, fun _ _ _ => rfl, fun k _ ho => hown k ho, fun id hid v hv => ?_, fun k hk hf => ?_⟩, rfl⟩
  ·obtain ⟨q, g1, g2⟩ := s.row j v z els (deadL_get hj).2
   exact ⟨q, g1, g2.mono (fun _ _ => rfl) (fun _ _ h => h.mono (fun _ h => .inl h) (fun _ _ => rfl) (fun _ _ _ h => h))⟩
  ·obtain ⟨r, h1, h2⟩ := s.born j v q hq
   by_cases hj : j < b.length
   ·exact ⟨r, by rw [List.getElem?_append_left hj] at h1 ⊢; exact h1, h2⟩
   ·rw [List.getElem?_append_right oM] at h1
    exact ⟨deadR r, by rw [List.getElem?_append_right oM, List.getElem?_map, h1]; rfl, h2⟩
  ·rcases hk with hk | ⟨i, ver, sz, els, q, h1, h2, h3⟩
   ·exact ⟨(s.imm k hk).1, fun ho => (s.imm k hk).2 (hown k ho)⟩
   ·obtain ⟨q', g1, g2⟩ := s.row _ _ _ _ (hin h1)
    rw [h2] at g1; cases g1
    refine ⟨g2.lt h3, ?_⟩
    rintro ⟨j, v, z, els', q2, k1, k2, k3⟩
    obtain ⟨hj, k4⟩ := deadL_get k1
    have := s.apart j (b.length + i) v ver z sz els' els k q2 q k4 (hin h1) k2 h2 k3 h3
    omega
  ·have hil := (List.getElem?_eq_some_iff.1 hy).1
   have hx : e[i]? = some e[i] := List.getElem?_eq_getElem oM
   exact (hd i _ y hx hy).rep s v (hea.2.2 i _ v hx hv)
  ·rw [List.getElem?_append_left hid] at hv ⊢; exact hv
  ·rcases hf with hf | ⟨i, ver, sz, els, q, h1, h2, h3⟩
   ·exact .inl hf
   ·exact .inr ⟨_, _, _, _, _, hin h1, h2, h3⟩
 ·obtain ⟨i, hi⟩ := List.mem_iff_getElem?.1 hy
  have hil := (List.getElem?_eq_some_iff.1 hi).1
  exact (hd i _ y (List.getElem?_eq_getElem (show i < e.length by omega)) hi).lt _
theorem leave_deep {e : List AV} {l : List Row} {rs : List ARes} {Q : AV → List Row → List Row → Prop} {B : List Row} {ex : AExit} (hex : ex = .normal ∨ ex = .ret) {xs : List AV} (hx : resVs e B l rs = some xs) {y : AV} (hd : Dv B.length l (one xs) y) (hR : RowsLt B.length B) {b0 l0 : List Row} (hB : B = b0 ++ l0) (hq : Q y b0 l0) :
  Leaves rs Q b0.length ex e B l :=
 leave hex hx (y := y) (l' := []) (Weak.deep rfl (fun i x z hx hz => by
  cases i with
  | zero => simp at hx hz; subst hx; subst hz; exact hd
  | succ i => simp at hx) hR) hB (by rw [List.append_nil]; exact hq)
theorem ACalls.deep {P : Program} {f : Nat} {args : List AV} {b l N : List Row} {x y : AV} (hd : Dv (b.length + l.length) N x y)
  (h : ACalls P f args b l (fun r b' l' => r = x ∧ b' = b ∧ l' = l ++ N)) : ACalls P f args b l (fun r b' l' => r = y ∧ b' = b ∧ l' = l) := by
 refine ⟨h.1, fun F L w vs s hr => Calls.mono (h.2 F L w vs s hr) ?_⟩
 rintro en w' ⟨v, x', b', l', F', L', h1, h2, h3, h4, h5, rfl, rfl, rfl⟩
 have hbl : (b' ++ l).length = b'.length + l.length := List.length_append
 have hsim : Sim F' L' ((b' ++ l) ++ N) w' := by rw [List.append_assoc]; exact h3
 have hw : Weak [x'] (b' ++ l) N [y] (b' ++ l) [] := Weak.deep rfl (fun i x z hx hz => by
  cases i with
  | zero => simp at hx hz; subst hx; subst hz; rw [hbl]; exact hd
  | succ i => simp at hx) s.rowsLt
 obtain ⟨F3, L3, k1, k2, k3, k5⟩ := hw F' L' w' { tmps := #[v], defers := [] } hsim ⟨rfl, rfl, fun j z u hz hu => by
  cases j with
  | zero => simp at hz hu; subst hz; subst hu; exact h2
  | succ j => simp at hz⟩
 rw [List.append_nil] at k1 k3
 refine ⟨v, y, b', l, F3, L3, h1, k2.2.2 0 _ v rfl rfl, k1, ?_, h5, rfl, rfl, rfl⟩
 refine h4.trans ?_
 rw [← List.append_assoc]
 exact k3
end Go.Proofs.Ytilcmenglgdljaa
namespace Go.Proofs.Ytilcmenglgdljaa
set_option linter.unusedVariables false
set_option linter.unusedSimpArgs false
section
variable {b l : List Row} {e : List AV}
theorem nil_coreV {sz : Nat} (V : Nat) (F : Nat → Prop) (L : LMap) (w : World) (s : Sim F L (b ++ l) w) : ∃ L' : LMap, Sim F L' (b ++ (l ++ [.live V sz []])) w ∧ L' (b.length + l.length) V = some .nil ∧ (∀ i v q, L i v = some q → L' i v = some q) ∧
  Step b.length F L (b ++ l) w F L' (b ++ (l ++ [.live V sz []])) w := by
 have hlen : (b ++ l).length = b.length + l.length := by simp
 have hnone : ∀ V, L (b.length + l.length) V = none := by
  intro V
  cases hq : L (b.length + l.length) V with
  | none => rfl
  | some q => exact absurd (s.lt hq) oM
 obtain ⟨L', hLn, hLm, hLo⟩ : ∃ L' : LMap, L' (b.length + l.length) V = some .nil ∧ (∀ i v q, L i v = some q → L' i v = some q) ∧ ∀ i v, (i ≠ b.length + l.length ∨ v ≠ V) → L' i v = L i v := by
  refine ⟨fun i v => if i = b.length + l.length ∧ v = V then some .nil else L i v, by simp, ?_, ?_⟩
  ·intro i v q hl
   by_cases hi : i = b.length + l.length ∧ v = V
   ·obtain ⟨rfl, rfl⟩ := hi
    rw [hnone] at hl; cases hl
   ·simp [hi, hl]
  ·intro i v hi
   have : ¬ (i = b.length + l.length ∧ v = V) := fun ⟨a, b⟩ => hi.elim (fun h => h a) (fun h => h b)
   simp [this]
 have hold : ∀ j, j ≠ b.length + l.length → (b ++ (l ++ [Row.live V sz []]))[j]? = (b ++ l)[j]? := by
  intro j hj
  rw [← List.append_assoc]
  by_cases hjl : j < (b ++ l).length
  ·rw [List.getElem?_append_left hjl]
  ·rw [List.getElem?_eq_none (by simp; omega), List.getElem?_eq_none oM]
 have hnew : (b ++ (l ++ [Row.live V sz []]))[b.length + l.length]? = some (.live V sz []) := by
  rw [← List.append_assoc, List.getElem?_append_right oM]; simp
 have own : ∀ k, Owned L' (b ++ (l ++ [Row.live V sz []])) k → Owned L (b ++ l) k := by
  rintro k ⟨i, v, z, e1, q1, h1, h2, h3⟩
  by_cases hi : i = b.length + l.length
  ·subst hi
   rw [hnew] at h1; cases h1
   rw [hLn] at h2; cases h2
   exact h3.elim
  ·rw [hold i hi] at h1
   rw [hLo i v (.inl hi)] at h2
   exact ⟨i, v, z, e1, q1, h1, h2, h3⟩
 have mono : ∀ {x : AV} {v : Value}, RepA w F L x v → RepA w F L' x v := fun hx => hx.mono (fun _ h => h) (fun _ _ => rfl) hLm
 refine ⟨L', ⟨?_, ?_, ?_, fun k hk => ⟨(s.imm k hk).1, fun ho => (s.imm k hk).2 (own k ho)⟩⟩, hLn, hLm, ⟨fun _ h => h, fun i v q _ hl => hLm i v q hl, rfl, rfl, rfl, Nat.le_refl _, fun _ _ _ => rfl, fun k _ ho => own k ho, fun i hi v hv => by rw [hold i oM]; exact hv, fun _ _ h => .inl h⟩⟩
 ·intro j v z e1 hj
  by_cases hji : j = b.length + l.length
  ·subst hji
   rw [hnew] at hj
   cases hj
   exact ⟨.nil, hLn, rfl⟩
  ·rw [hold j hji] at hj
   obtain ⟨q, hl1, hl2⟩ := s.row j v z e1 hj
   exact ⟨q, hLm _ _ _ hl1, hl2.mono (fun _ _ => rfl) (fun _ _ => mono)⟩
 ·intro i v q hl1
  by_cases hi : i = b.length + l.length
  ·subst hi
   refine ⟨_, hnew, ?_⟩
   by_cases hv : v = V
   ·subst hv; exact Nat.le_refl _
   ·rw [hLo _ v (.inr hv)] at hl1
    exact absurd (s.lt hl1) oM
  ·rw [hLo i v (.inl hi)] at hl1
   obtain ⟨r, h1, h2⟩ := s.born _ _ _ hl1
   exact ⟨r, by rw [hold i hi]; exact h1, h2⟩
 ·intro i i' v v' z z' e1 e2 bb q1 q2 h1 h2 h3 h4 h5 h6
  by_cases hi : i = b.length + l.length
  ·subst hi
   rw [hnew] at h1; cases h1
   rw [hLn] at h3; cases h3
   exact h5.elim
  ·by_cases hi' : i' = b.length + l.length
   ·subst hi'
    rw [hnew] at h2; cases h2
    rw [hLn] at h4; cases h4
    exact h6.elim
   ·rw [hold i hi] at h1
    rw [hold i' hi'] at h2
    rw [hLo i v (.inl hi)] at h3
    rw [hLo i' v' (.inl hi')] at h4
    exact s.apart i i' v v' z z' e1 e2 bb q1 q2 h1 h2 h3 h4 h5 h6
theorem Weak.nilV {sz : Nat} (V : Nat) : Weak [.v .zsl] b l [.sl (b.length + l.length) V 0 0] b (l ++ [.live V sz []]) := by
 intro F L w a s hea
 obtain ⟨L', s', hLn, hLm, st⟩ := nil_coreV (sz := sz) V F L w s
 refine ⟨F, L', s', ⟨hea.1, by simpa using hea.2.1, fun i x v hx hv => ?_⟩, st, rfl⟩
 cases i with
 | zero =>
   simp at hx; subst hx
   have := hea.2.2 0 _ v rfl hv
   cases this.vI
   exact .sln _ _ _ hLn
 | succ i => simp at hx
inductive Rn (n m : Nat) (σ : Nat → Nat) : AV → AV → Prop where
 | any : Rn n m σ .any .any
 | v (x : IV) : Rn n m σ (.v x) (.v x)
 | sl (j ver off len : Nat) (h : j < m) : Rn n m σ (.sl (n + σ j) ver off len) (.sl (n + j) ver off len)
 | ptr (j ver k i : Nat) (h : j < m) : Rn n m σ (.ptr (n + σ j) ver k i) (.ptr (n + j) ver k i)
 | mp (j ver : Nat) (h : j < m) : Rn n m σ (.mp (n + σ j) ver) (.mp (n + j) ver)
 | slB (id ver off len : Nat) (h : id < n) : Rn n m σ (.sl id ver off len) (.sl id ver off len)
 | ptrB (id ver k i : Nat) (h : id < n) : Rn n m σ (.ptr id ver k i) (.ptr id ver k i)
 | mpB (id ver : Nat) (h : id < n) : Rn n m σ (.mp id ver) (.mp id ver)
 | agg (cs ds : List AV) (hl : cs.length = ds.length) (h : ∀ (i : Nat) (c d : AV), cs[i]? = some c → ds[i]? = some d → Rn n m σ c d) : Rn n m σ (.agg cs) (.agg ds)
 | tup (cs ds : List AV) (hl : cs.length = ds.length) (h : ∀ (i : Nat) (c d : AV), cs[i]? = some c → ds[i]? = some d → Rn n m σ c d) : Rn n m σ (.tup cs) (.tup ds)
 | fn (f : Nat) (cs ds : List AV) (hl : cs.length = ds.length) (h : ∀ (i : Nat) (c d : AV), cs[i]? = some c → ds[i]? = some d → Rn n m σ c d) : Rn n m σ (.fn f cs) (.fn f ds)
def RnL (n m : Nat) (σ : Nat → Nat) (cs ds : List AV) : Prop := cs.length = ds.length ∧ ∀ (i : Nat) (c d : AV), cs[i]? = some c → ds[i]? = some d → Rn n m σ c d
theorem RnL.nil {n m : Nat} {σ : Nat → Nat} : RnL n m σ [] [] := ⟨rfl, fun j a c h => by simp at h⟩
theorem RnL.cons {n m : Nat} {σ : Nat → Nat} {a d : AV} {cs ds : List AV} (h : Rn n m σ a d) (t : RnL n m σ cs ds) : RnL n m σ (a :: cs) (d :: ds) := by
 refine ⟨by simp [t.1], fun j x y hx hy => ?_⟩
 cases j with
 | zero => simp at hx hy; subst hx; subst hy; exact h
 | succ j => exact t.2 j x y (by simpa using hx) (by simpa using hy)
theorem RnL.plain {n m : Nat} {σ : Nat → Nat} {row : List IV} : RnL n m σ (row.map .v) (row.map .v) := by
 refine ⟨rfl, fun j a c ha hc => ?_⟩
 rw [ha] at hc; cases hc
 rw [List.getElem?_map] at ha
 cases hq : row[j]? with
 | none => rw [hq] at ha; cases ha
 | some y => rw [hq] at ha; cases ha; exact .v y
theorem Rn.aggL {n m : Nat} {σ : Nat → Nat} {cs ds : List AV} (h : RnL n m σ cs ds) : Rn n m σ (.agg cs) (.agg ds) := .agg cs ds h.1 h.2
theorem Rn.tupL {n m : Nat} {σ : Nat → Nat} {cs ds : List AV} (h : RnL n m σ cs ds) : Rn n m σ (.tup cs) (.tup ds) := .tup cs ds h.1 h.2
theorem Rn.slE {n m : Nat} {σ : Nat → Nat} {i j ver off len : Nat} (h : σ j = i) (hj : j < m) : Rn n m σ (.sl (n + i) ver off len) (.sl (n + j) ver off len) := by subst h; exact .sl j ver off len hj
def RnR (n m : Nat) (σ : Nat → Nat) : Row → Row → Prop
 | .live v s els, .live v' s' els' => v = v' ∧ s = s' ∧ els.length = els'.length ∧ ∀ (k : Nat) (r r' : List AV), els[k]? = some r → els'[k]? = some r' → RnL n m σ r r'
 | .dead v, .dead v' => v = v'
 | _, _ => False
theorem RnR.plain {n m : Nat} {σ : Nat → Nat} {v s : Nat} {rows : List (List IV)} : RnR n m σ (.live v s (vs rows)) (.live v s (vs rows)) := by
 refine ⟨rfl, rfl, rfl, fun k r r' h1 h2 => ?_⟩
 rw [h1] at h2; cases h2
 rw [vs_get] at h1
 cases hq : rows[k]? with
 | none => rw [hq] at h1; cases h1
 | some y => rw [hq] at h1; cases h1; exact RnL.plain
theorem AVlt.rn {n m : Nat} {σ : Nat → Nat} {x : AV} (h : AVlt n x) : Rn n m σ x x := by
 induction h with
 | any => exact .any
 | v x => exact .v x
 | sl id ver off len h => exact .slB id ver off len h
 | ptr id ver k j h => exact .ptrB id ver k j h
 | mp id ver h => exact .mpB id ver h
 | agg cs _ ih => exact .agg cs cs rfl (fun i c d h1 h2 => by rw [h1] at h2; cases h2; exact ih c (List.mem_of_getElem? h1))
 | tup cs _ ih => exact .tup cs cs rfl (fun i c d h1 h2 => by rw [h1] at h2; cases h2; exact ih c (List.mem_of_getElem? h1))
 | fn f cs _ ih => exact .fn f cs cs rfl (fun i c d h1 h2 => by rw [h1] at h2; cases h2; exact ih c (List.mem_of_getElem? h1))
theorem Rn.rep {n m : Nat} {σ : Nat → Nat} {w : World} {F : Nat → Prop} {L L' : LMap} (hB : ∀ id ver, id < n → L' id ver = L id ver) (hS : ∀ j ver, j < m → L' (n + j) ver = L (n + σ j) ver) {x y : AV} (h : Rn n m σ x y) : ∀ {v : Value}, RepA w F L x v → RepA w F L' y v := by
 induction h with
 | any => exact fun _ => .any _
 | v x => exact fun h => .v _ _ h.vI
 | sl j ver off len hj =>
   intro v h
   cases h with
   | sl _ _ _ _ b o sz cap hL h1 h2 => exact .sl _ _ _ _ b o sz cap (by rw [hS j ver hj]; exact hL) h1 h2
   | slz _ _ _ b o sz cap x hL h1 => exact .slz _ _ _ b o sz cap x (by rw [hS j ver hj]; exact hL) h1
   | sln _ _ ad hL => exact .sln _ _ ad (by rw [hS j ver hj]; exact hL)
 | ptr j ver k i hj => intro v h; cases h with | ptr _ _ _ _ b o sz cap hL => exact .ptr _ _ _ _ b o sz cap (by rw [hS j ver hj]; exact hL)
 | mp j ver hj => intro v h; cases h with | mp _ _ b hL => exact .mp _ _ b (by rw [hS j ver hj]; exact hL)
 | slB id ver off len hj =>
   intro v h
   cases h with
   | sl _ _ _ _ b o sz cap hL h1 h2 => exact .sl _ _ _ _ b o sz cap (by rw [hB id ver hj]; exact hL) h1 h2
   | slz _ _ _ b o sz cap x hL h1 => exact .slz _ _ _ b o sz cap x (by rw [hB id ver hj]; exact hL) h1
   | sln _ _ ad hL => exact .sln _ _ ad (by rw [hB id ver hj]; exact hL)
 | ptrB id ver k i hj => intro v h; cases h with | ptr _ _ _ _ b o sz cap hL => exact .ptr _ _ _ _ b o sz cap (by rw [hB id ver hj]; exact hL)
 | mpB id ver hj => intro v h; cases h with | mp _ _ b hL => exact .mp _ _ b (by rw [hB id ver hj]; exact hL)
 | agg cs ds hl _ ih =>
   intro v h
   obtain ⟨vs, rfl, hr⟩ := h.aggL
   exact RepL.agg ⟨by rw [← hl]; exact hr.1, fun i d u hd hu => by
    have hi : i < cs.length := by rw [hl]; exact (List.getElem?_eq_some_iff.1 hd).1
    exact ih i _ d (List.getElem?_eq_getElem hi) hd (hr.2 i _ u (List.getElem?_eq_getElem hi) hu)⟩
 | tup cs ds hl _ ih =>
   intro v h
   obtain ⟨vs, rfl, hr⟩ := h.tupL
   exact RepL.tup ⟨by rw [← hl]; exact hr.1, fun i d u hd hu => by
    have hi : i < cs.length := by rw [hl]; exact (List.getElem?_eq_some_iff.1 hd).1
    exact ih i _ d (List.getElem?_eq_getElem hi) hd (hr.2 i _ u (List.getElem?_eq_getElem hi) hu)⟩
 | fn f cs ds hl _ ih =>
   intro v h
   cases h with
   | fn _ _ us hul hr =>
     exact .fn f ds us (by rw [← hl]; exact hul) (fun i d u hd hu => by
      have hi : i < cs.length := by rw [hl]; exact (List.getElem?_eq_some_iff.1 hd).1
      exact ih i _ d (List.getElem?_eq_getElem hi) hd (hr i _ u (List.getElem?_eq_getElem hi) hu))
theorem Weak.ren {e' : List AV} {l' : List Row} (σ : Nat → Nat) (hinj : ∀ i j, i < l'.length → j < l'.length → σ i = σ j → i = j)
  (hrow : ∀ j r', l'[j]? = some r' → ∃ r, l[σ j]? = some r ∧ RnR b.length l'.length σ r r') (hR : RowsLt b.length b) (hl : e.length = e'.length) (he : ∀ (i : Nat) (x y : AV), e[i]? = some x → e'[i]? = some y → Rn b.length l'.length σ x y) : Weak e b l e' b l' := by
 intro F L w a s hea
 obtain ⟨L', hB, hS, hN⟩ : ∃ L' : LMap, (∀ id ver, id < b.length → L' id ver = L id ver) ∧ (∀ j ver, j < l'.length → L' (b.length + j) ver = L (b.length + σ j) ver) ∧ ∀ j ver, l'.length ≤ j → L' (b.length + j) ver = none :=
  ⟨fun id ver => if id < b.length then L id ver else if id - b.length < l'.length then L (b.length + σ (id - b.length)) ver else none, fun id ver h => by simp [h], fun j ver h => by simp only; rw [if_neg oM, Nat.add_sub_cancel_left, if_pos h], fun j ver h => by simp only; rw [if_neg oM, Nat.add_sub_cancel_left, if_neg oM]⟩
 have hback : ∀ {id ver q}, L' id ver = some q → (id < b.length ∧ L id ver = some q) ∨ ∃ j, id = b.length + j ∧ j < l'.length ∧ L (b.length + σ j) ver = some q := by
  intro id ver q hq
  by_cases h : id < b.length
  ·exact .inl ⟨h, by rw [← hB id ver h]; exact hq⟩
  ·obtain ⟨j, rfl⟩ : ∃ j, id = b.length + j := ⟨id - b.length, by omega⟩
   by_cases hj : j < l'.length
   ·exact .inr ⟨j, rfl, hj, by rw [← hS j ver hj]; exact hq⟩
   ·rw [hN j ver oM] at hq; cases hq
 have gB : ∀ {id : Nat} (m : List Row), id < b.length → (b ++ m)[id]? = b[id]? := fun m h => List.getElem?_append_left h
 have gL : ∀ {j : Nat} (m : List Row), (b ++ m)[b.length + j]? = m[j]? := fun m => by rw [List.getElem?_append_right oM, Nat.add_sub_cancel_left]
 have live : ∀ {id ver sz els}, (b ++ l')[id]? = some (.live ver sz els) → (id < b.length ∧ (b ++ l)[id]? = some (.live ver sz els)) ∨ ∃ j els0, id = b.length + j ∧ j < l'.length ∧ (b ++ l)[b.length + σ j]? = some (.live ver sz els0) ∧ RnR b.length l'.length σ (.live ver sz els0) (.live ver sz els) := by
  intro id ver sz els h
  by_cases hid : id < b.length
  ·exact .inl ⟨hid, by rw [gB _ hid] at h ⊢; exact h⟩
  ·obtain ⟨j, rfl⟩ : ∃ j, id = b.length + j := ⟨id - b.length, by omega⟩
   rw [gL] at h
   obtain ⟨r, h1, h2⟩ := hrow j _ h
   have hj := (List.getElem?_eq_some_iff.1 h).1
   cases r with
   | dead v => exact h2.elim
   | live v z els0 =>
     obtain ⟨rfl, rfl, h3⟩ := h2
     exact .inr ⟨j, els0, rfl, hj, by rw [gL]; exact h1, rfl, rfl, h3⟩
 have own : ∀ k, Owned L' (b ++ l') k → Owned L (b ++ l) k := by
  rintro k ⟨id, ver, sz, els, q, h1, h2, h3⟩
  rcases live h1 with ⟨hid, g1⟩ | ⟨j, els0, rfl, hj, g1, _⟩
  ·rw [hB id ver hid] at h2; exact ⟨id, ver, sz, els, q, g1, h2, h3⟩
  ·rw [hS j ver hj] at h2; exact ⟨_, ver, sz, els0, q, g1, h2, h3⟩
 have rep : ∀ {x y : AV} {v : Value}, Rn b.length l'.length σ x y → RepA w F L x v → RepA w F L' y v := fun h => h.rep hB hS
 refine ⟨F, L', ⟨fun id ver sz els h => ?_, fun id ver q hq => ?_, fun id id' ver ver' s1 s2 els els' bb q q' h1 h2 h3 h4 h5 h6 => ?_, fun k hk => ⟨(s.imm k hk).1, fun ho => (s.imm k hk).2 (own k ho)⟩⟩, ⟨hea.1, by rw [← hl]; exact hea.2.1, fun i y v hy hv => ?_⟩,
  ⟨fun _ h => h, fun id ver q hid hq => by rw [hB id ver hid]; exact hq, rfl, rfl, rfl, Nat.le_refl _, fun _ _ _ => rfl, fun k _ ho => own k ho, fun id hid v hv => by rw [gB _ hid] at hv ⊢; exact hv, fun _ _ h => .inl h⟩, rfl⟩
 ·rcases live h with ⟨hid, g1⟩ | ⟨j, els0, rfl, hj, g1, _, _, g2, g3⟩
  ·obtain ⟨q, k1, k2⟩ := s.row _ _ _ _ g1
   refine ⟨q, by rw [hB id ver hid]; exact k1, ?_⟩
   have hlt : ∀ row ∈ els, ∀ c ∈ row, AVlt b.length c := hR id ver sz els (by rw [gB _ hid] at h; exact h)
   cases q with
   | nil => exact k2
   | pl blk o z cap =>
     obtain ⟨q1, q2, q3, cur, T, q4, q5, q6, q7⟩ := k2
     exact ⟨q1, q2, q3, cur, T, q4, q5, q6, fun k row i c hk hi => by
      obtain ⟨e1, u, e2, e3⟩ := q7 k row i c hk hi
      exact ⟨e1, u, e2, rep (hlt row (List.mem_of_getElem? hk) c (List.mem_of_getElem? hi)).rn e3⟩⟩
   | mp blk =>
     obtain ⟨es, clk, q4, q5, q6⟩ := k2
     refine ⟨es, clk, q4, q5, fun k row e1 hk he => ?_⟩
     obtain ⟨x, y, rfl, e2, e3⟩ := q6 k row e1 hk he
     exact ⟨x, y, rfl, rep (hlt _ (List.mem_of_getElem? hk) x (by simp)).rn e2, rep (hlt _ (List.mem_of_getElem? hk) y (by simp)).rn e3⟩
  ·obtain ⟨q, k1, k2⟩ := s.row _ _ _ _ g1
   refine ⟨q, by rw [hS j ver hj]; exact k1, ?_⟩
   have cell : ∀ {x y : AV}, Rn b.length l'.length σ x y → x.cell = y.cell := by
    intro x y h; cases h <;> rfl
   have prev : ∀ {k : Nat} {row : List AV}, els[k]? = some row → ∃ r0, els0[k]? = some r0 ∧ RnL b.length l'.length σ r0 row := by
    intro k row hk
    have hkl := (List.getElem?_eq_some_iff.1 hk).1
    exact ⟨els0[k], List.getElem?_eq_getElem oM, g3 k _ row (List.getElem?_eq_getElem oM) hk⟩
   have prev2 : ∀ {r0 row : List AV} {i : Nat} {c : AV}, RnL b.length l'.length σ r0 row → row[i]? = some c → ∃ c0, r0[i]? = some c0 ∧ Rn b.length l'.length σ c0 c := by
    intro r0 row i c h hi
    have hil := (List.getElem?_eq_some_iff.1 hi).1
    exact ⟨r0[i]'(by rw [h.1]; exact hil), List.getElem?_eq_getElem _, h.2 i _ c (List.getElem?_eq_getElem _) hi⟩
   cases q with
   | nil =>
     have : els0 = [] := k2
     subst this
     exact List.eq_nil_of_length_eq_zero (by simpa using g2.symm)
   | pl blk o z cap =>
     obtain ⟨q1, q2, q3, cur, T, q4, q5, q6, q7⟩ := k2
     refine ⟨q1, by omega, q3, cur, T, q4, q5, fun k row hk => ?_, fun k row i c hk hi => ?_⟩
     ·obtain ⟨r0, e1, e2⟩ := prev hk
      rw [← e2.1]; exact q6 k r0 e1
     ·obtain ⟨r0, e1, e2⟩ := prev hk
      obtain ⟨c0, e3, e4⟩ := prev2 e2 hi
      obtain ⟨e5, u, e6, e7⟩ := q7 k r0 i c0 e1 e3
      exact ⟨by rw [← cell e4]; exact e5, u, e6, rep e4 e7⟩
   | mp blk =>
     obtain ⟨es, clk, q4, q5, q6⟩ := k2
     refine ⟨es, clk, q4, by omega, fun k row e1 hk he => ?_⟩
     obtain ⟨r0, e2, e3⟩ := prev hk
     obtain ⟨x, y, rfl, e5, e6⟩ := q6 k r0 e1 e2 he
     obtain ⟨e7, e8⟩ := e3
     obtain ⟨x', y', rfl⟩ : ∃ x' y', row = [x', y'] := by
      match row, e7 with
      | [x', y'], _ => exact ⟨x', y', rfl⟩
     exact ⟨x', y', rfl, rep (e8 0 x x' rfl rfl) e5, rep (e8 1 y y' rfl rfl) e6⟩
 ·rcases hback hq with ⟨hid, g1⟩ | ⟨j, rfl, hj, g1⟩
  ·obtain ⟨r, h1, h2⟩ := s.born _ _ _ g1
   exact ⟨r, by rw [gB _ hid] at h1 ⊢; exact h1, h2⟩
  ·obtain ⟨r, h1, h2⟩ := s.born _ _ _ g1
   rw [gL] at h1
   obtain ⟨r0, h3, h4⟩ := hrow j l'[j] (List.getElem?_eq_getElem hj)
   rw [h1] at h3; cases h3
   refine ⟨l'[j], by rw [gL]; exact List.getElem?_eq_getElem hj, ?_⟩
   revert h4
   cases r with
   | live v z els0 =>
     cases l'[j] with
     | live v' z' els' => rintro ⟨rfl, _⟩; exact h2
     | dead v' => exact fun h => h.elim
   | dead v =>
     cases l'[j] with
     | live v' z' els' => exact fun h => h.elim
     | dead v' => intro h; cases h; exact h2
 ·rcases live h1 with ⟨i1, g1⟩ | ⟨j1, els1, rfl, i1, g1, _⟩ <;> rcases live h2 with ⟨i2, g2⟩ | ⟨j2, els2, rfl, i2, g2, _⟩
  ·rw [hB _ _ i1] at h3; rw [hB _ _ i2] at h4
   exact s.apart _ _ _ _ _ _ _ _ bb _ _ g1 g2 h3 h4 h5 h6
  ·rw [hB _ _ i1] at h3; rw [hS _ _ i2] at h4
   have := s.apart _ _ _ _ _ _ _ _ bb _ _ g1 g2 h3 h4 h5 h6
   omega
  ·rw [hS _ _ i1] at h3; rw [hB _ _ i2] at h4
   have := s.apart _ _ _ _ _ _ _ _ bb _ _ g1 g2 h3 h4 h5 h6
   omega
  ·rw [hS _ _ i1] at h3; rw [hS _ _ i2] at h4
   have := s.apart _ _ _ _ _ _ _ _ bb _ _ g1 g2 h3 h4 h5 h6
   rw [hinj j1 j2 i1 i2 oM]
 ·have hil := (List.getElem?_eq_some_iff.1 hy).1
  have hx : e[i]? = some e[i] := List.getElem?_eq_getElem oM
  exact rep (he i _ y hx hy) (hea.2.2 i _ v hx hv)
theorem Weak.renM {e' : List AV} {l' : List Row} {m : Nat} (hm : l'.length = m) (σ : Nat → Nat) (hinj : ∀ i j, i < m → j < m → σ i = σ j → i = j)
  (hrow : ∀ j r', l'[j]? = some r' → ∃ r, l[σ j]? = some r ∧ RnR b.length m σ r r') (hR : RowsLt b.length b) (hl : e.length = e'.length) (he : ∀ (i : Nat) (x y : AV), e[i]? = some x → e'[i]? = some y → Rn b.length m σ x y) : Weak e b l e' b l' := by
 subst hm
 exact Weak.ren σ hinj hrow hR hl he
end
theorem ACalls.post {P : Program} {f : Nat} {args : List AV} {b l N N' : List Row} {x x' : AV} (hw : RowsLt (b ++ l).length (b ++ l) → Weak [x] (b ++ l) N [x'] (b ++ l) N')
  (h : ACalls P f args b l (fun r b' l' => r = x ∧ b' = b ∧ l' = l ++ N)) : ACalls P f args b l (fun r b' l' => r = x' ∧ b' = b ∧ l' = l ++ N') := by
 refine ⟨h.1, fun F L w vs s hr => Calls.mono (h.2 F L w vs s hr) ?_⟩
 rintro en w' ⟨v, y, b', l', F', L', h1, h2, h3, h4, h5, rfl, rfl, rfl⟩
 have hsim : Sim F' L' ((b' ++ l) ++ N) w' := by rw [List.append_assoc]; exact h3
 obtain ⟨F3, L3, k1, k2, k3, k5⟩ := hw s.rowsLt F' L' w' { tmps := #[v], defers := [] } hsim ⟨rfl, rfl, fun j z u hz hu => by
  cases j with
  | zero => simp at hz hu; subst hz; subst hu; exact h2
  | succ j => simp at hz⟩
 refine ⟨v, x', b', l ++ N', F3, L3, h1, k2.2.2 0 _ v rfl rfl, ?_, ?_, h5, rfl, rfl, rfl⟩
 ·rw [← List.append_assoc]; exact k1
 ·refine h4.trans ?_
  rw [← List.append_assoc, ← List.append_assoc]
  exact k3.weaken (by simp)
end Go.Proofs.Ytilcmenglgdljaa
namespace Go.Proofs.Ytilcmenglgdljaa
set_option linter.unusedVariables false
set_option linter.unusedSimpArgs false
structure Ms where
 fr : Int
 to : Int
 nu : Int
 body : List Int
structure Nw where
 now : Int
 fifo : Bool
 l : List Ms
 tm : List Int
 fates : List (Int × Int)
theorem Nw.eq_iff {a c : Nw} : a = c ↔ a.now = c.now ∧ a.fifo = c.fifo ∧ a.l = c.l ∧ a.tm = c.tm ∧ a.fates = c.fates := by cases a; cases c; simp
def eMs (m : Ms) : List IV := [.int .i64 m.fr, .int .i64 m.to, .int .i64 m.nu, .isl 1 (m.body.map eI)]
def eFt (f : Int × Int) : List IV := [.int .i64 f.1, .int .i64 f.2]
def eNw (n : Nw) : List IV := [.int .i64 n.now, .bool n.fifo, .isl 4 (n.l.map eMs), .isl 1 (n.tm.map eI), .isl 2 (n.fates.map eFt)]
def dfMs : Ms := ⟨0, 0, 0, []⟩
def nw0 : Nw := ⟨0, false, [], [], []⟩
def ptB (p : Int) : Bool := decide (0 ≤ p ∧ p ≤ 7)
def vlB (n : Int) : Bool := decide (-1073741824 ≤ n ∧ n ≤ 1073741824)
def msB (m : Ms) : Bool := ptB m.fr && (ptB m.to && (decide (m.fr ≠ m.to) && (decide (0 ≤ m.nu ∧ m.nu ≤ 199) && (decide (m.body.length ≤ 20) && m.body.all vlB))))
def ftB (f : Int × Int) : Bool := decide ((0 ≤ f.1 ∧ f.1 ≤ 3) ∧ 0 ≤ f.2 ∧ f.2 ≤ 1000000)
def ftsB (l : List (Int × Int)) : Bool := l.all ftB
def mtB (n : Nw) (i : Nat) : Bool := msB (n.l.getD i dfMs) && decide (0 ≤ n.tm.getD i 0 ∧ n.tm.getD i 0 ≤ 1099512627776 ∧ (0 < i → n.tm.getD (i - 1) 0 ≤ n.tm.getD i 0))
def nwB (n : Nw) : Bool := decide (0 ≤ n.now ∧ n.now ≤ 1099511627776) && (decide (n.l.length = n.tm.length) && (decide (n.l.length ≤ 1000) && (decide (n.fates.length ≤ 1000) && (ftsB n.fates && (List.range n.l.length).all (mtB n)))))
structure NwS (n : Nw) : Prop where
 l : n.l.length ≤ 1000000
 tm : n.tm.length ≤ 1000000
 fates : n.fates.length ≤ 1000000
 body : ∀ m ∈ n.l, m.body.length ≤ 1000000
structure NwV (n : Nw) : Prop where
 now : 0 ≤ n.now ∧ n.now ≤ 1099511627776
 len : n.l.length = n.tm.length
 l : n.l.length ≤ 1000
 fl : n.fates.length ≤ 1000
 fates : ∀ f ∈ n.fates, ftB f = true
 ms : ∀ m ∈ n.l, msB m = true
 tm : ∀ t ∈ n.tm, 0 ≤ t ∧ t ≤ 1099512627776
 mono : ∀ i, i + 1 < n.tm.length → n.tm.getD i 0 ≤ n.tm.getD (i + 1) 0
theorem msB_body {m : Ms} (h : msB m = true) : m.body.length ≤ 20 := by
 unfold msB at h
 simp only [Bool.and_eq_true, decide_eq_true_eq] at h
 exact h.2.2.2.2.1
theorem nwB_iff {n : Nw} : nwB n = true ↔ NwV n := by
 unfold nwB ftsB
 simp only [Bool.and_eq_true, decide_eq_true_eq, List.all_eq_true]
 constructor
 ·rintro ⟨h1, h2, h3, h4, h5, h6⟩
  have key : ∀ i, i < n.l.length → _ := fun i hi => h6 i (List.mem_range.2 hi)
  unfold mtB at key
  simp only [Bool.and_eq_true, decide_eq_true_eq] at key
  refine ⟨h1, h2, h3, h4, h5, fun m hm => ?_, fun t ht => ?_, fun i hi => ?_⟩
  ·obtain ⟨i, hi, rfl⟩ := List.getElem_of_mem hm
   have := (key i hi).1
   rwa [getD_at hi] at this
  ·obtain ⟨i, hi, rfl⟩ := List.getElem_of_mem ht
   have := (key i oM).2
   rw [getD_at hi] at this
   exact ⟨this.1, this.2.1⟩
  ·exact (key (i + 1) oM).2.2.2 oM
 ·intro h
  refine ⟨h.now, h.len, h.l, h.fl, h.fates, fun i hi => ?_⟩
  have hi := List.mem_range.1 hi
  unfold mtB
  simp only [Bool.and_eq_true, decide_eq_true_eq]
  have hl := h.len
  rw [getD_at hi]
  refine ⟨h.ms _ (List.getElem_mem _), ?_⟩
  have h1 := h.tm n.tm[i] (List.getElem_mem oM)
  rw [← getD_at (d := 0)] at h1
  refine ⟨h1.1, h1.2, fun h0 => ?_⟩
  have := h.mono (i - 1) oM
  rwa [show i - 1 + 1 = i by omega] at this
theorem NwV.s {n : Nw} (h : NwV n) : NwS n := ⟨by have := h.l; omega, by have := h.l; have := h.len; omega, by have := h.fl; omega, fun m hm => by have := msB_body (h.ms m hm); omega⟩
theorem NwV.sorted {n : Nw} (h : NwV n) : ∀ i j, i ≤ j → j < n.tm.length → n.tm.getD i 0 ≤ n.tm.getD j 0 := by
 intro i j hij
 induction j with
 | zero => intro _; rw [show i = 0 by omega]; exact Int.le_refl _
 | succ j ih =>
   intro hj
   by_cases he : i = j + 1
   ·rw [he]; exact Int.le_refl _
   ·exact Int.le_trans (ih oM oM) (h.mono j hj)
def leN (l : List Int) (a : Int) : Nat := (l.takeWhile fun t => decide (t ≤ a)).length
theorem leN_le {l : List Int} {a : Int} : leN l a ≤ l.length := by
 unfold leN
 exact (List.takeWhile_sublist _).length_le
theorem leN_eq {l : List Int} {a : Int} {i : Nat} (hi : i ≤ l.length) (h1 : ∀ j, j < i → l.getD j 0 ≤ a) (h2 : i < l.length → a < l.getD i 0) : leN l a = i := by
 induction l generalizing i with
 | nil => simp at hi; subst hi; rfl
 | cons x l ih =>
   unfold leN
   rw [List.takeWhile_cons]
   cases i with
   | zero =>
     have := h2 (by simp)
     simp at this
     rw [if_neg (by simp; omega)]
     rfl
   | succ i =>
     have h0 := h1 0 oM
     simp at h0
     rw [if_pos (by simpa using h0), List.length_cons]
     congr 1
     exact ih (by simpa using hi) (fun j hj => by have := h1 (j + 1) oM; simpa using this) (fun h => by have := h2 (by simp; omega); simpa using this)
def arAt (n : Nw) (m : Ms) : Nat → Int
 | 0 => n.now + (n.fates.headD (1, 0)).2
 | i + 1 => if n.fifo = true ∧ (n.l.getD i dfMs).fr = m.fr ∧ (n.l.getD i dfMs).to = m.to then max (arAt n m i) (n.tm.getD i 0) else arAt n m i
def timN (n : Nw) (m : Ms) : Int := arAt n m n.l.length
def copN (n : Nw) : Int := (n.fates.headD (1, 0)).1
def insN (n : Nw) (m : Ms) (a : Int) (c : Nat) : Nw := ⟨n.now, n.fifo, n.l.take (leN n.tm a) ++ List.replicate c m ++ n.l.drop (leN n.tm a), n.tm.take (leN n.tm a) ++ List.replicate c a ++ n.tm.drop (leN n.tm a), n.fates.drop 1⟩
def sdE (n : Nw) (m : Ms) : Int := if timN n m > 1099512627776 then 9 else if (n.l.length : Int) + copN n > 1000 then 5 else 0
def sdR (n : Nw) (m : Ms) : Nw := if sdE n m = 0 then insN n m (timN n m) (copN n).toNat else nw0
theorem head_ok {n : Nw} (h : NwV n) : (0 ≤ (n.fates.headD (1, 0)).1 ∧ (n.fates.headD (1, 0)).1 ≤ 3) ∧ 0 ≤ (n.fates.headD (1, 0)).2 ∧ (n.fates.headD (1, 0)).2 ≤ 1000000 := by
 cases hf : n.fates with
 | nil => simp
 | cons f r =>
   have := h.fates f (by rw [hf]; simp)
   unfold ftB at this
   simpa using this
theorem arAt_in {n : Nw} (h : NwV n) {m : Ms} : ∀ i, i ≤ n.l.length → n.now ≤ arAt n m i ∧ arAt n m i ≤ 1099512627776
 | 0, _ => by have := head_ok h; have := h.now; simp only [arAt]; omega
 | i + 1, hi => by
   have ih := arAt_in h (m := m) i oM
   have hl := h.len
   have := h.tm (n.tm.getD i 0) (by rw [getD_at oM]; exact List.getElem_mem _)
   simp only [arAt]
   split <;> omega
def arB (n : Nw) (to : Int) (i : Nat) : Bool := decide ((n.l.getD i dfMs).to = to) && decide (n.tm.getD i 0 ≤ n.now)
def fiR (n : Nw) (to : Int) : Int := wIdx (arB n to) n.l.length
def woN (n : Nw) (k : Nat) : Nw := { n with l := n.l.take k ++ n.l.drop (k + 1), tm := n.tm.take k ++ n.tm.drop (k + 1) }
def wtN (n : Nw) (to : Int) : Nat → Nat
 | 0 => 0
 | i + 1 => if arB n to i = true then wtN n to i + 1 else wtN n to i
theorem wtN_le {n : Nw} {to : Int} : ∀ i, wtN n to i ≤ i
 | 0 => Nat.le_refl _
 | i + 1 => by have := wtN_le (n := n) (to := to) i; simp only [wtN]; split <;> omega
end Go.Proofs.Ytilcmenglgdljaa
namespace Go.Proofs.Ytilcmenglgdljaa
set_option linter.unusedVariables false
set_option linter.unusedSimpArgs false
attribute [local go_sem ↓] run_skip run_region run_draw run_seq run_block run_exit run_ret run_cond atN_app seqC_normal seqC_exit seqC_ret seqQ_normal seqQ_exit seqQ_ret blkQ_normal blkQ_exit blkQ_ret runOps_nil runOps_cons runD_nil runD_cons grdO_true grdO_false grdD_true grdD_false ifC_true ifC_false opS_val opS_call opS_two opK_app dS_val dS_call dS_two dK_app kUp_same kUp_ne
attribute [local go_sem] rechks_nil rechks_cons rechk gcase_true gcase_false ex_val ex_val0 gd_none gd_some ev_t ev_c evs_nil evs_cons evo_some evo_none hget_at hget_first hsetB_at hsetB_first hsetL_at hsetL_first ofOpt_some aop aload astore aslice aappend aiaddr aiaddrA afaddr alen alenS acopy amm acall alookup amupdate alenM comma keyEq apick binV binVB binVS isSh intOp strOp boolOp shOp eqC eqF and2 cellsOf setFrom fillA fillS rd rdI elems mk bounds AV.cell List.all_cons List.all_nil Bool.and_true Bool.true_and Bool.and_self List.length_cons List.length_nil List.length_append Nat.reduceAdd Nat.reduceSub Nat.reduceMul Nat.zero_add Nat.add_zero List.cons_append List.nil_append List.append_assoc List.append_nil List.getElem?_cons_zero List.getElem?_cons_succ List.getElem?_nil List.set_cons_zero List.set_cons_succ List.drop_zero List.drop_succ_cons List.take_zero List.take_succ_cons List.take_nil List.drop_nil List.map_cons List.map_nil Option.map_some if_true if_false Bool.false_eq_true and_self true_and and_true Nat.reduceLeDiff Nat.reduceLT Nat.le_refl Nat.reduceEqDiff ite_true ite_false beq_self_eq_true beq_true beq_false Bool.not_true Bool.not_false Bool.true_beq Bool.false_beq map_vs vs_len vs_get vs_take vs_drop vs_snoc1 vs_snoc2 vs_snoc3 vs_snoc5 vs_set1 vs_set2 vs_rep wrap_id le_T lt_T le_F lt_F leI_T ltI_T leI_F ltI_F geI gtI get_T decide_true decide_false room List.getElem?_map List.length_map List.length_take Int.toNat_natCast Nat.min_def Nat.min_self nth_kOf put_kOf put_kNo kOv_cons kOv_nil KHas KArgs List.getElem_cons_zero List.getElem_cons_succ
def a_Ind1 : AFunc := ⟨2,19,[.tmp 4],(.seq (.region [⟨some 4,.mv (.c (.v (.int .i64 0))),none⟩]) (.seq (.seq (.region [⟨some 6,.mv (.t 0),none⟩,⟨some 7,.len (.t 6),none⟩,⟨some 8,.mv (.c (.v (.int .i64 0))),none⟩]) (.block 0 (.loop (.seq (.region [⟨some 9,.bin .lss (.t 8) (.t 7),none⟩]) (.seq (.cond (.t 9) .skip (.exit 0)) (.seq (.block 1 (.seq (.region [⟨some 10,.mv (.t 8),none⟩,⟨some 5,.mv (.t 10),none⟩]) (.seq (.region [⟨some 11,.mv (.t 1),none⟩,⟨some 12,.mv (.t 0),none⟩,⟨some 13,.mv (.t 5),none⟩,⟨some 14,.iaddr 1 (.t 12) (.t 13),none⟩,⟨some 15,.load none (.t 14),none⟩,⟨some 16,.call (.t 11) [(.t 15)],none⟩]) (.cond (.t 16) (.seq (.region [⟨some 17,.mv (.t 5),none⟩,⟨some 4,.mv (.t 17),none⟩]) .ret) .skip)))) (.region [⟨some 18,.bin .add (.t 8) (.c (.v (.int .i64 1))),none⟩,⟨some 8,.mv (.t 18),none⟩]))))))) (.seq (.region [⟨some 4,.mv (.c (.v (.int .i64 (-1)))),none⟩]) .ret)))⟩
theorem a_Ind1_ok : cFunc Try.prog 46 = some a_Ind1 := by kernel_rfl
def r_Ind10 : List (Nat × Nat) := [(4, 5), (8, 18)]
def a_Con1 : AFunc := ⟨2,9,[.tmp 4],(.seq (.region [⟨some 4,.mv (.c (.v (.bool false))),none⟩]) (.seq (.region [⟨some 5,.mv (.t 0),none⟩,⟨some 6,.mv (.t 1),none⟩,⟨some 7,.call (.c (.fn 46 [])) [(.t 5),(.t 6)],none⟩,⟨some 8,.bin .geq (.t 7) (.c (.v (.int .i64 0))),none⟩,⟨some 4,.mv (.t 8),none⟩]) .ret))⟩
theorem a_Con1_ok : cFunc Try.prog 136 = some a_Con1 := by kernel_rfl

def iv (v : List Int) : AV := .v (.isl 1 (v.map eI))

def firstP (p : Nat → Bool) (n : Nat) : Int := match (List.range n).find? p with
 | some i => i
 | none => -1
theorem firstP_at {p : Nat → Bool} {n i : Nat} (h : i < n) (h0 : ∀ j, j < i → p j = false) (hi : p i = true) : firstP p n = i := by
 have hf : (List.range n).find? p = some i := by
  rw [show n = i + (1 + (n - i - 1)) by omega, List.range_add, List.find?_append]
  have : (List.range i).find? p = none := by
   rw [List.find?_eq_none]; intro q hq; simp [h0 q (List.mem_range.1 hq)]
  rw [this, Nat.add_comm 1, List.range_succ_eq_map]
  simp [hi]
 unfold firstP; rw [hf]
theorem firstP_none {p : Nat → Bool} {n : Nat} (h0 : ∀ j, j < n → p j = false) : firstP p n = -1 := by
 have : (List.range n).find? p = none := by
  rw [List.find?_eq_none]; intro q hq; simp [h0 q (List.mem_range.1 hq)]
 unfold firstP; rw [this]
theorem firstP_ge {p : Nat → Bool} {n : Nat} : decide (0 ≤ firstP p n) = (List.range n).any p := by
 unfold firstP
 cases h : (List.range n).find? p with
 | none =>
   have := List.find?_eq_none.1 h
   have hn : (List.range n).any p = false := by rw [List.any_eq_false]; exact this
   rw [hn]; rfl
 | some i =>
   have h1 := List.find?_some h
   have h2 := List.mem_of_find?_eq_some h
   have hn : (List.range n).any p = true := List.any_eq_true.2 ⟨i, h2, h1⟩
   rw [hn]; simp

theorem kL {p : Prop} (h : p := by simp (disch := omega) only [lts.down, Nat.reduceLT, Nat.reduceAdd]) : p := h
theorem kO {p : Prop} (h : p := by simp only [one, lts.down, Nat.reduceLT, Nat.reduceAdd]) : p := h
theorem kV {p : Prop} (h : p := by simp (disch := omega) only [KOvLt, lts.down, Nat.reduceLT, Nat.reduceAdd]) : p := h
theorem index1_spec (v : List Int) (k : Nat) (caps : List AV) (p : Nat → Bool) (hn : v.length ≤ 1000000) (b l : List Row)
  (hp : ∀ (i : Nat) (h : i < v.length), ACalls Try.prog k (.v (.int .i64 v[i]) :: caps) (b ++ l) [] (fun r b' l' => r = .v (.bool (p i)) ∧ b' = b ++ l ∧ l' = [])) :
  ACalls Try.prog 46 [.v (.isl 1 (v.map eI)), .fn k caps] b l (fun r b' l' => r = .v (.int .i64 (firstP p v.length)) ∧ b' = b ∧ l' = l) := by
 refine calls_kept a_Ind1_ok rfl (by decide) ?_
 intro B g hB hR hE hA
 simp only [KArgs] at hA
 simp (disch := decide) only [a_Ind1, hA, List.length_map, go_sem]
 refine loop_kept (ι := Nat) r_Ind10 (fun i => [(8, .v (.int .i64 i))]) 0 (fun _ => [])
  (fun i => i ≤ v.length ∧ ∀ j, j < i → p j = false) (fun i => v.length - i) 0 ⟨Nat.zero_le _, fun j hj => by omega⟩ (by (repeat (first | exact hE.mono oM | refine KLt.up ?_ kL))) (by ((try simp (disch := decide) only [hA, go_sem]) <;> exact kH)) (fun e => Weak.refl _ _ _) ?_
 rintro g1 hE1 hEE1 hg1 i ⟨hi, h0⟩
 by_cases hlt : i < v.length
 ·simp (disch := (first | decide | omega)) only [hA, hg1, eI, go_sem]
  refine ACalls_mono _ _ _ _ _ _ (hB ▸ hp i hlt) ?_
  rintro r b' l' ⟨rfl, rfl, rfl⟩
  cases hpi : p i
  ·simp (disch := (first | decide | omega)) only [hA, hg1, hpi, go_sem]
   refine ⟨i + 1, ⟨hlt, fun j hj => ?_⟩, by simp only; omega, ?_⟩
   ·rcases Nat.lt_or_ge j i with hji | hji
    ·exact h0 j hji
    ·have : j = i := by omega
     rw [this]; exact hpi
   exact Weak.kround (p := r_Ind10) (k := 0) (by ((repeat refine (kAny_up rfl).trans ?_); exact hEE1)) (by ((try simp (disch := decide) only [hA, go_sem]) <;> exact kH)) rfl hE1 (by simp) kV hR kL
  ·simp (disch := (first | decide | omega)) only [hA, hg1, hpi, go_sem]
   exact leave_pure (xs := [.v (.int .i64 i)]) (.inr rfl) (by simp (disch := (first | decide | omega)) only [resVs, resV, go_sem, hA, hg1]) kO hR hB ⟨by rw [firstP_at hlt h0 hpi]; rfl, rfl, rfl⟩
 ·simp (disch := (first | decide | omega)) only [hA, hg1, go_sem]
  obtain rfl : i = v.length := by omega
  exact leave_pure (xs := [.v (.int .i64 (-1))]) (.inr rfl) (by simp (disch := (first | decide | omega)) only [resVs, resV, go_sem, hA, hg1]) kO hR hB ⟨by rw [firstP_none h0]; rfl, rfl, rfl⟩
theorem contains1_spec (v : List Int) (k : Nat) (caps : List AV) (p : Nat → Bool) (hn : v.length ≤ 1000000) (b l : List Row)
  (hp : ∀ (i : Nat) (h : i < v.length), ACalls Try.prog k (.v (.int .i64 v[i]) :: caps) (b ++ l) [] (fun r b' l' => r = .v (.bool (p i)) ∧ b' = b ++ l ∧ l' = [])) :
  ACalls Try.prog 136 [.v (.isl 1 (v.map eI)), .fn k caps] b l (fun r b' l' => r = .v (.bool ((List.range v.length).any p)) ∧ b' = b ∧ l' = l) := by
 refine calls_kept a_Con1_ok rfl (by decide) ?_
 intro B g hB hR hE hA
 simp only [KArgs] at hA
 simp (disch := decide) only [a_Con1, hA, go_sem]
 refine ACalls_mono _ _ _ _ _ _ (index1_spec v k caps p hn B [] (by rw [List.append_nil, hB]; exact hp)) ?_
 rintro r b' l' ⟨rfl, rfl, rfl⟩
 simp (disch := decide) only [hA, go_sem]
 exact leave_pure (xs := [.v (.bool (decide (0 ≤ firstP p v.length)))]) (.inr rfl) (by simp (disch := (first | decide | omega)) only [resVs, resV, go_sem, hA]) kO hR hB ⟨by rw [firstP_ge]; rfl, rfl, rfl⟩
def a_nparty : AFunc := ⟨1,9,[.tmp 2],(.seq (.region [⟨some 2,.mv (.c (.v (.bool false))),none⟩]) (.seq (.region [⟨some 3,.mv (.t 0),none⟩,⟨some 4,.bin .geq (.t 3) (.c (.v (.int .i64 0))),none⟩,⟨some 5,.mv (.t 4),none⟩,⟨some 6,.mv (.t 0),some (5,true)⟩,⟨some 7,.bin .lss (.t 6) (.c (.v (.int .i64 8))),some (5,true)⟩,⟨some 8,.pick (.t 5) (.t 7) (.c (.v (.bool false))),none⟩,⟨some 2,.mv (.t 8),none⟩]) .ret))⟩
theorem a_nparty_ok : cFunc Try.prog 100 = some a_nparty := by kernel_rfl
def a_nmsg : AFunc := ⟨1,40,[.tmp 2],(.seq (.region [⟨some 1,.box (.t 0),none⟩,⟨some 2,.mv (.c (.v (.bool false))),none⟩]) (.seq (.seq (.region [⟨some 3,.faddr 0 (.t 1),none⟩,⟨some 4,.load none (.t 3),none⟩,⟨some 5,.call (.c (.fn 100 [])) [(.t 4)],none⟩,⟨some 6,.not (.t 5),none⟩,⟨some 7,.mv (.t 6),none⟩,⟨some 8,.faddr 1 (.t 1),some (7,false)⟩,⟨some 9,.load none (.t 8),some (7,false)⟩,⟨some 10,.call (.c (.fn 100 [])) [(.t 9)],some (7,false)⟩,⟨some 11,.not (.t 10),some (7,false)⟩,⟨some 12,.pick (.t 7) (.c (.v (.bool true))) (.t 11),none⟩,⟨some 13,.mv (.t 12),none⟩,⟨some 14,.faddr 0 (.t 1),some (13,false)⟩,⟨some 15,.load none (.t 14),some (13,false)⟩,⟨some 16,.faddr 1 (.t 1),some (13,false)⟩,⟨some 17,.load none (.t 16),some (13,false)⟩,⟨some 18,.bin .eql (.t 15) (.t 17),some (13,false)⟩,⟨some 19,.pick (.t 13) (.c (.v (.bool true))) (.t 18),none⟩,⟨some 20,.mv (.t 19),none⟩,⟨some 21,.faddr 2 (.t 1),some (20,false)⟩,⟨some 22,.load none (.t 21),some (20,false)⟩,⟨some 23,.bin .lss (.t 22) (.c (.v (.int .i64 0))),some (20,false)⟩,⟨some 24,.pick (.t 20) (.c (.v (.bool true))) (.t 23),none⟩,⟨some 25,.mv (.t 24),none⟩,⟨some 26,.faddr 2 (.t 1),some (25,false)⟩,⟨some 27,.load none (.t 26),some (25,false)⟩,⟨some 28,.bin .gtr (.t 27) (.c (.v (.int .i64 199))),some (25,false)⟩,⟨some 29,.pick (.t 25) (.c (.v (.bool true))) (.t 28),none⟩,⟨some 30,.mv (.t 29),none⟩,⟨some 31,.faddr 3 (.t 1),some (30,false)⟩,⟨some 32,.load none (.t 31),some (30,false)⟩,⟨some 33,.len (.t 32),some (30,false)⟩,⟨some 34,.bin .gtr (.t 33) (.c (.v (.int .i64 20))),some (30,false)⟩,⟨some 35,.pick (.t 30) (.c (.v (.bool true))) (.t 34),none⟩]) (.cond (.t 35) (.seq (.region [⟨some 2,.mv (.c (.v (.bool false))),none⟩]) .ret) .skip)) (.seq (.region [⟨some 36,.faddr 3 (.t 1),none⟩,⟨some 37,.load none (.t 36),none⟩,⟨some 38,.call (.c (.fn 136 [])) [(.t 37),(.c (.fn 137 []))],none⟩,⟨some 39,.not (.t 38),none⟩,⟨some 2,.mv (.t 39),none⟩]) .ret)))⟩
theorem a_nmsg_ok : cFunc Try.prog 91 = some a_nmsg := by kernel_rfl
def a_nmsgc : AFunc := ⟨1,9,[.tmp 2],(.seq (.region [⟨some 2,.mv (.c (.v (.bool false))),none⟩]) (.seq (.region [⟨some 3,.mv (.t 0),none⟩,⟨some 4,.bin .lss (.t 3) (.c (.v (.int .i64 (-1073741824)))),none⟩,⟨some 5,.mv (.t 4),none⟩,⟨some 6,.mv (.t 0),some (5,false)⟩,⟨some 7,.bin .gtr (.t 6) (.c (.v (.int .i64 1073741824))),some (5,false)⟩,⟨some 8,.pick (.t 5) (.c (.v (.bool true))) (.t 7),none⟩,⟨some 2,.mv (.t 8),none⟩]) .ret))⟩
theorem a_nmsgc_ok : cFunc Try.prog 137 = some a_nmsgc := by kernel_rfl
def a_nfate : AFunc := ⟨1,21,[.tmp 2],(.seq (.region [⟨some 1,.box (.t 0),none⟩,⟨some 2,.mv (.c (.v (.bool false))),none⟩]) (.seq (.region [⟨some 3,.faddr 0 (.t 1),none⟩,⟨some 4,.load none (.t 3),none⟩,⟨some 5,.bin .geq (.t 4) (.c (.v (.int .i64 0))),none⟩,⟨some 6,.mv (.t 5),none⟩,⟨some 7,.faddr 0 (.t 1),some (6,true)⟩,⟨some 8,.load none (.t 7),some (6,true)⟩,⟨some 9,.bin .leq (.t 8) (.c (.v (.int .i64 3))),some (6,true)⟩,⟨some 10,.pick (.t 6) (.t 9) (.c (.v (.bool false))),none⟩,⟨some 11,.mv (.t 10),none⟩,⟨some 12,.faddr 1 (.t 1),some (11,true)⟩,⟨some 13,.load none (.t 12),some (11,true)⟩,⟨some 14,.bin .geq (.t 13) (.c (.v (.int .i64 0))),some (11,true)⟩,⟨some 15,.pick (.t 11) (.t 14) (.c (.v (.bool false))),none⟩,⟨some 16,.mv (.t 15),none⟩,⟨some 17,.faddr 1 (.t 1),some (16,true)⟩,⟨some 18,.load none (.t 17),some (16,true)⟩,⟨some 19,.bin .leq (.t 18) (.c (.v (.int .i64 1000000))),some (16,true)⟩,⟨some 20,.pick (.t 16) (.t 19) (.c (.v (.bool false))),none⟩,⟨some 2,.mv (.t 20),none⟩]) .ret))⟩
theorem a_nfate_ok : cFunc Try.prog 145 = some a_nfate := by kernel_rfl
def a_nfatc : AFunc := ⟨1,6,[.tmp 2],(.seq (.region [⟨some 1,.box (.t 0),none⟩,⟨some 2,.mv (.c (.v (.bool false))),none⟩]) (.seq (.region [⟨some 3,.load (some 2) (.t 1),none⟩,⟨some 4,.call (.c (.fn 145 [])) [(.t 3)],none⟩,⟨some 5,.not (.t 4),none⟩,⟨some 2,.mv (.t 5),none⟩]) .ret))⟩
theorem a_nfatc_ok : cFunc Try.prog 144 = some a_nfatc := by kernel_rfl
def a_nfats : AFunc := ⟨1,6,[.tmp 2],(.seq (.region [⟨some 2,.mv (.c (.v (.bool false))),none⟩]) (.seq (.region [⟨some 3,.mv (.t 0),none⟩,⟨some 4,.call (.c (.fn 143 [])) [(.t 3),(.c (.fn 144 []))],none⟩,⟨some 5,.not (.t 4),none⟩,⟨some 2,.mv (.t 5),none⟩]) .ret))⟩
theorem a_nfats_ok : cFunc Try.prog 104 = some a_nfats := by kernel_rfl
def a_nValid : AFunc := ⟨1,86,[.tmp 2],(.seq (.region [⟨some 1,.box (.t 0),none⟩,⟨some 2,.mv (.c (.v (.bool false))),none⟩]) (.seq (.seq (.region [⟨some 5,.faddr 0 (.t 1),none⟩,⟨some 6,.load none (.t 5),none⟩,⟨some 7,.bin .lss (.t 6) (.c (.v (.int .i64 0))),none⟩,⟨some 8,.mv (.t 7),none⟩,⟨some 9,.faddr 0 (.t 1),some (8,false)⟩,⟨some 10,.load none (.t 9),some (8,false)⟩,⟨some 11,.bin .gtr (.t 10) (.c (.v (.int .i64 1099511627776))),some (8,false)⟩,⟨some 12,.pick (.t 8) (.c (.v (.bool true))) (.t 11),none⟩,⟨some 13,.mv (.t 12),none⟩,⟨some 14,.faddr 2 (.t 1),some (13,false)⟩,⟨some 15,.load none (.t 14),some (13,false)⟩,⟨some 16,.len (.t 15),some (13,false)⟩,⟨some 17,.faddr 3 (.t 1),some (13,false)⟩,⟨some 18,.load none (.t 17),some (13,false)⟩,⟨some 19,.len (.t 18),some (13,false)⟩,⟨some 20,.bin .neq (.t 16) (.t 19),some (13,false)⟩,⟨some 21,.pick (.t 13) (.c (.v (.bool true))) (.t 20),none⟩,⟨some 22,.mv (.t 21),none⟩,⟨some 23,.faddr 2 (.t 1),some (22,false)⟩,⟨some 24,.load none (.t 23),some (22,false)⟩,⟨some 25,.len (.t 24),some (22,false)⟩,⟨some 26,.bin .gtr (.t 25) (.c (.v (.int .i64 1000))),some (22,false)⟩,⟨some 27,.pick (.t 22) (.c (.v (.bool true))) (.t 26),none⟩,⟨some 28,.mv (.t 27),none⟩,⟨some 29,.faddr 4 (.t 1),some (28,false)⟩,⟨some 30,.load none (.t 29),some (28,false)⟩,⟨some 31,.len (.t 30),some (28,false)⟩,⟨some 32,.bin .gtr (.t 31) (.c (.v (.int .i64 1000))),some (28,false)⟩,⟨some 33,.pick (.t 28) (.c (.v (.bool true))) (.t 32),none⟩,⟨some 34,.mv (.t 33),none⟩,⟨some 35,.faddr 4 (.t 1),some (34,false)⟩,⟨some 36,.load none (.t 35),some (34,false)⟩,⟨some 37,.call (.c (.fn 104 [])) [(.t 36)],some (34,false)⟩,⟨some 38,.not (.t 37),some (34,false)⟩,⟨some 39,.pick (.t 34) (.c (.v (.bool true))) (.t 38),none⟩]) (.cond (.t 39) (.seq (.region [⟨some 2,.mv (.c (.v (.bool false))),none⟩]) .ret) .skip)) (.seq (.seq (.region [⟨some 40,.faddr 2 (.t 1),none⟩,⟨some 41,.load none (.t 40),none⟩,⟨some 42,.len (.t 41),none⟩,⟨some 43,.mv (.c (.v (.int .i64 0))),none⟩]) (.block 0 (.loop (.seq (.region [⟨some 44,.bin .lss (.t 43) (.t 42),none⟩]) (.seq (.cond (.t 44) .skip (.exit 0)) (.seq (.block 1 (.seq (.region [⟨some 45,.mv (.t 43),none⟩,⟨some 46,.iaddr 4 (.t 41) (.t 43),none⟩,⟨some 47,.load (some 4) (.t 46),none⟩,⟨some 4,.alloc [(.v (.int .i64 0)),(.v (.int .i64 0)),(.v (.int .i64 0)),(.v .zsl)],none⟩,⟨some 3,.mv (.t 45),none⟩,⟨none,.store 4 (.t 4) (.t 47),none⟩]) (.seq (.draw [⟨0,⟨some 48,.load (some 4) (.t 4),none⟩,[]⟩,⟨1,⟨some 49,.call (.c (.fn 91 [])) [(.t 48)],none⟩,[]⟩,⟨2,⟨some 50,.not (.t 49),none⟩,[]⟩,⟨3,⟨some 51,.mv (.t 50),none⟩,[]⟩,⟨4,⟨some 52,.faddr 3 (.t 1),some (51,false)⟩,[]⟩,⟨5,⟨some 53,.load none (.t 52),some (51,false)⟩,[]⟩,⟨6,⟨some 54,.mv (.t 3),some (51,false)⟩,[]⟩,⟨7,⟨some 55,.iaddr 1 (.t 53) (.t 54),some (51,false)⟩,[]⟩,⟨8,⟨some 56,.load none (.t 55),some (51,false)⟩,[]⟩,⟨9,⟨some 57,.bin .lss (.t 56) (.c (.v (.int .i64 0))),some (51,false)⟩,[]⟩,⟨10,⟨some 58,.pick (.t 51) (.c (.v (.bool true))) (.t 57),none⟩,[]⟩,⟨11,⟨some 59,.mv (.t 58),none⟩,[]⟩,⟨12,⟨some 60,.faddr 3 (.t 1),some (59,false)⟩,[]⟩,⟨13,⟨some 61,.load none (.t 60),some (59,false)⟩,[]⟩,⟨14,⟨some 62,.mv (.t 3),some (59,false)⟩,[]⟩,⟨15,⟨some 63,.iaddr 1 (.t 61) (.t 62),some (59,false)⟩,[]⟩,⟨16,⟨some 64,.load none (.t 63),some (59,false)⟩,[]⟩,⟨17,⟨some 65,.bin .gtr (.t 64) (.c (.v (.int .i64 1099512627776))),some (59,false)⟩,[]⟩,⟨18,⟨some 66,.pick (.t 59) (.c (.v (.bool true))) (.t 65),none⟩,[]⟩,⟨19,⟨some 67,.mv (.t 66),none⟩,[]⟩,⟨20,⟨some 68,.mv (.t 3),some (67,false)⟩,[]⟩,⟨21,⟨some 69,.bin .gtr (.t 68) (.c (.v (.int .i64 0))),some (67,false)⟩,[]⟩,⟨22,⟨some 70,.mv (.t 69),some (67,false)⟩,[]⟩,⟨23,⟨some 71,.faddr 3 (.t 1),some (70,true)⟩,[]⟩,⟨24,⟨some 72,.load none (.t 71),some (70,true)⟩,[]⟩,⟨25,⟨some 73,.mv (.t 3),some (70,true)⟩,[]⟩,⟨26,⟨some 74,.iaddr 1 (.t 72) (.t 73),some (70,true)⟩,[]⟩,⟨27,⟨some 75,.load none (.t 74),some (70,true)⟩,[]⟩,⟨28,⟨some 76,.faddr 3 (.t 1),some (70,true)⟩,[]⟩,⟨29,⟨some 77,.load none (.t 76),some (70,true)⟩,[]⟩,⟨30,⟨some 78,.mv (.t 3),some (70,true)⟩,[]⟩,⟨31,⟨some 79,.bin .sub (.t 78) (.c (.v (.int .i64 1))),some (70,true)⟩,[]⟩,⟨32,⟨some 80,.iaddr 1 (.t 77) (.t 79),some (70,true)⟩,[]⟩,⟨33,⟨some 81,.load none (.t 80),some (70,true)⟩,[]⟩,⟨34,⟨some 82,.bin .lss (.t 75) (.t 81),some (70,true)⟩,[]⟩,⟨35,⟨some 83,.pick (.t 70) (.t 82) (.c (.v (.bool false))),some (67,false)⟩,[]⟩,⟨36,⟨some 84,.pick (.t 67) (.c (.v (.bool true))) (.t 83),none⟩,[]⟩]) (.cond (.t 84) (.seq (.region [⟨some 2,.mv (.c (.v (.bool false))),none⟩]) .ret) .skip)))) (.region [⟨some 85,.bin .add (.t 43) (.c (.v (.int .i64 1))),none⟩,⟨some 43,.mv (.t 85),none⟩]))))))) (.seq (.region [⟨some 2,.mv (.c (.v (.bool true))),none⟩]) .ret))))⟩
theorem a_nValid_ok : cFunc Try.prog 44 = some a_nValid := by kernel_rfl
def r_nValid0 : List (Nat × Nat) := [(2, 4), (43, 85)]

theorem nparty_spec (p : Int) (b l : List Row) : ACalls Try.prog 100 [.v (.int .i64 p)] b l (fun r b' l' => r = .v (.bool (ptB p)) ∧ b' = b ∧ l' = l) := by
 refine calls_kept a_nparty_ok rfl (by decide) ?_
 intro B g hB hR hE hA
 simp only [KArgs] at hA
 by_cases h1 : 0 ≤ p
 ·have d1 : decide (p ≥ 0) = true := decide_eq_true h1
  have d1' : decide (0 ≤ p) = true := d1
  by_cases h2 : p ≤ 7
  ·have d2 : decide (p < 8) = true := decide_eq_true oM
   simp (disch := (first | decide | omega)) only [a_nparty, hA, d1, d1', d2, go_sem]
   exact leave_pure (xs := [.v (.bool true)]) (.inr rfl) (by simp (disch := (first | decide | omega)) only [resVs, resV, go_sem, hA]) kO hR hB ⟨by unfold ptB; rw [decide_eq_true ⟨h1, h2⟩]; rfl, rfl, rfl⟩
  ·have d2 : decide (p < 8) = false := decide_eq_false oM
   simp (disch := (first | decide | omega)) only [a_nparty, hA, d1, d1', d2, go_sem]
   exact leave_pure (xs := [.v (.bool false)]) (.inr rfl) (by simp (disch := (first | decide | omega)) only [resVs, resV, go_sem, hA]) kO hR hB ⟨by unfold ptB; rw [decide_eq_false oM]; rfl, rfl, rfl⟩
 ·have d1 : decide (p ≥ 0) = false := decide_eq_false h1
  have d1' : decide (0 ≤ p) = false := d1
  simp (disch := (first | decide | omega)) only [a_nparty, hA, d1, d1', go_sem]
  exact leave_pure (xs := [.v (.bool false)]) (.inr rfl) (by simp (disch := (first | decide | omega)) only [resVs, resV, go_sem, hA]) kO hR hB ⟨by unfold ptB; rw [decide_eq_false oM]; rfl, rfl, rfl⟩
theorem nmsgc_spec (n : Int) (b l : List Row) : ACalls Try.prog 137 [.v (.int .i64 n)] b l (fun r b' l' => r = .v (.bool (!vlB n)) ∧ b' = b ∧ l' = l) := by
 refine calls_kept a_nmsgc_ok rfl (by decide) ?_
 intro B g hB hR hE hA
 simp only [KArgs] at hA
 by_cases h1 : n < -1073741824
 ·have d1 := decide_eq_true h1
  simp (disch := (first | decide | omega)) only [a_nmsgc, hA, d1, go_sem]
  exact leave_pure (xs := [.v (.bool true)]) (.inr rfl) (by simp (disch := (first | decide | omega)) only [resVs, resV, go_sem, hA, d1]) kO hR hB ⟨by unfold vlB; rw [decide_eq_false oM]; rfl, rfl, rfl⟩
 ·have d1 := decide_eq_false h1
  by_cases h2 : n > 1073741824
  ·have d2 := decide_eq_true h2
   have d2' : decide (1073741824 < n) = true := d2
   simp (disch := (first | decide | omega)) only [a_nmsgc, hA, d1, d2, d2', go_sem]
   exact leave_pure (xs := [.v (.bool true)]) (.inr rfl) (by simp (disch := (first | decide | omega)) only [resVs, resV, go_sem, hA]) kO hR hB ⟨by unfold vlB; rw [decide_eq_false oM]; rfl, rfl, rfl⟩
  ·have d2 := decide_eq_false h2
   have d2' : decide (1073741824 < n) = false := d2
   simp (disch := (first | decide | omega)) only [a_nmsgc, hA, d1, d2, d2', go_sem]
   exact leave_pure (xs := [.v (.bool false)]) (.inr rfl) (by simp (disch := (first | decide | omega)) only [resVs, resV, go_sem, hA]) kO hR hB ⟨by unfold vlB; rw [decide_eq_true oM]; rfl, rfl, rfl⟩
theorem any_not_all {α : Type} {p : α → Bool} : ∀ {v : List α}, (v.any fun x => !p x) = !v.all p
 | [] => rfl
 | x :: v => by simp [any_not_all (v := v)]
theorem any_range {α : Type} {d : α} {p : α → Bool} {v : List α} : (List.range v.length).any (fun i => p (v.getD i d)) = v.any p := by
 rw [Bool.eq_iff_iff]
 simp only [List.any_eq_true, List.mem_range]
 constructor
 ·rintro ⟨i, hi, h⟩
  exact ⟨v[i], List.getElem_mem hi, by rwa [getD_at hi] at h⟩
 ·rintro ⟨x, hx, h⟩
  obtain ⟨i, hi, rfl⟩ := List.getElem_of_mem hx
  exact ⟨i, hi, by rwa [getD_at hi]⟩
set_option maxRecDepth 20000 in
set_option maxHeartbeats 1000000 in
theorem nmsg_spec (m : Ms) (b l : List Row) : ACalls Try.prog 91 [.agg [.v (.int .i64 m.fr), .v (.int .i64 m.to), .v (.int .i64 m.nu), .v (.isl 1 (m.body.map eI))]] b l (fun r b' l' => r = .v (.bool (msB m)) ∧ b' = b ∧ l' = l) := by
 refine calls_kept a_nmsg_ok rfl (by decide) ?_
 intro B g hB hR hE hA
 simp only [KArgs] at hA
 simp (disch := (first | decide | omega)) only [a_nmsg, hA, go_sem]
 refine ACalls.nxt (nparty_spec m.fr _ _) ?_
 cases h1 : ptB m.fr
 ·simp (disch := (first | decide | omega)) only [hA, go_sem]
  exact leave_pure (xs := [.v (.bool false)]) (.inr rfl) (by simp (disch := (first | decide | omega)) only [resVs, resV, go_sem, hA]) kO hR hB ⟨by unfold msB; rw [h1]; rfl, rfl, rfl⟩
 simp (disch := (first | decide | omega)) only [hA, go_sem]
 refine ACalls.nxt (nparty_spec m.to _ _) ?_
 cases h2 : ptB m.to
 ·simp (disch := (first | decide | omega)) only [hA, go_sem]
  exact leave_pure (xs := [.v (.bool false)]) (.inr rfl) (by simp (disch := (first | decide | omega)) only [resVs, resV, go_sem, hA]) kO hR hB ⟨by unfold msB; rw [h1, h2]; rfl, rfl, rfl⟩
 by_cases h3 : m.fr = m.to
 ·have d3 : (m.fr == m.to) = true := by rw [h3]; simp
  simp (disch := (first | decide | omega)) only [hA, d3, go_sem]
  exact leave_pure (xs := [.v (.bool false)]) (.inr rfl) (by simp (disch := (first | decide | omega)) only [resVs, resV, go_sem, hA]) kO hR hB ⟨by unfold msB; rw [h1, h2, decide_eq_false oM]; rfl, rfl, rfl⟩
 have d3 : (m.fr == m.to) = false := beq_eq_false_iff_ne.2 h3
 by_cases h4 : m.nu < 0
 ·have d4 := decide_eq_true h4
  simp (disch := (first | decide | omega)) only [hA, d3, d4, go_sem]
  exact leave_pure (xs := [.v (.bool false)]) (.inr rfl) (by simp (disch := (first | decide | omega)) only [resVs, resV, go_sem, hA]) kO hR hB ⟨by unfold msB; rw [h1, h2, decide_eq_true h3, decide_eq_false oM]; rfl, rfl, rfl⟩
 have d4 := decide_eq_false h4
 by_cases h5 : 199 < m.nu
 ·have d5 := decide_eq_true h5
  simp (disch := (first | decide | omega)) only [hA, d3, d4, d5, go_sem]
  exact leave_pure (xs := [.v (.bool false)]) (.inr rfl) (by simp (disch := (first | decide | omega)) only [resVs, resV, go_sem, hA]) kO hR hB ⟨by unfold msB; rw [h1, h2, decide_eq_true h3, decide_eq_false oM]; rfl, rfl, rfl⟩
 have d5 := decide_eq_false h5
 by_cases h6 : 20 < m.body.length
 ·have d6 : decide ((20 : Int) < (m.body.length : Int)) = true := decide_eq_true oM
  simp (disch := (first | decide | omega)) only [hA, d3, d4, d5, d6, List.length_map, go_sem]
  exact leave_pure (xs := [.v (.bool false)]) (.inr rfl) (by simp (disch := (first | decide | omega)) only [resVs, resV, go_sem, hA]) kO hR hB ⟨by unfold msB; rw [h1, h2, decide_eq_true h3, decide_eq_true (show 0 ≤ m.nu ∧ m.nu ≤ 199 by omega), decide_eq_false (show ¬ m.body.length ≤ 20 by omega)]; rfl, rfl, rfl⟩
 have d6 : decide ((20 : Int) < (m.body.length : Int)) = false := decide_eq_false oM
 simp (disch := (first | decide | omega)) only [hA, d3, d4, d5, d6, List.length_map, go_sem]
 refine ACalls.nxt (contains1_spec m.body _ [] (fun i => !vlB (m.body.getD i 0)) oM _ _ (fun i hi => by
  have := nmsgc_spec m.body[i] (B ++ [Row.live 0 4 [[AV.v (IV.int .i64 m.fr), AV.v (IV.int .i64 m.to), AV.v (IV.int .i64 m.nu), AV.v (IV.isl 1 (m.body.map eI))]]]) []
  simp only [getD_at hi]
  exact this)) ?_
 rw [any_range (p := fun x => !vlB x), any_not_all]
 simp (disch := (first | decide | omega)) only [hA, Bool.not_not, go_sem]
 exact leave_pure (xs := [.v (.bool (m.body.all vlB))]) (.inr rfl) (by simp (disch := (first | decide | omega)) only [resVs, resV, go_sem, hA]) kO hR hB ⟨by unfold msB; rw [h1, h2, decide_eq_true h3, decide_eq_true (show 0 ≤ m.nu ∧ m.nu ≤ 199 by omega), decide_eq_true (show m.body.length ≤ 20 by omega)]; rfl, rfl, rfl⟩
theorem nfate_spec (f : Int × Int) (b l : List Row) : ACalls Try.prog 145 [.agg [.v (.int .i64 f.1), .v (.int .i64 f.2)]] b l (fun r b' l' => r = .v (.bool (ftB f)) ∧ b' = b ∧ l' = l) := by
 refine calls_kept a_nfate_ok rfl (by decide) ?_
 intro B g hB hR hE hA
 simp only [KArgs] at hA
 by_cases h1 : 0 ≤ f.1
 case neg =>
  have d1 := decide_eq_false h1
  simp (disch := (first | decide | omega)) only [a_nfate, hA, d1, go_sem]
  exact leave_pure (xs := [.v (.bool false)]) (.inr rfl) (by simp (disch := (first | decide | omega)) only [resVs, resV, go_sem, hA]) kO hR hB ⟨by unfold ftB; rw [decide_eq_false oM]; rfl, rfl, rfl⟩
 have d1 := decide_eq_true h1
 by_cases h2 : f.1 ≤ 3
 case neg =>
  have d2 := decide_eq_false h2
  simp (disch := (first | decide | omega)) only [a_nfate, hA, d1, d2, go_sem]
  exact leave_pure (xs := [.v (.bool false)]) (.inr rfl) (by simp (disch := (first | decide | omega)) only [resVs, resV, go_sem, hA]) kO hR hB ⟨by unfold ftB; rw [decide_eq_false oM]; rfl, rfl, rfl⟩
 have d2 := decide_eq_true h2
 by_cases h3 : 0 ≤ f.2
 case neg =>
  have d3 := decide_eq_false h3
  simp (disch := (first | decide | omega)) only [a_nfate, hA, d1, d2, d3, go_sem]
  exact leave_pure (xs := [.v (.bool false)]) (.inr rfl) (by simp (disch := (first | decide | omega)) only [resVs, resV, go_sem, hA]) kO hR hB ⟨by unfold ftB; rw [decide_eq_false oM]; rfl, rfl, rfl⟩
 have d3 := decide_eq_true h3
 by_cases h4 : f.2 ≤ 1000000
 ·have d4 := decide_eq_true h4
  simp (disch := (first | decide | omega)) only [a_nfate, hA, d1, d2, d3, d4, go_sem]
  exact leave_pure (xs := [.v (.bool true)]) (.inr rfl) (by simp (disch := (first | decide | omega)) only [resVs, resV, go_sem, hA]) kO hR hB ⟨by unfold ftB; rw [decide_eq_true oM]; rfl, rfl, rfl⟩
 ·have d4 := decide_eq_false h4
  simp (disch := (first | decide | omega)) only [a_nfate, hA, d1, d2, d3, d4, go_sem]
  exact leave_pure (xs := [.v (.bool false)]) (.inr rfl) (by simp (disch := (first | decide | omega)) only [resVs, resV, go_sem, hA]) kO hR hB ⟨by unfold ftB; rw [decide_eq_false oM]; rfl, rfl, rfl⟩
theorem nfatc_spec (f : Int × Int) (b l : List Row) : ACalls Try.prog 144 [.agg [.v (.int .i64 f.1), .v (.int .i64 f.2)]] b l (fun r b' l' => r = .v (.bool (!ftB f)) ∧ b' = b ∧ l' = l) := by
 refine calls_kept a_nfatc_ok rfl (by decide) ?_
 intro B g hB hR hE hA
 simp only [KArgs] at hA
 simp (disch := (first | decide | omega)) only [a_nfatc, hA, go_sem]
 refine ACalls.nxt (nfate_spec f _ _) ?_
 simp (disch := (first | decide | omega)) only [hA, go_sem]
 exact leave_pure (xs := [.v (.bool (!ftB f))]) (.inr rfl) (by simp (disch := (first | decide | omega)) only [resVs, resV, go_sem, hA]) kO hR hB ⟨rfl, rfl, rfl⟩
theorem nfats_spec (v : List (Int × Int)) (hn : v.length ≤ 1000000) (b l : List Row) : ACalls Try.prog 104 [.v (.isl 2 (v.map eFt))] b l (fun r b' l' => r = .v (.bool (ftsB v)) ∧ b' = b ∧ l' = l) := by
 refine calls_kept a_nfats_ok rfl (by decide) ?_
 intro B g hB hR hE hA
 simp only [KArgs] at hA
 simp (disch := (first | decide | omega)) only [a_nfats, hA, go_sem]
 refine ACalls.nxt (contains_spec (P := Try.prog) (sz := 2) (f := 143) (g := 165) (by kernel_rfl) (by kernel_rfl) (v.map eFt) _ [] (fun i => !ftB (v.getD i (0, 0))) (by intro row hr; obtain ⟨f, _, rfl⟩ := List.mem_map.1 hr; rfl) (by simpa using hn) _ _ (fun i row hi => by
  rw [List.getElem?_map] at hi
  cases hq : v[i]? with
  | none => rw [hq] at hi; cases hi
  | some f =>
    rw [hq] at hi; cases hi
    have := nfatc_spec f (B ++ []) []
    simp only [List.getD_eq_getElem?_getD, hq, Option.getD_some]
    exact this)) ?_
 rw [List.length_map, any_range (p := fun x => !ftB x), any_not_all]
 simp (disch := (first | decide | omega)) only [hA, Bool.not_not, go_sem]
 exact leave_pure (xs := [.v (.bool (v.all ftB))]) (.inr rfl) (by simp (disch := (first | decide | omega)) only [resVs, resV, go_sem, hA]) kO hR hB ⟨rfl, rfl, rfl⟩
theorem eMs_get {l : List Ms} {i : Nat} (h : i < l.length) : (l.map eMs)[i]? = some [.int .i64 l[i].fr, .int .i64 l[i].to, .int .i64 l[i].nu, .isl 1 (l[i].body.map eI)] := by
 rw [List.getElem?_map, List.getElem?_eq_getElem h]; rfl
theorem eI_get {l : List Int} {i : Nat} (h : i < l.length) : (l.map eI)[i]? = some [.int .i64 (l.getD i 0)] := by
 rw [List.getElem?_map, List.getElem?_eq_getElem h, getD_at h]; rfl
theorem nwB_mt {n : Nw} (hb : (decide (0 ≤ n.now ∧ n.now ≤ 1099511627776) && (decide (n.l.length = n.tm.length) && (decide (n.l.length ≤ 1000) && (decide (n.fates.length ≤ 1000) && ftsB n.fates)))) = true) : nwB n = (List.range n.l.length).all (mtB n) := by
 simp only [Bool.and_eq_true] at hb
 unfold nwB
 rw [hb.1, hb.2.1, hb.2.2.1, hb.2.2.2.1, hb.2.2.2.2]
 rfl
set_option maxRecDepth 20000 in
set_option maxHeartbeats 4000000 in
theorem nValid_spec (n : Nw) (b l : List Row) : ACalls Try.prog 44 [.agg ((eNw n).map .v)] b l (fun r b' l' => r = .v (.bool (nwB n)) ∧ b' = b ∧ l' = l) := by
 refine calls_kept a_nValid_ok rfl (by decide) ?_
 intro B g hB hR hE hA
 simp only [KArgs] at hA
 have F : ∀ {p : Prop} [Decidable p], ¬ p → decide p = false := fun h => decide_eq_false h
 by_cases h1 : n.now < 0
 ·have d1 := decide_eq_true h1
  simp (disch := (first | decide | omega)) only [a_nValid, hA, eNw, d1, go_sem]
  exact leave_pure (xs := [.v (.bool false)]) (.inr rfl) (by simp (disch := (first | decide | omega)) only [resVs, resV, go_sem, hA]) kO hR hB ⟨by unfold nwB; rw [F (show ¬ (0 ≤ n.now ∧ n.now ≤ 1099511627776) by omega)]; rfl, rfl, rfl⟩
 have d1 := decide_eq_false h1
 by_cases h2 : 1099511627776 < n.now
 ·have d2 := decide_eq_true h2
  simp (disch := (first | decide | omega)) only [a_nValid, hA, eNw, d1, d2, go_sem]
  exact leave_pure (xs := [.v (.bool false)]) (.inr rfl) (by simp (disch := (first | decide | omega)) only [resVs, resV, go_sem, hA]) kO hR hB ⟨by unfold nwB; rw [F (show ¬ (0 ≤ n.now ∧ n.now ≤ 1099511627776) by omega)]; rfl, rfl, rfl⟩
 have d2 := decide_eq_false h2
 have e1 : decide (0 ≤ n.now ∧ n.now ≤ 1099511627776) = true := decide_eq_true oM
 by_cases h3 : n.l.length = n.tm.length
 case neg =>
  have d3 : ((n.l.length : Int) != (n.tm.length : Int)) = true := by simp; omega
  simp (disch := (first | decide | omega)) only [a_nValid, hA, eNw, d1, d2, d3, List.length_map, go_sem]
  exact leave_pure (xs := [.v (.bool false)]) (.inr rfl) (by simp (disch := (first | decide | omega)) only [resVs, resV, go_sem, hA]) kO hR hB ⟨by unfold nwB; rw [e1, F h3]; rfl, rfl, rfl⟩
 have d3 : ((n.l.length : Int) != (n.tm.length : Int)) = false := by simp; omega
 have e3 : decide (n.l.length = n.tm.length) = true := decide_eq_true h3
 by_cases h4 : 1000 < n.l.length
 ·have d4 : decide ((1000 : Int) < (n.l.length : Int)) = true := decide_eq_true oM
  simp (disch := (first | decide | omega)) only [a_nValid, hA, eNw, d1, d2, d3, d4, List.length_map, go_sem]
  exact leave_pure (xs := [.v (.bool false)]) (.inr rfl) (by simp (disch := (first | decide | omega)) only [resVs, resV, go_sem, hA]) kO hR hB ⟨by unfold nwB; rw [e1, e3, F (show ¬ n.l.length ≤ 1000 by omega)]; rfl, rfl, rfl⟩
 have d4 : decide ((1000 : Int) < (n.l.length : Int)) = false := decide_eq_false oM
 have e4 : decide (n.l.length ≤ 1000) = true := decide_eq_true oM
 by_cases h5 : 1000 < n.fates.length
 ·have d5 : decide ((1000 : Int) < (n.fates.length : Int)) = true := decide_eq_true oM
  simp (disch := (first | decide | omega)) only [a_nValid, hA, eNw, d1, d2, d3, d4, d5, List.length_map, go_sem]
  exact leave_pure (xs := [.v (.bool false)]) (.inr rfl) (by simp (disch := (first | decide | omega)) only [resVs, resV, go_sem, hA]) kO hR hB ⟨by unfold nwB; rw [e1, e3, e4, F (show ¬ n.fates.length ≤ 1000 by omega)]; rfl, rfl, rfl⟩
 have d5 : decide ((1000 : Int) < (n.fates.length : Int)) = false := decide_eq_false oM
 have e5 : decide (n.fates.length ≤ 1000) = true := decide_eq_true oM
 simp (disch := (first | decide | omega)) only [a_nValid, hA, eNw, d1, d2, d3, d4, d5, List.length_map, go_sem]
 refine ACalls.nxt (nfats_spec n.fates oM _ _) ?_
 cases h6 : ftsB n.fates
 ·simp (disch := (first | decide | omega)) only [hA, go_sem]
  exact leave_pure (xs := [.v (.bool false)]) (.inr rfl) (by simp (disch := (first | decide | omega)) only [resVs, resV, go_sem, hA]) kO hR hB ⟨by unfold nwB; rw [e1, e3, e4, e5, h6]; rfl, rfl, rfl⟩
 have hall := nwB_mt (n := n) (by rw [e1, e3, e4, e5, h6]; rfl)
 simp (disch := (first | decide | omega)) only [hA, List.length_map, go_sem]
 refine loop_kept (ι := Nat) r_nValid0 (fun i => [(43, .v (.int .i64 i))]) 1 (fun _ => [.live 0 5 [[.v (.int .i64 n.now), .v (.bool n.fifo), .v (.isl 4 (n.l.map eMs)), .v (.isl 1 (n.tm.map eI)), .v (.isl 2 (n.fates.map eFt))]]])
  (fun i => i ≤ n.l.length ∧ ∀ j, j < i → mtB n j = true) (fun i => n.l.length - i) 0 ⟨Nat.zero_le _, fun j hj => by omega⟩ (by (repeat (first | exact hE.mono oM | refine KLt.up ?_ kL))) (by ((try simp (disch := decide) only [hA, go_sem]) <;> exact kH)) (fun e => Weak.refl _ _ _) ?_
 rintro g1 hE1 hEE1 hg1 i ⟨hi, h0⟩
 by_cases hlt : i < n.l.length
 ·have hm := eMs_get hlt
  have ht := eI_get (show i < n.tm.length by omega)
  have hbad : mtB n i = false → nwB n = false := fun h => by
   rw [hall, List.all_eq_false]
   exact ⟨i, List.mem_range.2 hlt, by rw [h]; simp⟩
  have hgd : n.l.getD i dfMs = n.l[i] := getD_at hlt
  simp (disch := (first | decide | omega)) only [hA, hg1, hm, List.length_map, go_sem]
  refine ACalls.nxt (nmsg_spec n.l[i] _ _) ?_
  cases q1 : msB n.l[i]
  ·simp (disch := (first | decide | omega)) only [hA, hg1, go_sem]
   exact leave_pure (xs := [.v (.bool false)]) (.inr rfl) (by simp (disch := (first | decide | omega)) only [resVs, resV, go_sem, hA, hg1]) kO hR hB ⟨by rw [hbad (by unfold mtB; rw [hgd, q1]; rfl)]; rfl, rfl, rfl⟩
  by_cases q2 : n.tm.getD i 0 < 0
  ·have c2 := decide_eq_true q2
   simp (disch := (first | decide | omega)) only [hA, hg1, ht, c2, go_sem]
   exact leave_pure (xs := [.v (.bool false)]) (.inr rfl) (by simp (disch := (first | decide | omega)) only [resVs, resV, go_sem, hA, hg1]) kO hR hB ⟨by rw [hbad (by unfold mtB; rw [hgd, q1, F oM]; rfl)]; rfl, rfl, rfl⟩
  have c2 := decide_eq_false q2
  by_cases q3 : 1099512627776 < n.tm.getD i 0
  ·have c3 := decide_eq_true q3
   simp (disch := (first | decide | omega)) only [hA, hg1, ht, c2, c3, go_sem]
   exact leave_pure (xs := [.v (.bool false)]) (.inr rfl) (by simp (disch := (first | decide | omega)) only [resVs, resV, go_sem, hA, hg1]) kO hR hB ⟨by rw [hbad (by unfold mtB; rw [hgd, q1, F oM]; rfl)]; rfl, rfl, rfl⟩
  have c3 := decide_eq_false q3
  by_cases q4 : 0 < i
  ·have c4 : decide ((0 : Int) < (i : Int)) = true := decide_eq_true oM
   have hi1 : (i : Int) - 1 = ((i - 1 : Nat) : Int) := by omega
   have ht1 := eI_get (l := n.tm) (show i - 1 < n.tm.length by omega)
   by_cases q5 : n.tm.getD i 0 < n.tm.getD (i - 1) 0
   ·have c5 := decide_eq_true q5
    simp (disch := (first | decide | omega)) only [hA, hg1, ht, c2, c3, c4, hi1, ht1, c5, go_sem]
    exact leave_pure (xs := [.v (.bool false)]) (.inr rfl) (by simp (disch := (first | decide | omega)) only [resVs, resV, go_sem, hA, hg1]) kO hR hB ⟨by rw [hbad (by unfold mtB; rw [hgd, q1, F (fun h => by have := h.2.2 q4; omega)]; rfl)]; rfl, rfl, rfl⟩
   have c5 := decide_eq_false q5
   simp (disch := (first | decide | omega)) only [hA, hg1, ht, c2, c3, c4, hi1, ht1, c5, go_sem]
   refine ⟨i + 1, ⟨hlt, fun j hj => ?_⟩, by simp only; omega, ?_⟩
   ·rcases Nat.lt_or_ge j i with hji | hji
    ·exact h0 j hji
    ·obtain rfl : j = i := by omega
     unfold mtB; rw [hgd, q1, decide_eq_true ⟨by omega, by omega, fun _ => by omega⟩]; rfl
   exact Weak.kround (p := r_nValid0) (k := 1) (by ((repeat refine (kAny_up rfl).trans ?_); exact hEE1)) (by ((try simp (disch := decide) only [hA, go_sem]) <;> exact kH)) rfl hE1 (by simp) kV hR kL
  ·have c4 : decide ((0 : Int) < (i : Int)) = false := decide_eq_false oM
   simp (disch := (first | decide | omega)) only [hA, hg1, ht, c2, c3, c4, go_sem]
   refine ⟨i + 1, ⟨hlt, fun j hj => ?_⟩, by simp only; omega, ?_⟩
   ·rcases Nat.lt_or_ge j i with hji | hji
    ·exact h0 j hji
    ·obtain rfl : j = i := by omega
     unfold mtB; rw [hgd, q1, decide_eq_true ⟨by omega, by omega, fun _ => by omega⟩]; rfl
   exact Weak.kround (p := r_nValid0) (k := 1) (by ((repeat refine (kAny_up rfl).trans ?_); exact hEE1)) (by ((try simp (disch := decide) only [hA, go_sem]) <;> exact kH)) rfl hE1 (by simp) kV hR kL
 ·obtain rfl : i = n.l.length := by omega
  simp (disch := (first | decide | omega)) only [hA, hg1, List.length_map, go_sem]
  exact leave_pure (xs := [.v (.bool true)]) (.inr rfl) (by simp (disch := (first | decide | omega)) only [resVs, resV, go_sem, hA, hg1]) kO hR hB ⟨by rw [hall, List.all_eq_true.2 (fun j hj => h0 j (List.mem_range.1 hj))]; rfl, rfl, rfl⟩
def a_ncop : AFunc := ⟨1,8,[.cell 2 (some 4)],(.seq (.region [⟨some 1,.box (.t 0),none⟩,⟨some 2,.alloc [(.v (.int .i64 0)),(.v (.int .i64 0)),(.v (.int .i64 0)),(.v .zsl)],none⟩]) (.seq (.region [⟨some 3,.faddr 3 (.t 1),none⟩,⟨some 4,.load none (.t 3),none⟩,⟨some 5,.call (.c (.fn 52 [])) [(.t 4)],none⟩,⟨some 6,.faddr 3 (.t 1),none⟩,⟨none,.store 1 (.t 6) (.t 5),none⟩]) (.seq (.region [⟨some 7,.load (some 4) (.t 1),none⟩,⟨none,.store 4 (.t 2) (.t 7),none⟩]) .ret)))⟩
theorem a_ncop_ok : cFunc Try.prog 96 = some a_ncop := by kernel_rfl
def a_nclone : AFunc := ⟨1,33,[.cell 2 (some 5)],(.seq (.region [⟨some 1,.box (.t 0),none⟩,⟨some 2,.alloc [(.v (.int .i64 0)),(.v (.bool false)),(.v .zsl),(.v .zsl),(.v .zsl)],none⟩]) (.seq (.draw [⟨0,⟨some 5,.faddr 3 (.t 1),none⟩,[]⟩,⟨1,⟨some 6,.load none (.t 5),none⟩,[]⟩,⟨3,⟨some 8,.faddr 4 (.t 1),none⟩,[]⟩,⟨4,⟨some 9,.load none (.t 8),none⟩,[]⟩,⟨6,⟨some 11,.faddr 2 (.t 1),none⟩,[]⟩,⟨7,⟨some 12,.load none (.t 11),none⟩,[]⟩,⟨2,⟨some 7,.call (.c (.fn 52 [])) [(.t 6)],none⟩,[⟨some 8,.faddr 4 (.t 1),none⟩,⟨some 9,.load none (.t 8),none⟩,⟨some 11,.faddr 2 (.t 1),none⟩,⟨some 12,.load none (.t 11),none⟩]⟩,⟨9,⟨some 14,.faddr 3 (.t 1),none⟩,[]⟩,⟨5,⟨some 10,.call (.c (.fn 53 [])) [(.t 9)],none⟩,[⟨some 11,.faddr 2 (.t 1),none⟩,⟨some 12,.load none (.t 11),none⟩,⟨some 14,.faddr 3 (.t 1),none⟩]⟩,⟨8,⟨some 13,.call (.c (.fn 51 [])) [(.t 12)],none⟩,[⟨some 14,.faddr 3 (.t 1),none⟩]⟩,⟨10,⟨none,.store 1 (.t 14) (.t 7),none⟩,[]⟩,⟨11,⟨some 15,.faddr 4 (.t 1),none⟩,[]⟩,⟨12,⟨none,.store 1 (.t 15) (.t 10),none⟩,[]⟩,⟨13,⟨some 16,.faddr 2 (.t 1),none⟩,[]⟩,⟨14,⟨none,.store 1 (.t 16) (.t 13),none⟩,[]⟩]) (.seq (.seq (.region [⟨some 17,.faddr 2 (.t 1),none⟩,⟨some 18,.load none (.t 17),none⟩,⟨some 19,.len (.t 18),none⟩,⟨some 20,.mv (.c (.v (.int .i64 0))),none⟩]) (.block 0 (.loop (.seq (.region [⟨some 21,.bin .lss (.t 20) (.t 19),none⟩]) (.seq (.cond (.t 21) .skip (.exit 0)) (.seq (.block 1 (.seq (.region [⟨some 22,.mv (.t 20),none⟩,⟨some 23,.iaddr 4 (.t 18) (.t 20),none⟩,⟨some 24,.load (some 4) (.t 23),none⟩,⟨some 4,.alloc [(.v (.int .i64 0)),(.v (.int .i64 0)),(.v (.int .i64 0)),(.v .zsl)],none⟩,⟨some 3,.mv (.t 22),none⟩,⟨none,.store 4 (.t 4) (.t 24),none⟩]) (.draw [⟨0,⟨some 25,.faddr 2 (.t 1),none⟩,[]⟩,⟨1,⟨some 26,.load none (.t 25),none⟩,[]⟩,⟨2,⟨some 27,.mv (.t 3),none⟩,[]⟩,⟨3,⟨some 28,.load (some 4) (.t 4),none⟩,[]⟩,⟨4,⟨some 29,.call (.c (.fn 96 [])) [(.t 28)],none⟩,[⟨some 25,.faddr 2 (.t 1),none⟩,⟨some 26,.load none (.t 25),none⟩,⟨some 27,.mv (.t 3),none⟩]⟩,⟨5,⟨some 30,.iaddr 4 (.t 26) (.t 27),none⟩,[]⟩,⟨6,⟨none,.store 4 (.t 30) (.t 29),none⟩,[]⟩]))) (.region [⟨some 31,.bin .add (.t 20) (.c (.v (.int .i64 1))),none⟩,⟨some 20,.mv (.t 31),none⟩]))))))) (.seq (.region [⟨some 32,.load (some 5) (.t 1),none⟩,⟨none,.store 5 (.t 2) (.t 32),none⟩]) .ret))))⟩
theorem a_nclone_ok : cFunc Try.prog 92 = some a_nclone := by kernel_rfl
def r_nclone0 : List (Nat × Nat) := [(3, 4), (20, 31)]

section
variable {α : Type} {n : Nat} {C : Nat → α} {T : List α}
theorem fz_at {p : Nat} (h : p < n) : (fl n C ++ T)[p]? = some (C p) := by rw [List.getElem?_append_left (by rw [fl_len]; exact h), fl_get h]
theorem fz_tail {j : Nat} : (fl n C ++ T)[n + j]? = T[j]? := by rw [List.getElem?_append_right (by rw [fl_len]; omega), fl_len, Nat.add_sub_cancel_left]
theorem fz_tail0 : (fl n C ++ T)[n]? = T[0]? := fz_tail (j := 0)
theorem fz_settail {j : Nat} {x : α} : (fl n C ++ T).set (n + j) x = fl n C ++ T.set j x := by rw [List.set_append_right _ _ (by rw [fl_len]; omega), fl_len, Nat.add_sub_cancel_left]
theorem fz_settail0 {x : α} : (fl n C ++ T).set n x = fl n C ++ T.set 0 x := fz_settail (j := 0)
end
theorem leave_ren {e : List AV} {l l' : List Row} {rs : List ARes} {Q : AV → List Row → List Row → Prop} {B : List Row} {ex : AExit} {m : Nat} (hex : ex = .normal ∨ ex = .ret) {xs : List AV} (hx : resVs e B l rs = some xs) {y : AV} (hm : l'.length = m) (σ : Nat → Nat) (hinj : ∀ i j, i < m → j < m → σ i = σ j → i = j)
  (hrow : ∀ j r', l'[j]? = some r' → ∃ r, l[σ j]? = some r ∧ RnR B.length m σ r r') (he : Rn B.length m σ (one xs) y) (hR : RowsLt B.length B) {b0 l0 : List Row} (hB : B = b0 ++ l0) (hq : Q y b0 (l0 ++ l')) : Leaves rs Q b0.length ex e B l :=
 leave hex hx (y := y) (l' := l') (Weak.renM hm σ hinj hrow hR rfl (fun i x z hx hz => by
  cases i with
  | zero => simp at hx hz; subst hx; subst hz; exact he
  | succ i => simp at hx)) hB hq
theorem AVlt.rnK {n k m : Nat} {σ : Nat → Nat} (hσ : ∀ j, j < k → σ j = j) (hk : k ≤ m) {x : AV} (h : AVlt (n + k) x) : Rn n m σ x x := by
 have sp : ∀ id, id < n + k → id < n ∨ ∃ j, id = n + j ∧ j < k := fun id h => by
  by_cases h1 : id < n
  ·exact .inl h1
  ·exact .inr ⟨id - n, by omega, by omega⟩
 induction h with
 | any => exact .any
 | v x => exact .v x
 | sl id ver off len h =>
   rcases sp id (by first | exact h | assumption) with h1 | ⟨j, rfl, h1⟩
   ·exact .slB id ver off len h1
   ·have := Rn.sl (n := n) (m := m) (σ := σ) j ver off len oM
    rwa [hσ j h1] at this
 | ptr id ver k' i h =>
   rcases sp id (by first | exact h | assumption) with h1 | ⟨j, rfl, h1⟩
   ·exact .ptrB id ver k' i h1
   ·have := Rn.ptr (n := n) (m := m) (σ := σ) j ver k' i oM
    rwa [hσ j h1] at this
 | mp id ver h =>
   rcases sp id (by first | exact h | assumption) with h1 | ⟨j, rfl, h1⟩
   ·exact .mpB id ver h1
   ·have := Rn.mp (n := n) (m := m) (σ := σ) j ver oM
    rwa [hσ j h1] at this
 | agg cs _ ih => exact .agg cs cs rfl (fun i c d h1 h2 => by rw [h1] at h2; cases h2; exact ih c (List.mem_of_getElem? h1))
 | tup cs _ ih => exact .tup cs cs rfl (fun i c d h1 h2 => by rw [h1] at h2; cases h2; exact ih c (List.mem_of_getElem? h1))
 | fn f cs _ ih => exact .fn f cs cs rfl (fun i c d h1 h2 => by rw [h1] at h2; cases h2; exact ih c (List.mem_of_getElem? h1))
theorem RnL.rnK {n k m : Nat} {σ : Nat → Nat} (hσ : ∀ j, j < k → σ j = j) (hk : k ≤ m) {xs : List AV} (h : ∀ x ∈ xs, AVlt (n + k) x) : RnL n m σ xs xs :=
 ⟨rfl, fun i c d h1 h2 => by rw [h1] at h2; cases h2; exact (h c (List.mem_of_getElem? h1)).rnK hσ hk⟩
theorem RnR.rnK {n k m : Nat} {σ : Nat → Nat} (hσ : ∀ j, j < k → σ j = j) (hk : k ≤ m) {v s : Nat} {els : List (List AV)} (h : ∀ r ∈ els, ∀ x ∈ r, AVlt (n + k) x) : RnR n m σ (.live v s els) (.live v s els) :=
 ⟨rfl, rfl, rfl, fun i c d h1 h2 => by rw [h1] at h2; cases h2; exact RnL.rnK hσ hk (h c (List.mem_of_getElem? h1))⟩
theorem Weak.kren {N : Nat} {p : List (Nat × Nat)} {ov : List (Nat × AV)} {f g : Nat → AV} {b l l1 : List Row} {k m : Nat} (hm : l1.length = m) (σ : Nat → Nat) (he : kAny p f = g) (h : KHas f ov) (hE : KLt (b.length + k) g) (hk : k ≤ m) (hσ : ∀ j, j < k → σ j = j) (ho : KOvLt (b.length + k) ov) (hb : RowsLt b.length b)
  (hinj : ∀ i j, i < m → j < m → σ i = σ j → i = j) (hrow : ∀ j r', l1[j]? = some r' → ∃ r, l[σ j]? = some r ∧ RnR b.length m σ r r') : Weak (kOf N f) b l (kOf N (kOv ov g)) b l1 := by
 subst he
 exact (Weak.named p ov h).trans (Weak.renM hm σ hinj hrow hb rfl (fun i x y hx hy => by
  rw [hx] at hy; cases hy
  exact AVlt.rnK hσ hk ((hE.ov ho).env x (List.mem_of_getElem? hx))))
theorem leave_nil1 {e : List AV} {l : List Row} {rs : List ARes} {Q : AV → List Row → List Row → Prop} {B : List Row} {ex : AExit} (hex : ex = .normal ∨ ex = .ret) (V sz : Nat) (hx : resVs e B l rs = some [.v .zsl]) (hR : RowsLt B.length B) {b0 l0 : List Row} (hB : B = b0 ++ l0) (hq : Q (.sl B.length V 0 0) b0 (l0 ++ [.live V sz []])) :
  Leaves rs Q b0.length ex e B l := by
 refine leave hex hx (y := .sl B.length V 0 0) (l' := [.live V sz []]) ((Weak.trim (l1 := []) rfl (by intro x hx; simp [one] at hx; subst hx; exact .v _) (by simpa using hR) RowsLt_nil).trans ?_) hB hq
 have := Weak.nilV (b := B) (l := []) (sz := sz) V
 simpa [one] using this
def a_cloneN (sz bytes : Nat) (zs : List AV) : AFunc := ⟨1, 8, [.tmp 2],
 (.seq (.region [⟨(some 2), .mv (.c (.v .zsl)), none⟩])
 (.seq (.seq (.region [⟨(some 3), .mv (.t 0), none⟩, ⟨(some 4), .isnil false (.t 3), none⟩])
 (.cond (.t 4) (.seq (.region [⟨(some 2), .mv (.c (.v .zsl)), none⟩])
 .ret)
 .skip))
 (.seq (.region [⟨(some 5), .bslice sz zs 0 [], none⟩, ⟨(some 6), .mv (.t 0), none⟩, ⟨(some 7), .append sz bytes (.t 5) (.t 6), none⟩, ⟨(some 2), .mv (.t 7), none⟩])
 .ret)))⟩
theorem fillS_nil {e : List AV} {sz : Nat} {els : List (List AV)} : fillS e sz els [] = some els := rfl
theorem cloN_spec {P : Program} {f sz bytes : Nat} {zs : List AV} (hf : cFunc P f = some (a_cloneN sz bytes zs)) (hby : bytes ≤ 1000) (rows : List (List IV)) (hn : rows.length ≤ 1000000) (b l : List Row) :
  ACalls P f [.v (.isl sz rows)] b l (fun r b' l' => r = .sl (b.length + l.length) 1 0 rows.length ∧ b' = b ∧ l' = l ++ [.live 1 sz (vs rows)]) := by
 refine calls_kept hf rfl (by show 1 ≤ 8; decide) ?_
 intro B g hB hR hE hA
 simp only [KArgs] at hA
 have hq : rows.length * bytes ≤ 1000000 * 1000 := Nat.mul_le_mul hn hby
 have hr : rows.length * bytes ≤ 140737488355328 := by omega
 have hr2 : rows.length ≤ 140737488355328 := by omega
 simp (disch := (first | decide | omega)) only [a_cloneN, hA, go_sem]
 refine ⟨fun h => ?_, ?_⟩
 ·have h0 : rows = [] := List.isEmpty_iff.1 h
  subst h0
  exact leave_nil1 (.inr rfl) 1 sz (by simp (disch := (first | decide | omega)) only [resVs, resV, hA, go_sem]) hR hB ⟨by rw [hB, List.length_append]; rfl, rfl, rfl⟩
 ·refine leave (.inr rfl) (xs := [.sl B.length 1 0 rows.length]) (y := .sl B.length 1 0 rows.length) (l' := [.live 1 sz (vs rows)]) (by simp (disch := (first | decide | omega)) only [resVs, resV, hA, go_sem]) (Weak.trim (l1 := [.live 1 sz (vs rows)]) (junk := []) rfl ?_ (hR.mono oM) ?_) hB ⟨by rw [hB, List.length_append], rfl, rfl⟩
  ·intro x hx
   simp [one] at hx
   subst hx
   simp (disch := omega) only [lts.down, Nat.reduceLT, Nat.reduceAdd]
  ·simp (disch := omega) only [lts.down, Nat.reduceLT, Nat.reduceAdd]
theorem cloI_spec (v : List Int) (hn : v.length ≤ 1000000) (b l : List Row) : ACalls Try.prog 52 [.v (.isl 1 (v.map eI))] b l (fun r b' l' => r = .sl (b.length + l.length) 1 0 v.length ∧ b' = b ∧ l' = l ++ [.live 1 1 (vs (v.map eI))]) := by
 have := cloN_spec (P := Try.prog) (f := 52) (sz := 1) (bytes := 8) (zs := [.v (.int .i64 0)]) (by kernel_rfl) (by decide) (v.map eI) (by simpa using hn) b l
 rwa [List.length_map] at this
theorem cloF_spec (v : List (Int × Int)) (hn : v.length ≤ 1000000) (b l : List Row) : ACalls Try.prog 53 [.v (.isl 2 (v.map eFt))] b l (fun r b' l' => r = .sl (b.length + l.length) 1 0 v.length ∧ b' = b ∧ l' = l ++ [.live 1 2 (vs (v.map eFt))]) := by
 have := cloN_spec (P := Try.prog) (f := 53) (sz := 2) (bytes := 16) (zs := [.v (.int .i64 0), .v (.int .i64 0)]) (by kernel_rfl) (by decide) (v.map eFt) (by simpa using hn) b l
 rwa [List.length_map] at this
theorem cloM_spec (v : List Ms) (hn : v.length ≤ 1000000) (b l : List Row) : ACalls Try.prog 51 [.v (.isl 4 (v.map eMs))] b l (fun r b' l' => r = .sl (b.length + l.length) 1 0 v.length ∧ b' = b ∧ l' = l ++ [.live 1 4 (vs (v.map eMs))]) := by
 have := cloN_spec (P := Try.prog) (f := 51) (sz := 4) (bytes := 48) (zs := [.v (.int .i64 0), .v (.int .i64 0), .v (.int .i64 0), .v .zsl]) (by kernel_rfl) (by decide) (v.map eMs) (by simpa using hn) b l
 rwa [List.length_map] at this
theorem one_agg {cs : List AV} : one [.agg cs] = .agg cs := rfl
theorem ncop_spec (m : Ms) (hn : m.body.length ≤ 1000000) (b l : List Row) : ACalls Try.prog 96 [.agg [.v (.int .i64 m.fr), .v (.int .i64 m.to), .v (.int .i64 m.nu), .v (.isl 1 (m.body.map eI))]] b l
  (fun r b' l' => r = .agg [.v (.int .i64 m.fr), .v (.int .i64 m.to), .v (.int .i64 m.nu), .sl (b.length + l.length) 1 0 m.body.length] ∧ b' = b ∧ l' = l ++ [.live 1 1 (vs (m.body.map eI))]) := by
 refine calls_kept a_ncop_ok rfl (by decide) ?_
 intro B g hB hR hE hA
 simp only [KArgs] at hA
 simp (disch := (first | decide | omega)) only [a_ncop, hA, go_sem]
 refine ACalls.nxt (cloI_spec m.body hn _ _) ?_
 simp (disch := (first | decide | omega)) only [hA, go_sem]
 refine leave_ren (.inr rfl) (xs := [.agg [.v (.int .i64 m.fr), .v (.int .i64 m.to), .v (.int .i64 m.nu), .sl (B.length + 2) 1 0 m.body.length]]) (y := .agg [.v (.int .i64 m.fr), .v (.int .i64 m.to), .v (.int .i64 m.nu), .sl B.length 1 0 m.body.length]) (l' := [.live 1 1 (vs (m.body.map eI))]) (by simp (disch := (first | decide | omega)) only [resVs, resV, hA, go_sem]) (m := 1) rfl (fun j => j + 2) (fun i j _ _ h => by omega) (fun j r' h => ?_) ?_ hR hB ⟨by rw [hB, List.length_append], rfl, rfl⟩
 ·match j, h with
  | 0, h => cases h; exact ⟨_, rfl, RnR.plain⟩
 ·rw [one_agg]
  exact Rn.aggL (.cons (.v _) (.cons (.v _) (.cons (.v _) (.cons (Rn.slE (j := 0) rfl (by simp)) .nil))))
structure Lv where
 now : Int
 fifo : Bool
 vL : Nat
 vA : Nat
 o : Nat
 xs : List (Ms × Nat)
 tm : List Int
 fs : List (Int × Int)
 bd : List (List Int)
def lvE (base : Nat) (x : Ms × Nat) : List AV := [.v (.int .i64 x.1.fr), .v (.int .i64 x.1.to), .v (.int .i64 x.1.nu), .sl (base + (3 + x.2)) 1 0 x.1.body.length]
def bdR (v : List Int) : Row := .live 1 1 (vs (v.map eI))
def Lv.av (z : Lv) (base : Nat) : AV := .agg [.v (.int .i64 z.now), .v (.bool z.fifo), .sl base z.vL 0 z.xs.length, .sl (base + 1) z.vA 0 z.tm.length, .sl (base + 2) 1 z.o (z.fs.length - z.o)]
def Lv.rows (z : Lv) (base : Nat) : List Row := .live z.vL 4 (z.xs.map (lvE base)) :: .live z.vA 1 (vs (z.tm.map eI)) :: .live 1 2 (vs (z.fs.map eFt)) :: z.bd.map bdR
structure Lv.ok (z : Lv) : Prop where
 o : z.o ≤ z.fs.length
 bd : ∀ x ∈ z.xs, z.bd[x.2]? = some x.1.body
def Lv.nw (z : Lv) : Nw := ⟨z.now, z.fifo, z.xs.map (·.1), z.tm, z.fs.drop z.o⟩
theorem Lv.dv {z : Lv} (h : z.ok) (base : Nat) : Dv base (z.rows base) (z.av base) (.agg ((eNw z.nw).map .v)) := by
 unfold Lv.av Lv.rows eNw Lv.nw
 refine Dv.aggL (.cons (.v _) (.cons (.v _) (.cons ?_ (.cons ?_ (.cons ?_ .nil)))))
 ·refine Dv.slR (i := 0) rfl (by simp) (by simp) (fun k r row h1 h2 => ?_)
  rw [Nat.zero_add, List.getElem?_map] at h1
  rw [List.getElem?_map, List.getElem?_map] at h2
  cases hq : z.xs[k]? with
  | none => rw [hq] at h1; cases h1
  | some x =>
    rw [hq] at h1 h2
    cases h1; cases h2
    have hb := h.bd x (List.mem_of_getElem? hq)
    unfold lvE eMs
    refine .cons (.v _) (.cons (.v _) (.cons (.v _) (.cons ?_ .nil)))
    refine Dv.slV (i := 3 + x.2) (rows := x.1.body.map eI) ?_ (by simp)
    rw [Nat.add_comm 3]
    simp only [List.getElem?_cons_succ, List.getElem?_map, hb]
    rfl
 ·exact Dv.slV (i := 1) (rows := z.tm.map eI) rfl (by simp)
 ·have := Dv.slVoff (n := base) (l := .live z.vL 4 (z.xs.map (lvE base)) :: .live z.vA 1 (vs (z.tm.map eI)) :: .live 1 2 (vs (z.fs.map eFt)) :: z.bd.map bdR) (i := 2) (ver := 1) (sz := 2) (off := z.o) (len := z.fs.length - z.o) (rows := z.fs.map eFt) rfl (by have := h.o; simp; omega)
  rwa [← List.map_drop] at this
def clE (n : Nw) (base i : Nat) : List (List AV) := fl n.l.length fun j => if j < i then [.v (.int .i64 (n.l.getD j dfMs).fr), .v (.int .i64 (n.l.getD j dfMs).to), .v (.int .i64 (n.l.getD j dfMs).nu), .sl (base + (5 + j)) 1 0 (n.l.getD j dfMs).body.length] else (eMs (n.l.getD j dfMs)).map .v
def clB (n : Nw) (j : Nat) : Row := bdR (n.l.getD j dfMs).body
theorem clE_zero {n : Nw} {base : Nat} : clE n base 0 = vs (n.l.map eMs) := by
 unfold clE vs
 apply List.ext_getElem?
 intro j
 by_cases hj : j < n.l.length
 ·rw [fl_get hj, List.getElem?_map, List.getElem?_map, List.getElem?_eq_getElem hj, if_neg oM, getD_at hj]; rfl
 ·rw [fl_none oM, List.getElem?_eq_none (by simp; omega)]
def clone0 (n : Nw) : Lv := ⟨n.now, n.fifo, 1, 1, 0, fl n.l.length (fun i => (n.l.getD i dfMs, i)), n.tm, n.fates, n.l.map (·.body)⟩
theorem clone0_ok (n : Nw) : (clone0 n).ok := by
 refine ⟨Nat.zero_le _, fun x hx => ?_⟩
 obtain ⟨i, hi, rfl⟩ := List.mem_map.1 hx
 have hi := List.mem_range.1 hi
 show (n.l.map (·.body))[i]? = _
 rw [List.getElem?_map, List.getElem?_eq_getElem hi, getD_at hi]; rfl
theorem clone0_nw (n : Nw) : (clone0 n).nw = n := by
 have h : (clone0 n).xs.map (·.1) = n.l := by
  show (fl n.l.length fun i => (n.l.getD i dfMs, i)).map (·.1) = n.l
  rw [fl_map]; exact fl_list
 unfold Lv.nw
 rw [h]; rfl
set_option maxRecDepth 20000 in
set_option maxHeartbeats 4000000 in
theorem nclone_spec (n : Nw) (hS : NwS n) (b l : List Row) : ACalls Try.prog 92 [.agg ((eNw n).map .v)] b l
  (fun r b' l' => r = (clone0 n).av (b.length + l.length) ∧ b' = b ∧ l' = l ++ (clone0 n).rows (b.length + l.length)) := by
 refine calls_kept a_nclone_ok rfl (by decide) ?_
 intro B g hB hR hE hA
 simp only [KArgs] at hA
 have hnl := hS.l
 simp (disch := (first | decide | omega)) only [a_nclone, hA, eNw, go_sem]
 refine ACalls.nxt (cloI_spec n.tm hS.tm _ _) ?_
 simp (disch := (first | decide | omega)) only [hA, go_sem]
 refine ACalls.nxt (cloF_spec n.fates hS.fates _ _) ?_
 simp (disch := (first | decide | omega)) only [hA, go_sem]
 refine ACalls.nxt (cloM_spec n.l hS.l _ _) ?_
 simp (disch := (first | decide | omega)) only [hA, go_sem]
 have hz := clE_zero (n := n) (base := B.length)
 refine loop_kept (ι := Nat) r_nclone0 (fun i => [(20, .v (.int .i64 i))]) 5 (fun i => .live 0 5 [[.v (.int .i64 n.now), .v (.bool n.fifo), .sl (B.length + 4) 1 0 n.l.length, .sl (B.length + 2) 1 0 n.tm.length, .sl (B.length + 3) 1 0 n.fates.length]] :: .live 0 5 [[.v (.int .i64 0), .v (.bool false), .v .zsl, .v .zsl, .v .zsl]] :: .live 1 1 (vs (n.tm.map eI)) :: .live 1 2 (vs (n.fates.map eFt)) :: .live 1 4 (clE n B.length i) :: fl i (clB n))
  (fun i => i ≤ n.l.length) (fun i => n.l.length - i) 0 (Nat.zero_le _) (by (repeat (first | exact hE.mono oM | refine KLt.up ?_ kL))) (by ((try simp (disch := decide) only [hA, go_sem]) <;> exact kH)) (fun e => by rw [hz]; exact Weak.refl _ _ _) ?_
 intro g1 hE1 hEE1 hg1 i hi
 by_cases hlt : i < n.l.length
 ·have hge : (clE n B.length i)[i]? = some [.v (.int .i64 n.l[i].fr), .v (.int .i64 n.l[i].to), .v (.int .i64 n.l[i].nu), .v (.isl 1 (n.l[i].body.map eI))] := by
   unfold clE
   rw [fl_get hlt, if_neg oM, getD_at hlt]; rfl
  simp (disch := (first | decide | omega)) only [hA, hg1, hge, fl_len, fz_tail0, fz_tail, fz_settail0, fz_settail, go_sem]
  refine ACalls.nxt (ncop_spec n.l[i] (hS.body _ (List.getElem_mem hlt)) _ _) ?_
  simp (disch := (first | decide | omega)) only [hA, hg1, hge, fl_len, fz_tail0, fz_tail, fz_settail0, fz_settail, setFrom, cellsOf, go_sem]
  refine ⟨i + 1, hlt, by simp only; omega, ?_⟩
  obtain ⟨σ, s1, s2⟩ : ∃ σ : Nat → Nat, (∀ j, j < 5 + i → σ j = j) ∧ (∀ j, 5 + i ≤ j → σ j = j + 1) := ⟨fun j => if j < 5 + i then j else j + 1, fun j h => if_pos h, fun j h => if_neg oM⟩
  refine Weak.kren (p := r_nclone0) (k := 5) (m := i + 6) (by simp [fl_len]) σ (by ((repeat refine (kAny_up rfl).trans ?_); exact hEE1)) (by ((try simp (disch := decide) only [hA, hg1, go_sem]) <;> exact kH)) hE1 oM (fun j hj => s1 j oM) kV hR (fun a c _ _ h => ?_) (fun j r' h => ?_)
  ·by_cases ha : a < 5 + i <;> by_cases hc : c < 5 + i
   ·rw [s1 a ha, s1 c hc] at h; exact h
   ·rw [s1 a ha, s2 c oM] at h; omega
   ·rw [s2 a oM, s1 c hc] at h; omega
   ·rw [s2 a oM, s2 c oM] at h; omega
  ·match j, h with
   | 0, h => rw [s1 0 oM]; cases h; exact ⟨_, rfl, RnR.rnK (k := 5) (fun j hj => s1 j oM) oM kL⟩
   | 1, h => rw [s1 1 oM]; cases h; exact ⟨_, rfl, RnR.rnK (k := 5) (fun j hj => s1 j oM) oM kL⟩
   | 2, h => rw [s1 2 oM]; cases h; exact ⟨_, rfl, RnR.plain⟩
   | 3, h => rw [s1 3 oM]; cases h; exact ⟨_, rfl, RnR.plain⟩
   | 4, h =>
     rw [s1 4 oM]; cases h
     refine ⟨_, rfl, rfl, rfl, by unfold clE; rw [List.length_set, fl_len, fl_len], fun k r r' h1 h2 => ?_⟩
     by_cases hk : k < n.l.length
     ·unfold clE at h2
      rw [fl_get hk] at h2
      by_cases hki : i = k
      ·subst hki
       rw [List.getElem?_set_self (by unfold clE; rw [fl_len]; exact hk)] at h1
       rw [if_pos oM, getD_at hk] at h2
       cases h1; cases h2
       exact .cons (.v _) (.cons (.v _) (.cons (.v _) (.cons (Rn.slE (j := 5 + i) (by rw [s2 _ (Nat.le_refl _)]; omega) oM) .nil)))
      ·rw [List.getElem?_set_ne hki] at h1
       unfold clE at h1
       rw [fl_get hk] at h1
       by_cases hlk : k < i
       ·rw [if_pos hlk] at h1
        rw [if_pos oM] at h2
        cases h1; cases h2
        exact .cons (.v _) (.cons (.v _) (.cons (.v _) (.cons (Rn.slE (s1 _ oM) oM) .nil)))
       ·rw [if_neg hlk] at h1
        rw [if_neg oM] at h2
        cases h1; cases h2
        exact RnL.plain
     ·unfold clE at h2
      rw [fl_none oM] at h2; cases h2
   | j + 5, h =>
     have h : (fl (i + 1) (clB n))[j]? = some r' := h
     by_cases hj : j < i
     ·rw [s1 _ oM]
      rw [fl_get oM] at h; cases h
      exact ⟨clB n j, by simp only [List.getElem?_cons_succ]; exact fz_at hj, RnR.plain⟩
     ·have hji : j = i := by
       have := (List.getElem?_eq_some_iff.1 h).1
       rw [fl_len] at this; omega
      subst hji
      rw [fl_get oM] at h; cases h
      rw [s2 _ oM]
      refine ⟨clB n j, ?_, RnR.plain⟩
      simp only [List.getElem?_cons_succ]
      rw [fz_tail]
      unfold clB bdR
      rw [getD_at hlt]; rfl
 ·obtain rfl : i = n.l.length := by omega
  simp (disch := (first | decide | omega)) only [hA, hg1, go_sem]
  obtain ⟨σ, s0, s1, s2, s3⟩ : ∃ σ : Nat → Nat, σ 0 = 4 ∧ σ 1 = 2 ∧ σ 2 = 3 ∧ (∀ j, σ (j + 3) = j + 5) := ⟨fun j => if j = 0 then 4 else if j = 1 then 2 else if j = 2 then 3 else j + 2, rfl, rfl, rfl, fun j => by simp only; rw [if_neg oM, if_neg oM, if_neg oM]⟩
  refine leave_ren (.inr rfl) (xs := [.agg [.v (.int .i64 n.now), .v (.bool n.fifo), .sl (B.length + 4) 1 0 n.l.length, .sl (B.length + 2) 1 0 n.tm.length, .sl (B.length + 3) 1 0 n.fates.length]]) (y := (clone0 n).av B.length) (l' := (clone0 n).rows B.length) (by simp (disch := (first | decide | omega)) only [resVs, resV, hA, hg1, go_sem]) (m := n.l.length + 3) (by simp [Lv.rows, clone0]) σ (fun a c _ _ h => ?_) (fun j r' h => ?_) ?_ hR hB ⟨by rw [hB, List.length_append], rfl, by rw [hB, List.length_append]⟩
  ·match a, c, h with
   | 0, 0, _ => rfl
   | 0, 1, h => rw [s0, s1] at h; omega
   | 0, 2, h => rw [s0, s2] at h; omega
   | 0, c + 3, h => rw [s0, s3] at h; omega
   | 1, 0, h => rw [s0, s1] at h; omega
   | 1, 1, _ => rfl
   | 1, 2, h => rw [s1, s2] at h; omega
   | 1, c + 3, h => rw [s1, s3] at h; omega
   | 2, 0, h => rw [s0, s2] at h; omega
   | 2, 1, h => rw [s1, s2] at h; omega
   | 2, 2, _ => rfl
   | 2, c + 3, h => rw [s2, s3] at h; omega
   | a + 3, 0, h => rw [s0, s3] at h; omega
   | a + 3, 1, h => rw [s1, s3] at h; omega
   | a + 3, 2, h => rw [s2, s3] at h; omega
   | a + 3, c + 3, h => rw [s3, s3] at h; omega
  ·match j, h with
   | 0, h =>
     rw [s0]; cases h
     refine ⟨_, rfl, rfl, rfl, by unfold clE clone0; rw [List.length_map, fl_len, fl_len], fun k r r' h1 h2 => ?_⟩
     rw [List.getElem?_map] at h2
     have hx : (clone0 n).xs = fl n.l.length (fun i => (n.l.getD i dfMs, i)) := rfl
     rw [hx] at h2
     by_cases hk : k < n.l.length
     ·unfold clE at h1
      rw [fl_get hk, if_pos hk] at h1
      rw [fl_get hk] at h2
      cases h1; cases h2
      exact .cons (.v _) (.cons (.v _) (.cons (.v _) (.cons (Rn.slE (by rw [Nat.add_comm 3, s3]; omega) (by simp only; omega)) .nil)))
     ·rw [fl_none oM] at h2; cases h2
   | 1, h => rw [s1]; cases h; exact ⟨_, rfl, RnR.plain⟩
   | 2, h => rw [s2]; cases h; exact ⟨_, rfl, RnR.plain⟩
   | j + 3, h =>
     rw [s3]
     have h : ((n.l.map (·.body)).map bdR)[j]? = some r' := h
     rw [List.map_map, List.getElem?_map] at h
     have hj : j < n.l.length := by
      cases hq : n.l[j]? with
      | none => rw [hq] at h; cases h
      | some x => exact (List.getElem?_eq_some_iff.1 hq).1
     rw [List.getElem?_eq_getElem hj] at h
     cases h
     refine ⟨clB n j, ?_, ?_⟩
     ·simp only [List.getElem?_cons_succ]; exact fl_get hj
     ·unfold clB; rw [getD_at hj]; exact RnR.plain
  ·rw [one_agg]
   unfold Lv.av
   have hxl : (clone0 n).xs.length = n.l.length := fl_len
   rw [hxl]
   exact Rn.aggL (.cons (.v _) (.cons (.v _) (.cons (Rn.slE (j := 0) s0 oM) (.cons (Rn.slE (j := 1) s1 oM) (.cons (Rn.slE (j := 2) s2 oM) .nil)))))
def a_narr : AFunc := ⟨3,25,[.tmp 6],(.seq (.region [⟨some 3,.box (.t 0),none⟩,⟨some 6,.mv (.c (.v (.bool false))),none⟩]) (.seq (.draw [⟨0,⟨some 7,.faddr 2 (.t 3),none⟩,[]⟩,⟨1,⟨some 8,.load none (.t 7),none⟩,[]⟩,⟨2,⟨some 9,.mv (.t 1),none⟩,[]⟩,⟨3,⟨some 10,.iaddr 4 (.t 8) (.t 9),none⟩,[]⟩,⟨4,⟨some 11,.faddr 1 (.t 10),none⟩,[]⟩,⟨5,⟨some 12,.load none (.t 11),none⟩,[]⟩,⟨6,⟨some 13,.mv (.t 2),none⟩,[]⟩,⟨7,⟨some 14,.bin .eql (.t 12) (.t 13),none⟩,[]⟩,⟨8,⟨some 15,.mv (.t 14),none⟩,[]⟩,⟨9,⟨some 16,.faddr 3 (.t 3),some (15,true)⟩,[]⟩,⟨10,⟨some 17,.load none (.t 16),some (15,true)⟩,[]⟩,⟨11,⟨some 18,.mv (.t 1),some (15,true)⟩,[]⟩,⟨12,⟨some 19,.iaddr 1 (.t 17) (.t 18),some (15,true)⟩,[]⟩,⟨13,⟨some 20,.load none (.t 19),some (15,true)⟩,[]⟩,⟨14,⟨some 21,.faddr 0 (.t 3),some (15,true)⟩,[]⟩,⟨15,⟨some 22,.load none (.t 21),some (15,true)⟩,[]⟩,⟨16,⟨some 23,.bin .leq (.t 20) (.t 22),some (15,true)⟩,[]⟩,⟨17,⟨some 24,.pick (.t 15) (.t 23) (.c (.v (.bool false))),none⟩,[]⟩,⟨18,⟨some 6,.mv (.t 24),none⟩,[]⟩]) .ret))⟩
theorem a_narr_ok : cFunc Try.prog 101 = some a_narr := by kernel_rfl
def a_nWait : AFunc := ⟨2,29,[.tmp 4],(.seq (.region [⟨some 2,.box (.t 0),none⟩,⟨some 4,.mv (.c (.v (.int .i64 0))),none⟩]) (.seq (.seq (.region [⟨some 7,.load (some 5) (.t 2),none⟩,⟨some 8,.call (.c (.fn 44 [])) [(.t 7)],none⟩,⟨some 9,.not (.t 8),none⟩,⟨some 10,.mv (.t 9),none⟩,⟨some 11,.mv (.t 1),some (10,false)⟩,⟨some 12,.call (.c (.fn 100 [])) [(.t 11)],some (10,false)⟩,⟨some 13,.not (.t 12),some (10,false)⟩,⟨some 14,.pick (.t 10) (.c (.v (.bool true))) (.t 13),none⟩]) (.cond (.t 14) (.seq (.region [⟨some 4,.mv (.c (.v (.int .i64 0))),none⟩]) .ret) .skip)) (.seq (.region [⟨some 5,.mv (.c (.v (.int .i64 0))),none⟩]) (.seq (.seq (.region [⟨some 15,.faddr 2 (.t 2),none⟩,⟨some 16,.load none (.t 15),none⟩,⟨some 17,.len (.t 16),none⟩,⟨some 18,.mv (.c (.v (.int .i64 0))),none⟩]) (.block 0 (.loop (.seq (.region [⟨some 19,.bin .lss (.t 18) (.t 17),none⟩]) (.seq (.cond (.t 19) .skip (.exit 0)) (.seq (.block 1 (.seq (.region [⟨some 20,.mv (.t 18),none⟩,⟨some 6,.mv (.t 20),none⟩]) (.seq (.region [⟨some 21,.load (some 5) (.t 2),none⟩,⟨some 22,.mv (.t 6),none⟩,⟨some 23,.mv (.t 1),none⟩,⟨some 24,.call (.c (.fn 101 [])) [(.t 21),(.t 22),(.t 23)],none⟩]) (.cond (.t 24) (.region [⟨some 25,.mv (.t 5),none⟩,⟨some 26,.bin .add (.t 25) (.c (.v (.int .i64 1))),none⟩,⟨some 5,.mv (.t 26),none⟩]) .skip)))) (.region [⟨some 27,.bin .add (.t 18) (.c (.v (.int .i64 1))),none⟩,⟨some 18,.mv (.t 27),none⟩]))))))) (.seq (.region [⟨some 28,.mv (.t 5),none⟩,⟨some 4,.mv (.t 28),none⟩]) .ret)))))⟩
theorem a_nWait_ok : cFunc Try.prog 45 = some a_nWait := by kernel_rfl
def r_nWait0 : List (Nat × Nat) := [(5, 6), (18, 27)]
def a_nGo : AFunc := ⟨2,30,[.cell 4 (some 5),.tmp 5],(.seq (.region [⟨some 2,.box (.t 0),none⟩,⟨some 4,.alloc [(.v (.int .i64 0)),(.v (.bool false)),(.v .zsl),(.v .zsl),(.v .zsl)],none⟩,⟨some 5,.mv (.c (.v (.int .i64 0))),none⟩]) (.seq (.block 0 (.seq (.region [⟨some 7,.load (some 5) (.t 2),none⟩,⟨some 8,.call (.c (.fn 44 [])) [(.t 7)],none⟩,⟨some 9,.not (.t 8),none⟩,⟨some 6,.mv (.t 9),none⟩]) (.cond (.t 6) (.seq (.region [⟨some 10,.build [(.v (.int .i64 0)),(.v (.bool false)),(.v .zsl),(.v .zsl),(.v .zsl)] [],none⟩,⟨none,.store 5 (.t 4) (.t 10),none⟩,⟨some 5,.mv (.c (.v (.int .i64 1))),none⟩]) .ret) (.seq (.region [⟨some 12,.mv (.t 1),none⟩,⟨some 13,.bin .lss (.t 12) (.c (.v (.int .i64 0))),none⟩,⟨some 14,.mv (.t 13),none⟩,⟨some 15,.mv (.t 1),some (14,false)⟩,⟨some 16,.bin .gtr (.t 15) (.c (.v (.int .i64 1099511627776))),some (14,false)⟩,⟨some 17,.pick (.t 14) (.c (.v (.bool true))) (.t 16),none⟩,⟨some 11,.mv (.t 17),none⟩]) (.cond (.t 11) (.seq (.region [⟨some 18,.build [(.v (.int .i64 0)),(.v (.bool false)),(.v .zsl),(.v .zsl),(.v .zsl)] [],none⟩,⟨none,.store 5 (.t 4) (.t 18),none⟩,⟨some 5,.mv (.c (.v (.int .i64 2))),none⟩]) .ret) (.seq (.region [⟨some 20,.mv (.t 1),none⟩,⟨some 21,.faddr 0 (.t 2),none⟩,⟨some 22,.load none (.t 21),none⟩,⟨some 23,.bin .lss (.t 20) (.t 22),none⟩,⟨some 19,.mv (.t 23),none⟩]) (.cond (.t 19) (.seq (.region [⟨some 24,.build [(.v (.int .i64 0)),(.v (.bool false)),(.v .zsl),(.v .zsl),(.v .zsl)] [],none⟩,⟨none,.store 5 (.t 4) (.t 24),none⟩,⟨some 5,.mv (.c (.v (.int .i64 11))),none⟩]) .ret) .skip))))))) (.seq (.region [⟨some 25,.load (some 5) (.t 2),none⟩,⟨some 26,.call (.c (.fn 92 [])) [(.t 25)],none⟩,⟨none,.store 5 (.t 2) (.t 26),none⟩]) (.seq (.region [⟨some 27,.mv (.t 1),none⟩,⟨some 28,.faddr 0 (.t 2),none⟩,⟨none,.store 1 (.t 28) (.t 27),none⟩]) (.seq (.region [⟨some 29,.load (some 5) (.t 2),none⟩,⟨none,.store 5 (.t 4) (.t 29),none⟩,⟨some 5,.mv (.c (.v (.int .i64 0))),none⟩]) .ret)))))⟩
theorem a_nGo_ok : cFunc Try.prog 36 = some a_nGo := by kernel_rfl
def a_nNew : AFunc := ⟨2,20,[.cell 4 (some 5),.tmp 5],(.seq (.region [⟨some 4,.alloc [(.v (.int .i64 0)),(.v (.bool false)),(.v .zsl),(.v .zsl),(.v .zsl)],none⟩,⟨some 5,.mv (.c (.v (.int .i64 0))),none⟩]) (.seq (.block 0 (.seq (.region [⟨some 7,.mv (.t 1),none⟩,⟨some 8,.len (.t 7),none⟩,⟨some 9,.bin .gtr (.t 8) (.c (.v (.int .i64 1000))),none⟩,⟨some 6,.mv (.t 9),none⟩]) (.cond (.t 6) (.seq (.region [⟨some 10,.build [(.v (.int .i64 0)),(.v (.bool false)),(.v .zsl),(.v .zsl),(.v .zsl)] [],none⟩,⟨none,.store 5 (.t 4) (.t 10),none⟩,⟨some 5,.mv (.c (.v (.int .i64 5))),none⟩]) .ret) (.seq (.region [⟨some 12,.mv (.t 1),none⟩,⟨some 13,.call (.c (.fn 104 [])) [(.t 12)],none⟩,⟨some 14,.not (.t 13),none⟩,⟨some 11,.mv (.t 14),none⟩]) (.cond (.t 11) (.seq (.region [⟨some 15,.build [(.v (.int .i64 0)),(.v (.bool false)),(.v .zsl),(.v .zsl),(.v .zsl)] [],none⟩,⟨none,.store 5 (.t 4) (.t 15),none⟩,⟨some 5,.mv (.c (.v (.int .i64 1))),none⟩]) .ret) .skip))))) (.seq (.region [⟨some 16,.mv (.t 0),none⟩,⟨some 17,.mv (.t 1),none⟩,⟨some 18,.call (.c (.fn 53 [])) [(.t 17)],none⟩,⟨some 19,.build [(.v (.int .i64 0)),(.v (.bool false)),(.v .zsl),(.v .zsl),(.v .zsl)] [(1,1,(.t 16)),(4,1,(.t 18))],none⟩,⟨none,.store 5 (.t 4) (.t 19),none⟩,⟨some 5,.mv (.c (.v (.int .i64 0))),none⟩]) .ret)))⟩
theorem a_nNew_ok : cFunc Try.prog 41 = some a_nNew := by kernel_rfl
def a_cmpI : AFunc := ⟨2,20,[.tmp 4],(.seq (.region [⟨some 4,.mv (.c (.v (.int .i64 0))),none⟩]) (.seq (.region [⟨some 7,.mv (.t 0),none⟩,⟨some 8,.call (.c (.fn 138 [])) [(.t 7)],none⟩,⟨some 5,.mv (.t 8),none⟩]) (.seq (.region [⟨some 9,.mv (.t 1),none⟩,⟨some 10,.call (.c (.fn 138 [])) [(.t 9)],none⟩,⟨some 6,.mv (.t 10),none⟩]) (.seq (.seq (.region [⟨some 11,.mv (.t 5),none⟩]) (.cond (.t 11) (.seq (.seq (.region [⟨some 12,.mv (.t 6),none⟩]) (.cond (.t 12) (.seq (.region [⟨some 4,.mv (.c (.v (.int .i64 0))),none⟩]) .ret) .skip)) (.seq (.region [⟨some 4,.mv (.c (.v (.int .i64 (-1)))),none⟩]) .ret)) .skip)) (.seq (.seq (.region [⟨some 13,.mv (.t 6),none⟩]) (.cond (.t 13) (.seq (.region [⟨some 4,.mv (.c (.v (.int .i64 1))),none⟩]) .ret) .skip)) (.seq (.seq (.region [⟨some 14,.mv (.t 0),none⟩,⟨some 15,.mv (.t 1),none⟩,⟨some 16,.bin .lss (.t 14) (.t 15),none⟩]) (.cond (.t 16) (.seq (.region [⟨some 4,.mv (.c (.v (.int .i64 (-1)))),none⟩]) .ret) .skip)) (.seq (.seq (.region [⟨some 17,.mv (.t 0),none⟩,⟨some 18,.mv (.t 1),none⟩,⟨some 19,.bin .gtr (.t 17) (.t 18),none⟩]) (.cond (.t 19) (.seq (.region [⟨some 4,.mv (.c (.v (.int .i64 1))),none⟩]) .ret) .skip)) (.seq (.region [⟨some 4,.mv (.c (.v (.int .i64 0))),none⟩]) .ret))))))))⟩
theorem a_cmpI_ok : cFunc Try.prog 94 = some a_cmpI := by kernel_rfl
def a_isNaN : AFunc := ⟨1,6,[.tmp 2],(.seq (.region [⟨some 2,.mv (.c (.v (.bool false))),none⟩]) (.seq (.region [⟨some 3,.mv (.t 0),none⟩,⟨some 4,.mv (.t 0),none⟩,⟨some 5,.bin .neq (.t 3) (.t 4),none⟩,⟨some 2,.mv (.t 5),none⟩]) .ret))⟩
theorem a_isNaN_ok : cFunc Try.prog 138 = some a_isNaN := by kernel_rfl
def a_bsf : AFunc := ⟨3,49,[.tmp 6,.tmp 7],(.seq (.region [⟨some 6,.mv (.c (.v (.int .i64 0))),none⟩,⟨some 7,.mv (.c (.v (.bool false))),none⟩]) (.seq (.region [⟨some 12,.mv (.t 0),none⟩,⟨some 13,.len (.t 12),none⟩,⟨some 8,.mv (.t 13),none⟩]) (.seq (.region [⟨some 14,.mv (.t 8),none⟩,⟨some 9,.mv (.c (.v (.int .i64 0))),none⟩,⟨some 10,.mv (.t 14),none⟩]) (.seq (.block 0 (.loop (.seq (.seq (.region [⟨some 15,.mv (.t 9),none⟩,⟨some 16,.mv (.t 10),none⟩,⟨some 17,.bin .lss (.t 15) (.t 16),none⟩]) (.cond (.t 17) .skip (.exit 0))) (.block 1 (.seq (.region [⟨some 18,.mv (.t 9),none⟩,⟨some 19,.mv (.t 10),none⟩,⟨some 20,.bin .add (.t 18) (.t 19),none⟩,⟨some 21,.conv .u64 (.t 20),none⟩,⟨some 22,.bin .shr (.t 21) (.c (.v (.int .u64 1))),none⟩,⟨some 23,.conv .i64 (.t 22),none⟩,⟨some 11,.mv (.t 23),none⟩]) (.seq (.region [⟨some 24,.mv (.t 2),none⟩,⟨some 25,.mv (.t 0),none⟩,⟨some 26,.mv (.t 11),none⟩,⟨some 27,.iaddr 1 (.t 25) (.t 26),none⟩,⟨some 28,.load none (.t 27),none⟩,⟨some 29,.mv (.t 1),none⟩,⟨some 30,.call (.t 24) [(.t 28),(.t 29)],none⟩,⟨some 31,.bin .lss (.t 30) (.c (.v (.int .i64 0))),none⟩]) (.cond (.t 31) (.region [⟨some 32,.mv (.t 11),none⟩,⟨some 33,.bin .add (.t 32) (.c (.v (.int .i64 1))),none⟩,⟨some 9,.mv (.t 33),none⟩]) (.region [⟨some 34,.mv (.t 11),none⟩,⟨some 10,.mv (.t 34),none⟩])))))))) (.seq (.region [⟨some 35,.mv (.t 9),none⟩,⟨some 36,.mv (.t 9),none⟩,⟨some 37,.mv (.t 8),none⟩,⟨some 38,.bin .lss (.t 36) (.t 37),none⟩,⟨some 39,.mv (.t 38),none⟩,⟨some 40,.mv (.t 2),some (39,true)⟩,⟨some 41,.mv (.t 0),some (39,true)⟩,⟨some 42,.mv (.t 9),some (39,true)⟩,⟨some 43,.iaddr 1 (.t 41) (.t 42),some (39,true)⟩,⟨some 44,.load none (.t 43),some (39,true)⟩,⟨some 45,.mv (.t 1),some (39,true)⟩,⟨some 46,.call (.t 40) [(.t 44),(.t 45)],some (39,true)⟩,⟨some 47,.bin .eql (.t 46) (.c (.v (.int .i64 0))),some (39,true)⟩,⟨some 48,.pick (.t 39) (.t 47) (.c (.v (.bool false))),none⟩,⟨some 6,.mv (.t 35),none⟩,⟨some 7,.mv (.t 48),none⟩]) .ret)))))⟩
theorem a_bsf_ok : cFunc Try.prog 93 = some a_bsf := by kernel_rfl
def r_bsf0 : List (Nat × Nat) := [(9, 11), (15, 34)]

theorem narr_spec (n : Nw) (i : Nat) (hi : i < n.l.length) (ht : i < n.tm.length) (to : Int) (b l : List Row) : ACalls Try.prog 101 [.agg [.v (.int .i64 n.now), .v (.bool n.fifo), .v (.isl 4 (n.l.map eMs)), .v (.isl 1 (n.tm.map eI)), .v (.isl 2 (n.fates.map eFt))], .v (.int .i64 i), .v (.int .i64 to)] b l (fun r b' l' => r = .v (.bool (arB n to i)) ∧ b' = b ∧ l' = l) := by
 refine calls_kept a_narr_ok rfl (by decide) ?_
 intro B g hB hR hE hA
 simp only [KArgs] at hA
 have hm := eMs_get hi
 have htm := eI_get ht
 have hgd : n.l.getD i dfMs = n.l[i] := getD_at hi
 by_cases h1 : n.l[i].to = to
 ·have d1 : (n.l[i].to == to) = true := by rw [h1]; simp
  simp (disch := (first | decide | omega)) only [a_narr, hA, hm, htm, d1, go_sem]
  exact leave_pure (xs := [.v (.bool (decide (n.tm.getD i 0 ≤ n.now)))]) (.inr rfl) (by simp (disch := (first | decide | omega)) only [resVs, resV, go_sem, hA]) kO hR hB ⟨by unfold arB; rw [hgd, decide_eq_true h1]; rfl, rfl, rfl⟩
 ·have d1 : (n.l[i].to == to) = false := beq_eq_false_iff_ne.2 h1
  simp (disch := (first | decide | omega)) only [a_narr, hA, hm, htm, d1, go_sem]
  exact leave_pure (xs := [.v (.bool false)]) (.inr rfl) (by simp (disch := (first | decide | omega)) only [resVs, resV, go_sem, hA]) kO hR hB ⟨by unfold arB; rw [hgd, decide_eq_false h1]; rfl, rfl, rfl⟩
def waitN (n : Nw) (to : Int) : Nat := if nwB n = true ∧ ptB to = true then wtN n to n.l.length else 0
set_option maxRecDepth 20000 in
set_option maxHeartbeats 1000000 in
theorem nWait_spec (n : Nw) (to : Int) (b l : List Row) : ACalls Try.prog 45 [.agg ((eNw n).map .v), .v (.int .i64 to)] b l (fun r b' l' => r = .v (.int .i64 (waitN n to)) ∧ b' = b ∧ l' = l) := by
 refine calls_kept a_nWait_ok rfl (by decide) ?_
 intro B g hB hR hE hA
 simp only [KArgs] at hA
 have hV := nValid_spec n
 unfold eNw at hV
 simp only [List.map_cons, List.map_nil] at hV
 simp (disch := (first | decide | omega)) only [a_nWait, hA, eNw, go_sem]
 refine ACalls.nxt (hV _ _) ?_
 cases h1 : nwB n
 ·simp (disch := (first | decide | omega)) only [hA, go_sem]
  exact leave_pure (xs := [.v (.int .i64 0)]) (.inr rfl) (by simp (disch := (first | decide | omega)) only [resVs, resV, go_sem, hA]) kO hR hB ⟨by unfold waitN; rw [h1]; rfl, rfl, rfl⟩
 have hv := nwB_iff.1 h1
 have hl := hv.len
 have hlm := hv.l
 simp (disch := (first | decide | omega)) only [hA, go_sem]
 refine ACalls.nxt (nparty_spec to _ _) ?_
 cases h2 : ptB to
 ·simp (disch := (first | decide | omega)) only [hA, go_sem]
  exact leave_pure (xs := [.v (.int .i64 0)]) (.inr rfl) (by simp (disch := (first | decide | omega)) only [resVs, resV, go_sem, hA]) kO hR hB ⟨by unfold waitN; rw [if_neg (fun h => by rw [h2] at h; cases h.2)]; rfl, rfl, rfl⟩
 have z0 : wtN n to 0 = 0 := rfl
 simp (disch := (first | decide | omega)) only [hA, List.length_map, go_sem]
 refine loop_kept (ι := Nat) r_nWait0 (fun i => [(5, .v (.int .i64 (wtN n to i))), (18, .v (.int .i64 i))]) 1 (fun _ => [.live 0 5 [[.v (.int .i64 n.now), .v (.bool n.fifo), .v (.isl 4 (n.l.map eMs)), .v (.isl 1 (n.tm.map eI)), .v (.isl 2 (n.fates.map eFt))]]])
  (fun i => i ≤ n.l.length) (fun i => n.l.length - i) 0 (Nat.zero_le _) (by (repeat (first | exact hE.mono oM | refine KLt.up ?_ kL))) (by ((try simp (disch := decide) only [hA, z0, go_sem]) <;> exact kH)) (fun e => Weak.refl _ _ _) ?_
 intro g1 hE1 hEE1 hg1 i hi
 by_cases hlt : i < n.l.length
 ·have hwl := wtN_le (n := n) (to := to) i
  simp (disch := (first | decide | omega)) only [hA, hg1, List.length_map, go_sem]
  refine ACalls.nxt (narr_spec n i hlt oM to _ _) ?_
  cases q : arB n to i
  ·have hs : wtN n to (i + 1) = wtN n to i := by simp only [wtN]; rw [q]; rfl
   simp (disch := (first | decide | omega)) only [hA, hg1, go_sem]
   refine ⟨i + 1, hlt, by simp only; omega, ?_⟩
   exact Weak.kround (p := r_nWait0) (k := 1) (by ((repeat refine (kAny_up rfl).trans ?_); exact hEE1)) (by ((try simp (disch := decide) only [hA, hs, go_sem]) <;> exact kH)) rfl hE1 (by simp) kV hR kL
  ·have hs : wtN n to (i + 1) = wtN n to i + 1 := by simp only [wtN]; rw [q]; rfl
   simp (disch := (first | decide | omega)) only [hA, hg1, go_sem]
   refine ⟨i + 1, hlt, by simp only; omega, ?_⟩
   exact Weak.kround (p := r_nWait0) (k := 1) (by ((repeat refine (kAny_up rfl).trans ?_); exact hEE1)) (by ((try simp (disch := decide) only [hA, hs, go_sem]) <;> exact kH)) rfl hE1 (by simp) kV hR kL
 ·obtain rfl : i = n.l.length := by omega
  simp (disch := (first | decide | omega)) only [hA, hg1, List.length_map, go_sem]
  exact leave_pure (xs := [.v (.int .i64 (wtN n to n.l.length))]) (.inr rfl) (by simp (disch := (first | decide | omega)) only [resVs, resV, go_sem, hA, hg1]) kO hR hB ⟨by unfold waitN; rw [if_pos ⟨h1, h2⟩]; rfl, rfl, rfl⟩
theorem isNaN_spec (x : Int) (b l : List Row) : ACalls Try.prog 138 [.v (.int .i64 x)] b l (fun r b' l' => r = .v (.bool false) ∧ b' = b ∧ l' = l) := by
 refine calls_kept a_isNaN_ok rfl (by decide) ?_
 intro B g hB hR hE hA
 simp only [KArgs] at hA
 have d1 : (x != x) = false := by simp
 simp (disch := (first | decide | omega)) only [a_isNaN, hA, d1, go_sem]
 exact leave_pure (xs := [.v (.bool false)]) (.inr rfl) (by simp (disch := (first | decide | omega)) only [resVs, resV, go_sem, hA]) kO hR hB ⟨rfl, rfl, rfl⟩
def cmpN (x y : Int) : Int := if x < y then -1 else if y < x then 1 else 0
theorem cmpI_spec (x y : Int) (b l : List Row) : ACalls Try.prog 94 [.v (.int .i64 x), .v (.int .i64 y)] b l (fun r b' l' => r = .v (.int .i64 (cmpN x y)) ∧ b' = b ∧ l' = l) := by
 refine calls_kept a_cmpI_ok rfl (by decide) ?_
 intro B g hB hR hE hA
 simp only [KArgs] at hA
 simp (disch := (first | decide | omega)) only [a_cmpI, hA, go_sem]
 refine ACalls.nxt (isNaN_spec x _ _) ?_
 simp (disch := (first | decide | omega)) only [hA, go_sem]
 refine ACalls.nxt (isNaN_spec y _ _) ?_
 by_cases h1 : x < y
 ·have d1 := decide_eq_true h1
  simp (disch := (first | decide | omega)) only [hA, d1, go_sem]
  exact leave_pure (xs := [.v (.int .i64 (-1))]) (.inr rfl) (by simp (disch := (first | decide | omega)) only [resVs, resV, go_sem, hA]) kO hR hB ⟨by unfold cmpN; rw [if_pos h1]; rfl, rfl, rfl⟩
 ·have d1 := decide_eq_false h1
  by_cases h2 : y < x
  ·have d2 := decide_eq_true h2
   simp (disch := (first | decide | omega)) only [hA, d1, d2, go_sem]
   exact leave_pure (xs := [.v (.int .i64 1)]) (.inr rfl) (by simp (disch := (first | decide | omega)) only [resVs, resV, go_sem, hA]) kO hR hB ⟨by unfold cmpN; rw [if_neg h1, if_pos h2]; rfl, rfl, rfl⟩
  ·have d2 := decide_eq_false h2
   simp (disch := (first | decide | omega)) only [hA, d1, d2, go_sem]
   exact leave_pure (xs := [.v (.int .i64 0)]) (.inr rfl) (by simp (disch := (first | decide | omega)) only [resVs, resV, go_sem, hA]) kO hR hB ⟨by unfold cmpN; rw [if_neg h1, if_neg h2]; rfl, rfl, rfl⟩
def fndN (tm : List Int) (a : Int) : Bool := decide (leN tm a < tm.length) && (tm.getD (leN tm a) 0 == a + 1)
theorem hget_low0 {B : List Row} {s : Nat} {r : Row} (h : B[s]? = some r) {l : List Row} : hget B l s = some r := by
 unfold hget
 rw [if_pos (List.getElem?_eq_some_iff.1 h).1]; exact h
theorem bsfS_spec (tm : List Int) (hn : tm.length ≤ 1000000) (hs : ∀ i j, i ≤ j → j < tm.length → tm.getD i 0 ≤ tm.getD j 0) (a : Int) (id ver : Nat) (b l : List Row) (hid : (b ++ l)[id]? = some (.live ver 1 (vs (tm.map eI)))) :
  ACalls Try.prog 93 [.sl id ver 0 tm.length, .v (.int .i64 (a + 1)), .fn 94 []] b l (fun r b' l' => r = .tup [.v (.int .i64 (leN tm a)), .v (.bool (fndN tm a))] ∧ b' = b ∧ l' = l) := by
 refine calls_kept a_bsf_ok rfl (by decide) ?_
 intro B g hB hR hE hA
 simp only [KArgs] at hA
 have h10 : decide ((1 : Int) < 0) = false := rfl
 have hgid := fun l => hget_low0 (l := l) (hB.symm ▸ hid : B[id]? = some (.live ver 1 (vs (tm.map eI))))
 have hidl : id < B.length := (List.getElem?_eq_some_iff.1 (hB.symm ▸ hid : B[id]? = some (.live ver 1 (vs (tm.map eI))))).1
 have hleB := leN_le (l := tm) (a := a)
 simp (disch := (first | decide | omega)) only [a_bsf, hA, List.length_map, go_sem]
 refine loop_kept (ι := Nat × Nat) r_bsf0 (fun i => [(9, .v (.int .i64 i.1)), (10, .v (.int .i64 i.2))]) 0 (fun _ => [])
  (fun i => i.1 ≤ i.2 ∧ i.2 ≤ tm.length ∧ (∀ q, q < i.1 → tm.getD q 0 ≤ a) ∧ ∀ q, i.2 ≤ q → q < tm.length → a < tm.getD q 0) (fun i => i.2 - i.1) (0, tm.length) ⟨Nat.zero_le _, Nat.le_refl _, fun q hq => by simp only at hq; omega, fun q h1 h2 => by simp only at h1; omega⟩ (by (repeat (first | exact hE.mono oM | refine KLt.up ?_ kL))) (by ((try simp (disch := decide) only [hA, go_sem]) <;> exact kH)) (fun e => Weak.refl _ _ _) ?_
 rintro g1 hE1 hEE1 hg1 ⟨i, j⟩ ⟨hij, hj, hlo, hhi⟩
 simp only at hij hj hlo hhi
 by_cases hlt : i < j
 ·have hw : IntKind.u64.wrap ((i : Int) + (j : Int)) = ((i + j : Nat) : Int) := by rw [IntKind.wrap_u64]; omega
  have hw2 : IntKind.i64.wrap ((i : Int) + (j : Int)) = (i : Int) + (j : Int) := wrap_id oM oM
  have hf : Int.fdiv ((i + j : Nat) : Int) 2 = (((i + j) / 2 : Nat) : Int) := by rw [Int.fdiv_eq_ediv_of_nonneg _ (by decide)]; omega
  have hf3 : Int.fdiv ((i + j : Nat) : Int) (2 ^ Int.toNat 1) = (((i + j) / 2 : Nat) : Int) := hf
  have hm : (i + j) / 2 < tm.length := by omega
  have hmg := eI_get hm
  have hw3 : IntKind.i64.wrap (((i + j) / 2 : Nat) : Int) = (((i + j) / 2 : Nat) : Int) := wrap_id oM oM
  simp (disch := (first | decide | omega)) only [hA, hg1, hw, hw2, hw3, hf, hf3, hmg, shOp, h10, hgid, vs_get, go_sem]
  refine ACalls.nxt (cmpI_spec _ _ _ _) ?_
  by_cases hc : tm.getD ((i + j) / 2) 0 < a + 1
  ·have hcm : cmpN (tm.getD ((i + j) / 2) 0) (a + 1) = -1 := if_pos hc
   have d1 : decide ((-1 : Int) < 0) = true := rfl
   rw [hcm]
   have hw4 : IntKind.i64.wrap ((((i + j) / 2 : Nat) : Int) + 1) = (((i + j) / 2 + 1 : Nat) : Int) := by rw [wrap_id oM oM]; omega
   simp (disch := (first | decide | omega)) only [hA, hg1, d1, hw4, h10, hgid, vs_get, go_sem]
   refine ⟨((i + j) / 2 + 1, j), ⟨by simp only; omega, hj, fun q hq => ?_, hhi⟩, by simp only; omega, ?_⟩
   ·simp only at hq
    have := hs q ((i + j) / 2) oM hm
    omega
   ·exact Weak.kround (p := r_bsf0) (k := 0) (by ((repeat refine (kAny_up rfl).trans ?_); exact hEE1)) (by ((try simp (disch := decide) only [hA, hg1, go_sem]) <;> exact kH)) rfl hE1 (by simp) kV hR kL
  ·have hcm : decide (cmpN (tm.getD ((i + j) / 2) 0) (a + 1) < 0) = false := by
    unfold cmpN
    rw [if_neg hc]
    split <;> rfl
   simp (disch := (first | decide | omega)) only [hA, hg1, hcm, h10, hgid, vs_get, go_sem]
   refine ⟨(i, (i + j) / 2), ⟨by simp only; omega, by simp only; omega, hlo, fun q h1 h2 => ?_⟩, by simp only; omega, ?_⟩
   ·simp only at h1
    have := hs ((i + j) / 2) q h1 h2
    omega
   ·exact Weak.kround (p := r_bsf0) (k := 0) (by ((repeat refine (kAny_up rfl).trans ?_); exact hEE1)) (by ((try simp (disch := decide) only [hA, hg1, go_sem]) <;> exact kH)) rfl hE1 (by simp) kV hR kL
 ·obtain rfl : j = i := by omega
  have hle : leN tm a = j := leN_eq hj hlo (fun h => hhi j (Nat.le_refl _) h)
  have hnl : decide ((j : Int) < (j : Int)) = false := by simp
  by_cases hin : j < tm.length
  ·have d1 : decide ((j : Int) < (tm.length : Int)) = true := decide_eq_true oM
   have hmg := eI_get hin
   simp (disch := (first | decide | omega)) only [hA, hg1, hnl, d1, hmg, List.length_map, h10, hgid, vs_get, go_sem]
   refine ACalls.nxt (cmpI_spec _ _ _ _) ?_
   have hc : (cmpN (tm.getD j 0) (a + 1) == 0) = fndN tm a := by
    unfold fndN cmpN
    rw [hle, decide_eq_true hin]
    have := hhi j (Nat.le_refl _) hin
    rw [if_neg oM]
    by_cases he : tm.getD j 0 = a + 1
    ·rw [if_neg oM, he]; simp
    ·rw [if_pos oM]
     have : (tm.getD j 0 == a + 1) = false := by simpa using he
     rw [this]; rfl
   simp (disch := (first | decide | omega)) only [hA, hg1, hc, go_sem]
   exact leave_pure (xs := [.v (.int .i64 j), .v (.bool (fndN tm a))]) (.inr rfl) (by simp (disch := (first | decide | omega)) only [resVs, resV, go_sem, hA, hg1]) kO hR hB ⟨by rw [hle]; rfl, rfl, rfl⟩
  ·have d1 : decide ((j : Int) < (tm.length : Int)) = false := decide_eq_false oM
   have hc : fndN tm a = false := by
    unfold fndN
    rw [hle, decide_eq_false hin]; rfl
   simp (disch := (first | decide | omega)) only [hA, hg1, hnl, d1, List.length_map, h10, hgid, vs_get, go_sem]
   exact leave_pure (xs := [.v (.int .i64 j), .v (.bool false)]) (.inr rfl) (by simp (disch := (first | decide | omega)) only [resVs, resV, go_sem, hA, hg1]) kO hR hB ⟨by rw [hle, hc]; rfl, rfl, rfl⟩
def nwA (n : Nw) : AV := .agg ((eNw n).map .v)
def zNw : AV := .agg [.v (.int .i64 0), .v (.bool false), .v .zsl, .v .zsl, .v .zsl]
theorem zNw_dv {n : Nat} {l : List Row} : Dv n l zNw (nwA nw0) :=
 Dv.aggL (.cons (.v _) (.cons (.v _) (.cons (.z 4) (.cons (.z 1) (.cons (.z 2) .nil)))))
def ownA (base : Nat) : Option Lv → AV
 | some z => z.av base
 | none => zNw
def ownR (base : Nat) : Option Lv → List Row
 | some z => z.rows base
 | none => []
def ownN : Option Lv → Nw
 | some z => z.nw
 | none => nw0
theorem own_dv {z : Option Lv} (h : ∀ y, z = some y → y.ok) (base : Nat) : Dv base (ownR base z) (ownA base z) (nwA (ownN z)) := by
 cases z with
 | none => exact zNw_dv
 | some y => exact Lv.dv (h y rfl) base
theorem ACalls.ownV {P : Program} {f : Nat} {args : List AV} {b l : List Row} {z : Option Lv} {e : IV} (hz : ∀ y, z = some y → y.ok)
  (h : ACalls P f args b l (fun r b' l' => r = .tup [ownA (b.length + l.length) z, .v e] ∧ b' = b ∧ l' = l ++ ownR (b.length + l.length) z)) :
  ACalls P f args b l (fun r b' l' => r = .tup [nwA (ownN z), .v e] ∧ b' = b ∧ l' = l) :=
 ACalls.deep (Dv.tupL (.cons (own_dv hz _) (.cons (.v _) .nil))) h
def newE (l : List (Int × Int)) : Int := if 1000 < l.length then 5 else if ftsB l = true then 0 else 1
def newR (fifo : Bool) (l : List (Int × Int)) : Nw := if newE l = 0 then ⟨0, fifo, [], [], l⟩ else nw0
theorem nNew_spec (fifo : Bool) (v : List (Int × Int)) (b l : List Row) : ACalls Try.prog 41 [.v (.bool fifo), .v (.isl 2 (v.map eFt))] b l (fun r b' l' => r = .tup [nwA (newR fifo v), .v (.int .i64 (newE v))] ∧ b' = b ∧ l' = l) := by
 refine calls_kept a_nNew_ok rfl (by decide) ?_
 intro B g hB hR hE hA
 simp only [KArgs] at hA
 by_cases h1 : 1000 < v.length
 ·have d1 : decide ((1000 : Int) < (v.length : Int)) = true := decide_eq_true oM
  have he : newE v = 5 := if_pos h1
  simp (disch := (first | decide | omega)) only [a_nNew, hA, d1, List.length_map, setFrom, cellsOf, go_sem]
  refine leave_deep (.inr rfl) (xs := [zNw, .v (.int .i64 5)]) (y := .tup [nwA (newR fifo v), .v (.int .i64 (newE v))]) (by simp (disch := (first | decide | omega)) only [resVs, resV, hA, zNw, go_sem]) ?_ hR hB ⟨rfl, rfl, rfl⟩
  rw [he, show newR fifo v = nw0 from by unfold newR; rw [he]; rfl]
  exact Dv.tupL (.cons zNw_dv (.cons (.v _) .nil))
 have d1 : decide ((1000 : Int) < (v.length : Int)) = false := decide_eq_false oM
 simp (disch := (first | decide | omega)) only [a_nNew, hA, d1, List.length_map, go_sem]
 refine ACalls.nxt (nfats_spec v oM _ _) ?_
 cases h2 : ftsB v
 ·have he : newE v = 1 := by unfold newE; rw [if_neg h1, h2]; rfl
  simp (disch := (first | decide | omega)) only [hA, setFrom, cellsOf, go_sem]
  refine leave_deep (.inr rfl) (xs := [zNw, .v (.int .i64 1)]) (y := .tup [nwA (newR fifo v), .v (.int .i64 (newE v))]) (by simp (disch := (first | decide | omega)) only [resVs, resV, hA, zNw, go_sem]) ?_ hR hB ⟨rfl, rfl, rfl⟩
  rw [he, show newR fifo v = nw0 from by unfold newR; rw [he]; rfl]
  exact Dv.tupL (.cons zNw_dv (.cons (.v _) .nil))
 have he : newE v = 0 := by unfold newE; rw [if_neg h1, h2]; rfl
 simp (disch := (first | decide | omega)) only [hA, go_sem]
 refine ACalls.nxt (cloF_spec v oM _ _) ?_
 simp (disch := (first | decide | omega)) only [hA, setFrom, cellsOf, go_sem]
 refine leave_deep (.inr rfl) (xs := [.agg [.v (.int .i64 0), .v (.bool fifo), .v .zsl, .v .zsl, .sl (B.length + 1) 1 0 v.length], .v (.int .i64 0)]) (y := .tup [nwA (newR fifo v), .v (.int .i64 (newE v))]) (by simp (disch := (first | decide | omega)) only [resVs, resV, hA, go_sem]) ?_ hR hB ⟨rfl, rfl, rfl⟩
 rw [he, show newR fifo v = ⟨0, fifo, [], [], v⟩ from by unfold newR; rw [if_pos he]]
 exact Dv.tupL (.cons (Dv.aggL (.cons (.v _) (.cons (.v _) (.cons (.z 4) (.cons (.z 1) (.cons (Dv.slV (i := 1) rfl (by simp)) .nil)))))) (.cons (.v _) .nil))
def goE (n : Nw) (t : Int) : Int := if nwB n = true then (if t < 0 ∨ 1099511627776 < t then 2 else if t < n.now then 11 else 0) else 1
def goZ (n : Nw) (t : Int) : Option Lv := if goE n t = 0 then some { clone0 n with now := t } else none
def goN (n : Nw) (t : Int) : Nw := if goE n t = 0 then { n with now := t } else nw0
theorem goZ_ok {n : Nw} {t : Int} : ∀ y, goZ n t = some y → y.ok := by
 intro y h
 unfold goZ at h
 split at h
 ·cases h; exact ⟨(clone0_ok n).o, (clone0_ok n).bd⟩
 ·cases h
theorem goZ_nw {n : Nw} {t : Int} : ownN (goZ n t) = goN n t := by
 unfold goZ goN
 split
 ·have := clone0_nw n
  unfold ownN
  unfold Lv.nw at this ⊢
  simp only at this ⊢
  rw [Nw.eq_iff] at this
  simp only at this
  rw [Nw.eq_iff]
  exact ⟨rfl, this.2⟩
 ·rfl
theorem lvE_rn {z : Lv} (hz : z.ok) {n s m : Nat} (hm : z.bd.length + 3 ≤ m) {σ : Nat → Nat} (hσ : ∀ j, j < z.bd.length + 3 → σ j = j + s) {x : Ms × Nat} (hx : x ∈ z.xs) : RnL n m σ (lvE (n + s) x) (lvE n x) := by
 have hb := (List.getElem?_eq_some_iff.1 (hz.bd x hx)).1
 unfold lvE
 refine .cons (.v _) (.cons (.v _) (.cons (.v _) (.cons ?_ .nil)))
 rw [show n + s + (3 + x.2) = n + (3 + x.2 + s) by omega]
 exact Rn.slE (hσ _ oM) oM
theorem Lv.rnA {z : Lv} {n s m : Nat} (hm : z.bd.length + 3 ≤ m) {σ : Nat → Nat} (hσ : ∀ j, j < z.bd.length + 3 → σ j = j + s) : Rn n m σ (z.av (n + s)) (z.av n) := by
 unfold Lv.av
 refine Rn.aggL (.cons (.v _) (.cons (.v _) (.cons ?_ (.cons ?_ (.cons ?_ .nil)))))
 ·exact Rn.slE (i := s) (j := 0) (by rw [hσ 0 oM]; omega) oM
 ·rw [show n + s + 1 = n + (1 + s) by omega]
  exact Rn.slE (hσ 1 oM) oM
 ·rw [show n + s + 2 = n + (2 + s) by omega]
  exact Rn.slE (hσ 2 oM) oM
theorem Lv.rnR {z : Lv} (hz : z.ok) {n s m : Nat} (hm : z.bd.length + 3 ≤ m) {σ : Nat → Nat} (hσ : ∀ j, j < z.bd.length + 3 → σ j = j + s) {pre junk : List Row} (hp : pre.length = s) (j : Nat) (r' : Row) (h : (z.rows n)[j]? = some r') : ∃ r, (pre ++ (z.rows (n + s) ++ junk))[σ j]? = some r ∧ RnR n m σ r r' := by
 have hlen : (z.rows n).length = z.bd.length + 3 := by simp [Lv.rows]
 have hj := (List.getElem?_eq_some_iff.1 h).1
 rw [hlen] at hj
 rw [hσ j hj, List.getElem?_append_right oM, hp, Nat.add_sub_cancel, List.getElem?_append_left (by simp [Lv.rows]; omega)]
 match j, h with
 | 0, h =>
   cases h
   refine ⟨_, rfl, rfl, rfl, by simp, fun k r r' h1 h2 => ?_⟩
   rw [List.getElem?_map] at h1 h2
   cases hq : z.xs[k]? with
   | none => rw [hq] at h1; cases h1
   | some x =>
     rw [hq] at h1 h2
     cases h1; cases h2
     exact lvE_rn hz hm hσ (List.mem_of_getElem? hq)
 | 1, h => cases h; exact ⟨_, rfl, RnR.plain⟩
 | 2, h => cases h; exact ⟨_, rfl, RnR.plain⟩
 | j + 3, h =>
   have h : (z.bd.map bdR)[j]? = some r' := h
   refine ⟨r', h, ?_⟩
   rw [List.getElem?_map] at h
   cases hq : z.bd[j]? with
   | none => rw [hq] at h; cases h
   | some x => rw [hq] at h; cases h; exact RnR.plain
theorem leave_lv {e : List AV} {l junk : List Row} {rs : List ARes} {Q : AV → List Row → List Row → Prop} {B : List Row} {ex : AExit} (hex : ex = .normal ∨ ex = .ret) {z : Lv} (hz : z.ok) {s : Nat} {c : IV} (hx : resVs e B l rs = some [z.av (B.length + s), .v c]) (hl : l.drop s = z.rows (B.length + s) ++ junk)
  (hR : RowsLt B.length B) {b0 l0 : List Row} (hB : B = b0 ++ l0) (hq : Q (.tup [z.av B.length, .v c]) b0 (l0 ++ z.rows B.length)) : Leaves rs Q b0.length ex e B l := by
 have hσ : ∀ j, j < z.bd.length + 3 → (fun j => j + s) j = j + s := fun _ _ => rfl
 have hp : (l.take s).length = s := by
  have h := congrArg List.length hl
  rw [List.length_drop, List.length_append] at h
  simp only [Lv.rows, List.length_cons] at h
  rw [List.length_take]; omega
 have hl2 : l = l.take s ++ (z.rows (B.length + s) ++ junk) := by rw [← hl, List.take_append_drop]
 rw [hl2] at hx ⊢
 exact leave_ren hex hx (y := .tup [z.av B.length, .v c]) (l' := z.rows B.length) (m := z.bd.length + 3) (by simp [Lv.rows]) (fun j => j + s) (fun i j _ _ h => by have h : i + s = j + s := h; omega) (fun j r' h => Lv.rnR hz (Nat.le_refl _) hσ hp j r' h)
  (Rn.tupL (.cons (Lv.rnA (Nat.le_refl _) hσ) (.cons (.v _) .nil))) hR hB hq
set_option maxRecDepth 20000 in
set_option maxHeartbeats 1000000 in
theorem nGo_own (n : Nw) (t : Int) (b l : List Row) : ACalls Try.prog 36 [.agg ((eNw n).map .v), .v (.int .i64 t)] b l
  (fun r b' l' => r = .tup [ownA (b.length + l.length) (goZ n t), .v (.int .i64 (goE n t))] ∧ b' = b ∧ l' = l ++ ownR (b.length + l.length) (goZ n t)) := by
 refine calls_kept a_nGo_ok rfl (by decide) ?_
 intro B g hB hR hE hA
 simp only [KArgs] at hA
 have hV := nValid_spec n
 have hC := nclone_spec n
 unfold eNw at hV hC
 simp only [List.map_cons, List.map_nil] at hV hC
 have bad : goE n t ≠ 0 → goZ n t = none := fun h => if_neg h
 simp (disch := (first | decide | omega)) only [a_nGo, hA, eNw, go_sem]
 refine ACalls.nxt (hV _ _) ?_
 cases h1 : nwB n
 ·have he : goE n t = 1 := by unfold goE; rw [h1]; rfl
  rw [bad (by rw [he]; decide), he]
  simp (disch := (first | decide | omega)) only [hA, setFrom, cellsOf, go_sem]
  exact leave_pure (.inr rfl) (xs := [zNw, .v (.int .i64 1)]) (by simp (disch := (first | decide | omega)) only [resVs, resV, hA, zNw, go_sem]) (by simp only [one, zNw, lts.down, Nat.reduceLT, Nat.reduceAdd]) hR hB ⟨rfl, rfl, by simp [ownR]⟩
 by_cases h2 : t < 0
 ·have he : goE n t = 2 := by unfold goE; rw [if_pos h1, if_pos (.inl h2)]
  rw [bad (by rw [he]; decide), he]
  have d2 := decide_eq_true h2
  simp (disch := (first | decide | omega)) only [hA, d2, setFrom, cellsOf, go_sem]
  exact leave_pure (.inr rfl) (xs := [zNw, .v (.int .i64 2)]) (by simp (disch := (first | decide | omega)) only [resVs, resV, hA, zNw, go_sem]) (by simp only [one, zNw, lts.down, Nat.reduceLT, Nat.reduceAdd]) hR hB ⟨rfl, rfl, by simp [ownR]⟩
 have d2 := decide_eq_false h2
 by_cases h3 : 1099511627776 < t
 ·have he : goE n t = 2 := by unfold goE; rw [if_pos h1, if_pos (.inr h3)]
  rw [bad (by rw [he]; decide), he]
  have d3 := decide_eq_true h3
  simp (disch := (first | decide | omega)) only [hA, d2, d3, setFrom, cellsOf, go_sem]
  exact leave_pure (.inr rfl) (xs := [zNw, .v (.int .i64 2)]) (by simp (disch := (first | decide | omega)) only [resVs, resV, hA, zNw, go_sem]) (by simp only [one, zNw, lts.down, Nat.reduceLT, Nat.reduceAdd]) hR hB ⟨rfl, rfl, by simp [ownR]⟩
 have d3 := decide_eq_false h3
 by_cases h4 : t < n.now
 ·have he : goE n t = 11 := by unfold goE; rw [if_pos h1, if_neg oM, if_pos h4]
  rw [bad (by rw [he]; decide), he]
  have d4 := decide_eq_true h4
  simp (disch := (first | decide | omega)) only [hA, d2, d3, d4, setFrom, cellsOf, go_sem]
  exact leave_pure (.inr rfl) (xs := [zNw, .v (.int .i64 11)]) (by simp (disch := (first | decide | omega)) only [resVs, resV, hA, zNw, go_sem]) (by simp only [one, zNw, lts.down, Nat.reduceLT, Nat.reduceAdd]) hR hB ⟨rfl, rfl, by simp [ownR]⟩
 have d4 := decide_eq_false h4
 have he : goE n t = 0 := by unfold goE; rw [if_pos h1, if_neg oM, if_neg h4]
 have hZ : goZ n t = some { clone0 n with now := t } := if_pos he
 have hok := goZ_ok _ hZ
 rw [hZ, he]
 simp (disch := (first | decide | omega)) only [hA, d2, d3, d4, go_sem]
 refine ACalls.nxt (hC (nwB_iff.1 h1).s _ _) ?_
 simp (disch := (first | decide | omega)) only [hA, Lv.av, setFrom, cellsOf, go_sem]
 refine leave_lv (.inr rfl) hok (s := 2) (c := .int .i64 0) (junk := []) (by simp (disch := (first | decide | omega)) only [resVs, resV, hA, Lv.av, go_sem]) ?_ hR hB ⟨by rw [hB, List.length_append]; rfl, rfl, by rw [hB, List.length_append]; rfl⟩
 simp only [List.append_nil, List.cons_append, List.nil_append]
 rfl
theorem nGo_spec (n : Nw) (t : Int) (b l : List Row) : ACalls Try.prog 36 [.agg ((eNw n).map .v), .v (.int .i64 t)] b l (fun r b' l' => r = .tup [nwA (goN n t), .v (.int .i64 (goE n t))] ∧ b' = b ∧ l' = l) := by
 rw [← goZ_nw]
 exact ACalls.ownV goZ_ok (nGo_own n t b l)
end Go.Proofs.Ytilcmenglgdljaa
