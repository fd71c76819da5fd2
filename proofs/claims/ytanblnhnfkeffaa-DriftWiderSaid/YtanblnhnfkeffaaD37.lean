/- Texts of one proof, laid together: DV, DR, DQ, OF, VL. No condition. -/
import Derived.Test.YtanblnhnfkeffaaD32
import Derived.Test.YtanblnhnfkeffaaD331
import Derived.KernelRfl
namespace Go.Proofs.Ytanblnhnfkeffaa
set_option linter.unusedVariables false
set_option linter.unusedSimpArgs false
inductive Dv (n : Nat) (l : List Row) : AV → AV → Prop where
 | v (x : IV) : Dv n l (.v x) (.v x)
 | z (sz : Nat) : Dv n l (.v .zsl) (.v (.isl sz []))
 | sl (i ver off len sz : Nat) (els : List (List AV)) (rows : List (List IV)) (hi : l[i]? = some (.live ver sz els)) (hle : off + len ≤ els.length) (hl : rows.length = len)
   (h1 : ∀ (k : Nat) (r : List AV) (row : List IV), els[off + k]? = some r → rows[k]? = some row → r.length = row.length)
   (h2 : ∀ (k : Nat) (r : List AV) (row : List IV) (j : Nat) (a : AV) (c : IV), els[off + k]? = some r → rows[k]? = some row → r[j]? = some a → row[j]? = some c → Dv n l a (.v c)) : Dv n l (.sl (n + i) ver off len) (.v (.isl sz rows))
 | agg (cs ds : List AV) (hl : cs.length = ds.length) (h : ∀ (i : Nat) (c d : AV), cs[i]? = some c → ds[i]? = some d → Dv n l c d) : Dv n l (.agg cs) (.agg ds)
 | tup (cs ds : List AV) (hl : cs.length = ds.length) (h : ∀ (i : Nat) (c d : AV), cs[i]? = some c → ds[i]? = some d → Dv n l c d) : Dv n l (.tup cs) (.tup ds)
def DvR (n : Nat) (l : List Row) (r : List AV) (row : List IV) : Prop := r.length = row.length ∧ ∀ (j : Nat) (a : AV) (c : IV), r[j]? = some a → row[j]? = some c → Dv n l a (.v c)
theorem DvR.nil {n : Nat} {l : List Row} : DvR n l [] [] := ⟨rfl, fun j a c h => by simp at h⟩
theorem DvR.cons {n : Nat} {l : List Row} {a : AV} {c : IV} {r : List AV} {row : List IV} (h : Dv n l a (.v c)) (t : DvR n l r row) : DvR n l (a :: r) (c :: row) := by
 refine ⟨by simp [t.1], fun j x y hx hy => ?_⟩
 cases j with
 | zero => simp at hx hy; subst hx; subst hy; exact h
 | succ j => exact t.2 j x y (by simpa using hx) (by simpa using hy)
theorem DvR.plain {n : Nat} {l : List Row} {row : List IV} : DvR n l (row.map .v) row := by
 refine ⟨by simp, fun j a c ha hc => ?_⟩
 rw [List.getElem?_map, hc] at ha
 cases ha
 exact .v c
def DvL (n : Nat) (l : List Row) (cs ds : List AV) : Prop := cs.length = ds.length ∧ ∀ (i : Nat) (c d : AV), cs[i]? = some c → ds[i]? = some d → Dv n l c d
theorem DvL.nil {n : Nat} {l : List Row} : DvL n l [] [] := ⟨rfl, fun j a c h => by simp at h⟩
theorem DvL.cons {n : Nat} {l : List Row} {a d : AV} {cs ds : List AV} (h : Dv n l a d) (t : DvL n l cs ds) : DvL n l (a :: cs) (d :: ds) := by
 refine ⟨by simp [t.1], fun j x y hx hy => ?_⟩
 cases j with
 | zero => simp at hx hy; subst hx; subst hy; exact h
 | succ j => exact t.2 j x y (by simpa using hx) (by simpa using hy)
theorem Dv.aggL {n : Nat} {l : List Row} {cs ds : List AV} (h : DvL n l cs ds) : Dv n l (.agg cs) (.agg ds) := .agg cs ds h.1 h.2
theorem Dv.tupL {n : Nat} {l : List Row} {cs ds : List AV} (h : DvL n l cs ds) : Dv n l (.tup cs) (.tup ds) := .tup cs ds h.1 h.2
theorem Dv.slR {n : Nat} {l : List Row} {i ver off len sz : Nat} {els : List (List AV)} {rows : List (List IV)} (hi : l[i]? = some (.live ver sz els)) (hle : off + len ≤ els.length) (hl : rows.length = len)
  (h : ∀ (k : Nat) (r : List AV) (row : List IV), els[off + k]? = some r → rows[k]? = some row → DvR n l r row) : Dv n l (.sl (n + i) ver off len) (.v (.isl sz rows)) :=
 .sl i ver off len sz els rows hi hle hl (fun k r row h1 h2 => (h k r row h1 h2).1) (fun k r row j a c h1 h2 => (h k r row h1 h2).2 j a c)
theorem Dv.slV {n : Nat} {l : List Row} {i ver sz len : Nat} {rows : List (List IV)} (hi : l[i]? = some (.live ver sz (vs rows))) (hl : len = rows.length) : Dv n l (.sl (n + i) ver 0 len) (.v (.isl sz rows)) := by
 refine Dv.slR hi (by rw [vs_len]; omega) hl.symm (fun k r row h1 h2 => ?_)
 rw [Nat.zero_add, vs_get, h2] at h1
 cases h1
 exact DvR.plain
theorem Dv.lt {n : Nat} {l : List Row} {x y : AV} (h : Dv n l x y) (m : Nat) : AVlt m y := by
 induction h with
 | v x => exact .v x
 | z sz => exact .v _
 | sl => exact .v _
 | agg cs ds hl _ ih =>
   refine .agg _ (fun d hd => ?_)
   obtain ⟨i, hi⟩ := List.mem_iff_getElem?.1 hd
   have hl2 := (List.getElem?_eq_some_iff.1 hi).1
   exact ih i cs[i] d (List.getElem?_eq_getElem oM) hi
 | tup cs ds hl _ ih =>
   refine .tup _ (fun d hd => ?_)
   obtain ⟨i, hi⟩ := List.mem_iff_getElem?.1 hd
   have hl2 := (List.getElem?_eq_some_iff.1 hi).1
   exact ih i cs[i] d (List.getElem?_eq_getElem oM) hi
theorem Dv.more {n : Nat} {l : List Row} (k : List Row) {x y : AV} (h : Dv n l x y) : Dv n (l ++ k) x y := by
 induction h with
 | v x => exact .v x
 | z sz => exact .z sz
 | sl i ver off len sz els rows hi hle hl h1 _ ih =>
   exact .sl i ver off len sz els rows (by rw [List.getElem?_append_left (List.getElem?_eq_some_iff.1 hi).1]; exact hi) hle hl h1 ih
 | agg cs ds hl _ ih => exact .agg cs ds hl ih
 | tup cs ds hl _ ih => exact .tup cs ds hl ih
def FD (F : Nat → Prop) (L : LMap) (n : Nat) (l : List Row) (k : Nat) : Prop := F k ∨ ∃ i ver sz els q, l[i]? = some (.live ver sz els) ∧ L (n + i) ver = some q ∧ q.on k
theorem Dv.rep {F : Nat → Prop} {L : LMap} {b l : List Row} {w : World} (s : Sim F L (b ++ l) w) {x y : AV} (h : Dv b.length l x y) : ∀ v, RepA w F L x v → RepA w (FD F L b.length l) L y v := by
 have mono : ∀ {x : AV} {v : Value}, RepA w F L x v → RepA w (FD F L b.length l) L x v := fun hx => hx.mono (fun _ h => .inl h) (fun _ _ => rfl) (fun _ _ _ h => h)
 induction h with
 | v x => exact fun v hv => mono hv
 | z sz =>
   intro v hv
   cases hv.vI
   exact .v _ _ (.isl0 _ _ _ (Nat.zero_le _))
 | sl i ver off len sz els rows hi hle hl h1 h2 ih =>
   intro v hv
   have hrow : (b ++ l)[b.length + i]? = some (.live ver sz els) := by rw [List.getElem?_append_right oM, Nat.add_sub_cancel_left]; exact hi
   obtain ⟨q, k1, k2⟩ := s.row _ _ _ _ hrow
   refine .v _ _ ?_
   cases hv with
   | sl _ _ _ _ blk o z cap hL g1 g2 =>
     rw [k1] at hL; cases hL
     obtain ⟨q1, q2, q3, cur, T, q4, q5, q6, q7⟩ := k2
     subst q1
     have hcell : ∀ (k : Nat) (row : List IV) (j : Nat) (c : IV), rows[k]? = some row → row[j]? = some c → ∃ u, w.cell? ⟨blk, o + off * z + k * z + j, none⟩ = some u ∧ RepI w (FD F L b.length l) c u := by
      intro k row j c hk hj
      have hkl := (List.getElem?_eq_some_iff.1 hk).1
      have hjl := (List.getElem?_eq_some_iff.1 hj).1
      have hr : els[off + k]? = some els[off + k] := List.getElem?_eq_getElem oM
      have hlr := h1 k _ row hr hk
      have ha : els[off + k][j]? = some els[off + k][j] := List.getElem?_eq_getElem oM
      obtain ⟨_, u, g3, g4⟩ := q7 (off + k) _ j _ hr ha
      refine ⟨u, ?_, (ih k _ row j _ c hr hk ha hj u g4).vI⟩
      rw [Nat.add_mul] at g3
      simp only [World.cell?, q4]
      rw [← g3]
      simp [Nat.add_assoc]
     have := RepI.isl (w := w) (F := FD F L b.length l) rows blk (o + off * z) z (cap - off) (fun k j => (w.cell? ⟨blk, o + off * z + k * z + j, none⟩).getD undef) (.inr ⟨i, ver, z, els, _, hi, k1, rfl⟩) oM oM
      (fun k row hk => by
       have hkl := (List.getElem?_eq_some_iff.1 hk).1
       have hr : els[off + k]? = some els[off + k] := List.getElem?_eq_getElem oM
       rw [← h1 k _ row hr hk]
       exact q6 _ _ hr)
      (fun k row j c hk hj => by
       obtain ⟨u, g3, _⟩ := hcell k row j c hk hj
       rw [g3]; rfl)
      (fun k row j c hk hj => by
       obtain ⟨u, g3, g4⟩ := hcell k row j c hk hj
       rw [g3]; exact g4)
     rw [hl] at this
     exact this
   | slz =>
     have : rows = [] := List.eq_nil_of_length_eq_zero hl
     rw [this]; exact .isl0 _ _ _ oM
   | sln =>
     have : rows = [] := List.eq_nil_of_length_eq_zero hl
     rw [this]; exact .isl0 _ _ _ oM
 | agg cs ds hl _ ih =>
   intro v hv
   obtain ⟨us, rfl, hu⟩ := hv.aggL
   refine RepL.agg ⟨by rw [← hl]; exact hu.1, fun j d u hd hju => ?_⟩
   have hjl := (List.getElem?_eq_some_iff.1 hd).1
   have hc : cs[j]? = some cs[j] := List.getElem?_eq_getElem oM
   exact ih j _ d hc hd u (hu.2 j _ u hc hju)
 | tup cs ds hl _ ih =>
   intro v hv
   obtain ⟨us, rfl, hu⟩ := hv.tupL
   refine RepL.tup ⟨by rw [← hl]; exact hu.1, fun j d u hd hju => ?_⟩
   have hjl := (List.getElem?_eq_some_iff.1 hd).1
   have hc : cs[j]? = some cs[j] := List.getElem?_eq_getElem oM
   exact ih j _ d hc hd u (hu.2 j _ u hc hju)
def deadR (r : Row) : Row := .dead r.ver
theorem deadL_get {b l : List Row} {j v z : Nat} {els : List (List AV)} (h : (b ++ l.map deadR)[j]? = some (.live v z els)) : j < b.length ∧ (b ++ l)[j]? = some (.live v z els) := by
 by_cases hj : j < b.length
 ·rw [List.getElem?_append_left hj] at h ⊢
  exact ⟨hj, h⟩
 ·rw [List.getElem?_append_right oM, List.getElem?_map] at h
  cases hq : l[j - b.length]? with
  | none => rw [hq] at h; cases h
  | some r => rw [hq] at h; cases h
theorem Weak.deep {b l : List Row} {e e' : List AV} (hl : e.length = e'.length) (hd : ∀ (i : Nat) (x y : AV), e[i]? = some x → e'[i]? = some y → Dv b.length l x y) (hR : RowsLt b.length b) : Weak e b l e' b [] := by
 refine Weak.trans (e2 := e') (b2 := b) (l2 := l.map deadR) ?_ (Weak.trim (l1 := []) rfl (fun y hy => ?_) (by simpa using hR) RowsLt_nil)
 ·intro F L w a s hea
  have hown : ∀ k, Owned L (b ++ l.map deadR) k → Owned L (b ++ l) k := by
   rintro k ⟨j, v, z, els, q, h1, h2, h3⟩
   exact ⟨j, v, z, els, q, (deadL_get h1).2, h2, h3⟩
  have hin : ∀ {i ver sz els}, l[i]? = some (.live ver sz els) → (b ++ l)[b.length + i]? = some (.live ver sz els) := fun hi => by
   rw [List.getElem?_append_right oM, Nat.add_sub_cancel_left]; exact hi
  refine ⟨FD F L b.length l, L, ⟨fun j v z els hj => ?_, fun j v q hq => ?_, fun j j' v v' z z' e1 e2 bb q1 q2 h1 h2 => s.apart j j' v v' z z' e1 e2 bb q1 q2 (deadL_get h1).2 (deadL_get h2).2, fun k hk => ?_⟩,
   ⟨hea.1, by rw [← hl]; exact hea.2.1, fun i y v hy hv => ?_⟩, ⟨fun _ h => .inl h, fun _ _ _ _ h => h, rfl, rfl, rfl, Nat.le_refl _, fun _ _ _ => rfl, fun k _ ho => hown k ho, fun id hid v hv => ?_, fun k hk hf => ?_⟩, rfl⟩
  ·obtain ⟨q, g1, g2⟩ := s.row j v z els (deadL_get hj).2
   exact ⟨q, g1, g2.mono (fun _ _ => rfl) (fun _ _ h => h.mono (fun _ h => .inl h) (fun _ _ => rfl) (fun _ _ _ h => h))⟩
  ·obtain ⟨r, h1, h2⟩ := s.born j v q hq
   by_cases hj : j < b.length
   ·exact ⟨r, by rw [List.getElem?_append_left hj] at h1 ⊢; exact h1, h2⟩
   ·rw [List.getElem?_append_right oM] at h1
    exact ⟨deadR r, by rw [List.getElem?_append_right oM, List.getElem?_map, h1]; rfl, h2⟩
  ·rcases hk with hk | ⟨i, ver, sz, els, q, h1, h2, h3⟩
   ·exact ⟨(s.imm k hk).1, fun ho => (s.imm k hk).2 (hown k ho)⟩
   ·obtain ⟨q', g1, g2⟩ := s.row _ _ _ _ (hin h1)
    rw [h2] at g1; cases g1
    refine ⟨g2.lt h3, ?_⟩
    rintro ⟨j, v, z, els', q2, k1, k2, k3⟩
    obtain ⟨hj, k4⟩ := deadL_get k1
    have := s.apart j (b.length + i) v ver z sz els' els k q2 q k4 (hin h1) k2 h2 k3 h3
    omega
  ·have hil := (List.getElem?_eq_some_iff.1 hy).1
   have hx : e[i]? = some e[i] := List.getElem?_eq_getElem oM
   exact (hd i _ y hx hy).rep s v (hea.2.2 i _ v hx hv)
  ·rw [List.getElem?_append_left hid] at hv ⊢; exact hv
  ·rcases hf with hf | ⟨i, ver, sz, els, q, h1, h2, h3⟩
   ·exact .inl hf
   ·exact .inr ⟨_, _, _, _, _, hin h1, h2, h3⟩
 ·obtain ⟨i, hi⟩ := List.mem_iff_getElem?.1 hy
  have hil := (List.getElem?_eq_some_iff.1 hi).1
  exact (hd i _ y (List.getElem?_eq_getElem (show i < e.length by omega)) hi).lt _
theorem leave_deep {e : List AV} {l : List Row} {rs : List ARes} {Q : AV → List Row → List Row → Prop} {B : List Row} {ex : AExit} (hex : ex = .normal ∨ ex = .ret) {xs : List AV} (hx : resVs e B l rs = some xs) {y : AV} (hd : Dv B.length l (one xs) y) (hR : RowsLt B.length B) {b0 l0 : List Row} (hB : B = b0 ++ l0) (hq : Q y b0 l0) :
  Leaves rs Q b0.length ex e B l :=
 leave hex hx (y := y) (l' := []) (Weak.deep rfl (fun i x z hx hz => by
  cases i with
  | zero => simp at hx hz; subst hx; subst hz; exact hd
  | succ i => simp at hx) hR) hB (by rw [List.append_nil]; exact hq)
theorem ACalls.deep {P : Program} {f : Nat} {args : List AV} {b l N : List Row} {x y : AV} (hd : Dv (b.length + l.length) N x y)
  (h : ACalls P f args b l (fun r b' l' => r = x ∧ b' = b ∧ l' = l ++ N)) : ACalls P f args b l (fun r b' l' => r = y ∧ b' = b ∧ l' = l) := by
 refine ⟨h.1, fun F L w vs s hr => Calls.mono (h.2 F L w vs s hr) ?_⟩
 rintro en w' ⟨v, x', b', l', F', L', h1, h2, h3, h4, h5, rfl, rfl, rfl⟩
 have hbl : (b' ++ l).length = b'.length + l.length := List.length_append
 have hsim : Sim F' L' ((b' ++ l) ++ N) w' := by rw [List.append_assoc]; exact h3
 have hw : Weak [x'] (b' ++ l) N [y] (b' ++ l) [] := Weak.deep rfl (fun i x z hx hz => by
  cases i with
  | zero => simp at hx hz; subst hx; subst hz; rw [hbl]; exact hd
  | succ i => simp at hx) s.rowsLt
 obtain ⟨F3, L3, k1, k2, k3, k5⟩ := hw F' L' w' { tmps := #[v], defers := [] } hsim ⟨rfl, rfl, fun j z u hz hu => by
  cases j with
  | zero => simp at hz hu; subst hz; subst hu; exact h2
  | succ j => simp at hz⟩
 rw [List.append_nil] at k1 k3
 refine ⟨v, y, b', l, F3, L3, h1, k2.2.2 0 _ v rfl rfl, k1, ?_, h5, rfl, rfl, rfl⟩
 refine h4.trans ?_
 rw [← List.append_assoc]
 exact k3
end Go.Proofs.Ytanblnhnfkeffaa
namespace Go.Proofs.Ytanblnhnfkeffaa
set_option linter.unusedVariables false
set_option linter.unusedSimpArgs false
section
variable {b l : List Row} {e : List AV}
inductive Rn (n m : Nat) (σ : Nat → Nat) : AV → AV → Prop where
 | any : Rn n m σ .any .any
 | v (x : IV) : Rn n m σ (.v x) (.v x)
 | sl (j ver off len : Nat) (h : j < m) : Rn n m σ (.sl (n + σ j) ver off len) (.sl (n + j) ver off len)
 | ptr (j ver k i : Nat) (h : j < m) : Rn n m σ (.ptr (n + σ j) ver k i) (.ptr (n + j) ver k i)
 | mp (j ver : Nat) (h : j < m) : Rn n m σ (.mp (n + σ j) ver) (.mp (n + j) ver)
 | slB (id ver off len : Nat) (h : id < n) : Rn n m σ (.sl id ver off len) (.sl id ver off len)
 | ptrB (id ver k i : Nat) (h : id < n) : Rn n m σ (.ptr id ver k i) (.ptr id ver k i)
 | mpB (id ver : Nat) (h : id < n) : Rn n m σ (.mp id ver) (.mp id ver)
 | agg (cs ds : List AV) (hl : cs.length = ds.length) (h : ∀ (i : Nat) (c d : AV), cs[i]? = some c → ds[i]? = some d → Rn n m σ c d) : Rn n m σ (.agg cs) (.agg ds)
 | tup (cs ds : List AV) (hl : cs.length = ds.length) (h : ∀ (i : Nat) (c d : AV), cs[i]? = some c → ds[i]? = some d → Rn n m σ c d) : Rn n m σ (.tup cs) (.tup ds)
 | fn (f : Nat) (cs ds : List AV) (hl : cs.length = ds.length) (h : ∀ (i : Nat) (c d : AV), cs[i]? = some c → ds[i]? = some d → Rn n m σ c d) : Rn n m σ (.fn f cs) (.fn f ds)
def RnL (n m : Nat) (σ : Nat → Nat) (cs ds : List AV) : Prop := cs.length = ds.length ∧ ∀ (i : Nat) (c d : AV), cs[i]? = some c → ds[i]? = some d → Rn n m σ c d
theorem RnL.nil {n m : Nat} {σ : Nat → Nat} : RnL n m σ [] [] := ⟨rfl, fun j a c h => by simp at h⟩
theorem RnL.cons {n m : Nat} {σ : Nat → Nat} {a d : AV} {cs ds : List AV} (h : Rn n m σ a d) (t : RnL n m σ cs ds) : RnL n m σ (a :: cs) (d :: ds) := by
 refine ⟨by simp [t.1], fun j x y hx hy => ?_⟩
 cases j with
 | zero => simp at hx hy; subst hx; subst hy; exact h
 | succ j => exact t.2 j x y (by simpa using hx) (by simpa using hy)
theorem RnL.plain {n m : Nat} {σ : Nat → Nat} {row : List IV} : RnL n m σ (row.map .v) (row.map .v) := by
 refine ⟨rfl, fun j a c ha hc => ?_⟩
 rw [ha] at hc; cases hc
 rw [List.getElem?_map] at ha
 cases hq : row[j]? with
 | none => rw [hq] at ha; cases ha
 | some y => rw [hq] at ha; cases ha; exact .v y
theorem Rn.aggL {n m : Nat} {σ : Nat → Nat} {cs ds : List AV} (h : RnL n m σ cs ds) : Rn n m σ (.agg cs) (.agg ds) := .agg cs ds h.1 h.2
theorem Rn.tupL {n m : Nat} {σ : Nat → Nat} {cs ds : List AV} (h : RnL n m σ cs ds) : Rn n m σ (.tup cs) (.tup ds) := .tup cs ds h.1 h.2
theorem Rn.slE {n m : Nat} {σ : Nat → Nat} {i j ver off len : Nat} (h : σ j = i) (hj : j < m) : Rn n m σ (.sl (n + i) ver off len) (.sl (n + j) ver off len) := by subst h; exact .sl j ver off len hj
def RnR (n m : Nat) (σ : Nat → Nat) : Row → Row → Prop
 | .live v s els, .live v' s' els' => v = v' ∧ s = s' ∧ els.length = els'.length ∧ ∀ (k : Nat) (r r' : List AV), els[k]? = some r → els'[k]? = some r' → RnL n m σ r r'
 | .dead v, .dead v' => v = v'
 | _, _ => False
theorem RnR.plain {n m : Nat} {σ : Nat → Nat} {v s : Nat} {rows : List (List IV)} : RnR n m σ (.live v s (vs rows)) (.live v s (vs rows)) := by
 refine ⟨rfl, rfl, rfl, fun k r r' h1 h2 => ?_⟩
 rw [h1] at h2; cases h2
 rw [vs_get] at h1
 cases hq : rows[k]? with
 | none => rw [hq] at h1; cases h1
 | some y => rw [hq] at h1; cases h1; exact RnL.plain
theorem AVlt.rn {n m : Nat} {σ : Nat → Nat} {x : AV} (h : AVlt n x) : Rn n m σ x x := by
 induction h with
 | any => exact .any
 | v x => exact .v x
 | sl id ver off len h => exact .slB id ver off len h
 | ptr id ver k j h => exact .ptrB id ver k j h
 | mp id ver h => exact .mpB id ver h
 | agg cs _ ih => exact .agg cs cs rfl (fun i c d h1 h2 => by rw [h1] at h2; cases h2; exact ih c (List.mem_of_getElem? h1))
 | tup cs _ ih => exact .tup cs cs rfl (fun i c d h1 h2 => by rw [h1] at h2; cases h2; exact ih c (List.mem_of_getElem? h1))
 | fn f cs _ ih => exact .fn f cs cs rfl (fun i c d h1 h2 => by rw [h1] at h2; cases h2; exact ih c (List.mem_of_getElem? h1))
theorem Rn.rep {n m : Nat} {σ : Nat → Nat} {w : World} {F : Nat → Prop} {L L' : LMap} (hB : ∀ id ver, id < n → L' id ver = L id ver) (hS : ∀ j ver, j < m → L' (n + j) ver = L (n + σ j) ver) {x y : AV} (h : Rn n m σ x y) : ∀ {v : Value}, RepA w F L x v → RepA w F L' y v := by
 induction h with
 | any => exact fun _ => .any _
 | v x => exact fun h => .v _ _ h.vI
 | sl j ver off len hj =>
   intro v h
   cases h with
   | sl _ _ _ _ b o sz cap hL h1 h2 => exact .sl _ _ _ _ b o sz cap (by rw [hS j ver hj]; exact hL) h1 h2
   | slz _ _ _ b o sz cap x hL h1 => exact .slz _ _ _ b o sz cap x (by rw [hS j ver hj]; exact hL) h1
   | sln _ _ ad hL => exact .sln _ _ ad (by rw [hS j ver hj]; exact hL)
 | ptr j ver k i hj => intro v h; cases h with | ptr _ _ _ _ b o sz cap hL => exact .ptr _ _ _ _ b o sz cap (by rw [hS j ver hj]; exact hL)
 | mp j ver hj => intro v h; cases h with | mp _ _ b hL => exact .mp _ _ b (by rw [hS j ver hj]; exact hL)
 | slB id ver off len hj =>
   intro v h
   cases h with
   | sl _ _ _ _ b o sz cap hL h1 h2 => exact .sl _ _ _ _ b o sz cap (by rw [hB id ver hj]; exact hL) h1 h2
   | slz _ _ _ b o sz cap x hL h1 => exact .slz _ _ _ b o sz cap x (by rw [hB id ver hj]; exact hL) h1
   | sln _ _ ad hL => exact .sln _ _ ad (by rw [hB id ver hj]; exact hL)
 | ptrB id ver k i hj => intro v h; cases h with | ptr _ _ _ _ b o sz cap hL => exact .ptr _ _ _ _ b o sz cap (by rw [hB id ver hj]; exact hL)
 | mpB id ver hj => intro v h; cases h with | mp _ _ b hL => exact .mp _ _ b (by rw [hB id ver hj]; exact hL)
 | agg cs ds hl _ ih =>
   intro v h
   obtain ⟨vs, rfl, hr⟩ := h.aggL
   exact RepL.agg ⟨by rw [← hl]; exact hr.1, fun i d u hd hu => by
    have hi : i < cs.length := by rw [hl]; exact (List.getElem?_eq_some_iff.1 hd).1
    exact ih i _ d (List.getElem?_eq_getElem hi) hd (hr.2 i _ u (List.getElem?_eq_getElem hi) hu)⟩
 | tup cs ds hl _ ih =>
   intro v h
   obtain ⟨vs, rfl, hr⟩ := h.tupL
   exact RepL.tup ⟨by rw [← hl]; exact hr.1, fun i d u hd hu => by
    have hi : i < cs.length := by rw [hl]; exact (List.getElem?_eq_some_iff.1 hd).1
    exact ih i _ d (List.getElem?_eq_getElem hi) hd (hr.2 i _ u (List.getElem?_eq_getElem hi) hu)⟩
 | fn f cs ds hl _ ih =>
   intro v h
   cases h with
   | fn _ _ us hul hr =>
     exact .fn f ds us (by rw [← hl]; exact hul) (fun i d u hd hu => by
      have hi : i < cs.length := by rw [hl]; exact (List.getElem?_eq_some_iff.1 hd).1
      exact ih i _ d (List.getElem?_eq_getElem hi) hd (hr i _ u (List.getElem?_eq_getElem hi) hu))
theorem Weak.ren {e' : List AV} {l' : List Row} (σ : Nat → Nat) (hinj : ∀ i j, i < l'.length → j < l'.length → σ i = σ j → i = j)
  (hrow : ∀ j r', l'[j]? = some r' → ∃ r, l[σ j]? = some r ∧ RnR b.length l'.length σ r r') (hR : RowsLt b.length b) (hl : e.length = e'.length) (he : ∀ (i : Nat) (x y : AV), e[i]? = some x → e'[i]? = some y → Rn b.length l'.length σ x y) : Weak e b l e' b l' := by
 intro F L w a s hea
 obtain ⟨L', hB, hS, hN⟩ : ∃ L' : LMap, (∀ id ver, id < b.length → L' id ver = L id ver) ∧ (∀ j ver, j < l'.length → L' (b.length + j) ver = L (b.length + σ j) ver) ∧ ∀ j ver, l'.length ≤ j → L' (b.length + j) ver = none :=
  ⟨fun id ver => if id < b.length then L id ver else if id - b.length < l'.length then L (b.length + σ (id - b.length)) ver else none, fun id ver h => by simp [h], fun j ver h => by simp only; rw [if_neg oM, Nat.add_sub_cancel_left, if_pos h], fun j ver h => by simp only; rw [if_neg oM, Nat.add_sub_cancel_left, if_neg oM]⟩
 have hback : ∀ {id ver q}, L' id ver = some q → (id < b.length ∧ L id ver = some q) ∨ ∃ j, id = b.length + j ∧ j < l'.length ∧ L (b.length + σ j) ver = some q := by
  intro id ver q hq
  by_cases h : id < b.length
  ·exact .inl ⟨h, by rw [← hB id ver h]; exact hq⟩
  ·obtain ⟨j, rfl⟩ : ∃ j, id = b.length + j := ⟨id - b.length, by omega⟩
   by_cases hj : j < l'.length
   ·exact .inr ⟨j, rfl, hj, by rw [← hS j ver hj]; exact hq⟩
   ·rw [hN j ver oM] at hq; cases hq
 have gB : ∀ {id : Nat} (m : List Row), id < b.length → (b ++ m)[id]? = b[id]? := fun m h => List.getElem?_append_left h
 have gL : ∀ {j : Nat} (m : List Row), (b ++ m)[b.length + j]? = m[j]? := fun m => by rw [List.getElem?_append_right oM, Nat.add_sub_cancel_left]
 have live : ∀ {id ver sz els}, (b ++ l')[id]? = some (.live ver sz els) → (id < b.length ∧ (b ++ l)[id]? = some (.live ver sz els)) ∨ ∃ j els0, id = b.length + j ∧ j < l'.length ∧ (b ++ l)[b.length + σ j]? = some (.live ver sz els0) ∧ RnR b.length l'.length σ (.live ver sz els0) (.live ver sz els) := by
  intro id ver sz els h
  by_cases hid : id < b.length
  ·exact .inl ⟨hid, by rw [gB _ hid] at h ⊢; exact h⟩
  ·obtain ⟨j, rfl⟩ : ∃ j, id = b.length + j := ⟨id - b.length, by omega⟩
   rw [gL] at h
   obtain ⟨r, h1, h2⟩ := hrow j _ h
   have hj := (List.getElem?_eq_some_iff.1 h).1
   cases r with
   | dead v => exact h2.elim
   | live v z els0 =>
     obtain ⟨rfl, rfl, h3⟩ := h2
     exact .inr ⟨j, els0, rfl, hj, by rw [gL]; exact h1, rfl, rfl, h3⟩
 have own : ∀ k, Owned L' (b ++ l') k → Owned L (b ++ l) k := by
  rintro k ⟨id, ver, sz, els, q, h1, h2, h3⟩
  rcases live h1 with ⟨hid, g1⟩ | ⟨j, els0, rfl, hj, g1, _⟩
  ·rw [hB id ver hid] at h2; exact ⟨id, ver, sz, els, q, g1, h2, h3⟩
  ·rw [hS j ver hj] at h2; exact ⟨_, ver, sz, els0, q, g1, h2, h3⟩
 have rep : ∀ {x y : AV} {v : Value}, Rn b.length l'.length σ x y → RepA w F L x v → RepA w F L' y v := fun h => h.rep hB hS
 refine ⟨F, L', ⟨fun id ver sz els h => ?_, fun id ver q hq => ?_, fun id id' ver ver' s1 s2 els els' bb q q' h1 h2 h3 h4 h5 h6 => ?_, fun k hk => ⟨(s.imm k hk).1, fun ho => (s.imm k hk).2 (own k ho)⟩⟩, ⟨hea.1, by rw [← hl]; exact hea.2.1, fun i y v hy hv => ?_⟩,
  ⟨fun _ h => h, fun id ver q hid hq => by rw [hB id ver hid]; exact hq, rfl, rfl, rfl, Nat.le_refl _, fun _ _ _ => rfl, fun k _ ho => own k ho, fun id hid v hv => by rw [gB _ hid] at hv ⊢; exact hv, fun _ _ h => .inl h⟩, rfl⟩
 ·rcases live h with ⟨hid, g1⟩ | ⟨j, els0, rfl, hj, g1, _, _, g2, g3⟩
  ·obtain ⟨q, k1, k2⟩ := s.row _ _ _ _ g1
   refine ⟨q, by rw [hB id ver hid]; exact k1, ?_⟩
   have hlt : ∀ row ∈ els, ∀ c ∈ row, AVlt b.length c := hR id ver sz els (by rw [gB _ hid] at h; exact h)
   cases q with
   | nil => exact k2
   | pl blk o z cap =>
     obtain ⟨q1, q2, q3, cur, T, q4, q5, q6, q7⟩ := k2
     exact ⟨q1, q2, q3, cur, T, q4, q5, q6, fun k row i c hk hi => by
      obtain ⟨e1, u, e2, e3⟩ := q7 k row i c hk hi
      exact ⟨e1, u, e2, rep (hlt row (List.mem_of_getElem? hk) c (List.mem_of_getElem? hi)).rn e3⟩⟩
   | mp blk =>
     obtain ⟨es, clk, q4, q5, q6⟩ := k2
     refine ⟨es, clk, q4, q5, fun k row e1 hk he => ?_⟩
     obtain ⟨x, y, rfl, e2, e3⟩ := q6 k row e1 hk he
     exact ⟨x, y, rfl, rep (hlt _ (List.mem_of_getElem? hk) x (by simp)).rn e2, rep (hlt _ (List.mem_of_getElem? hk) y (by simp)).rn e3⟩
  ·obtain ⟨q, k1, k2⟩ := s.row _ _ _ _ g1
   refine ⟨q, by rw [hS j ver hj]; exact k1, ?_⟩
   have cell : ∀ {x y : AV}, Rn b.length l'.length σ x y → x.cell = y.cell := by
    intro x y h; cases h <;> rfl
   have prev : ∀ {k : Nat} {row : List AV}, els[k]? = some row → ∃ r0, els0[k]? = some r0 ∧ RnL b.length l'.length σ r0 row := by
    intro k row hk
    have hkl := (List.getElem?_eq_some_iff.1 hk).1
    exact ⟨els0[k], List.getElem?_eq_getElem oM, g3 k _ row (List.getElem?_eq_getElem oM) hk⟩
   have prev2 : ∀ {r0 row : List AV} {i : Nat} {c : AV}, RnL b.length l'.length σ r0 row → row[i]? = some c → ∃ c0, r0[i]? = some c0 ∧ Rn b.length l'.length σ c0 c := by
    intro r0 row i c h hi
    have hil := (List.getElem?_eq_some_iff.1 hi).1
    exact ⟨r0[i]'(by rw [h.1]; exact hil), List.getElem?_eq_getElem _, h.2 i _ c (List.getElem?_eq_getElem _) hi⟩
   cases q with
   | nil =>
     have : els0 = [] := k2
     subst this
     exact List.eq_nil_of_length_eq_zero (by simpa using g2.symm)
   | pl blk o z cap =>
     obtain ⟨q1, q2, q3, cur, T, q4, q5, q6, q7⟩ := k2
     refine ⟨q1, by omega, q3, cur, T, q4, q5, fun k row hk => ?_, fun k row i c hk hi => ?_⟩
     ·obtain ⟨r0, e1, e2⟩ := prev hk
      rw [← e2.1]; exact q6 k r0 e1
     ·obtain ⟨r0, e1, e2⟩ := prev hk
      obtain ⟨c0, e3, e4⟩ := prev2 e2 hi
      obtain ⟨e5, u, e6, e7⟩ := q7 k r0 i c0 e1 e3
      exact ⟨by rw [← cell e4]; exact e5, u, e6, rep e4 e7⟩
   | mp blk =>
     obtain ⟨es, clk, q4, q5, q6⟩ := k2
     refine ⟨es, clk, q4, by omega, fun k row e1 hk he => ?_⟩
     obtain ⟨r0, e2, e3⟩ := prev hk
     obtain ⟨x, y, rfl, e5, e6⟩ := q6 k r0 e1 e2 he
     obtain ⟨e7, e8⟩ := e3
     obtain ⟨x', y', rfl⟩ : ∃ x' y', row = [x', y'] := by
      match row, e7 with
      | [x', y'], _ => exact ⟨x', y', rfl⟩
     exact ⟨x', y', rfl, rep (e8 0 x x' rfl rfl) e5, rep (e8 1 y y' rfl rfl) e6⟩
 ·rcases hback hq with ⟨hid, g1⟩ | ⟨j, rfl, hj, g1⟩
  ·obtain ⟨r, h1, h2⟩ := s.born _ _ _ g1
   exact ⟨r, by rw [gB _ hid] at h1 ⊢; exact h1, h2⟩
  ·obtain ⟨r, h1, h2⟩ := s.born _ _ _ g1
   rw [gL] at h1
   obtain ⟨r0, h3, h4⟩ := hrow j l'[j] (List.getElem?_eq_getElem hj)
   rw [h1] at h3; cases h3
   refine ⟨l'[j], by rw [gL]; exact List.getElem?_eq_getElem hj, ?_⟩
   revert h4
   cases r with
   | live v z els0 =>
     cases l'[j] with
     | live v' z' els' => rintro ⟨rfl, _⟩; exact h2
     | dead v' => exact fun h => h.elim
   | dead v =>
     cases l'[j] with
     | live v' z' els' => exact fun h => h.elim
     | dead v' => intro h; cases h; exact h2
 ·rcases live h1 with ⟨i1, g1⟩ | ⟨j1, els1, rfl, i1, g1, _⟩ <;> rcases live h2 with ⟨i2, g2⟩ | ⟨j2, els2, rfl, i2, g2, _⟩
  ·rw [hB _ _ i1] at h3; rw [hB _ _ i2] at h4
   exact s.apart _ _ _ _ _ _ _ _ bb _ _ g1 g2 h3 h4 h5 h6
  ·rw [hB _ _ i1] at h3; rw [hS _ _ i2] at h4
   have := s.apart _ _ _ _ _ _ _ _ bb _ _ g1 g2 h3 h4 h5 h6
   omega
  ·rw [hS _ _ i1] at h3; rw [hB _ _ i2] at h4
   have := s.apart _ _ _ _ _ _ _ _ bb _ _ g1 g2 h3 h4 h5 h6
   omega
  ·rw [hS _ _ i1] at h3; rw [hS _ _ i2] at h4
   have := s.apart _ _ _ _ _ _ _ _ bb _ _ g1 g2 h3 h4 h5 h6
   rw [hinj j1 j2 i1 i2 oM]
 ·have hil := (List.getElem?_eq_some_iff.1 hy).1
  have hx : e[i]? = some e[i] := List.getElem?_eq_getElem oM
  exact rep (he i _ y hx hy) (hea.2.2 i _ v hx hv)
theorem Weak.renM {e' : List AV} {l' : List Row} {m : Nat} (hm : l'.length = m) (σ : Nat → Nat) (hinj : ∀ i j, i < m → j < m → σ i = σ j → i = j)
  (hrow : ∀ j r', l'[j]? = some r' → ∃ r, l[σ j]? = some r ∧ RnR b.length m σ r r') (hR : RowsLt b.length b) (hl : e.length = e'.length) (he : ∀ (i : Nat) (x y : AV), e[i]? = some x → e'[i]? = some y → Rn b.length m σ x y) : Weak e b l e' b l' := by
 subst hm
 exact Weak.ren σ hinj hrow hR hl he
end
theorem ACalls.post {P : Program} {f : Nat} {args : List AV} {b l N N' : List Row} {x x' : AV} (hw : RowsLt (b ++ l).length (b ++ l) → Weak [x] (b ++ l) N [x'] (b ++ l) N')
  (h : ACalls P f args b l (fun r b' l' => r = x ∧ b' = b ∧ l' = l ++ N)) : ACalls P f args b l (fun r b' l' => r = x' ∧ b' = b ∧ l' = l ++ N') := by
 refine ⟨h.1, fun F L w vs s hr => Calls.mono (h.2 F L w vs s hr) ?_⟩
 rintro en w' ⟨v, y, b', l', F', L', h1, h2, h3, h4, h5, rfl, rfl, rfl⟩
 have hsim : Sim F' L' ((b' ++ l) ++ N) w' := by rw [List.append_assoc]; exact h3
 obtain ⟨F3, L3, k1, k2, k3, k5⟩ := hw s.rowsLt F' L' w' { tmps := #[v], defers := [] } hsim ⟨rfl, rfl, fun j z u hz hu => by
  cases j with
  | zero => simp at hz hu; subst hz; subst hu; exact h2
  | succ j => simp at hz⟩
 refine ⟨v, x', b', l ++ N', F3, L3, h1, k2.2.2 0 _ v rfl rfl, ?_, ?_, h5, rfl, rfl, rfl⟩
 ·rw [← List.append_assoc]; exact k1
 ·refine h4.trans ?_
  rw [← List.append_assoc, ← List.append_assoc]
  exact k3.weaken (by simp)
end Go.Proofs.Ytanblnhnfkeffaa
namespace Go.Proofs.Ytanblnhnfkeffaa
set_option linter.unusedVariables false
set_option linter.unusedSimpArgs false
section
variable {α : Type} {n : Nat} {C : Nat → α} {T : List α}
end
theorem leave_ren {e : List AV} {l l' : List Row} {rs : List ARes} {Q : AV → List Row → List Row → Prop} {B : List Row} {ex : AExit} {m : Nat} (hex : ex = .normal ∨ ex = .ret) {xs : List AV} (hx : resVs e B l rs = some xs) {y : AV} (hm : l'.length = m) (σ : Nat → Nat) (hinj : ∀ i j, i < m → j < m → σ i = σ j → i = j)
  (hrow : ∀ j r', l'[j]? = some r' → ∃ r, l[σ j]? = some r ∧ RnR B.length m σ r r') (he : Rn B.length m σ (one xs) y) (hR : RowsLt B.length B) {b0 l0 : List Row} (hB : B = b0 ++ l0) (hq : Q y b0 (l0 ++ l')) : Leaves rs Q b0.length ex e B l :=
 leave hex hx (y := y) (l' := l') (Weak.renM hm σ hinj hrow hR rfl (fun i x z hx hz => by
  cases i with
  | zero => simp at hx hz; subst hx; subst hz; exact he
  | succ i => simp at hx)) hB hq
end Go.Proofs.Ytanblnhnfkeffaa
namespace Go.Proofs.Ytanblnhnfkeffaa
set_option linter.unusedVariables false
set_option linter.unusedSimpArgs false
theorem Dv.repR {F : Nat → Prop} {L : LMap} {n : Nat} {l : List Row} {w : World} (hs : ∀ i ver sz els, l[i]? = some (.live ver sz els) → ∃ q, L (n + i) ver = some q ∧ RowAt w F L sz els q) {x y : AV} (h : Dv n l x y) : ∀ v, RepA w F L x v → RepA w (FD F L n l) L y v := by
 have mono : ∀ {x : AV} {v : Value}, RepA w F L x v → RepA w (FD F L n l) L x v := fun hx => hx.mono (fun _ h => .inl h) (fun _ _ => rfl) (fun _ _ _ h => h)
 induction h with
 | v x => exact fun v hv => mono hv
 | z sz =>
   intro v hv
   cases hv.vI
   exact .v _ _ (.isl0 _ _ _ (Nat.zero_le _))
 | sl i ver off len sz els rows hi hle hl h1 h2 ih =>
   intro v hv
   obtain ⟨q, k1, k2⟩ := hs _ _ _ _ hi
   refine .v _ _ ?_
   cases hv with
   | sl _ _ _ _ blk o z cap hL g1 g2 =>
     rw [k1] at hL; cases hL
     obtain ⟨q1, q2, q3, cur, T, q4, q5, q6, q7⟩ := k2
     subst q1
     have hcell : ∀ (k : Nat) (row : List IV) (j : Nat) (c : IV), rows[k]? = some row → row[j]? = some c → ∃ u, w.cell? ⟨blk, o + off * z + k * z + j, none⟩ = some u ∧ RepI w (FD F L n l) c u := by
      intro k row j c hk hj
      have hkl := (List.getElem?_eq_some_iff.1 hk).1
      have hjl := (List.getElem?_eq_some_iff.1 hj).1
      have hr : els[off + k]? = some els[off + k] := List.getElem?_eq_getElem oM
      have hlr := h1 k _ row hr hk
      have ha : els[off + k][j]? = some els[off + k][j] := List.getElem?_eq_getElem oM
      obtain ⟨_, u, g3, g4⟩ := q7 (off + k) _ j _ hr ha
      refine ⟨u, ?_, (ih k _ row j _ c hr hk ha hj u g4).vI⟩
      rw [Nat.add_mul] at g3
      simp only [World.cell?, q4]
      rw [← g3]
      simp [Nat.add_assoc]
     have := RepI.isl (w := w) (F := FD F L n l) rows blk (o + off * z) z (cap - off) (fun k j => (w.cell? ⟨blk, o + off * z + k * z + j, none⟩).getD undef) (.inr ⟨i, ver, z, els, _, hi, k1, rfl⟩) oM oM
      (fun k row hk => by
       have hkl := (List.getElem?_eq_some_iff.1 hk).1
       have hr : els[off + k]? = some els[off + k] := List.getElem?_eq_getElem oM
       rw [← h1 k _ row hr hk]
       exact q6 _ _ hr)
      (fun k row j c hk hj => by
       obtain ⟨u, g3, _⟩ := hcell k row j c hk hj
       rw [g3]; rfl)
      (fun k row j c hk hj => by
       obtain ⟨u, g3, g4⟩ := hcell k row j c hk hj
       rw [g3]; exact g4)
     rw [hl] at this
     exact this
   | slz =>
     have : rows = [] := List.eq_nil_of_length_eq_zero hl
     rw [this]; exact .isl0 _ _ _ oM
   | sln =>
     have : rows = [] := List.eq_nil_of_length_eq_zero hl
     rw [this]; exact .isl0 _ _ _ oM
 | agg cs ds hl _ ih =>
   intro v hv
   obtain ⟨us, rfl, hu⟩ := hv.aggL
   refine RepL.agg ⟨by rw [← hl]; exact hu.1, fun j d u hd hju => ?_⟩
   have hjl := (List.getElem?_eq_some_iff.1 hd).1
   have hc : cs[j]? = some cs[j] := List.getElem?_eq_getElem oM
   exact ih j _ d hc hd u (hu.2 j _ u hc hju)
 | tup cs ds hl _ ih =>
   intro v hv
   obtain ⟨us, rfl, hu⟩ := hv.tupL
   refine RepL.tup ⟨by rw [← hl]; exact hu.1, fun j d u hd hju => ?_⟩
   have hjl := (List.getElem?_eq_some_iff.1 hd).1
   have hc : cs[j]? = some cs[j] := List.getElem?_eq_getElem oM
   exact ih j _ d hc hd u (hu.2 j _ u hc hju)

theorem ACalls.deepMid {P : Program} {f : Nat} {args args' : List AV} {b l1 N l2 : List Row} {Q : AV → List Row → List Row → Prop} (hl : args.length = args'.length)
  (hd : ∀ (i : Nat) (x y : AV), args[i]? = some x → args'[i]? = some y → Dv (b.length + l1.length) N x y) (h : ACalls P f args' b (l1 ++ (N.map deadR ++ l2)) Q) : ACalls P f args b (l1 ++ (N ++ l2)) Q := by
 refine ⟨h.1, fun F L w us s hr => ?_⟩
 obtain ⟨n, hn⟩ : ∃ n, n = b.length + l1.length := ⟨_, rfl⟩
 rw [← hn] at hd
 have e1 : ∀ X : List Row, ∀ j, j < n → (b ++ (l1 ++ (X ++ l2)))[j]? = (b ++ l1)[j]? := fun X j hj => by
  rw [← List.append_assoc, List.getElem?_append_left (by rw [List.length_append]; omega)]
 have e2 : ∀ X : List Row, ∀ j, j < X.length → (b ++ (l1 ++ (X ++ l2)))[n + j]? = X[j]? := fun X j hj => by
  rw [← List.append_assoc, List.getElem?_append_right (by rw [List.length_append]; omega), List.length_append, ← hn, Nat.add_sub_cancel_left, List.getElem?_append_left hj]
 have e3 : ∀ X : List Row, ∀ j, (b ++ (l1 ++ (X ++ l2)))[n + X.length + j]? = l2[j]? := fun X j => by
  rw [← List.append_assoc, List.getElem?_append_right (by rw [List.length_append]; omega), List.length_append, ← hn, Nat.add_assoc, Nat.add_sub_cancel_left, List.getElem?_append_right oM, Nat.add_sub_cancel_left]
 have sp : ∀ j, j < n ∨ (∃ i, i < N.length ∧ j = n + i) ∨ ∃ i, j = n + N.length + i := fun j => by
  by_cases h1 : j < n
  ·exact .inl h1
  ·by_cases h2 : j < n + N.length
   ·exact .inr (.inl ⟨j - n, by omega, by omega⟩)
   ·exact .inr (.inr ⟨j - (n + N.length), by omega⟩)
 have hml : (N.map deadR).length = N.length := List.length_map _
 have e2d : ∀ i, i < N.length → ∃ r, N[i]? = some r ∧ (b ++ (l1 ++ (N ++ l2)))[n + i]? = some r ∧ (b ++ (l1 ++ (N.map deadR ++ l2)))[n + i]? = some (deadR r) := fun i hi => by
  refine ⟨N[i], List.getElem?_eq_getElem hi, by rw [e2 _ _ hi, List.getElem?_eq_getElem hi], ?_⟩
  rw [e2 _ _ (by rw [hml]; exact hi), List.getElem?_map, List.getElem?_eq_getElem hi]; rfl
 have e3d : ∀ j, (b ++ (l1 ++ (N.map deadR ++ l2)))[n + N.length + j]? = l2[j]? := fun j => by
  have := e3 (N.map deadR) j
  rw [hml] at this; exact this
 have gH : ∀ {j v z : Nat} {els : List (List AV)}, (b ++ (l1 ++ (N.map deadR ++ l2)))[j]? = some (.live v z els) → (∀ i, i < N.length → j ≠ n + i) ∧ (b ++ (l1 ++ (N ++ l2)))[j]? = some (.live v z els) := fun {j v z els} hj => by
  rcases sp j with h1 | ⟨i, hi, rfl⟩ | ⟨i, rfl⟩
  ·rw [e1 _ _ h1] at hj ⊢; exact ⟨fun i _ => by omega, hj⟩
  ·obtain ⟨r, _, _, h4⟩ := e2d i hi
   rw [h4] at hj; cases hj
  ·rw [e3d] at hj; rw [e3]; exact ⟨fun i _ => by omega, hj⟩
 have hin : ∀ {i ver sz els}, N[i]? = some (.live ver sz els) → i < N.length ∧ (b ++ (l1 ++ (N ++ l2)))[n + i]? = some (.live ver sz els) := fun {i ver sz els} hi => by
  have := (List.getElem?_eq_some_iff.1 hi).1
  exact ⟨this, by rw [e2 _ _ this]; exact hi⟩
 have hown : ∀ k, Owned L (b ++ (l1 ++ (N.map deadR ++ l2))) k → Owned L (b ++ (l1 ++ (N ++ l2))) k := by
  rintro k ⟨j, v, z, els, q, h1, h2, h3⟩
  exact ⟨j, v, z, els, q, (gH h1).2, h2, h3⟩
 have s1 : Sim (FD F L n N) L (b ++ (l1 ++ (N.map deadR ++ l2))) w := by
  refine ⟨fun j v z els hj => ?_, fun j v q hq => ?_, fun j j' v v' z z' e1 e2 bb q1 q2 h1 h2 => s.apart j j' v v' z z' e1 e2 bb q1 q2 (gH h1).2 (gH h2).2, fun k hk => ?_⟩
  ·obtain ⟨q, g1, g2⟩ := s.row j v z els (gH hj).2
   exact ⟨q, g1, g2.mono (fun _ _ => rfl) (fun _ _ h => h.mono (fun _ h => .inl h) (fun _ _ => rfl) (fun _ _ _ h => h))⟩
  ·obtain ⟨r, h1, h2⟩ := s.born j v q hq
   rcases sp j with h3 | ⟨i, hi, rfl⟩ | ⟨i, rfl⟩
   ·exact ⟨r, by rw [e1 _ _ h3] at h1 ⊢; exact h1, h2⟩
   ·obtain ⟨r', _, h4, h5⟩ := e2d i hi
    rw [h4] at h1; cases h1
    exact ⟨deadR r, h5, h2⟩
   ·exact ⟨r, by rw [e3] at h1; rw [e3d]; exact h1, h2⟩
  ·rcases hk with hk | ⟨i, ver, sz, els, q, h1, h2, h3⟩
   ·exact ⟨(s.imm k hk).1, fun ho => (s.imm k hk).2 (hown k ho)⟩
   ·obtain ⟨hi, h1⟩ := hin h1
    obtain ⟨q', g1, g2⟩ := s.row _ _ _ _ h1
    rw [h2] at g1; cases g1
    refine ⟨g2.lt h3, ?_⟩
    rintro ⟨j, v, z, els', q2, k1, k2, k3⟩
    obtain ⟨hj, k4⟩ := gH k1
    exact hj i hi (s.apart j (n + i) v ver z sz els' els k q2 q k4 h1 k2 h2 k3 h3)
 have hrep : RepL w (FD F L n N) L args' us.toList := ⟨by rw [← hl]; exact hr.1, fun j y v hy hv => by
  have hil := (List.getElem?_eq_some_iff.1 hy).1
  have hx : args[j]? = some args[j] := List.getElem?_eq_getElem oM
  exact (hd j _ y hx hy).repR (fun i ver sz els hi => s.row _ _ _ _ (hin hi).2) v (hr.2 j _ v hx hv)⟩
 refine Calls.mono (h.2 _ L w us s1 hrep) ?_
 rintro en w' ⟨v, x, b', l', F2, L2, h1, h2, h3, h4, h5, h6⟩
 have hlen : (b ++ (l1 ++ (N.map deadR ++ l2))).length = (b ++ (l1 ++ (N ++ l2))).length := by simp
 have st : Step (b ++ (l1 ++ (N ++ l2))).length F L (b ++ (l1 ++ (N ++ l2))) w (FD F L n N) L (b ++ (l1 ++ (N.map deadR ++ l2))) w := by
  refine ⟨fun _ h => .inl h, fun _ _ _ _ h => h, rfl, rfl, rfl, Nat.le_refl _, fun _ _ _ => rfl, fun k _ ho => hown k ho, fun id hid v hv => ?_, fun k hk hf => ?_⟩
  ·rcases sp id with h3 | ⟨i, hi, rfl⟩ | ⟨i, rfl⟩
   ·rw [e1 _ _ h3] at hv ⊢; exact hv
   ·obtain ⟨r, _, h4, h5⟩ := e2d i hi
    rw [h4] at hv; cases hv
    exact h5
   ·rw [e3] at hv; rw [e3d]; exact hv
  ·rcases hf with hf | ⟨i, ver, sz, els, q, h1, h2, h3⟩
   ·exact .inl hf
   ·exact .inr ⟨_, _, _, _, _, (hin h1).2, h2, h3⟩
 exact ⟨v, x, b', l', F2, L2, h1, h2, h3, st.trans (hlen ▸ h4), h5, h6⟩
end Go.Proofs.Ytanblnhnfkeffaa
namespace Go.Proofs.Ytanblnhnfkeffaa
set_option linter.unusedVariables false
set_option linter.unusedSimpArgs false

theorem getD_at {α : Type} {l : List α} {i : Nat} {d : α} (h : i < l.length) : l.getD i d = l[i] := by simp [List.getD, h]
theorem getD_set_ne {α : Type} {l : List α} {i j : Nat} {x d : α} (h : i ≠ j) : (l.set i x).getD j d = l.getD j d := by
 simp only [List.getD_eq_getElem?_getD, List.getElem?_set_ne h]
end Go.Proofs.Ytanblnhnfkeffaa
