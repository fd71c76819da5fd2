/- General words for the walks of this seat: facts kept from the walk, worlds that keep what there was, slices that read as lists, rows that a call owns. No condition. -/
import Derived.WalkKit
import Derived.WalkSpells
import Derived.WalkLawsBesides
import Derived.Maps.AppendAt
import Derived.Deep.AppendLies
import Derived.Deep.Draws
import Derived.Deep.QuietTactic
import Derived.BigQuiet
import Derived.Deep.RegionWith
import Derived.Deep.RegionHeld3
import Derived.Deep.DeepFit
import Derived.Deep.DeepMust
namespace Go.Proofs.Ytenlagddfgociaa
open Go.RowKit
set_option linter.unusedVariables false

@[irreducible] def Hx (p : Prop) : Prop := p
theorem hide {p : Prop} (h : p) : Hx p := by unfold Hx; exact h
theorem Hx.out {p : Prop} (h : Hx p) : p := by unfold Hx at h; exact h

def Rel1 {α : Type} (P : α → Value → Prop) (u : Value) : Prop := ∃ k, P k u
theorem Rel1.mk {α : Type} {P : α → Value → Prop} {u : Value} (k : α) (h : P k u) : Rel1 P u := ⟨k, h⟩
def Rel2 {α : Type} (P : α → Value → Value → Prop) (t i : Value) : Prop := ∃ k, P k t i
theorem Rel2.mk {α : Type} {P : α → Value → Value → Prop} {t i : Value} (k : α) (h : P k t i) : Rel2 P t i := ⟨k, h⟩

theorem ret_int {k : IntKind} {a b : Int} (h : a = b) : Ending.returned (.int k a) = .returned (.int k b) := by rw [h]
theorem ret_bool {a b : Bool} (h : a = b) : Ending.returned (.bool a) = .returned (.bool b) := by rw [h]
theorem val_int {k : IntKind} {a b : Int} (h : a = b) : Value.int k a = .int k b := by rw [h]
theorem val_bool {a b : Bool} (h : a = b) : Value.bool a = .bool b := by rw [h]

/-- All that there was is as it was. -/
def Ext (w w' : World) : Prop := Below w.heap.size w w'
theorem Ext.refl (w : World) : Ext w w := Below.refl _ _
theorem Ext.trans {a b c : World} (h : Ext a b) (k : Ext b c) : Ext a c := Below.trans h (Below.mono k h.size)
theorem Ext.alloc {a w : World} (h : Ext a w) (o : Obj) : Ext a (w.alloc o) := Below.alloc h h.size o
theorem Ext.drew {a w : World} (h : Ext a w) : Ext a w.drew := Below.drew h
theorem Ext.drewN {a w : World} (h : Ext a w) (n : Nat) : Ext a (w.drewN n) := ⟨h.os, h.tape, h.output, h.size, h.block⟩
theorem Ext.setCell {a w : World} (h : Ext a w) {p : Addr} (hp : a.heap.size ≤ p.block) (u : Value) : Ext a (w.setCell p u) := Below.setCell h hp u
theorem Ext.size {a w : World} (h : Ext a w) : a.heap.size ≤ w.heap.size := Below.size h
theorem Ext.cellAt {a w : World} (h : Ext a w) {b o : Nat} {v : Value} (hc : a.cell? ⟨b, o, none⟩ = some v) : w.cell? ⟨b, o, none⟩ = some v :=
  (Below.cell (p := ⟨b, o, none⟩) h (World.block_lt_of_cell? a _ hc)).trans hc
theorem Ext.cells {a w : World} (h : Ext a w) : ∀ b o, b < a.heap.size → w.cell? ⟨b, o, none⟩ = a.cell? ⟨b, o, none⟩ := fun b o hb => Below.cell (p := ⟨b, o, none⟩) h hb
theorem Ext.frees {a w : World} (h : Ext a w) : ∀ b o, b < a.heap.size → w.frozen? ⟨b, o, none⟩ = a.frozen? ⟨b, o, none⟩ := fun b o hb => Below.frozen (p := ⟨b, o, none⟩) h hb
theorem Ext.grown {a w w' : World} {row : Option Nat} (h : Ext a w) (hg : w.grownBy w' row) (hr : ∀ k, row = some k → a.heap.size ≤ k) : Ext a w' := Below.grown h hg h.size hr
theorem Ext.below {a w : World} (h : Ext a w) : Below a.heap.size a w := h
theorem ext_of_grown {w w' : World} (h : w.grownBy w' none) : Ext w w' := (Ext.refl w).grown h (fun _ hk => by cases hk)

theorem lt_of_cell {w : World} {b o : Nat} {v : Value} (h : w.cell? ⟨b, o, none⟩ = some v) : b < w.heap.size := World.block_lt_of_cell? w _ h

section
variable {α β : Type}
/-- A slice whose elements are 'size' cells each and read, one by one, as xs. -/
def SlR (size : Nat) (R : World → Nat → Nat → α → Prop) (w : World) (v : Value) (xs : List α) : Prop :=
  ∃ A c, v = .slice A xs.length c ∧ xs.length ≤ c ∧ c ≤ maxLen ∧ (0 < xs.length → ∃ b off, A = some ⟨b, off, none⟩ ∧ ∀ (j : Nat) (x : α), xs[j]? = some x → R w b (off + j * size) x)

def Keeps (R : World → Nat → Nat → α → Prop) : Prop := ∀ w w' b o x, Ext w w' → R w b o x → R w' b o x
theorem SlR.ext {size : Nat} {R : World → Nat → Nat → α → Prop} (hR : Keeps R) {w w' : World} {v : Value} {xs : List α} (h : SlR size R w v xs) (he : Ext w w') : SlR size R w' v xs := by
  obtain ⟨A, c, hv, hl, hm, hc⟩ := h
  refine ⟨A, c, hv, hl, hm, fun h0 => ?_⟩
  obtain ⟨b, off, hA, hj⟩ := hc h0
  exact ⟨b, off, hA, fun j x hx => hR _ _ _ _ _ he (hj j x hx)⟩
theorem SlR.nil (size : Nat) (R : World → Nat → Nat → α → Prop) (w : World) : SlR size R w (.slice none 0 0) [] := ⟨none, 0, rfl, by simp, by simp [maxLen], by simp⟩

/-- One-cell elements. -/
def One (enc : α → Value) (w : World) (b o : Nat) (x : α) : Prop := w.cell? ⟨b, o, none⟩ = some (enc x)
theorem One.keeps (enc : α → Value) : Keeps (One enc) := fun _ _ _ _ _ he h => Ext.cellAt he h
def Sl (enc : α → Value) (w : World) (v : Value) (xs : List α) : Prop := SlR 1 (One enc) w v xs
theorem Sl.ext {enc : α → Value} {w w' : World} {v : Value} {xs : List α} (h : Sl enc w v xs) (he : Ext w w') : Sl enc w' v xs := SlR.ext (One.keeps enc) h he
theorem Sl.nil (enc : α → Value) (w : World) : Sl enc w (.slice none 0 0) [] := SlR.nil _ _ _
theorem Sl.form {enc : α → Value} {w : World} {v : Value} {xs : List α} (h : Sl enc w v xs) : ∃ A c, v = .slice A xs.length c ∧ xs.length ≤ c ∧ c ≤ maxLen ∧ (0 < xs.length → ∃ b off, A = some ⟨b, off, none⟩ ∧ b < w.heap.size ∧
    ∀ (j : Nat) (hj : j < xs.length), w.cell? ⟨b, off + j, none⟩ = some (enc xs[j])) := by
  obtain ⟨A, c, hv, hl, hm, hc⟩ := h
  refine ⟨A, c, hv, hl, hm, fun h0 => ?_⟩
  obtain ⟨b, off, hA, hj⟩ := hc h0
  have hall : ∀ (j : Nat) (hj : j < xs.length), w.cell? ⟨b, off + j, none⟩ = some (enc xs[j]) := fun j hj' => by
    have := hj j xs[j] (List.getElem?_eq_getElem hj')
    rwa [Nat.mul_one] at this
  exact ⟨b, off, hA, lt_of_cell (hall 0 h0), hall⟩
theorem Sl.mk {enc : α → Value} {w : World} {A : Option Addr} {n c : Nat} {xs : List α} (hn : n = xs.length) (hl : n ≤ c) (hm : c ≤ maxLen)
    (h : 0 < n → ∃ b off, A = some ⟨b, off, none⟩ ∧ ∀ (j : Nat) (hj : j < xs.length), w.cell? ⟨b, off + j, none⟩ = some (enc xs[j])) : Sl enc w (.slice A n c) xs := by
  subst hn
  refine ⟨A, c, rfl, hl, hm, fun h0 => ?_⟩
  obtain ⟨b, off, hA, hj⟩ := h h0
  refine ⟨b, off, hA, fun j x hx => ?_⟩
  obtain ⟨hlt, rfl⟩ := List.getElem?_eq_some_iff.1 hx
  rw [Nat.mul_one]
  exact hj j hlt
/-- A cut 's[:k]'. -/
theorem Sl.take {enc : α → Value} {w : World} {A : Option Addr} {n c : Nat} {xs : List α} (h : Sl enc w (.slice A n c) xs) (k : Nat) (hk : k ≤ n) : Sl enc w (.slice A k c) (xs.take k) := by
  obtain ⟨A', c', hv, hl, hm, hc⟩ := h.form
  injection hv with hA hn hc'; subst hA; subst hc'; subst hn
  refine Sl.mk (by rw [List.length_take]; omega) (by omega) hm (fun h0 => ?_)
  obtain ⟨b, off, hA, _, hj⟩ := hc (by omega)
  exact ⟨b, off, hA, fun j hj' => by rw [List.getElem_take]; exact hj j (by rw [List.length_take] at hj'; omega)⟩
/-- A cut 's[k:]': the address moves, or (at the capacity's end) stays. -/
theorem Sl.drop {enc : α → Value} {w : World} {A A' : Option Addr} {n c : Nat} {xs : List α} (h : Sl enc w (.slice A n c) xs) (k : Nat) (hk : k ≤ n)
    (hA' : ∀ b off, A = some ⟨b, off, none⟩ → k < n → A' = some ⟨b, off + k, none⟩) : Sl enc w (.slice A' (n - k) (c - k)) (xs.drop k) := by
  obtain ⟨A0, c0, hv, hl, hm, hc⟩ := h.form
  injection hv with hA hn hc'; subst hA; subst hc'; subst hn
  refine Sl.mk (by rw [List.length_drop]) (by omega) (by omega) (fun h0 => ?_)
  obtain ⟨b, off, hA, _, hj⟩ := hc (by omega)
  refine ⟨b, off + k, hA' b off hA (by omega), fun j hj' => ?_⟩
  have hlt : k + j < xs.length := by rw [List.length_drop] at hj'; omega
  rw [List.getElem_drop, Nat.add_assoc]
  exact hj (k + j) hlt
end

/-- A row of the call's own, whose elements are one cell each. -/
def Own {α : Type} (enc : α → Value) (e : TypeId) (w : World) (B : Nat) (v : Value) (xs : List α) : Prop := w.ownsRow B e 1 v xs.length (xs.map enc)
/-- w' is w, but for new blocks and for writes to the row of v; the row of v' is that of v, or new. -/
def Grw (w : World) (v : Value) (w' : World) (v' : Value) : Prop := w.grownBy w' v.ownBlock ∧ ∀ k, v'.ownBlock = some k → v.ownBlock = some k ∨ w.heap.size ≤ k

section
variable {α : Type} {enc : α → Value} {e : TypeId} {w w' : World} {B : Nat} {v v' : Value} {xs : List α}
theorem Grw.refl (w : World) (v : Value) : Grw w v w v := ⟨World.grownBy.refl _ _, fun _ h => .inl h⟩
theorem Grw.trans {w2 : World} {v2 : Value} (h : Grw w v w' v') (k : Grw w' v' w2 v2) : Grw w v w2 v2 := by
  refine ⟨⟨k.1.os.trans h.1.os, k.1.tape.trans h.1.tape, k.1.output.trans h.1.output, Nat.le_trans h.1.size k.1.size, fun i hi hne => ?_⟩, fun i hi => ?_⟩
  · rw [k.1.block i (Nat.lt_of_lt_of_le hi h.1.size) ?_, h.1.block i hi hne]
    intro he
    rcases h.2 i he.symm with h' | h'
    · exact hne h'.symm
    · omega
  · rcases k.2 i hi with h' | h'
    · exact h.2 i h'
    · exact .inr (Nat.le_trans h.1.size h')
theorem Grw.alloc (h : Grw w v w' v') (o : Obj) : Grw w v (w'.alloc o) v' :=
  h.trans ⟨World.grownBy_alloc _ _ _, fun _ hk => .inl hk⟩
theorem Grw.drew (h : Grw w v w' v') : Grw w v w'.drew v' := ⟨⟨h.1.os, h.1.tape, h.1.output, h.1.size, h.1.block⟩, h.2⟩
theorem Grw.below (h : Grw w v w' v') (hv : ∀ k, v.ownBlock = some k → B ≤ k) (hB : B ≤ w.heap.size) : Below B w w' := (Below.refl B w).grown h.1 hB hv
theorem Grw.ext (h : Grw w v w' v') (hv : v.ownBlock = none) : Ext w w' := Grw.below h (fun k hk => by rw [hv] at hk; cases hk) (Nat.le_refl _)
theorem Own.lt (h : Own enc e w B v xs) : ∀ k, v.ownBlock = some k → B ≤ k ∧ k < w.heap.size := World.ownsRow.lt h
theorem Own.nil (enc : α → Value) (e : TypeId) (w : World) (B : Nat) : Own enc e w B (.slice none 0 0) [] := World.ownsRow_nil _ _ _ _
theorem Own.alloc (h : Own enc e w B v xs) (o : Obj) : Own enc e (w.alloc o) B v xs := World.ownsRow.alloc h o
theorem Own.drew (h : Own enc e w B v xs) : Own enc e w.drew B v xs := h
theorem Own.drewN (h : Own enc e w B v xs) (n : Nat) : Own enc e (w.drewN n) B v xs := h
theorem Own.ext (h : Own enc e w B v xs) (he : Ext w w') : Own enc e w' B v xs :=
  World.ownsRow.kept (row := none) h ⟨he.os, he.tape, he.output, he.size, fun k hk _ => he.block k hk⟩ (by cases v.ownBlock <;> simp)
theorem Own.kept (h : Own enc e w B v xs) {row : Option Nat} (hg : w.grownBy w' row) (hne : v.ownBlock = none ∨ v.ownBlock ≠ row) : Own enc e w' B v xs := World.ownsRow.kept h hg hne
theorem Own.mono {B' : Nat} (h : Own enc e w B v xs) (hB : B' ≤ B) : Own enc e w B' v xs := by
  obtain ⟨h1, h2⟩ := h
  refine ⟨h1, ?_⟩
  rcases h2 with h2 | ⟨g, cap, cur, hv, hb, rest⟩
  · exact .inl h2
  · exact .inr ⟨g, cap, cur, hv, Nat.le_trans hB hb, rest⟩
theorem Own.sl (h : Own enc e w B v xs) : Sl enc w v xs := by
  rcases h.2 with ⟨hv, hn⟩ | ⟨g, cap, cur, hv, hb, hg, hnc, hcm, hcs, ht⟩
  · have hx : xs = [] := List.eq_nil_of_length_eq_zero hn
    subst hx; subst hv
    exact Sl.nil _ _
  · subst hv
    refine Sl.mk rfl hnc hcm (fun _ => ⟨g, 0, rfl, fun j hj => ?_⟩)
    have := World.ownsRow.cells h (g := g) rfl j (enc xs[j]) (by simp [List.getElem?_eq_getElem hj])
    have e0 : (⟨g, 0, none⟩ : Addr).add j = ⟨g, 0 + j, none⟩ := by unfold Addr.add; split <;> simp_all
    rwa [e0] at this
theorem Own.form (h : Own enc e w B v xs) : ∃ A c, v = .slice A xs.length c ∧ xs.length ≤ c ∧ c ≤ maxLen := by
  obtain ⟨A, c, hv, hl, hm, _⟩ := h.sl
  exact ⟨A, c, hv, hl, hm⟩
/-- A block that was made whole. -/
theorem Own.made (w : World) (cs : Array Value) (hB : B ≤ w.heap.size) (hm : xs.length ≤ maxLen) (hc : cs = (xs.map enc).toArray) :
    Own enc e (w.alloc (.cells cs e)) B (.slice (some ⟨w.heap.size, 0, none⟩) xs.length xs.length) xs := by
  subst hc
  refine ⟨by simp, .inr ⟨w.heap.size, xs.length, _, rfl, hB, heap_alloc_new w _, Nat.le_refl _, hm, by simp, ?_⟩⟩
  rw [Nat.mul_one]
  exact List.take_of_length_le (by simp)
end

theorem Sl.made {α : Type} {enc : α → Value} (e : TypeId) (w : World) {cs : Array Value} {n : Nat} (xs : List α) (hn : n = xs.length) (hm : n ≤ maxLen) (hc : cs = (xs.map enc).toArray) :
    Sl enc (w.alloc (.cells cs e)) (.slice (some ⟨w.heap.size, 0, none⟩) n n) xs := by
  subst hn
  exact (Own.made (B := 0) w cs (Nat.zero_le _) hm hc).sl

/-- The element type's row of the program's table, with its slice type. -/
structure ElI (P : Program) (t e : TypeId) (z : Value) (bytes : Nat) : Prop where
  ht : P.underlying t = some (.slice e)
  inf : ∃ i : TypeInfo, P.info? e = some i ∧ i.zero = some z ∧ i.size = 1 ∧ i.bytes = bytes
  one : z.cells.size = 1

/-- append onto a row of the call's own, of one-cell elements, whatever the source. -/
theorem run_app {P : Program} {w : World} {α : Type} {enc : α → Value} {t e : TypeId} {z : Value} {bytes : Nat} (I : ElI P t e z bytes) (h1 : ∀ x, (enc x).oneCell' = true) (ty : TypeId)
    {B : Nat} {v u : Value} {xs ys : List α} (hown : Own enc e w B v xs) (hu : Sl enc w u ys) (h63 : xs.length + ys.length ≤ 1099511627776) (hby : bytes ≤ 24) (hB : B ≤ w.heap.size) :
    ∃ v' w', (Builtin.append_ #[t, t] ty #[v, u]).run P w = .ok v' w' ∧ Own enc e w' B v' (xs ++ ys) ∧ Grw w v w' v' ∧ (v' = .slice none 0 0 ↔ v = .slice none 0 0 ∧ ys = []) := by
  obtain ⟨i, hi, hz, hs, hb⟩ := I.inf
  obtain ⟨A, c, hv, hl, hm, hc⟩ := hu.form
  have hbytes : (xs.length + ys.length) * bytes ≤ 140737488355328 := by
    calc (xs.length + ys.length) * bytes ≤ 1099511627776 * 24 := Nat.mul_le_mul h63 hby
      _ ≤ 140737488355328 := by decide
  subst hv
  rcases A with _ | ad
  · have h0 : ys = [] := by
      rcases Nat.eq_zero_or_pos ys.length with h0 | h0
      · exact List.eq_nil_of_length_eq_zero h0
      · obtain ⟨b, off, hA, _⟩ := hc h0
        cases hA
    subst h0
    refine ⟨v, w, ?_, by simpa using hown, Grw.refl _ _, by simp⟩
    rcases hown.2 with ⟨rfl, hn⟩ | ⟨g, cap, cur, rfl, _, _, hnc, _⟩
    · simp [Builtin.append_, run_underlying I.ht, sizeOf, typeInfo, hi, Builtin.lenOf, Builtin.firstCells]
    · simp [Builtin.append_, run_underlying I.ht, sizeOf, typeInfo, hi, Builtin.lenOf, Builtin.firstCells, hnc, storeCells]
  · have hcells : ∀ j u, (ys.map enc)[j]? = some u → w.cell? (ad.add j) = some u := by
      intro j q hq
      rw [List.getElem?_map] at hq
      cases hj : ys[j]? with
      | none => rw [hj] at hq; cases hq
      | some y =>
        rw [hj] at hq
        obtain ⟨hlt, rfl⟩ := List.getElem?_eq_some_iff.1 hj
        obtain ⟨b, off, hA, _, hcell⟩ := hc (by omega)
        injection hA with hA; subst hA
        have e0 : (⟨b, off, none⟩ : Addr).add j = ⟨b, off + j, none⟩ := by unfold Addr.add; split <;> simp_all
        rw [e0, hcell j hlt]
        simpa using hq
    obtain ⟨v', w', hrun, h2, h3, h4, h5⟩ := run_append_own_at (P := P) w B t ty e i z 1 bytes I.ht hi hz hs hb I.one (by omega) v xs.length (xs.map enc) hown ad ys.length c (ys.map enc) (by simp) hcells
      (by intro u hu; obtain ⟨x, _, rfl⟩ := List.mem_map.1 hu; exact h1 x) (by simp only [maxLen]; omega) hbytes hB
    refine ⟨v', w', hrun, by unfold Own; rw [List.length_append, List.map_append]; exact h2, ⟨h3, fun k hk => ?_⟩, ?_⟩
    · rcases h5 with h5 | h5
      · exact .inl (by rw [← h5]; exact hk)
      · rw [h5] at hk; injection hk with hk; exact .inr (by omega)
    · rw [h4]; simp

theorem wpl_app {P : Program} {w : World} {ops : Array Oper} {rest : List Oper} {o : Oper} {a : Act} {Q : Exit → Act → World → Prop} (s x : Operand) {t : TypeId}
    {α : Type} {enc : α → Value} {e : TypeId} {z : Value} {bytes : Nat} (I : ElI P t e z bytes) (h1 : ∀ x, (enc x).oneCell' = true)
    (hgd : o.guard = none) (ho : o.op = .call { callee := .builtin .append, args := #[s, x], argTypes := #[t, t] })
    {B : Nat} {v u : Value} {xs ys : List α} (hs : a.eval s = v) (hx : a.eval x = u) (hown : Own enc e w B v xs) (hu : Sl enc w u ys) (h63 : xs.length + ys.length ≤ 1099511627776) (hby : bytes ≤ 24) (hB : B ≤ w.heap.size)
    (h : ∀ v' w', Own enc e w' B v' (xs ++ ys) → Grw w v w' v' → wpList P ops Q rest (a.put o.dst v') w') : wpList P ops Q (o :: rest) a w := by
  obtain ⟨v', w', hrun, h2, h3, _⟩ := run_app (P := P) I h1 o.type hown hu h63 hby hB
  refine wpList_plain hgd fun K hK => ?_
  unfold Oper.wp execOp
  simp only [ho, resolve, invoke, builtin, Sem.run_bind, Sem.run_pure, Result.andThen_ok, List.map_toArray, List.map_cons, List.map_nil, hs, hx, hrun]
  exact hK _ _ (h v' w' h2 h3)

/-- The same; what lies below the row's base is kept. -/
theorem wpl_appb {P : Program} {w : World} {ops : Array Oper} {rest : List Oper} {o : Oper} {a : Act} {Q : Exit → Act → World → Prop} (s x : Operand) {t : TypeId}
    {α : Type} {enc : α → Value} {e : TypeId} {z : Value} {bytes : Nat} (I : ElI P t e z bytes) (h1 : ∀ x, (enc x).oneCell' = true)
    (hgd : o.guard = none) (ho : o.op = .call { callee := .builtin .append, args := #[s, x], argTypes := #[t, t] })
    {B : Nat} {v u : Value} {xs ys : List α} (hs : a.eval s = v) (hx : a.eval x = u) (hown : Own enc e w B v xs) (hu : Sl enc w u ys) (h63 : xs.length + ys.length ≤ 1099511627776) (hby : bytes ≤ 24) (hB : B ≤ w.heap.size)
    (h : ∀ v' w', Own enc e w' B v' (xs ++ ys) → Grw w v w' v' → Below B w w' → wpList P ops Q rest (a.put o.dst v') w') : wpList P ops Q (o :: rest) a w :=
  wpl_app s x I h1 hgd ho hs hx hown hu h63 hby hB fun v' w' h2 h3 => h v' w' h2 h3 (h3.below (fun k hk => (hown.lt k hk).1) hB)

theorem Ext.more {a w w' : World} (h : Ext a w) (k : Below a.heap.size w w') : Ext a w' := Below.trans h k
theorem one_arr {k : IntKind} {a b : Int} (h : a = b) : #[Value.int k a] = [Value.int k b].toArray := by rw [h]
/-- Bytes. -/
def byt (x : UInt8) : Value := .int .u8 (x.toNat : Int)
theorem byt_one (x : UInt8) : (byt x).oneCell' = true := rfl
/-- Integers of kind int. -/
def i64v (x : Int) : Value := .int .i64 x
theorem i64v_one (x : Int) : (i64v x).oneCell' = true := rfl

theorem strOf_byt (xs : List UInt8) : strOfNums (xs.map fun x => (x.toNat : Int)) = ⟨xs.toArray⟩ := by
  unfold strOfNums
  congr 1
  rw [List.map_map]
  congr 1
  conv => rhs; rw [← List.map_id xs]
  apply List.map_congr_left
  intro x _
  simp
/-- 'string(b)' of bytes. -/
theorem run_conv_bytes {P : Program} (w : World) (src e dst : TypeId) (hs : P.underlying src = some (.slice e)) (he : P.underlying e = some (.int .u8)) (hd : P.underlying dst = some .string) {v : Value} {xs : List UInt8} (h : Sl byt w v xs) :
    (convert src dst v).run P w = .ok (.string ⟨xs.toArray⟩) w := by
  obtain ⟨A, c, hv, _, _, hc⟩ := h.form
  subst hv
  rcases A with _ | ad
  · have h0 : xs = [] := by
      rcases Nat.eq_zero_or_pos xs.length with h0 | h0
      · exact List.eq_nil_of_length_eq_zero h0
      · obtain ⟨b, off, hA, _⟩ := hc h0
        cases hA
    subst h0
    exact run_convert_bytes_nil w src e hs he _ _ dst hd
  · by_cases h0 : 0 < xs.length
    · obtain ⟨b, off, hA, _, hall⟩ := hc h0
      injection hA with hA; subst hA
      rw [run_convert_bytes_arg w src e hs he b off xs.length c (xs.map fun x => (x.toNat : Int)) (by simp) (fun i hi => by rw [hall i hi]; simp [byt, List.getD, List.getElem?_eq_getElem hi]) dst hd, strOf_byt]
    · have hx : xs = [] := List.eq_nil_of_length_eq_zero (by omega)
      subst hx
      rw [run_convert_bytes_string w src dst e (some ad) _ c hs he hd]
      simp [Conv.bytesToString, loadCells, loadCellsFrom]
      rfl
theorem ofInt_i64 (a : Nat) (ha : a < 9223372036854775808) : (BitVec.ofInt 64 (a : Int)).toNat = a := by
  rw [BitVec.ofInt_natCast, BitVec.toNat_ofNat]; exact Nat.mod_eq_of_lt (by omega)
theorem i64_xor_nat (a b : Nat) (ha : a < 9223372036854775808) (hb : b < 9223372036854775808) : bits .xor .i64 (a : Int) (b : Int) = ((a ^^^ b : Nat) : Int) := by
  have hx : a ^^^ b < 2 ^ 63 := Nat.xor_lt_two_pow (by omega) (by omega)
  show IntKind.i64.wrap ((BitVec.ofInt 64 (a : Int) ^^^ BitVec.ofInt 64 (b : Int)).toNat : Int) = _
  rw [BitVec.toNat_xor, ofInt_i64 a ha, ofInt_i64 b hb, IntKind.wrap_i64]
  omega
theorem i64_or_nat (a b : Nat) (ha : a < 9223372036854775808) (hb : b < 9223372036854775808) : bits .or .i64 (a : Int) (b : Int) = ((a ||| b : Nat) : Int) := by
  have hx : a ||| b < 2 ^ 63 := Nat.or_lt_two_pow (by omega) (by omega)
  show IntKind.i64.wrap ((BitVec.ofInt 64 (a : Int) ||| BitVec.ofInt 64 (b : Int)).toNat : Int) = _
  rw [BitVec.toNat_or, ofInt_i64 a ha, ofInt_i64 b hb, IntKind.wrap_i64]
  omega
theorem quiet_left {P : Program} {f : FuncId} {args : Array Value} {w : World} {a n : Nat} {v : Value}
    (h : Calls P f args (w.drewN (a + n)) fun e w' => e = .returned v ∧ w.drewN (a + n) = w') : Calls P f args (w.drewN (a + n)) fun e w'' => e = .returned v ∧ ∃ m, w'' = w.drewN (a + m) :=
  h.mono fun _ _ ⟨he, hm⟩ => ⟨he, n, hm.symm⟩
theorem quiet_left0 {P : Program} {f : FuncId} {args : Array Value} {w : World} {n : Nat} {v : Value}
    (h : Calls P f args (w.drewN n) fun e w' => e = .returned v ∧ w.drewN n = w') : Calls P f args (w.drewN n) fun e w'' => e = .returned v ∧ ∃ m, w'' = (w.drewN n).drewN m :=
  h.mono fun _ _ ⟨he, hm⟩ => ⟨he, 0, hm.symm⟩
theorem Sl.drewN {α : Type} {enc : α → Value} {w : World} {v : Value} {xs : List α} (h : Sl enc w v xs) (n : Nat) : Sl enc (w.drewN n) v xs := h.ext ((Ext.refl w).drewN n)
theorem wrap_add (n k : Nat) (h : n + k ≤ 9223372036854775807) : IntKind.i64.wrap ((n : Int) + (k : Int)) = (n : Int) + (k : Int) ∧ ((n : Int) + (k : Int)).toNat = n + k ∧ 0 ≤ (n : Int) + (k : Int) := by
  refine ⟨?_, by omega, by omega⟩
  rw [IntKind.wrap_i64]; omega
end Go.Proofs.Ytenlagddfgociaa
