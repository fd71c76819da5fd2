/- Texts of one proof, laid together: G, H, D, T, WG, RW. No condition. -/
import Derived.Test.YtpkemmchpccjdaaND12
import Derived.Test.YtpkemmchpccjdaaND2
import Derived.WalkKit
import Derived.WalkSpells
import Derived.WalkLawsBesides
import Derived.Maps.AppendAt
import Derived.Deep.AppendLies
import Derived.Deep.Draws
import Derived.Deep.QuietTactic
import Derived.BigQuiet
import Derived.Deep.RegionWith
import Derived.Deep.RegionHeld3
import Derived.Deep.DeepFit
import Derived.Deep.DeepMust
import Derived.Deep.Slices
import Derived.ProofKit
import Derived.Lib.SmallJoins
namespace Go.Proofs.Ytpkemmchpccjdaa
open Go.RowKit
set_option linter.unusedVariables false

@[irreducible] def Hx (p : Prop) : Prop := p
theorem Hx.out {p : Prop} (h : Hx p) : p := by unfold Hx at h; exact h

def Rel1 {α : Type} (P : α → Value → Prop) (u : Value) : Prop := ∃ k, P k u
theorem Rel1.mk {α : Type} {P : α → Value → Prop} {u : Value} (k : α) (h : P k u) : Rel1 P u := ⟨k, h⟩
def Rel2 {α : Type} (P : α → Value → Value → Prop) (t i : Value) : Prop := ∃ k, P k t i
theorem Rel2.mk {α : Type} {P : α → Value → Value → Prop} {t i : Value} (k : α) (h : P k t i) : Rel2 P t i := ⟨k, h⟩

def Ext (w w' : World) : Prop := Below w.heap.size w w'
theorem Ext.refl (w : World) : Ext w w := Below.refl _ _
theorem Ext.trans {a b c : World} (h : Ext a b) (k : Ext b c) : Ext a c := Below.trans h (Below.mono k h.size)
theorem Ext.alloc {a w : World} (h : Ext a w) (o : Obj) : Ext a (w.alloc o) := Below.alloc h h.size o
theorem Ext.drew {a w : World} (h : Ext a w) : Ext a w.drew := Below.drew h
theorem Ext.setCell {a w : World} (h : Ext a w) {p : Addr} (hp : a.heap.size ≤ p.block) (u : Value) : Ext a (w.setCell p u) := Below.setCell h hp u
theorem Ext.size {a w : World} (h : Ext a w) : a.heap.size ≤ w.heap.size := Below.size h
theorem Ext.cellAt {a w : World} (h : Ext a w) {b o : Nat} {v : Value} (hc : a.cell? ⟨b, o, none⟩ = some v) : w.cell? ⟨b, o, none⟩ = some v :=
 (Below.cell (p := ⟨b, o, none⟩) h (World.block_lt_of_cell? a _ hc)).trans hc
theorem Ext.cells {a w : World} (h : Ext a w) : ∀ b o, b < a.heap.size → w.cell? ⟨b, o, none⟩ = a.cell? ⟨b, o, none⟩ := fun b o hb => Below.cell (p := ⟨b, o, none⟩) h hb
theorem Ext.grown {a w w' : World} {row : Option Nat} (h : Ext a w) (hg : w.grownBy w' row) (hr : ∀ k, row = some k → a.heap.size ≤ k) : Ext a w' := Below.grown h hg h.size hr
theorem Ext.below {a w : World} (h : Ext a w) : Below a.heap.size a w := h
theorem lt_of_cell {w : World} {b o : Nat} {v : Value} (h : w.cell? ⟨b, o, none⟩ = some v) : b < w.heap.size := World.block_lt_of_cell? w _ h

section
variable {α β : Type}
def SlR (size : Nat) (R : World → Nat → Nat → α → Prop) (w : World) (v : Value) (xs : List α) : Prop :=
 ∃ A c, v = .slice A xs.length c ∧ xs.length ≤ c ∧ c ≤ maxLen ∧ (0 < xs.length → ∃ b off, A = some ⟨b, off, none⟩ ∧ ∀ (j : Nat) (x : α), xs[j]? = some x → R w b (off + j * size) x)

def Keeps (R : World → Nat → Nat → α → Prop) : Prop := ∀ w w' b o x, Ext w w' → R w b o x → R w' b o x
theorem SlR.ext {size : Nat} {R : World → Nat → Nat → α → Prop} (hR : Keeps R) {w w' : World} {v : Value} {xs : List α} (h : SlR size R w v xs) (he : Ext w w') : SlR size R w' v xs := by
 obtain ⟨A, c, hv, hl, hm, hc⟩ := h
 refine ⟨A, c, hv, hl, hm, fun h0 => ?_⟩
 obtain ⟨b, off, hA, hj⟩ := hc h0
 exact ⟨b, off, hA, fun j x hx => hR _ _ _ _ _ he (hj j x hx)⟩
theorem SlR.nil (size : Nat) (R : World → Nat → Nat → α → Prop) (w : World) : SlR size R w (.slice none 0 0) [] := ⟨none, 0, rfl, by simp, by simp [maxLen], by simp⟩

def One (enc : α → Value) (w : World) (b o : Nat) (x : α) : Prop := w.cell? ⟨b, o, none⟩ = some (enc x)
theorem One.keeps (enc : α → Value) : Keeps (One enc) := fun _ _ _ _ _ he h => Ext.cellAt he h
def Sl (enc : α → Value) (w : World) (v : Value) (xs : List α) : Prop := SlR 1 (One enc) w v xs
theorem Sl.ext {enc : α → Value} {w w' : World} {v : Value} {xs : List α} (h : Sl enc w v xs) (he : Ext w w') : Sl enc w' v xs := SlR.ext (One.keeps enc) h he
theorem Sl.nil (enc : α → Value) (w : World) : Sl enc w (.slice none 0 0) [] := SlR.nil _ _ _
theorem Sl.form {enc : α → Value} {w : World} {v : Value} {xs : List α} (h : Sl enc w v xs) : ∃ A c, v = .slice A xs.length c ∧ xs.length ≤ c ∧ c ≤ maxLen ∧ (0 < xs.length → ∃ b off, A = some ⟨b, off, none⟩ ∧ b < w.heap.size ∧
  ∀ (j : Nat) (hj : j < xs.length), w.cell? ⟨b, off + j, none⟩ = some (enc xs[j])) := by
 obtain ⟨A, c, hv, hl, hm, hc⟩ := h
 refine ⟨A, c, hv, hl, hm, fun h0 => ?_⟩
 obtain ⟨b, off, hA, hj⟩ := hc h0
 have hall : ∀ (j : Nat) (hj : j < xs.length), w.cell? ⟨b, off + j, none⟩ = some (enc xs[j]) := fun j hj' => by
  have := hj j xs[j] (List.getElem?_eq_getElem hj')
  rwa [Nat.mul_one] at this
 exact ⟨b, off, hA, lt_of_cell (hall 0 h0), hall⟩
theorem Sl.mk {enc : α → Value} {w : World} {A : Option Addr} {n c : Nat} {xs : List α} (hn : n = xs.length) (hl : n ≤ c) (hm : c ≤ maxLen)
  (h : 0 < n → ∃ b off, A = some ⟨b, off, none⟩ ∧ ∀ (j : Nat) (hj : j < xs.length), w.cell? ⟨b, off + j, none⟩ = some (enc xs[j])) : Sl enc w (.slice A n c) xs := by
 subst hn
 refine ⟨A, c, rfl, hl, hm, fun h0 => ?_⟩
 obtain ⟨b, off, hA, hj⟩ := h h0
 refine ⟨b, off, hA, fun j x hx => ?_⟩
 obtain ⟨hlt, rfl⟩ := List.getElem?_eq_some_iff.1 hx
 rw [Nat.mul_one]
 exact hj j hlt
theorem Sl.take {enc : α → Value} {w : World} {A : Option Addr} {n c : Nat} {xs : List α} (h : Sl enc w (.slice A n c) xs) (k : Nat) (hk : k ≤ n) : Sl enc w (.slice A k c) (xs.take k) := by
 obtain ⟨A', c', hv, hl, hm, hc⟩ := h.form
 injection hv with hA hn hc'; subst hA; subst hc'; subst hn
 refine Sl.mk (by rw [List.length_take]; omega) oM hm (fun h0 => ?_)
 obtain ⟨b, off, hA, _, hj⟩ := hc oM
 exact ⟨b, off, hA, fun j hj' => by rw [List.getElem_take]; exact hj j (by rw [List.length_take] at hj'; omega)⟩
theorem Sl.drop {enc : α → Value} {w : World} {A A' : Option Addr} {n c : Nat} {xs : List α} (h : Sl enc w (.slice A n c) xs) (k : Nat) (hk : k ≤ n)
  (hA' : ∀ b off, A = some ⟨b, off, none⟩ → k < n → A' = some ⟨b, off + k, none⟩) : Sl enc w (.slice A' (n - k) (c - k)) (xs.drop k) := by
 obtain ⟨A0, c0, hv, hl, hm, hc⟩ := h.form
 injection hv with hA hn hc'; subst hA; subst hc'; subst hn
 refine Sl.mk (by rw [List.length_drop]) oM oM (fun h0 => ?_)
 obtain ⟨b, off, hA, _, hj⟩ := hc oM
 refine ⟨b, off + k, hA' b off hA oM, fun j hj' => ?_⟩
 have hlt : k + j < xs.length := by rw [List.length_drop] at hj'; omega
 rw [List.getElem_drop, Nat.add_assoc]
 exact hj (k + j) hlt
end

def Own {α : Type} (enc : α → Value) (e : TypeId) (w : World) (B : Nat) (v : Value) (xs : List α) : Prop := w.ownsRow B e 1 v xs.length (xs.map enc)
def Grw (w : World) (v : Value) (w' : World) (v' : Value) : Prop := w.grownBy w' v.ownBlock ∧ ∀ k, v'.ownBlock = some k → v.ownBlock = some k ∨ w.heap.size ≤ k

section
variable {α : Type} {enc : α → Value} {e : TypeId} {w w' : World} {B : Nat} {v v' : Value} {xs : List α}
theorem Grw.refl (w : World) (v : Value) : Grw w v w v := ⟨World.grownBy.refl _ _, fun _ h => .inl h⟩
theorem Grw.trans {w2 : World} {v2 : Value} (h : Grw w v w' v') (k : Grw w' v' w2 v2) : Grw w v w2 v2 := by
 refine ⟨⟨k.1.os.trans h.1.os, k.1.tape.trans h.1.tape, k.1.output.trans h.1.output, Nat.le_trans h.1.size k.1.size, fun i hi hne => ?_⟩, fun i hi => ?_⟩
 ·rw [k.1.block i (Nat.lt_of_lt_of_le hi h.1.size) ?_, h.1.block i hi hne]
  intro he
  rcases h.2 i he.symm with h' | h'
  ·exact hne h'.symm
  ·omega
 ·rcases k.2 i hi with h' | h'
  ·exact h.2 i h'
  ·exact .inr (Nat.le_trans h.1.size h')
theorem Grw.alloc (h : Grw w v w' v') (o : Obj) : Grw w v (w'.alloc o) v' :=
 h.trans ⟨World.grownBy_alloc _ _ _, fun _ hk => .inl hk⟩
theorem Grw.drew (h : Grw w v w' v') : Grw w v w'.drew v' := ⟨⟨h.1.os, h.1.tape, h.1.output, h.1.size, h.1.block⟩, h.2⟩
theorem Grw.below (h : Grw w v w' v') (hv : ∀ k, v.ownBlock = some k → B ≤ k) (hB : B ≤ w.heap.size) : Below B w w' := (Below.refl B w).grown h.1 hB hv
theorem Grw.ext (h : Grw w v w' v') (hv : v.ownBlock = none) : Ext w w' := Grw.below h (fun k hk => by rw [hv] at hk; cases hk) (Nat.le_refl _)
theorem Own.lt (h : Own enc e w B v xs) : ∀ k, v.ownBlock = some k → B ≤ k ∧ k < w.heap.size := World.ownsRow.lt h
theorem Own.nil (enc : α → Value) (e : TypeId) (w : World) (B : Nat) : Own enc e w B (.slice none 0 0) [] := World.ownsRow_nil _ _ _ _
theorem Own.alloc (h : Own enc e w B v xs) (o : Obj) : Own enc e (w.alloc o) B v xs := World.ownsRow.alloc h o
theorem Own.drew (h : Own enc e w B v xs) : Own enc e w.drew B v xs := h
theorem Own.ext (h : Own enc e w B v xs) (he : Ext w w') : Own enc e w' B v xs :=
 World.ownsRow.kept (row := none) h ⟨he.os, he.tape, he.output, he.size, fun k hk _ => he.block k hk⟩ (by cases v.ownBlock <;> simp)
theorem Own.kept (h : Own enc e w B v xs) {row : Option Nat} (hg : w.grownBy w' row) (hne : v.ownBlock = none ∨ v.ownBlock ≠ row) : Own enc e w' B v xs := World.ownsRow.kept h hg hne
theorem Own.mono {B' : Nat} (h : Own enc e w B v xs) (hB : B' ≤ B) : Own enc e w B' v xs := by
 obtain ⟨h1, h2⟩ := h
 refine ⟨h1, ?_⟩
 rcases h2 with h2 | ⟨g, cap, cur, hv, hb, rest⟩
 ·exact .inl h2
 ·exact .inr ⟨g, cap, cur, hv, Nat.le_trans hB hb, rest⟩
theorem Own.sl (h : Own enc e w B v xs) : Sl enc w v xs := by
 rcases h.2 with ⟨hv, hn⟩ | ⟨g, cap, cur, hv, hb, hg, hnc, hcm, hcs, ht⟩
 ·have hx : xs = [] := List.eq_nil_of_length_eq_zero hn
  subst hx; subst hv
  exact Sl.nil _ _
 ·subst hv
  refine Sl.mk rfl hnc hcm (fun _ => ⟨g, 0, rfl, fun j hj => ?_⟩)
  have := World.ownsRow.cells h (g := g) rfl j (enc xs[j]) (by simp [List.getElem?_eq_getElem hj])
  have e0 : (⟨g, 0, none⟩ : Addr).add j = ⟨g, 0 + j, none⟩ := by unfold Addr.add; split <;> simp_all
  rwa [e0] at this
theorem Own.form (h : Own enc e w B v xs) : ∃ A c, v = .slice A xs.length c ∧ xs.length ≤ c ∧ c ≤ maxLen := by
 obtain ⟨A, c, hv, hl, hm, _⟩ := h.sl
 exact ⟨A, c, hv, hl, hm⟩
theorem Own.made (w : World) (cs : Array Value) (hB : B ≤ w.heap.size) (hm : xs.length ≤ maxLen) (hc : cs = (xs.map enc).toArray) :
  Own enc e (w.alloc (.cells cs e)) B (.slice (some ⟨w.heap.size, 0, none⟩) xs.length xs.length) xs := by
 subst hc
 refine ⟨by simp, .inr ⟨w.heap.size, xs.length, _, rfl, hB, heap_alloc_new w _, Nat.le_refl _, hm, by simp, ?_⟩⟩
 rw [Nat.mul_one]
 exact List.take_of_length_le (by simp)
end

theorem Sl.made {α : Type} {enc : α → Value} (e : TypeId) (w : World) {cs : Array Value} {n : Nat} (xs : List α) (hn : n = xs.length) (hm : n ≤ maxLen) (hc : cs = (xs.map enc).toArray) :
  Sl enc (w.alloc (.cells cs e)) (.slice (some ⟨w.heap.size, 0, none⟩) n n) xs := by
 subst hn
 exact (Own.made (B := 0) w cs (Nat.zero_le _) hm hc).sl

theorem Ext.more {a w w' : World} (h : Ext a w) (k : Below a.heap.size w w') : Ext a w' := Below.trans h k
end Go.Proofs.Ytpkemmchpccjdaa
namespace Go.Proofs.Ytpkemmchpccjdaa
open Go.RowKit
set_option linter.unusedVariables false

section
variable {P : Program} {α : Type} {enc : α → Value} {w : World} {A : Option Addr} {n c : Nat} {xs : List α}
theorem Sl.len {v : Value} (h : Sl enc w v xs) : ∃ A c, v = .slice A xs.length c := by obtain ⟨A, c, hv, _⟩ := h.form; exact ⟨A, c, hv⟩
end
end Go.Proofs.Ytpkemmchpccjdaa
namespace Go.Proofs.Ytpkemmchpccjdaa
open Go.RowKit Go.ChangeShapes Go.WideShapes Go.Deep
set_option linter.unusedVariables false

theorem list_of {α : Type} {p : Nat → α → Prop} : ∀ n : Nat, (∀ i, i < n → ∃ x, p i x) → ∃ xs : List α, xs.length = n ∧ ∀ (j : Nat) (x : α), xs[j]? = some x → p j x
 | 0, _ => ⟨[], rfl, fun j x h => by simp at h⟩
 | n + 1, h => by
   obtain ⟨xs, hl, hx⟩ := list_of n (fun i hi => h i (Nat.lt_succ_of_lt hi))
   obtain ⟨y, hy⟩ := h n (Nat.lt_succ_self n)
   refine ⟨xs ++ [y], by simp [hl], fun j x hj => ?_⟩
   rcases Nat.lt_or_ge j n with hlt | hge
   ·rw [List.getElem?_append_left oM] at hj; exact hx j x hj
   ·rw [List.getElem?_append_right oM] at hj
    rcases Nat.eq_or_lt_of_le hge with he | hgt
    ·subst he
     rw [hl, Nat.sub_self] at hj
     simp at hj
     subst hj; exact hy
    ·rw [List.getElem?_eq_none (by simp; omega)] at hj; cases hj

theorem spot_none {w : World} {x : Addr} {v : Value} (h : w.cell? x = some v) : x.spot = none := by
 unfold World.cell? at h
 split at h
 ·split at h
  ·cases h
  ·rename_i hs; simpa using hs
 ·cases h

section
variable {α : Type}
def TRV (P : Program) (e : TypeId) (V : World → Value → α → Prop) : Prop :=
 ∀ (H : Type) (enc : TypeId × Value → H) (w : World) (base : Nat) (spare : Nat → Bool) (held : Bool) (fuel : Nat) (v : Value) (x : DataW H × List MemPlace), DataW.trod enc P w base spare held fuel e [v] = some x → ∃ y, V w v y
def TRR (P : Program) (e : TypeId) (size : Nat) (R : World → Nat → Nat → α → Prop) : Prop :=
 ∀ (H : Type) (enc : TypeId × Value → H) (w : World) (base : Nat) (spare : Nat → Bool) (held : Bool) (fuel : Nat) (b o : Nat) (cs : List Value) (x : DataW H × List MemPlace), cs.length = size →
  (∀ j (hj : j < cs.length), w.cell? ⟨b, o + j, none⟩ = some cs[j]) → DataW.trod enc P w base spare held fuel e cs = some x → ∃ y, R w b o y
theorem TRV.mono {P : Program} {e : TypeId} {V V' : World → Value → α → Prop} (h : TRV P e V) (hv : ∀ w v y, V w v y → V' w v y) : TRV P e V' :=
 fun H enc w base spare held fuel v x hx => let ⟨y, hy⟩ := h H enc w base spare held fuel v x hx; ⟨y, hv _ _ _ hy⟩
theorem TRV.cell {P : Program} {e : TypeId} {V : World → Value → α → Prop} (h : TRV P e V) : TRR P e 1 (fun w b o y => ∃ v, w.cell? ⟨b, o, none⟩ = some v ∧ V w v y) := by
 intro H enc w base spare held fuel b o cs x hl hc hx
 match cs, hl with
 | [v], _ =>
   obtain ⟨y, hy⟩ := h H enc w base spare held fuel v x hx
   exact ⟨y, v, by simpa using hc 0 (by simp), hy⟩
theorem TRR.mono {P : Program} {e : TypeId} {size : Nat} {R R' : World → Nat → Nat → α → Prop} (h : TRR P e size R) (hr : ∀ w b o y, R w b o y → R' w b o y) : TRR P e size R' :=
 fun H enc w base spare held fuel b o cs x hl hc hx => let ⟨y, hy⟩ := h H enc w base spare held fuel b o cs x hl hc hx; ⟨y, hr _ _ _ _ hy⟩
end

theorem SlR.mono {α : Type} {size : Nat} {R R' : World → Nat → Nat → α → Prop} {w : World} {v : Value} {xs : List α} (h : SlR size R w v xs) (hr : ∀ b o y, R w b o y → R' w b o y) : SlR size R' w v xs := by
 obtain ⟨A, c, hv, hl, hm, hc⟩ := h
 refine ⟨A, c, hv, hl, hm, fun h0 => ?_⟩
 obtain ⟨b, off, hA, hj⟩ := hc h0
 exact ⟨b, off, hA, fun j x hx => hr _ _ _ (hj j x hx)⟩
end Go.Proofs.Ytpkemmchpccjdaa
namespace Go.Proofs.Ytpkemmchpccjdaa
open Go.RowKit
set_option linter.unusedVariables false

structure Asg where
 v : Int
 val : Int
structure Ev where
 kind : Int
 peer : Int
 msg : Int
 time : Int
 asg : List Asg
structure Vr where
 name : ByteArray
 init : Int
structure Pr where
 name : ByteArray
 vars : List Vr
 evs : List Ev
abbrev Tr := List Pr

def RAsg (w : World) (b o : Nat) (x : Asg) : Prop := w.cell? ⟨b, o, none⟩ = some (.int .i64 x.v) ∧ w.cell? ⟨b, o + 1, none⟩ = some (.int .i64 x.val)
def RVr (w : World) (b o : Nat) (x : Vr) : Prop := w.cell? ⟨b, o, none⟩ = some (.string x.name) ∧ w.cell? ⟨b, o + 1, none⟩ = some (.int .i64 x.init) ∧ x.name.size ≤ maxLen
def REv (w : World) (b o : Nat) (x : Ev) : Prop :=
 w.cell? ⟨b, o, none⟩ = some (.int .i64 x.kind) ∧ w.cell? ⟨b, o + 1, none⟩ = some (.int .i64 x.peer) ∧ w.cell? ⟨b, o + 2, none⟩ = some (.int .i64 x.msg) ∧ w.cell? ⟨b, o + 3, none⟩ = some (.int .i64 x.time) ∧
  ∃ v, w.cell? ⟨b, o + 4, none⟩ = some v ∧ SlR 2 RAsg w v x.asg
def RPr (w : World) (b o : Nat) (x : Pr) : Prop :=
 (w.cell? ⟨b, o, none⟩ = some (.string x.name) ∧ x.name.size ≤ maxLen) ∧ (∃ v, w.cell? ⟨b, o + 1, none⟩ = some v ∧ SlR 2 RVr w v x.vars) ∧ ∃ v, w.cell? ⟨b, o + 2, none⟩ = some v ∧ SlR 5 REv w v x.evs
def VTr (w : World) (v : Value) (t : Tr) : Prop := ∃ u, v = .agg #[u] ∧ SlR 3 RPr w u t
theorem RAsg.keeps : Keeps RAsg := fun _ _ _ _ _ he ⟨h1, h2⟩ => ⟨he.cellAt h1, he.cellAt h2⟩
theorem RVr.keeps : Keeps RVr := fun _ _ _ _ _ he ⟨h1, h2, h3⟩ => ⟨he.cellAt h1, he.cellAt h2, h3⟩
theorem REv.keeps : Keeps REv := fun _ _ _ _ _ he ⟨h1, h2, h3, h4, v, h5, h6⟩ => ⟨he.cellAt h1, he.cellAt h2, he.cellAt h3, he.cellAt h4, v, he.cellAt h5, h6.ext RAsg.keeps he⟩
theorem RPr.keeps : Keeps RPr := fun _ _ _ _ _ he ⟨⟨h1, h2⟩, ⟨v, h3, h4⟩, u, h5, h6⟩ => ⟨⟨he.cellAt h1, h2⟩, ⟨v, he.cellAt h3, h4.ext RVr.keeps he⟩, u, he.cellAt h5, h6.ext REv.keeps he⟩
theorem VTr.ext {w w' : World} {v : Value} {t : Tr} (h : VTr w v t) (he : Ext w w') : VTr w' v t := by
 obtain ⟨u, hv, hs⟩ := h
 exact ⟨u, hv, hs.ext RPr.keeps he⟩

end Go.Proofs.Ytpkemmchpccjdaa
namespace Go.Proofs.Ytpkemmchpccjdaa
open Go.RowKit
set_option linter.unusedVariables false

section
variable {w : World} {F : Nat → Prop}
def RowR (w : World) (F : Nat → Prop) (b o : Nat) (row : List IV) : Prop := ∀ (j : Nat) (a : IV), row[j]? = some a → ∃ v, w.cell? ⟨b, o + j, none⟩ = some v ∧ RepI w F a v

theorem repI_isl {sz : Nat} {rows : List (List IV)} {v : Value} (h : RepI w F (.isl sz rows) v) :
  ∃ A c, v = .slice A rows.length c ∧ rows.length ≤ c ∧ c ≤ maxLen ∧ (0 < rows.length → ∃ b off, A = some ⟨b, off, none⟩ ∧ F b ∧ ∀ (k : Nat) (row : List IV), rows[k]? = some row → row.length = sz ∧ RowR w F b (off + k * sz) row) := by
 cases h with
 | isl0 _ a c hm => exact ⟨a, c, rfl, Nat.zero_le _, hm, fun h => by simp at h⟩
 | isl _ b off _ c val hF hc hm hsz hcell hrep =>
   exact ⟨_, c, rfl, hc, hm, fun _ => ⟨b, off, rfl, hF, fun k row hk => ⟨hsz k row hk, fun j a hj => ⟨_, hcell k row j a hk hj, hrep k row j a hk hj⟩⟩⟩⟩

theorem isl_repI {sz : Nat} {rows : List (List IV)} {A : Option Addr} {c : Nat} (h1 : rows.length ≤ c) (h2 : c ≤ maxLen)
  (h : 0 < rows.length → ∃ b off, A = some ⟨b, off, none⟩ ∧ F b ∧ ∀ (k : Nat) (row : List IV), rows[k]? = some row → row.length = sz ∧ RowR w F b (off + k * sz) row) : RepI w F (.isl sz rows) (.slice A rows.length c) := by
 by_cases h0 : 0 < rows.length
 ·obtain ⟨b, off, rfl, hF, hr⟩ := h h0
  have cell : ∀ (k : Nat) (row : List IV) (j : Nat) (a : IV), rows[k]? = some row → row[j]? = some a → w.cell? ⟨b, off + k * sz + j, none⟩ = some ((w.cell? ⟨b, off + k * sz + j, none⟩).getD undef) := by
   intro k row j a hk hj
   obtain ⟨v, hv, _⟩ := (hr k row hk).2 j a hj
   rw [hv]; rfl
  exact .isl rows b off sz c (fun k j => (w.cell? ⟨b, off + k * sz + j, none⟩).getD undef) hF h1 h2 (fun k row hk => (hr k row hk).1) cell (fun k row j a hk hj => by
   obtain ⟨v, hv, hr⟩ := (hr k row hk).2 j a hj
   rw [hv]; exact hr)
 ·have : rows = [] := List.eq_nil_of_length_eq_zero oM
  subst this
  exact .isl0 _ _ _ h2

section
variable {α : Type} {sz : Nat} {R : World → Nat → Nat → α → Prop} {enc : α → List IV} {xs : List α} {v : Value}
end

def eI (n : Int) : List IV := [.int .i64 n]
section
end
end

section
variable {P : Program}
theorem ACalls.calls {f : Nat} {args : List AV} {Q : AV → List Row → List Row → Prop} (h : ACalls P f args [] [] Q) {w : World} {vs : Array Value} (hr : RepL w (fun b => b < w.heap.size) (fun _ _ => none) args vs.toList) (hG : Glob w (fun b => b < w.heap.size) := by intro _ _ h; cases h) :
  Calls P f vs w fun en w' => ∃ v x b' l' F' L', en = .returned v ∧ RepA w' F' L' x v ∧ Ext w w' ∧ Q x b' l' := by
 have no : ∀ k, ¬ Owned (fun _ _ => none) [] k := by rintro k ⟨i, v, s, e1, q, h1, h2, h3⟩; cases h2
 refine Calls.mono (h.2 _ _ w vs ⟨fun i v z els hi => by simp at hi, fun i v q hq => (by cases hq), fun i i' v v' z z' e1 e2 bb q1 q2 h1 => by simp at h1, fun b hb => ⟨hb, no b⟩, hG⟩ hr) ?_
 rintro en w' ⟨v, x, b', l', F', L', h1, h2, h3, h4, h5, h6⟩
 exact ⟨v, x, b', l', F', L', h1, h2, ⟨h4.os, h4.tape, h4.output, h4.size, fun k hk => h4.block k hk (no k)⟩, h6⟩
end
end Go.Proofs.Ytpkemmchpccjdaa
namespace Go.Proofs.Ytpkemmchpccjdaa
open Go.RowKit Go.ChangeShapes Go.WideShapes Go.Deep
set_option linter.unusedVariables false

def RIs (w : World) (F : Nat → Prop) (row : List IV) (cs : List Value) : Prop := row.length = cs.length ∧ ∀ (j : Nat) (a : IV) (v : Value), row[j]? = some a → cs[j]? = some v → RepI w F a v
theorem RIs.nil {w : World} {F : Nat → Prop} : RIs w F [] [] := ⟨rfl, fun j a v h => by simp at h⟩
theorem RIs.one {w : World} {F : Nat → Prop} {a : IV} {v : Value} (h : RepI w F a v) : RIs w F [a] [v] := by
 refine ⟨rfl, fun j x u hx hu => ?_⟩
 cases j with
 | zero => simp at hx hu; subst hx; subst hu; exact h
 | succ j => simp at hx
theorem RIs.append {w : World} {F : Nat → Prop} {r s : List IV} {cs ds : List Value} (h : RIs w F r cs) (k : RIs w F s ds) : RIs w F (r ++ s) (cs ++ ds) := by
 refine ⟨by simp [h.1, k.1], fun j a v ha hv => ?_⟩
 by_cases hj : j < r.length
 ·rw [List.getElem?_append_left hj] at ha
  rw [List.getElem?_append_left (by rw [← h.1]; exact hj)] at hv
  exact h.2 j a v ha hv
 ·rw [List.getElem?_append_right oM] at ha
  rw [List.getElem?_append_right (by rw [← h.1]; omega), ← h.1] at hv
  exact k.2 _ a v ha hv
theorem RIs.repL {w : World} {F : Nat → Prop} {L : LMap} {r : List IV} {cs : List Value} (h : RIs w F r cs) : RepL w F L (r.map .v) cs := by
 refine ⟨by simpa using h.1, fun j x v hx hv => ?_⟩
 rw [List.getElem?_map] at hx
 cases hq : r[j]? with
 | none => simp [hq] at hx
 | some y => simp [hq] at hx; subst hx; exact .v _ _ (h.2 j y v hq hv)

def Low (w : World) : Nat → Prop := fun b => b < w.heap.size

def TR {α : Type} (P : Program) (t : TypeId) (n : Nat) (enc : α → List IV) (good : α → Prop) : Prop :=
 ∀ (H : Type) (en : TypeId × Value → H) (w : World) (base : Nat) (spare : Nat → Bool) (held : Bool) (fuel : Nat) (cs : List Value) (x : DataW H × List MemPlace), cs.length = n → DataW.trod en P w base spare held fuel t cs = some x →
  ∃ y, good y ∧ RIs w (Low w) (enc y) cs

section
variable {P : Program} {α β : Type}
theorem TR.map {t : TypeId} {n : Nat} {enc : α → List IV} {good : α → Prop} (h : TR P t n enc good) {enc' : β → List IV} {good' : β → Prop} (f : α → β) (he : ∀ y, enc' (f y) = enc y) (hg : ∀ y, good y → good' (f y)) : TR P t n enc' good' := by
 intro H en w base spare held fuel cs x hl hx
 obtain ⟨y, g, r⟩ := h H en w base spare held fuel cs x hl hx
 exact ⟨f y, hg y g, by rw [he]; exact r⟩
theorem tr_int {t : TypeId} {k : IntKind} (ht : P.underlying t = some (.int k)) : TR P t 1 (fun n : Int => [.int k n]) (fun n => (Lit.int k n).wf = true) := by
 intro H en w base spare held fuel cs x hl hx
 obtain ⟨n, rfl, _, hw⟩ := DataW.trod_int ht hx
 exact ⟨n, hw, RIs.one (.int _ _)⟩
theorem tr_bool {t : TypeId} (ht : P.underlying t = some .bool) : TR P t 1 (fun b : Bool => [.bool b]) (fun _ => True) := by
 intro H en w base spare held fuel cs x hl hx
 obtain ⟨n, rfl, _⟩ := DataW.trod_bool ht hx
 exact ⟨n, trivial, RIs.one (.bool _)⟩
theorem tr_slice {t e : TypeId} {n : Nat} {enc : α → List IV} {good : α → Prop} (h : TR P e n enc good) (ht : P.underlying t = some (.slice e)) (hC : P.cellsOf e = n) (h0 : 0 < n) :
  TR P t 1 (fun ys : List α => [.isl n (ys.map enc)]) (fun ys => ys.length ≤ maxLen ∧ ∀ y ∈ ys, good y) := by
 intro H en w base spare held fuel cs x hl hx
 rcases open_slice ht hx with ⟨hv, _⟩ | ⟨a, len, cap, m, f, D, Pl, hv, hb, hll, hm, hmm, _, hel⟩
 ·subst hv
  exact ⟨[], ⟨by simp [maxLen], fun y hy => by simp at hy⟩, RIs.one (.isl0 _ _ _ (by simp [maxLen]))⟩
 ·subst hv
  have hle : len ≤ m := by rw [hmm]; split <;> omega
  have key : ∀ i, i < len → ∃ y, (good y ∧ ∃ b off, a = ⟨b, off, none⟩ ∧ (enc y).length = n ∧ ∀ (j : Nat) (c : IV), (enc y)[j]? = some c → ∃ v, w.cell? ⟨b, off + i * n + j, none⟩ = some v ∧ RepI w (Low w) c v) := by
   intro i hi
   obtain ⟨cs', hc, ht'⟩ := hel i oM
   rw [hC] at hc
   obtain ⟨_, hcl, hat⟩ := World.cells?_some hc
   obtain ⟨cs0, hc0, _⟩ := hel 0 oM
   rw [hC] at hc0
   obtain ⟨_, hcl0, hat0⟩ := World.cells?_some hc0
   have h00 := hat0 0 h0
   have e00 : (a.add (0 * n)).add 0 = a := by simp [Addr.add]
   rw [e00, List.getElem?_eq_getElem (show 0 < cs0.length by omega)] at h00
   have hsp := spot_none h00
   obtain ⟨b, off, sp⟩ := a
   simp only at hsp
   subst hsp
   obtain ⟨y, hg, hy⟩ := h H en w base spare held f cs' (D i, Pl i) hcl ht'
   refine ⟨y, hg, b, off, rfl, by rw [hy.1, hcl], fun j c hj => ?_⟩
   have hjl : j < cs'.length := by rw [← hy.1]; exact (List.getElem?_eq_some_iff.1 hj).1
   have := hat j oM
   have e1 : ((⟨b, off, none⟩ : Addr).add (i * n)).add j = ⟨b, off + i * n + j, none⟩ := by
    unfold Addr.add
    by_cases h1 : i * n = 0 <;> by_cases h2 : j = 0 <;> simp [h1, h2]
   rw [e1, List.getElem?_eq_getElem hjl] at this
   exact ⟨_, this, hy.2 j c _ hj (List.getElem?_eq_getElem hjl)⟩
  obtain ⟨xs, hxl, hxs⟩ := list_of len key
  subst hxl
  refine ⟨xs, ⟨by omega, fun y hy => ?_⟩, RIs.one ?_⟩
  ·obtain ⟨i, hi⟩ := List.mem_iff_getElem?.1 hy
   exact (hxs i y hi).1
  ·by_cases hpos : 0 < xs.length
   ·obtain ⟨_, b, off, ha, _⟩ := hxs 0 xs[0] (List.getElem?_eq_getElem hpos)
    subst ha
    have hfacts : ∀ (k : Nat) (row : List IV), (xs.map enc)[k]? = some row → row.length = n ∧ ∀ (j : Nat) (c : IV), row[j]? = some c → ∃ v, w.cell? ⟨b, off + k * n + j, none⟩ = some v ∧ RepI w (Low w) c v := by
     intro k row hk
     rw [List.getElem?_map] at hk
     cases hq : xs[k]? with
     | none => rw [hq] at hk; cases hk
     | some y =>
       rw [hq] at hk; cases hk
       obtain ⟨_, b', off', hh, h1, h2⟩ := hxs k y hq
       injection hh with g1 g2
       subst g1; subst g2
       exact ⟨h1, h2⟩
    have hlow : Low w b := by
     obtain ⟨r1, r2⟩ := hfacts 0 (enc xs[0]) (by rw [List.getElem?_map, List.getElem?_eq_getElem hpos]; rfl)
     obtain ⟨v, hv, _⟩ := r2 0 (enc xs[0])[0] (List.getElem?_eq_getElem oM)
     exact lt_of_cell hv
    have := RepI.isl (w := w) (F := Low w) (xs.map enc) b off n cap (fun k j => (w.cell? ⟨b, off + k * n + j, none⟩).getD undef) hlow (by simpa using hll) hm (fun k row hk => (hfacts k row hk).1)
     (fun k row j c hk hj => by
      obtain ⟨v, hv, _⟩ := (hfacts k row hk).2 j c hj
      rw [hv]; rfl)
     (fun k row j c hk hj => by
      obtain ⟨v, hv, hr⟩ := (hfacts k row hk).2 j c hj
      rw [hv]; exact hr)
    rw [List.length_map] at this
    exact this
   ·have : xs = [] := List.eq_nil_of_length_eq_zero oM
    subst this
    exact .isl0 _ _ _ hm

def TRF (P : Program) (fs : List Field) (o n : Nat) (enc : α → List IV) (good : α → Prop) : Prop :=
 ∀ (H : Type) (en : TypeId × Value → H) (w : World) (base : Nat) (spare : Nat → Bool) (held : Bool) (fuel : Nat) (cs : List Value), cs.length = o + n → (∀ f ∈ fs, ∃ x, DataW.trod en P w base spare held fuel f.type ((cs.drop f.offset).take (P.cellsOf f.type)) = some x) →
  ∃ y, good y ∧ RIs w (Low w) (enc y) (cs.drop o)
theorem trf_nil {o : Nat} : TRF P [] o 0 (fun _ : Unit => []) (fun _ => True) := by
 intro H en w base spare held fuel cs hl _
 refine ⟨(), trivial, ?_⟩
 rw [List.drop_eq_nil_of_le oM]
 exact RIs.nil
theorem trf_cons {f : Field} {fs : List Field} {o n m : Nat} {enc : α → List IV} {good : α → Prop} {enc' : β → List IV} {good' : β → Prop} (h : TR P f.type n enc good) (hC : P.cellsOf f.type = n) (ho : f.offset = o) (k : TRF P fs (o + n) m enc' good') :
  TRF P (f :: fs) o (n + m) (fun y : α × β => enc y.1 ++ enc' y.2) (fun y => good y.1 ∧ good' y.2) := by
 intro H en w base spare held fuel cs hl hfs
 obtain ⟨x, hx⟩ := hfs f (by simp)
 rw [ho, hC] at hx
 obtain ⟨y, hg, hy⟩ := h H en w base spare held fuel _ x (by simp; omega) hx
 obtain ⟨z, hg', hz⟩ := k H en w base spare held fuel cs oM (fun f hf => hfs f (by simp [hf]))
 refine ⟨(y, z), ⟨hg, hg'⟩, ?_⟩
 have : cs.drop o = (cs.drop o).take n ++ cs.drop (o + n) := by rw [← List.drop_drop, List.take_append_drop]
 rw [this]
 exact hy.append hz
theorem tr_struct {t : TypeId} {fs : Array Field} {n : Nat} {enc : α → List IV} {good : α → Prop} (ht : P.underlying t = some (.struct fs)) (h : TRF P fs.toList 0 n enc good) : TR P t n enc good := by
 intro H en w base spare held fuel cs x hl hx
 obtain ⟨xs, m, _, _, _, hlen, hf⟩ := DataW.trod_struct ht hx
 obtain ⟨y, hg, hy⟩ := h H en w base spare held m cs oM (fun f hm => by
  obtain ⟨i, hi⟩ := List.mem_iff_getElem?.1 hm
  have hi' : fs[i]? = some f := by simpa using hi
  have hlt : i < xs.length := by rw [hlen]; exact (Array.getElem?_eq_some_iff.1 hi').1
  exact ⟨_, (hf i f hi').trans (List.getElem?_eq_getElem hlt)⟩)
 exact ⟨y, hg, by simpa using hy⟩
theorem TR.one {t : TypeId} {enc : α → IV} {good : α → Prop} (h : TR P t 1 (fun y => [enc y]) good) {H : Type} {en : TypeId × Value → H} {w : World} {v : Value} {d : DataW H} {p : List MemPlace} {base : Nat} {spare : Nat → Bool} {held : Bool}
  (hv : v.cells = #[v]) (hT : DataW.Trod en P w base spare held t v d p) : ∃ y, good y ∧ RepI w (Low w) (enc y) v := by
 obtain ⟨fuel, hf⟩ := hT
 rw [hv] at hf
 obtain ⟨y, hg, hy⟩ := h H en w base spare held fuel [v] (d, p) rfl hf
 exact ⟨y, hg, hy.2 0 _ _ rfl rfl⟩
theorem TR.agg {t : TypeId} {n : Nat} {enc : α → List IV} {good : α → Prop} (h : TR P t n enc good) {fs : Array Field} (hs : P.underlying t = some (.struct fs)) (hC : P.cellsOf t = n) {H : Type} {en : TypeId × Value → H} {w : World} {v : Value} {d : DataW H} {p : List MemPlace} {base b0 : Nat} {r : Reach} {spare : Nat → Bool} {held : Bool}
  (hv : Value.okWide P w r b0 t v) (hT : DataW.Trod en P w base spare held t v d p) : ∃ y, good y ∧ RepA w (Low w) (fun _ _ => none) (.agg ((enc y).map .v)) v := by
 obtain ⟨cs, rfl, hsz⟩ := okWide_struct hs hv
 obtain ⟨fuel, hf⟩ := hT
 obtain ⟨y, hg, hy⟩ := h H en w base spare held fuel _ (d, p) (by simpa [Value.cells] using hsz.trans hC) hf
 exact ⟨y, hg, RepL.agg hy.repL⟩
end
end Go.Proofs.Ytpkemmchpccjdaa
