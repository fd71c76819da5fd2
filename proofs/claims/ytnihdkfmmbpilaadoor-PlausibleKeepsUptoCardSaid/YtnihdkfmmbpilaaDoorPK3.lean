/- Texts of one proof, laid together: G, H, D, T, F, FW, FN, FI, FP, FE, Q, B, MP, M, O, A, CP, K, Y, V, RH. No condition. -/
import Derived.Test.YtnihdkfmmbpilaaDoorPC23
import Derived.WalkKit
import Derived.WalkSpells
import Derived.WalkLawsBesides
import Derived.Maps.AppendAt
import Derived.Deep.AppendLies
import Derived.Deep.Draws
import Derived.Deep.QuietTactic
import Derived.BigQuiet
import Derived.Deep.RegionWith
import Derived.Deep.RegionHeld3
import Derived.Deep.DeepFit
import Derived.Deep.DeepMust
import Derived.Deep.Slices
import Derived.ProofKit
import Derived.Lib.SmallJoins
import Derived.Test.YtnihdkfmmbpilaaDoorChecked
import Derived.RangeFuncNested
import Derived.RangeFuncBound
import Derived.RangeFuncCalls
import Derived.RangeFuncLeaves
import Derived.Shelf.Abstract
import Derived.Shelf.RegionOpen
import Derived.OwnWalkIn
import Derived.TacticsInMore
import Derived.LoopNIn
import Derived.LoopIn
import Derived.RangeFuncBox
import Derived.Laws.CopyRow
import Derived.Deep.RegionLaw
namespace Go.Proofs.YtnihdkfmmbpilaaDoor
open Go.RowKit
set_option linter.unusedVariables false

@[irreducible] def Hx (p : Prop) : Prop := p
theorem hide {p : Prop} (h : p) : Hx p := by unfold Hx; exact h
theorem Hx.out {p : Prop} (h : Hx p) : p := by unfold Hx at h; exact h

def Rel1 {α : Type} (P : α → Value → Prop) (u : Value) : Prop := ∃ k, P k u
theorem Rel1.mk {α : Type} {P : α → Value → Prop} {u : Value} (k : α) (h : P k u) : Rel1 P u := ⟨k, h⟩
def Rel2 {α : Type} (P : α → Value → Value → Prop) (t i : Value) : Prop := ∃ k, P k t i
theorem Rel2.mk {α : Type} {P : α → Value → Value → Prop} {t i : Value} (k : α) (h : P k t i) : Rel2 P t i := ⟨k, h⟩

theorem ret_bool {a b : Bool} (h : a = b) : Ending.returned (.bool a) = .returned (.bool b) := by rw [h]
def Ext (w w' : World) : Prop := Below w.heap.size w w'
theorem Ext.refl (w : World) : Ext w w := Below.refl _ _
theorem Ext.trans {a b c : World} (h : Ext a b) (k : Ext b c) : Ext a c := Below.trans h (Below.mono k h.size)
theorem Ext.alloc {a w : World} (h : Ext a w) (o : Obj) : Ext a (w.alloc o) := Below.alloc h h.size o
theorem Ext.drew {a w : World} (h : Ext a w) : Ext a w.drew := Below.drew h
theorem Ext.drewN {a w : World} (h : Ext a w) (n : Nat) : Ext a (w.drewN n) := ⟨h.os, h.tape, h.output, h.size, h.block⟩
theorem Ext.setCell {a w : World} (h : Ext a w) {p : Addr} (hp : a.heap.size ≤ p.block) (u : Value) : Ext a (w.setCell p u) := Below.setCell h hp u
theorem Ext.size {a w : World} (h : Ext a w) : a.heap.size ≤ w.heap.size := Below.size h
theorem Ext.cellAt {a w : World} (h : Ext a w) {b o : Nat} {v : Value} (hc : a.cell? ⟨b, o, none⟩ = some v) : w.cell? ⟨b, o, none⟩ = some v :=
 (Below.cell (p := ⟨b, o, none⟩) h (World.block_lt_of_cell? a _ hc)).trans hc
theorem Ext.cells {a w : World} (h : Ext a w) : ∀ b o, b < a.heap.size → w.cell? ⟨b, o, none⟩ = a.cell? ⟨b, o, none⟩ := fun b o hb => Below.cell (p := ⟨b, o, none⟩) h hb
theorem Ext.grown {a w w' : World} {row : Option Nat} (h : Ext a w) (hg : w.grownBy w' row) (hr : ∀ k, row = some k → a.heap.size ≤ k) : Ext a w' := Below.grown h hg h.size hr
theorem Ext.below {a w : World} (h : Ext a w) : Below a.heap.size a w := h
theorem lt_of_cell {w : World} {b o : Nat} {v : Value} (h : w.cell? ⟨b, o, none⟩ = some v) : b < w.heap.size := World.block_lt_of_cell? w _ h

section
variable {α β : Type}
def SlR (size : Nat) (R : World → Nat → Nat → α → Prop) (w : World) (v : Value) (xs : List α) : Prop :=
 ∃ A c, v = .slice A xs.length c ∧ xs.length ≤ c ∧ c ≤ maxLen ∧ (0 < xs.length → ∃ b off, A = some ⟨b, off, none⟩ ∧ ∀ (j : Nat) (x : α), xs[j]? = some x → R w b (off + j * size) x)

def Keeps (R : World → Nat → Nat → α → Prop) : Prop := ∀ w w' b o x, Ext w w' → R w b o x → R w' b o x
theorem SlR.ext {size : Nat} {R : World → Nat → Nat → α → Prop} (hR : Keeps R) {w w' : World} {v : Value} {xs : List α} (h : SlR size R w v xs) (he : Ext w w') : SlR size R w' v xs := by
 obtain ⟨A, c, hv, hl, hm, hc⟩ := h
 refine ⟨A, c, hv, hl, hm, fun h0 => ?_⟩
 obtain ⟨b, off, hA, hj⟩ := hc h0
 exact ⟨b, off, hA, fun j x hx => hR _ _ _ _ _ he (hj j x hx)⟩
theorem SlR.nil (size : Nat) (R : World → Nat → Nat → α → Prop) (w : World) : SlR size R w (.slice none 0 0) [] := ⟨none, 0, rfl, by simp, by simp [maxLen], by simp⟩

def One (enc : α → Value) (w : World) (b o : Nat) (x : α) : Prop := w.cell? ⟨b, o, none⟩ = some (enc x)
theorem One.keeps (enc : α → Value) : Keeps (One enc) := fun _ _ _ _ _ he h => Ext.cellAt he h
def Sl (enc : α → Value) (w : World) (v : Value) (xs : List α) : Prop := SlR 1 (One enc) w v xs
theorem Sl.ext {enc : α → Value} {w w' : World} {v : Value} {xs : List α} (h : Sl enc w v xs) (he : Ext w w') : Sl enc w' v xs := SlR.ext (One.keeps enc) h he
theorem Sl.nil (enc : α → Value) (w : World) : Sl enc w (.slice none 0 0) [] := SlR.nil _ _ _
theorem Sl.form {enc : α → Value} {w : World} {v : Value} {xs : List α} (h : Sl enc w v xs) : ∃ A c, v = .slice A xs.length c ∧ xs.length ≤ c ∧ c ≤ maxLen ∧ (0 < xs.length → ∃ b off, A = some ⟨b, off, none⟩ ∧ b < w.heap.size ∧
  ∀ (j : Nat) (hj : j < xs.length), w.cell? ⟨b, off + j, none⟩ = some (enc xs[j])) := by
 obtain ⟨A, c, hv, hl, hm, hc⟩ := h
 refine ⟨A, c, hv, hl, hm, fun h0 => ?_⟩
 obtain ⟨b, off, hA, hj⟩ := hc h0
 have hall : ∀ (j : Nat) (hj : j < xs.length), w.cell? ⟨b, off + j, none⟩ = some (enc xs[j]) := fun j hj' => by
  have := hj j xs[j] (List.getElem?_eq_getElem hj')
  rwa [Nat.mul_one] at this
 exact ⟨b, off, hA, lt_of_cell (hall 0 h0), hall⟩
theorem Sl.mk {enc : α → Value} {w : World} {A : Option Addr} {n c : Nat} {xs : List α} (hn : n = xs.length) (hl : n ≤ c) (hm : c ≤ maxLen)
  (h : 0 < n → ∃ b off, A = some ⟨b, off, none⟩ ∧ ∀ (j : Nat) (hj : j < xs.length), w.cell? ⟨b, off + j, none⟩ = some (enc xs[j])) : Sl enc w (.slice A n c) xs := by
 subst hn
 refine ⟨A, c, rfl, hl, hm, fun h0 => ?_⟩
 obtain ⟨b, off, hA, hj⟩ := h h0
 refine ⟨b, off, hA, fun j x hx => ?_⟩
 obtain ⟨hlt, rfl⟩ := List.getElem?_eq_some_iff.1 hx
 rw [Nat.mul_one]
 exact hj j hlt
theorem Sl.take {enc : α → Value} {w : World} {A : Option Addr} {n c : Nat} {xs : List α} (h : Sl enc w (.slice A n c) xs) (k : Nat) (hk : k ≤ n) : Sl enc w (.slice A k c) (xs.take k) := by
 obtain ⟨A', c', hv, hl, hm, hc⟩ := h.form
 injection hv with hA hn hc'; subst hA; subst hc'; subst hn
 refine Sl.mk (by rw [List.length_take]; omega) oM hm (fun h0 => ?_)
 obtain ⟨b, off, hA, _, hj⟩ := hc oM
 exact ⟨b, off, hA, fun j hj' => by rw [List.getElem_take]; exact hj j (by rw [List.length_take] at hj'; omega)⟩
theorem Sl.drop {enc : α → Value} {w : World} {A A' : Option Addr} {n c : Nat} {xs : List α} (h : Sl enc w (.slice A n c) xs) (k : Nat) (hk : k ≤ n)
  (hA' : ∀ b off, A = some ⟨b, off, none⟩ → k < n → A' = some ⟨b, off + k, none⟩) : Sl enc w (.slice A' (n - k) (c - k)) (xs.drop k) := by
 obtain ⟨A0, c0, hv, hl, hm, hc⟩ := h.form
 injection hv with hA hn hc'; subst hA; subst hc'; subst hn
 refine Sl.mk (by rw [List.length_drop]) oM oM (fun h0 => ?_)
 obtain ⟨b, off, hA, _, hj⟩ := hc oM
 refine ⟨b, off + k, hA' b off hA oM, fun j hj' => ?_⟩
 have hlt : k + j < xs.length := by rw [List.length_drop] at hj'; omega
 rw [List.getElem_drop, Nat.add_assoc]
 exact hj (k + j) hlt
end

def Own {α : Type} (enc : α → Value) (e : TypeId) (w : World) (B : Nat) (v : Value) (xs : List α) : Prop := w.ownsRow B e 1 v xs.length (xs.map enc)
def Grw (w : World) (v : Value) (w' : World) (v' : Value) : Prop := w.grownBy w' v.ownBlock ∧ ∀ k, v'.ownBlock = some k → v.ownBlock = some k ∨ w.heap.size ≤ k

section
variable {α : Type} {enc : α → Value} {e : TypeId} {w w' : World} {B : Nat} {v v' : Value} {xs : List α}
theorem Grw.refl (w : World) (v : Value) : Grw w v w v := ⟨World.grownBy.refl _ _, fun _ h => .inl h⟩
theorem Grw.trans {w2 : World} {v2 : Value} (h : Grw w v w' v') (k : Grw w' v' w2 v2) : Grw w v w2 v2 := by
 refine ⟨⟨k.1.os.trans h.1.os, k.1.tape.trans h.1.tape, k.1.output.trans h.1.output, Nat.le_trans h.1.size k.1.size, fun i hi hne => ?_⟩, fun i hi => ?_⟩
 ·rw [k.1.block i (Nat.lt_of_lt_of_le hi h.1.size) ?_, h.1.block i hi hne]
  intro he
  rcases h.2 i he.symm with h' | h'
  ·exact hne h'.symm
  ·omega
 ·rcases k.2 i hi with h' | h'
  ·exact h.2 i h'
  ·exact .inr (Nat.le_trans h.1.size h')
theorem Grw.alloc (h : Grw w v w' v') (o : Obj) : Grw w v (w'.alloc o) v' :=
 h.trans ⟨World.grownBy_alloc _ _ _, fun _ hk => .inl hk⟩
theorem Grw.drew (h : Grw w v w' v') : Grw w v w'.drew v' := ⟨⟨h.1.os, h.1.tape, h.1.output, h.1.size, h.1.block⟩, h.2⟩
theorem Grw.below (h : Grw w v w' v') (hv : ∀ k, v.ownBlock = some k → B ≤ k) (hB : B ≤ w.heap.size) : Below B w w' := (Below.refl B w).grown h.1 hB hv
theorem Grw.ext (h : Grw w v w' v') (hv : v.ownBlock = none) : Ext w w' := Grw.below h (fun k hk => by rw [hv] at hk; cases hk) (Nat.le_refl _)
theorem Own.lt (h : Own enc e w B v xs) : ∀ k, v.ownBlock = some k → B ≤ k ∧ k < w.heap.size := World.ownsRow.lt h
theorem Own.nil (enc : α → Value) (e : TypeId) (w : World) (B : Nat) : Own enc e w B (.slice none 0 0) [] := World.ownsRow_nil _ _ _ _
theorem Own.alloc (h : Own enc e w B v xs) (o : Obj) : Own enc e (w.alloc o) B v xs := World.ownsRow.alloc h o
theorem Own.drew (h : Own enc e w B v xs) : Own enc e w.drew B v xs := h
theorem Own.drewN (h : Own enc e w B v xs) (n : Nat) : Own enc e (w.drewN n) B v xs := h
theorem Own.ext (h : Own enc e w B v xs) (he : Ext w w') : Own enc e w' B v xs :=
 World.ownsRow.kept (row := none) h ⟨he.os, he.tape, he.output, he.size, fun k hk _ => he.block k hk⟩ (by cases v.ownBlock <;> simp)
theorem Own.kept (h : Own enc e w B v xs) {row : Option Nat} (hg : w.grownBy w' row) (hne : v.ownBlock = none ∨ v.ownBlock ≠ row) : Own enc e w' B v xs := World.ownsRow.kept h hg hne
theorem Own.mono {B' : Nat} (h : Own enc e w B v xs) (hB : B' ≤ B) : Own enc e w B' v xs := by
 obtain ⟨h1, h2⟩ := h
 refine ⟨h1, ?_⟩
 rcases h2 with h2 | ⟨g, cap, cur, hv, hb, rest⟩
 ·exact .inl h2
 ·exact .inr ⟨g, cap, cur, hv, Nat.le_trans hB hb, rest⟩
theorem Own.sl (h : Own enc e w B v xs) : Sl enc w v xs := by
 rcases h.2 with ⟨hv, hn⟩ | ⟨g, cap, cur, hv, hb, hg, hnc, hcm, hcs, ht⟩
 ·have hx : xs = [] := List.eq_nil_of_length_eq_zero hn
  subst hx; subst hv
  exact Sl.nil _ _
 ·subst hv
  refine Sl.mk rfl hnc hcm (fun _ => ⟨g, 0, rfl, fun j hj => ?_⟩)
  have := World.ownsRow.cells h (g := g) rfl j (enc xs[j]) (by simp [List.getElem?_eq_getElem hj])
  have e0 : (⟨g, 0, none⟩ : Addr).add j = ⟨g, 0 + j, none⟩ := by unfold Addr.add; split <;> simp_all
  rwa [e0] at this
theorem Own.form (h : Own enc e w B v xs) : ∃ A c, v = .slice A xs.length c ∧ xs.length ≤ c ∧ c ≤ maxLen := by
 obtain ⟨A, c, hv, hl, hm, _⟩ := h.sl
 exact ⟨A, c, hv, hl, hm⟩
theorem Own.made (w : World) (cs : Array Value) (hB : B ≤ w.heap.size) (hm : xs.length ≤ maxLen) (hc : cs = (xs.map enc).toArray) :
  Own enc e (w.alloc (.cells cs e)) B (.slice (some ⟨w.heap.size, 0, none⟩) xs.length xs.length) xs := by
 subst hc
 refine ⟨by simp, .inr ⟨w.heap.size, xs.length, _, rfl, hB, heap_alloc_new w _, Nat.le_refl _, hm, by simp, ?_⟩⟩
 rw [Nat.mul_one]
 exact List.take_of_length_le (by simp)
end

theorem Sl.made {α : Type} {enc : α → Value} (e : TypeId) (w : World) {cs : Array Value} {n : Nat} (xs : List α) (hn : n = xs.length) (hm : n ≤ maxLen) (hc : cs = (xs.map enc).toArray) :
  Sl enc (w.alloc (.cells cs e)) (.slice (some ⟨w.heap.size, 0, none⟩) n n) xs := by
 subst hn
 exact (Own.made (B := 0) w cs (Nat.zero_le _) hm hc).sl

theorem Ext.more {a w w' : World} (h : Ext a w) (k : Below a.heap.size w w') : Ext a w' := Below.trans h k
def byt (x : UInt8) : Value := .int .u8 (x.toNat : Int)
theorem Sl.drewN {α : Type} {enc : α → Value} {w : World} {v : Value} {xs : List α} (h : Sl enc w v xs) (n : Nat) : Sl enc (w.drewN n) v xs := h.ext ((Ext.refl w).drewN n)
end Go.Proofs.YtnihdkfmmbpilaaDoor
namespace Go.Proofs.YtnihdkfmmbpilaaDoor
open Go.RowKit
set_option linter.unusedVariables false

section
variable {P : Program} {α : Type} {enc : α → Value} {w : World} {A : Option Addr} {n c : Nat} {xs : List α}
theorem Sl.len {v : Value} (h : Sl enc w v xs) : ∃ A c, v = .slice A xs.length c := by obtain ⟨A, c, hv, _⟩ := h.form; exact ⟨A, c, hv⟩
theorem Sl.nle (h : Sl enc w (.slice A n c) xs) : n = xs.length ∧ n ≤ c := by
 obtain ⟨_, _, hv, hl, _⟩ := h.form
 injection hv with _ h1 h2; subst h1; subst h2; exact ⟨rfl, hl⟩
theorem Sl.cutL (h : Sl enc w (.slice A n c) xs) {t e : TypeId} {i : TypeInfo} (ht : P.underlying t = some (.slice e)) (hi : P.info? e = some i) (hs : i.size = 1) (l : Nat) {lI : Int} (hlI : lI = l) (hl : l ≤ n) :
  ∃ u, (∀ W, (Instr.sliceAt t (.slice A n c) (some (.int .i64 lI)) none none).run P W = .ok u W) ∧ Sl enc w u (xs.drop l) := by
 obtain ⟨hn, hc⟩ := h.nle
 subst hlI
 refine ⟨.slice (if c = l then A else A.map (·.add (l * 1))) (n - l) (c - l), fun W => ?_, ?_⟩
 ·have b2 : ∀ (code : BoundsCode) (W : World), (Instr.sliceBound (.int .i64 (l : Int)) n code).run P W = .ok l W := fun code W => by
   rw [run_sliceBound W .i64 (l : Int) n code oM oM]; simp
  simp [Instr.sliceAt, Instr.slice, Instr.sliceBounds, run_underlying ht, sizeOf, typeInfo, hi, hs, b2]
 ·refine h.drop l hl (fun b off hA hlt => ?_)
  subst hA
  rw [if_neg oM]
  simp [Addr.add]
end
theorem wrap_addI (n k : Nat) (kI : Int) (hk : kI = k) (h : n + k ≤ 9223372036854775807) : IntKind.i64.wrap ((n : Int) + kI) = (n : Int) + kI ∧ ((n : Int) + kI).toNat = n + k ∧ 0 ≤ (n : Int) + kI := by
 subst hk
 refine ⟨?_, by omega, by omega⟩
 rw [IntKind.wrap_i64]; omega
end Go.Proofs.YtnihdkfmmbpilaaDoor
namespace Go.Proofs.YtnihdkfmmbpilaaDoor
open Go.RowKit Go.ChangeShapes Go.WideShapes Go.Deep
set_option linter.unusedVariables false

theorem list_of {α : Type} {p : Nat → α → Prop} : ∀ n : Nat, (∀ i, i < n → ∃ x, p i x) → ∃ xs : List α, xs.length = n ∧ ∀ (j : Nat) (x : α), xs[j]? = some x → p j x
 | 0, _ => ⟨[], rfl, fun j x h => by simp at h⟩
 | n + 1, h => by
   obtain ⟨xs, hl, hx⟩ := list_of n (fun i hi => h i (Nat.lt_succ_of_lt hi))
   obtain ⟨y, hy⟩ := h n (Nat.lt_succ_self n)
   refine ⟨xs ++ [y], by simp [hl], fun j x hj => ?_⟩
   rcases Nat.lt_or_ge j n with hlt | hge
   ·rw [List.getElem?_append_left oM] at hj; exact hx j x hj
   ·rw [List.getElem?_append_right oM] at hj
    rcases Nat.eq_or_lt_of_le hge with he | hgt
    ·subst he
     rw [hl, Nat.sub_self] at hj
     simp at hj
     subst hj; exact hy
    ·rw [List.getElem?_eq_none (by simp; omega)] at hj; cases hj

theorem spot_none {w : World} {x : Addr} {v : Value} (h : w.cell? x = some v) : x.spot = none := by
 unfold World.cell? at h
 split at h
 ·split at h
  ·cases h
  ·rename_i hs; simpa using hs
 ·cases h

section
variable {α : Type}
def TRV (P : Program) (e : TypeId) (V : World → Value → α → Prop) : Prop :=
 ∀ (H : Type) (enc : TypeId × Value → H) (w : World) (base : Nat) (spare : Nat → Bool) (held : Bool) (fuel : Nat) (v : Value) (x : DataW H × List MemPlace), DataW.trod enc P w base spare held fuel e [v] = some x → ∃ y, V w v y
def TRR (P : Program) (e : TypeId) (size : Nat) (R : World → Nat → Nat → α → Prop) : Prop :=
 ∀ (H : Type) (enc : TypeId × Value → H) (w : World) (base : Nat) (spare : Nat → Bool) (held : Bool) (fuel : Nat) (b o : Nat) (cs : List Value) (x : DataW H × List MemPlace), cs.length = size →
  (∀ j (hj : j < cs.length), w.cell? ⟨b, o + j, none⟩ = some cs[j]) → DataW.trod enc P w base spare held fuel e cs = some x → ∃ y, R w b o y
theorem TRV.mono {P : Program} {e : TypeId} {V V' : World → Value → α → Prop} (h : TRV P e V) (hv : ∀ w v y, V w v y → V' w v y) : TRV P e V' :=
 fun H enc w base spare held fuel v x hx => let ⟨y, hy⟩ := h H enc w base spare held fuel v x hx; ⟨y, hv _ _ _ hy⟩
theorem TRV.cell {P : Program} {e : TypeId} {V : World → Value → α → Prop} (h : TRV P e V) : TRR P e 1 (fun w b o y => ∃ v, w.cell? ⟨b, o, none⟩ = some v ∧ V w v y) := by
 intro H enc w base spare held fuel b o cs x hl hc hx
 match cs, hl with
 | [v], _ =>
   obtain ⟨y, hy⟩ := h H enc w base spare held fuel v x hx
   exact ⟨y, v, by simpa using hc 0 (by simp), hy⟩
theorem TRR.mono {P : Program} {e : TypeId} {size : Nat} {R R' : World → Nat → Nat → α → Prop} (h : TRR P e size R) (hr : ∀ w b o y, R w b o y → R' w b o y) : TRR P e size R' :=
 fun H enc w base spare held fuel b o cs x hl hc hx => let ⟨y, hy⟩ := h H enc w base spare held fuel b o cs x hl hc hx; ⟨y, hr _ _ _ _ hy⟩
end

theorem SlR.mono {α : Type} {size : Nat} {R R' : World → Nat → Nat → α → Prop} {w : World} {v : Value} {xs : List α} (h : SlR size R w v xs) (hr : ∀ b o y, R w b o y → R' w b o y) : SlR size R' w v xs := by
 obtain ⟨A, c, hv, hl, hm, hc⟩ := h
 refine ⟨A, c, hv, hl, hm, fun h0 => ?_⟩
 obtain ⟨b, off, hA, hj⟩ := hc h0
 exact ⟨b, off, hA, fun j x hx => hr _ _ _ (hj j x hx)⟩
end Go.Proofs.YtnihdkfmmbpilaaDoor
namespace Go.Proofs.YtnihdkfmmbpilaaDoor
open Go.RowKit
set_option linter.unusedVariables false

structure Asg where
 v : Int
 val : Int
structure Ev where
 kind : Int
 peer : Int
 msg : Int
 time : Int
 asg : List Asg
structure Vr where
 name : ByteArray
 init : Int
structure Pr where
 name : ByteArray
 vars : List Vr
 evs : List Ev
abbrev Tr := List Pr

def RAsg (w : World) (b o : Nat) (x : Asg) : Prop := w.cell? ⟨b, o, none⟩ = some (.int .i64 x.v) ∧ w.cell? ⟨b, o + 1, none⟩ = some (.int .i64 x.val)
def RVr (w : World) (b o : Nat) (x : Vr) : Prop := w.cell? ⟨b, o, none⟩ = some (.string x.name) ∧ w.cell? ⟨b, o + 1, none⟩ = some (.int .i64 x.init) ∧ x.name.size ≤ maxLen
def REv (w : World) (b o : Nat) (x : Ev) : Prop :=
 w.cell? ⟨b, o, none⟩ = some (.int .i64 x.kind) ∧ w.cell? ⟨b, o + 1, none⟩ = some (.int .i64 x.peer) ∧ w.cell? ⟨b, o + 2, none⟩ = some (.int .i64 x.msg) ∧ w.cell? ⟨b, o + 3, none⟩ = some (.int .i64 x.time) ∧
  ∃ v, w.cell? ⟨b, o + 4, none⟩ = some v ∧ SlR 2 RAsg w v x.asg
def RPr (w : World) (b o : Nat) (x : Pr) : Prop :=
 (w.cell? ⟨b, o, none⟩ = some (.string x.name) ∧ x.name.size ≤ maxLen) ∧ (∃ v, w.cell? ⟨b, o + 1, none⟩ = some v ∧ SlR 2 RVr w v x.vars) ∧ ∃ v, w.cell? ⟨b, o + 2, none⟩ = some v ∧ SlR 5 REv w v x.evs
def VTr (w : World) (v : Value) (t : Tr) : Prop := ∃ u, v = .agg #[u] ∧ SlR 3 RPr w u t
theorem RAsg.keeps : Keeps RAsg := fun _ _ _ _ _ he ⟨h1, h2⟩ => ⟨he.cellAt h1, he.cellAt h2⟩
theorem RVr.keeps : Keeps RVr := fun _ _ _ _ _ he ⟨h1, h2, h3⟩ => ⟨he.cellAt h1, he.cellAt h2, h3⟩
theorem REv.keeps : Keeps REv := fun _ _ _ _ _ he ⟨h1, h2, h3, h4, v, h5, h6⟩ => ⟨he.cellAt h1, he.cellAt h2, he.cellAt h3, he.cellAt h4, v, he.cellAt h5, h6.ext RAsg.keeps he⟩
theorem RPr.keeps : Keeps RPr := fun _ _ _ _ _ he ⟨⟨h1, h2⟩, ⟨v, h3, h4⟩, u, h5, h6⟩ => ⟨⟨he.cellAt h1, h2⟩, ⟨v, he.cellAt h3, h4.ext RVr.keeps he⟩, u, he.cellAt h5, h6.ext REv.keeps he⟩
theorem VTr.ext {w w' : World} {v : Value} {t : Tr} (h : VTr w v t) (he : Ext w w') : VTr w' v t := by
 obtain ⟨u, hv, hs⟩ := h
 exact ⟨u, hv, hs.ext RPr.keeps he⟩

theorem SlR.at_ {α : Type} {size : Nat} {R : World → Nat → Nat → α → Prop} {w : World} {v : Value} {xs : List α} (h : SlR size R w v xs) : ∃ A c, v = .slice A xs.length c ∧ xs.length ≤ c ∧ c ≤ maxLen ∧ (0 < xs.length → ∃ b off, A = some ⟨b, off, none⟩ ∧ ∀ (k : Nat) (hk : k < xs.length), R w b (off + k * size) xs[k]) := by
 obtain ⟨A, c, hv, hl, hm, hc⟩ := h
 refine ⟨A, c, hv, hl, hm, fun h0 => ?_⟩
 obtain ⟨b, off, hA, hj⟩ := hc h0
 exact ⟨b, off, hA, fun k hk => hj k _ (List.getElem?_eq_getElem hk)⟩
end Go.Proofs.YtnihdkfmmbpilaaDoor
namespace Go.Proofs.YtnihdkfmmbpilaaDoor
set_option linter.unusedVariables false

def letterB (c : UInt8) : Bool := (decide ((97 : Int) ≤ (c.toNat : Int)) && decide ((c.toNat : Int) ≤ 122)) || (decide ((65 : Int) ≤ (c.toNat : Int)) && decide ((c.toNat : Int) ≤ 90))
def digitB (c : UInt8) : Bool := decide ((48 : Int) ≤ (c.toNat : Int)) && decide ((c.toNat : Int) ≤ 57)
def charB (c : UInt8) : Bool := letterB c || digitB c || (c.toNat : Int) == 95
def nameL (l : List UInt8) : Bool := decide (1 ≤ l.length) && decide (l.length ≤ 16) && letterB (l.getD 0 0) && l.all charB
def nameB (s : ByteArray) : Bool := nameL s.data.toList
def valB (n : Int) : Bool := decide (-1073741824 ≤ n) && decide (n ≤ 1073741824)
def inB (x lo hi : Int) : Bool := decide (lo ≤ x) && decide (x ≤ hi)

def firstNZ (f : Nat → Nat) : Nat → Nat
 | 0 => 0
 | n + 1 => if firstNZ f n = 0 then f n else firstNZ f n
theorem firstNZ_hit {f : Nat → Nat} {k : Nat} (h0 : firstNZ f k = 0) (hk : f k ≠ 0) : ∀ {n : Nat}, k < n → firstNZ f n = f k
 | 0, h => absurd h (Nat.not_lt_zero _)
 | n + 1, h => by
   rcases Nat.lt_succ_iff_lt_or_eq.1 h with h1 | rfl
   ·have := firstNZ_hit h0 hk h1
    rw [firstNZ, if_neg (by rw [this]; exact hk), this]
   ·rw [firstNZ, if_pos h0]
theorem firstNZ_step {f : Nat → Nat} {k : Nat} (h0 : firstNZ f k = 0) (hk : f k = 0) : firstNZ f (k + 1) = 0 := by rw [firstNZ, if_pos h0]; exact hk

def dfVr : Vr := ⟨ByteArray.empty, 0⟩
def dfAsg : Asg := ⟨0, 0⟩
def dfEv : Ev := ⟨0, 0, 0, 0, []⟩
def dfPr : Pr := ⟨ByteArray.empty, [], []⟩

def varF (vs : List Vr) (i : Nat) : Nat :=
 if !nameB (vs.getD i dfVr).name || (vs.take i).any (fun y => y.name.toList == (vs.getD i dfVr).name.toList) then 13
 else if !valB (vs.getD i dfVr).init then 2 else 0
def headF (t : Tr) (p : Nat) : Nat :=
 if !nameB (t.getD p dfPr).name || (t.take p).any (fun y => y.name.toList == (t.getD p dfPr).name.toList) then 13
 else if 8 < (t.getD p dfPr).vars.length then 5
 else if firstNZ (varF (t.getD p dfPr).vars) (t.getD p dfPr).vars.length ≠ 0 then firstNZ (varF (t.getD p dfPr).vars) (t.getD p dfPr).vars.length
 else if 64 < (t.getD p dfPr).evs.length then 5 else 0

def asgF (nv : Nat) (l : List Asg) (k : Nat) : Nat :=
 if !(inB (l.getD k dfAsg).v 0 ((nv : Int) - 1)) || !valB (l.getD k dfAsg).val then 2
 else if (l.take k).any (fun b => b.v == (l.getD k dfAsg).v) then 8 else 0
def formedB (np p : Nat) (e : Ev) : Bool :=
 if e.kind == 1 then e.peer == 0 && e.msg == 0
 else if e.kind == 2 || e.kind == 3 then inB e.peer 0 ((np : Int) - 1) && e.peer != (p : Int) && inB e.msg 0 199 else false
def evsOf (t : Tr) (p : Nat) : List Ev := (t.getD p dfPr).evs
def evAt (t : Tr) (x : Nat × Nat) : Ev := (evsOf t x.1).getD (x.2 - 1) dfEv
def lastT (t : Tr) (x : Nat × Nat) : Int := if 1 < x.2 then ((evsOf t x.1).getD (x.2 - 2) dfEv).time else 0
def formF (t : Tr) (x : Nat × Nat) : Nat :=
 if !formedB t.length x.1 (evAt t x) then 3
 else if !(inB (evAt t x).time 0 1099511627776) || decide ((evAt t x).time < lastT t x) then 11
 else if 8 < (evAt t x).asg.length then 5
 else firstNZ (asgF (t.getD x.1 dfPr).vars.length (evAt t x).asg) (evAt t x).asg.length

def idsOf (t : Tr) (p : Nat) : List (Nat × Nat) := (List.range (evsOf t p).length).map fun i => (p, i + 1)
def ids (t : Tr) : List (Nat × Nat) := (List.range t.length).flatMap (idsOf t)

def findL (t : Tr) (kind msg : Int) : Option (Nat × Nat) := (ids t).find? fun x => (evAt t x).kind == kind && (evAt t x).msg == msg
def sendsB (t : Tr) (p : Nat) (m : Int) (to : Int) : Bool := (evsOf t p).any fun e => e.kind == 2 && e.msg == m && e.peer == to
def pairF (t : Tr) (x : Nat × Nat) : Nat :=
 if (evAt t x).kind == 2 then (if findL t 2 (evAt t x).msg == some x then 0 else 8)
 else if (evAt t x).kind == 3 then
  (if findL t 3 (evAt t x).msg == some x then (if sendsB t (evAt t x).peer.toNat (evAt t x).msg x.1 then 0 else 7) else 8)
 else 0

def Dir (t : Tr) (x y : Nat × Nat) : Prop :=
 (y = (x.1, x.2 + 1) ∧ x.2 < (evsOf t x.1).length) ∨ ((evAt t x).kind = 2 ∧ findL t 3 (evAt t x).msg = some y)
inductive Hb (t : Tr) : Nat × Nat → Nat × Nat → Prop
 | one {x y : Nat × Nat} : Dir t x y → Hb t x y
 | more {x y z : Nat × Nat} : Hb t x y → Dir t y z → Hb t x z

open Classical in
noncomputable def faultL (t : Tr) : (Nat × Nat) × Nat :=
 if t.length < 1 ∨ 8 < t.length then ((0, 0), 1)
 else match (List.range t.length).find? (fun p => headF t p != 0) with
  | some p => ((p, 0), headF t p)
  | none => match (ids t).find? (fun x => formF t x != 0) with
    | some x => (x, formF t x)
    | none => match (ids t).find? (fun x => pairF t x != 0) with
      | some x => (x, pairF t x)
      | none => match (ids t).find? (fun x => decide (Hb t x x)) with
        | some x => (x, 10)
        | none => ((0, 0), 0)
noncomputable def validL (t : Tr) : Bool := (faultL t).2 == 0
end Go.Proofs.YtnihdkfmmbpilaaDoor
namespace Go.Proofs.YtnihdkfmmbpilaaDoor
open Go.RowKit
set_option linter.unusedVariables false

theorem in_any (x lo hi : Int) (w : World) : Calls Tryd.prog 128 #[.int .i64 x, .int .i64 lo, .int .i64 hi] w fun e w' => e = .returned (.bool (inB x lo hi)) ∧ w = w' := by
 have hc : ((decide (lo ≤ x)) = false) ∨ ((decide (lo ≤ x)) = true ∧ (decide (x ≤ hi)) = false) ∨ ((decide (lo ≤ x)) = true ∧ (decide (x ≤ hi)) = true) := by
  cases hc0 : (decide (lo ≤ x)) <;> cases hc1 : (decide (x ≤ hi)) <;> simp
 rcases hc with hc1 | ⟨hc1, hc2⟩ | ⟨hc1, hc2⟩
 all_goals
  go_enter Tryd.func128, Tryd.ntmps128
  go_wp2
  all_goals
   go_ret
   exact ⟨by simp [inB, *], rfl⟩

theorem letter_any (c : UInt8) (w : World) : Calls Tryd.prog 150 #[byt c] w fun e w' => e = .returned (.bool (letterB c)) ∧ w = w' := by
 unfold byt
 have hc : ((decide ((97 : Int) ≤ (c.toNat : Int))) = true ∧ (decide ((c.toNat : Int) ≤ 122)) = true) ∨ ((decide ((97 : Int) ≤ (c.toNat : Int))) = false ∧ (decide ((65 : Int) ≤ (c.toNat : Int))) = true ∧ (decide ((c.toNat : Int) ≤ 90)) = true) ∨ ((decide ((97 : Int) ≤ (c.toNat : Int))) = true ∧ (decide ((c.toNat : Int) ≤ 122)) = false ∧ (decide ((65 : Int) ≤ (c.toNat : Int))) = true ∧ (decide ((c.toNat : Int) ≤ 90)) = true) ∨ ((decide ((97 : Int) ≤ (c.toNat : Int))) = false ∧ (decide ((65 : Int) ≤ (c.toNat : Int))) = false) ∨ ((decide ((97 : Int) ≤ (c.toNat : Int))) = false ∧ (decide ((65 : Int) ≤ (c.toNat : Int))) = true ∧ (decide ((c.toNat : Int) ≤ 90)) = false) ∨ ((decide ((97 : Int) ≤ (c.toNat : Int))) = true ∧ (decide ((c.toNat : Int) ≤ 122)) = false ∧ (decide ((65 : Int) ≤ (c.toNat : Int))) = false) ∨ ((decide ((97 : Int) ≤ (c.toNat : Int))) = true ∧ (decide ((c.toNat : Int) ≤ 122)) = false ∧ (decide ((65 : Int) ≤ (c.toNat : Int))) = true ∧ (decide ((c.toNat : Int) ≤ 90)) = false) := by
  cases hc0 : (decide ((97 : Int) ≤ (c.toNat : Int))) <;> cases hc1 : (decide ((c.toNat : Int) ≤ 122)) <;> cases hc2 : (decide ((65 : Int) ≤ (c.toNat : Int))) <;> cases hc3 : (decide ((c.toNat : Int) ≤ 90)) <;> simp
 rcases hc with ⟨hc1, hc2⟩ | ⟨hc1, hc2, hc3⟩ | ⟨hc1, hc2, hc3, hc4⟩ | ⟨hc1, hc2⟩ | ⟨hc1, hc2, hc3⟩ | ⟨hc1, hc2, hc3⟩ | ⟨hc1, hc2, hc3, hc4⟩
 all_goals
  go_enter Tryd.func150, Tryd.ntmps150
  go_wp2
  all_goals
   go_ret
   exact ⟨by simp [letterB, *], rfl⟩

theorem digit_any (c : UInt8) (w : World) : Calls Tryd.prog 151 #[byt c] w fun e w' => e = .returned (.bool (digitB c)) ∧ w = w' := by
 unfold byt
 have hc : ((decide ((48 : Int) ≤ (c.toNat : Int))) = false) ∨ ((decide ((48 : Int) ≤ (c.toNat : Int))) = true ∧ (decide ((c.toNat : Int) ≤ 57)) = false) ∨ ((decide ((48 : Int) ≤ (c.toNat : Int))) = true ∧ (decide ((c.toNat : Int) ≤ 57)) = true) := by
  cases hc0 : (decide ((48 : Int) ≤ (c.toNat : Int))) <;> cases hc1 : (decide ((c.toNat : Int) ≤ 57)) <;> simp
 rcases hc with hc1 | ⟨hc1, hc2⟩ | ⟨hc1, hc2⟩
 all_goals
  go_enter Tryd.func151, Tryd.ntmps151
  go_wp2
  all_goals
   go_ret
   exact ⟨by simp [digitB, *], rfl⟩

theorem rletter_any (c : UInt8) (w : World) : Calls Tryd.prog 137 #[byt c] w fun e w' => e = .returned (.bool (letterB c)) ∧ w = w' := by
 unfold byt
 have hc : ((decide ((65 : Int) ≤ (c.toNat : Int))) = true ∧ (decide ((c.toNat : Int) ≤ 90)) = true) ∨ ((decide ((65 : Int) ≤ (c.toNat : Int))) = false ∧ (decide ((97 : Int) ≤ (c.toNat : Int))) = true ∧ (decide ((c.toNat : Int) ≤ 122)) = true) ∨ ((decide ((65 : Int) ≤ (c.toNat : Int))) = true ∧ (decide ((c.toNat : Int) ≤ 90)) = false ∧ (decide ((97 : Int) ≤ (c.toNat : Int))) = true ∧ (decide ((c.toNat : Int) ≤ 122)) = true) ∨ ((decide ((65 : Int) ≤ (c.toNat : Int))) = false ∧ (decide ((97 : Int) ≤ (c.toNat : Int))) = false) ∨ ((decide ((65 : Int) ≤ (c.toNat : Int))) = false ∧ (decide ((97 : Int) ≤ (c.toNat : Int))) = true ∧ (decide ((c.toNat : Int) ≤ 122)) = false) ∨ ((decide ((65 : Int) ≤ (c.toNat : Int))) = true ∧ (decide ((c.toNat : Int) ≤ 90)) = false ∧ (decide ((97 : Int) ≤ (c.toNat : Int))) = false) ∨ ((decide ((65 : Int) ≤ (c.toNat : Int))) = true ∧ (decide ((c.toNat : Int) ≤ 90)) = false ∧ (decide ((97 : Int) ≤ (c.toNat : Int))) = true ∧ (decide ((c.toNat : Int) ≤ 122)) = false) := by
  cases hc0 : (decide ((65 : Int) ≤ (c.toNat : Int))) <;> cases hc1 : (decide ((c.toNat : Int) ≤ 90)) <;> cases hc2 : (decide ((97 : Int) ≤ (c.toNat : Int))) <;> cases hc3 : (decide ((c.toNat : Int) ≤ 122)) <;> simp
 rcases hc with ⟨hc1, hc2⟩ | ⟨hc1, hc2, hc3⟩ | ⟨hc1, hc2, hc3, hc4⟩ | ⟨hc1, hc2⟩ | ⟨hc1, hc2, hc3⟩ | ⟨hc1, hc2, hc3⟩ | ⟨hc1, hc2, hc3, hc4⟩
 all_goals
  go_enter Tryd.func137, Tryd.ntmps137
  go_wp2
  all_goals
   go_ret
   exact ⟨by simp [letterB, *], rfl⟩

theorem rdigit_any (c : UInt8) (w : World) : Calls Tryd.prog 138 #[byt c] w fun e w' => e = .returned (.bool (digitB c)) ∧ w = w' := by
 unfold byt
 have hc : ((decide ((48 : Int) ≤ (c.toNat : Int))) = false) ∨ ((decide ((48 : Int) ≤ (c.toNat : Int))) = true ∧ (decide ((c.toNat : Int) ≤ 57)) = false) ∨ ((decide ((48 : Int) ≤ (c.toNat : Int))) = true ∧ (decide ((c.toNat : Int) ≤ 57)) = true) := by
  cases hc0 : (decide ((48 : Int) ≤ (c.toNat : Int))) <;> cases hc1 : (decide ((c.toNat : Int) ≤ 57)) <;> simp
 rcases hc with hc1 | ⟨hc1, hc2⟩ | ⟨hc1, hc2⟩
 all_goals
  go_enter Tryd.func138, Tryd.ntmps138
  go_wp2
  all_goals
   go_ret
   exact ⟨by simp [digitB, *], rfl⟩

theorem value_any (x : Int) (w : World) : Calls Tryd.prog 123 #[.int .i64 x] w fun e w' => e = .returned (.bool (valB x)) ∧ w = w' := by
 have hc : ((decide (-1073741824 ≤ x)) = false) ∨ ((decide (-1073741824 ≤ x)) = true ∧ (decide (x ≤ 1073741824)) = false) ∨ ((decide (-1073741824 ≤ x)) = true ∧ (decide (x ≤ 1073741824)) = true) := by
  cases hc0 : (decide (-1073741824 ≤ x)) <;> cases hc1 : (decide (x ≤ 1073741824)) <;> simp
 rcases hc with hc1 | ⟨hc1, hc2⟩ | ⟨hc1, hc2⟩
 all_goals
  go_enter Tryd.func123, Tryd.ntmps123
  go_wp2
  all_goals
   go_ret
   exact ⟨by simp [valB, *], rfl⟩
end Go.Proofs.YtnihdkfmmbpilaaDoor
namespace Go.Proofs.YtnihdkfmmbpilaaDoor
open Go.RowKit
set_option linter.unusedVariables false

theorem str_getD (s : ByteArray) (k : Nat) (h : k < s.size) : s.data.toList.getD k 0 = s[k] := by
 simp [List.getD, List.getElem?_eq_getElem (show k < s.data.toList.length from h)]; rfl
theorem str_take (s : ByteArray) (k : Nat) (h : k < s.size) : s.data.toList.take (k + 1) = s.data.toList.take k ++ [s[k]] := by
 rw [List.take_succ_eq_append_getElem (by simpa using h)]; rfl
theorem str_mem (s : ByteArray) (k : Nat) (h : k < s.size) : s[k] ∈ s.data.toList := by
 have : s[k] = s.data.toList[k]'(by simpa using h) := rfl
 rw [this]; exact List.getElem_mem _
theorem str_empty (s : ByteArray) : s.toList.isEmpty = decide (s.size = 0) := by
 rw [ByteArray.toList_eq]
 cases h : s.data.toList with
 | nil => have h2 : s.data.toList.length = 0 := by rw [h]; rfl
          have : s.size = 0 := by simpa using h2
          simp [this]
 | cons a l => have h2 : s.data.toList.length = l.length + 1 := by rw [h]; rfl
               have : s.size = l.length + 1 := by simpa using h2
               simp [this]
theorem nameB_len {s : ByteArray} (h : ¬ (1 ≤ s.size ∧ s.size ≤ 16)) : nameB s = false := by
 unfold nameB nameL
 have e : s.data.toList.length = s.size := rfl
 rw [e]
 rcases Nat.lt_or_ge s.size 1 with h1 | h1
 ·rw [decide_eq_false oM]; simp
 ·rw [decide_eq_true h1, decide_eq_false oM]; simp
theorem nameB_head {s : ByteArray} (h0 : 0 < s.size) (h : letterB s[0] = false) : nameB s = false := by
 unfold nameB nameL; rw [str_getD s 0 h0, h]; simp
theorem nameB_char {s : ByteArray} {k : Nat} (hk : k < s.size) (h : charB s[k] = false) : nameB s = false := by
 unfold nameB nameL
 have : s.data.toList.all charB = false := by
  rw [List.all_eq_false]
  exact ⟨_, str_mem s k hk, by rw [h]; simp⟩
 rw [this]; simp
theorem nameB_all {s : ByteArray} (h0 : 0 < s.size) (h1 : s.size ≤ 16) (hl : letterB s[0] = true) (h : (s.data.toList.take s.size).all charB = true) : nameB s = true := by
 unfold nameB nameL
 have e : s.data.toList.length = s.size := rfl
 rw [List.take_of_length_le (Nat.le_of_eq e)] at h
 rw [e, str_getD s 0 h0, hl, h, decide_eq_true oM, decide_eq_true h1]; rfl
theorem all_step {s : ByteArray} {k : Nat} (hk : k < s.size) (h : (s.data.toList.take k).all charB = true) (hc : charB s[k] = true) : (s.data.toList.take (k + 1)).all charB = true := by
 rw [str_take s k hk, List.all_append, h]; simp [hc]
theorem char_letter {c : UInt8} (h : letterB c = true) : charB c = true := by simp [charB, h]

set_option maxHeartbeats 1000000 in
theorem isName_any (s : ByteArray) (w : World) (hm : s.size ≤ maxLen) : Calls Tryd.prog 140 #[.string s] w fun e w' => e = .returned (.bool (nameB s)) ∧ w = w' := by
 unfold maxLen at hm
 have he := str_empty s
 by_cases h0 : 0 < s.size
 ·have he0 : s.toList.isEmpty = false := by rw [he, decide_eq_false oM]
  have hlt1 : decide ((s.size : Int) < 1) = false := by simp; omega
  clear he
  by_cases h16 : s.size ≤ 16
  ·have hd : decide ((16 : Int) < (s.size : Int)) = false := by simp; omega
   have HL := hide (fun w => letter_any s[0] w)
   cases hl : letterB s[0]
   ·rw [hl] at HL
    have E := hide (nameB_head h0 hl)
    clear hl
    go_enter Tryd.func140, Tryd.ntmps140
    go_wp2_with fail
    refine (HL.out _).mono ?_
    rintro e w1 ⟨rfl, rfl⟩
    go_wp2_with fail
    go_ret
    exact ⟨by rw [E.out]; rfl, rfl⟩
   ·rw [hl] at HL
    have HL0 := hide hl
    go_enter Tryd.func140, Tryd.ntmps140
    go_wp2_with fail
    refine (HL.out _).mono ?_
    rintro e w1 ⟨rfl, rfl⟩
    clear hl
    go_wp2_with fail
    go_loop [19] (Rel1 fun (k : Nat) i => k ≤ s.size ∧ i = .int .i64 k ∧ (s.data.toList.take k).all charB = true) (fun i => s.size - (intOf i).toNat)
    case atStart => exact Rel1.mk 0 ⟨Nat.zero_le _, rfl, rfl⟩
    case round =>
     obtain ⟨k, hk, rfl, hall⟩ := hrel
     have HALL := hide hall
     clear hall
     by_cases hlt : k < s.size
     ·have H1 := hide (fun w => letter_any s[k] w)
      have H2 := hide (fun w => digit_any s[k] w)
      have hc : (Hx (letterB s[k] = true) ∧ Hx (charB s[k] = true)) ∨ (Hx (letterB s[k] = false) ∧ Hx (digitB s[k] = true) ∧ Hx (charB s[k] = true)) ∨ (Hx (letterB s[k] = false) ∧ Hx (digitB s[k] = false) ∧ (((s[k].toNat : Int) != 95)) = false ∧ Hx (charB s[k] = true)) ∨ (Hx (letterB s[k] = false) ∧ Hx (digitB s[k] = false) ∧ (((s[k].toNat : Int) != 95)) = true ∧ Hx (charB s[k] = false)) := by
       unfold Hx charB
       cases letterB s[k] <;> cases digitB s[k] <;> cases hz : ((s[k].toNat : Int) != 95) <;> simp_all
      rcases hc with ⟨q0, qr⟩ | ⟨q0, q1, qr⟩ | ⟨q0, q1, q2, qr⟩ | ⟨q0, q1, q2, qr⟩
      ·go_wp2_with fail
       refine (H1.out _).mono ?_
       rintro e w1 ⟨rfl, rfl⟩
       rw [q0.out]
       go_wp2_with fail
       go_round
       case rel => exact Rel1.mk (k + 1) ⟨hlt, by go_num, all_step hlt HALL.out qr.out⟩
       case measure => simp [intOf]; omega
      ·go_wp2_with fail
       refine (H1.out _).mono ?_
       rintro e w1 ⟨rfl, rfl⟩
       rw [q0.out]
       go_wp2_with fail
       refine (H2.out _).mono ?_
       rintro e w1 ⟨rfl, rfl⟩
       rw [q1.out]
       go_wp2_with fail
       go_round
       case rel => exact Rel1.mk (k + 1) ⟨hlt, by go_num, all_step hlt HALL.out qr.out⟩
       case measure => simp [intOf]; omega
      ·go_wp2_with fail
       refine (H1.out _).mono ?_
       rintro e w1 ⟨rfl, rfl⟩
       rw [q0.out]
       go_wp2_with fail
       refine (H2.out _).mono ?_
       rintro e w1 ⟨rfl, rfl⟩
       rw [q1.out]
       go_wp2_with fail
       go_round
       case rel => exact Rel1.mk (k + 1) ⟨hlt, by go_num, all_step hlt HALL.out qr.out⟩
       case measure => simp [intOf]; omega
      ·go_wp2_with fail
       refine (H1.out _).mono ?_
       rintro e w1 ⟨rfl, rfl⟩
       rw [q0.out]
       go_wp2_with fail
       refine (H2.out _).mono ?_
       rintro e w1 ⟨rfl, rfl⟩
       rw [q1.out]
       go_wp2_with fail
       go_ret
       exact ⟨by rw [nameB_char hlt qr.out]; rfl, rfl⟩
     ·obtain rfl : k = s.size := by omega
      have E := hide (nameB_all h0 h16 HL0.out HALL.out)
      go_wp2_with fail
      go_ret
      exact ⟨by rw [E.out]; rfl, rfl⟩
  ·have hd : decide ((16 : Int) < (s.size : Int)) = true := by simp; omega
   have E := hide (nameB_len (s := s) oM)
   go_enter Tryd.func140, Tryd.ntmps140
   go_wp2_with fail
   go_ret
   exact ⟨by rw [E.out]; rfl, rfl⟩
 ·have he0 : s.toList.isEmpty = true := by rw [he, decide_eq_true oM]
  have hlt1 : decide ((s.size : Int) < 1) = true := by simp; omega
  clear he
  have E := hide (nameB_len (s := s) oM)
  go_enter Tryd.func140, Tryd.ntmps140
  go_wp2_with fail
  go_ret
  exact ⟨by rw [E.out]; rfl, rfl⟩

set_option maxHeartbeats 1000000 in
theorem rName_any (s : ByteArray) (w : World) (hm : s.size ≤ maxLen) : Calls Tryd.prog 122 #[.string s] w fun e w' => e = .returned (.bool (nameB s)) ∧ w = w' := by
 unfold maxLen at hm
 have he := str_empty s
 by_cases h0 : 0 < s.size
 ·have he0 : s.toList.isEmpty = false := by rw [he, decide_eq_false oM]
  have hlt1 : decide ((s.size : Int) < 1) = false := by simp; omega
  clear he
  by_cases h16 : s.size ≤ 16
  ·have hd : decide ((16 : Int) < (s.size : Int)) = false := by simp; omega
   have HL := hide (fun w => rletter_any s[0] w)
   cases hl : letterB s[0]
   ·rw [hl] at HL
    have E := hide (nameB_head h0 hl)
    clear hl
    go_enter Tryd.func122, Tryd.ntmps122
    go_wp2_with fail
    refine (HL.out _).mono ?_
    rintro e w1 ⟨rfl, rfl⟩
    go_wp2_with fail
    go_ret
    exact ⟨by rw [E.out]; rfl, rfl⟩
   ·rw [hl] at HL
    have HL0 := hide hl
    go_enter Tryd.func122, Tryd.ntmps122
    go_wp2_with fail
    refine (HL.out _).mono ?_
    rintro e w1 ⟨rfl, rfl⟩
    clear hl
    go_wp2_with fail
    go_loop [3] (Rel1 fun (k : Nat) i => k ≤ s.size ∧ i = .int .i64 k ∧ (s.data.toList.take k).all charB = true) (fun i => s.size - (intOf i).toNat)
    case atStart => exact Rel1.mk 1 ⟨h0, rfl, by rw [show (1 : Nat) = 0 + 1 from rfl]; exact all_step (k := 0) h0 rfl (char_letter HL0.out)⟩
    case round =>
     obtain ⟨k, hk, rfl, hall⟩ := hrel
     have HALL := hide hall
     clear hall
     by_cases hlt : k < s.size
     ·have H1 := hide (fun w => rletter_any s[k] w)
      have H2 := hide (fun w => rdigit_any s[k] w)
      have hc : (Hx (letterB s[k] = true) ∧ Hx (charB s[k] = true)) ∨ (Hx (letterB s[k] = false) ∧ Hx (digitB s[k] = true) ∧ Hx (charB s[k] = true)) ∨ (Hx (letterB s[k] = false) ∧ Hx (digitB s[k] = false) ∧ (((s[k].toNat : Int) != 95)) = false ∧ Hx (charB s[k] = true)) ∨ (Hx (letterB s[k] = false) ∧ Hx (digitB s[k] = false) ∧ (((s[k].toNat : Int) != 95)) = true ∧ Hx (charB s[k] = false)) := by
       unfold Hx charB
       cases letterB s[k] <;> cases digitB s[k] <;> cases hz : ((s[k].toNat : Int) != 95) <;> simp_all
      rcases hc with ⟨q0, qr⟩ | ⟨q0, q1, qr⟩ | ⟨q0, q1, q2, qr⟩ | ⟨q0, q1, q2, qr⟩
      ·go_wp2_with fail
       refine (H1.out _).mono ?_
       rintro e w1 ⟨rfl, rfl⟩
       rw [q0.out]
       go_wp2_with fail
       go_round
       case rel => exact Rel1.mk (k + 1) ⟨hlt, by go_num, all_step hlt HALL.out qr.out⟩
       case measure => simp [intOf]; omega
      ·go_wp2_with fail
       refine (H1.out _).mono ?_
       rintro e w1 ⟨rfl, rfl⟩
       rw [q0.out]
       go_wp2_with fail
       refine (H2.out _).mono ?_
       rintro e w1 ⟨rfl, rfl⟩
       rw [q1.out]
       go_wp2_with fail
       go_round
       case rel => exact Rel1.mk (k + 1) ⟨hlt, by go_num, all_step hlt HALL.out qr.out⟩
       case measure => simp [intOf]; omega
      ·go_wp2_with fail
       refine (H1.out _).mono ?_
       rintro e w1 ⟨rfl, rfl⟩
       rw [q0.out]
       go_wp2_with fail
       refine (H2.out _).mono ?_
       rintro e w1 ⟨rfl, rfl⟩
       rw [q1.out]
       go_wp2_with fail
       go_round
       case rel => exact Rel1.mk (k + 1) ⟨hlt, by go_num, all_step hlt HALL.out qr.out⟩
       case measure => simp [intOf]; omega
      ·go_wp2_with fail
       refine (H1.out _).mono ?_
       rintro e w1 ⟨rfl, rfl⟩
       rw [q0.out]
       go_wp2_with fail
       refine (H2.out _).mono ?_
       rintro e w1 ⟨rfl, rfl⟩
       rw [q1.out]
       go_wp2_with fail
       go_ret
       exact ⟨by rw [nameB_char hlt qr.out]; rfl, rfl⟩
     ·obtain rfl : k = s.size := by omega
      have E := hide (nameB_all h0 h16 HL0.out HALL.out)
      go_wp2_with fail
      go_ret
      exact ⟨by rw [E.out]; rfl, rfl⟩
  ·have hd : decide ((16 : Int) < (s.size : Int)) = true := by simp; omega
   have E := hide (nameB_len (s := s) oM)
   go_enter Tryd.func122, Tryd.ntmps122
   go_wp2_with fail
   go_ret
   exact ⟨by rw [E.out]; rfl, rfl⟩
 ·have he0 : s.toList.isEmpty = true := by rw [he, decide_eq_true oM]
  have hlt1 : decide ((s.size : Int) < 1) = true := by simp; omega
  clear he
  have E := hide (nameB_len (s := s) oM)
  go_enter Tryd.func122, Tryd.ntmps122
  go_wp2_with fail
  go_ret
  exact ⟨by rw [E.out]; rfl, rfl⟩

end Go.Proofs.YtnihdkfmmbpilaaDoor
namespace Go.Proofs.YtnihdkfmmbpilaaDoor
open Go.RowKit
set_option linter.unusedVariables false

def idxF (P : Nat → Bool) : Nat → Int
 | 0 => -1
 | n + 1 => if idxF P n = -1 then (if P n then (n : Int) else -1) else idxF P n
theorem idxF_none {P : Nat → Bool} : ∀ {n : Nat}, (∀ j, j < n → P j = false) → idxF P n = -1
 | 0, _ => rfl
 | n + 1, h => by rw [idxF, if_pos (idxF_none fun j hj => h j (Nat.lt_succ_of_lt hj)), h n (Nat.lt_succ_self n)]; rfl
theorem idxF_hit {P : Nat → Bool} {k : Nat} (h0 : ∀ j, j < k → P j = false) (hk : P k = true) : ∀ {n : Nat}, k < n → idxF P n = k
 | 0, h => absurd h (Nat.not_lt_zero _)
 | n + 1, h => by
   rcases Nat.lt_succ_iff_lt_or_eq.1 h with h1 | rfl
   ·have := idxF_hit h0 hk h1
    rw [idxF, if_neg (by rw [this]; omega), this]
   ·rw [idxF, if_pos (idxF_none h0), hk]; rfl
def anyF (P : Nat → Bool) (n : Nat) : Bool := (List.range n).any P
theorem least (P : Nat → Bool) : ∀ n : Nat, (∀ j, j < n → P j = false) ∨ ∃ k, k < n ∧ P k = true ∧ ∀ j, j < k → P j = false
 | 0 => .inl fun j hj => absurd hj (Nat.not_lt_zero _)
 | n + 1 => by
   rcases least P n with h | ⟨k, hk, hp, h0⟩
   ·cases hn : P n
    ·exact .inl fun j hj => by
      rcases Nat.lt_succ_iff_lt_or_eq.1 hj with h1 | rfl
      ·exact h j h1
      ·exact hn
    ·exact .inr ⟨n, Nat.lt_succ_self n, hn, h⟩
   ·exact .inr ⟨k, Nat.lt_succ_of_lt hk, hp, h0⟩
theorem least_step {P : Nat → Bool} {k : Nat} (h : ∀ j, j < k → P j = false) (hk : P k = false) : ∀ j, j < k + 1 → P j = false := fun j hj => by
 rcases Nat.lt_succ_iff_lt_or_eq.1 hj with h1 | rfl
 ·exact h j h1
 ·exact hk
theorem anyF_none {P : Nat → Bool} {n : Nat} (h : ∀ j, j < n → P j = false) : anyF P n = false := by
 unfold anyF; rw [List.any_eq_false]
 intro j hj
 rw [h j (List.mem_range.1 hj)]; simp
theorem anyF_hit {P : Nat → Bool} {n k : Nat} (hk : k < n) (hp : P k = true) : anyF P n = true := by
 unfold anyF; rw [List.any_eq_true]
 exact ⟨k, List.mem_range.2 hk, hp⟩
theorem anyF_idx (P : Nat → Bool) (n : Nat) : decide (0 ≤ idxF P n) = anyF P n := by
 rcases least P n with h | ⟨k, hk, hp, h0⟩
 ·rw [idxF_none h, anyF_none h]; rfl
 ·rw [idxF_hit h0 hp hk, anyF_hit hk hp]; simp

def IdxRel (P : Nat → Bool) (n : Nat) (w : World) (i : Value) (wr : World) : Prop := ∃ k : Nat, k ≤ n ∧ i = .int .i64 k ∧ (∀ j, j < k → P j = false) ∧ Ext w wr

set_option maxRecDepth 100000 in
set_option maxHeartbeats 1000000 in
theorem indexProc_any (v : Value) (xs : List Pr) (F : Nat) (caps : Array Value) (P : Nat → Bool) (w : World) (hl : xs.length ≤ 1000000) (hs : SlR 3 RPr w v xs)
  (hcf : ∀ (args : Array Value) (w : World), (callFunc F args).run Tryd.prog w = .ok (.enter F args) w)
  (hF : ∀ (k : Nat) (hk : k < xs.length) (v1 v2 : Value) (w' : World), Ext w w' → Calls Tryd.prog F (#[.agg #[.string xs[k].name, v1, v2]] ++ caps) w' fun e w'' => e = .returned (.bool (P k)) ∧ Ext w' w'') :
  Calls Tryd.prog 152 #[v, .func (.func F) #[] caps] w fun e w' => e = .returned (.int .i64 (idxF P xs.length)) ∧ Ext w w' := by
 obtain ⟨A, c, rfl, _, _, hc⟩ := hs.at_
 clear hs
 have HF := hide hF
 clear hF
 go_enter Tryd.func152, Tryd.ntmps152
 go_wp2_with fail
 go_loopw [8] (IdxRel P xs.length w) (fun i _ => xs.length - (intOf i).toNat)
 case atStart => exact ⟨0, Nat.zero_le _, rfl, fun j hj => absurd hj (Nat.not_lt_zero _), Ext.refl _⟩
 case round =>
  obtain ⟨k, hk, rfl, hno, hext⟩ := hrel
  have HN := hide hno
  clear hno
  by_cases hlt : k < xs.length
  ·obtain ⟨b, off, rfl, hel⟩ := hc oM
   obtain ⟨⟨c0, _⟩, ⟨v1, c1, _⟩, v2, c2, _⟩ := RPr.keeps _ _ _ _ _ hext (hel k hlt)
   clear hel hc
   go_wp2_with fail
   refine (HF.out k hlt v1 v2 _ ?_).mono ?_
   ·(repeat (first | exact Ext.refl _ | assumption | apply Ext.alloc | apply Ext.drew | apply Ext.drewN | (refine Ext.trans ?_ aS)))
   rintro e w1 ⟨rfl, he1⟩
   cases hpk : P k
   ·go_wp2_with fail
    go_roundw
    case rel => exact ⟨k + 1, hlt, by go_num, least_step HN.out hpk, hext.trans he1⟩
    case measure => simp [intOf]; omega
   ·go_wp2_with fail
    go_ret
    exact ⟨by rw [idxF_hit HN.out hpk hlt]; rfl, hext.trans he1⟩
  ·have hkn : k = xs.length := by omega
   subst hkn
   go_wp2_with fail
   go_ret
   exact ⟨by rw [idxF_none HN.out]; rfl, hext⟩
set_option maxHeartbeats 1000000 in
theorem containsProc_any (v : Value) (xs : List Pr) (F : Nat) (caps : Array Value) (P : Nat → Bool) (w : World) (hl : xs.length ≤ 1000000) (hs : SlR 3 RPr w v xs)
  (hcf : ∀ (args : Array Value) (w : World), (callFunc F args).run Tryd.prog w = .ok (.enter F args) w)
  (hF : ∀ (k : Nat) (hk : k < xs.length) (v1 v2 : Value) (w' : World), Ext w w' → Calls Tryd.prog F (#[.agg #[.string xs[k].name, v1, v2]] ++ caps) w' fun e w'' => e = .returned (.bool (P k)) ∧ Ext w' w'') :
  Calls Tryd.prog 141 #[v, .func (.func F) #[] caps] w fun e w' => e = .returned (.bool (anyF P xs.length)) ∧ Ext w w' := by
 have HI := hide (indexProc_any v xs F caps P w hl hs hcf hF)
 have HD := hide (anyF_idx P xs.length)
 clear hF hs hcf
 go_enter Tryd.func141, Tryd.ntmps141
 go_wp2_with fail
 refine HI.out.mono ?_
 rintro e w1 ⟨rfl, he⟩
 go_wp2_with fail
 go_ret
 exact ⟨by rw [HD.out]; rfl, he⟩
set_option maxRecDepth 100000 in
set_option maxHeartbeats 1000000 in
theorem indexVar_any (v : Value) (xs : List Vr) (F : Nat) (caps : Array Value) (P : Nat → Bool) (w : World) (hl : xs.length ≤ 1000000) (hs : SlR 2 RVr w v xs)
  (hcf : ∀ (args : Array Value) (w : World), (callFunc F args).run Tryd.prog w = .ok (.enter F args) w)
  (hF : ∀ (k : Nat) (hk : k < xs.length) (w' : World), Ext w w' → Calls Tryd.prog F (#[.agg #[.string xs[k].name, .int .i64 xs[k].init]] ++ caps) w' fun e w'' => e = .returned (.bool (P k)) ∧ Ext w' w'') :
  Calls Tryd.prog 79 #[v, .func (.func F) #[] caps] w fun e w' => e = .returned (.int .i64 (idxF P xs.length)) ∧ Ext w w' := by
 obtain ⟨A, c, rfl, _, _, hc⟩ := hs.at_
 clear hs
 have HF := hide hF
 clear hF
 go_enter Tryd.func79, Tryd.ntmps79
 go_wp2_with fail
 go_loopw [8] (IdxRel P xs.length w) (fun i _ => xs.length - (intOf i).toNat)
 case atStart => exact ⟨0, Nat.zero_le _, rfl, fun j hj => absurd hj (Nat.not_lt_zero _), Ext.refl _⟩
 case round =>
  obtain ⟨k, hk, rfl, hno, hext⟩ := hrel
  have HN := hide hno
  clear hno
  by_cases hlt : k < xs.length
  ·obtain ⟨b, off, rfl, hel⟩ := hc oM
   obtain ⟨c0, c1, _⟩ := RVr.keeps _ _ _ _ _ hext (hel k hlt)
   clear hel hc
   go_wp2_with fail
   refine (HF.out k hlt  _ ?_).mono ?_
   ·(repeat (first | exact Ext.refl _ | assumption | apply Ext.alloc | apply Ext.drew | apply Ext.drewN | (refine Ext.trans ?_ aS)))
   rintro e w1 ⟨rfl, he1⟩
   cases hpk : P k
   ·go_wp2_with fail
    go_roundw
    case rel => exact ⟨k + 1, hlt, by go_num, least_step HN.out hpk, hext.trans he1⟩
    case measure => simp [intOf]; omega
   ·go_wp2_with fail
    go_ret
    exact ⟨by rw [idxF_hit HN.out hpk hlt]; rfl, hext.trans he1⟩
  ·have hkn : k = xs.length := by omega
   subst hkn
   go_wp2_with fail
   go_ret
   exact ⟨by rw [idxF_none HN.out]; rfl, hext⟩
set_option maxHeartbeats 1000000 in
theorem containsVar_any (v : Value) (xs : List Vr) (F : Nat) (caps : Array Value) (P : Nat → Bool) (w : World) (hl : xs.length ≤ 1000000) (hs : SlR 2 RVr w v xs)
  (hcf : ∀ (args : Array Value) (w : World), (callFunc F args).run Tryd.prog w = .ok (.enter F args) w)
  (hF : ∀ (k : Nat) (hk : k < xs.length) (w' : World), Ext w w' → Calls Tryd.prog F (#[.agg #[.string xs[k].name, .int .i64 xs[k].init]] ++ caps) w' fun e w'' => e = .returned (.bool (P k)) ∧ Ext w' w'') :
  Calls Tryd.prog 33 #[v, .func (.func F) #[] caps] w fun e w' => e = .returned (.bool (anyF P xs.length)) ∧ Ext w w' := by
 have HI := hide (indexVar_any v xs F caps P w hl hs hcf hF)
 have HD := hide (anyF_idx P xs.length)
 clear hF hs hcf
 go_enter Tryd.func33, Tryd.ntmps33
 go_wp2_with fail
 refine HI.out.mono ?_
 rintro e w1 ⟨rfl, he⟩
 go_wp2_with fail
 go_ret
 exact ⟨by rw [HD.out]; rfl, he⟩
set_option maxRecDepth 100000 in
set_option maxHeartbeats 1000000 in
theorem indexAssign_any (v : Value) (xs : List Asg) (F : Nat) (caps : Array Value) (P : Nat → Bool) (w : World) (hl : xs.length ≤ 1000000) (hs : SlR 2 RAsg w v xs)
  (hcf : ∀ (args : Array Value) (w : World), (callFunc F args).run Tryd.prog w = .ok (.enter F args) w)
  (hF : ∀ (k : Nat) (hk : k < xs.length) (w' : World), Ext w w' → Calls Tryd.prog F (#[.agg #[.int .i64 xs[k].v, .int .i64 xs[k].val]] ++ caps) w' fun e w'' => e = .returned (.bool (P k)) ∧ Ext w' w'') :
  Calls Tryd.prog 153 #[v, .func (.func F) #[] caps] w fun e w' => e = .returned (.int .i64 (idxF P xs.length)) ∧ Ext w w' := by
 obtain ⟨A, c, rfl, _, _, hc⟩ := hs.at_
 clear hs
 have HF := hide hF
 clear hF
 go_enter Tryd.func153, Tryd.ntmps153
 go_wp2_with fail
 go_loopw [8] (IdxRel P xs.length w) (fun i _ => xs.length - (intOf i).toNat)
 case atStart => exact ⟨0, Nat.zero_le _, rfl, fun j hj => absurd hj (Nat.not_lt_zero _), Ext.refl _⟩
 case round =>
  obtain ⟨k, hk, rfl, hno, hext⟩ := hrel
  have HN := hide hno
  clear hno
  by_cases hlt : k < xs.length
  ·obtain ⟨b, off, rfl, hel⟩ := hc oM
   obtain ⟨c0, c1⟩ := RAsg.keeps _ _ _ _ _ hext (hel k hlt)
   clear hel hc
   go_wp2_with fail
   refine (HF.out k hlt  _ ?_).mono ?_
   ·(repeat (first | exact Ext.refl _ | assumption | apply Ext.alloc | apply Ext.drew | apply Ext.drewN | (refine Ext.trans ?_ aS)))
   rintro e w1 ⟨rfl, he1⟩
   cases hpk : P k
   ·go_wp2_with fail
    go_roundw
    case rel => exact ⟨k + 1, hlt, by go_num, least_step HN.out hpk, hext.trans he1⟩
    case measure => simp [intOf]; omega
   ·go_wp2_with fail
    go_ret
    exact ⟨by rw [idxF_hit HN.out hpk hlt]; rfl, hext.trans he1⟩
  ·have hkn : k = xs.length := by omega
   subst hkn
   go_wp2_with fail
   go_ret
   exact ⟨by rw [idxF_none HN.out]; rfl, hext⟩
set_option maxHeartbeats 1000000 in
theorem containsAssign_any (v : Value) (xs : List Asg) (F : Nat) (caps : Array Value) (P : Nat → Bool) (w : World) (hl : xs.length ≤ 1000000) (hs : SlR 2 RAsg w v xs)
  (hcf : ∀ (args : Array Value) (w : World), (callFunc F args).run Tryd.prog w = .ok (.enter F args) w)
  (hF : ∀ (k : Nat) (hk : k < xs.length) (w' : World), Ext w w' → Calls Tryd.prog F (#[.agg #[.int .i64 xs[k].v, .int .i64 xs[k].val]] ++ caps) w' fun e w'' => e = .returned (.bool (P k)) ∧ Ext w' w'') :
  Calls Tryd.prog 145 #[v, .func (.func F) #[] caps] w fun e w' => e = .returned (.bool (anyF P xs.length)) ∧ Ext w w' := by
 have HI := hide (indexAssign_any v xs F caps P w hl hs hcf hF)
 have HD := hide (anyF_idx P xs.length)
 clear hF hs hcf
 go_enter Tryd.func145, Tryd.ntmps145
 go_wp2_with fail
 refine HI.out.mono ?_
 rintro e w1 ⟨rfl, he⟩
 go_wp2_with fail
 go_ret
 exact ⟨by rw [HD.out]; rfl, he⟩
set_option maxRecDepth 100000 in
set_option maxHeartbeats 1000000 in
theorem indexEvent_any (v : Value) (xs : List Ev) (F : Nat) (caps : Array Value) (P : Nat → Bool) (w : World) (hl : xs.length ≤ 1000000) (hs : SlR 5 REv w v xs)
  (hcf : ∀ (args : Array Value) (w : World), (callFunc F args).run Tryd.prog w = .ok (.enter F args) w)
  (hF : ∀ (k : Nat) (hk : k < xs.length) (v1 : Value) (w' : World), Ext w w' → Calls Tryd.prog F (#[.agg #[.int .i64 xs[k].kind, .int .i64 xs[k].peer, .int .i64 xs[k].msg, .int .i64 xs[k].time, v1]] ++ caps) w' fun e w'' => e = .returned (.bool (P k)) ∧ Ext w' w'') :
  Calls Tryd.prog 78 #[v, .func (.func F) #[] caps] w fun e w' => e = .returned (.int .i64 (idxF P xs.length)) ∧ Ext w w' := by
 obtain ⟨A, c, rfl, _, _, hc⟩ := hs.at_
 clear hs
 have HF := hide hF
 clear hF
 go_enter Tryd.func78, Tryd.ntmps78
 go_wp2_with fail
 go_loopw [8] (IdxRel P xs.length w) (fun i _ => xs.length - (intOf i).toNat)
 case atStart => exact ⟨0, Nat.zero_le _, rfl, fun j hj => absurd hj (Nat.not_lt_zero _), Ext.refl _⟩
 case round =>
  obtain ⟨k, hk, rfl, hno, hext⟩ := hrel
  have HN := hide hno
  clear hno
  by_cases hlt : k < xs.length
  ·obtain ⟨b, off, rfl, hel⟩ := hc oM
   obtain ⟨c0, c1, c2, c3, v1, c4, _⟩ := REv.keeps _ _ _ _ _ hext (hel k hlt)
   clear hel hc
   go_wp2_with fail
   refine (HF.out k hlt v1 _ ?_).mono ?_
   ·(repeat (first | exact Ext.refl _ | assumption | apply Ext.alloc | apply Ext.drew | apply Ext.drewN | (refine Ext.trans ?_ aS)))
   rintro e w1 ⟨rfl, he1⟩
   cases hpk : P k
   ·go_wp2_with fail
    go_roundw
    case rel => exact ⟨k + 1, hlt, by go_num, least_step HN.out hpk, hext.trans he1⟩
    case measure => simp [intOf]; omega
   ·go_wp2_with fail
    go_ret
    exact ⟨by rw [idxF_hit HN.out hpk hlt]; rfl, hext.trans he1⟩
  ·have hkn : k = xs.length := by omega
   subst hkn
   go_wp2_with fail
   go_ret
   exact ⟨by rw [idxF_none HN.out]; rfl, hext⟩
set_option maxHeartbeats 1000000 in
theorem containsEvent_any (v : Value) (xs : List Ev) (F : Nat) (caps : Array Value) (P : Nat → Bool) (w : World) (hl : xs.length ≤ 1000000) (hs : SlR 5 REv w v xs)
  (hcf : ∀ (args : Array Value) (w : World), (callFunc F args).run Tryd.prog w = .ok (.enter F args) w)
  (hF : ∀ (k : Nat) (hk : k < xs.length) (v1 : Value) (w' : World), Ext w w' → Calls Tryd.prog F (#[.agg #[.int .i64 xs[k].kind, .int .i64 xs[k].peer, .int .i64 xs[k].msg, .int .i64 xs[k].time, v1]] ++ caps) w' fun e w'' => e = .returned (.bool (P k)) ∧ Ext w' w'') :
  Calls Tryd.prog 31 #[v, .func (.func F) #[] caps] w fun e w' => e = .returned (.bool (anyF P xs.length)) ∧ Ext w w' := by
 have HI := hide (indexEvent_any v xs F caps P w hl hs hcf hF)
 have HD := hide (anyF_idx P xs.length)
 clear hF hs hcf
 go_enter Tryd.func31, Tryd.ntmps31
 go_wp2_with fail
 refine HI.out.mono ?_
 rintro e w1 ⟨rfl, he⟩
 go_wp2_with fail
 go_ret
 exact ⟨by rw [HD.out]; rfl, he⟩
end Go.Proofs.YtnihdkfmmbpilaaDoor
namespace Go.Proofs.YtnihdkfmmbpilaaDoor
open Go.RowKit
set_option linter.unusedVariables false

theorem callFunc_enter {P : Program} {f : FuncId} {fn : Func} {c : Code} (hf : P.funcs[f]? = some fn) (hname : (fn.name == "runtime.NumGoroutine") = false) (hb : fn.body = some c) (args : Array Value) (w : World) :
  (callFunc f args).run P w = .ok (.enter f args) w := by
 have h1 : fn.name ≠ "runtime.NumGoroutine" := by simpa using hname
 simp [callFunc, hf, h1, hb]
theorem cf_p1 (args : Array Value) (w : World) : (callFunc 142 args).run Tryd.prog w = .ok (.enter 142 args) w :=
 callFunc_enter Tryd.func142 (by decide) rfl args w
theorem cf_p2 (args : Array Value) (w : World) : (callFunc 143 args).run Tryd.prog w = .ok (.enter 143 args) w :=
 callFunc_enter Tryd.func143 (by decide) rfl args w
set_option maxHeartbeats 1000000 in
theorem p1_any (a b : ByteArray) (v1 v2 : Value) (bk : Nat) (w : World) (hx : w.cell? ⟨bk, 0, none⟩ = some (.string b)) :
  Calls Tryd.prog 142 #[.agg #[.string a, v1, v2], .pointer (some ⟨bk, 0, none⟩)] w fun e w' => e = .returned (.bool (a.toList == b.toList)) ∧ Ext w w' := by
 have hlt := lt_of_cell hx
 go_enter Tryd.func142, Tryd.ntmps142
 go_wp2_with fail
 go_ret
 exact ⟨rfl, (Ext.refl w).alloc _⟩
set_option maxHeartbeats 1000000 in
theorem p2_any (a b : ByteArray) (v1 : Value) (bk : Nat) (w : World) (hx : w.cell? ⟨bk, 0, none⟩ = some (.string b)) :
  Calls Tryd.prog 143 #[.agg #[.string a, v1], .pointer (some ⟨bk, 0, none⟩)] w fun e w' => e = .returned (.bool (a.toList == b.toList)) ∧ Ext w w' := by
 have hlt := lt_of_cell hx
 go_enter Tryd.func143, Tryd.ntmps143
 go_wp2_with fail
 go_ret
 exact ⟨rfl, (Ext.refl w).alloc _⟩
theorem take_any {α : Type} (d : α) (f : α → Bool) (l : List α) (p : Nat) (hp : p ≤ l.length) : (l.take p).any f = anyF (fun k => f (l.getD k d)) p := by
 unfold anyF
 rw [Bool.eq_iff_iff, List.any_eq_true, List.any_eq_true]
 constructor
 ·rintro ⟨x, hx, hf⟩
  obtain ⟨k, hk, he⟩ := List.mem_take_iff_getElem.1 hx
  refine ⟨k, List.mem_range.2 oM, ?_⟩
  rw [show l.getD k d = x by rw [List.getD_eq_getElem?_getD, List.getElem?_eq_getElem oM, he]; rfl]
  exact hf
 ·rintro ⟨k, hk, hf⟩
  have hk := List.mem_range.1 hk
  refine ⟨l.getD k d, ?_, hf⟩
  rw [List.mem_take_iff_getElem]
  exact ⟨k, by omega, by rw [List.getD_eq_getElem?_getD, List.getElem?_eq_getElem oM]; rfl⟩

theorem box_at (w : World) (cs : Array Value) (e : TypeId) {g j : Nat} {v : Value} (hg : g = w.heap.size) (h : cs[j]? = some v) : (w.alloc (.cells cs e)).cell? ⟨g, j, none⟩ = some v := by
 have h0 : (w.alloc (.cells cs e)).heap[w.heap.size]? = some (.cells cs e) := heap_alloc_new w _
 subst hg
 unfold World.cell?
 rw [h0]
 exact h
theorem any_anyF {α : Type} (d : α) (f : α → Bool) (l : List α) : l.any f = anyF (fun k => f (l.getD k d)) l.length := by
 have := take_any d f l l.length (Nat.le_refl _)
 rwa [List.take_of_length_le (Nat.le_refl _)] at this
theorem getD_lt {α : Type} (d : α) (l : List α) {k : Nat} (h : k < l.length) : l.getD k d = l[k] := by
 rw [List.getD_eq_getElem?_getD, List.getElem?_eq_getElem h]; rfl
theorem SlR.take {α : Type} {size : Nat} {R : World → Nat → Nat → α → Prop} {w : World} {A : Option Addr} {n c : Nat} {xs : List α} (h : SlR size R w (.slice A n c) xs) (k : Nat) (hk : k ≤ n) : SlR size R w (.slice A k c) (xs.take k) := by
 obtain ⟨A', c', hv, h1, h2, h3⟩ := h
 injection hv with e1 e2 e3
 subst e1; subst e3; subst e2
 have hl : (xs.take k).length = k := by rw [List.length_take]; omega
 refine ⟨A, c, by rw [hl], by omega, h2, fun h0 => ?_⟩
 obtain ⟨b, off, hA, hj⟩ := h3 oM
 exact ⟨b, off, hA, fun j x hx => hj j x (by
  rw [List.getElem?_take] at hx
  split at hx
  ·exact hx
  ·cases hx)⟩
theorem has_name (v : Value) (xs : List Pr) (s : ByteArray) (bk : Nat) (w : World) (hl : xs.length ≤ 1000000) (hs : SlR 3 RPr w v xs) (hx : w.cell? ⟨bk, 0, none⟩ = some (.string s)) :
  Calls Tryd.prog 141 #[v, .func (.func 142) #[] #[.pointer (some ⟨bk, 0, none⟩)]] w fun e w' => e = .returned (.bool (xs.any fun y => y.name.toList == s.toList)) ∧ Ext w w' := by
 rw [any_anyF dfPr]
 refine containsProc_any v xs _ _ _ w hl hs cf_p1 fun k hk v1 v2 w' he => ?_
 simp only [getD_lt dfPr xs hk]
 exact p1_any _ s v1 v2 bk w' (he.cellAt hx)
theorem has_var (v : Value) (xs : List Vr) (s : ByteArray) (bk : Nat) (w : World) (hl : xs.length ≤ 1000000) (hs : SlR 2 RVr w v xs) (hx : w.cell? ⟨bk, 0, none⟩ = some (.string s)) :
  Calls Tryd.prog 33 #[v, .func (.func 143) #[] #[.pointer (some ⟨bk, 0, none⟩)]] w fun e w' => e = .returned (.bool (xs.any fun y => y.name.toList == s.toList)) ∧ Ext w w' := by
 rw [any_anyF dfVr]
 refine containsVar_any v xs _ _ _ w hl hs cf_p2 fun k hk w' he => ?_
 simp only [getD_lt dfVr xs hk]
 exact p2_any _ s _ bk w' (he.cellAt hx)
theorem headF_eq (t : Tr) (p : Nat) (hp : p < t.length) : headF t p = if !nameB t[p].name || (t.take p).any (fun y => y.name.toList == t[p].name.toList) then 13
 else if 8 < t[p].vars.length then 5
 else if firstNZ (varF t[p].vars) t[p].vars.length ≠ 0 then firstNZ (varF t[p].vars) t[p].vars.length
 else if 64 < t[p].evs.length then 5 else 0 := by
 unfold headF; rw [getD_lt dfPr t hp]
theorem varF_eq (vs : List Vr) (i : Nat) (hi : i < vs.length) : varF vs i = if !nameB vs[i].name || (vs.take i).any (fun y => y.name.toList == vs[i].name.toList) then 13
 else if !valB vs[i].init then 2 else 0 := by
 unfold varF; rw [getD_lt dfVr vs hi]
def VarRel (vs : List Vr) (w : World) (i : Value) (wr : World) : Prop := ∃ k : Nat, k ≤ vs.length ∧ i = .int .i64 k ∧ firstNZ (varF vs) k = 0 ∧ Ext w wr

set_option maxRecDepth 100000 in
set_option maxHeartbeats 1000000 in
theorem processFault_any (u : Value) (t : Tr) (p : Nat) (w : World) (hp : p < t.length) (hl : t.length ≤ 1000000) (hv : t[p].vars.length ≤ 1000000) (he : t[p].evs.length ≤ 9223372036854775807) (hs : SlR 3 RPr w u t) :
  Calls Tryd.prog 129 #[.agg #[u], .int .i64 p] w fun e w' => e = .returned (.int .i64 (headF t p)) ∧ Ext w w' := by
 obtain ⟨A, c, rfl, h1, h2, hc⟩ := hs.at_
 obtain ⟨b, off, rfl, hel⟩ := hc oM
 obtain ⟨⟨c0, hm⟩, ⟨v1, c1, hs1⟩, v2, c2, hs2⟩ := hel p hp
 have hb := lt_of_cell c0
 have HS := hide hs
 have HS1 := hide hs1
 have HS2 := hide hs2
 obtain ⟨A1, k1, rfl, _, _, _⟩ := hs1.at_
 obtain ⟨A2, k2, rfl, _, _, _⟩ := hs2.at_
 clear hs hs1 hs2
 have HN := hide (fun w => isName_any t[p].name w hm)
 clear hel hc
 go_enter Tryd.func129, Tryd.ntmps129
 go_wp2_with fail
 refine (HN.out _).mono ?_
 rintro e w1 ⟨rfl, rfl⟩
 cases hn : nameB t[p].name
 ·go_wp2_with fail
  go_ret
  exact ⟨by rw [headF_eq t p hp, hn]; rfl, ((Ext.refl _).alloc _).alloc _⟩
 ·go_wp2_with fail
  refine (has_name _ (t.take p) t[p].name _ _ ?_ ?_ ?_).mono ?_
  ·rw [List.length_take]; omega
  ·exact ((HS.out).take p oM).ext RPr.keeps (((Ext.refl _).alloc _).alloc _)
  ·exact box_at _ _ _ (by simp) rfl
  rintro e w1 ⟨rfl, he1⟩
  cases ha : (t.take p).any fun y => y.name.toList == t[p].name.toList
  ·have d1 : w1.cell? ⟨w.heap.size + 1, 1, none⟩ = _ := he1.cellAt (box_at _ _ _ (by simp) rfl)
   have d2 : w1.cell? ⟨w.heap.size + 1, 2, none⟩ = _ := he1.cellAt (box_at _ _ _ (by simp) rfl)
   have hw1 := (((Ext.refl w).alloc _).alloc _).trans he1
   have HE := hide (headF_eq t p hp)
   by_cases h8 : 8 < t[p].vars.length
   ·go_wp2_with fail
    go_ret
    exact ⟨by rw [HE.out, hn, ha]; simp [h8], hw1⟩
   ·go_wp2_with fail
    go_loopw [34] (VarRel t[p].vars w1) (fun i _ => t[p].vars.length - (intOf i).toNat)
    case atStart => exact ⟨0, Nat.zero_le _, rfl, rfl, Ext.refl _⟩
    case round =>
     obtain ⟨k, hk, rfl, hz, hext⟩ := hrel
     have HZ := hide hz
     clear hz
     have d1' := hext.cellAt d1
     have d2' := hext.cellAt d2
     by_cases hlt : k < t[p].vars.length
     ·have HSk := hide (HS1.out.ext RVr.keeps (hw1.trans hext))
      obtain ⟨A1', k1', ev, g1, g2, g3⟩ := HSk.out.at_
      obtain ⟨b1, off1, rfl, hel⟩ := g3 oM
      injection ev with ev1 ev2 ev3
      subst ev1; subst ev3
      obtain ⟨f0, f1, fm⟩ := hel k hlt
      have hb1 := lt_of_cell f0
      have hb2 := lt_of_cell d1'
      have HV := hide (varF_eq t[p].vars k hlt)
      have HN2 := hide (fun w => isName_any t[p].vars[k].name w fm)
      have HI := hide (fun w => in_any t[p].vars[k].init (-1073741824) 1073741824 w)
      clear hel g3 ev2
      go_wp2_with fail
      refine (HN2.out _).mono ?_
      rintro e w2 ⟨rfl, rfl⟩
      cases hn2 : nameB t[p].vars[k].name
      ·have HF13 := hide (show varF t[p].vars k = 13 by rw [HV.out, hn2]; rfl)
       have HR := hide (firstNZ_hit (n := t[p].vars.length) HZ.out (by rw [HF13.out]; decide) hlt)
       go_wp2_with fail
       go_ret
       exact ⟨by rw [HE.out, hn, ha, HR.out, HF13.out]; simp [h8], (hw1.trans hext).alloc _⟩
      ·go_wp2_with fail
       refine (has_var _ (t[p].vars.take k) t[p].vars[k].name _ _ ?_ ?_ ?_).mono ?_
       ·rw [List.length_take]; omega
       ·exact ((HSk.out).take k oM).ext RVr.keeps ((Ext.refl _).alloc _)
       ·exact box_at _ _ _ rfl rfl
       rintro e w3 ⟨rfl, he3⟩
       have he4 := ((Ext.refl wr).alloc _).trans he3
       cases ha2 : (t[p].vars.take k).any fun y => y.name.toList == t[p].vars[k].name.toList
       ·have d3 : w3.cell? ⟨wr.heap.size, 1, none⟩ = _ := he3.cellAt (box_at _ _ _ rfl rfl)
        go_wp2_with fail
        refine (HI.out _).mono ?_
        rintro e w4 ⟨rfl, rfl⟩
        cases hv2 : inB t[p].vars[k].init (-1073741824) 1073741824
        ·have HF2 := hide (show varF t[p].vars k = 2 by rw [HV.out, hn2, ha2, show valB t[p].vars[k].init = false from hv2]; rfl)
         have HR := hide (firstNZ_hit (n := t[p].vars.length) HZ.out (by rw [HF2.out]; decide) hlt)
         go_wp2_with fail
         go_ret
         exact ⟨by rw [HE.out, hn, ha, HR.out, HF2.out]; simp [h8], (hw1.trans hext).trans he4⟩
        ·have HF0 := hide (show varF t[p].vars k = 0 by rw [HV.out, hn2, ha2, show valB t[p].vars[k].init = true from hv2]; rfl)
         go_wp2_with fail
         go_roundw
         case rel => exact ⟨k + 1, hlt, by go_num, firstNZ_step HZ.out HF0.out, hext.trans he4⟩
         case measure => simp [intOf]; omega
       ·have HF13 := hide (show varF t[p].vars k = 13 by rw [HV.out, hn2, ha2]; rfl)
        have HR := hide (firstNZ_hit (n := t[p].vars.length) HZ.out (by rw [HF13.out]; decide) hlt)
        go_wp2_with fail
        go_ret
        exact ⟨by rw [HE.out, hn, ha, HR.out, HF13.out]; simp [h8], (hw1.trans hext).trans he4⟩
     ·have hkn : k = t[p].vars.length := by omega
      subst hkn
      by_cases h64 : 64 < t[p].evs.length
      ·go_wp2_with fail
       go_ret
       exact ⟨by rw [HE.out, hn, ha]; simp [h8, h64, HZ.out], hw1.trans hext⟩
      ·go_wp2_with fail
       go_ret
       exact ⟨by rw [HE.out, hn, ha]; simp [h8, h64, HZ.out], hw1.trans hext⟩
  ·go_wp2_with fail
   go_ret
   exact ⟨by rw [headF_eq t p hp, hn, ha]; rfl, (((Ext.refl _).alloc _).alloc _).trans he1⟩
end Go.Proofs.YtnihdkfmmbpilaaDoor
namespace Go.Proofs.YtnihdkfmmbpilaaDoor
open Go.RowKit
set_option linter.unusedVariables false

theorem cf_s1 (args : Array Value) (w : World) : (callFunc 154 args).run Tryd.prog w = .ok (.enter 154 args) w :=
 callFunc_enter Tryd.func154 (by decide) rfl args w
theorem cf_e1 (args : Array Value) (w : World) : (callFunc 146 args).run Tryd.prog w = .ok (.enter 146 args) w :=
 callFunc_enter Tryd.func146 (by decide) rfl args w
set_option maxHeartbeats 1000000 in
theorem e1_any (a x d : Int) (bk : Nat) (w : World) (hx : w.cell? ⟨bk, 0, none⟩ = some (.int .i64 d)) :
  Calls Tryd.prog 146 #[.agg #[.int .i64 a, .int .i64 x], .pointer (some ⟨bk, 0, none⟩)] w fun e w' => e = .returned (.bool (a == d)) ∧ Ext w w' := by
 have hlt := lt_of_cell hx
 go_enter Tryd.func146, Tryd.ntmps146
 go_wp2_with fail
 go_ret
 exact ⟨rfl, (Ext.refl w).alloc _⟩
set_option maxHeartbeats 1000000 in
theorem formed_any (u a : Value) (t : Tr) (p : Nat) (e : Ev) (w : World) (hl : t.length ≤ 1000000) (hs : SlR 3 RPr w u t) :
  Calls Tryd.prog 144 #[.agg #[u], .int .i64 p, .agg #[.int .i64 e.kind, .int .i64 e.peer, .int .i64 e.msg, .int .i64 e.time, a]] w fun x w' => x = .returned (.bool (formedB t.length p e)) ∧ Ext w w' := by
 obtain ⟨A, c, rfl, h1, h2, hc⟩ := hs.at_
 clear hc hs
 have HP := hide (fun w => in_any e.peer 0 ((t.length : Int) - 1) w)
 have HM := hide (fun w => in_any e.msg 0 199 w)
 have hE : ∀ o1 o2, Ext w ((w.alloc o1).alloc o2) := fun o1 o2 => ((Ext.refl w).alloc o1).alloc o2
 go_enter Tryd.func144, Tryd.ntmps144
 cases k1 : e.kind == 1
 ·have hb : (((e.kind == 2) = true ∧ (e.kind == 3) = false) ∨ ((e.kind == 2) = false ∧ (e.kind == 3) = true)) ∨ ((e.kind == 2) = false ∧ (e.kind == 3) = false) := by
   cases k2 : e.kind == 2 <;> cases k3 : e.kind == 3 <;> simp_all
  rcases hb with (⟨k2, k3⟩ | ⟨k2, k3⟩) | ⟨k2, k3⟩
  ·go_wp2_with fail
   refine (HP.out _).mono ?_
   rintro x w1 ⟨rfl, rfl⟩
   cases hp : inB e.peer 0 ((t.length : Int) - 1)
   ·go_wp2_with fail
    go_ret
    exact ⟨by rw [formedB, k1, k2, k3, hp]; rfl, hE _ _⟩
   ·cases hq : e.peer != (p : Int)
    ·go_wp2_with fail
     go_ret
     exact ⟨by rw [formedB, k1, k2, k3, hp, hq]; rfl, hE _ _⟩
    ·go_wp2_with fail
     refine (HM.out _).mono ?_
     rintro x w1 ⟨rfl, rfl⟩
     cases hm : inB e.msg 0 199
     ·go_wp2_with fail
      go_ret
      exact ⟨by rw [formedB, k1, k2, k3, hp, hq, hm]; rfl, hE _ _⟩
     ·go_wp2_with fail
      go_ret
      exact ⟨by rw [formedB, k1, k2, k3, hp, hq, hm]; rfl, hE _ _⟩
  ·go_wp2_with fail
   refine (HP.out _).mono ?_
   rintro x w1 ⟨rfl, rfl⟩
   cases hp : inB e.peer 0 ((t.length : Int) - 1)
   ·go_wp2_with fail
    go_ret
    exact ⟨by rw [formedB, k1, k2, k3, hp]; rfl, hE _ _⟩
   ·cases hq : e.peer != (p : Int)
    ·go_wp2_with fail
     go_ret
     exact ⟨by rw [formedB, k1, k2, k3, hp, hq]; rfl, hE _ _⟩
    ·go_wp2_with fail
     refine (HM.out _).mono ?_
     rintro x w1 ⟨rfl, rfl⟩
     cases hm : inB e.msg 0 199
     ·go_wp2_with fail
      go_ret
      exact ⟨by rw [formedB, k1, k2, k3, hp, hq, hm]; rfl, hE _ _⟩
     ·go_wp2_with fail
      go_ret
      exact ⟨by rw [formedB, k1, k2, k3, hp, hq, hm]; rfl, hE _ _⟩
  ·go_wp2_with fail
   go_ret
   exact ⟨by rw [formedB, k1, k2, k3]; rfl, hE _ _⟩
 ·cases k2 : e.peer == 0
  ·go_wp2_with fail
   go_ret
   exact ⟨by rw [formedB, k1, k2]; rfl, hE _ _⟩
  ·cases k3 : e.msg == 0
   ·go_wp2_with fail
    go_ret
    exact ⟨by rw [formedB, k1, k2, k3]; rfl, hE _ _⟩
   ·go_wp2_with fail
    go_ret
    exact ⟨by rw [formedB, k1, k2, k3]; rfl, hE _ _⟩

set_option maxHeartbeats 1000000 in
theorem s1_any (e : Ev) (a : Value) (m to : Int) (bm bt : Nat) (w : World) (hm : w.cell? ⟨bm, 0, none⟩ = some (.int .i64 m)) (ht : w.cell? ⟨bt, 0, none⟩ = some (.int .i64 to)) :
  Calls Tryd.prog 154 #[.agg #[.int .i64 e.kind, .int .i64 e.peer, .int .i64 e.msg, .int .i64 e.time, a], .pointer (some ⟨bm, 0, none⟩), .pointer (some ⟨bt, 0, none⟩)] w fun x w' => x = .returned (.bool (e.kind == 2 && e.msg == m && e.peer == to)) ∧ Ext w w' := by
 have hlt := lt_of_cell hm
 have hlt2 := lt_of_cell ht
 go_enter Tryd.func154, Tryd.ntmps154
 cases k1 : e.kind == 2
 ·go_wp2_with fail
  go_ret
  exact ⟨rfl, (Ext.refl w).alloc _⟩
 ·cases k2 : e.msg == m
  ·go_wp2_with fail
   go_ret
   exact ⟨rfl, (Ext.refl w).alloc _⟩
  ·go_wp2_with fail
   go_ret
   exact ⟨rfl, (Ext.refl w).alloc _⟩
theorem has_send (v : Value) (xs : List Ev) (m to : Int) (bm bt : Nat) (w : World) (hl : xs.length ≤ 1000000) (hs : SlR 5 REv w v xs) (hm : w.cell? ⟨bm, 0, none⟩ = some (.int .i64 m)) (ht : w.cell? ⟨bt, 0, none⟩ = some (.int .i64 to)) :
  Calls Tryd.prog 31 #[v, .func (.func 154) #[] #[.pointer (some ⟨bm, 0, none⟩), .pointer (some ⟨bt, 0, none⟩)]] w fun e w' => e = .returned (.bool (xs.any fun e => e.kind == 2 && e.msg == m && e.peer == to)) ∧ Ext w w' := by
 rw [any_anyF dfEv]
 refine containsEvent_any v xs _ _ _ w hl hs cf_s1 fun k hk v1 w' he => ?_
 simp only [getD_lt dfEv xs hk]
 exact s1_any xs[k] v1 m to bm bt w' (he.cellAt hm) (he.cellAt ht)
set_option maxHeartbeats 1000000 in
theorem sends_any (u : Value) (t : Tr) (p : Nat) (m to : Int) (w : World) (hp : p < t.length) (hl : t.length ≤ 1000000) (he : t[p].evs.length ≤ 1000000) (hs : SlR 3 RPr w u t) :
  Calls Tryd.prog 147 #[.agg #[u], .int .i64 p, .int .i64 m, .int .i64 to] w fun e w' => e = .returned (.bool (sendsB t p m to)) ∧ Ext w w' := by
 obtain ⟨A, c, rfl, h1, h2, hc⟩ := hs.at_
 obtain ⟨b, off, rfl, hel⟩ := hc oM
 obtain ⟨_, _, v2, c2, hs2⟩ := hel p hp
 have hb := lt_of_cell c2
 have hb1 : b < w.heap.size + 1 := by omega
 have hb2 : b < w.heap.size + 1 + 1 := by omega
 have HS2 := hide hs2
 obtain ⟨A2, k2, rfl, _, _, _⟩ := hs2.at_
 clear hs hs2 hel hc
 go_enter Tryd.func147, Tryd.ntmps147
 go_wp2_with fail
 refine (has_send _ t[p].evs m to _ _ _ he ?_ ?_ ?_).mono ?_
 ·exact HS2.out.ext REv.keeps ((((Ext.refl _).alloc _).alloc _).alloc _)
 ·exact ((Ext.refl _).alloc _).cellAt (box_at _ _ _ (by simp) rfl)
 ·exact box_at _ _ _ (by simp) rfl
 rintro e w1 ⟨rfl, he1⟩
 go_wp2_with fail
 go_ret
 exact ⟨by rw [sendsB, evsOf, getD_lt dfPr t hp]; rfl, ((((Ext.refl _).alloc _).alloc _).alloc _).trans he1⟩
theorem has_asg (v : Value) (xs : List Asg) (d : Int) (bk : Nat) (w : World) (hl : xs.length ≤ 1000000) (hs : SlR 2 RAsg w v xs) (hx : w.cell? ⟨bk, 0, none⟩ = some (.int .i64 d)) :
  Calls Tryd.prog 145 #[v, .func (.func 146) #[] #[.pointer (some ⟨bk, 0, none⟩)]] w fun e w' => e = .returned (.bool (xs.any fun b => b.v == d)) ∧ Ext w w' := by
 rw [any_anyF dfAsg]
 refine containsAssign_any v xs _ _ _ w hl hs cf_e1 fun k hk w' he => ?_
 simp only [getD_lt dfAsg xs hk]
 exact e1_any xs[k].v xs[k].val d bk w' (he.cellAt hx)
theorem asgF_eq (nv : Nat) (l : List Asg) (k : Nat) (hk : k < l.length) : asgF nv l k = if !(inB l[k].v 0 ((nv : Int) - 1)) || !valB l[k].val then 2
 else if (l.take k).any (fun b => b.v == l[k].v) then 8 else 0 := by
 unfold asgF; rw [getD_lt dfAsg l hk]
def AsgRel (nv : Nat) (l : List Asg) (w : World) (i : Value) (wr : World) : Prop := ∃ k : Nat, k ≤ l.length ∧ i = .int .i64 k ∧ firstNZ (asgF nv l) k = 0 ∧ Ext w wr

theorem lastT_two (t : Tr) (p j : Nat) (hp : p < t.length) (hj : j < t[p].evs.length) : lastT t (p, j + 2) = t[p].evs[j].time := by
 show (if 1 < j + 2 then ((evsOf t p).getD (j + 2 - 2) dfEv).time else 0) = _
 rw [if_pos oM, show j + 2 - 2 = j by omega]; unfold evsOf; rw [getD_lt dfPr t hp, getD_lt dfEv _ hj]
theorem formF_eq (t : Tr) (p i : Nat) (e : Ev) (L : Int) (hp : p < t.length) (hi0 : 1 ≤ i) (hi : i ≤ t[p].evs.length) (hee : t[p].evs[i - 1] = e) (hL : lastT t (p, i) = L) : formF t (p, i) = if !formedB t.length p e then 3
 else if !(inB e.time 0 1099511627776) || decide (e.time < L) then 11
 else if 8 < e.asg.length then 5
 else firstNZ (asgF t[p].vars.length e.asg) e.asg.length := by
 have h1 : evAt t (p, i) = e := by unfold evAt evsOf; simp only [getD_lt dfPr t hp]; rw [getD_lt dfEv _ oM]; exact hee
 unfold formF; rw [h1, hL]; simp only [getD_lt dfPr t hp]
set_option maxRecDepth 100000 in
set_option maxHeartbeats 1000000 in
theorem eventFault_any (u a : Value) (t : Tr) (p i : Nat) (e : Ev) (w : World) (hp : p < t.length) (hi0 : 1 ≤ i) (hi : i ≤ t[p].evs.length) (hee : t[p].evs[i - 1] = e) (hl : t.length ≤ 1000000) (hv : t[p].vars.length ≤ 1000000) (he : t[p].evs.length ≤ 1000000) (ha : e.asg.length ≤ 1000000)
  (hs : SlR 3 RPr w u t) (hsa : SlR 2 RAsg w a e.asg) :
  Calls Tryd.prog 130 #[.agg #[u], .agg #[.int .i64 p, .int .i64 i], .agg #[.int .i64 e.kind, .int .i64 e.peer, .int .i64 e.msg, .int .i64 e.time, a]] w fun x w' => x = .returned (.int .i64 (formF t (p, i))) ∧ Ext w w' := by
 have HFm := hide fun w' (h : Ext w w') => formed_any u a t p e w' hl (hs.ext RPr.keeps h)
 obtain ⟨A, c, rfl, h1, h2, hc⟩ := hs.at_
 obtain ⟨b, off, rfl, hel⟩ := hc oM
 obtain ⟨⟨c0, hm⟩, ⟨v1, c1, hs1⟩, v2, c2, hs2⟩ := hel p hp
 have hb := lt_of_cell c0
 have hb1 : b < w.heap.size + 1 := by omega
 have hb2 : b < w.heap.size + 1 + 1 := by omega
 have hb3 : b < w.heap.size + 1 + 1 + 1 := by omega
 have HS2 := hide hs2
 obtain ⟨A1, k1, rfl, _, _, _⟩ := hs1.at_
 obtain ⟨A2, k2, rfl, q1, q2, q3⟩ := hs2.at_
 obtain ⟨b2, off2, rfl, q4⟩ := q3 oM
 have HSA := hide hsa
 obtain ⟨A3, k3, rfl, _, _, _⟩ := hsa.at_
 have HT := hide (fun w => in_any e.time 0 1099511627776 w)
 clear hs hs1 hs2 hsa hel hc
 go_enter Tryd.func130, Tryd.ntmps130
 by_cases h1i : 1 < i
 ·obtain ⟨j, rfl⟩ : ∃ j, i = j + 2 := ⟨i - 2, by omega⟩
  obtain ⟨_, _, _, e3, _⟩ := q4 j oM
  have hb2' := lt_of_cell e3
  have hb21 : b2 < w.heap.size + 1 := by omega
  have hb22 : b2 < w.heap.size + 1 + 1 := by omega
  have hb23 : b2 < w.heap.size + 1 + 1 + 1 := by omega
  have HE := hide (formF_eq t p (j + 2) e t[p].evs[j].time hp oM hi hee (lastT_two t p j hp oM))
  go_wp2_with fail
  refine (HFm.out _ (((((Ext.refl _).alloc _).alloc _).alloc _).alloc _)).mono ?_
  rintro x w1 ⟨rfl, he1⟩
  have hw1 := (((((Ext.refl w).alloc _).alloc _).alloc _).alloc _).trans he1
  have y3 : w1.cell? ⟨w.heap.size + 1 + 1, 3, none⟩ = _ := he1.cellAt (((Ext.refl _).alloc _).cellAt (box_at _ _ _ (by simp) rfl))
  have y4 : w1.cell? ⟨w.heap.size + 1 + 1, 4, none⟩ = _ := he1.cellAt (((Ext.refl _).alloc _).cellAt (box_at _ _ _ (by simp) rfl))
  have x1 : w1.cell? ⟨w.heap.size + 1 + 1 + 1, 1, none⟩ = _ := he1.cellAt (box_at _ _ _ (by simp) rfl)
  cases hf : formedB t.length p e
  ·go_wp2_with fail
   go_ret
   exact ⟨by rw [HE.out, hf]; rfl, hw1⟩
  ·go_wp2_with fail
   refine (HT.out _).mono ?_
   rintro x w2 ⟨rfl, rfl⟩
   cases ht : inB e.time 0 1099511627776
   ·go_wp2_with fail
    go_ret
    exact ⟨by rw [HE.out, hf, ht]; rfl, hw1⟩
   ·cases hlast : decide (e.time < t[p].evs[j].time)
    ·by_cases h8 : 8 < e.asg.length
     ·go_wp2_with fail
      go_ret
      exact ⟨by rw [HE.out, hf, ht, hlast]; simp [h8], hw1⟩
     ·go_wp2_with fail
      go_loopw [54] (AsgRel t[p].vars.length e.asg w1) (fun i _ => e.asg.length - (intOf i).toNat)
      case atStart => exact ⟨0, Nat.zero_le _, rfl, rfl, Ext.refl _⟩
      case round =>
       obtain ⟨k, hk, rfl, hz, hext⟩ := hrel
       have HZ := hide hz
       clear hz
       have x1' := hext.cellAt x1
       have y4' := hext.cellAt y4
       by_cases hlt : k < e.asg.length
       ·have HSk := hide (HSA.out.ext RAsg.keeps (hw1.trans hext))
        obtain ⟨A1', k1', ev, g1, g2, g3⟩ := HSk.out.at_
        obtain ⟨b5, off5, rfl, hel⟩ := g3 oM
        injection ev with ev1 ev2 ev3
        subst ev1; subst ev3
        obtain ⟨f0, f1⟩ := hel k hlt
        have hb5 := lt_of_cell f0
        have hb6 := lt_of_cell x1'
        have hb7 := lt_of_cell y4'
        have HV := hide (asgF_eq t[p].vars.length e.asg k hlt)
        have HI1 := hide (fun w => in_any e.asg[k].v 0 ((t[p].vars.length : Int) - 1) w)
        have HI2 := hide (fun w => in_any e.asg[k].val (-1073741824) 1073741824 w)
        clear hel g3 ev2
        go_wp2_with fail
        refine (HI1.out _).mono ?_
        rintro x w2 ⟨rfl, rfl⟩
        cases hi1 : inB e.asg[k].v 0 ((t[p].vars.length : Int) - 1)
        ·have HF2 := hide (show asgF t[p].vars.length e.asg k = 2 by rw [HV.out, hi1]; rfl)
         have HR := hide (firstNZ_hit (n := e.asg.length) HZ.out (by rw [HF2.out]; decide) hlt)
         go_wp2_with fail
         go_ret
         exact ⟨by rw [HE.out, hf, ht, hlast, HR.out, HF2.out]; simp [h8], (hw1.trans hext).alloc _⟩
        ·go_wp2_with fail
         refine (HI2.out _).mono ?_
         rintro x w2 ⟨rfl, rfl⟩
         cases hi2 : inB e.asg[k].val (-1073741824) 1073741824
         ·have HF2 := hide (show asgF t[p].vars.length e.asg k = 2 by rw [HV.out, hi1, show valB e.asg[k].val = false from hi2]; rfl)
          have HR := hide (firstNZ_hit (n := e.asg.length) HZ.out (by rw [HF2.out]; decide) hlt)
          go_wp2_with fail
          go_ret
          exact ⟨by rw [HE.out, hf, ht, hlast, HR.out, HF2.out]; simp [h8], (hw1.trans hext).alloc _⟩
         ·go_wp2_with fail
          refine (has_asg _ (e.asg.take k) e.asg[k].v _ _ ?_ ?_ ?_).mono ?_
          ·rw [List.length_take]; omega
          ·exact ((HSk.out).take k oM).ext RAsg.keeps ((Ext.refl _).alloc _)
          ·exact box_at _ _ _ rfl rfl
          rintro x w3 ⟨rfl, he3⟩
          have he4 := ((Ext.refl wr).alloc _).trans he3
          cases ha2 : (e.asg.take k).any fun b => b.v == e.asg[k].v
          ·have HF0 := hide (show asgF t[p].vars.length e.asg k = 0 by rw [HV.out, hi1, show valB e.asg[k].val = true from hi2, ha2]; rfl)
           go_wp2_with fail
           go_roundw
           case rel => exact ⟨k + 1, hlt, by go_num, firstNZ_step HZ.out HF0.out, hext.trans he4⟩
           case measure => simp [intOf]; omega
          ·have HF8 := hide (show asgF t[p].vars.length e.asg k = 8 by rw [HV.out, hi1, show valB e.asg[k].val = true from hi2, ha2]; rfl)
           have HR := hide (firstNZ_hit (n := e.asg.length) HZ.out (by rw [HF8.out]; decide) hlt)
           go_wp2_with fail
           go_ret
           exact ⟨by rw [HE.out, hf, ht, hlast, HR.out, HF8.out]; simp [h8], (hw1.trans hext).trans he4⟩
       ·have hkn : k = e.asg.length := by omega
        subst hkn
        go_wp2_with fail
        go_ret
        exact ⟨by rw [HE.out, hf, ht, hlast]; simp [h8, HZ.out], hw1.trans hext⟩
    ·go_wp2_with fail
     go_ret
     exact ⟨by rw [HE.out, hf, ht, hlast]; rfl, hw1⟩
 ·have HE := hide (formF_eq t p i e 0 hp hi0 hi hee (by unfold lastT; simp [h1i]))
  go_wp2_with fail
  refine (HFm.out _ (((((Ext.refl _).alloc _).alloc _).alloc _).alloc _)).mono ?_
  rintro x w1 ⟨rfl, he1⟩
  have hw1 := (((((Ext.refl w).alloc _).alloc _).alloc _).alloc _).trans he1
  have y3 : w1.cell? ⟨w.heap.size + 1 + 1, 3, none⟩ = _ := he1.cellAt (((Ext.refl _).alloc _).cellAt (box_at _ _ _ (by simp) rfl))
  have y4 : w1.cell? ⟨w.heap.size + 1 + 1, 4, none⟩ = _ := he1.cellAt (((Ext.refl _).alloc _).cellAt (box_at _ _ _ (by simp) rfl))
  have x1 : w1.cell? ⟨w.heap.size + 1 + 1 + 1, 1, none⟩ = _ := he1.cellAt (box_at _ _ _ (by simp) rfl)
  cases hf : formedB t.length p e
  ·go_wp2_with fail
   go_ret
   exact ⟨by rw [HE.out, hf]; rfl, hw1⟩
  ·go_wp2_with fail
   refine (HT.out _).mono ?_
   rintro x w2 ⟨rfl, rfl⟩
   cases ht : inB e.time 0 1099511627776
   ·go_wp2_with fail
    go_ret
    exact ⟨by rw [HE.out, hf, ht]; rfl, hw1⟩
   ·cases hlast : decide (e.time < 0)
    ·by_cases h8 : 8 < e.asg.length
     ·go_wp2_with fail
      go_ret
      exact ⟨by rw [HE.out, hf, ht, hlast]; simp [h8], hw1⟩
     ·go_wp2_with fail
      go_loopw [54] (AsgRel t[p].vars.length e.asg w1) (fun i _ => e.asg.length - (intOf i).toNat)
      case atStart => exact ⟨0, Nat.zero_le _, rfl, rfl, Ext.refl _⟩
      case round =>
       obtain ⟨k, hk, rfl, hz, hext⟩ := hrel
       have HZ := hide hz
       clear hz
       have x1' := hext.cellAt x1
       have y4' := hext.cellAt y4
       by_cases hlt : k < e.asg.length
       ·have HSk := hide (HSA.out.ext RAsg.keeps (hw1.trans hext))
        obtain ⟨A1', k1', ev, g1, g2, g3⟩ := HSk.out.at_
        obtain ⟨b5, off5, rfl, hel⟩ := g3 oM
        injection ev with ev1 ev2 ev3
        subst ev1; subst ev3
        obtain ⟨f0, f1⟩ := hel k hlt
        have hb5 := lt_of_cell f0
        have hb6 := lt_of_cell x1'
        have hb7 := lt_of_cell y4'
        have HV := hide (asgF_eq t[p].vars.length e.asg k hlt)
        have HI1 := hide (fun w => in_any e.asg[k].v 0 ((t[p].vars.length : Int) - 1) w)
        have HI2 := hide (fun w => in_any e.asg[k].val (-1073741824) 1073741824 w)
        clear hel g3 ev2
        go_wp2_with fail
        refine (HI1.out _).mono ?_
        rintro x w2 ⟨rfl, rfl⟩
        cases hi1 : inB e.asg[k].v 0 ((t[p].vars.length : Int) - 1)
        ·have HF2 := hide (show asgF t[p].vars.length e.asg k = 2 by rw [HV.out, hi1]; rfl)
         have HR := hide (firstNZ_hit (n := e.asg.length) HZ.out (by rw [HF2.out]; decide) hlt)
         go_wp2_with fail
         go_ret
         exact ⟨by rw [HE.out, hf, ht, hlast, HR.out, HF2.out]; simp [h8], (hw1.trans hext).alloc _⟩
        ·go_wp2_with fail
         refine (HI2.out _).mono ?_
         rintro x w2 ⟨rfl, rfl⟩
         cases hi2 : inB e.asg[k].val (-1073741824) 1073741824
         ·have HF2 := hide (show asgF t[p].vars.length e.asg k = 2 by rw [HV.out, hi1, show valB e.asg[k].val = false from hi2]; rfl)
          have HR := hide (firstNZ_hit (n := e.asg.length) HZ.out (by rw [HF2.out]; decide) hlt)
          go_wp2_with fail
          go_ret
          exact ⟨by rw [HE.out, hf, ht, hlast, HR.out, HF2.out]; simp [h8], (hw1.trans hext).alloc _⟩
         ·go_wp2_with fail
          refine (has_asg _ (e.asg.take k) e.asg[k].v _ _ ?_ ?_ ?_).mono ?_
          ·rw [List.length_take]; omega
          ·exact ((HSk.out).take k oM).ext RAsg.keeps ((Ext.refl _).alloc _)
          ·exact box_at _ _ _ rfl rfl
          rintro x w3 ⟨rfl, he3⟩
          have he4 := ((Ext.refl wr).alloc _).trans he3
          cases ha2 : (e.asg.take k).any fun b => b.v == e.asg[k].v
          ·have HF0 := hide (show asgF t[p].vars.length e.asg k = 0 by rw [HV.out, hi1, show valB e.asg[k].val = true from hi2, ha2]; rfl)
           go_wp2_with fail
           go_roundw
           case rel => exact ⟨k + 1, hlt, by go_num, firstNZ_step HZ.out HF0.out, hext.trans he4⟩
           case measure => simp [intOf]; omega
          ·have HF8 := hide (show asgF t[p].vars.length e.asg k = 8 by rw [HV.out, hi1, show valB e.asg[k].val = true from hi2, ha2]; rfl)
           have HR := hide (firstNZ_hit (n := e.asg.length) HZ.out (by rw [HF8.out]; decide) hlt)
           go_wp2_with fail
           go_ret
           exact ⟨by rw [HE.out, hf, ht, hlast, HR.out, HF8.out]; simp [h8], (hw1.trans hext).trans he4⟩
       ·have hkn : k = e.asg.length := by omega
        subst hkn
        go_wp2_with fail
        go_ret
        exact ⟨by rw [HE.out, hf, ht, hlast]; simp [h8, HZ.out], hw1.trans hext⟩
    ·go_wp2_with fail
     go_ret
     exact ⟨by rw [HE.out, hf, ht, hlast]; rfl, hw1⟩
end Go.Proofs.YtnihdkfmmbpilaaDoor
namespace Go.Proofs.YtnihdkfmmbpilaaDoor
open Go.RowKit
set_option linter.unusedVariables false
attribute [local go_sem] Oper.semAt_some

theorem events_any (u : Value) (w : World) : Calls Tryd.prog 111 #[.agg #[u]] w fun e w' => e = .returned (.func (.func 133) #[] #[.pointer (some ⟨w.heap.size, 0, none⟩)]) ∧ w' = w.alloc (.cells #[u] 24) := by
 go_enter Tryd.func111, Tryd.ntmps111
 go_wp2_with fail
 go_ret
 exact ⟨rfl, rfl⟩

def evVal (w : World) (u : Value) (x : Nat × Nat) : Value :=
 match u with
 | .slice (some a) _ _ => match w.cell? ⟨a.block, a.off + x.1 * 3 + 2, none⟩ with
   | some (.slice (some b) _ _) => .agg #[(w.cell? ⟨b.block, b.off + (x.2 - 1) * 5, none⟩).getD undef, (w.cell? ⟨b.block, b.off + (x.2 - 1) * 5 + 1, none⟩).getD undef, (w.cell? ⟨b.block, b.off + (x.2 - 1) * 5 + 2, none⟩).getD undef, (w.cell? ⟨b.block, b.off + (x.2 - 1) * 5 + 3, none⟩).getD undef, (w.cell? ⟨b.block, b.off + (x.2 - 1) * 5 + 4, none⟩).getD undef]
   | _ => undef
 | _ => undef
def idVal (x : Nat × Nat) : Value := .agg #[.int .i64 x.1, .int .i64 x.2]
def VEv (w : World) (v : Value) (e : Ev) : Prop := ∃ a, v = .agg #[.int .i64 e.kind, .int .i64 e.peer, .int .i64 e.msg, .int .i64 e.time, a] ∧ SlR 2 RAsg w a e.asg
theorem VEv.ext {w w' : World} {v : Value} {e : Ev} (h : VEv w v e) (he : Ext w w') : VEv w' v e := by
 obtain ⟨a, hv, hs⟩ := h
 exact ⟨a, hv, hs.ext RAsg.keeps he⟩
theorem mem_ids {t : Tr} {x : Nat × Nat} : x ∈ ids t ↔ ∃ (hp : x.1 < t.length), 1 ≤ x.2 ∧ x.2 ≤ t[x.1].evs.length := by
 obtain ⟨p, i⟩ := x
 unfold ids idsOf
 simp only [List.mem_flatMap, List.mem_range, List.mem_map, Prod.mk.injEq]
 constructor
 ·rintro ⟨q, hq, j, hj, rfl, rfl⟩
  unfold evsOf at hj; rw [getD_lt dfPr t hq] at hj
  exact ⟨hq, by omega, by omega⟩
 ·rintro ⟨hp, h1, h2⟩
  exact ⟨p, hp, i - 1, by unfold evsOf; rw [getD_lt dfPr t hp]; omega, rfl, by omega⟩
theorem evAt_eq {t : Tr} {p i : Nat} (hp : p < t.length) (hi : i < t[p].evs.length) : evAt t (p, i + 1) = t[p].evs[i] := by
 unfold evAt evsOf; simp only [getD_lt dfPr t hp, Nat.add_sub_cancel]; exact getD_lt dfEv _ hi
def idsTo (t : Tr) (p i : Nat) : List (Nat × Nat) := (List.range p).flatMap (idsOf t) ++ (List.range i).map fun j => (p, j + 1)
theorem idsTo_succ (t : Tr) (p i : Nat) : idsTo t p (i + 1) = idsTo t p i ++ [(p, i + 1)] := by
 unfold idsTo; rw [List.range_succ, List.map_append, List.append_assoc]; rfl
theorem idsTo_next (t : Tr) (p : Nat) (hp : p < t.length) : idsTo t p t[p].evs.length = idsTo t (p + 1) 0 := by
 unfold idsTo
 rw [List.range_succ, List.flatMap_append]
 simp [idsOf, evsOf, List.getElem?_eq_getElem hp]
theorem idsTo_all (t : Tr) : idsTo t t.length 0 = ids t := by simp [idsTo, ids]
theorem idsTo_prefix (t : Tr) (p i : Nat) (hp : p < t.length) (hi : i ≤ t[p].evs.length) : idsTo t p i <+: ids t := by
 have h1 : ids t = idsTo t (p + 1) 0 ++ ((List.range (t.length - (p + 1))).map (· + (p + 1))).flatMap (idsOf t) := by
  unfold idsTo ids
  have : List.range t.length = List.range (p + 1) ++ (List.range (t.length - (p + 1))).map (· + (p + 1)) := by
   apply List.ext_getElem
   ·simp; omega
   ·intro j h1 h2
    rw [List.getElem_range, List.getElem_append]
    split
    ·simp
    ·rename_i h3
     simp at h3
     simp; omega
  rw [this, List.flatMap_append]; simp
 have h2 : idsTo t p i <+: idsTo t p t[p].evs.length := by
  unfold idsTo
  rw [show t[p].evs.length = i + (t[p].evs.length - i) by omega, List.range_add, List.map_append, ← List.append_assoc]
  exact List.prefix_append _ _
 rw [h1]
 exact h2.trans (by rw [idsTo_next t p hp]; exact List.prefix_append _ _)
theorem Ext.more' {a w w' : World} (h : Ext a w) (k : Below a.heap.size w w') : Ext a w' := Below.trans h k
abbrev Idt (t : Tr) := { x : Nat × Nat // x ∈ ids t }

set_option maxRecDepth 100000 in
set_option maxHeartbeats 2000000 in
theorem events1_in (n : Nat) (hn : 1 ≤ n) (w0 : World) (u : Value) (t : Tr) (l Bt N : Nat) (hl : t.length ≤ 1000000) (hle : ∀ x ∈ t, x.evs.length ≤ 1000000) (hN : (ids t).length ≤ N) (hs : SlR 3 RPr w0 u t) (J Jx : List (Idt t) → World → Prop)
  (hJa : ∀ pre W o, J pre W → J pre (W.alloc o))
  (hY : ∀ pre x W, J pre W → pre.length < N → YieldAt Fence.wide (n - 1) Tryd.prog l #[idVal x.1, evVal w0 u x.1] W fun e W' =>
   (e = .returned (.bool true) ∧ J (pre ++ [x]) W' ∧ Below w0.heap.size W W') ∨ (e = .returned (.bool false) ∧ Jx (pre ++ [x]) W'))
  (W : World) (hext : Ext w0 W) (hBt : W.cell? ⟨Bt, 0, none⟩ = some u) (hB0 : w0.heap.size ≤ Bt) (h0 : J [] W) :
  CallsIn Fence.wide n Tryd.prog 133 #[.func (.yield l) #[] #[], .pointer (some ⟨Bt, 0, none⟩)] W fun e W' => (∃ v, e = .returned v) ∧
   ((∃ ys, ys.map (·.1) = ids t ∧ J ys W') ∨ (∃ pre, pre.map (·.1) <+: ids t ∧ Jx pre W')) := by
 refine callsIn_of_wp Tryd.func133 rfl trivial ?_ rfl
 simp only [Tryd.ntmps133, List.size_toArray, List.length_cons, List.length_nil, Nat.reduceAdd, Nat.reduceSub, Array.replicate_succ, Array.replicate_zero, List.push_toArray, List.append_toArray, List.nil_append, List.cons_append]
 obtain ⟨A, c, rfl, _, _, hc⟩ := hs.at_
 have hJ0 := hide (hJa)
 clear hJa
 have HY := hide hY
 clear hY
 gi_wp2
 gi_loopw [10] (fun i wr => ∃ k : Nat, k ≤ t.length ∧ i = .int .i64 k ∧ (∃ pre : List (Idt t), pre.map (·.1) = idsTo t k 0 ∧ J pre wr) ∧ Ext w0 wr) (fun i _ => t.length - (intOf i).toNat)
 case atStart => exact ⟨0, Nat.zero_le _, rfl, ⟨[], rfl, h0⟩, hext⟩
 case round =>
  obtain ⟨k, hk, rfl, ⟨pre, hpre, hJp⟩, hex⟩ := hrel
  have HPre := hide hpre
  clear hpre
  by_cases hlt : k < t.length
  ·obtain ⟨b, off, rfl, hel⟩ := hc oM
   obtain ⟨⟨d0, hm⟩, ⟨v1, d1, hs1⟩, v2, d2, hs2⟩ := hel k hlt
   obtain ⟨A2, cc2, rfl, h21, h22, hc3⟩ := hs2.at_
   have c0 := hex.cellAt d0
   have c1 := hex.cellAt d1
   have c2 := hex.cellAt d2
   obtain ⟨A1, cc1, rfl, h11, h12, _⟩ := hs1.at_
   have hlk := hle _ (List.getElem_mem hlt)
   clear hs1
   gi_wp2
   have hJ1 := hJ0.out pre wr (Obj.cells #[Value.string t[k].name, Value.slice A1 t[k].vars.length cc1, Value.slice A2 t[k].evs.length cc2] 78) hJp
   have hex1 := hex.alloc (Obj.cells #[Value.string t[k].name, Value.slice A1 t[k].vars.length cc1, Value.slice A2 t[k].evs.length cc2] 78)
   have D2 := hide d2
   clear hs2 c0 c1 c2 d0 d1 d2
   generalize wr.alloc (Obj.cells #[Value.string t[k].name, Value.slice A1 t[k].vars.length cc1, Value.slice A2 t[k].evs.length cc2] 78) = wo at hJ1 hex1 ⊢
   gi_loopw [18] (fun i wi => ∃ j : Nat, j ≤ t[k].evs.length ∧ i = .int .i64 j ∧ (∃ pre : List (Idt t), pre.map (·.1) = idsTo t k j ∧ J pre wi) ∧ Ext w0 wi) (fun i _ => t[k].evs.length - (intOf i).toNat)
   case atStart => exact ⟨0, Nat.zero_le _, rfl, ⟨pre, HPre.out, hJ1⟩, hex1⟩
   case round =>
    obtain ⟨j, hj, rfl, ⟨pre, hpre, hJp⟩, hex⟩ := hrel
    have HPre := hide hpre
    clear hpre
    by_cases hlj : j < t[k].evs.length
    ·obtain ⟨b2, off2, rfl, hel2⟩ := hc3 oM
     obtain ⟨g0, g1, g2, g3, va, g4, hs4⟩ := hel2 j hlj
     have e0 := hex.cellAt g0
     have e1 := hex.cellAt g1
     have e2 := hex.cellAt g2
     have e3 := hex.cellAt g3
     have e4 := hex.cellAt g4
     obtain ⟨A4, cc4, rfl, h41, h42, _⟩ := hs4.at_
     have hx : (k, j + 1) ∈ ids t := mem_ids.2 ⟨hlt, by simp, hlj⟩
     have hlen : pre.length < N := by
      have h1 := (idsTo_prefix t k (j + 1) hlt hlj).length_le
      rw [idsTo_succ, List.length_append, ← HPre.out, List.length_map] at h1
      simp at h1; omega
     obtain ⟨fn, tmps, assign, body, hy, hR⟩ := HY.out _ ⟨(k, j + 1), hx⟩ _ (hJ0.out _ _ (Obj.cells #[.int .i64 t[k].evs[j].kind, .int .i64 t[k].evs[j].peer, .int .i64 t[k].evs[j].msg, .int .i64 t[k].evs[j].time, Value.slice A4 t[k].evs[j].asg.length cc4] 74) hJp) hlen
     have hev : evVal w0 (Value.slice (some { block := b, off := off }) (List.length t) c) (k, j + 1) = .agg #[.int .i64 t[k].evs[j].kind, .int .i64 t[k].evs[j].peer, .int .i64 t[k].evs[j].msg, .int .i64 t[k].evs[j].time, Value.slice A4 t[k].evs[j].asg.length cc4] := by
      unfold evVal
      simp only [D2.out, Nat.add_sub_cancel, g0, g1, g2, g3, g4, Option.getD_some]
     clear g0 g1 g2 g3 g4
     unfold idVal at hy
     rw [hev] at hy
     simp only at hy
     rw [show (((j + 1 : Nat) : Nat) : Int) = (j : Int) + 1 from by push_cast; rfl] at hy
     clear hev
     gi_wp2
     refine hR.mono ?_
     rintro e W3 (⟨rfl, hJ3, hk3⟩ | ⟨rfl, hJx3⟩)
     ·gi_wp2
      go_roundw
      case rel => exact ⟨j + 1, by omega, by go_num, ⟨_, by rw [List.map_append, HPre.out, idsTo_succ]; rfl, hJ3⟩, hex.trans ((Ext.refl _).alloc _) |>.more' hk3⟩
      case measure => simp [intOf]; omega
     ·gi_wp2
      refine bodyPost_ret (results_none rfl _ _ _) rfl ?_
      exact ⟨⟨_, rfl⟩, .inr ⟨_, by rw [List.map_append, HPre.out]; exact idsTo_succ t k j ▸ idsTo_prefix t k (j + 1) hlt hlj, hJx3⟩⟩
    ·have hjm : j = t[k].evs.length := by omega
     have HP2 := hide (show pre.map (·.1) = idsTo t (k + 1) 0 by rw [HPre.out, hjm, idsTo_next])
     clear hjm
     gi_wp2
     go_roundw
     case rel => exact ⟨k + 1, by omega, by go_num, ⟨_, HP2.out, hJp⟩, hex⟩
     case measure => simp [intOf]; omega
  ·obtain rfl : k = t.length := by omega
   gi_wp2
   go_end0
   exact ⟨⟨_, rfl⟩, .inl ⟨pre, by rw [HPre.out, idsTo_all], hJp⟩⟩

theorem evVal_ok {w0 : World} {u : Value} {t : Tr} (hs : SlR 3 RPr w0 u t) {x : Nat × Nat} (hx : x ∈ ids t) : VEv w0 (evVal w0 u x) (evAt t x) := by
 obtain ⟨p, i⟩ := x
 obtain ⟨hp, h1, h2⟩ := mem_ids.1 hx
 simp only at hp h1 h2
 obtain ⟨j, rfl⟩ : ∃ j, i = j + 1 := ⟨i - 1, by omega⟩
 rw [evAt_eq hp oM]
 obtain ⟨A, c, rfl, _, _, hc⟩ := hs.at_
 obtain ⟨b, off, rfl, hel⟩ := hc oM
 obtain ⟨_, _, v2, d2, hs2⟩ := hel p hp
 obtain ⟨A2, cc2, rfl, _, _, hc3⟩ := hs2.at_
 obtain ⟨b2, off2, rfl, hel2⟩ := hc3 oM
 obtain ⟨g0, g1, g2, g3, va, g4, hs4⟩ := hel2 j oM
 refine ⟨va, ?_, hs4⟩
 unfold evVal
 simp only [d2, Nat.add_sub_cancel, g0, g1, g2, g3, g4, Option.getD_some]

theorem events_stops (n : Nat) (hn : 1 ≤ n) (w0 : World) (u : Value) (t : Tr) (Bt : Nat) (w : World) (hl : t.length ≤ 1000000) (hle : ∀ x ∈ t, x.evs.length ≤ 1000000) (hs : SlR 3 RPr w0 u t) (hext : Ext w0 w) (hBt : w.cell? ⟨Bt, 0, none⟩ = some u) (hB0 : w0.heap.size ≤ Bt) :
  SeqStopsK Fence.wide n Tryd.prog 133 #[.pointer (some ⟨Bt, 0, none⟩)] (fun x : Idt t => #[idVal x.1, evVal w0 u x.1]) (Below w0.heap.size) (fun ys => ys.map (·.1) = ids t) (fun pre => pre.map (·.1) <+: ids t) (ids t).length w := fun l J Jx W hW hJ _ hY h0 =>
 events1_in n hn w0 u t l Bt (ids t).length hl hle (Nat.le_refl _) hs J Jx (fun pre W o h => hJ pre W _ none h (World.grownBy_alloc W o none) (fun r e => by cases e)) hY W (hext.trans (Below.mono hW (Nat.le_refl _))) (Ext.cellAt hW hBt) hB0 h0
end Go.Proofs.YtnihdkfmmbpilaaDoor
namespace Go.Proofs.YtnihdkfmmbpilaaDoor
open Go.RowKit
set_option linter.unusedVariables false

def BoxN (W : World) (B : Nat) (t : TypeId) (cs : Array Value) : Prop := W.heap[B]? = some (.cells cs t (0, 0))
theorem BoxN.lt {W : World} {B : Nat} {t : TypeId} {cs : Array Value} (h : BoxN W B t cs) : B < W.heap.size := (Array.getElem?_eq_some_iff.1 h).1
theorem BoxN.cell {W : World} {B : Nat} {t : TypeId} {cs : Array Value} (h : BoxN W B t cs) {j : Nat} {v : Value} (hj : cs[j]? = some v) : W.cell? ⟨B, j, none⟩ = some v := by
 simp [World.cell?, show W.heap[B]? = _ from h, hj]
theorem BoxN.frozen {W : World} {B : Nat} {t : TypeId} {cs : Array Value} (h : BoxN W B t cs) (j : Nat) : W.frozen? ⟨B, j, none⟩ = false := by
 simp [World.frozen?, show W.heap[B]? = _ from h]
theorem BoxN.new (W : World) (t : TypeId) (cs : Array Value) : BoxN (W.alloc (.cells cs t)) W.heap.size t cs := World.alloc_heap_new W _
theorem BoxN.newAt {W : World} {B : Nat} (t : TypeId) (cs : Array Value) (h : B = W.heap.size) : BoxN (W.alloc (.cells cs t)) B t cs := by subst h; exact BoxN.new W t cs
theorem BoxN.kept {W W' : World} {row : Option Nat} {B : Nat} {t : TypeId} {cs : Array Value} (h : BoxN W B t cs) (hg : W.grownBy W' row) (hne : some B ≠ row) : BoxN W' B t cs := (hg.block B h.lt hne).trans h
theorem BoxN.alloc {W : World} {B : Nat} {t : TypeId} {cs : Array Value} (h : BoxN W B t cs) (o : Obj) : BoxN (W.alloc o) B t cs := h.kept (World.grownBy_alloc W o none) (by simp)
theorem BoxN.ext {W W' : World} {B : Nat} {t : TypeId} {cs : Array Value} (h : BoxN W B t cs) (he : Ext W W') : BoxN W' B t cs := (he.block B h.lt).trans h
theorem BoxN.below {W W' : World} {B n : Nat} {t : TypeId} {cs : Array Value} (h : BoxN W B t cs) (he : Below n W W') (hB : B < n) : BoxN W' B t cs := (he.block B hB).trans h
theorem BoxN.drew {W : World} {B : Nat} {t : TypeId} {cs : Array Value} (h : BoxN W B t cs) : BoxN W.drew B t cs := h
theorem BoxN.drewN {W : World} {B : Nat} {t : TypeId} {cs : Array Value} (h : BoxN W B t cs) (n : Nat) : BoxN (W.drewN n) B t cs := h
theorem BoxN.set {W : World} {B : Nat} {t : TypeId} {cs : Array Value} (h : BoxN W B t cs) (j : Nat) (v : Value) : BoxN (W.setCell ⟨B, j, none⟩ v) B t (cs.setIfInBounds j v) := by
 obtain ⟨hlt, hk⟩ := Array.getElem?_eq_some_iff.1 h
 show (W.heap.modify B _)[B]? = _
 rw [Array.getElem?_eq_getElem (by rw [Array.size_modify]; exact hlt), Array.getElem_modify_self, hk]
 rfl
theorem BoxN.other {W : World} {B B' j : Nat} {t : TypeId} {cs : Array Value} (h : BoxN W B t cs) (hne : B ≠ B') (u : Value) : BoxN (W.setCell ⟨B', j, none⟩ u) B t cs :=
 (Below.heap_setCell _ _ _ _ (by simpa using hne)).trans h
theorem BoxN.putObj {W : World} {B l : Nat} {t : TypeId} {cs : Array Value} {o : Obj} (h : BoxN W B t cs) (hl : W.heap[l]? = some o) (ho : o.isCells = false) (o' : Obj) : BoxN (W.putObj l o') B t cs :=
 h.kept (grownBy_putObj' W l o') (fun e => by cases e; rw [show W.heap[B]? = _ from h] at hl; cases hl; cases ho)
theorem BoxN.same {W : World} {B : Nat} {t t' : TypeId} {cs cs' : Array Value} (h : BoxN W B t cs) (h' : BoxN W B t' cs') : cs = cs' := by
 have := (show W.heap[B]? = _ from h).symm.trans h'; injection this with this; injection this
theorem boxN_from {β : Type} (B n : Nat) (t : TypeId) (p : β → Array Value → Prop) : OwnFrom n (fun s W => ∃ cs, BoxN W B t cs ∧ p s cs) := by
 rintro s X Y row ⟨cs, h, hp⟩ hg hrow
 exact ⟨cs, h.kept hg (fun e' => by obtain ⟨_, o, ho, hc⟩ := hrow B e'.symm; rw [show X.heap[B]? = _ from h] at ho; cases ho; cases hc), hp⟩
theorem boxN1_from {β : Type} (B n : Nat) (t : TypeId) (f : β → Array Value) : OwnFrom n (fun s W => BoxN W B t (f s)) := by
 rintro s X Y row h hg hrow
 exact h.kept hg (fun e' => by obtain ⟨_, o, ho, hc⟩ := hrow B e'.symm; rw [show X.heap[B]? = _ from h] at ho; cases ho; cases hc)
theorem ext_from {β : Type} {n : Nat} {w : World} (hn : w.heap.size ≤ n) : OwnFrom n (fun (_ : β) W => Ext w W) := ownFrom_below (Nat.le_refl _) hn
theorem Ext.set {a w : World} (h : Ext a w) {B j : Nat} (hB : a.heap.size ≤ B) (u : Value) : Ext a (w.setCell ⟨B, j, none⟩ u) := Below.setCell h (p := ⟨B, j, none⟩) hB u
theorem Ext.putObj {a w : World} {l : Nat} {o : Obj} (h : Ext a w) (hl : a.heap.size ≤ l) (hw : w.heap[l]? = some o) (o' : Obj) : Ext a (w.putObj l o') :=
 Below.grown h (grownBy_putObj' w l o') h.size (fun k e => by cases e; exact hl)
theorem BoxN.set1 {W : World} {B : Nat} {t : TypeId} {a v : Value} (h : BoxN W B t #[a]) : BoxN (W.setCell ⟨B, 0, none⟩ v) B t #[v] := h.set 0 v
theorem BoxN.set2_0 {W : World} {B : Nat} {t : TypeId} {a0 a1 v : Value} (h : BoxN W B t #[a0, a1]) : BoxN (W.setCell ⟨B, 0, none⟩ v) B t #[v, a1] := h.set 0 v
theorem BoxN.set2_1 {W : World} {B : Nat} {t : TypeId} {a0 a1 v : Value} (h : BoxN W B t #[a0, a1]) : BoxN (W.setCell ⟨B, 1, none⟩ v) B t #[a0, v] := h.set 1 v
theorem BoxN.set3_0 {W : World} {B : Nat} {t : TypeId} {a0 a1 a2 v : Value} (h : BoxN W B t #[a0, a1, a2]) : BoxN (W.setCell ⟨B, 0, none⟩ v) B t #[v, a1, a2] := h.set 0 v
theorem BoxN.set3_1 {W : World} {B : Nat} {t : TypeId} {a0 a1 a2 v : Value} (h : BoxN W B t #[a0, a1, a2]) : BoxN (W.setCell ⟨B, 1, none⟩ v) B t #[a0, v, a2] := h.set 1 v
theorem BoxN.set3_2 {W : World} {B : Nat} {t : TypeId} {a0 a1 a2 v : Value} (h : BoxN W B t #[a0, a1, a2]) : BoxN (W.setCell ⟨B, 2, none⟩ v) B t #[a0, a1, v] := h.set 2 v
theorem BoxN.set4_0 {W : World} {B : Nat} {t : TypeId} {a0 a1 a2 a3 v : Value} (h : BoxN W B t #[a0, a1, a2, a3]) : BoxN (W.setCell ⟨B, 0, none⟩ v) B t #[v, a1, a2, a3] := h.set 0 v
theorem BoxN.set4_1 {W : World} {B : Nat} {t : TypeId} {a0 a1 a2 a3 v : Value} (h : BoxN W B t #[a0, a1, a2, a3]) : BoxN (W.setCell ⟨B, 1, none⟩ v) B t #[a0, v, a2, a3] := h.set 1 v
theorem BoxN.set4_2 {W : World} {B : Nat} {t : TypeId} {a0 a1 a2 a3 v : Value} (h : BoxN W B t #[a0, a1, a2, a3]) : BoxN (W.setCell ⟨B, 2, none⟩ v) B t #[a0, a1, v, a3] := h.set 2 v
theorem BoxN.set4_3 {W : World} {B : Nat} {t : TypeId} {a0 a1 a2 a3 v : Value} (h : BoxN W B t #[a0, a1, a2, a3]) : BoxN (W.setCell ⟨B, 3, none⟩ v) B t #[a0, a1, a2, v] := h.set 3 v
theorem BoxN.set5_0 {W : World} {B : Nat} {t : TypeId} {a0 a1 a2 a3 a4 v : Value} (h : BoxN W B t #[a0, a1, a2, a3, a4]) : BoxN (W.setCell ⟨B, 0, none⟩ v) B t #[v, a1, a2, a3, a4] := h.set 0 v
theorem BoxN.set5_1 {W : World} {B : Nat} {t : TypeId} {a0 a1 a2 a3 a4 v : Value} (h : BoxN W B t #[a0, a1, a2, a3, a4]) : BoxN (W.setCell ⟨B, 1, none⟩ v) B t #[a0, v, a2, a3, a4] := h.set 1 v
theorem BoxN.set5_2 {W : World} {B : Nat} {t : TypeId} {a0 a1 a2 a3 a4 v : Value} (h : BoxN W B t #[a0, a1, a2, a3, a4]) : BoxN (W.setCell ⟨B, 2, none⟩ v) B t #[a0, a1, v, a3, a4] := h.set 2 v
theorem BoxN.set5_3 {W : World} {B : Nat} {t : TypeId} {a0 a1 a2 a3 a4 v : Value} (h : BoxN W B t #[a0, a1, a2, a3, a4]) : BoxN (W.setCell ⟨B, 3, none⟩ v) B t #[a0, a1, a2, v, a4] := h.set 3 v
theorem BoxN.set5_4 {W : World} {B : Nat} {t : TypeId} {a0 a1 a2 a3 a4 v : Value} (h : BoxN W B t #[a0, a1, a2, a3, a4]) : BoxN (W.setCell ⟨B, 4, none⟩ v) B t #[a0, a1, a2, a3, v] := h.set 4 v
theorem KF.set {B : Nat} {W X : World} (h : KeepsFrom B W X) (a : Addr) (v : Value) : KeepsFrom B W (X.setCell a v) := h.trans ((KeepsOthers.setCell _ _ _).from _)
theorem KF.alloc {B : Nat} {W X : World} (h : KeepsFrom B W X) (o : Obj) : KeepsFrom B W (X.alloc o) := h.trans ((KeepsOthers.alloc _ _).from _)
theorem KF.drew {B : Nat} {W X : World} (h : KeepsFrom B W X) : KeepsFrom B W X.drew := h.trans ((KeepsOthers.drew _).from _)
theorem KF.drewN {B : Nat} {W X : World} (h : KeepsFrom B W X) (n : Nat) : KeepsFrom B W (X.drewN n) := ⟨h.size, h.same⟩
theorem KF.ext {B : Nat} {W X Y : World} (h : KeepsFrom B W X) (he : Ext X Y) : KeepsFrom B W Y :=
 h.trans ⟨he.size, fun k o _ hk _ => (he.block k (Array.getElem?_eq_some_iff.1 hk).1).trans hk⟩
theorem BL.set {n : Nat} {W X : World} (h : Below n W X) (b j : Nat) (v : Value) (hb : n ≤ b) : Below n W (X.setCell ⟨b, j, none⟩ v) := h.setCell (p := ⟨b, j, none⟩) hb v
theorem BL.alloc {n : Nat} {W X : World} (h : Below n W X) (o : Obj) (hn : n ≤ W.heap.size) : Below n W (X.alloc o) := Below.alloc h (Nat.le_trans hn h.size) o
theorem BL.drew {n : Nat} {W X : World} (h : Below n W X) : Below n W X.drew := Below.drew h
theorem BL.drewN {n : Nat} {W X : World} (h : Below n W X) (k : Nat) : Below n W (X.drewN k) := ⟨h.os, h.tape, h.output, h.size, h.block⟩
theorem BL.ext {n : Nat} {W X Y : World} (h : Below n W X) (he : Ext X Y) (hn : n ≤ W.heap.size) : Below n W Y := h.trans (Below.mono he (Nat.le_trans hn h.size))
end Go.Proofs.YtnihdkfmmbpilaaDoor
namespace Go.Proofs.YtnihdkfmmbpilaaDoor
open Go.RowKit
set_option linter.unusedVariables false

def keyB (t : Tr) (kind m : Int) (x : Nat × Nat) : Bool := (evAt t x).kind == kind && (evAt t x).msg == m
def firstOf (t : Tr) (l : List (Nat × Nat)) (kind m : Int) : Nat × Nat := (l.find? (keyB t kind m)).getD (0, 0)
def localF (t : Tr) (l : List (Nat × Nat)) (x : Nat × Nat) : Nat :=
 if (evAt t x).kind == 2 then (if 0 < (firstOf t l 2 (evAt t x).msg).2 then 8 else 0)
 else if (evAt t x).kind == 3 then (if 0 < (firstOf t l 3 (evAt t x).msg).2 then 8 else if sendsB t (evAt t x).peer.toNat (evAt t x).msg x.1 then 0 else 7)
 else 0
def goodL (t : Tr) (l : List (Nat × Nat)) : Prop := ∀ a x c, l = a ++ x :: c → localF t a x = 0
def LetA (t : Tr) (l : List (Nat × Nat)) (cs : Array Value) : Prop := cs.size = 800 ∧ ∀ m : Nat, m < 200 →
 cs[m * 4]? = some (.int .i64 (firstOf t l 2 m).1) ∧ cs[m * 4 + 1]? = some (.int .i64 (firstOf t l 2 m).2) ∧ cs[m * 4 + 2]? = some (.int .i64 (firstOf t l 3 m).1) ∧ cs[m * 4 + 3]? = some (.int .i64 (firstOf t l 3 m).2)

theorem mem_pos {t : Tr} {x : Nat × Nat} (h : x ∈ ids t) : 1 ≤ x.2 := (mem_ids.1 h).2.1
theorem formed_open {np p : Nat} {e : Ev} (h : formedB np p e = true) (h1 : (e.kind == 1) = false) : ∃ m q : Nat, e.msg = m ∧ m < 200 ∧ e.peer = q ∧ q < np ∧ q ≠ p := by
 unfold formedB at h
 rw [h1] at h
 simp only [Bool.false_eq_true, if_false] at h
 split at h
 ·simp [inB] at h
  obtain ⟨⟨⟨a, b⟩, c⟩, d, e1⟩ := h
  exact ⟨e.msg.toNat, e.peer.toNat, by omega, by omega, by omega, by omega, by omega⟩
 ·cases h
theorem firstOf_snoc (t : Tr) (l : List (Nat × Nat)) (x : Nat × Nat) (k m : Int) : firstOf t (l ++ [x]) k m = if (l.find? (keyB t k m)).isSome then firstOf t l k m else if keyB t k m x then x else (0, 0) := by
 unfold firstOf
 rw [List.find?_append]
 cases h : l.find? (keyB t k m) with
 | some y => simp
 | none => cases hk : keyB t k m x <;> simp [hk]
theorem firstOf_none {t : Tr} {l : List (Nat × Nat)} {k m : Int} (hl : ∀ y ∈ l, 1 ≤ y.2) (h : ¬ 0 < (firstOf t l k m).2) : l.find? (keyB t k m) = none := by
 unfold firstOf at h
 cases hf : l.find? (keyB t k m) with
 | none => rfl
 | some y => rw [hf] at h; have := hl y (List.mem_of_find?_eq_some hf); simp at h; omega
theorem firstOf_other {t : Tr} {l : List (Nat × Nat)} {x : Nat × Nat} {k m : Int} (h : keyB t k m x = false) : firstOf t (l ++ [x]) k m = firstOf t l k m := by
 rw [firstOf_snoc, h]
 cases hf : l.find? (keyB t k m) with
 | none => simp [firstOf, hf]
 | some y => simp
theorem firstOf_new {t : Tr} {l : List (Nat × Nat)} {x : Nat × Nat} {k m : Int} (hl : ∀ y ∈ l, 1 ≤ y.2) (h0 : ¬ 0 < (firstOf t l k m).2) (h : keyB t k m x = true) : firstOf t (l ++ [x]) k m = x := by
 rw [firstOf_snoc, firstOf_none hl h0, h]; simp
theorem goodL.snoc {t : Tr} {l : List (Nat × Nat)} {x : Nat × Nat} (h : goodL t l) (hx : localF t l x = 0) : goodL t (l ++ [x]) := by
 intro a y c he
 rcases List.eq_nil_or_concat c with rfl | ⟨c', z, rfl⟩
 ·have h2 := List.append_inj' he rfl
  obtain ⟨rfl, h3⟩ := h2
  injection h3 with h3; subst h3; exact hx
 ·rw [show a ++ y :: (c'.concat z) = (a ++ y :: c') ++ [z] by simp] at he
  have h2 := List.append_inj' he rfl
  exact h a y c' h2.1
theorem get_set2 {cs : Array Value} {i j : Nat} {a b : Value} (hi : i + 1 < cs.size) : ((cs.setIfInBounds i a).setIfInBounds (i + 1) b)[j]? = if j = i then some a else if j = i + 1 then some b else cs[j]? := by
 simp only [Array.getElem?_setIfInBounds, Array.size_setIfInBounds]
 by_cases h1 : j = i
 ·subst h1; rw [if_neg oM, if_pos rfl, if_pos oM, if_pos rfl]
 ·by_cases h2 : j = i + 1
  ·subst h2; rw [if_pos rfl, if_pos hi, if_neg h1, if_pos rfl]
  ·rw [if_neg oM, if_neg oM, if_neg h1, if_neg h2]
theorem map_snoc {t : Tr} (pre : List (Idt t)) (x : Idt t) : (pre ++ [x]).map (·.1) = pre.map (·.1) ++ [x.1] := by rw [List.map_append]; rfl
theorem LetA.keep {t : Tr} {l : List (Nat × Nat)} {x : Nat × Nat} {cs : Array Value} (h : LetA t l cs) (h2 : ((evAt t x).kind == 2) = false) (h3 : ((evAt t x).kind == 3) = false) : LetA t (l ++ [x]) cs := by
 refine ⟨h.1, fun m hm => ?_⟩
 rw [firstOf_other (by unfold keyB; rw [h2]; rfl), firstOf_other (by unfold keyB; rw [h3]; rfl)]
 exact h.2 m hm
theorem LetA.from_ {t : Tr} {l : List (Nat × Nat)} {x : Nat × Nat} {cs : Array Value} {m : Nat} (h : LetA t l cs) (hl : ∀ y ∈ l, 1 ≤ y.2) (hm : m < 200) (h0 : ¬ 0 < (firstOf t l 2 m).2) (hk : ((evAt t x).kind == 2) = true) (hx : (evAt t x).msg = m) :
  LetA t (l ++ [x]) ((cs.setIfInBounds (m * 4) (.int .i64 x.1)).setIfInBounds (m * 4 + 1) (.int .i64 x.2)) := by
 have k2 : (evAt t x).kind = 2 := by simpa using hk
 refine ⟨by simpa using h.1, fun j hj => ?_⟩
 have e3 : firstOf t (l ++ [x]) 3 j = firstOf t l 3 j := firstOf_other (by simp [keyB, k2])
 obtain ⟨a, b, c, d⟩ := h.2 j hj
 have hs := h.1
 rw [e3]
 by_cases hjm : j = m
 ·subst hjm
  rw [firstOf_new hl h0 (by simp [keyB, k2, hx])]
  refine ⟨?_, ?_, ?_, ?_⟩ <;> rw [get_set2 oM]
  ·rw [if_pos rfl]
  ·rw [if_neg oM, if_pos rfl]
  ·rw [if_neg oM, if_neg oM]; exact c
  ·rw [if_neg oM, if_neg oM]; exact d
 ·rw [firstOf_other (by simp [keyB, k2, hx]; omega)]
  refine ⟨?_, ?_, ?_, ?_⟩ <;> rw [get_set2 oM, if_neg oM, if_neg oM] <;> assumption
theorem LetA.to_ {t : Tr} {l : List (Nat × Nat)} {x : Nat × Nat} {cs : Array Value} {m : Nat} (h : LetA t l cs) (hl : ∀ y ∈ l, 1 ≤ y.2) (hm : m < 200) (h0 : ¬ 0 < (firstOf t l 3 m).2) (hk : ((evAt t x).kind == 3) = true) (hx : (evAt t x).msg = m) :
  LetA t (l ++ [x]) ((cs.setIfInBounds (m * 4 + 2) (.int .i64 x.1)).setIfInBounds (m * 4 + 2 + 1) (.int .i64 x.2)) := by
 have k3 : (evAt t x).kind = 3 := by simpa using hk
 refine ⟨by simpa using h.1, fun j hj => ?_⟩
 have e3 : firstOf t (l ++ [x]) 2 j = firstOf t l 2 j := firstOf_other (by simp [keyB, k3])
 obtain ⟨a, b, c, d⟩ := h.2 j hj
 have hs := h.1
 rw [e3]
 by_cases hjm : j = m
 ·subst hjm
  rw [firstOf_new hl h0 (by simp [keyB, k3, hx])]
  refine ⟨?_, ?_, ?_, ?_⟩ <;> rw [get_set2 oM]
  ·rw [if_neg oM, if_neg oM]; exact a
  ·rw [if_neg oM, if_neg oM]; exact b
  ·rw [if_pos rfl]
  ·rw [if_neg oM, if_pos rfl]
 ·rw [firstOf_other (by simp [keyB, k3, hx]; omega)]
  refine ⟨?_, ?_, ?_, ?_⟩ <;> rw [get_set2 oM, if_neg oM, if_neg oM] <;> assumption

theorem nodup_idsOf (t : Tr) (p : Nat) : (idsOf t p).Nodup := by
 unfold idsOf
 refine List.Pairwise.map _ (R := (· ≠ ·)) ?_ List.nodup_range
 intro a b hab he
 injection he with _ h2
 omega
theorem nodup_flat {f : Nat → List (Nat × Nat)} (hf : ∀ p x, x ∈ f p → x.1 = p) (hn : ∀ p, (f p).Nodup) : ∀ n : Nat, ((List.range n).flatMap f).Nodup
 | 0 => by simp
 | n + 1 => by
   rw [List.range_succ, List.flatMap_append]
   refine List.nodup_append.2 ⟨nodup_flat hf hn n, by simpa using hn n, ?_⟩
   intro a ha b hb hab
   subst hab
   obtain ⟨p, hp, hx⟩ := List.mem_flatMap.1 ha
   have h1 := hf p a hx
   have h2 := hf n a (by simpa using hb)
   have := List.mem_range.1 hp
   omega
theorem nodup_ids (t : Tr) : (ids t).Nodup := by
 refine nodup_flat (fun p x hx => ?_) (nodup_idsOf t) t.length
 unfold idsOf at hx
 obtain ⟨i, _, rfl⟩ := List.mem_map.1 hx
 rfl
theorem find_split {α : Type} {p : α → Bool} {a c : List α} {x : α} (hx : p x = true) : (a ++ x :: c).find? p = match a.find? p with | some y => some y | none => some x := by
 rw [List.find?_append]
 cases a.find? p <;> simp [hx]
theorem find_is {t : Tr} {a c : List (Nat × Nat)} {x : Nat × Nat} {k : Int} (h : ids t = a ++ x :: c) (hk : (evAt t x).kind = k) : (findL t k (evAt t x).msg == some x) = !decide (0 < (firstOf t a k (evAt t x).msg).2) := by
 have hn := nodup_ids t
 rw [h] at hn
 have hpos : ∀ y ∈ a, 1 ≤ y.2 := fun y hy => mem_pos (t := t) (by rw [h]; simp [hy])
 have e : findL t k (evAt t x).msg = (a ++ x :: c).find? (keyB t k (evAt t x).msg) := by unfold findL; rw [h]; rfl
 rw [e, find_split (by simp [keyB, hk])]
 unfold firstOf
 cases hf : a.find? (keyB t k (evAt t x).msg) with
 | none => simp
 | some y =>
   have hy := List.mem_of_find?_eq_some hf
   have h1 := hpos y hy
   have hne : y ≠ x := fun e => by
    subst e
    have := List.nodup_append.1 hn
    exact this.2.2 y hy y (by simp) rfl
   have h2 : decide (0 < y.2) = true := decide_eq_true oM
   simp [hne, h2]
theorem pairF_local {t : Tr} {a c : List (Nat × Nat)} {x : Nat × Nat} (h : ids t = a ++ x :: c) : pairF t x = localF t a x := by
 unfold pairF localF
 by_cases h2 : ((evAt t x).kind == 2) = true
 ·rw [if_pos h2, if_pos h2, find_is h (by simpa using h2)]
  by_cases h0 : 0 < (firstOf t a 2 (evAt t x).msg).2 <;> simp [h0]
 ·rw [if_neg h2, if_neg h2]
  by_cases h3 : ((evAt t x).kind == 3) = true
  ·rw [if_pos h3, if_pos h3, find_is h (by simpa using h3)]
   by_cases h0 : 0 < (firstOf t a 3 (evAt t x).msg).2 <;> simp [h0]
  ·rw [if_neg h3, if_neg h3]
theorem pair_done {t : Tr} (h : goodL t (ids t)) : (ids t).find? (fun x => pairF t x != 0) = none := by
 rw [List.find?_eq_none]
 intro x hx
 obtain ⟨a, c, he⟩ := List.append_of_mem hx
 rw [pairF_local he, h a x c he]
 simp
theorem pair_stop {t : Tr} {a : List (Nat × Nat)} {x : Nat × Nat} (hp : a ++ [x] <+: ids t) (hg : goodL t a) (hne : localF t a x ≠ 0) : (ids t).find? (fun x => pairF t x != 0) = some x ∧ pairF t x = localF t a x := by
 obtain ⟨c, hc⟩ := hp
 have he : ids t = a ++ x :: c := by rw [← hc]; simp
 have hx := pairF_local he
 refine ⟨?_, hx⟩
 rw [he, List.find?_append]
 have : a.find? (fun x => pairF t x != 0) = none := by
  rw [List.find?_eq_none]
  intro y hy
  obtain ⟨b, d, hb⟩ := List.append_of_mem hy
  rw [pairF_local (a := b) (c := d ++ x :: c) (by rw [he, hb]; simp), hg b y d hb]
  simp
 rw [this]
 simp [hx, hne]
end Go.Proofs.YtnihdkfmmbpilaaDoor
namespace Go.Proofs.YtnihdkfmmbpilaaDoor
open Go.RowKit
set_option linter.unusedVariables false
attribute [local go_sem] Oper.semAt_some

def MI (t : Tr) (w : World) (u : Value) (l : List (Nat × Nat)) (W : World) : Prop :=
 (((((((∃ cs, BoxN W (w.heap.size + 1 + 1 + 1 + 1) 220 cs ∧ LetA t l cs) ∧ BoxN W (w.heap.size + 1) 203 #[.pointer none]) ∧ BoxN W (w.heap.size + 1 + 1) 68 #[.int .i64 0, .int .i64 0]) ∧ BoxN W (w.heap.size + 1 + 1 + 1) 50 #[.int .i64 0]) ∧
   BoxN W (w.heap.size + 1 + 1 + 1 + 1 + 1) 203 #[.pointer (some ⟨w.heap.size + 1 + 1 + 1 + 1, 0, none⟩)]) ∧ BoxN W w.heap.size 24 #[u]) ∧ Ext w W) ∧ goodL t l

def MX (t : Tr) (w : World) (l : List (Nat × Nat)) (W : World) : Prop :=
 ∃ a x, ((((l = a ++ [x] ∧ goodL t a ∧ localF t a x ≠ 0) ∧ BoxN W (w.heap.size + 1) 203 #[.pointer none]) ∧ BoxN W (w.heap.size + 1 + 1) 68 #[.int .i64 x.1, .int .i64 x.2]) ∧ BoxN W (w.heap.size + 1 + 1 + 1) 50 #[.int .i64 (localF t a x)]) ∧ Ext w W
def MPost (t : Tr) (w : World) (e : Ending) (w' : World) : Prop := Ext w w' ∧
 ((∃ x, (ids t).find? (fun x => pairF t x != 0) = some x ∧ e = .returned (.tuple #[.pointer none, idVal x, .int .i64 (pairF t x)])) ∨
  ((ids t).find? (fun x => pairF t x != 0) = none ∧ ∃ b cs, w.heap.size ≤ b ∧ BoxN w' b 220 cs ∧ LetA t (ids t) cs ∧ e = .returned (.tuple #[.pointer (some ⟨b, 0, none⟩), idVal (0, 0), .int .i64 0])))
theorem mi_from (t : Tr) (w : World) (u : Value) {n : Nat} (hn : w.heap.size ≤ n) : OwnFrom n (fun (pre : List (Idt t)) W => MI t w u (pre.map (·.1)) W) :=
 OwnFrom.and (OwnFrom.and (OwnFrom.and (OwnFrom.and (OwnFrom.and (OwnFrom.and (OwnFrom.and (boxN_from _ _ _ _) (boxN1_from _ _ _ _)) (boxN1_from _ _ _ _)) (boxN1_from _ _ _ _)) (boxN1_from _ _ _ _)) (boxN1_from _ _ _ _)) (ext_from hn)) (ownFrom_pure _ _)
theorem mx_from (t : Tr) (w : World) {n : Nat} (hn : w.heap.size ≤ n) : OwnFrom n (fun (pre : List (Idt t)) W => MX t w (pre.map (·.1)) W) := by
 rintro s X Y row ⟨a, x, h⟩ hg hr
 refine ⟨a, x, ⟨⟨⟨h.1.1.1.1, ?_⟩, ?_⟩, ?_⟩, ext_from hn () X Y row h.2 hg hr⟩
 ·exact boxN1_from _ n _ (fun (_ : Unit) => _) () X Y row h.1.1.1.2 hg hr
 ·exact boxN1_from _ n _ (fun (_ : Unit) => _) () X Y row h.1.1.2 hg hr
 ·exact boxN1_from _ n _ (fun (_ : Unit) => _) () X Y row h.1.2 hg hr
theorem zero_letters : Tryd.zeroCells220 = Array.replicate 800 (.int .i64 0) := by kernel_rfl
theorem LetA.zero (t : Tr) : LetA t [] Tryd.zeroCells220 := by
 rw [zero_letters]
 refine ⟨by simp, fun m hm => ?_⟩
 unfold firstOf
 have h : ∀ k, k < 800 → (Array.replicate 800 (Value.int .i64 0))[k]? = some (.int .i64 0) := fun k hk => by simp [hk]
 exact ⟨h _ oM, h _ oM, h _ oM, h _ oM⟩

theorem kW0 {p : Prop} (h : p := by (with_reducible repeat (first | assumption | exact KeepsFrom.refl _ _ | refine KF.set ?_ _ _ | refine KF.alloc ?_ _ | refine KF.drew ?_ | refine KF.drewN ?_ _ | refine KF.ext ?_ aS | exact Below.refl _ _ | refine BL.set ?_ _ _ _ oM | refine BL.alloc ?_ _ oM | refine BL.drew ?_ | refine BL.drewN ?_ _ | refine BL.ext ?_ aS oM | exact Ext.refl _ | refine Ext.set ?_ oM _ | refine Ext.alloc ?_ _ | refine Ext.drew ?_ | refine Ext.drewN ?_ _ | refine Ext.trans ?_ aS | refine BoxN.alloc ?_ _ | refine BoxN.drew ?_ | refine BoxN.drewN ?_ _ | refine BoxN.other ?_ oM _ | refine BoxN.set ?_ _ _ | apply BoxN.set1 | apply BoxN.set2_1 | apply BoxN.set2_0 | refine BoxN.ext ?_ aS)); done) : p := h
set_option maxRecDepth 100000 in
set_option maxHeartbeats 2000000 in
theorem messageFault_any (u : Value) (t : Tr) (w : World) (hl : t.length ≤ 1000000) (hle : ∀ x ∈ t, x.evs.length ≤ 1000000) (hs : SlR 3 RPr w u t) (hform : ∀ x ∈ ids t, formedB t.length x.1 (evAt t x) = true) :
  Calls Tryd.prog 131 #[.agg #[u]] w fun e w' => MPost t w e w' := by
 refine callsIn_wide (n := 9).1 ?_
 refine callsIn_of_wp_marks Tryd.func131 rfl trivial ?_ rfl
 simp only [Tryd.ntmps131, List.size_toArray, List.length_cons, List.length_nil, Nat.reduceAdd, Nat.reduceSub, Array.replicate_succ, Array.replicate_zero, List.push_toArray, List.append_toArray, List.nil_append, List.cons_append]
 gi_wp2_with (refine ⟨trivial, ?_⟩; gi_at_call 111; refine (callsIn_wide.2 (events_any _ _)).mono ?_; rintro e w' ⟨rfl, rfl⟩)
 have b0 := (((((((BoxN.new w 24 #[u]).alloc (.cells #[.pointer none] 203)).alloc (.cells #[.int .i64 0, .int .i64 0] 68)).alloc (.cells #[.int .i64 0] 50)).alloc (.cells Tryd.zeroCells220 220)).alloc (.cells #[.pointer (some ⟨w.heap.size + 1 + 1 + 1 + 1, 0, none⟩)] 203)).alloc (.cells #[u] 24))
 obtain ⟨W0, hW0⟩ : ∃ W0, (((((((w.alloc (Obj.cells #[u] 24)).alloc (Obj.cells #[Value.pointer none] 203)).alloc (Obj.cells #[Value.int IntKind.i64 0, Value.int IntKind.i64 0] 68)).alloc (Obj.cells #[Value.int IntKind.i64 0] 50)).alloc (Obj.cells Tryd.zeroCells220 220)).alloc (Obj.cells #[Value.pointer (some ⟨w.heap.size + 1 + 1 + 1 + 1, 0, none⟩)] 203)).alloc (Obj.cells #[u] 24)) = W0 := ⟨_, rfl⟩
 rw [hW0] at b0 ⊢
 have hsz : W0.heap.size = w.heap.size + 1 + 1 + 1 + 1 + 1 + 1 + 1 := by rw [← hW0]; simp
 have hM0 : MI t w u [] W0 := by
  rw [← hW0]
  refine ⟨⟨⟨⟨⟨⟨⟨⟨_, BoxN.alloc (BoxN.alloc (BoxN.newAt _ _ (by simp)) _) _, LetA.zero t⟩, ?_⟩, ?_⟩, ?_⟩, ?_⟩, ?_⟩, ?_⟩, ?_⟩
  ·exact ((((((BoxN.newAt _ _ (by simp)).alloc _).alloc _).alloc _).alloc _).alloc _)
  ·exact (((((BoxN.newAt _ _ (by simp)).alloc _).alloc _).alloc _).alloc _)
  ·exact ((((BoxN.newAt _ _ (by simp)).alloc _).alloc _).alloc _)
  ·exact ((BoxN.newAt _ _ (by simp)).alloc _)
  ·rw [hW0]; exact b0
  ·exact (((((((Ext.refl w).alloc _).alloc _).alloc _).alloc _).alloc _).alloc _).alloc _
  ·intro a x c h; cases a <;> cases h
 have bt : BoxN W0 (w.heap.size + 1 + 1 + 1 + 1 + 1 + 1) 24 #[u] := by rw [← hW0]; exact BoxN.newAt _ _ (by simp)
 clear hW0
 have hext0 : Ext w W0 := hM0.1.2
 refine wpIn_rangeFunc_ownH rfl oM (gf := 133) (lb := #[.pointer (some ⟨w.heap.size + 1 + 1 + 1 + 1 + 1 + 1, 0, none⟩)]) rfl trivial (callFunc_enter Tryd.func133 (by decide) rfl)
  (events_stops 8 oM w u t (w.heap.size + 1 + 1 + 1 + 1 + 1 + 1) W0 hl hle hs hext0 (bt.cell rfl) oM) belowK_t (belowK_b oM) (Below.refl _ _) (fun _ => rfl)
  (fun pre W => MI t w u (pre.map (·.1)) W) (fun c pre W => c = .ret ∧ MX t w (pre.map (·.1)) W) (mi_from t w u oM) (fun c => OwnFrom.and (ownFrom_pure _ _) (mx_from t w oM)) hM0
  (fun x a' W => ∃ B6 B7 A4 n4 c4 v13 v14, (w.heap.size + 1 + 1 + 1 + 1 + 1 < B6 ∧ w.heap.size + 1 + 1 + 1 + 1 + 1 < B7) ∧ BoxN W B6 68 #[.int .i64 x.1.1, .int .i64 x.1.2] ∧ BoxN W B7 74 #[.int .i64 (evAt t x.1).kind, .int .i64 (evAt t x.1).peer, .int .i64 (evAt t x.1).msg, .int .i64 (evAt t x.1).time, .slice A4 n4 c4] ∧
   a' = { tmps := #[.agg #[u], .pointer (some ⟨w.heap.size, 0, none⟩), .pointer (some ⟨w.heap.size + 1, 0, none⟩), .pointer (some ⟨w.heap.size + 1 + 1, 0, none⟩), .pointer (some ⟨w.heap.size + 1 + 1 + 1, 0, none⟩), .pointer (some ⟨w.heap.size + 1 + 1 + 1 + 1 + 1, 0, none⟩), .pointer (some ⟨B6, 0, none⟩), .pointer (some ⟨B7, 0, none⟩), undef, .agg Tryd.zeroCells220, .pointer (some ⟨w.heap.size + 1 + 1 + 1 + 1, 0, none⟩), .agg #[u], .func (.func 133) #[] #[.pointer (some ⟨w.heap.size + 1 + 1 + 1 + 1 + 1 + 1, 0, none⟩)], v13, v14, undef, undef, undef, undef, undef, undef, undef, undef, undef, undef, undef, undef, undef, undef, undef, undef, undef, undef, undef, undef, undef, undef, undef, undef, undef, undef, undef, undef, undef, undef, undef, undef, undef, undef, undef, undef, undef, undef, undef, undef, undef, undef, undef, undef, undef, undef, undef, undef, undef], defers := [] })
  ?hax ?assign ?body ?done ?stop
 case hax =>
  rintro x a' _ X Y row ⟨B6, B7, A4, n4, c4, v13, v14, hB, b6, b7, ha⟩ hg hr
  exact ⟨B6, B7, A4, n4, c4, v13, v14, hB, boxN1_from B6 _ _ (fun (_ : Unit) => _) () X Y row b6 hg hr, boxN1_from B7 _ _ (fun (_ : Unit) => _) () X Y row b7 hg hr, ha⟩
 case assign =>
  rintro l pre x W K hI hK
  obtain ⟨a, hv, hsa⟩ := evVal_ok hs x.2
  obtain ⟨A4, c4, rfl, _, _, _⟩ := hsa.at_
  clear hsa
  simp only [hv]
  have hsW := hI.1.2.size
  unfold idVal
  have h5 := hI.1.1.1.2.lt
  gi_wp2
  exact hK _ _ (((KeepsOthers.alloc _ _).trans (KeepsOthers.alloc _ _)).from _) (((Below.refl _ W).alloc hsW _).alloc (by simp; omega) _) ((mi_from t w u (Nat.le_refl _)).alloc _ ((mi_from t w u (Nat.le_refl _)).alloc _ hI))
   ⟨W.heap.size, W.heap.size + 1, A4, _, c4, _, _, ⟨h5, by omega⟩, (BoxN.new _ _ _).alloc _, BoxN.newAt _ _ (by simp), rfl⟩
 case body =>
  rintro l pre x a' W hlW ⟨r, hr⟩ hI ⟨B6, B7, A4, n4, c4, v13, v14, hB, b6, b7, rfl⟩ hlen
  have hI0 := hI
  obtain ⟨⟨⟨⟨⟨⟨⟨⟨cs, hb, hA⟩, r1⟩, r2⟩, r3⟩, lb⟩, tb⟩, hx⟩, hg⟩ := hI
  have HF := hide (hform x.1 x.2)
  have hmx : Tryd.prog.follows .mixedOrders = true := by kernel_rfl
  have k0 := b7.cell (j := 0) rfl
  have k1 := b7.cell (j := 1) rfl
  have k2 := b7.cell (j := 2) rfl
  have i0 := b6.cell (j := 0) rfl
  have i1 := b6.cell (j := 1) rfl
  have l0 := lb.cell (j := 0) rfl
  have t0 := tb.cell (j := 0) rfl
  have hsW := hx.size
  have hpos : ∀ y ∈ pre.map (·.1), 1 ≤ y.2 := fun y hy => by
   obtain ⟨z, _, rfl⟩ := List.mem_map.1 hy
   exact mem_pos z.2
  have HP := hide hpos
  have q1 := r1.frozen 0
  have q2 := r2.frozen 0
  have q3 := r2.frozen 1
  have q4 := r3.frozen 0
  have p1 := r1.cell (j := 0) rfl
  have p2 := r2.cell (j := 0) rfl
  have p3 := r2.cell (j := 1) rfl
  have p4 := r3.cell (j := 0) rfl
  clear hpos
  cases z2 : (evAt t x.1).kind == 2
  ·cases z3 : (evAt t x.1).kind == 3
   ·have HA := hide (hA.keep z2 z3)
    have HG := hide (hg.snoc (x := x.1) (by unfold localF; rw [z2, z3]; rfl))
    have HI := hide hI0
    gi_wp2
    refine ⟨KeepsFrom.refl _ _, Below.refl _ _, ?_⟩
    show MI t w u ((pre ++ [x]).map (·.1)) _
    rw [map_snoc]
    exact ⟨⟨⟨⟨⟨⟨⟨⟨cs, hb, HA.out⟩, r1⟩, r2⟩, r3⟩, lb⟩, tb⟩, hx⟩, HG.out⟩
   ·obtain ⟨m, q, hm, hm2, hq, hq2, _⟩ := formed_open HF.out (by cases h1 : (evAt t x.1).kind == 1 <;> simp_all)
    rw [hm] at k2
    have hA1 := hb.cell (hA.2 m hm2).2.2.2
    rw [hq] at k1
    have hq3 := hle _ (List.getElem_mem hq2)
    have HS := hide (fun w' (he : Ext w w') => (CallsIn.inRound l (callsIn_wide (n := 6).2 (sends_any u t q m x.1.1 w' hq2 hl hq3 (hs.ext RPr.keeps he)))))
    by_cases h0 : 0 < (firstOf t (pre.map (·.1)) 3 m).2
    ·have hd0 : decide ((0 : Int) < ((firstOf t (pre.map (·.1)) 3 m).2 : Int)) = true := by simp; omega
     have HF8 := hide (show localF t (pre.map (·.1)) x.1 = 8 by unfold localF; rw [z2, if_neg (by decide)]; rw [if_pos z3, hm, if_pos h0])
     have HM := hide hm
     have HQ := hide hq
     clear hm hq
     gi_wp2
     gi_region_with_o (fail)
     all_goals gi_wp2
     all_goals refine ⟨?_, rfl, pre.map (·.1), x.1, ⟨⟨⟨⟨by rw [List.map_append]; rfl, hg, ?_⟩, ?_⟩, ?_⟩, ?_⟩, ?_⟩
     all_goals first
      | (rw [HF8.out]; decide)
      | ((with_reducible repeat (first | assumption | exact KeepsFrom.refl _ _ | refine KF.set ?_ _ _ | refine KF.alloc ?_ _ | refine KF.drew ?_ | refine KF.drewN ?_ _ | refine KF.ext ?_ aS | exact Below.refl _ _ | refine BL.set ?_ _ _ _ oM | refine BL.alloc ?_ _ oM | refine BL.drew ?_ | refine BL.drewN ?_ _ | refine BL.ext ?_ aS oM | exact Ext.refl _ | refine Ext.set ?_ oM _ | refine Ext.alloc ?_ _ | refine Ext.drew ?_ | refine Ext.drewN ?_ _ | refine Ext.trans ?_ aS | refine BoxN.alloc ?_ _ | refine BoxN.drew ?_ | refine BoxN.drewN ?_ _ | refine BoxN.other ?_ oM _ | refine BoxN.set ?_ _ _ | apply BoxN.set1 | apply BoxN.set2_1 | apply BoxN.set2_0 | refine BoxN.ext ?_ aS)); done)
      | (rw [HF8.out]; show BoxN _ _ _ #[Value.int .i64 8]; ((with_reducible repeat (first | assumption | exact KeepsFrom.refl _ _ | refine KF.set ?_ _ _ | refine KF.alloc ?_ _ | refine KF.drew ?_ | refine KF.drewN ?_ _ | refine KF.ext ?_ aS | exact Below.refl _ _ | refine BL.set ?_ _ _ _ oM | refine BL.alloc ?_ _ oM | refine BL.drew ?_ | refine BL.drewN ?_ _ | refine BL.ext ?_ aS oM | exact Ext.refl _ | refine Ext.set ?_ oM _ | refine Ext.alloc ?_ _ | refine Ext.drew ?_ | refine Ext.drewN ?_ _ | refine Ext.trans ?_ aS | refine BoxN.alloc ?_ _ | refine BoxN.drew ?_ | refine BoxN.drewN ?_ _ | refine BoxN.other ?_ oM _ | refine BoxN.set ?_ _ _ | apply BoxN.set1 | apply BoxN.set2_1 | apply BoxN.set2_0 | refine BoxN.ext ?_ aS)); done))
    ·have hd0 : decide ((0 : Int) < ((firstOf t (pre.map (·.1)) 3 m).2 : Int)) = false := by simp; omega
     have HM := hide hm
     have HQ := hide hq
     have HA := hide (hA.to_ HP.out hm2 h0 z3 hm)
     have hf0 := hb.frozen (m * 4 + 2)
     have hf1 := hb.frozen (m * 4 + 2 + 1)
     have hg0 := hb.cell (hA.2 m hm2).2.2.1
     have HL := hide (show localF t (pre.map (·.1)) x.1 = if sendsB t q m x.1.1 then 0 else 7 by unfold localF; rw [z2, if_neg (by decide), if_pos z3, hm, if_neg h0, hq]; rfl)
     clear hm hq
     gi_wp2_with fail
     refine ⟨trivial, ?_⟩
     refine (HS.out _ hx).mono ?_
     rintro e w1 ⟨rfl, he1⟩
     have hx1 := hx.trans he1
     have hsW1 := hx1.size
     have hKF : KeepsFrom W0.heap.size W w1 := KF.ext (KeepsFrom.refl _ _) he1
     have hBL : Below w.heap.size W w1 := BL.ext (Below.refl _ _) he1 hsW
     have hb' := hb.ext he1
     have r1' := r1.ext he1
     have r2' := r2.ext he1
     have r3' := r3.ext he1
     have lb' := lb.ext he1
     have tb' := tb.ext he1
     have b6' := b6.ext he1
     have q1' := r1'.frozen 0
     have q2' := r2'.frozen 0
     have q3' := r2'.frozen 1
     have q4' := r3'.frozen 0
     have p1' := r1'.cell (j := 0) rfl
     have p2' := r2'.cell (j := 0) rfl
     have p3' := r2'.cell (j := 1) rfl
     have p4' := r3'.cell (j := 0) rfl
     have i0' := b6'.cell (j := 0) rfl
     have i1' := b6'.cell (j := 1) rfl
     have l0' := lb'.cell (j := 0) rfl
     have hf0' := hb'.frozen (m * 4 + 2)
     have hf1' := hb'.frozen (m * 4 + 2 + 1)
     have hg0' := hb'.cell (hA.2 m hm2).2.2.1
     have hA1' := hb'.cell (hA.2 m hm2).2.2.2
     clear hf0 hf1 hg0 q1 q2 q3 q4 p1 p2 p3 p4 i0 i1 l0 hA1
     cases hsd : sendsB t q m x.1.1
     ·have HF7 := hide (show localF t (pre.map (·.1)) x.1 = 7 by rw [HL.out, hsd]; rfl)
      clear HL hsd
      gi_wp2
      gi_region_with_o (fail)
      all_goals gi_wp2
      all_goals refine ⟨?_, rfl, pre.map (·.1), x.1, ⟨⟨⟨⟨by rw [List.map_append]; rfl, hg, ?_⟩, ?_⟩, ?_⟩, ?_⟩, ?_⟩
      all_goals first
       | (rw [HF7.out]; decide)
       | ((with_reducible repeat (first | assumption | exact KeepsFrom.refl _ _ | refine KF.set ?_ _ _ | refine KF.alloc ?_ _ | refine KF.drew ?_ | refine KF.drewN ?_ _ | refine KF.ext ?_ aS | exact Below.refl _ _ | refine BL.set ?_ _ _ _ oM | refine BL.alloc ?_ _ oM | refine BL.drew ?_ | refine BL.drewN ?_ _ | refine BL.ext ?_ aS oM | exact Ext.refl _ | refine Ext.set ?_ oM _ | refine Ext.alloc ?_ _ | refine Ext.drew ?_ | refine Ext.drewN ?_ _ | refine Ext.trans ?_ aS | refine BoxN.alloc ?_ _ | refine BoxN.drew ?_ | refine BoxN.drewN ?_ _ | refine BoxN.other ?_ oM _ | refine BoxN.set ?_ _ _ | apply BoxN.set1 | apply BoxN.set2_1 | apply BoxN.set2_0 | refine BoxN.ext ?_ aS)); done)
       | (rw [HF7.out]; show BoxN _ _ _ #[Value.int .i64 7]; ((with_reducible repeat (first | assumption | exact KeepsFrom.refl _ _ | refine KF.set ?_ _ _ | refine KF.alloc ?_ _ | refine KF.drew ?_ | refine KF.drewN ?_ _ | refine KF.ext ?_ aS | exact Below.refl _ _ | refine BL.set ?_ _ _ _ oM | refine BL.alloc ?_ _ oM | refine BL.drew ?_ | refine BL.drewN ?_ _ | refine BL.ext ?_ aS oM | exact Ext.refl _ | refine Ext.set ?_ oM _ | refine Ext.alloc ?_ _ | refine Ext.drew ?_ | refine Ext.drewN ?_ _ | refine Ext.trans ?_ aS | refine BoxN.alloc ?_ _ | refine BoxN.drew ?_ | refine BoxN.drewN ?_ _ | refine BoxN.other ?_ oM _ | refine BoxN.set ?_ _ _ | apply BoxN.set1 | apply BoxN.set2_1 | apply BoxN.set2_0 | refine BoxN.ext ?_ aS)); done))
     ·have HG := hide (hg.snoc (x := x.1) (by rw [HL.out, hsd]; rfl))
      clear HL hsd
      gi_wp2
      gi_region_with_o (fail)
      all_goals gi_wp2
      all_goals refine ⟨?_, ?_, ?_⟩
      all_goals first
       | ((with_reducible repeat (first | assumption | exact KeepsFrom.refl _ _ | refine KF.set ?_ _ _ | refine KF.alloc ?_ _ | refine KF.drew ?_ | refine KF.drewN ?_ _ | refine KF.ext ?_ aS | exact Below.refl _ _ | refine BL.set ?_ _ _ _ oM | refine BL.alloc ?_ _ oM | refine BL.drew ?_ | refine BL.drewN ?_ _ | refine BL.ext ?_ aS oM | exact Ext.refl _ | refine Ext.set ?_ oM _ | refine Ext.alloc ?_ _ | refine Ext.drew ?_ | refine Ext.drewN ?_ _ | refine Ext.trans ?_ aS | refine BoxN.alloc ?_ _ | refine BoxN.drew ?_ | refine BoxN.drewN ?_ _ | refine BoxN.other ?_ oM _ | refine BoxN.set ?_ _ _ | apply BoxN.set1 | apply BoxN.set2_1 | apply BoxN.set2_0 | refine BoxN.ext ?_ aS)); done)
       | (show MI t w u ((pre ++ [x]).map (·.1)) _; rw [map_snoc]; refine ⟨⟨⟨⟨⟨⟨⟨⟨_, ?_, HA.out⟩, ?_⟩, ?_⟩, ?_⟩, ?_⟩, ?_⟩, ?_⟩, HG.out⟩ <;> ((with_reducible repeat (first | assumption | exact KeepsFrom.refl _ _ | refine KF.set ?_ _ _ | refine KF.alloc ?_ _ | refine KF.drew ?_ | refine KF.drewN ?_ _ | refine KF.ext ?_ aS | exact Below.refl _ _ | refine BL.set ?_ _ _ _ oM | refine BL.alloc ?_ _ oM | refine BL.drew ?_ | refine BL.drewN ?_ _ | refine BL.ext ?_ aS oM | exact Ext.refl _ | refine Ext.set ?_ oM _ | refine Ext.alloc ?_ _ | refine Ext.drew ?_ | refine Ext.drewN ?_ _ | refine Ext.trans ?_ aS | refine BoxN.alloc ?_ _ | refine BoxN.drew ?_ | refine BoxN.drewN ?_ _ | refine BoxN.other ?_ oM _ | refine BoxN.set ?_ _ _ | apply BoxN.set1 | apply BoxN.set2_1 | apply BoxN.set2_0 | refine BoxN.ext ?_ aS)); done))
  ·obtain ⟨m, q, hm, hm2, hq, hq2, _⟩ := formed_open HF.out (by cases h1 : (evAt t x.1).kind == 1 <;> simp_all)
   rw [hm] at k2
   have hA1 := hb.cell (hA.2 m hm2).2.1
   by_cases h0 : 0 < (firstOf t (pre.map (·.1)) 2 m).2
   ·have hd0 : decide ((0 : Int) < ((firstOf t (pre.map (·.1)) 2 m).2 : Int)) = true := by simp; omega
    have HF8 := hide (show localF t (pre.map (·.1)) x.1 = 8 by unfold localF; rw [if_pos z2, hm, if_pos h0])
    have HM := hide hm
    have HQ := hide hq
    clear hm hq
    gi_wp2
    gi_region_with_o (fail)
    all_goals gi_wp2
    all_goals refine ⟨?_, rfl, pre.map (·.1), x.1, ⟨⟨⟨⟨by rw [List.map_append]; rfl, hg, ?_⟩, ?_⟩, ?_⟩, ?_⟩, ?_⟩
    all_goals first
     | (rw [HF8.out]; decide)
     | ((with_reducible repeat (first | assumption | exact KeepsFrom.refl _ _ | refine KF.set ?_ _ _ | refine KF.alloc ?_ _ | refine KF.drew ?_ | refine KF.drewN ?_ _ | refine KF.ext ?_ aS | exact Below.refl _ _ | refine BL.set ?_ _ _ _ oM | refine BL.alloc ?_ _ oM | refine BL.drew ?_ | refine BL.drewN ?_ _ | refine BL.ext ?_ aS oM | exact Ext.refl _ | refine Ext.set ?_ oM _ | refine Ext.alloc ?_ _ | refine Ext.drew ?_ | refine Ext.drewN ?_ _ | refine Ext.trans ?_ aS | refine BoxN.alloc ?_ _ | refine BoxN.drew ?_ | refine BoxN.drewN ?_ _ | refine BoxN.other ?_ oM _ | refine BoxN.set ?_ _ _ | apply BoxN.set1 | apply BoxN.set2_1 | apply BoxN.set2_0 | refine BoxN.ext ?_ aS)); done)
     | (rw [HF8.out]; show BoxN _ _ _ #[Value.int .i64 8]; ((with_reducible repeat (first | assumption | exact KeepsFrom.refl _ _ | refine KF.set ?_ _ _ | refine KF.alloc ?_ _ | refine KF.drew ?_ | refine KF.drewN ?_ _ | refine KF.ext ?_ aS | exact Below.refl _ _ | refine BL.set ?_ _ _ _ oM | refine BL.alloc ?_ _ oM | refine BL.drew ?_ | refine BL.drewN ?_ _ | refine BL.ext ?_ aS oM | exact Ext.refl _ | refine Ext.set ?_ oM _ | refine Ext.alloc ?_ _ | refine Ext.drew ?_ | refine Ext.drewN ?_ _ | refine Ext.trans ?_ aS | refine BoxN.alloc ?_ _ | refine BoxN.drew ?_ | refine BoxN.drewN ?_ _ | refine BoxN.other ?_ oM _ | refine BoxN.set ?_ _ _ | apply BoxN.set1 | apply BoxN.set2_1 | apply BoxN.set2_0 | refine BoxN.ext ?_ aS)); done))
   ·have hd0 : decide ((0 : Int) < ((firstOf t (pre.map (·.1)) 2 m).2 : Int)) = false := by simp; omega
    have HM := hide hm
    have HQ := hide hq
    have HA := hide (hA.from_ HP.out hm2 h0 z2 hm)
    have hf0 := hb.frozen (m * 4)
    have hf1 := hb.frozen (m * 4 + 1)
    have hg0 := hb.cell (hA.2 m hm2).1
    have HG := hide (hg.snoc (x := x.1) (by unfold localF; rw [if_pos z2, hm, if_neg h0]))
    clear hm hq
    gi_wp2
    gi_region_with_o (fail)
    all_goals gi_wp2
    all_goals refine ⟨?_, ?_, ?_⟩
    all_goals first
     | ((with_reducible repeat (first | assumption | exact KeepsFrom.refl _ _ | refine KF.set ?_ _ _ | refine KF.alloc ?_ _ | refine KF.drew ?_ | refine KF.drewN ?_ _ | refine KF.ext ?_ aS | exact Below.refl _ _ | refine BL.set ?_ _ _ _ oM | refine BL.alloc ?_ _ oM | refine BL.drew ?_ | refine BL.drewN ?_ _ | refine BL.ext ?_ aS oM | exact Ext.refl _ | refine Ext.set ?_ oM _ | refine Ext.alloc ?_ _ | refine Ext.drew ?_ | refine Ext.drewN ?_ _ | refine Ext.trans ?_ aS | refine BoxN.alloc ?_ _ | refine BoxN.drew ?_ | refine BoxN.drewN ?_ _ | refine BoxN.other ?_ oM _ | refine BoxN.set ?_ _ _ | apply BoxN.set1 | apply BoxN.set2_1 | apply BoxN.set2_0 | refine BoxN.ext ?_ aS)); done)
     | (show MI t w u ((pre ++ [x]).map (·.1)) _; rw [map_snoc]; refine ⟨⟨⟨⟨⟨⟨⟨⟨_, ?_, HA.out⟩, ?_⟩, ?_⟩, ?_⟩, ?_⟩, ?_⟩, ?_⟩, HG.out⟩ <;> ((with_reducible repeat (first | assumption | exact KeepsFrom.refl _ _ | refine KF.set ?_ _ _ | refine KF.alloc ?_ _ | refine KF.drew ?_ | refine KF.drewN ?_ _ | refine KF.ext ?_ aS | exact Below.refl _ _ | refine BL.set ?_ _ _ _ oM | refine BL.alloc ?_ _ oM | refine BL.drew ?_ | refine BL.drewN ?_ _ | refine BL.ext ?_ aS oM | exact Ext.refl _ | refine Ext.set ?_ oM _ | refine Ext.alloc ?_ _ | refine Ext.drew ?_ | refine Ext.drewN ?_ _ | refine Ext.trans ?_ aS | refine BoxN.alloc ?_ _ | refine BoxN.drew ?_ | refine BoxN.drewN ?_ _ | refine BoxN.other ?_ oM _ | refine BoxN.set ?_ _ _ | apply BoxN.set1 | apply BoxN.set2_1 | apply BoxN.set2_0 | refine BoxN.ext ?_ aS)); done))
 case done =>
  rintro D ys W hD hys ⟨⟨⟨⟨⟨⟨⟨⟨cs, hb, hA⟩, r1⟩, r2⟩, r3⟩, lb⟩, tb⟩, hx⟩, hg⟩ hK
  rw [hys] at hA hg
  have l0 := lb.cell (j := 0) rfl
  have q1 := r1.frozen 0
  have q2 := r2.frozen 0
  have q3 := r2.frozen 1
  have q4 := r3.frozen 0
  have p1 := r1.cell (j := 0) rfl
  have p2 := r2.cell (j := 0) rfl
  have p3 := r2.cell (j := 1) rfl
  have p4 := r3.cell (j := 0) rfl
  gi_wp2
  obtain ⟨Wr, hWr⟩ : ∃ Wr, ((((W.setCell ⟨w.heap.size + 1, 0, none⟩ (Value.pointer (some ⟨w.heap.size + 1 + 1 + 1 + 1, 0, none⟩))).setCell ⟨w.heap.size + 1 + 1, 0, none⟩ (Value.int .i64 0)).setCell ⟨w.heap.size + 1 + 1, 1, none⟩ (Value.int .i64 0)).setCell ⟨w.heap.size + 1 + 1 + 1, 0, none⟩ (Value.int .i64 0)) = Wr := ⟨_, rfl⟩
  rw [hWr]
  have s1 : BoxN Wr (w.heap.size + 1) 203 #[.pointer (some ⟨w.heap.size + 1 + 1 + 1 + 1, 0, none⟩)] := by rw [← hWr]; exact kW0
  have s2 : BoxN Wr (w.heap.size + 1 + 1) 68 #[.int .i64 0, .int .i64 0] := by rw [← hWr]; exact kW0
  have s3 : BoxN Wr (w.heap.size + 1 + 1 + 1) 50 #[.int .i64 0] := by rw [← hWr]; exact kW0
  have sb : BoxN Wr (w.heap.size + 1 + 1 + 1 + 1) 220 cs := by rw [← hWr]; exact kW0
  have sx : Ext w Wr := by rw [← hWr]; exact kW0
  have hKW : Wr.heap[D]? = some (.deferred (some [])) := by rw [← hWr]; exact (KF.set (KF.set (KF.set (KF.set (KeepsFrom.refl W0.heap.size W) _ _) _ _) _ _) _ _).same D _ hD hK rfl
  clear hWr
  have e1 := (s1.putObj hKW rfl (.deferred none)).cell (j := 0) rfl
  have e2 := (s2.putObj hKW rfl (.deferred none)).cell (j := 0) rfl
  have e3 := (s2.putObj hKW rfl (.deferred none)).cell (j := 1) rfl
  have e4 := (s3.putObj hKW rfl (.deferred none)).cell (j := 0) rfl
  refine ⟨by simp, .inl ⟨_, _, rfl, run_takeDeferred hKW, ?_⟩⟩
  refine ⟨.tuple #[.pointer (some ⟨w.heap.size + 1 + 1 + 1 + 1, 0, none⟩), idVal (0, 0), .int .i64 0], ?_, sx.putObj oM hKW _, .inr ⟨pair_done hg, _, cs, by omega, sb.putObj hKW rfl _, hA, rfl⟩⟩
  simp [results, Tryd.f131, go_sem, e1, e2, e3, e4, idVal]
 case stop =>
  rintro D c pre W hD hpre ⟨rfl, a, x, ⟨⟨⟨⟨hp, hg, hne⟩, r1⟩, r2⟩, r3⟩, hx⟩ hK
  rw [hp] at hpre
  have hst := hide (pair_stop hpre hg hne)
  gi_wp2
  have e1 := (r1.putObj hK rfl (.deferred none)).cell (j := 0) rfl
  have e2 := (r2.putObj hK rfl (.deferred none)).cell (j := 0) rfl
  have e3 := (r2.putObj hK rfl (.deferred none)).cell (j := 1) rfl
  have e4 := (r3.putObj hK rfl (.deferred none)).cell (j := 0) rfl
  refine ⟨by simp, .inl ⟨_, _, rfl, run_takeDeferred hK, ?_⟩⟩
  refine ⟨.tuple #[.pointer none, idVal x, .int .i64 (localF t a x)], ?_, hx.putObj oM hK _, .inl ⟨x, hst.out.1, by rw [hst.out.2]⟩⟩
  simp [results, Tryd.f131, go_sem, e1, e2, e3, e4, idVal]
end Go.Proofs.YtnihdkfmmbpilaaDoor
namespace Go.Proofs.YtnihdkfmmbpilaaDoor
open Go.RowKit
set_option linter.unusedVariables false

def SlC (size : Nat) (w : World) (v : Value) (m : Nat) (cs : List Value) : Prop :=
 cs.length = m * size ∧ ∃ A c, v = .slice A m c ∧ m ≤ c ∧ c ≤ maxLen ∧ (0 < m → ∃ b off, A = some ⟨b, off, none⟩ ∧ ∀ j u, cs[j]? = some u → w.cell? ⟨b, off + j, none⟩ = some u)
def OwnC (size : Nat) (e : TypeId) (w : World) (B : Nat) (v : Value) (n : Nat) (cs : List Value) : Prop :=
 cs.length = n * size ∧ ((v = .slice none 0 0 ∧ n = 0) ∨ ∃ g off cap cur, v = .slice (some ⟨g, off, none⟩) n cap ∧ B ≤ g ∧ BoxN w g e cur ∧ n ≤ cap ∧ cap ≤ maxLen ∧ off + cap * size ≤ cur.size ∧ ∀ j u, cs[j]? = some u → cur[off + j]? = some u)
structure ElS (P : Program) (t e : TypeId) (z : Value) (size bytes : Nat) : Prop where
 ht : P.underlying t = some (.slice e)
 inf : ∃ i : TypeInfo, P.info? e = some i ∧ i.zero = some z ∧ i.size = size ∧ i.bytes = bytes
 zs : z.cells.size = size
 pos : 0 < size
 few : bytes ≤ 128

theorem addr_lit (b off j : Nat) : (⟨b, off, none⟩ : Addr).add j = ⟨b, off + j, none⟩ := by unfold Addr.add; split <;> simp_all

section
variable {size : Nat} {e : TypeId} {w w' : World} {B : Nat} {v v' : Value} {n : Nat} {cs : List Value}
theorem OwnC.nil (size : Nat) (e : TypeId) (w : World) (B : Nat) : OwnC size e w B (.slice none 0 0) 0 [] := ⟨by simp, .inl ⟨rfl, rfl⟩⟩
theorem OwnC.kept (h : OwnC size e w B v n cs) {row : Option Nat} (hg : w.grownBy w' row) (hne : v.ownBlock = none ∨ v.ownBlock ≠ row) : OwnC size e w' B v n cs := by
 refine ⟨h.1, ?_⟩
 rcases h.2 with h2 | ⟨g, off, cap, cur, rfl, hB, hb, rest⟩
 ·exact .inl h2
 ·refine .inr ⟨g, off, cap, cur, rfl, hB, hb.kept hg ?_, rest⟩
  rcases hne with h3 | h3
  ·cases h3
  ·exact h3
theorem OwnC.alloc (h : OwnC size e w B v n cs) (o : Obj) : OwnC size e (w.alloc o) B v n cs := h.kept (World.grownBy_alloc w o none) (by cases v.ownBlock <;> simp)
theorem OwnC.drew (h : OwnC size e w B v n cs) : OwnC size e w.drew B v n cs := h
theorem OwnC.drewN (h : OwnC size e w B v n cs) (k : Nat) : OwnC size e (w.drewN k) B v n cs := h
theorem OwnC.ext (h : OwnC size e w B v n cs) (he : Ext w w') : OwnC size e w' B v n cs :=
 h.kept (row := none) ⟨he.os, he.tape, he.output, he.size, fun k hk _ => he.block k hk⟩ (by cases v.ownBlock <;> simp)
theorem OwnC.other (h : OwnC size e w B v n cs) {b j : Nat} (hne : v.ownBlock ≠ some b) (u : Value) : OwnC size e (w.setCell ⟨b, j, none⟩ u) B v n cs := by
 refine ⟨h.1, ?_⟩
 rcases h.2 with h2 | ⟨g, off, cap, cur, rfl, hB, hb, rest⟩
 ·exact .inl h2
 ·exact .inr ⟨g, off, cap, cur, rfl, hB, hb.other (fun e => hne (by simp [Value.ownBlock, e])) u, rest⟩
theorem OwnC.mono {B' : Nat} (h : OwnC size e w B v n cs) (hB : B' ≤ B) : OwnC size e w B' v n cs := by
 refine ⟨h.1, ?_⟩
 rcases h.2 with h2 | ⟨g, off, cap, cur, rfl, hb, rest⟩
 ·exact .inl h2
 ·exact .inr ⟨g, off, cap, cur, rfl, Nat.le_trans hB hb, rest⟩
theorem OwnC.blk (h : OwnC size e w B v n cs) : ∀ k, v.ownBlock = some k → B ≤ k ∧ k < w.heap.size := by
 intro k hk
 rcases h.2 with ⟨rfl, _⟩ | ⟨g, off, cap, cur, rfl, hb, hbox, _⟩
 ·cases hk
 ·simp [Value.ownBlock] at hk; subst hk; exact ⟨hb, hbox.lt⟩
theorem OwnC.not_box (h : OwnC size e w B v n cs) {b : Nat} {t : TypeId} {xs : Array Value} (hb : BoxN w b t xs) (hte : t ≠ e) : v.ownBlock ≠ some b := by
 rcases h.2 with ⟨rfl, _⟩ | ⟨g, off, cap, cur, rfl, _, hbox, _⟩
 ·simp [Value.ownBlock]
 ·intro he
  simp [Value.ownBlock] at he
  subst he
  have := (show w.heap[g]? = _ from hbox).symm.trans hb
  injection this with this
  injection this with _ h2 _
  exact hte h2.symm
theorem OwnC.form (h : OwnC size e w B v n cs) : ∃ A c, v = .slice A n c ∧ n ≤ c ∧ c ≤ maxLen := by
 rcases h.2 with ⟨rfl, rfl⟩ | ⟨g, off, cap, cur, rfl, _, _, h1, h2, _⟩
 ·exact ⟨none, 0, rfl, Nat.le_refl _, by simp [maxLen]⟩
 ·exact ⟨_, cap, rfl, h1, h2⟩
theorem OwnC.slc (h : OwnC size e w B v n cs) : SlC size w v n cs := by
 refine ⟨h.1, ?_⟩
 rcases h.2 with ⟨rfl, rfl⟩ | ⟨g, off, cap, cur, rfl, _, hb, h1, h2, _, hc⟩
 ·exact ⟨none, 0, rfl, Nat.le_refl _, by simp [maxLen], fun h => absurd h oM⟩
 ·exact ⟨_, cap, rfl, h1, h2, fun _ => ⟨g, off, rfl, fun j u hj => hb.cell (hc j u hj)⟩⟩
theorem OwnC.open_ (h : OwnC size e w B v n cs) (h0 : 0 < n) : ∃ g off cap cur, v = .slice (some ⟨g, off, none⟩) n cap ∧ B ≤ g ∧ BoxN w g e cur ∧ n ≤ cap ∧ cap ≤ maxLen ∧ off + cap * size ≤ cur.size ∧ ∀ j u, cs[j]? = some u → cur[off + j]? = some u := by
 rcases h.2 with ⟨_, h1⟩ | h2
 ·omega
 ·exact h2
theorem OwnC.made (w : World) (xs : Array Value) (hB : B ≤ w.heap.size) (hm : n ≤ maxLen) (hc : xs.size = n * size) : OwnC size e (w.alloc (.cells xs e)) B (.slice (some ⟨w.heap.size, 0, none⟩) n n) n xs.toList :=
 ⟨by simpa using hc, .inr ⟨_, 0, n, xs, rfl, hB, BoxN.new w e xs, Nat.le_refl _, hm, by omega, fun j u h => by simpa using h⟩⟩
theorem OwnC.madeAt {w : World} {g : Nat} (hg : g = w.heap.size) (xs : Array Value) (hB : B ≤ w.heap.size) (hm : n ≤ maxLen) (hc : xs.size = n * size) : OwnC size e (w.alloc (.cells xs e)) B (.slice (some ⟨g, 0, none⟩) n n) n xs.toList := by
 subst hg; exact OwnC.made w xs hB hm hc
theorem OwnC.take {A : Option Addr} {c : Nat} (h : OwnC size e w B (.slice A n c) n cs) (k : Nat) (hk : k ≤ n) : OwnC size e w B (.slice A k c) k (cs.take (k * size)) := by
 have hl : (cs.take (k * size)).length = k * size := by
  rw [List.length_take, h.1]; exact Nat.min_eq_left (Nat.mul_le_mul_right _ hk)
 refine ⟨hl, ?_⟩
 rcases h.2 with ⟨hv, h0⟩ | ⟨g, off, cap, cur, hv, hB, hb, h1, h2, h3, hc⟩
 ·injection hv with e1 e2 e3; subst e1; subst e3
  obtain rfl : k = 0 := by omega
  exact .inl ⟨rfl, rfl⟩
 ·injection hv with e1 e2 e3; subst e1; subst e3
  refine .inr ⟨g, off, _, cur, rfl, hB, hb, by omega, h2, h3, fun j u hj => hc j u ?_⟩
  rw [List.getElem?_take] at hj
  split at hj
  ·exact hj
  ·cases hj
theorem OwnC.drop {A A' : Option Addr} {c : Nat} (h : OwnC size e w B (.slice A n c) n cs) (k : Nat) (hk : k ≤ n) (hA : ∀ b off, A = some ⟨b, off, none⟩ → A' = some ⟨b, off + k * size, none⟩ ∨ (c = k ∧ A' = A)) (hA0 : A = none → A' = none) :
  OwnC size e w B (.slice A' (n - k) (c - k)) (n - k) (cs.drop (k * size)) := by
 have hl : (cs.drop (k * size)).length = (n - k) * size := by rw [List.length_drop, h.1, Nat.sub_mul]
 refine ⟨hl, ?_⟩
 rcases h.2 with ⟨hv, h0⟩ | ⟨g, off, cap, cur, hv, hB, hb, h1, h2, h3, hc⟩
 ·injection hv with e1 e2 e3; subst e1; subst e3
  rw [hA0 rfl]
  obtain rfl : k = 0 := by omega
  subst h0
  exact .inl ⟨rfl, rfl⟩
 ·injection hv with e1 e2 e3; subst e1; subst e3
  rcases hA g off rfl with rfl | ⟨hk2, rfl⟩
  ·refine .inr ⟨g, off + k * size, _, cur, rfl, hB, hb, by omega, by omega, ?_, fun j u hj => ?_⟩
   ·have : k * size + (c - k) * size = c * size := by rw [← Nat.add_mul]; congr 1; omega
    omega
   ·rw [List.getElem?_drop] at hj
    have := hc _ u hj
    rwa [show off + k * size + j = off + (k * size + j) by omega]
  ·subst hk2
   obtain rfl : c = n := by omega
   refine .inr ⟨g, off, _, cur, rfl, hB, hb, by omega, by omega, by simp; omega, fun j u hj => ?_⟩
   have : (cs.drop (c * size)) = [] := List.drop_eq_nil_of_le (by rw [h.1]; exact Nat.le_refl _)
   rw [this] at hj; cases hj
theorem OwnC.set {g off cap : Nat} (h : OwnC size e w B (.slice (some ⟨g, off, none⟩) n cap) n cs) (j : Nat) (hj : j < n * size) (u : Value) : OwnC size e (w.setCell ⟨g, off + j, none⟩ u) B (.slice (some ⟨g, off, none⟩) n cap) n (cs.set j u) := by
 refine ⟨by rw [List.length_set]; exact h.1, ?_⟩
 rcases h.2 with ⟨hv, h0⟩ | ⟨g', off', cap', cur, hv, hB, hb, h1, h2, h3, hc⟩
 ·cases hv
 ·injection hv with e1 e2 e3
  injection e1 with e1
  injection e1 with e4 e5
  subst e3; subst e4; subst e5
  refine .inr ⟨g, off, cap, _, rfl, hB, hb.set _ _, h1, h2, by simpa using h3, fun k x hk => ?_⟩
  rw [Array.getElem?_setIfInBounds]
  rw [List.getElem?_set] at hk
  by_cases hjk : j = k
  ·subst hjk
   rw [if_pos rfl] at hk ⊢
   have : n * size ≤ cap * size := Nat.mul_le_mul_right _ h1
   rw [if_pos oM]
   rw [if_pos (by rw [h.1]; exact hj)] at hk
   exact hk
  ·rw [if_neg hjk] at hk
   rw [if_neg oM]
   exact hc k x hk
theorem SlC.ext {m : Nat} {u : Value} (h : SlC size w u m cs) (he : Ext w w') : SlC size w' u m cs := by
 obtain ⟨hl, A, c, hv, h1, h2, h3⟩ := h
 refine ⟨hl, A, c, hv, h1, h2, fun h0 => ?_⟩
 obtain ⟨b, off, hA, hc⟩ := h3 h0
 exact ⟨b, off, hA, fun j u hj => he.cellAt (hc j u hj)⟩
theorem SlC.nil (size : Nat) (w : World) : SlC size w (.slice none 0 0) 0 [] := ⟨by simp, none, 0, rfl, Nat.le_refl _, by simp [maxLen], fun h => absurd h oM⟩
theorem SlC.first {P : Program} {m : Nat} {u : Value} {ns : List Value} (h : SlC size w u m ns) : ∃ A c, u = .slice A m c ∧ ∀ W, Ext w W → (Builtin.firstCells size m u).run P W = .ok ns.toArray W := by
 obtain ⟨hl, A, c, rfl, h1, h2, h3⟩ := h
 refine ⟨A, c, rfl, fun W he => ?_⟩
 rcases Nat.eq_zero_or_pos m with rfl | h0
 ·have hn : ns = [] := List.eq_nil_of_length_eq_zero (by rw [hl]; simp)
  subst hn
  cases A <;> simp [Builtin.firstCells, loadCells, loadCellsFrom]
 ·obtain ⟨b, off, rfl, hc⟩ := h3 h0
  exact run_firstCells_some W size m ⟨b, off, none⟩ m c ns hl (fun j x hx => by rw [addr_lit]; exact he.cellAt (hc j x hx))

theorem run_appC {P : Program} {t : TypeId} {z : Value} {bytes : Nat} (I : ElS P t e z size bytes) (ty : TypeId) {u : Value} {m : Nat} {ns : List Value} (hown : OwnC size e w B v n cs) (hu : SlC size w u m ns) (h1 : ∀ x ∈ ns, x.oneCell' = true)
  (h63 : n + m ≤ 1099511627776) (hB : B ≤ w.heap.size) :
  ∃ v' w', (Builtin.append_ #[t, t] ty #[v, u]).run P w = .ok v' w' ∧ OwnC size e w' B v' (n + m) (cs ++ ns) ∧ w.grownBy w' v.ownBlock ∧ (v'.ownBlock = v.ownBlock ∨ v'.ownBlock = some w.heap.size) := by
 obtain ⟨i, hi, hz, hs, hb⟩ := I.inf
 subst hs
 obtain ⟨A, c, rfl, hf⟩ := hu.first (P := P)
 have hl := hu.1
 have hbytes : (n + m) * bytes ≤ 140737488355328 := by
  calc (n + m) * bytes ≤ 1099511627776 * 128 := Nat.mul_le_mul h63 I.few
   _ ≤ 140737488355328 := by decide
 have hlen : (cs ++ ns).length = (n + m) * i.size := by rw [List.length_append, hown.1, hl, Nat.add_mul]
 have hsmall : n + m ≤ maxLen := by simp only [maxLen]; omega
 rcases hown.2 with ⟨rfl, rfl⟩ | ⟨g, off, cap, cur, rfl, hBg, hbox, hnc, hcm, hfit, hc⟩
 ·rcases Nat.eq_zero_or_pos m with rfl | h0
  ·have hn : ns = [] := List.eq_nil_of_length_eq_zero (by rw [hl]; simp)
   have hcs : cs = [] := List.eq_nil_of_length_eq_zero (by rw [hown.1]; simp)
   subst hn; subst hcs
   have := hf w (Ext.refl w)
   refine ⟨.slice none 0 0, w, ?_, OwnC.nil _ _ _ _, World.grownBy.refl _ _, .inl rfl⟩
   simp [Builtin.append_, run_underlying I.ht, sizeOf, typeInfo, hi, Builtin.lenOf, this]
  ·obtain ⟨_, A', c', hv, _, _, h3⟩ := hu
   injection hv with e1 _ e3; subst e1; subst e3
   obtain ⟨b, off, rfl, hcell⟩ := h3 h0
   have hcs : cs = [] := List.eq_nil_of_length_eq_zero (by rw [hown.1]; simp)
   subst hcs
   have hr := run_append_nil (P := P) w t ty e i z I.ht hi hz ⟨b, off, none⟩ m c ns hl (fun j x hx => by rw [addr_lit]; exact hcell j x hx) h0 oM (by rw [hb]; simp at hbytes; omega)
   have hge := grownCap_ge w m 0 e
   have hcm := grownCap_le_maxLen w m 0 e oM
   refine ⟨_, _, hr, ?_, ⟨rfl, rfl, rfl, by simp, fun k hk _ => Below.heap_alloc w.drew _ k hk⟩, .inr rfl⟩
   rw [Nat.zero_add, List.nil_append]
   refine ⟨hl, .inr ⟨w.heap.size, 0, _, _, rfl, hB, heap_alloc_new w.drew _, hge, hcm, ?_, fun j x hj => ?_⟩⟩
   ·simp only [Array.size_append, List.size_toArray, size_zeroCells, I.zs, hl, ← Nat.add_mul]
    rw [Nat.zero_add]
    exact Nat.le_of_eq (by congr 1; omega)
   ·rw [Nat.zero_add]
    obtain ⟨hjl, _⟩ := List.getElem?_eq_some_iff.1 hj
    rw [Array.getElem?_append_left (by simpa using hjl)]
    simpa using hj
 ·by_cases hroom : n + m ≤ cap
  ·have hns : off + n * i.size + ns.length ≤ cur.size := by
    have : n * i.size + m * i.size ≤ cap * i.size := by rw [← Nat.add_mul]; exact Nat.mul_le_mul_right _ hroom
    rw [hl]; omega
   have hst := run_storeCells_at P g (off + n * i.size) e ns 0 cur w hbox (by simpa using hns) h1
   simp only [Nat.add_zero] at hst
   refine ⟨.slice (some ⟨g, off, none⟩) (n + m) cap, w.setRow g (cur.toList.take (off + n * i.size) ++ ns ++ cur.toList.drop (off + n * i.size + ns.length)).toArray, ?_, ?_, ⟨rfl, rfl, rfl, by simp, fun k _ hk => setRow_other w g k _ (fun e => hk (by simp [e, Value.ownBlock]))⟩, .inl rfl⟩
   ·simp [Builtin.append_, run_underlying I.ht, sizeOf, typeInfo, hi, Builtin.lenOf, hroom, hf w (Ext.refl w), addr_lit, hst]
   ·refine ⟨hlen, .inr ⟨g, off, cap, _, rfl, hBg, setRow_heap w g cur _ e _ hbox, hroom, hcm, ?_, fun j x hj => ?_⟩⟩
    ·simp; omega
    ·have hjl := (List.getElem?_eq_some_iff.1 hj).1
     rw [List.length_append, hown.1] at hjl
     simp only [List.getElem?_toArray]
     by_cases hjn : j < n * i.size
     ·rw [List.append_assoc, List.getElem?_append_left (by simp; omega), List.getElem?_take, if_pos oM]
      rw [List.getElem?_append_left (by rw [hown.1]; exact hjn)] at hj
      simpa using hc j x hj
     ·have htl : (cur.toList.take (off + n * i.size)).length = off + n * i.size := by simp; omega
      rw [List.append_assoc, List.getElem?_append_right (by rw [htl]; omega), htl, List.getElem?_append_left oM]
      rw [List.getElem?_append_right (by rw [hown.1]; omega), hown.1] at hj
      rw [show off + j - (off + n * i.size) = j - n * i.size by omega]
      exact hj
  ·have h0 : 0 < m := by omega
   obtain ⟨_, A', c', hv, _, _, h3⟩ := hu
   injection hv with e1 _ e3; subst e1; subst e3
   obtain ⟨b, off2, rfl, hcell⟩ := h3 h0
   have hr := run_append_grow (P := P) w t ty e i z I.ht hi hz ⟨g, off, none⟩ n cap cs hown.1 (fun j x hx => by rw [addr_lit]; exact hbox.cell (hc j x hx)) ⟨b, off2, none⟩ m c ns hl (fun j x hx => by rw [addr_lit]; exact hcell j x hx) oM oM
    (growslice_fits oM (by rw [hb]; exact hbytes))
   have hge := grownCap_ge w (n + m) cap e
   have hcm := grownCap_le_maxLen w (n + m) cap e hsmall
   refine ⟨_, _, hr, ?_, ⟨rfl, rfl, rfl, by simp, fun k hk _ => Below.heap_alloc w.drew _ k hk⟩, .inr rfl⟩
   refine ⟨hlen, .inr ⟨w.heap.size, 0, _, _, rfl, hB, heap_alloc_new w.drew _, hge, hcm, ?_, fun j x hj => ?_⟩⟩
   ·simp only [Array.size_append, List.size_toArray, size_zeroCells, I.zs, hown.1, hl, ← Nat.add_mul]
    rw [Nat.zero_add]
    exact Nat.le_of_eq (by congr 1; omega)
   ·rw [Nat.zero_add]
    obtain ⟨hjl, _⟩ := List.getElem?_eq_some_iff.1 hj
    rw [Array.getElem?_append_left (by simpa using hjl)]
    simpa using hj
end

theorem wpl_appC {P : Program} {w : World} {ops : Array Oper} {rest : List Oper} {o : Oper} {a : Act} {Q : Exit → Act → World → Prop} (s x : Operand) {t : TypeId} {size : Nat} {e : TypeId} {z : Value} {bytes : Nat} (I : ElS P t e z size bytes)
  (hgd : o.guard = none) (ho : o.op = .call { callee := .builtin .append, args := #[s, x], argTypes := #[t, t] })
  {B n m : Nat} {v u : Value} {cs ns : List Value} (hs : a.eval s = v) (hx : a.eval x = u) (hown : OwnC size e w B v n cs) (hu : SlC size w u m ns) (h1 : ∀ x ∈ ns, x.oneCell' = true) (h63 : n + m ≤ 1099511627776) (hB : B ≤ w.heap.size)
  (h : ∀ v' w', OwnC size e w' B v' (n + m) (cs ++ ns) → Grw w v w' v' → Below B w w' → wpList P ops Q rest (a.put o.dst v') w') : wpList P ops Q (o :: rest) a w := by
 obtain ⟨v', w', hrun, h2, h3, h4⟩ := run_appC (P := P) I o.type hown hu h1 h63 hB
 refine wpList_plain hgd fun K hK => ?_
 unfold Oper.wp execOp
 simp only [ho, resolve, invoke, builtin, Sem.run_bind, Sem.run_pure, Result.andThen_ok, List.map_toArray, List.map_cons, List.map_nil, hs, hx, hrun]
 have hg : Grw w v w' v' := ⟨h3, fun k hk => by
  rcases h4 with h4 | h4
  ·exact .inl (by rw [← h4]; exact hk)
  ·rw [h4] at hk; injection hk with hk; exact .inr oM⟩
 exact hK _ _ (h v' w' h2 hg (hg.below (fun k hk => (hown.blk k hk).1) hB))
theorem wpl_appCIn {F : Fence} {nn : Nat} {P : Program} {w : World} {ops : Array Oper} {rest : List Oper} {o : Oper} {a : Act} {Q : Exit → Act → World → Prop} (s x : Operand) {t : TypeId} {size : Nat} {e : TypeId} {z : Value} {bytes : Nat} (I : ElS P t e z size bytes)
  (hgd : o.guard = none) (ho : o.op = .call { callee := .builtin .append, args := #[s, x], argTypes := #[t, t] })
  {B n m : Nat} {v u : Value} {cs ns : List Value} (hs : a.eval s = v) (hx : a.eval x = u) (hown : OwnC size e w B v n cs) (hu : SlC size w u m ns) (h1 : ∀ x ∈ ns, x.oneCell' = true) (h63 : n + m ≤ 1099511627776) (hB : B ≤ w.heap.size)
  (h : ∀ v' w', OwnC size e w' B v' (n + m) (cs ++ ns) → Grw w v w' v' → Below B w w' → wpListIn F nn P ops Q rest (a.put o.dst v') w') : wpListIn F nn P ops Q (o :: rest) a w := by
 obtain ⟨v', w', hrun, h2, h3, h4⟩ := run_appC (P := P) I o.type hown hu h1 h63 hB
 have hg : Grw w v w' v' := ⟨h3, fun k hk => by
  rcases h4 with h4 | h4
  ·exact .inl (by rw [← h4]; exact hk)
  ·rw [h4] at hk; injection hk with hk; exact .inr oM⟩
 refine wpListIn_plain hgd fun K hK => ?_
 unfold Oper.wpIn
 refine ⟨?_, ?_⟩
 ·simp [Oper.about, ho, resolve, Target.leads, Sem.run_pure]
 ·rw [Oper.semAt_plain F _ _ (by rw [ho]; intro c hc'; cases hc')]
  simp [execOp, ho, resolve, invoke, builtin, hs, hx, hrun, Result.andThen]
  exact hK _ _ (h v' w' h2 hg (hg.below (fun k hk => (hown.blk k hk).1) hB))
theorem step_appC {P : Program} {w : World} {ops : Array Oper} {o : Oper} {a : Act} {K : Act → World → Prop} {Q : Exit → Act → World → Prop} {E : Prop} (s x : Operand) {t : TypeId} {size : Nat} {e : TypeId} {z : Value} {bytes : Nat} (I : ElS P t e z size bytes)
  (hgd : o.guard = none) (ho : o.op = .call { callee := .builtin .append, args := #[s, x], argTypes := #[t, t] })
  {B n m : Nat} {v u : Value} {cs ns : List Value} (hs : a.eval s = v) (hx : a.eval x = u) (hown : OwnC size e w B v n cs) (hu : SlC size w u m ns) (h1 : ∀ x ∈ ns, x.oneCell' = true) (h63 : n + m ≤ 1099511627776) (hB : B ≤ w.heap.size)
  (h : ∀ v' w', OwnC size e w' B v' (n + m) (cs ++ ns) → Grw w v w' v' → Below B w w' → K (a.put o.dst v') w') : if Region.wanted o (yielded ops a.tmps) = true then Oper.wp P o a w K Q else E := by
 have hw : Region.wanted o (yielded ops a.tmps) = true := by simp [Region.wanted, hgd]
 rw [if_pos hw]
 obtain ⟨v', w', hrun, h2, h3, h4⟩ := run_appC (P := P) I o.type hown hu h1 h63 hB
 unfold Oper.wp execOp
 simp only [ho, resolve, invoke, builtin, Sem.run_bind, Sem.run_pure, Result.andThen_ok, List.map_toArray, List.map_cons, List.map_nil, hs, hx, hrun]
 have hg : Grw w v w' v' := ⟨h3, fun k hk => by
  rcases h4 with h4 | h4
  ·exact .inl (by rw [← h4]; exact hk)
  ·rw [h4] at hk; injection hk with hk; exact .inr oM⟩
 exact h v' w' h2 hg (hg.below (fun k hk => (hown.blk k hk).1) hB)
end Go.Proofs.YtnihdkfmmbpilaaDoor
namespace Go.Proofs.YtnihdkfmmbpilaaDoor
open Go.RowKit
set_option linter.unusedVariables false

theorem elId : ElS Tryd.prog 59 68 (.agg #[.int .i64 0, .int .i64 0]) 2 16 where
 ht := Tryd.underlying59
 inf := by
  have h : (Tryd.prog.info? 68).map (fun i => (i.zero, i.size, i.bytes)) = some (some (.agg #[.int .i64 0, .int .i64 0]), 2, 16) := by kernel_rfl
  obtain ⟨i, hi, he⟩ := Option.map_eq_some_iff.1 h
  injection he with h1 h2
  injection h2 with h2 h3
  exact ⟨i, hi, h1, h2, h3⟩
 zs := by rfl
 pos := by decide
 few := by decide

def idC (x : Nat × Nat) : List Value := [.int .i64 x.1, .int .i64 x.2]
def idsC (l : List (Nat × Nat)) : List Value := l.flatMap idC
theorem idsC_len (l : List (Nat × Nat)) : (idsC l).length = l.length * 2 := by
 unfold idsC; induction l with
 | nil => rfl
 | cons x l ih => simp [idC] at ih ⊢; omega
theorem idsC_one (l : List (Nat × Nat)) : ∀ u ∈ idsC l, u.oneCell' = true := by
 intro u hu
 obtain ⟨x, _, h⟩ := List.mem_flatMap.1 hu
 simp [idC] at h
 rcases h with rfl | rfl <;> rfl
theorem SlC.lit {w : World} {g : Nat} {x : Nat × Nat} {a b : Int} (T : TypeId) (hg : g = w.heap.size) (ha : a = x.1) (hb : b = x.2) : SlC 2 (w.alloc (.cells #[.int .i64 a, .int .i64 b] T)) (.slice (some ⟨g, 0, none⟩) 1 1) 1 (idsC [x]) := by
 subst ha; subst hb
 have := (OwnC.madeAt (B := 0) (e := T) (n := 1) (size := 2) hg #[.int .i64 x.1, .int .i64 x.2] (Nat.zero_le _) (by simp [maxLen]) rfl).slc
 simpa [idsC, idC] using this
def OwnIds (w : World) (B : Nat) (v : Value) (l : List (Nat × Nat)) : Prop := OwnC 2 68 w B v l.length (idsC l)
theorem OwnIds.snoc {w : World} {B : Nat} {v : Value} {l : List (Nat × Nat)} {x : Nat × Nat} {n : Nat} (h : OwnC 2 68 w B v (n + 1) (idsC l ++ idsC [x])) (hn : n = l.length) : OwnIds w B v (l ++ [x]) := by
 subst hn
 unfold OwnIds
 rw [List.length_append, show idsC (l ++ [x]) = idsC l ++ idsC [x] by simp [idsC]]
 exact h
def toB (t : Tr) (x : Nat × Nat) : Bool := (evAt t x).kind == 2 && decide (0 < (firstOf t (ids t) 3 (evAt t x).msg).2)
def dirL (t : Tr) (x : Nat × Nat) : List (Nat × Nat) := (if x.2 < (evsOf t x.1).length then [(x.1, x.2 + 1)] else []) ++ if toB t x then [firstOf t (ids t) 3 (evAt t x).msg] else []
theorem dirL_eq {t : Tr} {p j : Nat} {e : Ev} (hp : p < t.length) (hj : j < t[p].evs.length) (he : evAt t (p, j + 1) = e) : dirL t (p, j + 1) = (if j + 1 < t[p].evs.length then [(p, j + 2)] else []) ++ if toB t (p, j + 1) then [firstOf t (ids t) 3 e.msg] else [] := by
 unfold dirL evsOf; simp only [getD_lt dfPr t hp, he]
def RetIds (w : World) (l : List (Nat × Nat)) (e : Ending) (w' : World) : Prop := ∃ v', e = .returned v' ∧ OwnIds w' w.heap.size v' l ∧ Ext w w'

set_option maxRecDepth 100000 in
set_option maxHeartbeats 2000000 in
theorem after_any (u : Value) (t : Tr) (p i bL : Nat) (cs : Array Value) (w : World) (hl : t.length ≤ 1000000) (hle : ∀ x ∈ t, x.evs.length ≤ 1000000) (hs : SlR 3 RPr w u t) (hx : (p, i) ∈ ids t) (hform : ∀ x ∈ ids t, formedB t.length x.1 (evAt t x) = true)
  (hL : BoxN w bL 220 cs) (hA : LetA t (ids t) cs) :
  Calls Tryd.prog 148 #[.agg #[u], .pointer (some ⟨bL, 0, none⟩), idVal (p, i)] w fun e w' => RetIds w (dirL t (p, i)) e w' := by
 obtain ⟨hp, hi1, hi2⟩ := mem_ids.1 hx
 simp only at hp hi1 hi2
 obtain ⟨j, rfl⟩ : ∃ j, i = j + 1 := ⟨i - 1, by omega⟩
 have hev := evAt_eq hp (show j < t[p].evs.length by omega)
 obtain ⟨A, c, rfl, _, _, hc⟩ := hs.at_
 obtain ⟨b, off, rfl, hel⟩ := hc oM
 obtain ⟨_, _, v2, d2, hs2⟩ := hel p hp
 obtain ⟨A2, cc2, rfl, _, _, hc3⟩ := hs2.at_
 obtain ⟨b2, off2, rfl, hel2⟩ := hc3 oM
 obtain ⟨g0, g1, g2, g3, va, g4, hs4⟩ := hel2 j oM
 obtain ⟨A4, cc4, rfl, _, _, _⟩ := hs4.at_
 have hb := lt_of_cell d2
 have hb1 : b < w.heap.size + 1 := by omega
 have hb2 := lt_of_cell g0
 have hb21 : b2 < w.heap.size + 1 := by omega
 have hlj := hle _ (List.getElem_mem hp)
 have hj2 : (j : Int) < (t[p].evs.length : Int) := by omega
 have hform' := hide hform
 clear hs2 hs4 hel hel2 hc hc3 hform hs
 unfold idVal
 go_enter Tryd.func148, Tryd.ntmps148
 have hn' : j < t[p].evs.length := by omega
 have hn' : j < t[p].evs.length := by omega
 by_cases hn : j + 1 < t[p].evs.length
 ·have hd : decide (((j + 1 : Nat) : Int) < (t[p].evs.length : Int)) = true := by simp; omega
  have hd' : decide ((j : Int) + 1 < (t[p].evs.length : Int)) = true := by simp; omega
  go_wp2_with (at_builtin; go_must (refine wpl_appC (v := .slice none 0 0) (.tmp 22) (.tmp 29) elId rfl rfl rfl rfl (OwnC.nil _ _ _ w.heap.size) (SlC.lit (x := (p, j + 2)) _ (by simp) rfl (by push_cast; omega)) (idsC_one _) oM (by simp; omega) ?_; intro v1 w1 hown1 hgr1 hbl1; have he1 := hgr1.ext rfl; have hew1 : Ext w w1 := Ext.trans (((Ext.refl w).alloc _).alloc _ |>.alloc _) he1; have t0 := (((BoxN.new w 24 _).alloc _ |>.alloc _).ext he1).cell (j := 0) rfl; have x0 := (((BoxN.newAt (B := w.heap.size + 1) (W := w.alloc _) 68 _ (by simp)).alloc _).ext he1).cell (j := 0) rfl; have x1 := (((BoxN.newAt (B := w.heap.size + 1) (W := w.alloc _) 68 _ (by simp)).alloc _).ext he1).cell (j := 1) rfl; have e0 := hew1.cellAt g0; have e1 := hew1.cellAt g1; have e2 := hew1.cellAt g2; have e3 := hew1.cellAt g3; have e4 := hew1.cellAt g4; clear hgr1 hbl1))

  have hown6 : OwnIds (w1.alloc (.cells #[.int .i64 t[p].evs[j].kind, .int .i64 t[p].evs[j].peer, .int .i64 t[p].evs[j].msg, .int .i64 t[p].evs[j].time, .slice A4 t[p].evs[j].asg.length cc4] 74)) w.heap.size (v1) ([(p, j + 2)]) := (OwnIds.snoc (l := []) hown1 rfl).alloc _
  have hew6 : Ext w (w1.alloc (.cells #[.int .i64 t[p].evs[j].kind, .int .i64 t[p].evs[j].peer, .int .i64 t[p].evs[j].msg, .int .i64 t[p].evs[j].time, .slice A4 t[p].evs[j].asg.length cc4] 74)) := hew1.alloc _
  have b6 : BoxN (w1.alloc (.cells #[.int .i64 t[p].evs[j].kind, .int .i64 t[p].evs[j].peer, .int .i64 t[p].evs[j].msg, .int .i64 t[p].evs[j].time, .slice A4 t[p].evs[j].asg.length cc4] 74)) (w1.heap.size) 74 #[.int .i64 t[p].evs[j].kind, .int .i64 t[p].evs[j].peer, .int .i64 t[p].evs[j].msg, .int .i64 t[p].evs[j].time, .slice A4 t[p].evs[j].asg.length cc4] := BoxN.newAt _ _ (by simp)
  generalize hbe : w1.heap.size = be at *
  clear hbe
  generalize w1.alloc (.cells #[.int .i64 t[p].evs[j].kind, .int .i64 t[p].evs[j].peer, .int .i64 t[p].evs[j].msg, .int .i64 t[p].evs[j].time, .slice A4 t[p].evs[j].asg.length cc4] 74) = W6 at hown6 hew6 b6 ⊢
  have hL6 := hL.ext hew6
  have k0 := b6.cell (j := 0) rfl
  have k2 := b6.cell (j := 2) rfl
  cases k : t[p].evs[j].kind == 2
  ·have HD := hide (show dirL t (p, j + 1) = [(p, j + 2)] by rw [dirL_eq hp hn' hev]; unfold toB; rw [hev, k]; simp [hn])
   go_quiet (fail)
   revert nq; intro n1
   go_wp2
   go_ret
   exact ⟨_, rfl, by rw [HD.out]; exact hown6.drewN _, hew6.drewN _⟩
  ·obtain ⟨m, q, hm, hm2, _, _, _⟩ := formed_open (hform'.out (p, j + 1) hx) (by rw [hev]; cases h1 : t[p].evs[j].kind == 1 <;> simp_all)
   rw [hev] at hm
   have hm3 : (m : Int) < 200 := by omega
   rw [hm] at k2
   obtain ⟨_, _, a2, a3⟩ := hA.2 m hm2
   have c2 := hL6.cell a2
   have c3 := hL6.cell a3
   have HM := hide hm
   clear hm
   by_cases h0 : 0 < (firstOf t (ids t) 3 m).2
   ·have hd0 : decide ((0 : Int) < ((firstOf t (ids t) 3 m).2 : Int)) = true := by simp; omega
    have HD := hide (show dirL t (p, j + 1) = [(p, j + 2)] ++ [firstOf t (ids t) 3 m] by rw [dirL_eq hp hn' hev]; unfold toB; rw [hev, k, HM.out]; simp [hn, h0])
    go_quiet (fail)
    revert nq; intro n1
    go_wp2
    have hown7 := OwnC.drewN hown6 n1
    have hew7 := hew6.drewN n1
    have k27 : (W6.drewN n1).cell? ⟨be, 2, none⟩ = some (.int .i64 m) := k2
    have c27 : (W6.drewN n1).cell? ⟨bL, m * 4 + 2, none⟩ = some (.int .i64 (firstOf t (ids t) 3 m).1) := c2
    have c37 : (W6.drewN n1).cell? ⟨bL, m * 4 + 3, none⟩ = some (.int .i64 (firstOf t (ids t) 3 m).2) := c3
    clear k2 c2 c3 k0 hL6 b6 hown6
    generalize W6.drewN n1 = W7 at *
    have hsz := hew7.size
    go_region_law (first
     | (refine step_appC (v := v1) (.tmp 51) (.tmp 59) elId rfl rfl rfl rfl (hown7.ext (by repeat (first | exact Ext.refl _ | assumption | apply Ext.alloc | apply Ext.drew | apply Ext.drewN | (refine Ext.trans ?_ aS)))) (SlC.lit (x := firstOf t (ids t) 3 m) _ (by simp) rfl rfl) (idsC_one _) (by simp <;> omega) (by simp <;> omega) ?_; intro v8 w8 hown8 hgr8 hbl8))
    all_goals
     go_wp2
     go_ret
     exact ⟨v8, rfl, by rw [HD.out]; exact OwnIds.snoc hown8 rfl, Ext.more (by repeat (first | exact Ext.refl _ | assumption | apply Ext.alloc | apply Ext.drew | apply Ext.drewN | (refine Ext.trans ?_ aS))) hbl8⟩
   ·have hd0 : decide ((0 : Int) < ((firstOf t (ids t) 3 m).2 : Int)) = false := by simp; omega
    have HD := hide (show dirL t (p, j + 1) = [(p, j + 2)] by rw [dirL_eq hp hn' hev]; unfold toB; rw [hev, k, HM.out]; simp [hn, h0])
    go_quiet (fail)
    revert nq; intro n1
    go_wp2
    go_ret
    exact ⟨_, rfl, by rw [HD.out]; exact hown6.drewN _, hew6.drewN _⟩
 ·have hd : decide (((j + 1 : Nat) : Int) < (t[p].evs.length : Int)) = false := by simp; omega
  have hd' : decide ((j : Int) + 1 < (t[p].evs.length : Int)) = false := by simp; omega
  have hb22 : b2 < w.heap.size + 1 + 1 := by omega
  go_wp2_with fail

  have hown6 : OwnIds (((w.alloc (.cells #[.slice (some ⟨b, off, none⟩) t.length c] 24)).alloc (.cells #[.int .i64 p, .int .i64 ((j : Int) + 1)] 68)).alloc (.cells #[.int .i64 t[p].evs[j].kind, .int .i64 t[p].evs[j].peer, .int .i64 t[p].evs[j].msg, .int .i64 t[p].evs[j].time, .slice A4 t[p].evs[j].asg.length cc4] 74)) w.heap.size (Value.slice none 0 0) ([]) := OwnC.nil _ _ _ _
  have hew6 : Ext w (((w.alloc (.cells #[.slice (some ⟨b, off, none⟩) t.length c] 24)).alloc (.cells #[.int .i64 p, .int .i64 ((j : Int) + 1)] 68)).alloc (.cells #[.int .i64 t[p].evs[j].kind, .int .i64 t[p].evs[j].peer, .int .i64 t[p].evs[j].msg, .int .i64 t[p].evs[j].time, .slice A4 t[p].evs[j].asg.length cc4] 74)) := (((Ext.refl w).alloc _).alloc _).alloc _
  have b6 : BoxN (((w.alloc (.cells #[.slice (some ⟨b, off, none⟩) t.length c] 24)).alloc (.cells #[.int .i64 p, .int .i64 ((j : Int) + 1)] 68)).alloc (.cells #[.int .i64 t[p].evs[j].kind, .int .i64 t[p].evs[j].peer, .int .i64 t[p].evs[j].msg, .int .i64 t[p].evs[j].time, .slice A4 t[p].evs[j].asg.length cc4] 74)) (w.heap.size + 1 + 1) 74 #[.int .i64 t[p].evs[j].kind, .int .i64 t[p].evs[j].peer, .int .i64 t[p].evs[j].msg, .int .i64 t[p].evs[j].time, .slice A4 t[p].evs[j].asg.length cc4] := BoxN.newAt _ _ (by simp)
  generalize hbe : w.heap.size + 1 + 1 = be at *
  clear hbe
  generalize ((w.alloc (.cells #[.slice (some ⟨b, off, none⟩) t.length c] 24)).alloc (.cells #[.int .i64 p, .int .i64 ((j : Int) + 1)] 68)).alloc (.cells #[.int .i64 t[p].evs[j].kind, .int .i64 t[p].evs[j].peer, .int .i64 t[p].evs[j].msg, .int .i64 t[p].evs[j].time, .slice A4 t[p].evs[j].asg.length cc4] 74) = W6 at hown6 hew6 b6 ⊢
  have hL6 := hL.ext hew6
  have k0 := b6.cell (j := 0) rfl
  have k2 := b6.cell (j := 2) rfl
  cases k : t[p].evs[j].kind == 2
  ·have HD := hide (show dirL t (p, j + 1) = [] by rw [dirL_eq hp hn' hev]; unfold toB; rw [hev, k]; simp [hn])
   go_quiet (fail)
   revert nq; intro n1
   go_wp2
   go_ret
   exact ⟨_, rfl, by rw [HD.out]; exact hown6.drewN _, hew6.drewN _⟩
  ·obtain ⟨m, q, hm, hm2, _, _, _⟩ := formed_open (hform'.out (p, j + 1) hx) (by rw [hev]; cases h1 : t[p].evs[j].kind == 1 <;> simp_all)
   rw [hev] at hm
   have hm3 : (m : Int) < 200 := by omega
   rw [hm] at k2
   obtain ⟨_, _, a2, a3⟩ := hA.2 m hm2
   have c2 := hL6.cell a2
   have c3 := hL6.cell a3
   have HM := hide hm
   clear hm
   by_cases h0 : 0 < (firstOf t (ids t) 3 m).2
   ·have hd0 : decide ((0 : Int) < ((firstOf t (ids t) 3 m).2 : Int)) = true := by simp; omega
    have HD := hide (show dirL t (p, j + 1) = [] ++ [firstOf t (ids t) 3 m] by rw [dirL_eq hp hn' hev]; unfold toB; rw [hev, k, HM.out]; simp [hn, h0])
    go_quiet (fail)
    revert nq; intro n1
    go_wp2
    have hown7 := OwnC.drewN hown6 n1
    have hew7 := hew6.drewN n1
    have k27 : (W6.drewN n1).cell? ⟨be, 2, none⟩ = some (.int .i64 m) := k2
    have c27 : (W6.drewN n1).cell? ⟨bL, m * 4 + 2, none⟩ = some (.int .i64 (firstOf t (ids t) 3 m).1) := c2
    have c37 : (W6.drewN n1).cell? ⟨bL, m * 4 + 3, none⟩ = some (.int .i64 (firstOf t (ids t) 3 m).2) := c3
    clear k2 c2 c3 k0 hL6 b6 hown6
    generalize W6.drewN n1 = W7 at *
    have hsz := hew7.size
    go_region_law (first
     | (refine step_appC (v := Value.slice none 0 0) (.tmp 51) (.tmp 59) elId rfl rfl rfl rfl (hown7.ext (by repeat (first | exact Ext.refl _ | assumption | apply Ext.alloc | apply Ext.drew | apply Ext.drewN | (refine Ext.trans ?_ aS)))) (SlC.lit (x := firstOf t (ids t) 3 m) _ (by simp) rfl rfl) (idsC_one _) (by simp <;> omega) (by simp <;> omega) ?_; intro v8 w8 hown8 hgr8 hbl8))
    all_goals
     go_wp2
     go_ret
     exact ⟨v8, rfl, by rw [HD.out]; exact OwnIds.snoc hown8 rfl, Ext.more (by repeat (first | exact Ext.refl _ | assumption | apply Ext.alloc | apply Ext.drew | apply Ext.drewN | (refine Ext.trans ?_ aS))) hbl8⟩
   ·have hd0 : decide ((0 : Int) < ((firstOf t (ids t) 3 m).2 : Int)) = false := by simp; omega
    have HD := hide (show dirL t (p, j + 1) = [] by rw [dirL_eq hp hn' hev]; unfold toB; rw [hev, k, HM.out]; simp [hn, h0])
    go_quiet (fail)
    revert nq; intro n1
    go_wp2
    go_ret
    exact ⟨_, rfl, by rw [HD.out]; exact hown6.drewN _, hew6.drewN _⟩
end Go.Proofs.YtnihdkfmmbpilaaDoor
namespace Go.Proofs.YtnihdkfmmbpilaaDoor
set_option linter.unusedVariables false

theorem firstOf_mem {t : Tr} {k m : Int} (h : 0 < (firstOf t (ids t) k m).2) : firstOf t (ids t) k m ∈ ids t ∧ findL t k m = some (firstOf t (ids t) k m) := by
 have e : findL t k m = (ids t).find? (keyB t k m) := rfl
 rw [e]
 unfold firstOf at h ⊢
 cases hf : (ids t).find? (keyB t k m) with
 | none => rw [hf] at h; simp at h
 | some y => exact ⟨List.mem_of_find?_eq_some hf, rfl⟩
theorem firstOf_find {t : Tr} {k m : Int} {y : Nat × Nat} (h : findL t k m = some y) : firstOf t (ids t) k m = y ∧ 0 < y.2 ∧ y ∈ ids t := by
 have e : findL t k m = (ids t).find? (keyB t k m) := rfl
 rw [e] at h
 refine ⟨by unfold firstOf; rw [h]; rfl, mem_pos (List.mem_of_find?_eq_some h), List.mem_of_find?_eq_some h⟩
theorem mem_dirL {t : Tr} {x y : Nat × Nat} : y ∈ dirL t x ↔ Dir t x y := by
 unfold dirL Dir toB
 rw [List.mem_append]
 constructor
 ·rintro (h | h)
  ·split at h
   ·rename_i hlt
    exact .inl ⟨by simpa using h, hlt⟩
   ·cases h
  ·split at h
   ·rename_i hb
    simp only [Bool.and_eq_true, beq_iff_eq, decide_eq_true_eq] at hb
    have : y = firstOf t (ids t) 3 (evAt t x).msg := by simpa using h
    subst this
    exact .inr ⟨hb.1, (firstOf_mem hb.2).2⟩
   ·cases h
 ·rintro (⟨rfl, hlt⟩ | ⟨hk, hf⟩)
  ·rw [if_pos hlt]; exact .inl (by simp)
  ·obtain ⟨h1, h2, _⟩ := firstOf_find hf
   refine .inr ?_
   rw [if_pos (by rw [h1]; simp [hk, h2]), h1]
   simp
theorem Dir.mem {t : Tr} {x y : Nat × Nat} (hx : x ∈ ids t) (h : Dir t x y) : y ∈ ids t := by
 rcases h with ⟨rfl, hlt⟩ | ⟨_, hf⟩
 ·obtain ⟨hp, _, _⟩ := mem_ids.1 hx
  refine mem_ids.2 ⟨hp, by simp, ?_⟩
  unfold evsOf at hlt
  rw [getD_lt dfPr t hp] at hlt
  exact hlt
 ·exact (firstOf_find hf).2.2
theorem Hb.mem {t : Tr} {x y : Nat × Nat} (hx : x ∈ ids t) (h : Hb t x y) : y ∈ ids t := by
 induction h with
 | one h => exact h.mem hx
 | more _ h ih => exact h.mem ih
structure DfsI (t : Tr) (id : Nat × Nat) (S R : List (Nat × Nat)) : Prop where
 nod : S.Nodup
 notid : id ∉ S
 reach : ∀ y ∈ S, Hb t id y
 rest : ∀ y ∈ R, y = id ∨ y ∈ S
 closed : ∀ x, x = id ∨ x ∈ S → x ∈ R ∨ ∀ y, Dir t x y → y ∈ S
structure DfsJ (t : Tr) (id x : Nat × Nat) (S R : List (Nat × Nat)) (k : Nat) : Prop where
 nod : S.Nodup
 notid : id ∉ S
 reach : ∀ y ∈ S, Hb t id y
 rest : ∀ y ∈ R, y = id ∨ y ∈ S
 cur : x = id ∨ x ∈ S
 closed : ∀ z, z = id ∨ z ∈ S → z ∈ R ∨ z = x ∨ ∀ y, Dir t z y → y ∈ S
 done : ∀ y ∈ (dirL t x).take k, y ∈ S
theorem DfsI.start (t : Tr) (id : Nat × Nat) : DfsI t id [] [id] :=
 ⟨List.nodup_nil, by simp, by simp, fun y h => .inl (by simpa using h), fun x h => .inl (by simpa using h)⟩
theorem DfsI.pop {t : Tr} {id x : Nat × Nat} {S R : List (Nat × Nat)} (h : DfsI t id S (R ++ [x])) : DfsJ t id x S R 0 :=
 ⟨h.nod, h.notid, h.reach, fun y hy => h.rest y (by simp [hy]), h.rest x (by simp), fun z hz => by
  rcases h.closed z hz with h1 | h1
  ·rcases List.mem_append.1 h1 with h2 | h2
   ·exact .inl h2
   ·exact .inr (.inl (by simpa using h2))
  ·exact .inr (.inr h1), by simp⟩
theorem take_snoc' {α : Type} {l : List α} {k : Nat} {y : α} (h : l[k]? = some y) : l.take (k + 1) = l.take k ++ [y] := by
 rw [List.take_add_one, h]; rfl
theorem DfsJ.skip {t : Tr} {id x y : Nat × Nat} {S R : List (Nat × Nat)} {k : Nat} (h : DfsJ t id x S R k) (hk : (dirL t x)[k]? = some y) (hy : y ∈ S) : DfsJ t id x S R (k + 1) :=
 ⟨h.nod, h.notid, h.reach, h.rest, h.cur, h.closed, fun z hz => by
  rw [take_snoc' hk] at hz
  rcases List.mem_append.1 hz with h1 | h1
  ·exact h.done z h1
  ·have : z = y := by simpa using h1
   subst this; exact hy⟩
theorem DfsJ.hb {t : Tr} {id x y : Nat × Nat} {S R : List (Nat × Nat)} {k : Nat} (h : DfsJ t id x S R k) (hk : (dirL t x)[k]? = some y) : Hb t id y := by
 have hd : Dir t x y := mem_dirL.1 (List.mem_of_getElem? hk)
 rcases h.cur with rfl | h1
 ·exact .one hd
 ·exact .more (h.reach x h1) hd
theorem DfsJ.push {t : Tr} {id x y : Nat × Nat} {S R : List (Nat × Nat)} {k : Nat} (h : DfsJ t id x S R k) (hk : (dirL t x)[k]? = some y) (hy : y ∉ S) (hne : y ≠ id) : DfsJ t id x (S ++ [y]) (R ++ [y]) (k + 1) := by
 have hr := h.hb hk
 refine ⟨?_, ?_, ?_, ?_, ?_, ?_, ?_⟩
 ·refine List.nodup_append.2 ⟨h.nod, by simp, fun a ha b hb => ?_⟩
  have : b = y := by simpa using hb
  subst this
  exact fun e => hy (e ▸ ha)
 ·intro hm
  rcases List.mem_append.1 hm with h1 | h1
  ·exact h.notid h1
  ·exact hne (by simpa using h1 : id = y).symm
 ·intro z hz
  rcases List.mem_append.1 hz with h1 | h1
  ·exact h.reach z h1
  ·have : z = y := by simpa using h1
   subst this; exact hr
 ·intro z hz
  rcases List.mem_append.1 hz with h1 | h1
  ·exact (h.rest z h1).imp_right fun h2 => by simp [h2]
  ·exact .inr (List.mem_append.2 (.inr h1))
 ·exact h.cur.imp_right fun h2 => by simp [h2]
 ·intro z hz
  have : z = y ∨ z = id ∨ z ∈ S := by
   rcases hz with h1 | h1
   ·exact .inr (.inl h1)
   ·rcases List.mem_append.1 h1 with h2 | h2
    ·exact .inr (.inr h2)
    ·exact .inl (by simpa using h2)
  rcases this with rfl | h1
  ·exact .inl (by simp)
  ·rcases h.closed z h1 with h2 | h2 | h2
   ·exact .inl (by simp [h2])
   ·exact .inr (.inl h2)
   ·exact .inr (.inr fun w hw => by simp [h2 w hw])
 ·intro z hz
  rw [take_snoc' hk] at hz
  rcases List.mem_append.1 hz with h1 | h1
  ·simp [h.done z h1]
  ·exact List.mem_append.2 (.inr h1)
theorem DfsJ.fin {t : Tr} {id x : Nat × Nat} {S R : List (Nat × Nat)} {k : Nat} (h : DfsJ t id x S R k) (hk : (dirL t x).length ≤ k) : DfsI t id S R :=
 ⟨h.nod, h.notid, h.reach, h.rest, fun z hz => by
  rcases h.closed z hz with h2 | h2 | h2
  ·exact .inl h2
  ·subst h2
   refine .inr fun y hy => h.done y ?_
   rw [List.take_of_length_le hk]
   exact mem_dirL.2 hy
  ·exact .inr h2⟩
theorem DfsI.no {t : Tr} {id : Nat × Nat} {S : List (Nat × Nat)} (h : DfsI t id S []) : ¬ Hb t id id := by
 have key : ∀ y, Hb t id y → y ∈ S := by
  intro y hy
  induction hy with
  | one hd => exact (h.closed id (.inl rfl)).resolve_left (by simp) _ hd
  | more _ hd ih => exact (h.closed _ (.inr ih)).resolve_left (by simp) _ hd
 exact fun hh => h.notid (key id hh)
theorem nodup_le {α : Type} [DecidableEq α] : ∀ {S L : List α}, S.Nodup → (∀ x ∈ S, x ∈ L) → S.length ≤ L.length
 | [], _, _, _ => Nat.zero_le _
 | a :: S, L, hn, hs => by
   have h1 := List.nodup_cons.1 hn
   have h2 : S.length ≤ (L.erase a).length := nodup_le h1.2 fun x hx => by
    have hne : x ≠ a := fun e => h1.1 (e ▸ hx)
    exact (List.mem_erase_of_ne hne).2 (hs x (by simp [hx]))
   have ha : a ∈ L := hs a (by simp)
   rw [List.length_erase_of_mem ha] at h2
   have := List.length_pos_of_mem ha
   simp; omega
theorem DfsI.few {t : Tr} {id : Nat × Nat} {S R : List (Nat × Nat)} (h : DfsI t id S R) (hid : id ∈ ids t) : S.length ≤ (ids t).length :=
 nodup_le h.nod fun x hx => (h.reach x hx).mem hid
theorem DfsJ.few {t : Tr} {id x : Nat × Nat} {S R : List (Nat × Nat)} {k : Nat} (h : DfsJ t id x S R k) (hid : id ∈ ids t) : S.length ≤ (ids t).length :=
 nodup_le h.nod fun x hx => (h.reach x hx).mem hid
theorem DfsJ.mem {t : Tr} {id x : Nat × Nat} {S R : List (Nat × Nat)} {k : Nat} (h : DfsJ t id x S R k) (hid : id ∈ ids t) : x ∈ ids t := by
 rcases h.cur with rfl | h1
 ·exact hid
 ·exact (h.reach x h1).mem hid
end Go.Proofs.YtnihdkfmmbpilaaDoor
namespace Go.Proofs.YtnihdkfmmbpilaaDoor
open Go.RowKit
set_option linter.unusedVariables false

theorem eq_idD (d : Nat) (x y : Nat × Nat) (w : World) : (Op.equalIn (d + 1 + 1) 68 (idVal x) (idVal y)).run Tryd.prog w = .ok (x == y) w := by
 have hf : Tryd.prog.fieldsOf 68 = #[{ name := "Proc", type := 3, offset := 0, embedded := false, tag := "", pkgPath := "", byteOffset := 0 }, { name := "Index", type := 3, offset := 1, embedded := false, tag := "", pkgPath := "", byteOffset := 8 }] := by
  simp [Program.fieldsOf, Tryd.underlying68]
 unfold idVal
 rw [run_equalIn_agg w _ _ _ _ (by rw [hf]; exact Tryd.underlying68) Tryd.stoodInHeld68, hf]
 simp [Op.eqFields, go_sem]
 obtain ⟨a, b⟩ := x
 obtain ⟨c, d⟩ := y
 simp only
 by_cases h1 : a = c
 ·by_cases h2 : b = d
  ·subst h1; subst h2; simp
  ·have : ¬ ((b : Int) = d) := by omega
   rw [if_pos oM, if_neg this]
   simp [h1, h2]
 ·rw [if_neg oM]
  simp [h1]
theorem check_idD (d : Nat) (e : Bool) (x : Nat × Nat) (w : World) : (Instr.checkKey e (d + 1 + 1) 68 (idVal x)).run Tryd.prog w = .ok () w := by
 unfold idVal
 simp [Instr.checkKey, run_underlying Tryd.underlying68, go_sem]
def MapB (w : World) (r : Nat) (S : List (Nat × Nat)) : Prop := ∃ es clock, w.heap[r]? = some (.map es clock) ∧ es.toList.map (fun e => (e.key, e.val)) = S.map fun x => (idVal x, Value.bool true)
theorem find_id (y : Nat × Nat) (w : World) : ∀ (es : List MapEntry) (S : List (Nat × Nat)) (i : Nat), es.map (fun e => (e.key, e.val)) = S.map (fun x => (idVal x, Value.bool true)) →
  ∃ r, (Instr.findAsking 68 (idVal y) es i).run Tryd.prog w = .ok r w ∧ (y ∈ S → ∃ k, r = some (k, .bool true)) ∧ (y ∉ S → r = none)
 | [], S, i, h => by
   have : S = [] := by cases S <;> simp at h ⊢
   subst this
   exact ⟨none, rfl, fun h => absurd h (by simp), fun _ => rfl⟩
 | e :: es, [], i, h => by simp at h
 | e :: es, x :: S, i, h => by
   simp only [List.map_cons, List.cons.injEq, Prod.mk.injEq] at h
   obtain ⟨⟨h1, h2⟩, h3⟩ := h
   unfold Instr.findAsking
   have he : (Op.equal 68 (idVal y) e.key).run Tryd.prog w = .ok (y == x) w := by rw [h1]; exact eq_idD 9998 y x w
   by_cases hyx : y = x
   ·subst hyx
    refine ⟨some (i, e.val), by simp [he], fun _ => ⟨i, by rw [h2]⟩, fun hn => absurd (by simp) hn⟩
   ·obtain ⟨r, hr, ha, hb⟩ := find_id y w es S (i + 1) h3
    refine ⟨r, by simp [he, hyx, hr], fun hm => ha ((List.mem_cons.1 hm).resolve_left hyx), fun hn => hb (fun hm => hn (List.mem_cons_of_mem _ hm))⟩
theorem findKey_id (y : Nat × Nat) (w : World) (es : List MapEntry) (S : List (Nat × Nat)) (h : es.map (fun e => (e.key, e.val)) = S.map (fun x => (idVal x, Value.bool true))) :
  ∃ r, (Instr.findKey 68 (idVal y) es).run Tryd.prog w = .ok r w ∧ (y ∈ S → ∃ k, r = some (k, .bool true)) ∧ (y ∉ S → r = none) := by
 obtain ⟨r, hr, ha, hb⟩ := find_id y w es S 0 h
 refine ⟨r, ?_, ha, hb⟩
 unfold Instr.findKey
 cases es with
 | nil =>
   have : r = none := by
    refine hb (fun hm => ?_)
    cases S <;> simp at h hm
   subst this
   simp [run_underlying Tryd.underlying68, Instr.findNow]
 | cons e es =>
   have hs : Instr.findNow (TypeDesc.struct #[{ name := "Proc", type := 3, offset := 0, embedded := false, tag := "", pkgPath := "", byteOffset := 0 }, { name := "Index", type := 3, offset := 1, embedded := false, tag := "", pkgPath := "", byteOffset := 8 }]) (idVal y) (e :: es) 0 = none := by
    simp [Instr.findNow, Instr.sameNow]
   simp [run_underlying Tryd.underlying68, hs, hr]
theorem run_lookup_id {w : World} {r : Nat} {S : List (Nat × Nat)} (h : MapB w r S) (y : Nat × Nat) : (Instr.lookup 222 (.map (some r)) (idVal y) false).run Tryd.prog w = .ok (.bool (decide (y ∈ S))) w := by
 obtain ⟨es, clock, hb, hS⟩ := h
 obtain ⟨q, hq, ha, hc⟩ := findKey_id y w es.toList S hS
 have hk : (Instr.checkKey es.isEmpty 10000 68 (idVal y)).run Tryd.prog w = .ok () w := check_idD 9998 es.isEmpty y w
 have hg := run_getObj_map (P := Tryd.prog) w r es clock hb
 unfold Instr.lookup
 by_cases hm : y ∈ S
 ·obtain ⟨k, rfl⟩ := ha hm
  simp [run_underlying Tryd.underlying222, hg, hk, hq, hm]
 ·obtain rfl := hc hm
  simp [run_underlying Tryd.underlying222, hg, hk, hq, hm, go_sem]
theorem run_update_id {w : World} {r : Nat} {S : List (Nat × Nat)} (h : MapB w r S) (y : Nat × Nat) (hy : y ∉ S) : ∃ w', (Instr.mapUpdate 222 (.map (some r)) (idVal y) (.bool true)).run Tryd.prog w = .ok () w' ∧ MapB w' r (S ++ [y]) ∧ w.grownBy w' (some r) := by
 obtain ⟨es, clock, hb, hS⟩ := h
 obtain ⟨q, hq, ha, hc⟩ := findKey_id y w es.toList S hS
 have hk : (Instr.checkKey false 10000 68 (idVal y)).run Tryd.prog w = .ok () w := check_idD 9998 false y w
 have hg := run_getObj_map (P := Tryd.prog) w r es clock hb
 have hset : ∀ o, (setObj r o).run Tryd.prog w = .ok () (w.putObj r o) := fun o => by
  simp [setObj, Sem.run, World.putObj, hb]
 obtain rfl := hc hy
 refine ⟨w.putObj r (.map (es.push { key := idVal y, val := .bool true, born := clock }) (clock + 1)), ?_, ⟨_, _, World.putObj_heap_same (Array.getElem?_eq_some_iff.1 hb).1, ?_⟩, grownBy_putObj' _ _ _⟩
 ·unfold Instr.mapUpdate
  simp [run_underlying Tryd.underlying222, hg, hk, hq, hset]
 ·simp [hS]
theorem MapB.new (w : World) : MapB (w.alloc (.map #[] 0)) w.heap.size [] := ⟨#[], 0, World.alloc_heap_new w _, rfl⟩
theorem MapB.kept {w w' : World} {row : Option Nat} {r : Nat} {S : List (Nat × Nat)} (h : MapB w r S) (hg : w.grownBy w' row) (hne : some r ≠ row) : MapB w' r S := by
 obtain ⟨es, clock, hb, hS⟩ := h
 exact ⟨es, clock, (hg.block r (Array.getElem?_eq_some_iff.1 hb).1 hne).trans hb, hS⟩
theorem MapB.lt {w : World} {r : Nat} {S : List (Nat × Nat)} (h : MapB w r S) : r < w.heap.size := by
 obtain ⟨es, clock, hb, hS⟩ := h
 exact (Array.getElem?_eq_some_iff.1 hb).1
theorem MapB.alloc {w : World} {r : Nat} {S : List (Nat × Nat)} (h : MapB w r S) (o : Obj) : MapB (w.alloc o) r S := h.kept (World.grownBy_alloc w o none) (by simp)
theorem MapB.ext {w w' : World} {r : Nat} {S : List (Nat × Nat)} (h : MapB w r S) (he : Ext w w') : MapB w' r S := by
 obtain ⟨es, clock, hb, hS⟩ := h
 exact ⟨es, clock, (he.block r (Array.getElem?_eq_some_iff.1 hb).1).trans hb, hS⟩
theorem MapB.other {w : World} {r b j : Nat} {S : List (Nat × Nat)} (h : MapB w r S) (hne : r ≠ b) (u : Value) : MapB (w.setCell ⟨b, j, none⟩ u) r S := by
 obtain ⟨es, clock, hb, hS⟩ := h
 exact ⟨es, clock, (Below.heap_setCell _ _ _ _ (by simpa using hne)).trans hb, hS⟩
theorem MapB.not_box {w : World} {r b : Nat} {S : List (Nat × Nat)} {t : TypeId} {cs : Array Value} (h : MapB w r S) (hb : BoxN w b t cs) : r ≠ b := by
 rintro rfl
 obtain ⟨es, clock, h1, _⟩ := h
 rw [show w.heap[r]? = _ from hb] at h1; cases h1
theorem OwnC.not_map {size : Nat} {e : TypeId} {w : World} {B : Nat} {v : Value} {n : Nat} {cs : List Value} (h : OwnC size e w B v n cs) {r : Nat} {S : List (Nat × Nat)} (hm : MapB w r S) : v.ownBlock ≠ some r := by
 rcases h.2 with ⟨rfl, _⟩ | ⟨g, off, cap, cur, rfl, _, hb, _⟩
 ·simp [Value.ownBlock]
 ·intro he
  simp [Value.ownBlock] at he
  exact hm.not_box hb he.symm
end Go.Proofs.YtnihdkfmmbpilaaDoor
namespace Go.Proofs.YtnihdkfmmbpilaaDoor
open Go.RowKit
set_option linter.unusedVariables false
attribute [local go_sem] Oper.semAt_some

def YI (t : Tr) (w : World) (u : Value) (bL : Nat) (l : List (Nat × Nat)) (W : World) : Prop :=
 (((((BoxN W w.heap.size 24 #[u] ∧ BoxN W (w.heap.size + 1) 203 #[.pointer (some ⟨bL, 0, none⟩)]) ∧ BoxN W (w.heap.size + 1 + 1) 68 #[.int .i64 0, .int .i64 0]) ∧ BoxN W (w.heap.size + 1 + 1 + 1) 4 #[.bool false]) ∧ Ext w W) ∧ ∀ x ∈ l, ¬ Hb t x x)
def YX (t : Tr) (w : World) (l : List (Nat × Nat)) (W : World) : Prop :=
 ∃ a x, (((l = a ++ [x] ∧ (∀ y ∈ a, ¬ Hb t y y) ∧ Hb t x x) ∧ BoxN W (w.heap.size + 1 + 1) 68 #[.int .i64 x.1, .int .i64 x.2]) ∧ BoxN W (w.heap.size + 1 + 1 + 1) 4 #[.bool true]) ∧ Ext w W
open Classical in
noncomputable def hbFirst (t : Tr) : Option (Nat × Nat) := (ids t).find? (fun x => decide (Hb t x x))
def YPost (t : Tr) (w : World) (e : Ending) (w' : World) : Prop := Ext w w' ∧
 ((∃ x, hbFirst t = some x ∧ e = .returned (.tuple #[idVal x, .bool true])) ∨ (hbFirst t = none ∧ e = .returned (.tuple #[idVal (0, 0), .bool false])))
theorem yi_from (t : Tr) (w : World) (u : Value) (bL : Nat) {n : Nat} (hn : w.heap.size ≤ n) : OwnFrom n (fun (pre : List (Idt t)) W => YI t w u bL (pre.map (·.1)) W) :=
 OwnFrom.and (OwnFrom.and (OwnFrom.and (OwnFrom.and (OwnFrom.and (boxN1_from _ _ _ _) (boxN1_from _ _ _ _)) (boxN1_from _ _ _ _)) (boxN1_from _ _ _ _)) (ext_from hn)) (ownFrom_pure _ _)
theorem yx_from (t : Tr) (w : World) {n : Nat} (hn : w.heap.size ≤ n) : OwnFrom n (fun (pre : List (Idt t)) W => YX t w (pre.map (·.1)) W) := by
 rintro s X Y row ⟨a, x, h⟩ hg hr
 refine ⟨a, x, ⟨⟨h.1.1.1, ?_⟩, ?_⟩, ext_from hn () X Y row h.2 hg hr⟩
 ·exact boxN1_from _ n _ (fun (_ : Unit) => _) () X Y row h.1.1.2 hg hr
 ·exact boxN1_from _ n _ (fun (_ : Unit) => _) () X Y row h.1.2 hg hr
theorem hb_done {t : Tr} (h : ∀ x ∈ ids t, ¬ Hb t x x) : hbFirst t = none := by
 unfold hbFirst
 rw [List.find?_eq_none]
 intro x hx; simpa using h x hx
open Classical in
theorem hb_stop {t : Tr} {a : List (Nat × Nat)} {x : Nat × Nat} (hp : a ++ [x] <+: ids t) (ha : ∀ y ∈ a, ¬ Hb t y y) (hx : Hb t x x) : hbFirst t = some x := by
 obtain ⟨c, hc⟩ := hp
 unfold hbFirst
 rw [← hc, List.append_assoc, List.find?_append]
 have : a.find? (fun x => decide (Hb t x x)) = none := by
  rw [List.find?_eq_none]
  intro y hy; simpa using ha y hy
 rw [this]
 simp [hx]
def mapSize (w : World) (r : Nat) : Nat := match w.heap[r]? with | some (.map es _) => es.size | _ => 0
theorem MapB.size {w : World} {r : Nat} {S : List (Nat × Nat)} (h : MapB w r S) : mapSize w r = S.length := by
 obtain ⟨es, clock, hb, hS⟩ := h
 unfold mapSize
 rw [hb]
 have := congrArg List.length hS
 simpa using this
def lenV : Value → Nat | .slice _ n _ => n | _ => 0
def SrI (t : Tr) (id : Nat × Nat) (W : World) (r : Nat) (v : Value) (wr : World) : Prop := ∃ S R, DfsI t id S R ∧ MapB wr r S ∧ OwnIds wr W.heap.size v R ∧ Ext W wr ∧ 2 * ((ids t).length - S.length) + R.length ≤ 2 * (ids t).length + 1
def SrJ (t : Tr) (id x : Nat × Nat) (W : World) (r N : Nat) (v2 i v : Value) (wr : World) : Prop := ∃ S R k, DfsJ t id x S R k ∧ k ≤ (dirL t x).length ∧ i = .int .i64 k ∧ MapB wr r S ∧ OwnIds wr W.heap.size v R ∧ Ext W wr ∧ 2 * ((ids t).length - S.length) + R.length ≤ N ∧ OwnIds wr 0 v2 (dirL t x) ∧ (∀ k, v.ownBlock = some k → v2.ownBlock ≠ some k)
theorem snoc_cases {α : Type} (l : List α) : l = [] ∨ ∃ L b, l = L ++ [b] := by
 rcases List.eq_nil_or_concat l with h | ⟨L, b, h⟩
 ·exact .inl h
 ·exact .inr ⟨L, b, by rw [h, List.concat_eq_append]⟩
theorem idsC_get {l : List (Nat × Nat)} : ∀ {k : Nat} {z : Nat × Nat}, l[k]? = some z → (idsC l)[k * 2]? = some (.int .i64 z.1) ∧ (idsC l)[k * 2 + 1]? = some (.int .i64 z.2) := by
 induction l with
 | nil => intro k z h; simp at h
 | cons a l ih =>
   intro k z h
   have e : idsC (a :: l) = (.int .i64 a.1) :: (.int .i64 a.2) :: idsC l := rfl
   rw [e]
   cases k with
   | zero => simp at h; subst h; simp
   | succ k =>
     have := ih (k := k) (z := z) (by simpa using h)
     rw [show (k + 1) * 2 = k * 2 + 1 + 1 by omega]
     simpa using this
theorem OwnIds.at_ {w : World} {B : Nat} {v : Value} {l : List (Nat × Nat)} (h : OwnIds w B v l) (h0 : 0 < l.length) : ∃ g off cap, v = .slice (some ⟨g, off, none⟩) l.length cap ∧ l.length ≤ cap ∧ cap ≤ maxLen ∧ B ≤ g ∧ g < w.heap.size ∧
  ∀ (k : Nat) (z : Nat × Nat), l[k]? = some z → w.cell? ⟨g, off + k * 2, none⟩ = some (.int .i64 z.1) ∧ w.cell? ⟨g, off + k * 2 + 1, none⟩ = some (.int .i64 z.2) := by
 obtain ⟨g, off, cap, cur, rfl, h1, h2, h3, h4, h5, h6⟩ := OwnC.open_ h h0
 refine ⟨g, off, cap, rfl, h3, h4, h1, h2.lt, fun k z hk => ?_⟩
 obtain ⟨a, b⟩ := idsC_get hk
 exact ⟨h2.cell (h6 _ _ a), h2.cell (h6 _ _ b)⟩
theorem OwnIds.pop {w : World} {B : Nat} {A : Option Addr} {c n : Nat} {l : List (Nat × Nat)} {y : Nat × Nat} (h : OwnIds w B (.slice A n c) (l ++ [y])) : OwnIds w B (.slice A l.length c) l := by
 obtain ⟨A', c', hv, _⟩ := OwnC.form h
 injection hv with e1 e2 e3
 subst e1; subst e2; subst e3
 have := OwnC.take h l.length (by simp)
 have e : (idsC (l ++ [y])).take (l.length * 2) = idsC l := by
  rw [show idsC (l ++ [y]) = idsC l ++ idsC [y] by simp [idsC], List.take_left' (idsC_len l)]
 rw [e] at this
 exact this

set_option maxRecDepth 100000 in
set_option maxHeartbeats 4000000 in
theorem cyclic_any (u : Value) (t : Tr) (bL : Nat) (cs : Array Value) (w : World) (hl : t.length ≤ 1000000) (hle : ∀ x ∈ t, x.evs.length ≤ 1000000) (hN : (ids t).length ≤ 1000000) (hs : SlR 3 RPr w u t) (hform : ∀ x ∈ ids t, formedB t.length x.1 (evAt t x) = true)
  (hL : BoxN w bL 220 cs) (hA : LetA t (ids t) cs) :
  Calls Tryd.prog 132 #[.agg #[u], .pointer (some ⟨bL, 0, none⟩)] w fun e w' => YPost t w e w' := by
 refine callsIn_wide (n := 9).1 ?_
 refine callsIn_of_wp_marks Tryd.func132 rfl trivial ?_ rfl
 simp only [Tryd.ntmps132, List.size_toArray, List.length_cons, List.length_nil, Nat.reduceAdd, Nat.reduceSub, Array.replicate_succ, Array.replicate_zero, List.push_toArray, List.append_toArray, List.nil_append, List.cons_append]
 gi_wp2_with (refine ⟨trivial, ?_⟩; gi_at_call 111; refine (callsIn_wide.2 (events_any _ _)).mono ?_; rintro e w' ⟨rfl, rfl⟩)
 obtain ⟨W0, hW0⟩ : ∃ W0, (((((w.alloc (Obj.cells #[u] 24)).alloc (Obj.cells #[Value.pointer (some ⟨bL, 0, none⟩)] 203)).alloc (Obj.cells #[Value.int IntKind.i64 0, Value.int IntKind.i64 0] 68)).alloc (Obj.cells #[Value.bool false] 4)).alloc (Obj.cells #[u] 24)) = W0 := ⟨_, rfl⟩
 rw [hW0]
 have hsz : W0.heap.size = w.heap.size + 1 + 1 + 1 + 1 + 1 := by rw [← hW0]; simp
 have hM0 : YI t w u bL [] W0 := by
  rw [← hW0]
  refine ⟨⟨⟨⟨⟨?_, ?_⟩, ?_⟩, ?_⟩, ?_⟩, fun x hx => by cases hx⟩
  ·exact ((((BoxN.newAt _ _ (by simp)).alloc _).alloc _).alloc _).alloc _
  ·exact (((BoxN.newAt _ _ (by simp)).alloc _).alloc _).alloc _
  ·exact ((BoxN.newAt _ _ (by simp)).alloc _).alloc _
  ·exact (BoxN.newAt _ _ (by simp)).alloc _
  ·exact (((((Ext.refl w).alloc _).alloc _).alloc _).alloc _).alloc _
 have bt : BoxN W0 (w.heap.size + 1 + 1 + 1 + 1) 24 #[u] := by rw [← hW0]; exact BoxN.newAt _ _ (by simp)
 clear hW0
 have hext0 : Ext w W0 := hM0.1.2
 refine wpIn_rangeFunc_ownH rfl oM (gf := 133) (lb := #[.pointer (some ⟨w.heap.size + 1 + 1 + 1 + 1, 0, none⟩)]) rfl trivial (callFunc_enter Tryd.func133 (by decide) rfl)
  (events_stops 8 oM w u t (w.heap.size + 1 + 1 + 1 + 1) W0 hl hle hs hext0 (bt.cell rfl) oM) belowK_t (belowK_b oM) (Below.refl _ _) (fun _ => rfl)
  (fun pre W => YI t w u bL (pre.map (·.1)) W) (fun c pre W => c = .ret ∧ YX t w (pre.map (·.1)) W) (yi_from t w u bL oM) (fun c => OwnFrom.and (ownFrom_pure _ _) (yx_from t w oM)) hM0
  (fun x a' W => ∃ B6 v14 v15, w.heap.size + 1 + 1 + 1 < B6 ∧ BoxN W B6 68 #[.int .i64 x.1.1, .int .i64 x.1.2] ∧
   a' = { tmps := #[.agg #[u], .pointer (some ⟨bL, 0, none⟩), .pointer (some ⟨w.heap.size, 0, none⟩), .pointer (some ⟨w.heap.size + 1, 0, none⟩), .pointer (some ⟨w.heap.size + 1 + 1, 0, none⟩), .pointer (some ⟨w.heap.size + 1 + 1 + 1, 0, none⟩), .pointer (some ⟨B6, 0, none⟩), undef, undef, undef, undef, undef, .agg #[u], .func (.func 133) #[] #[.pointer (some ⟨w.heap.size + 1 + 1 + 1 + 1, 0, none⟩)], v14, v15, undef, undef, undef, undef, undef, undef, undef, undef, undef, undef, undef, undef, undef, undef, undef, undef, undef, undef, undef, undef, undef, undef, undef, undef, undef, undef, undef, undef, undef, undef, undef, undef, undef, undef, undef, undef, undef, undef, undef, undef, undef, undef], defers := [] })
  ?hax ?assign ?body ?done ?stop
 case hax =>
  rintro x a' _ X Y row ⟨B6, v14, v15, hB, b6, ha⟩ hg hr
  exact ⟨B6, v14, v15, hB, boxN1_from B6 _ _ (fun (_ : Unit) => _) () X Y row b6 hg hr, ha⟩
 case assign =>
  rintro l pre x W K hI hK
  have hsW := hI.1.2.size
  have h5 := hI.1.1.2.lt
  unfold idVal
  gi_wp2
  exact hK _ _ ((KeepsOthers.alloc _ _).from _) ((Below.refl _ W).alloc hsW _) ((yi_from t w u bL (Nat.le_refl _)).alloc _ hI) ⟨W.heap.size, _, _, h5, BoxN.new _ _ _, rfl⟩
 case body =>
  rintro l pre x a' W hlW ⟨r, hr⟩ hI ⟨B6, v14, v15, hB, b6, rfl⟩ hlen
  have hI0 := hI
  obtain ⟨⟨⟨⟨⟨tb, lb⟩, r1⟩, r2⟩, hx0⟩, hno⟩ := hI
  have hsW := hx0.size
  have hB6 := b6.lt
  have t3 := r2.lt
  have HNO := hide hno
  clear hno
  have i0 := b6.cell (j := 0) rfl
  have i1 := b6.cell (j := 1) rfl
  have hmm := @run_makeMap Tryd.prog
  gi_wp2
  clear hmm i0 i1
  gi_loopw [8] (fun v wr => SrI t x.1 W W.heap.size v wr) (fun v wr => 2 * ((ids t).length - mapSize wr W.heap.size) + lenV v)
  case atStart =>
   refine ⟨[], [x.1], DfsI.start t x.1, (MapB.new W).alloc _, ?_, ((Ext.refl W).alloc _).alloc _, by simp⟩
   exact OwnC.madeAt (by simp) #[.int .i64 x.1.1, .int .i64 x.1.2] (by simp) (by simp [maxLen]) rfl
  case round =>
   obtain ⟨Sn, R, hD, hm, ho, hx, hbd⟩ := hrel
   have HM := hide hm
   have HO := hide ho
   have HD := hide hD
   have tb1 := tb.ext hx
   have lb1 := lb.ext hx
   have b61 := b6.ext hx
   have lt1 := tb1.lt
   have lt2 := lb1.lt
   have lt3 := b61.lt
   have t0 := tb1.cell (j := 0) rfl
   have l0 := lb1.cell (j := 0) rfl
   have i0 := b61.cell (j := 0) rfl
   have i1 := b61.cell (j := 1) rfl
   rcases snoc_cases R with rfl | ⟨R', y, rfl⟩
   ·obtain ⟨A, c, rfl, _, _⟩ := ho.form
    clear hm ho hD
    gi_wp2
    refine ⟨KF.ext (KeepsFrom.refl _ _) hx, BL.ext (Below.refl _ _) hx hsW, ?_⟩
    show YI t w u bL ((pre ++ [x]).map (·.1)) _
    rw [map_snoc]
    refine ⟨⟨⟨⟨⟨tb1, lb1⟩, r1.ext hx⟩, r2.ext hx⟩, hx0.trans hx⟩, fun z hz => ?_⟩
    rcases List.mem_append.1 hz with h1 | h1
    ·exact HNO.out z h1
    ·rw [show z = x.1 by simpa using h1]; exact HD.out.no
   ·obtain ⟨g, off, cap, rfl, hg1, hg2, hg3, hg4, hg5⟩ := ho.at_ (by simp)
    have hop := hide (OwnIds.pop ho)
    obtain ⟨c0, c1⟩ := hg5 R'.length y (by simp)
    rw [List.length_append, List.length_singleton] at hg1
    have hJ := hide hD.pop
    have hy := hJ.out.mem x.2
    have hw1 := lt_of_cell c0
    clear hm ho hD hg5
    simp only [List.length_append, List.length_cons, List.length_nil, Nat.zero_add] at *
    unfold maxLen at hg2
    gi_wp2_with fail
    refine ⟨trivial, ?_⟩
    have he1 : Ext W (wr.alloc (.cells #[.int .i64 y.1, .int .i64 y.2] 68)) := hx.alloc _
    refine (CallsIn.inRound l (callsIn_wide (n := 6).2 (after_any u t y.1 y.2 bL cs _ hl hle (hs.ext RPr.keeps (hx0.trans he1)) hy hform (hL.ext (hx0.trans he1)) hA))).mono ?_
    rintro e w2 ⟨v2, rfl, ho2, he2⟩
    have hm2 := (HM.out.alloc _).ext he2
    have ho3 := OwnC.ext (OwnC.alloc hop.out _) he2
    have tb2 := (tb1.alloc _).ext he2
    have lb2 := (lb1.alloc _).ext he2
    have b62 := (b61.alloc _).ext he2
    have hx2 := he1.trans he2
    have ho4 : OwnIds w2 0 v2 (dirL t (y.1, y.2)) := OwnC.mono ho2 (Nat.zero_le _)
    have hne : ∀ k, (Value.slice (some ⟨g, off, none⟩) R'.length cap).ownBlock = some k → v2.ownBlock ≠ some k := fun k hk e => by
     simp [Value.ownBlock] at hk; subst hk
     have := (OwnC.blk ho2 _ e).1
     simp at this; omega
    have HM2 := hide (show SrJ t x.1 y W W.heap.size (2 * ((ids t).length - Sn.length) + R'.length) v2 (.int .i64 0) (.slice (some ⟨g, off, none⟩) R'.length cap) w2 from ⟨Sn, R', 0, hJ.out, Nat.zero_le _, rfl, hm2, ho3, hx2, Nat.le_refl _, ho4, hne⟩)
    obtain ⟨A2, c2, rfl, hv1, hv2⟩ := OwnC.form ho2
    unfold maxLen at hv2
    have hv3 : (dirL t y).length ≤ c2 := hv1
    clear hm2 ho3 ho4 hne ho2 c0 c1 t0 l0 i0 i1
    gi_wp2
    gi_loopw [38, 8] (fun i v wi => SrJ t x.1 y W W.heap.size (2 * ((ids t).length - Sn.length) + R'.length) (.slice A2 (dirL t (y.1, y.2)).length c2) i v wi) (fun i _ _ => (dirL t y).length - (intOf i).toNat)
    case atStart => exact HM2.out
    case round =>
     obtain ⟨S, R, k, hJ, hk, rfl, hm, ho, hxi, hNN, hd2, hne⟩ := hrel
     have HJ := hide hJ
     have HM3 := hide hm
     have HO3 := hide ho
     have HD2 := hide hd2
     have HNE := hide hne
     have tb3 := tb.ext hxi
     have lb3 := lb.ext hxi
     have b63 := b6.ext hxi
     have r13 := r1.ext hxi
     have r23 := r2.ext hxi
     have lt13 := tb3.lt
     have lt23 := lb3.lt
     have lt33 := b63.lt
     have lt43 := r13.lt
     have lt53 := r23.lt
     have i0 := b63.cell (j := 0) rfl
     have i1 := b63.cell (j := 1) rfl
     by_cases hlt : k < (dirL t y).length
     ·obtain ⟨⟨za, zb⟩, hz⟩ : ∃ z, (dirL t y)[k]? = some z := ⟨_, List.getElem?_eq_getElem hlt⟩
      obtain ⟨g2, off2, cap2, hv, hc2, _, _, hg2l, hcells⟩ := hd2.at_ oM
      injection hv with hA2 _ hc22
      subst hA2; subst hc22
      obtain ⟨e0, e1⟩ := hcells k _ hz
      have HZ := hide hz
      clear hcells hz hJ hm ho hd2 hne
      by_cases hid : (za, zb) = x.1
      ·have HZ2 := hide (show Hb t x.1 x.1 by have := HJ.out.hb HZ.out; rw [hid] at this; exact this)
       obtain rfl : za = x.1.1 := by rw [← hid]
       obtain rfl : zb = x.1.2 := by rw [← hid]
       clear hid
       have hKF3 : KeepsFrom (w.heap.size + 1 + 1 + 1 + 1 + 1) W wr := KF.ext (KeepsFrom.refl _ _) hxi
       have hBL3 : Below w.heap.size W wr := BL.ext (Below.refl _ _) hxi hsW
       have hEX3 : Ext w wr := hx0.trans hxi
       have f1 := r13.frozen 0
       have f2 := r13.frozen 1
       have f3 := r23.frozen 0
       have p1 := r13.cell (j := 0) rfl
       have p2 := r13.cell (j := 1) rfl
       have p3 := r23.cell (j := 0) rfl
       gi_wp2
       refine ⟨?_, rfl, pre.map (·.1), x.1, ⟨⟨⟨map_snoc pre x, HNO.out, HZ2.out⟩, ?_⟩, ?_⟩, ?_⟩
       all_goals exact kW0
      ·by_cases hz1 : za = x.1.1
       ·have hz2 : zb ≠ x.1.2 := fun e => hid (Prod.ext hz1 e)
        subst hz1
        have hq3 : ((zb : Int) == (x.1.2 : Int)) = false := by simp; omega
        have hq4 : ¬ ((zb : Int) = (x.1.2 : Int)) := by omega
        have HID := hide hid
        clear hid hz2
        by_cases hin : (x.1.1, zb) ∈ S
        ·have hlk := run_lookup_id (HM3.out.alloc (.cells #[.int .i64 x.1.1, .int .i64 zb] 68)) (x.1.1, zb)
         rw [decide_eq_true hin] at hlk
         unfold idVal at hlk
         have HIN := hide hin
         clear hin
         gi_wp2
         go_roundw
         case rel => exact ⟨S, R, k + 1, HJ.out.skip HZ.out HIN.out, hlt, by go_num, HM3.out.alloc _, OwnC.alloc HO3.out _, hxi.alloc _, hNN, OwnC.alloc HD2.out _, HNE.out⟩
         case measure => simp [intOf]; omega
        ·have hlk := run_lookup_id (HM3.out.alloc (.cells #[.int .i64 x.1.1, .int .i64 zb] 68)) (x.1.1, zb)
         rw [decide_eq_false hin] at hlk
         obtain ⟨w3, hrun, hm4, hgr3⟩ := run_update_id (HM3.out.alloc (.cells #[.int .i64 x.1.1, .int .i64 zb] 68)) (x.1.1, zb) hin
         unfold idVal at hlk hrun
         have HIN := hide hin
         have HG3 := hide hgr3
         have HM4 := hide hm4
         have hrl := HM3.out.lt
         have bz : BoxN w3 wr.heap.size 68 #[.int .i64 x.1.1, .int .i64 zb] := (BoxN.new wr _ _).kept hgr3 (by simp; omega)
         have z0 := bz.cell (j := 0) rfl
         have z1 := bz.cell (j := 1) rfl
         have ho5 : OwnIds w3 W.heap.size u8 R := OwnC.kept (OwnC.alloc HO3.out _) hgr3 (.inr (OwnC.not_map (OwnC.alloc HO3.out (.cells #[.int .i64 x.1.1, .int .i64 zb] 68)) (HM3.out.alloc _)))
         have hx3 : Ext W w3 := Ext.grown (hxi.alloc (.cells #[.int .i64 x.1.1, .int .i64 zb] 68)) hgr3 (fun k hk => by injection hk with hk; omega)
         have hsz3 := hgr3.size
         rw [World.size_alloc] at hsz3
         have hRl : R.length ≤ 2000001 := by omega
         have HO5 := hide ho5
         clear hin hgr3 hm4 ho5
         gi_wp2_with (gi_at_builtin; go_must (refine wpl_appCIn (v := u8) (.tmp 52) (.tmp 54) elId rfl rfl rfl rfl (OwnC.alloc HO5.out _) (SlC.lit (x := (x.1.1, zb)) _ rfl rfl rfl) (idsC_one _) oM (by have := hx3.size; simp; omega) ?_; intro v4 w4 hown4 hgr4 hbl4))
         go_roundw
         case rel =>
          refine ⟨_, _, _, ?_, rfl, rfl, rfl⟩
          have hd3 : OwnIds w3 0 (.slice (some ⟨g2, off2, none⟩) (dirL t (y.1, y.2)).length c2) (dirL t y) := OwnC.kept (OwnC.alloc HD2.out _) HG3.out (.inr (OwnC.not_map (OwnC.alloc HD2.out (.cells #[.int .i64 x.1.1, .int .i64 zb] 68)) (HM3.out.alloc _)))
          refine ⟨S ++ [(x.1.1, zb)], R ++ [(x.1.1, zb)], k + 1, HJ.out.push HZ.out HIN.out HID.out, hlt, by go_num, (HM4.out.alloc _).kept hgr4.1 (OwnC.not_map HO5.out HM4.out).symm, OwnIds.snoc hown4 rfl, Ext.more (hx3.alloc _) hbl4, ?_, OwnC.kept (OwnC.alloc hd3 _) hgr4.1 (.inr fun e => HNE.out _ e.symm rfl), ?_⟩
          ·have h1 := HJ.out.push HZ.out HIN.out HID.out
           have h2 := h1.few x.2
           simp at h2 ⊢
           omega
          ·intro q hq e
           rcases hgr4.2 q hq with h1 | h1
           ·exact HNE.out q h1 e
           ·simp [Value.ownBlock] at e
            subst e
            simp at h1; omega
         case measure => simp [intOf]; omega
       ·have hq1 : ((za : Int) == (x.1.1 : Int)) = false := by simp; omega
        have hq2 : ¬ ((za : Int) = (x.1.1 : Int)) := by omega
        have HID := hide hid
        clear hid hz1
        by_cases hin : (za, zb) ∈ S
        ·have hlk := run_lookup_id (HM3.out.alloc (.cells #[.int .i64 za, .int .i64 zb] 68)) (za, zb)
         rw [decide_eq_true hin] at hlk
         unfold idVal at hlk
         have HIN := hide hin
         clear hin
         gi_wp2
         go_roundw
         case rel => exact ⟨S, R, k + 1, HJ.out.skip HZ.out HIN.out, hlt, by go_num, HM3.out.alloc _, OwnC.alloc HO3.out _, hxi.alloc _, hNN, OwnC.alloc HD2.out _, HNE.out⟩
         case measure => simp [intOf]; omega
        ·have hlk := run_lookup_id (HM3.out.alloc (.cells #[.int .i64 za, .int .i64 zb] 68)) (za, zb)
         rw [decide_eq_false hin] at hlk
         obtain ⟨w3, hrun, hm4, hgr3⟩ := run_update_id (HM3.out.alloc (.cells #[.int .i64 za, .int .i64 zb] 68)) (za, zb) hin
         unfold idVal at hlk hrun
         have HIN := hide hin
         have HG3 := hide hgr3
         have HM4 := hide hm4
         have hrl := HM3.out.lt
         have bz : BoxN w3 wr.heap.size 68 #[.int .i64 za, .int .i64 zb] := (BoxN.new wr _ _).kept hgr3 (by simp; omega)
         have z0 := bz.cell (j := 0) rfl
         have z1 := bz.cell (j := 1) rfl
         have ho5 : OwnIds w3 W.heap.size u8 R := OwnC.kept (OwnC.alloc HO3.out _) hgr3 (.inr (OwnC.not_map (OwnC.alloc HO3.out (.cells #[.int .i64 za, .int .i64 zb] 68)) (HM3.out.alloc _)))
         have hx3 : Ext W w3 := Ext.grown (hxi.alloc (.cells #[.int .i64 za, .int .i64 zb] 68)) hgr3 (fun k hk => by injection hk with hk; omega)
         have hsz3 := hgr3.size
         rw [World.size_alloc] at hsz3
         have hRl : R.length ≤ 2000001 := by omega
         have HO5 := hide ho5
         clear hin hgr3 hm4 ho5
         gi_wp2_with (gi_at_builtin; go_must (refine wpl_appCIn (v := u8) (.tmp 52) (.tmp 54) elId rfl rfl rfl rfl (OwnC.alloc HO5.out _) (SlC.lit (x := (za, zb)) _ rfl rfl rfl) (idsC_one _) oM (by have := hx3.size; simp; omega) ?_; intro v4 w4 hown4 hgr4 hbl4))
         go_roundw
         case rel =>
          refine ⟨_, _, _, ?_, rfl, rfl, rfl⟩
          have hd3 : OwnIds w3 0 (.slice (some ⟨g2, off2, none⟩) (dirL t (y.1, y.2)).length c2) (dirL t y) := OwnC.kept (OwnC.alloc HD2.out _) HG3.out (.inr (OwnC.not_map (OwnC.alloc HD2.out (.cells #[.int .i64 za, .int .i64 zb] 68)) (HM3.out.alloc _)))
          refine ⟨S ++ [(za, zb)], R ++ [(za, zb)], k + 1, HJ.out.push HZ.out HIN.out HID.out, hlt, by go_num, (HM4.out.alloc _).kept hgr4.1 (OwnC.not_map HO5.out HM4.out).symm, OwnIds.snoc hown4 rfl, Ext.more (hx3.alloc _) hbl4, ?_, OwnC.kept (OwnC.alloc hd3 _) hgr4.1 (.inr fun e => HNE.out _ e.symm rfl), ?_⟩
          ·have h1 := HJ.out.push HZ.out HIN.out HID.out
           have h2 := h1.few x.2
           simp at h2 ⊢
           omega
          ·intro q hq e
           rcases hgr4.2 q hq with h1 | h1
           ·exact HNE.out q h1 e
           ·simp [Value.ownBlock] at e
            subst e
            simp at h1; omega
         case measure => simp [intOf]; omega
     ·clear hJ hm ho hd2 hne
      gi_wp2
      go_roundw
      case rel => exact ⟨S, R, HJ.out.fin oM, HM3.out, HO3.out, hxi, by omega⟩
      case measure =>
       rw [HM3.out.size, HM.out.size]
       obtain ⟨A3, c3, rfl, _, _⟩ := HO3.out.form
       simp [lenV]
       omega
 case done =>
  rintro D ys W hD hys ⟨⟨⟨⟨⟨tb, lb⟩, r1⟩, r2⟩, hx⟩, hno⟩ hK
  rw [hys] at hno
  have q2 := r1.frozen 0
  have q3 := r1.frozen 1
  have q4 := r2.frozen 0
  have p2 := r1.cell (j := 0) rfl
  have p3 := r1.cell (j := 1) rfl
  have p4 := r2.cell (j := 0) rfl
  have HNO := hide (hb_done hno)
  clear hno
  gi_wp2
  obtain ⟨Wr, hWr⟩ : ∃ Wr, (((W.setCell ⟨w.heap.size + 1 + 1, 0, none⟩ (Value.int .i64 0)).setCell ⟨w.heap.size + 1 + 1, 1, none⟩ (Value.int .i64 0)).setCell ⟨w.heap.size + 1 + 1 + 1, 0, none⟩ (Value.bool false)) = Wr := ⟨_, rfl⟩
  rw [hWr]
  have s2 : BoxN Wr (w.heap.size + 1 + 1) 68 #[.int .i64 0, .int .i64 0] := by rw [← hWr]; exact kW0
  have s3 : BoxN Wr (w.heap.size + 1 + 1 + 1) 4 #[.bool false] := by rw [← hWr]; exact kW0
  have sx : Ext w Wr := by rw [← hWr]; exact kW0
  have hKW : Wr.heap[D]? = some (.deferred (some [])) := by rw [← hWr]; exact (KF.set (KF.set (KF.set (KeepsFrom.refl W0.heap.size W) _ _) _ _) _ _).same D _ hD hK rfl
  clear hWr
  have e2 := (s2.putObj hKW rfl (.deferred none)).cell (j := 0) rfl
  have e3 := (s2.putObj hKW rfl (.deferred none)).cell (j := 1) rfl
  have e4 := (s3.putObj hKW rfl (.deferred none)).cell (j := 0) rfl
  refine ⟨by simp, .inl ⟨_, _, rfl, run_takeDeferred hKW, ?_⟩⟩
  refine ⟨.tuple #[idVal (0, 0), .bool false], ?_, sx.putObj oM hKW _, .inr ⟨HNO.out, rfl⟩⟩
  simp [results, Tryd.f132, go_sem, e2, e3, e4, idVal]
 case stop =>
  rintro D c pre W hD hpre ⟨rfl, a, x, ⟨⟨⟨hp, hno, hhb⟩, r1⟩, r2⟩, hx⟩ hK
  rw [hp] at hpre
  have HST := hide (hb_stop hpre hno hhb)
  clear hno hhb
  gi_wp2
  have e2 := (r1.putObj hK rfl (.deferred none)).cell (j := 0) rfl
  have e3 := (r1.putObj hK rfl (.deferred none)).cell (j := 1) rfl
  have e4 := (r2.putObj hK rfl (.deferred none)).cell (j := 0) rfl
  refine ⟨by simp, .inl ⟨_, _, rfl, run_takeDeferred hK, ?_⟩⟩
  refine ⟨.tuple #[idVal x, .bool true], ?_, hx.putObj oM hK _, .inl ⟨x, HST.out, rfl⟩⟩
  simp [results, Tryd.f132, go_sem, e2, e3, e4, idVal]
open Go.RowKit

structure Small (t : Tr) : Prop where
 np : t.length ≤ 1000000
 nv : ∀ x ∈ t, x.vars.length ≤ 1000000
 ne : ∀ x ∈ t, x.evs.length ≤ 1000000
 na : ∀ x ∈ t, ∀ e ∈ x.evs, e.asg.length ≤ 1000000
structure Sm (t : Tr) : Prop where
 np : t.length ≤ 1000000
 nv : ∀ x ∈ t, x.vars.length ≤ 1000000
 ne : ∀ x ∈ t, x.evs.length ≤ 9223372036854775807
 na : ∀ x ∈ t, ∀ e ∈ x.evs, e.asg.length ≤ 1000000
theorem Small.sm {t : Tr} (h : Small t) : Sm t := ⟨h.np, h.nv, fun x hx => Nat.le_trans (h.ne x hx) (by decide), h.na⟩
theorem head_evs {t : Tr} {p : Nat} (hp : p < t.length) (h : headF t p = 0) : t[p].evs.length ≤ 64 := by
 rw [headF_eq t p hp] at h
 split at h
 ·cases h
 split at h
 ·cases h
 split at h
 ·rename_i h2; exact absurd h h2
 split at h
 ·cases h
 ·omega
theorem Sm.small {t : Tr} (h : Sm t) (hz : ∀ q, q < t.length → headF t q = 0) : Small t :=
 ⟨h.np, h.nv, fun x hx => by
  obtain ⟨p, hp, rfl⟩ := List.getElem_of_mem hx
  have := head_evs hp (hz p hp)
  omega, h.na⟩
def FPost (t : Tr) (w : World) (e : Ending) (w' : World) : Prop := e = .returned (.tuple #[idVal (faultL t).1, .int .i64 (faultL t).2]) ∧ Ext w w'
theorem fault_len {t : Tr} (h : inB t.length 1 8 = false) : faultL t = ((0, 0), 1) := by
 unfold faultL
 rw [if_pos (by simp [inB] at h; omega)]
theorem fault_head {t : Tr} {p : Nat} (h : inB t.length 1 8 = true) (hp : p < t.length) (h0 : ∀ q, q < p → headF t q = 0) (hne : headF t p ≠ 0) : faultL t = ((p, 0), headF t p) := by
 have hf : (List.range t.length).find? (fun p => headF t p != 0) = some p := by
  rw [show t.length = p + (1 + (t.length - p - 1)) by omega, List.range_add, List.find?_append]
  have : (List.range p).find? (fun p => headF t p != 0) = none := by
   rw [List.find?_eq_none]; intro q hq; simp [h0 q (List.mem_range.1 hq)]
  rw [this, Nat.add_comm 1, List.range_succ_eq_map]
  simp [hne]
 unfold faultL
 rw [if_neg (by simp [inB] at h; omega), hf]
theorem head_none {t : Tr} (h0 : ∀ q, q < t.length → headF t q = 0) : (List.range t.length).find? (fun p => headF t p != 0) = none := by
 rw [List.find?_eq_none]; intro q hq; simp [h0 q (List.mem_range.1 hq)]
theorem fault_form {t : Tr} {x : Nat × Nat} (h : inB t.length 1 8 = true) (h0 : ∀ q, q < t.length → headF t q = 0) (hx : (ids t).find? (fun x => formF t x != 0) = some x) : faultL t = (x, formF t x) := by
 unfold faultL
 rw [if_neg (by simp [inB] at h; omega), head_none h0]
 simp only [hx]
theorem fault_pair {t : Tr} {x : Nat × Nat} (h : inB t.length 1 8 = true) (h0 : ∀ q, q < t.length → headF t q = 0) (hf : (ids t).find? (fun x => formF t x != 0) = none) (hx : (ids t).find? (fun x => pairF t x != 0) = some x) : faultL t = (x, pairF t x) := by
 unfold faultL
 rw [if_neg (by simp [inB] at h; omega), head_none h0]
 simp only [hf, hx]
theorem fault_hb {t : Tr} {x : Nat × Nat} (h : inB t.length 1 8 = true) (h0 : ∀ q, q < t.length → headF t q = 0) (hf : (ids t).find? (fun x => formF t x != 0) = none) (hp : (ids t).find? (fun x => pairF t x != 0) = none) (hx : hbFirst t = some x) : faultL t = (x, 10) := by
 unfold hbFirst at hx
 unfold faultL
 rw [if_neg (by simp [inB] at h; omega), head_none h0]
 simp only [hf, hp, hx]
theorem fault_ok {t : Tr} (h : inB t.length 1 8 = true) (h0 : ∀ q, q < t.length → headF t q = 0) (hf : (ids t).find? (fun x => formF t x != 0) = none) (hp : (ids t).find? (fun x => pairF t x != 0) = none) (hx : hbFirst t = none) : faultL t = ((0, 0), 0) := by
 unfold hbFirst at hx
 unfold faultL
 rw [if_neg (by simp [inB] at h; omega), head_none h0]
 simp only [hf, hp, hx]
theorem formF_formed {t : Tr} {x : Nat × Nat} (h : formF t x = 0) : formedB t.length x.1 (evAt t x) = true := by
 unfold formF at h
 cases hb : formedB t.length x.1 (evAt t x) with
 | true => rfl
 | false => rw [hb] at h; simp at h
def GI (t : Tr) (w : World) (u : Value) (l : List (Nat × Nat)) (W : World) : Prop :=
 (((BoxN W w.heap.size 24 #[u] ∧ BoxN W (w.heap.size + 1) 68 #[.int .i64 0, .int .i64 0]) ∧ BoxN W (w.heap.size + 1 + 1) 50 #[.int .i64 0]) ∧ Ext w W) ∧ ∀ x ∈ l, formF t x = 0
def GX (t : Tr) (w : World) (l : List (Nat × Nat)) (W : World) : Prop :=
 ∃ a x, (((l = a ++ [x] ∧ (∀ y ∈ a, formF t y = 0) ∧ formF t x ≠ 0) ∧ BoxN W (w.heap.size + 1) 68 #[.int .i64 x.1, .int .i64 x.2]) ∧ BoxN W (w.heap.size + 1 + 1) 50 #[.int .i64 (formF t x)]) ∧ Ext w W
theorem gi_from (t : Tr) (w : World) (u : Value) {n : Nat} (hn : w.heap.size ≤ n) : OwnFrom n (fun (pre : List (Idt t)) W => GI t w u (pre.map (·.1)) W) :=
 OwnFrom.and (OwnFrom.and (OwnFrom.and (OwnFrom.and (boxN1_from _ _ _ _) (boxN1_from _ _ _ _)) (boxN1_from _ _ _ _)) (ext_from hn)) (ownFrom_pure _ _)
theorem gx_from (t : Tr) (w : World) {n : Nat} (hn : w.heap.size ≤ n) : OwnFrom n (fun (pre : List (Idt t)) W => GX t w (pre.map (·.1)) W) := by
 rintro s X Y row ⟨a, x, h⟩ hg hr
 refine ⟨a, x, ⟨⟨h.1.1.1, ?_⟩, ?_⟩, ext_from hn () X Y row h.2 hg hr⟩
 ·exact boxN1_from _ n _ (fun (_ : Unit) => _) () X Y row h.1.1.2 hg hr
 ·exact boxN1_from _ n _ (fun (_ : Unit) => _) () X Y row h.1.2 hg hr
theorem len_flat {f : Nat → List (Nat × Nat)} {b : Nat} : ∀ n : Nat, (∀ p, p < n → (f p).length ≤ b) → ((List.range n).flatMap f).length ≤ n * b
 | 0, _ => by simp
 | n + 1, h => by
   rw [List.range_succ, List.flatMap_append, List.length_append]
   have h1 := len_flat n fun p hp => h p oM
   have h2 := h n oM
   have h3 : ([n].flatMap f).length = (f n).length := by simp
   rw [h3, Nat.add_mul]
   omega
theorem ids_few {t : Tr} (h1 : t.length ≤ 1000000) (h2 : ∀ x ∈ t, x.evs.length ≤ 1000000) (h : inB t.length 1 8 = true) (h0 : ∀ q, q < t.length → headF t q = 0) : (ids t).length ≤ 1000000 := by
 have := len_flat (f := idsOf t) (b := 64) t.length fun p hp => by
  unfold idsOf evsOf
  rw [List.length_map, List.length_range, getD_lt dfPr t hp]
  exact head_evs hp (h0 p hp)
 simp [inB] at h
 unfold ids
 have h3 : t.length * 64 ≤ 8 * 64 := Nat.mul_le_mul_right _ oM
 omega
theorem form_done {t : Tr} (h : ∀ x ∈ ids t, formF t x = 0) : (ids t).find? (fun x => formF t x != 0) = none := by
 rw [List.find?_eq_none]; intro x hx; simp [h x hx]
theorem form_stop {t : Tr} {a : List (Nat × Nat)} {x : Nat × Nat} (hp : a ++ [x] <+: ids t) (ha : ∀ y ∈ a, formF t y = 0) (hx : formF t x ≠ 0) : (ids t).find? (fun x => formF t x != 0) = some x := by
 obtain ⟨c, hc⟩ := hp
 rw [← hc, List.append_assoc, List.find?_append]
 have : a.find? (fun x => formF t x != 0) = none := by
  rw [List.find?_eq_none]; intro y hy; simp [ha y hy]
 rw [this]
 simp [hx]
set_option maxRecDepth 100000 in
set_option maxHeartbeats 4000000 in
theorem Fault_any (u : Value) (t : Tr) (w : World) (hS : Sm t) (hs : SlR 3 RPr w u t) :
  Calls Tryd.prog 110 #[.agg #[u]] w fun e w' => FPost t w e w' := by
 refine callsIn_wide (n := 9).1 ?_
 refine callsIn_of_wp_marks Tryd.func110 rfl trivial ?_ rfl
 simp only [Tryd.ntmps110, List.size_toArray, List.length_cons, List.length_nil, Nat.reduceAdd, Nat.reduceSub, Array.replicate_succ, Array.replicate_zero, List.push_toArray, List.append_toArray, List.nil_append, List.cons_append]
 obtain ⟨A, c, rfl, _, hcm, _⟩ := hs.at_
 have HI := hide (fun w => callsIn_wide (n := 8).2 (in_any t.length 1 8 w))
 cases hin : inB t.length 1 8
 ·rw [hin] at HI
  have HF := hide (fault_len hin)
  clear hin
  gi_wp2_with (refine ⟨trivial, ?_⟩; gi_at_call 128; refine (HI.out _).mono ?_; rintro e w' ⟨rfl, rfl⟩)
  refine ⟨.tuple #[idVal (0, 0), .int .i64 1], by simp [results, Tryd.f110, go_sem, idVal], by rw [HF.out]; rfl, (((Ext.refl w).alloc _).alloc _).alloc _⟩
 ·have HIN := hide hin
  rw [hin] at HI
  clear hin
  gi_wp2_with (refine ⟨trivial, ?_⟩; gi_at_call 128; refine (HI.out _).mono ?_; rintro e w' ⟨rfl, rfl⟩)
  have tb0 := ((BoxN.new w 24 #[.slice A t.length c]).alloc (.cells #[.int .i64 0, .int .i64 0] 68)).alloc (.cells #[.int .i64 0] 50)
  obtain ⟨W1, hW1⟩ : ∃ W1, ((w.alloc (Obj.cells #[Value.slice A t.length c] 24)).alloc (Obj.cells #[Value.int .i64 0, Value.int .i64 0] 68)).alloc (Obj.cells #[Value.int .i64 0] 50) = W1 := ⟨_, rfl⟩
  rw [hW1] at tb0 ⊢
  have hx1 : Ext w W1 := by rw [← hW1]; exact (((Ext.refl w).alloc _).alloc _).alloc _
  have rb1 : BoxN W1 (w.heap.size + 1) 68 #[.int .i64 0, .int .i64 0] := by rw [← hW1]; exact (BoxN.newAt _ _ (by simp)).alloc _
  have rb2 : BoxN W1 (w.heap.size + 1 + 1) 50 #[.int .i64 0] := by rw [← hW1]; exact BoxN.newAt _ _ (by simp)
  have hsz1 : Hx (W1.heap.size = w.heap.size + 1 + 1 + 1) := hide (by rw [← hW1]; simp)
  clear hW1
  have hnp := hS.np
  gi_loopw [23] (fun i wr => ∃ k : Nat, k ≤ t.length ∧ i = .int .i64 k ∧ (∀ q, q < k → headF t q = 0) ∧ Ext W1 wr) (fun i _ => t.length - (intOf i).toNat)
  case atStart => exact ⟨0, Nat.zero_le _, rfl, fun q hq => absurd hq (Nat.not_lt_zero _), Ext.refl _⟩
  case round =>
   obtain ⟨k, hk, rfl, h0, hx⟩ := hrel
   have H0 := hide h0
   clear h0
   have tb := tb0.ext hx
   have r1 := rb1.ext hx
   have r2 := rb2.ext hx
   have t0 := tb.cell (j := 0) rfl
   by_cases hlt : k < t.length
   ·have HP := hide (fun w' (he : Ext w w') => callsIn_wide (n := 8).2 (processFault_any (.slice A t.length c) t k w' hlt hnp (hS.nv _ (List.getElem_mem hlt)) (hS.ne _ (List.getElem_mem hlt)) (hs.ext RPr.keeps he)))
    gi_wp2_with fail
    refine ⟨trivial, ?_⟩
    refine (HP.out _ (hx1.trans hx)).mono ?_
    rintro e w2 ⟨rfl, he2⟩
    by_cases hz : headF t k = 0
    ·have HZ := hide hz
     rw [hz]
     clear hz
     gi_wp2
     go_roundw
     case rel => exact ⟨k + 1, hlt, by go_num, fun q hq => (Nat.lt_succ_iff_lt_or_eq.1 hq).elim (H0.out q) (fun e => e ▸ HZ.out), hx.trans he2⟩
     case measure => simp [intOf]; omega
    ·have HF := hide (fault_head HIN.out hlt H0.out hz)
     have hne : ((headF t k : Int) != 0) = true := by simp; omega
     have r12 := r1.ext he2
     have r22 := r2.ext he2
     have f1 := r12.frozen 0
     have f2 := r12.frozen 1
     have f3 := r22.frozen 0
     have p1 := r12.cell (j := 0) rfl
     have p2 := r12.cell (j := 1) rfl
     have p3 := r22.cell (j := 0) rfl
     gi_wp2
     obtain ⟨Wr, hWr⟩ : ∃ Wr, ((w2.setCell ⟨w.heap.size + 1, 0, none⟩ (Value.int .i64 k)).setCell ⟨w.heap.size + 1, 1, none⟩ (Value.int .i64 0)).setCell ⟨w.heap.size + 1 + 1, 0, none⟩ (Value.int .i64 (headF t k)) = Wr := ⟨_, rfl⟩
     rw [hWr]
     have hEX2 : Ext w w2 := hx1.trans (hx.trans he2)
     have s1 : BoxN Wr (w.heap.size + 1) 68 #[.int .i64 k, .int .i64 0] := by rw [← hWr]; exact kW0
     have s2 : BoxN Wr (w.heap.size + 1 + 1) 50 #[.int .i64 (headF t k)] := by rw [← hWr]; exact kW0
     have sx : Ext w Wr := by rw [← hWr]; exact kW0
     clear hWr
     exact ⟨.tuple #[idVal (k, 0), .int .i64 (headF t k)], by simp [results, Tryd.f110, go_sem, idVal, s1.cell (j := 0) rfl, s1.cell (j := 1) rfl, s2.cell (j := 0) rfl], by rw [HF.out], sx⟩
   ·obtain rfl : k = t.length := by omega
    have hS := hS.small H0.out
    have hEXr : Ext w wr := hx1.trans hx
    gi_wp2_with (refine ⟨trivial, ?_⟩; gi_at_call 111; refine (callsIn_wide.2 (events_any _ _)).mono ?_; rintro e w' ⟨rfl, rfl⟩)
    have bt := BoxN.new wr 24 #[.slice A t.length c]
    have hM0 : GI t w (.slice A t.length c) [] (wr.alloc (.cells #[.slice A t.length c] 24)) := ⟨⟨⟨⟨tb.alloc _, r1.alloc _⟩, r2.alloc _⟩, hEXr.alloc _⟩, fun x hx => by cases hx⟩
    obtain ⟨W0, hW0⟩ : ∃ W0, wr.alloc (.cells #[.slice A t.length c] 24) = W0 := ⟨_, rfl⟩
    have hsz0 : W0.heap.size = wr.heap.size + 1 := by rw [← hW0]; simp
    have hwr : w.heap.size ≤ wr.heap.size := hEXr.size
    rw [hW0] at bt hM0 ⊢
    clear hW0
    have hext0 : Ext w W0 := hM0.1.2
    have HSZ0 := hide hsz0
    have hw0 : w.heap.size ≤ W0.heap.size := by omega
    clear hsz0
    refine wpIn_rangeFunc_ownH rfl oM (gf := 133) (lb := #[.pointer (some ⟨wr.heap.size, 0, none⟩)]) rfl trivial (callFunc_enter Tryd.func133 (by decide) rfl)
     (events_stops 8 oM w (.slice A t.length c) t wr.heap.size W0 hnp hS.ne hs hext0 (bt.cell rfl) hwr) belowK_t (belowK_b hw0) (Below.refl _ _) (fun _ => rfl)
     (fun pre W => GI t w (.slice A t.length c) (pre.map (·.1)) W) (fun c pre W => c = .ret ∧ GX t w (pre.map (·.1)) W) (gi_from t w _ hw0) (fun c => OwnFrom.and (ownFrom_pure _ _) (gx_from t w hw0)) hM0
     (fun x a' W => ∃ B6 B7 A4 n4 c4 v37 v38, (w.heap.size + 1 + 1 < B6 ∧ w.heap.size + 1 + 1 < B7 ∧ SlR 2 RAsg w (.slice A4 n4 c4) (evAt t x.1).asg) ∧ BoxN W B6 68 #[.int .i64 x.1.1, .int .i64 x.1.2] ∧ BoxN W B7 74 #[.int .i64 (evAt t x.1).kind, .int .i64 (evAt t x.1).peer, .int .i64 (evAt t x.1).msg, .int .i64 (evAt t x.1).time, .slice A4 n4 c4] ∧
      a' = { tmps := #[.agg #[.slice A t.length c], .pointer (some ⟨w.heap.size, 0, none⟩), .pointer (some ⟨w.heap.size + 1, 0, none⟩), .pointer (some ⟨w.heap.size + 1 + 1, 0, none⟩), u4, u5, .pointer (some ⟨B6, 0, none⟩), .pointer (some ⟨B7, 0, none⟩), undef, undef, undef, undef, undef, undef, .pointer (some ⟨w.heap.size, 0, none⟩), .slice A t.length c, .int .i64 t.length, .bool true, .bool false, undef, .pointer (some ⟨w.heap.size, 0, none⟩), .slice A t.length c, .int .i64 t.length, .int .i64 t.length, .bool false, u25, u26, u27, u28, u29, u30, u31, u32, u33, u34, .agg #[.slice A t.length c], .func (.func 133) #[] #[.pointer (some ⟨wr.heap.size, 0, none⟩)], v37, v38, undef, undef, undef, undef, undef, undef, undef, undef, undef, undef, undef, undef, undef, undef, undef, undef, undef, undef, undef, undef, undef, undef, undef, undef, undef, undef, undef], defers := [] })
     ?hax ?assign ?body ?done ?stop
    case hax =>
     rintro x a' _ X Y row ⟨B6, B7, A4, n4, c4, v37, v38, hB, b6, b7, ha⟩ hg hr
     exact ⟨B6, B7, A4, n4, c4, v37, v38, hB, boxN1_from B6 _ _ (fun (_ : Unit) => _) () X Y row b6 hg hr, boxN1_from B7 _ _ (fun (_ : Unit) => _) () X Y row b7 hg hr, ha⟩
    case assign =>
     rintro l pre x W K hI hK
     obtain ⟨a, hv, hsa⟩ := evVal_ok hs x.2
     obtain ⟨A4, c4, rfl, _, _, _⟩ := hsa.at_
     simp only [hv]
     have hsW := hI.1.2.size
     have h5 := hI.1.1.2.lt
     unfold idVal
     gi_wp2
     exact hK _ _ (((KeepsOthers.alloc _ _).trans (KeepsOthers.alloc _ _)).from _) (((Below.refl _ W).alloc hsW _).alloc (by simp; omega) _) ((gi_from t w _ (Nat.le_refl _)).alloc _ ((gi_from t w _ (Nat.le_refl _)).alloc _ hI))
      ⟨W.heap.size, W.heap.size + 1, A4, _, c4, _, _, ⟨h5, by omega, hsa⟩, (BoxN.new _ _ _).alloc _, BoxN.newAt _ _ (by simp), rfl⟩
    case body =>
     rintro l pre x a' W hlW ⟨r, hr⟩ hI ⟨B6, B7, A4, n4, c4, v37, v38, ⟨hB6, hB7, hsa⟩, b6, b7, rfl⟩ hlen
     obtain ⟨⟨⟨⟨tbW, r1W⟩, r2W⟩, hxW⟩, hg⟩ := hI
     have hsW := hxW.size
     have HG := hide hg
     have HSA := hide hsa
     clear hg hsa
     have k0 := b7.cell (j := 0) rfl
     have k1 := b7.cell (j := 1) rfl
     have k2 := b7.cell (j := 2) rfl
     have k3 := b7.cell (j := 3) rfl
     have k4 := b7.cell (j := 4) rfl
     have i0 := b6.cell (j := 0) rfl
     have i1 := b6.cell (j := 1) rfl
     have t0 := tbW.cell (j := 0) rfl
     obtain ⟨hp, hi1, hi2⟩ := mem_ids.1 x.2
     have hee : t[x.1.1].evs[x.1.2 - 1] = evAt t x.1 := by
      unfold evAt evsOf; rw [getD_lt dfPr t hp, getD_lt dfEv _ oM]
     have HE := hide (fun w' (he : Ext w w') => CallsIn.inRound l (callsIn_wide (n := 6).2 (eventFault_any (.slice A t.length c) (.slice A4 n4 c4) t x.1.1 x.1.2 (evAt t x.1) w' hp hi1 hi2 hee hnp (hS.nv _ (List.getElem_mem hp)) (hS.ne _ (List.getElem_mem hp)) (by rw [← hee]; exact hS.na _ (List.getElem_mem hp) _ (List.getElem_mem _)) (hs.ext RPr.keeps he) (HSA.out.ext RAsg.keeps he))))
     clear hee
     gi_wp2_with fail
     refine ⟨trivial, ?_⟩
     refine (HE.out _ hxW).mono ?_
     rintro e w2 ⟨rfl, he2⟩
     by_cases hz : formF t x.1 = 0
     ·have HZ := hide hz
      rw [show formF t (x.1.1, x.1.2) = 0 from hz]
      clear hz
      gi_wp2
      refine ⟨KF.ext (KeepsFrom.refl _ _) he2, BL.ext (Below.refl _ _) he2 hsW, ?_⟩
      show GI t w (.slice A t.length c) ((pre ++ [x]).map (·.1)) _
      rw [map_snoc]
      refine ⟨⟨⟨⟨tbW.ext he2, r1W.ext he2⟩, r2W.ext he2⟩, hxW.trans he2⟩, fun z hz => ?_⟩
      rcases List.mem_append.1 hz with h1 | h1
      ·exact HG.out z h1
      ·rw [show z = x.1 by simpa using h1]; exact HZ.out
     ·have hne : ((formF t (x.1.1, x.1.2) : Int) != 0) = true := by
       have : ¬ formF t (x.1.1, x.1.2) = 0 := hz
       simp; omega
      have HZ := hide hz
      clear hz
      have r12 := r1W.ext he2
      have r22 := r2W.ext he2
      have b62 := b6.ext he2
      have f1 := r12.frozen 0
      have f2 := r12.frozen 1
      have f3 := r22.frozen 0
      have p1 := r12.cell (j := 0) rfl
      have p2 := r12.cell (j := 1) rfl
      have p3 := r22.cell (j := 0) rfl
      have i02 := b62.cell (j := 0) rfl
      have i12 := b62.cell (j := 1) rfl
      have hKF3 : KeepsFrom W0.heap.size W w2 := KF.ext (KeepsFrom.refl _ _) he2
      have hEX3 : Ext w w2 := hxW.trans he2
      gi_wp2
      refine ⟨?_, rfl, pre.map (·.1), x.1, ⟨⟨⟨map_snoc pre x, HG.out, HZ.out⟩, ?_⟩, ?_⟩, ?_⟩
      all_goals exact kW0
    case done =>
     rintro D ys W hD hys ⟨⟨⟨⟨tbW, r1W⟩, r2W⟩, hxW⟩, hg⟩ hK
     rw [hys] at hg
     have HG := hide hg
     clear hg
     have hform : ∀ x ∈ ids t, formedB t.length x.1 (evAt t x) = true := fun x hx => formF_formed (HG.out x hx)
     have hfn := hide (form_done HG.out)
     have t0 := tbW.cell (j := 0) rfl
     have HMF := hide (fun w' (he : Ext w w') => callsIn_wide (n := 8).2 (messageFault_any (.slice A t.length c) t w' hnp hS.ne (hs.ext RPr.keeps he) hform))
     have hform' := hide hform
     clear hform
     gi_wp2_with fail
     refine ⟨trivial, ?_⟩
     refine (HMF.out _ hxW).mono ?_
     rintro e w2 ⟨he2, hm⟩
     have hKF2 : KeepsFrom W0.heap.size W w2 := KF.ext (KeepsFrom.refl _ _) he2
     have hEX2 : Ext w w2 := hxW.trans he2
     have r12 := r1W.ext he2
     have r22 := r2W.ext he2
     have tb2 := tbW.ext he2
     have t02 := tb2.cell (j := 0) rfl
     have lt1 := tb2.lt
     have lt2 := r12.lt
     have lt3 := r22.lt
     clear t0
     rcases hm with ⟨x, hx, rfl⟩ | ⟨hpn, b, cs, hb, hbox, hlet, rfl⟩
     ·have HP := hide (fault_pair HIN.out H0.out hfn.out hx)
      have hne0 : ((pairF t x : Int) != 0) = true := by
       have := List.find?_some hx
       simp at this ⊢; omega
      clear hx
      unfold idVal
      have f1 := r12.frozen 0
      have f2 := r12.frozen 1
      have f3 := r22.frozen 0
      have p1 := r12.cell (j := 0) rfl
      have p2 := r12.cell (j := 1) rfl
      have p3 := r22.cell (j := 0) rfl
      gi_wp2
      obtain ⟨Wr, hWr⟩ : ∃ Wr, (((w2.setCell ⟨w.heap.size + 1, 0, none⟩ (Value.int .i64 x.1)).setCell ⟨w.heap.size + 1, 1, none⟩ (Value.int .i64 x.2)).setCell ⟨w.heap.size + 1 + 1, 0, none⟩ (Value.int .i64 (pairF t x))).alloc (Obj.cells #[Value.int .i64 x.1, Value.int .i64 x.2] 68) = Wr := ⟨_, rfl⟩
      rw [hWr]
      have s1 : BoxN Wr (w.heap.size + 1) 68 #[.int .i64 x.1, .int .i64 x.2] := by rw [← hWr]; exact kW0
      have s2 : BoxN Wr (w.heap.size + 1 + 1) 50 #[.int .i64 (pairF t x)] := by rw [← hWr]; exact kW0
      have sx : Ext w Wr := by rw [← hWr]; exact kW0
      have hkf : KeepsFrom W0.heap.size W Wr := by rw [← hWr]; exact kW0
      have hKW : Wr.heap[D]? = some (.deferred (some [])) := hkf.same D _ hD hK rfl
      clear hWr
      have e2 := (s1.putObj hKW rfl (.deferred none)).cell (j := 0) rfl
      have e3 := (s1.putObj hKW rfl (.deferred none)).cell (j := 1) rfl
      have e4 := (s2.putObj hKW rfl (.deferred none)).cell (j := 0) rfl
      refine ⟨by simp, .inl ⟨_, _, rfl, run_takeDeferred hKW, ?_⟩⟩
      refine ⟨.tuple #[idVal x, .int .i64 (pairF t x)], ?_, by first | (rw [HP.out]; done) | (rw [HP.out]; rfl), sx.putObj oM hKW _⟩
      simp [results, Tryd.f110, go_sem, e2, e3, e4, idVal]
     ·have HPN := hide hpn
      clear hpn
      have HC := hide (fun w' (he : Ext w w') (hb' : BoxN w' b 220 cs) => callsIn_wide (n := 8).2 (cyclic_any (.slice A t.length c) t b cs w' hnp hS.ne (ids_few hnp (fun x hx => hS.ne x hx) HIN.out H0.out) (hs.ext RPr.keeps he) hform'.out hb' hlet))
      unfold idVal
      gi_wp2_with fail
      refine ⟨trivial, ?_⟩
      refine (HC.out _ (hEX2.alloc _) (hbox.alloc _)).mono ?_
      rintro e w3 ⟨he3, hm3⟩
      have he23 : Ext w2 w3 := Ext.trans ((Ext.refl w2).alloc _) he3
      have hKF3 : KeepsFrom W0.heap.size W w3 := KF.ext hKF2 he23
      have hEX3 : Ext w w3 := hEX2.trans he23
      have r13 := r12.ext he23
      have r23 := r22.ext he23
      have lt13 := r13.lt
      have lt23 := r23.lt
      have f1 := r13.frozen 0
      have f2 := r13.frozen 1
      have f3 := r23.frozen 0
      have p1 := r13.cell (j := 0) rfl
      have p2 := r13.cell (j := 1) rfl
      have p3 := r23.cell (j := 0) rfl
      rcases hm3 with ⟨x, hx, rfl⟩ | ⟨hx, rfl⟩
      ·have HP := hide (fault_hb HIN.out H0.out hfn.out HPN.out hx)
       clear hx
       unfold idVal
       gi_wp2
       obtain ⟨Wr, hWr⟩ : ∃ Wr, (((w3.setCell ⟨w.heap.size + 1, 0, none⟩ (Value.int .i64 x.1)).setCell ⟨w.heap.size + 1, 1, none⟩ (Value.int .i64 x.2)).setCell ⟨w.heap.size + 1 + 1, 0, none⟩ (Value.int .i64 10)).alloc (Obj.cells #[Value.int .i64 x.1, Value.int .i64 x.2] 68) = Wr := ⟨_, rfl⟩
       rw [hWr]
       have s1 : BoxN Wr (w.heap.size + 1) 68 #[.int .i64 x.1, .int .i64 x.2] := by rw [← hWr]; exact kW0
       have s2 : BoxN Wr (w.heap.size + 1 + 1) 50 #[.int .i64 10] := by rw [← hWr]; exact kW0
       have sx : Ext w Wr := by rw [← hWr]; exact kW0
       have hkf : KeepsFrom W0.heap.size W Wr := by rw [← hWr]; exact kW0
       have hKW : Wr.heap[D]? = some (.deferred (some [])) := hkf.same D _ hD hK rfl
       clear hWr
       have e2 := (s1.putObj hKW rfl (.deferred none)).cell (j := 0) rfl
       have e3 := (s1.putObj hKW rfl (.deferred none)).cell (j := 1) rfl
       have e4 := (s2.putObj hKW rfl (.deferred none)).cell (j := 0) rfl
       refine ⟨by simp, .inl ⟨_, _, rfl, run_takeDeferred hKW, ?_⟩⟩
       refine ⟨.tuple #[idVal x, .int .i64 10], ?_, by first | (rw [HP.out]; done) | (rw [HP.out]; rfl), sx.putObj oM hKW _⟩
       simp [results, Tryd.f110, go_sem, e2, e3, e4, idVal]
      ·have HP := hide (fault_ok HIN.out H0.out hfn.out HPN.out hx)
       clear hx
       unfold idVal
       gi_wp2
       obtain ⟨Wr, hWr⟩ : ∃ Wr, (((w3.setCell ⟨w.heap.size + 1, 0, none⟩ (Value.int .i64 0)).setCell ⟨w.heap.size + 1, 1, none⟩ (Value.int .i64 0)).setCell ⟨w.heap.size + 1 + 1, 0, none⟩ (Value.int .i64 0)).alloc (Obj.cells #[Value.int .i64 0, Value.int .i64 0] 68) = Wr := ⟨_, rfl⟩
       rw [hWr]
       have s1 : BoxN Wr (w.heap.size + 1) 68 #[.int .i64 0, .int .i64 0] := by rw [← hWr]; exact kW0
       have s2 : BoxN Wr (w.heap.size + 1 + 1) 50 #[.int .i64 0] := by rw [← hWr]; exact kW0
       have sx : Ext w Wr := by rw [← hWr]; exact kW0
       have hkf : KeepsFrom W0.heap.size W Wr := by rw [← hWr]; exact kW0
       have hKW : Wr.heap[D]? = some (.deferred (some [])) := hkf.same D _ hD hK rfl
       clear hWr
       have e2 := (s1.putObj hKW rfl (.deferred none)).cell (j := 0) rfl
       have e3 := (s1.putObj hKW rfl (.deferred none)).cell (j := 1) rfl
       have e4 := (s2.putObj hKW rfl (.deferred none)).cell (j := 0) rfl
       refine ⟨by simp, .inl ⟨_, _, rfl, run_takeDeferred hKW, ?_⟩⟩
       refine ⟨.tuple #[idVal (0, 0), .int .i64 0], ?_, by first | (rw [HP.out]; done) | (rw [HP.out]; rfl), sx.putObj oM hKW _⟩
       simp [results, Tryd.f110, go_sem, e2, e3, e4, idVal]
    case stop =>
     rintro D c' pre W hD hpre ⟨rfl, a, x, ⟨⟨⟨hp, hg, hne⟩, r1W⟩, r2W⟩, hxW⟩ hK
     rw [hp] at hpre
     have HST := hide (fault_form HIN.out H0.out (form_stop hpre hg hne))
     clear hg
     gi_wp2
     have e2 := (r1W.putObj hK rfl (.deferred none)).cell (j := 0) rfl
     have e3 := (r1W.putObj hK rfl (.deferred none)).cell (j := 1) rfl
     have e4 := (r2W.putObj hK rfl (.deferred none)).cell (j := 0) rfl
     refine ⟨by simp, .inl ⟨_, _, rfl, run_takeDeferred hK, ?_⟩⟩
     refine ⟨.tuple #[idVal x, .int .i64 (formF t x)], ?_, by rw [HST.out], hxW.putObj oM hK _⟩
     simp [results, Tryd.f110, go_sem, e2, e3, e4, idVal]

theorem Valid_any (u : Value) (t : Tr) (w : World) (hS : Sm t) (hs : SlR 3 RPr w u t) :
  Calls Tryd.prog 68 #[.agg #[u]] w fun e w' => e = .returned (.bool (validL t)) ∧ Ext w w' := by
 have HF := hide (fun w' (he : Ext w w') => Fault_any u t w' hS (hs.ext RPr.keeps he))
 obtain ⟨A, c, rfl, _, hcm, _⟩ := hs.at_
 go_enter Tryd.func68, Tryd.ntmps68
 go_wp2_with fail
 refine (HF.out _ ((Ext.refl w).alloc _)).mono ?_
 rintro e w2 ⟨rfl, he2⟩
 unfold idVal
 go_wp2
 go_ret
 refine ⟨ret_bool ?_, Ext.alloc (Ext.trans ((Ext.refl w).alloc _) he2) _⟩
 unfold validL
 rw [Bool.eq_iff_iff]; simp
end Go.Proofs.YtnihdkfmmbpilaaDoor
namespace Go.Proofs.YtnihdkfmmbpilaaDoor
open Go.RowKit
set_option linter.unusedVariables false

theorem quiet_r {P : Program} {f : FuncId} {args : Array Value} {w : World} {n : Nat} {v : Value}
  (h : Calls P f args (w.drewN n) fun e w' => e = .returned v ∧ w.drewN n = w') : Calls P f args (w.drewN n) fun e w'' => e = .returned v ∧ ∃ m, w'' = w.drewN m :=
 h.mono fun _ _ ⟨he, hm⟩ => ⟨he, n, hm.symm⟩
theorem any_take_step {α : Type} {f : α → Bool} {l : List α} {k : Nat} (hk : k < l.length) (h : (l.take k).any f = false) (h2 : f l[k] = false) : (l.take (k + 1)).any f = false := by
 rw [List.take_succ_eq_append_getElem hk, List.any_append, h]; simp [h2]
theorem any_take_hit {α : Type} {f : α → Bool} {l : List α} {k n : Nat} (hk : k < l.length) (hkn : k < n) (h2 : f l[k] = true) : (l.take n).any f = true := by
 rw [List.any_eq_true]
 exact ⟨l[k], List.mem_take_iff_getElem.2 ⟨k, by omega, rfl⟩, h2⟩

set_option maxRecDepth 100000 in
set_option maxHeartbeats 4000000 in
theorem rhead_any (u : Value) (t : Tr) (p : Nat) (w : World) (hp : p < t.length) (hS : Sm t) (hs : SlR 3 RPr w u t) :
  Calls Tryd.prog 104 #[.agg #[u], .int .i64 p] w fun e w' => e = .returned (.int .i64 (headF t p)) ∧ Ext w w' := by
 obtain ⟨A, c, rfl, h1, h2, hc⟩ := hs.at_
 obtain ⟨b, off, rfl, hel⟩ := hc oM
 obtain ⟨⟨c0, hm⟩, ⟨v1, c1, hs1⟩, v2, c2, hs2⟩ := hel p hp
 have hb := lt_of_cell c0
 have HS1 := hide hs1
 obtain ⟨A1, k1, rfl, _, _, hc1⟩ := hs1.at_
 obtain ⟨A2, k2, rfl, _, _, _⟩ := hs2.at_
 have HEL := hide hel
 have HC1 := hide hc1
 have hnp := hS.np
 have hnv := hS.nv _ (List.getElem_mem hp)
 have hne := hS.ne _ (List.getElem_mem hp)
 clear hs hs1 hs2 hel hc hc1
 have HN := hide (fun w => rName_any t[p].name w hm)
 have HE := hide (headF_eq t p hp)
 go_enter Tryd.func104, Tryd.ntmps104
 go_wp2_with fail
 refine (HN.out _).mono ?_
 rintro e w1 ⟨rfl, rfl⟩
 cases hn : nameB t[p].name
 ·go_wp2_with fail
  go_ret
  exact ⟨by rw [HE.out, hn]; rfl, ((Ext.refl _).alloc _).alloc _⟩
 ·have bt : BoxN ((w.alloc (.cells #[.slice (some ⟨b, off, none⟩) t.length c] 24)).alloc (.cells #[.string t[p].name, .slice A1 t[p].vars.length k1, .slice A2 t[p].evs.length k2] 78)) w.heap.size 24 _ := (BoxN.new w _ _).alloc _
  have bp : BoxN ((w.alloc (.cells #[.slice (some ⟨b, off, none⟩) t.length c] 24)).alloc (.cells #[.string t[p].name, .slice A1 t[p].vars.length k1, .slice A2 t[p].evs.length k2] 78)) (w.heap.size + 1) 78 _ := BoxN.newAt _ _ (by simp)
  have hx1 : Ext w ((w.alloc (.cells #[.slice (some ⟨b, off, none⟩) t.length c] 24)).alloc (.cells #[.string t[p].name, .slice A1 t[p].vars.length k1, .slice A2 t[p].evs.length k2] 78)) := ((Ext.refl _).alloc _).alloc _
  go_wp2_with fail
  generalize (w.alloc (.cells #[.slice (some ⟨b, off, none⟩) t.length c] 24)).alloc (.cells #[.string t[p].name, .slice A1 t[p].vars.length k1, .slice A2 t[p].evs.length k2] 78) = W1 at *
  go_loopw [6] (fun i wr => ∃ k : Nat, k ≤ p ∧ i = .int .i64 k ∧ ((t.take k).any fun y => y.name.toList == t[p].name.toList) = false ∧ Ext W1 wr) (fun i _ => p - (intOf i).toNat)
  case atStart => exact ⟨0, Nat.zero_le _, rfl, rfl, Ext.refl _⟩
  case round =>
   obtain ⟨k, hk, rfl, hany, hx⟩ := hrel
   have HANY := hide hany
   clear hany
   have t0 := (bt.ext hx).cell (j := 0) rfl
   have p0 := (bp.ext hx).cell (j := 0) rfl
   by_cases hlt : k < p
   ·obtain ⟨⟨d0, dm⟩, _, _⟩ := HEL.out k oM
    have e0 := (hx1.trans hx).cellAt d0
    clear d0
    cases heq : t[k].name.toList == t[p].name.toList
    ·go_wp2_with fail
     go_quiet (fail)
     revert nq; intro n1
     go_wp2_with fail
     go_roundw
     case rel => exact ⟨k + 1, hlt, by go_num, any_take_step oM HANY.out heq, hx.drewN _⟩
     case measure => simp [intOf]; omega
    ·have HA := hide (any_take_hit (f := fun y : Pr => y.name.toList == t[p].name.toList) (n := p) (show k < t.length by omega) hlt heq)
     go_wp2_with fail
     go_quiet (fail)
     revert nq; intro n1
     go_wp2_with fail
     go_ret
     exact ⟨by rw [HE.out, hn, HA.out]; rfl, (hx1.trans hx).drewN _⟩
   ·obtain rfl : k = p := by omega
    have p1 := (bp.ext hx).cell (j := 1) rfl
    have p2 := (bp.ext hx).cell (j := 2) rfl
    by_cases h8 : 8 < t[k].vars.length
    ·go_wp2_with fail
     go_ret
     exact ⟨by rw [HE.out, hn, HANY.out]; simp [h8], hx1.trans hx⟩
    ·go_wp2_with fail
     clear p0 p1 p2 t0
     have bt2 := bt.ext hx
     have bp2 := bp.ext hx
     have hx2 := hx1.trans hx
     clear bt bp hx1 hx
     obtain ⟨W2, hW2⟩ : ∃ W2 : World, wr = W2 := ⟨_, rfl⟩
     rw [hW2] at bt2 bp2 hx2 ⊢
     clear hW2
     go_loopw [7] (fun i wr => ∃ j : Nat, j ≤ t[k].vars.length ∧ i = .int .i64 j ∧ firstNZ (varF t[k].vars) j = 0 ∧ Ext W2 wr) (fun i _ => t[k].vars.length - (intOf i).toNat)
     case atStart => exact ⟨0, Nat.zero_le _, rfl, rfl, Ext.refl _⟩
     case round =>
      obtain ⟨j, hj, rfl, hz, hx⟩ := hrel
      have HZ := hide hz
      clear hz
      have p1 := (bp2.ext hx).cell (j := 1) rfl
      have p2 := (bp2.ext hx).cell (j := 2) rfl
      by_cases hlj : j < t[k].vars.length
      ·obtain ⟨b1, off1, rfl, hel1⟩ := HC1.out oM
       have HEL1 := hide hel1
       obtain ⟨f0, f1, fm⟩ := hel1 j hlj
       have g0 := (hx2.trans hx).cellAt f0
       have HV := hide (varF_eq t[k].vars j hlj)
       have HN2 := hide (fun w => rName_any t[k].vars[j].name w fm)
       clear hel1 f0 fm
       go_wp2_with fail
       refine (HN2.out _).mono ?_
       rintro e w2 ⟨rfl, rfl⟩
       cases hn2 : nameB t[k].vars[j].name
       ·have HF13 := hide (show varF t[k].vars j = 13 by rw [HV.out, hn2]; rfl)
        have HR := hide (firstNZ_hit (n := t[k].vars.length) HZ.out (by rw [HF13.out]; decide) hlj)
        go_wp2_with fail
        go_ret
        exact ⟨by rw [HE.out, hn, HANY.out, HR.out, HF13.out]; simp [h8], hx2.trans hx⟩
       ·go_wp2_with fail
        clear p1 p2 g0
        have bp3 := bp2.ext hx
        obtain ⟨W3, hW3⟩ : ∃ W3 : World, wr = W3 := ⟨_, rfl⟩
        rw [hW3] at hx bp3 ⊢
        clear hW3
        go_loopw [8] (fun i wr => ∃ q : Nat, q ≤ j ∧ i = .int .i64 q ∧ ((t[k].vars.take q).any fun y => y.name.toList == t[k].vars[j].name.toList) = false ∧ Ext W3 wr) (fun i _ => j - (intOf i).toNat)
        case atStart => exact ⟨0, Nat.zero_le _, rfl, rfl, Ext.refl _⟩
        case round =>
         obtain ⟨q, hq, rfl, hany, hx3⟩ := hrel
         have HANY2 := hide hany
         clear hany
         have p1 := (bp3.ext hx3).cell (j := 1) rfl
         have p2 := (bp3.ext hx3).cell (j := 2) rfl
         obtain ⟨f0, f1, fm⟩ := HEL1.out j hlj
         have hx4 := (hx2.trans hx).trans hx3
         have g0 := hx4.cellAt f0
         have g1 := hx4.cellAt f1
         clear f0 f1
         by_cases hlq : q < j
         ·obtain ⟨f0, _, _⟩ := HEL1.out q oM
          have g2 := hx4.cellAt f0
          clear f0
          have hlq2 : (q : Int) < (t[k].vars.length : Int) := by omega
          cases heq : t[k].vars[q].name.toList == t[k].vars[j].name.toList
          ·go_wp2_with fail
           go_quiet (fail)
           revert nq; intro n1
           go_wp2_with fail
           go_roundw
           case rel => exact ⟨q + 1, hlq, by go_num, any_take_step oM HANY2.out heq, hx3.drewN _⟩
           case measure => simp [intOf]; omega
          ·have HF13 := hide (show varF t[k].vars j = 13 by rw [HV.out, hn2, any_take_hit (f := fun y : Vr => y.name.toList == t[k].vars[j].name.toList) (n := j) oM hlq heq]; rfl)
           have HR := hide (firstNZ_hit (n := t[k].vars.length) HZ.out (by rw [HF13.out]; decide) hlj)
           go_wp2_with fail
           go_quiet (fail)
           revert nq; intro n1
           go_wp2_with fail
           go_ret
           exact ⟨by rw [HE.out, hn, HANY.out, HR.out, HF13.out]; simp [h8], hx4.drewN _⟩
         ·obtain rfl : q = j := by omega
          have HI := hide (fun w => value_any t[k].vars[q].init w)
          go_wp2_with fail
          refine (HI.out _).mono ?_
          rintro e w4 ⟨rfl, rfl⟩
          cases hv2 : valB t[k].vars[q].init
          ·have HF2 := hide (show varF t[k].vars q = 2 by rw [HV.out, hn2, HANY2.out, hv2]; rfl)
           have HR := hide (firstNZ_hit (n := t[k].vars.length) HZ.out (by rw [HF2.out]; decide) hlj)
           go_wp2_with fail
           go_ret
           exact ⟨by rw [HE.out, hn, HANY.out, HR.out, HF2.out]; simp [h8], hx4⟩
          ·have HF0 := hide (show varF t[k].vars q = 0 by rw [HV.out, hn2, HANY2.out, hv2]; rfl)
           go_wp2_with fail
           go_roundw
           case rel => exact ⟨q + 1, hlj, by go_num, firstNZ_step HZ.out HF0.out, hx.trans hx3⟩
           case measure => simp [intOf]; omega
      ·obtain rfl : j = t[k].vars.length := by omega
       by_cases h64 : 64 < t[k].evs.length
       ·go_wp2_with fail
        go_ret
        exact ⟨by rw [HE.out, hn, HANY.out]; simp [h8, h64, HZ.out], hx2.trans hx⟩
       ·go_wp2_with fail
        go_ret
        exact ⟨by rw [HE.out, hn, HANY.out]; simp [h8, h64, HZ.out], hx2.trans hx⟩
end Go.Proofs.YtnihdkfmmbpilaaDoor
