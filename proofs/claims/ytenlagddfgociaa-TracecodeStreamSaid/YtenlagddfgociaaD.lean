/- What comes in as data reads in our own words: integers, strings, slices of what reads. No condition. -/
import Derived.Test.YtenlagddfgociaaH
import Derived.Deep.Slices
import Derived.ProofKit
import Derived.Lib.SmallJoins
namespace Go.Proofs.Ytenlagddfgociaa
open Go.RowKit Go.ChangeShapes Go.WideShapes Go.Deep
set_option linter.unusedVariables false

theorem list_of {α : Type} {p : Nat → α → Prop} : ∀ n : Nat, (∀ i, i < n → ∃ x, p i x) → ∃ xs : List α, xs.length = n ∧ ∀ (j : Nat) (x : α), xs[j]? = some x → p j x
  | 0, _ => ⟨[], rfl, fun j x h => by simp at h⟩
  | n + 1, h => by
    obtain ⟨xs, hl, hx⟩ := list_of n (fun i hi => h i (Nat.lt_succ_of_lt hi))
    obtain ⟨y, hy⟩ := h n (Nat.lt_succ_self n)
    refine ⟨xs ++ [y], by simp [hl], fun j x hj => ?_⟩
    rcases Nat.lt_or_ge j n with hlt | hge
    · rw [List.getElem?_append_left (by omega)] at hj; exact hx j x hj
    · rw [List.getElem?_append_right (by omega)] at hj
      rcases Nat.eq_or_lt_of_le hge with he | hgt
      · subst he
        rw [hl, Nat.sub_self] at hj
        simp at hj
        subst hj; exact hy
      · rw [List.getElem?_eq_none (by simp; omega)] at hj; cases hj

theorem spot_none {w : World} {x : Addr} {v : Value} (h : w.cell? x = some v) : x.spot = none := by
  unfold World.cell? at h
  split at h
  · split at h
    · cases h
    · rename_i hs; simpa using hs
  · cases h

section
variable {α : Type}
/-- A value of one cell that reads. -/
def TRV (P : Program) (e : TypeId) (V : World → Value → α → Prop) : Prop :=
  ∀ (H : Type) (enc : TypeId × Value → H) (w : World) (base : Nat) (spare : Nat → Bool) (held : Bool) (fuel : Nat) (v : Value) (x : DataW H × List MemPlace), DataW.trod enc P w base spare held fuel e [v] = some x → ∃ y, V w v y
/-- Cells that read. -/
def TRR (P : Program) (e : TypeId) (size : Nat) (R : World → Nat → Nat → α → Prop) : Prop :=
  ∀ (H : Type) (enc : TypeId × Value → H) (w : World) (base : Nat) (spare : Nat → Bool) (held : Bool) (fuel : Nat) (b o : Nat) (cs : List Value) (x : DataW H × List MemPlace), cs.length = size →
    (∀ j (hj : j < cs.length), w.cell? ⟨b, o + j, none⟩ = some cs[j]) → DataW.trod enc P w base spare held fuel e cs = some x → ∃ y, R w b o y
theorem TRV.mono {P : Program} {e : TypeId} {V V' : World → Value → α → Prop} (h : TRV P e V) (hv : ∀ w v y, V w v y → V' w v y) : TRV P e V' :=
  fun H enc w base spare held fuel v x hx => let ⟨y, hy⟩ := h H enc w base spare held fuel v x hx; ⟨y, hv _ _ _ hy⟩
theorem TRV.cell {P : Program} {e : TypeId} {V : World → Value → α → Prop} (h : TRV P e V) : TRR P e 1 (fun w b o y => ∃ v, w.cell? ⟨b, o, none⟩ = some v ∧ V w v y) := by
  intro H enc w base spare held fuel b o cs x hl hc hx
  match cs, hl with
  | [v], _ =>
    obtain ⟨y, hy⟩ := h H enc w base spare held fuel v x hx
    exact ⟨y, v, by simpa using hc 0 (by simp), hy⟩
theorem TRR.mono {P : Program} {e : TypeId} {size : Nat} {R R' : World → Nat → Nat → α → Prop} (h : TRR P e size R) (hr : ∀ w b o y, R w b o y → R' w b o y) : TRR P e size R' :=
  fun H enc w base spare held fuel b o cs x hl hc hx => let ⟨y, hy⟩ := h H enc w base spare held fuel b o cs x hl hc hx; ⟨y, hr _ _ _ _ hy⟩
end

theorem trv_int {P : Program} {e : TypeId} {k : IntKind} (he : P.underlying e = some (.int k)) : TRV P e (fun _ v (y : Int) => v = .int k y ∧ (Lit.int k y).wf = true) := by
  intro H enc w base spare held fuel v x hx
  obtain ⟨n, hn, _, hw⟩ := DataW.trod_int he hx
  simp at hn
  exact ⟨n, hn, hw⟩
theorem trv_bool {P : Program} {e : TypeId} (he : P.underlying e = some .bool) : TRV P e (fun _ v (y : Bool) => v = .bool y) := by
  intro H enc w base spare held fuel v x hx
  obtain ⟨n, hn, _⟩ := DataW.trod_bool he hx
  simp at hn
  exact ⟨n, hn⟩
theorem trv_string {P : Program} {e : TypeId} (he : P.underlying e = some .string) : TRV P e (fun _ v (y : ByteArray) => v = .string y ∧ y.size ≤ maxLen) := by
  intro H enc w base spare held fuel v x hx
  obtain ⟨n, hn, _, hm⟩ := DataW.trod_string he hx
  simp at hn
  exact ⟨n, hn, hm⟩
theorem SlR.mono {α : Type} {size : Nat} {R R' : World → Nat → Nat → α → Prop} {w : World} {v : Value} {xs : List α} (h : SlR size R w v xs) (hr : ∀ b o y, R w b o y → R' w b o y) : SlR size R' w v xs := by
  obtain ⟨A, c, hv, hl, hm, hc⟩ := h
  refine ⟨A, c, hv, hl, hm, fun h0 => ?_⟩
  obtain ⟨b, off, hA, hj⟩ := hc h0
  exact ⟨b, off, hA, fun j x hx => hr _ _ _ (hj j x hx)⟩
theorem trv_slice {P : Program} {α : Type} {t e : TypeId} {size : Nat} {R : World → Nat → Nat → α → Prop} (h : TRR P e size R) (ht : P.underlying t = some (.slice e)) (hC : P.cellsOf e = size) (h0 : 0 < size) : TRV P t (SlR size R) := by
  intro H enc w base spare held fuel v x hx
  rcases open_slice ht hx with ⟨hv, _⟩ | ⟨a, len, cap, m, n, D, Pl, hv, hb, hl, hm, hmm, _, hel⟩
  · simp at hv
    subst hv
    exact ⟨[], SlR.nil _ _ _⟩
  · simp at hv
    subst hv
    have hle : len ≤ m := by rw [hmm]; split <;> omega
    have key : ∀ i, i < len → ∃ y, (∃ b off, a = ⟨b, off, none⟩ ∧ R w b (off + i * size) y) := by
      intro i hi
      obtain ⟨cs', hc, ht'⟩ := hel i (by omega)
      rw [hC] at hc
      obtain ⟨_, hcl, hat⟩ := World.cells?_some hc
      obtain ⟨cs0, hc0, _⟩ := hel 0 (by omega)
      rw [hC] at hc0
      obtain ⟨_, hcl0, hat0⟩ := World.cells?_some hc0
      have h00 := hat0 0 h0
      have e00 : (a.add (0 * size)).add 0 = a := by simp [Addr.add]
      rw [e00, List.getElem?_eq_getElem (show 0 < cs0.length by omega)] at h00
      have hsp := spot_none h00
      obtain ⟨b, off, sp⟩ := a
      simp only at hsp
      subst hsp
      obtain ⟨y, hy⟩ := h H enc w base spare held n b (off + i * size) cs' (D i, Pl i) hcl (fun j hj => by
        have := hat j (by omega)
        have e1 : ((⟨b, off, none⟩ : Addr).add (i * size)).add j = ⟨b, off + i * size + j, none⟩ := by
          unfold Addr.add
          by_cases h1 : i * size = 0 <;> by_cases h2 : j = 0 <;> simp [h1, h2]
        rw [e1, List.getElem?_eq_getElem hj] at this
        exact this) ht'
      exact ⟨y, b, off, rfl, hy⟩
    obtain ⟨xs, hxl, hxs⟩ := list_of len key
    subst hxl
    refine ⟨xs, some a, cap, rfl, hl, hm, fun hpos => ?_⟩
    obtain ⟨b, off, ha, _⟩ := hxs 0 xs[0] (List.getElem?_eq_getElem hpos)
    subst ha
    refine ⟨b, off, rfl, fun j x hj => ?_⟩
    obtain ⟨b', off', hh, hr⟩ := hxs j x hj
    injection hh with h1 h2
    subst h1; subst h2
    exact hr
theorem byt_of {y : Int} (h : (Lit.int .u8 y).wf = true) : Value.int .u8 y = byt (UInt8.ofNat y.toNat) := by
  have hb : 0 ≤ y ∧ y ≤ 255 := by simpa [Lit.wf, IntKind.min, IntKind.max, IntKind.signed, IntKind.bits] using h
  unfold byt
  rw [UInt8.toNat_ofNat']
  congr 1
  omega
/-- '[]byte'. -/
theorem trv_bytes {P : Program} {t e : TypeId} (ht : P.underlying t = some (.slice e)) (he : P.underlying e = some (.int .u8)) (hC : P.cellsOf e = 1) : TRV P t (Sl byt) := by
  have h1 : TRV P e (fun (_ : World) v (y : UInt8) => v = byt y) := by
    intro H enc w base spare held fuel v x hx
    obtain ⟨y, rfl, hw⟩ := trv_int he H enc w base spare held fuel v x hx
    exact ⟨_, byt_of hw⟩
  exact TRV.mono (trv_slice (TRV.cell h1) ht hC (by omega)) fun w v y h => SlR.mono (R' := One byt) h fun b o x ⟨u, hc, hu⟩ => by subst hu; exact hc
/-- A parameter of a one-cell type. -/
theorem TRV.param {P : Program} {α : Type} {t : TypeId} {V : World → Value → α → Prop} (h : TRV P t V) {H : Type} {enc : TypeId × Value → H} {w : World} {v : Value} {d : DataW H} {p : List MemPlace} {base : Nat} {spare : Nat → Bool} {held : Bool}
    (hv : v.cells = #[v]) (hT : DataW.Trod enc P w base spare held t v d p) : ∃ y, V w v y := by
  obtain ⟨fuel, hf⟩ := hT
  rw [hv] at hf
  exact h H enc w base spare held fuel v (d, p) hf
end Go.Proofs.Ytenlagddfgociaa
