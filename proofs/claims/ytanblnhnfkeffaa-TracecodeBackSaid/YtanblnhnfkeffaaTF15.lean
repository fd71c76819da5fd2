/- Texts of one proof, laid together: TV, TW. No condition. -/
import Derived.Test.YtanblnhnfkeffaaTE11
import Derived.Test.YtanblnhnfkeffaaTF14
namespace Go.Proofs.Ytanblnhnfkeffaa
open Go.RowKit
set_option linter.unusedVariables false
theorem TR.mapP {P : Program} {α β : Type} {t : TypeId} {n : Nat} {enc : α → List IV} {good : α → Prop} (h : TR P t n enc good) {enc' : β → List IV} {good' : β → Prop} (f : α → β) (he : ∀ y, good y → enc' (f y) = enc y) (hg : ∀ y, good y → good' (f y)) : TR P t n enc' good' := by
 intro H en w base spare held fuel cs x hl hx
 obtain ⟨y, g, r⟩ := h H en w base spare held fuel cs x hl hx
 exact ⟨f y, hg y g, by rw [he y g]; exact r⟩
theorem wf_byte {n : Int} (h : (Lit.int .u8 n).wf = true) : 0 ≤ n ∧ n < 256 := by
 have h1 : (decide (IntKind.min .u8 ≤ n) && decide (n ≤ IntKind.max .u8)) = true := h
 rw [show IntKind.min .u8 = 0 from rfl, show IntKind.max .u8 = 255 from by decide] at h1
 simp at h1
 omega
theorem wf_16 {n : Int} (h : (Lit.int .u16 n).wf = true) : 0 ≤ n ∧ n < 65536 := by
 have h1 : (decide (IntKind.min .u16 ≤ n) && decide (n ≤ IntKind.max .u16)) = true := h
 rw [show IntKind.min .u16 = 0 from rfl, show IntKind.max .u16 = 65535 from by decide] at h1
 simp at h1
 omega
theorem tr_byte : TR Try.prog 5 1 (fun u : UInt8 => [.int .u8 (u.toNat : Int)]) (fun _ => True) :=
 (tr_int Try.underlying5).mapP (fun n => UInt8.ofNat n.toNat) (fun n h => by
  have := wf_byte h
  rw [byte_toNat oM]
  have : ((n.toNat : Nat) : Int) = n := by omega
  rw [this]) (fun _ _ => trivial)
theorem tr_bs : TR Try.prog 25 1 (fun c : List UInt8 => [.isl 1 (c.map eB)]) (fun c => c.length ≤ maxLen) :=
 (tr_slice tr_byte Try.underlying25 (by kernel_rfl) (by decide)).map id (fun _ => rfl) (fun _ h => h.1)
end Go.Proofs.Ytanblnhnfkeffaa
namespace Go.Proofs.Ytanblnhnfkeffaa
open Go.RowKit
theorem tr_u16 : TR Try.prog 83 1 (fun n : Nat => [.int .u16 (n : Int)]) (fun n => n < 65536) :=
 (tr_int Try.underlying83).mapP (fun n => n.toNat) (fun n h => by
  have := wf_16 h
  have : ((n.toNat : Nat) : Int) = n := by omega
  rw [this]) (fun n h => by have := wf_16 h; omega)
end Go.Proofs.Ytanblnhnfkeffaa
