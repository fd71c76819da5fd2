/- Texts of one proof, laid together: GP. No condition. -/
import Derived.Test.YtnihdkfmmbpilaaDoorIC7
import Derived.Test.YtnihdkfmmbpilaaDoorIC8
import Derived.Test.YtnihdkfmmbpilaaDoorIC4
import Derived.Lib.LaidTab
namespace Go.Proofs.YtnihdkfmmbpilaaDoor
open Go.RowKit
set_option linter.unusedVariables false
theorem TR.mapM {P : Program} {α β : Type} {t : TypeId} {n : Nat} {enc : α → List IV} {good : α → Prop} (h : TR P t n enc good) {enc' : β → List IV} {good' : β → Prop} (f : α → β) (he : ∀ y, good y → enc' (f y) = enc y) (hg : ∀ y, good y → good' (f y)) : TR P t n enc' good' := by
 intro H en w base spare held fuel cs x hl hx
 obtain ⟨y, g, r⟩ := h H en w base spare held fuel cs x hl hx
 exact ⟨f y, hg y g, by rw [he y g]; exact r⟩
theorem wf_u8m {n : Int} (h : (Lit.int .u8 n).wf = true) : 0 ≤ n ∧ n < 256 := by
 have h1 : (decide (IntKind.min .u8 ≤ n) && decide (n ≤ IntKind.max .u8)) = true := h
 rw [show IntKind.min .u8 = 0 from rfl, show IntKind.max .u8 = 255 from by decide] at h1
 simp at h1
 omega
theorem tr_u8m : TR Tryd.prog 5 1 (fun n : Nat => [.int .u8 (n : Int)]) (fun n => n < 256) :=
 (tr_int Tryd.underlying5).mapM (fun n => n.toNat) (fun n h => by
  have := wf_u8m h
  have : ((n.toNat : Nat) : Int) = n := by omega
  rw [this]) (fun n h => by have := wf_u8m h; omega)
theorem tr_mv : TR Tryd.prog 49 3 eMv (fun m => m.1 < 256 ∧ m.2.1 < 256 ∧ m.2.2 < 256) :=
 (tr_struct Tryd.underlying49 (trf_cons tr_u8m (by kernel_rfl) rfl (trf_cons tr_u8m (by kernel_rfl) rfl (trf_cons tr_u8m (by kernel_rfl) rfl trf_nil)))).map (fun y => ⟨y.1, y.2.1, y.2.2.1⟩) (fun _ => rfl) (fun _ h => ⟨h.1, h.2.1, h.2.2.1⟩)
theorem tr_mvs : TR Tryd.prog 35 1 (fun l : List Mv => [.isl 3 (l.map eMv)]) (fun l => l.length ≤ maxLen ∧ ∀ m ∈ l, m.1 < 256 ∧ m.2.1 < 256 ∧ m.2.2 < 256) :=
 tr_slice tr_mv Tryd.underlying35 (by kernel_rfl) (by decide)
theorem intervaltreeCausal_run (ms : List Mv) (hm : ∀ m ∈ ms, m.1 < 256 ∧ m.2.1 < 256 ∧ m.2.2 < 256) (b l : List Row) :
  ACalls Tryd.prog 4 [.v (.isl 3 (ms.map eMv))] b l (fun r b' l' => r = .v (.bool true) ∧ b' = b ∧ l' = l) := itvC_run awake17_spec ms hm b l
theorem tab_second {P : Program} {W : World} {name : String} {k : IntKind} {zs : List Int} {x : String × DataW Unit} {rest : List (String × DataW Unit)} {g : Nat} {t e : TypeId} {n : Nat}
  (hg : P.globalNamed name = some g) (hty : (P.globals[g]?).map (·.type) = some t) (ht : P.underlying t = some (.array n e)) (he : P.underlying e = some (.int k)) (hce : P.cellsOf e = 1) (hct : P.cellsOf t = n)
  (h : laidMet P (x :: (name, Lib.tabData k zs) :: rest) W) : Lib.TabIs P W name k zs := by
 obtain ⟨x1, x2⟩ := x
 obtain ⟨ps, ⟨_, _, _, _, _, q, _, _, _, _, h2, _⟩, _⟩ := h
 obtain ⟨g', t', cs, fuel, p, q', hg', ht', hvar, hd, _, _⟩ := h2
 obtain rfl := Option.some.inj (hg.symm.trans hg')
 obtain rfl := Option.some.inj (hty.symm.trans ht')
 unfold Lib.TabIs
 rw [hvar, ← Lib.cells_of_tab ht he hce hct hd]
end Go.Proofs.YtnihdkfmmbpilaaDoor
