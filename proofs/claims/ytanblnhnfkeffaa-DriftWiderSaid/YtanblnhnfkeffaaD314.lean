/- Texts of one proof, laid together: Y1, Y2. No condition. -/
import Derived.Test.YtanblnhnfkeffaaD32
namespace Go.Proofs.Ytanblnhnfkeffaa
set_option linter.unusedVariables false
set_option linter.unusedSimpArgs false
abbrev Dm := Nat × Nat × Int
inductive Wk (es : List Dm) : Nat → Nat → Int → Prop
 | nil (u : Nat) : Wk es u u 0
 | snoc {u v w : Nat} {s b : Int} : Wk es u v s → (v, w, b) ∈ es → Wk es u w (s + b)
inductive Wi (es : List Dm) (k : Nat) : Nat → Nat → Int → Prop
 | one {u v : Nat} {b : Int} : (u, v, b) ∈ es → Wi es k u v b
 | snoc {u v w : Nat} {s b : Int} : Wi es k u v s → v < k → (v, w, b) ∈ es → Wi es k u w (s + b)
section
variable {es : List Dm}
theorem Wk.one {u v : Nat} {b : Int} (h : (u, v, b) ∈ es) : Wk es u v b := by
 have := Wk.snoc (Wk.nil (es := es) u) h
 rwa [Int.zero_add] at this
theorem Wk.trans {u v w : Nat} {s s' : Int} (h : Wk es u v s) (h' : Wk es v w s') : Wk es u w (s + s') := by
 induction h' with
 | nil => rwa [Int.add_zero]
 | snoc _ he ih => rw [← Int.add_assoc]; exact ih.snoc he
theorem Wk.cast {u v : Nat} {s s' : Int} (h : Wk es u v s) (e : s = s') : Wk es u v s' := e ▸ h
theorem Wi.cast {k u v : Nat} {s s' : Int} (h : Wi es k u v s) (e : s = s') : Wi es k u v s' := e ▸ h
theorem Wi.wk {k u v : Nat} {s : Int} (h : Wi es k u v s) : Wk es u v s := by
 induction h with
 | one h => exact Wk.one h
 | snoc _ _ he ih => exact ih.snoc he
theorem Wi.up {k m u v : Nat} {s : Int} (h : Wi es k u v s) (hm : k ≤ m) : Wi es m u v s := by
 induction h with
 | one h => exact .one h
 | snoc _ hv he ih => exact .snoc ih oM he
theorem Wi.trans {k u v w : Nat} {s s' : Int} (h : Wi es k u v s) (hv : v < k) (h' : Wi es k v w s') : Wi es k u w (s + s') := by
 induction h' with
 | one he => exact .snoc h hv he
 | snoc _ hx he ih => rw [← Int.add_assoc]; exact ih.snoc hx he
theorem Wi.first {k u w : Nat} {s : Int} (h : Wi es k u w s) : (u, w, s) ∈ es ∨ ∃ x b s', (u, x, b) ∈ es ∧ x < k ∧ Wi es k x w s' ∧ s = b + s' := by
 induction h with
 | one h => exact .inl h
 | @snoc v w s b h hv he ih =>
   right
   rcases ih with h1 | ⟨x, b', s', h1, h2, h3, h4⟩
   ·exact ⟨v, s, b, h1, hv, .one he, rfl⟩
   ·exact ⟨x, b', s' + b, h1, h2, .snoc h3 hv he, by rw [h4, Int.add_assoc]⟩
def NoNeg (es : List Dm) : Prop := ∀ u s, Wk es u u s → 0 ≤ s
structure Sys (n : Nat) (W : Int) (es : List Dm) : Prop where
 n0 : 0 < n
 W0 : 0 ≤ W
 bd : ∀ d ∈ es, d.1 < n ∧ d.2.1 < n ∧ -W ≤ d.2.2 ∧ d.2.2 ≤ W
 to0 : ∀ i, 0 < i → i < n → ∃ b, (i, 0, b) ∈ es
 of0 : ∀ i, 0 < i → i < n → ∃ b, (0, i, b) ∈ es
variable {n : Nat} {W : Int} (h : Sys n W es)
include h
theorem Sys.e0 {i j : Nat} {b : Int} (he : (i, j, b) ∈ es) : i < n ∧ j < n ∧ -W ≤ b ∧ b ≤ W := h.bd _ he
theorem Sys.back {i : Nat} (hi : i < n) : ∃ b, b ≤ W ∧ Wk es i 0 b := by
 by_cases h0 : i = 0
 ·subst h0; exact ⟨0, h.W0, .nil 0⟩
 ·obtain ⟨b, hb⟩ := h.to0 i oM hi
  exact ⟨b, (h.e0 hb).2.2.2, .one hb⟩
theorem Sys.forth {i : Nat} (hi : i < n) : ∃ b, b ≤ W ∧ Wk es 0 i b := by
 by_cases h0 : i = 0
 ·subst h0; exact ⟨0, h.W0, .nil 0⟩
 ·obtain ⟨b, hb⟩ := h.of0 i oM hi
  exact ⟨b, (h.e0 hb).2.2.2, .one hb⟩
theorem Sys.ge (hn : NoNeg es) {i j : Nat} {s : Int} (hi : i < n) (hj : j < n) (hw : Wk es i j s) : -(2 * W) ≤ s := by
 obtain ⟨b1, l1, w1⟩ := h.back hj
 obtain ⟨b2, l2, w2⟩ := h.forth hi
 have := hn _ _ (hw.trans (w1.trans w2))
 omega
theorem Sys.wi {i j : Nat} {s : Int} (hw : Wk es i j s) : (i = j ∧ s = 0) ∨ Wi es n i j s := by
 induction hw with
 | nil => exact .inl ⟨rfl, rfl⟩
 | snoc _ he ih =>
   rcases ih with ⟨rfl, rfl⟩ | ih
   ·exact .inr (Wi.cast (.one he) (Int.zero_add _).symm)
   ·exact .inr (.snoc ih (h.e0 he).1 he)
omit h
end
def Far : Int := 36028797018963968
def up2 (f : Nat → Nat → Int) (i j : Nat) (x : Int) : Nat → Nat → Int := fun a b => if a = i ∧ b = j then x else f a b
def rx (f : Nat → Nat → Int) (k i j : Nat) : Int := if f i k < Far ∧ f k j < Far then max (0 - Far) (min (f i j) (f i k + f k j)) else f i j
def fwJ (k i : Nat) (f : Nat → Nat → Int) : Nat → Nat → Nat → Int
 | 0 => f
 | j + 1 => up2 (fwJ k i f j) i j (rx (fwJ k i f j) k i j)
def fwI (n k : Nat) (f : Nat → Nat → Int) : Nat → Nat → Nat → Int
 | 0 => f
 | i + 1 => fwJ k i (fwI n k f i) n
def fwK (n : Nat) (f : Nat → Nat → Int) : Nat → Nat → Nat → Int
 | 0 => f
 | k + 1 => fwI n k (fwK n f k) n
theorem fw_keep {n : Nat} {f : Nat → Nat → Int} (P : (Nat → Nat → Int) → Prop) (h0 : P f) (hs : ∀ g k i j, k < n → i < n → j < n → P g → P (up2 g i j (rx g k i j))) : ∀ k, k ≤ n → P (fwK n f k) := by
 have hJ : ∀ k i, k < n → i < n → ∀ g, P g → ∀ j, j ≤ n → P (fwJ k i g j) := by
  intro k i hk hi g hg j
  induction j with
  | zero => intro _; exact hg
  | succ j ih => intro hj; exact hs _ k i j hk hi oM (ih oM)
 have hI : ∀ k, k < n → ∀ g, P g → ∀ i, i ≤ n → P (fwI n k g i) := by
  intro k hk g hg i
  induction i with
  | zero => intro _; exact hg
  | succ i ih => intro hi; exact hJ k i hk oM _ (ih oM) n (Nat.le_refl _)
 intro k
 induction k with
 | zero => intro _; exact h0
 | succ k ih => intro hk; exact hI k oM _ (ih oM) n (Nat.le_refl _)
def Bd (f : Nat → Nat → Int) : Prop := ∀ a b, 0 - Far ≤ f a b ∧ f a b ≤ Far
theorem rx_bd {f : Nat → Nat → Int} (h : Bd f) (k i j : Nat) : 0 - Far ≤ rx f k i j ∧ rx f k i j ≤ f i j := by
 have h1 := h i j
 unfold rx
 split <;> omega
theorem up2_bd {f : Nat → Nat → Int} (h : Bd f) (k i j : Nat) : Bd (up2 f i j (rx f k i j)) := by
 intro a b
 have h1 := h i j
 have h2 := rx_bd h k i j
 have h3 := h a b
 unfold up2
 split <;> omega
theorem fw_bd {n : Nat} {f : Nat → Nat → Int} (h : Bd f) {k : Nat} (hk : k ≤ n) : Bd (fwK n f k) := fw_keep Bd h (fun g k i j _ _ _ hg => up2_bd hg k i j) k hk
theorem fwI_le {n k : Nat} {f : Nat → Nat → Int} (h : Bd f) (a b : Nat) (i : Nat) : Bd (fwI n k f i) ∧ fwI n k f i a b ≤ f a b := by
 have hJ : ∀ i g, Bd g → ∀ j, Bd (fwJ k i g j) ∧ fwJ k i g j a b ≤ g a b := by
  intro i g hg j
  induction j with
  | zero => exact ⟨hg, Int.le_refl _⟩
  | succ j ih =>
    refine ⟨up2_bd ih.1 k i j, ?_⟩
    have := (rx_bd ih.1 k i j).2
    show up2 (fwJ k i g j) i j (rx (fwJ k i g j) k i j) a b ≤ _
    unfold up2
    split
    ·rename_i e; obtain ⟨rfl, rfl⟩ := e; exact Int.le_trans this ih.2
    ·exact ih.2
 induction i with
 | zero => exact ⟨h, Int.le_refl _⟩
 | succ i ih =>
   have := hJ i _ ih.1 n
   exact ⟨this.1, Int.le_trans this.2 ih.2⟩
theorem fwK_le {n : Nat} {f : Nat → Nat → Int} (h : Bd f) (a b k : Nat) : ∀ m, k + m ≤ n → fwK n f (k + m) a b ≤ fwK n f k a b
 | 0, _ => Int.le_refl _
 | m + 1, hm => by
   have ih := fwK_le (n := n) h a b k m oM
   exact Int.le_trans (fwI_le (n := n) (k := k + m) (fw_bd (n := n) (k := k + m) h oM) a b n).2 ih
theorem fwI_pure {n k : Nat} {f : Nat → Nat → Int} (h : Bd f) (hk : k < n) (h0 : f k k = 0) {a b : Nat} (ha : a < n) (hb : b < n) : fwI n k f n a b = rx f k a b := by
 have hrow : ∀ b, rx f k k b = f k b := fun b => by
  have := h k b
  unfold rx; rw [h0]
  split <;> omega
 have hcol : ∀ a, rx f k a k = f a k := fun a => by
  have := h a k
  unfold rx; rw [h0]
  split <;> omega
 have hJ : ∀ i, i < n → ∀ g : Nat → Nat → Int, (∀ a b, g a b = if a < i ∧ b < n then rx f k a b else f a b) → ∀ j, j ≤ n → ∀ a b, fwJ k i g j a b = if (a < i ∧ b < n) ∨ (a = i ∧ b < j) then rx f k a b else f a b := by
  intro i hi g hg j
  induction j with
  | zero =>
    intro _ a b
    show g a b = _
    rw [hg a b]
    by_cases hc : a < i ∧ b < n
    ·rw [if_pos hc, if_pos (.inl hc)]
    ·rw [if_neg hc, if_neg (fun x => x.elim hc (fun y => by omega))]
  | succ j ih =>
    intro hj a b
    have ih' := ih oM
    have e1 : fwJ k i g j i k = f i k := by rw [ih' i k]; split <;> first | exact hcol i | rfl
    have e2 : fwJ k i g j k j = f k j := by rw [ih' k j]; split <;> first | exact hrow j | rfl
    have e3 : fwJ k i g j i j = f i j := by rw [ih' i j, if_neg (fun x => by omega)]
    have e4 : rx (fwJ k i g j) k i j = rx f k i j := by unfold rx; rw [e1, e2, e3]
    show up2 (fwJ k i g j) i j (rx (fwJ k i g j) k i j) a b = _
    unfold up2
    rw [e4]
    by_cases hc : a = i ∧ b = j
    ·obtain ⟨rfl, rfl⟩ := hc
     rw [if_pos ⟨rfl, rfl⟩, if_pos (.inr ⟨rfl, by omega⟩)]
    ·rw [if_neg hc, ih' a b]
     by_cases h9 : (a < i ∧ b < n) ∨ (a = i ∧ b < j)
     ·rw [if_pos h9, if_pos (h9.imp id (fun y => ⟨y.1, by omega⟩))]
     ·rw [if_neg h9, if_neg (fun x => h9 (x.imp id (fun y => ⟨y.1, by omega⟩)))]
 have hI : ∀ i, i ≤ n → ∀ a b, fwI n k f i a b = if a < i ∧ b < n then rx f k a b else f a b := by
  intro i
  induction i with
  | zero => intro _ a b; rw [if_neg (fun x => by omega)]; rfl
  | succ i ih =>
    intro hi a b
    have := hJ i oM (fwI n k f i) (ih oM) n (Nat.le_refl _) a b
    show fwJ k i (fwI n k f i) n a b = _
    rw [this]
    by_cases h9 : a < i + 1 ∧ b < n
    ·rw [if_pos h9, if_pos oM]
    ·rw [if_neg h9, if_neg oM]
 rw [hI n (Nat.le_refl _) a b, if_pos ⟨ha, hb⟩]
structure Ini (n : Nat) (es : List Dm) (f : Nat → Nat → Int) : Prop where
 bd : Bd f
 dg : ∀ i, i < n → f i i = 0
 le : ∀ i j b, (i, j, b) ∈ es → f i j ≤ b
 at_ : ∀ i j, i < n → j < n → i ≠ j → f i j = Far ∨ (i, j, f i j) ∈ es
section
variable {n : Nat} {W : Int} {es : List Dm} {f : Nat → Nat → Int}
theorem fw_sound (h : Sys n W es) (hW : 8 * W < Far) (hi : Ini n es f) (hn : NoNeg es) {k : Nat} (hk : k ≤ n) : ∀ i j, i < n → j < n → fwK n f k i j = Far ∨ Wk es i j (fwK n f k i j) := by
 refine fw_keep (fun g => ∀ i j, i < n → j < n → g i j = Far ∨ Wk es i j (g i j)) (fun i j h1 h2 => ?_) (fun g k i j hk2 hi2 hj2 hg a b ha hb => ?_) k hk
 ·by_cases e : i = j
  ·subst e; right; rw [hi.dg i h1]; exact .nil i
  ·exact (hi.at_ i j h1 h2 e).imp id Wk.one
 ·have hg : ∀ i j, i < n → j < n → g i j = Far ∨ Wk es i j (g i j) := hg
  show up2 g i j (rx g k i j) a b = Far ∨ Wk es a b (up2 g i j (rx g k i j) a b)
  have h1 := hg i k hi2 hk2
  have h2 := hg k j hk2 hj2
  have h3 := hg i j hi2 hj2
  unfold up2
  split
  ·rename_i e
   obtain ⟨rfl, rfl⟩ := e
   unfold rx
   split
   ·rename_i hc
    have w1 := h1.resolve_left oM
    have w2 := h2.resolve_left oM
    have w := w1.trans w2
    have hge := h.ge hn ha hb w
    have hW0 := h.W0
    rw [show max (0 - Far) (min (g a b) (g a k + g k b)) = min (g a b) (g a k + g k b) by
     have : 0 - Far ≤ g a b := by
      rcases h3 with e | w3
      ·rw [e]; unfold Far; omega
      ·have := h.ge hn ha hb w3; omega
     omega]
    by_cases hm : g a b ≤ g a k + g k b
    ·rw [Int.min_eq_left hm]; exact h3
    ·rw [Int.min_eq_right oM]; exact .inr w
   ·exact h3
  ·exact hg a b ha hb
theorem fw_diag (hi : Ini n es f) (hd : ∀ i, i < n → 0 ≤ fwK n f n i i) {k : Nat} (hk : k ≤ n) {i : Nat} (h1 : i < n) : fwK n f k i i = 0 := by
 have a1 := fwK_le (n := n) hi.bd i i 0 k oM
 have a2 := fwK_le (n := n) hi.bd i i k (n - k) oM
 rw [show k + (n - k) = n by omega] at a2
 have a3 := hd i h1
 rw [Nat.zero_add, show fwK n f 0 i i = 0 from hi.dg i h1] at a1
 omega
structure FwI (n : Nat) (W : Int) (es : List Dm) (k : Nat) (g : Nat → Nat → Int) : Prop where
 D : ∀ i j s, i < n → j < n → Wi es k i j s → g i j ≤ s
 S : ∀ i j, i < n → j < n → g i j = Far ∨ Wi es k i j (g i j) ∨ (i = j ∧ g i j = 0)
 B : 0 < k → ∀ i j, i < n → j < n → g i j ≤ 2 * W
 bd : Bd g
 dg : ∀ i, i < n → g i i = 0
theorem FwI.ge {k : Nat} {g : Nat → Nat → Int} (h : Sys n W es) (H : FwI n W es k g) {i j : Nat} {s : Int} (w : Wi es k i j s) : -(4 * W) ≤ s := by
 have hW0 := h.W0
 have g00 := H.dg 0 h.n0
 have c0 : ∀ s, Wi es k 0 0 s → 0 ≤ s := fun s w => by have := H.D 0 0 s h.n0 h.n0 w; omega
 have cU : ∀ u s, Wi es k u 0 s → -(2 * W) ≤ s := fun u s w => by
  rcases w.first with he | ⟨x, b, s', he, hx, w', rfl⟩
  ·have := h.e0 he; omega
  ·have hb := h.e0 he
   by_cases hx0 : x = 0
   ·subst hx0
    have := c0 s' w'
    omega
   ·obtain ⟨b2, hb2⟩ := h.of0 x oM hb.2.1
    have h2 := h.e0 hb2
    have := c0 _ ((Wi.one hb2).trans hx w')
    omega
 cases w with
 | one he => have := h.e0 he; omega
 | snoc w hv he =>
   rename_i v s b
   have hb := h.e0 he
   by_cases hv0 : v = 0
   ·subst hv0
    have := cU i s w
    omega
   ·obtain ⟨b2, hb2⟩ := h.to0 v oM hb.1
    have h2 := h.e0 hb2
    have := cU i _ (.snoc w hv hb2)
    omega
theorem wi_dec {k : Nat} (hc : ∀ s, Wi es k k k s → 0 ≤ s) {u v : Nat} {s : Int} (w : Wi es (k + 1) u v s) : (∃ s1, s1 ≤ s ∧ Wi es k u v s1) ∨ (∃ s1 s2, s1 + s2 ≤ s ∧ Wi es k u k s1 ∧ Wi es k k v s2) := by
 induction w with
 | one he => exact .inl ⟨_, Int.le_refl _, .one he⟩
 | @snoc v w s b _ hv he ih =>
   by_cases hvk : v < k
   ·rcases ih with ⟨s1, l1, w1⟩ | ⟨s1, s2, l1, w1, w2⟩
    ·exact .inl ⟨s1 + b, by omega, .snoc w1 hvk he⟩
    ·exact .inr ⟨s1, s2 + b, by omega, w1, .snoc w2 hvk he⟩
   ·obtain rfl : v = k := by omega
    rcases ih with ⟨s1, l1, w1⟩ | ⟨s1, s2, l1, w1, w2⟩
    ·exact .inr ⟨s1, b, by omega, w1, .one he⟩
    ·have := hc s2 w2
     exact .inr ⟨s1, b, by omega, w1, .one he⟩
theorem fw_stage (h : Sys n W es) (hW : 8 * W < Far) {k : Nat} (hk : k < n) {g : Nat → Nat → Int} (H : FwI n W es k g) (hdg : ∀ i, i < n → 0 ≤ fwI n k g n i i) : FwI n W es (k + 1) (fwI n k g n) := by
 have hW0 := h.W0
 have hp : ∀ i j, i < n → j < n → fwI n k g n i j = rx g k i j := fun i j hi hj => fwI_pure H.bd hk (H.dg k hk) hi hj
 have ge4 : ∀ i j, i < n → j < n → -(4 * W) ≤ g i j := fun i j hi hj => by
  rcases H.S i j hi hj with e | w | ⟨_, e⟩
  ·rw [e]; unfold Far; omega
  ·exact H.ge h w
  ·omega
 have hr : ∀ i j, i < n → j < n → rx g k i j = if g i k < Far ∧ g k j < Far then min (g i j) (g i k + g k j) else g i j := fun i j hi hj => by
  have h1 := ge4 i j hi hj
  have h2 := ge4 i k hi hk
  have h3 := ge4 k j hk hj
  unfold rx
  split
  ·omega
  ·rfl
 have hc : ∀ s, Wi es k k k s → 0 ≤ s := fun s w => by have := H.D k k s hk hk w; have := H.dg k hk; omega
 have fin : ∀ i j s, i < n → j < n → Wi es k i j s → g i j < Far := fun i j s hi hj w => by
  by_cases k0 : 0 < k
  ·have := H.B k0 i j hi hj; omega
  ·have : Wi es 0 i j s := by rw [show 0 = k by omega]; exact w
   have hs : s ≤ W := by
    cases this with
    | one he => exact (h.e0 he).2.2.2
    | snoc _ hv _ => omega
   have := H.D i j s hi hj w
   omega
 have hle : ∀ i j, i < n → j < n → fwI n k g n i j ≤ g i j := fun i j hi hj => by
  rw [hp i j hi hj, hr i j hi hj]; split <;> omega
 refine ⟨fun i j s hi hj w => ?_, fun i j hi hj => ?_, fun _ i j hi hj => ?_, (fwI_le H.bd 0 0 n).1, fun i hi => ?_⟩
 ·rcases wi_dec hc w with ⟨s1, l1, w1⟩ | ⟨s1, s2, l1, w1, w2⟩
  ·have := H.D i j s1 hi hj w1
   have := hle i j hi hj
   omega
  ·have a1 := H.D i k s1 hi hk w1
   have a2 := H.D k j s2 hk hj w2
   rw [hp i j hi hj, hr i j hi hj, if_pos ⟨fin _ _ _ hi hk w1, fin _ _ _ hk hj w2⟩]
   omega
 ·rw [hp i j hi hj, hr i j hi hj]
  have h3 := H.S i j hi hj
  have h3' : g i j = Far ∨ Wi es (k + 1) i j (g i j) ∨ (i = j ∧ g i j = 0) := h3.imp id (Or.imp (fun w => w.up oM) id)
  split
  ·rename_i hf
   by_cases hm : g i j ≤ g i k + g k j
   ·rw [Int.min_eq_left hm]; exact h3'
   ·rw [Int.min_eq_right oM]
    have c1 := (H.S i k hi hk).resolve_left oM
    have c2 := (H.S k j hk hj).resolve_left oM
    rcases c1 with w1 | ⟨e, e0⟩
    ·rcases c2 with w2 | ⟨e2, e3⟩
     ·exact .inr (.inl ((w1.up oM).trans oM (w2.up oM)))
     ·subst e2; omega
    ·subst e; omega
  ·exact h3'
 ·by_cases k0 : 0 < k
  ·have := H.B k0 i j hi hj
   have := hle i j hi hj
   omega
  ·obtain rfl : k = 0 := by omega
   rw [hp i j hi hj, hr i j hi hj]
   have t1 : g i 0 ≤ W := by
    by_cases e : i = 0
    ·subst e; rw [H.dg 0 hk]; exact hW0
    ·obtain ⟨b, hb⟩ := h.to0 i oM hi
     have := H.D i 0 b hi hk (.one hb)
     have := (h.e0 hb).2.2.2
     omega
   have t2 : g 0 j ≤ W := by
    by_cases e : j = 0
    ·subst e; rw [H.dg 0 hk]; exact hW0
    ·obtain ⟨b, hb⟩ := h.of0 j oM hj
     have := H.D 0 j b hk hj (.one hb)
     have := (h.e0 hb).2.2.2
     omega
   rw [if_pos ⟨by omega, by omega⟩]
   omega
 ·have a1 := hle i i hi hi
  have a2 := H.dg i hi
  have a3 := hdg i hi
  omega
theorem fw_all (h : Sys n W es) (hW : 8 * W < Far) (hi : Ini n es f) (hd : ∀ i, i < n → 0 ≤ fwK n f n i i) : ∀ k, k ≤ n → FwI n W es k (fwK n f k)
 | 0, _ => ⟨fun i j s h1 h2 w => by
   cases w with
   | one he => exact hi.le _ _ _ he
   | snoc _ hv _ => omega,
  fun i j h1 h2 => by
   by_cases e : i = j
   ·exact .inr (.inr ⟨e, by subst e; exact hi.dg i h1⟩)
   ·exact (hi.at_ i j h1 h2 e).imp id (fun he => .inl (.one he)), fun h0 => by omega, hi.bd, hi.dg⟩
 | k + 1, hk => fw_stage h hW oM (fw_all h hW hi hd k oM) (fun i h1 => by
   have := fw_diag hi hd hk h1
   exact Int.le_of_eq this.symm)
theorem fw_cons (h : Sys n W es) (hW : 8 * W < Far) (hi : Ini n es f) : (∀ i, i < n → 0 ≤ fwK n f n i i) ↔ NoNeg es := by
 constructor
 ·intro hd u s w
  have H := fw_all h hW hi hd n (Nat.le_refl _)
  rcases h.wi w with ⟨_, e⟩ | wi
  ·omega
  ·have hu : u < n := by
    cases wi with
    | one he => exact (h.e0 he).1
    | snoc _ _ he => exact (h.e0 he).2.1
   have := H.D u u s hu hu wi
   have := H.dg u hu
   omega
 ·intro hn i h1
  have hle := fwK_le (n := n) hi.bd i i 0 n oM
  rw [Nat.zero_add, show fwK n f 0 i i = 0 from hi.dg i h1] at hle
  rcases fw_sound h hW hi hn (Nat.le_refl n) i i h1 h1 with e | w
  ·rw [e]; unfold Far; omega
  ·exact hn _ _ w
theorem fw_least (h : Sys n W es) (hW : 8 * W < Far) (hi : Ini n es f) (hn : NoNeg es) {i j : Nat} (h1 : i < n) (h2 : j < n) : Wk es i j (fwK n f n i j) ∧ (∀ s, Wk es i j s → fwK n f n i j ≤ s) ∧ fwK n f n i j ≤ 2 * W := by
 have hd := (fw_cons h hW hi).2 hn
 have H := fw_all h hW hi hd n (Nat.le_refl _)
 have hB := H.B h.n0 i j h1 h2
 have hW0 := h.W0
 refine ⟨(fw_sound h hW hi hn (Nat.le_refl n) i j h1 h2).resolve_left oM, fun s w => ?_, hB⟩
 rcases h.wi w with ⟨e, e0⟩ | wi
 ·subst e; rw [H.dg i h1, e0]; exact Int.le_refl _
 ·exact H.D i j s h1 h2 wi
end
end Go.Proofs.Ytanblnhnfkeffaa
namespace Go.Proofs.Ytanblnhnfkeffaa
set_option linter.unusedVariables false
set_option linter.unusedSimpArgs false
structure Bf where
 by_ : Nat → Int
 re : Nat → Bool
def bfC (d : Dm) (s : Bf) : Bool := s.re d.1 && (!s.re d.2.1 || decide (s.by_ d.2.1 < s.by_ d.1 + d.2.2))
def bfS (d : Dm) (s : Bf) : Bf := if bfC d s = true then ⟨fUp s.by_ d.2.1 (s.by_ d.1 + d.2.2), fUp s.re d.2.1 true⟩ else s
def bfK (ds : List Dm) (s : Bf) : Nat → Bf
 | 0 => s
 | k + 1 => bfS (ds.getD k (0, 0, 0)) (bfK ds s k)
def chK (ds : List Dm) (s : Bf) : Nat → Bool
 | 0 => false
 | k + 1 => bfC (ds.getD k (0, 0, 0)) (bfK ds s k) || chK ds s k
def bf0 (u : Nat) : Bf := ⟨fun _ => 0, fUp (fun _ => false) u true⟩
def bfR (ds : List Dm) (u : Nat) : Nat → Bf
 | 0 => bf0 u
 | r + 1 => bfK ds (bfR ds u r) ds.length
section
variable {ds : List Dm} {u : Nat}
theorem bfS_same {d : Dm} {s : Bf} (h : bfC d s = false) : bfS d s = s := by unfold bfS; rw [h]; rfl
theorem bfK_same {s : Bf} : ∀ {k}, chK ds s k = false → bfK ds s k = s ∧ ∀ j, j < k → bfC (ds.getD j (0, 0, 0)) s = false
 | 0, _ => ⟨rfl, fun j h => by omega⟩
 | k + 1, h => by
   unfold chK at h
   rw [Bool.or_eq_false_iff] at h
   obtain ⟨e, ih⟩ := bfK_same h.2
   have hc := h.1
   rw [e] at hc
   refine ⟨by unfold bfK; rw [e, bfS_same hc], fun j hj => ?_⟩
   by_cases hjk : j = k
   ·subst hjk; exact hc
   ·exact ih j oM
theorem mem_idx {d : Dm} (h : d ∈ ds) : ∃ j, j < ds.length ∧ ds.getD j (0, 0, 0) = d := by
 obtain ⟨j, hj, rfl⟩ := List.getElem_of_mem h
 exact ⟨j, hj, by rw [List.getD_eq_getElem?_getD, List.getElem?_eq_getElem hj]; rfl⟩
theorem idx_mem {j : Nat} (h : j < ds.length) : ds.getD j (0, 0, 0) ∈ ds := by
 rw [List.getD_eq_getElem?_getD, List.getElem?_eq_getElem h]; exact List.getElem_mem h
def BfW (ds : List Dm) (u : Nat) (s : Bf) : Prop := ∀ v, s.re v = true → Wk ds u v (s.by_ v)
theorem bfS_w {d : Dm} {s : Bf} (hd : d ∈ ds) (h : BfW ds u s) : BfW ds u (bfS d s) := by
 unfold bfS
 split
 ·rename_i hc
  intro v hv
  unfold bfC at hc
  rw [Bool.and_eq_true] at hc
  by_cases e : v = d.2.1
  ·subst e
   show Wk ds u d.2.1 (fUp s.by_ d.2.1 (s.by_ d.1 + d.2.2) d.2.1)
   unfold fUp
   rw [if_pos rfl]
   exact (h _ hc.1).snoc hd
  ·have hv' : s.re v = true := by
    have : fUp s.re d.2.1 true v = true := hv
    unfold fUp at this
    rwa [if_neg e] at this
   show Wk ds u v (fUp s.by_ d.2.1 (s.by_ d.1 + d.2.2) v)
   unfold fUp
   rw [if_neg e]
   exact h v hv'
 ·exact h
theorem bfK_w {s : Bf} (h : BfW ds u s) : ∀ k, k ≤ ds.length → BfW ds u (bfK ds s k)
 | 0, _ => h
 | k + 1, hk => bfS_w (idx_mem oM) (bfK_w h k oM)
theorem bf0_w : BfW ds u (bf0 u) := by
 intro v hv
 have : fUp (fun _ => false) u true v = true := hv
 unfold fUp at this
 split at this
 ·rename_i e; subst e; exact .nil v
 ·cases this
theorem bfR_w : ∀ r, BfW ds u (bfR ds u r)
 | 0 => bf0_w
 | r + 1 => bfK_w (bfR_w r) _ (Nat.le_refl _)
def BfL (s s' : Bf) : Prop := ∀ v, s.re v = true → s'.re v = true ∧ s.by_ v ≤ s'.by_ v
theorem bfS_l {d : Dm} {s : Bf} : BfL s (bfS d s) := by
 intro v hv
 unfold bfS
 split
 ·rename_i hc
  unfold bfC at hc
  show fUp s.re d.2.1 true v = true ∧ s.by_ v ≤ fUp s.by_ d.2.1 (s.by_ d.1 + d.2.2) v
  unfold fUp
  by_cases e : v = d.2.1
  ·subst e
   rw [if_pos rfl, if_pos rfl]
   rw [hv] at hc
   simp only [Bool.not_true, Bool.false_or, Bool.and_eq_true, decide_eq_true_eq] at hc
   exact ⟨rfl, by omega⟩
  ·rw [if_neg e, if_neg e]; exact ⟨hv, Int.le_refl _⟩
 ·exact ⟨hv, Int.le_refl _⟩
theorem BfL.trans {a b c : Bf} (h : BfL a b) (h' : BfL b c) : BfL a c := fun v hv => ⟨(h' v (h v hv).1).1, Int.le_trans (h v hv).2 (h' v (h v hv).1).2⟩
theorem bfK_l {s : Bf} {k : Nat} : ∀ m, BfL (bfK ds s k) (bfK ds s (k + m))
 | 0 => fun v hv => ⟨hv, Int.le_refl _⟩
 | m + 1 => (bfK_l m).trans bfS_l
theorem bfK_l0 {s : Bf} {k : Nat} : BfL s (bfK ds s k) := by have := bfK_l (ds := ds) (s := s) (k := 0) k; rwa [Nat.zero_add] at this
theorem bf_walk {s : Bf} (h : chK ds s ds.length = false) {v w : Nat} {x : Int} (hw : Wk ds v w x) (hv : s.re v = true) : s.re w = true ∧ s.by_ v + x ≤ s.by_ w := by
 induction hw with
 | nil => exact ⟨hv, by omega⟩
 | @snoc a c x b _ he ih =>
   obtain ⟨h1, h2⟩ := ih
   obtain ⟨j, hj, hjd⟩ := mem_idx he
   have hc := (bfK_same h).2 j hj
   rw [hjd] at hc
   unfold bfC at hc
   simp only [h1, Bool.true_and, Bool.or_eq_false_iff, Bool.not_eq_false', decide_eq_false_iff_not] at hc
   exact ⟨hc.1, by omega⟩
def NoPos (ds : List Dm) : Prop := ∀ u s, Wk ds u u s → s ≤ 0
theorem bf_ok {s : Bf} (h : chK ds s ds.length = false) (hu : s.re u = true) (hr : ∀ d ∈ ds, ∃ x, Wk ds u d.1 x) : NoPos ds := by
 intro v x w
 cases w with
 | nil => exact Int.le_refl _
 | snoc w he =>
   obtain ⟨x0, w0⟩ := hr _ he
   have h1 := bf_walk h (w0.snoc he) hu
   have := (bf_walk h (w.snoc he) h1.1).2
   omega
theorem bfK_u {s : Bf} (hs : s.re u = true) (k : Nat) : (bfK ds s k).re u = true := (bfK_l0 (ds := ds) (k := k) u hs).1
theorem bfR_u : ∀ r, (bfR ds u r).re u = true
 | 0 => by show fUp (fun _ => false) u true u = true; unfold fUp; rw [if_pos rfl]
 | r + 1 => bfK_u (bfR_u r) _
structure Gr (ds : List Dm) (n u : Nat) (L : Nat → Int) : Prop where
 nd : ∀ d ∈ ds, d.1 < n ∧ d.2.1 < n
 un : u < n
 at_ : ∀ v, v < n → Wk ds u v (L v)
 le : ∀ v x, Wk ds u v x → x ≤ L v
def stl (s : Bf) (L : Nat → Int) (v : Nat) : Bool := s.re v && decide (s.by_ v = L v)
def stN (s : Bf) (L : Nat → Int) : Nat → Nat
 | 0 => 0
 | n + 1 => stN s L n + (if stl s L n = true then 1 else 0)
theorem stN_le {s : Bf} {L : Nat → Int} : ∀ n, stN s L n ≤ n
 | 0 => Nat.le_refl _
 | n + 1 => by have := stN_le (s := s) (L := L) n; unfold stN; split <;> omega
theorem stN_all {s : Bf} {L : Nat → Int} : ∀ n, stN s L n = n → ∀ v, v < n → stl s L v = true
 | 0, _, v, hv => by omega
 | n + 1, h, v, hv => by
   unfold stN at h
   have hl := stN_le (s := s) (L := L) n
   split at h
   ·rename_i hc
    by_cases e : v = n
    ·subst e; exact hc
    ·exact stN_all n oM v oM
   ·omega
theorem stN_mono {s s' : Bf} {L : Nat → Int} (h : ∀ v, stl s L v = true → stl s' L v = true) : ∀ n, stN s L n ≤ stN s' L n
 | 0 => Nat.le_refl _
 | n + 1 => by
   have := stN_mono h n
   unfold stN
   by_cases e : stl s L n = true
   ·rw [if_pos e, if_pos (h n e)]; omega
   ·rw [if_neg e]; omega
theorem stN_lt {s s' : Bf} {L : Nat → Int} (h : ∀ v, stl s L v = true → stl s' L v = true) {y : Nat} (h1 : stl s L y = false) (h2 : stl s' L y = true) : ∀ n, y < n → stN s L n < stN s' L n
 | 0, hn => by omega
 | n + 1, hn => by
   by_cases e : y = n
   ·subst e
    have := stN_mono h y
    unfold stN
    rw [if_neg (by rw [h1]; decide), if_pos h2]; omega
   ·have := stN_lt h h1 h2 n oM
    unfold stN
    by_cases e2 : stl s L n = true
    ·rw [if_pos e2, if_pos (h n e2)]; omega
    ·rw [if_neg e2]; omega
theorem stl_keep {n : Nat} {L : Nat → Int} (g : Gr ds n u L) {s s' : Bf} (hl : BfL s s') (hw : BfW ds u s') {v : Nat} (h : stl s L v = true) : stl s' L v = true := by
 unfold stl at h ⊢
 simp only [Bool.and_eq_true, decide_eq_true_eq] at h ⊢
 obtain ⟨h1, h2⟩ := hl v h.1
 have := g.le v _ (hw v h1)
 exact ⟨h1, by omega⟩
theorem stl_next {n : Nat} {L : Nat → Int} (g : Gr ds n u L) {s : Bf} (hu : stl s L u = true) {v : Nat} {x : Int} (w : Wk ds u v x) (hx : x = L v) (hv : stl s L v = false) : ∃ a b c, (a, b, c) ∈ ds ∧ stl s L a = true ∧ stl s L b = false ∧ L a + c = L b := by
 induction w with
 | nil => rw [hu] at hv; cases hv
 | @snoc a b x c w he ih =>
   have h1 := g.le a x w
   have h2 := g.le b _ ((g.at_ a (g.nd _ he).1).snoc he)
   cases ha : stl s L a with
   | true => exact ⟨a, b, c, he, ha, hv, by omega⟩
   | false => exact ih oM ha
theorem bfR_grow {n : Nat} {L : Nat → Int} (g : Gr ds n u L) (hu0 : L u = 0) : ∀ r, r < n → r + 1 ≤ stN (bfR ds u r) L n
 | 0, h => by
   have h0 : stl (bf0 u) L u = true := by
    unfold stl
    rw [show (bf0 u).re u = true by show fUp (fun _ => false) u true u = true; unfold fUp; rw [if_pos rfl], hu0]; rfl
   have : stN ⟨fun _ => 0, fun _ => false⟩ L n < stN (bf0 u) L n := stN_lt (fun v hv => by unfold stl at hv; simp at hv) (by unfold stl; rfl) h0 n g.un
   exact Nat.succ_le_of_lt (Nat.lt_of_le_of_lt (Nat.zero_le _) this)
 | r + 1, h => by
   have ih := bfR_grow g hu0 r oM
   have hl : BfL (bfR ds u r) (bfR ds u (r + 1)) := bfK_l0
   have hk : ∀ v, stl (bfR ds u r) L v = true → stl (bfR ds u (r + 1)) L v = true := fun v hv => stl_keep g hl (bfR_w (r + 1)) hv
   by_cases hall : stN (bfR ds u r) L n = n
   ·have := stN_mono hk n; omega
   ·have hle := stN_le (s := bfR ds u r) (L := L) n
    have : ∃ v, v < n ∧ stl (bfR ds u r) L v = false := by
     refine Classical.byContradiction fun hno => hall ?_
     have ha : ∀ v, v < n → stl (bfR ds u r) L v = true := fun v hv => by
      cases hc : stl (bfR ds u r) L v with
      | true => rfl
      | false => exact absurd ⟨v, hv, hc⟩ hno
     have : ∀ m, m ≤ n → stN (bfR ds u r) L m = m := by
      intro m
      induction m with
      | zero => intro _; rfl
      | succ m ih => intro hm; unfold stN; rw [ih oM, if_pos (ha m oM)]
     exact this n (Nat.le_refl _)
    obtain ⟨v, hv, hvs⟩ := this
    have hus : stl (bfR ds u r) L u = true := by
     unfold stl
     have h1 := bfR_u (ds := ds) (u := u) r
     have h2 := g.le u _ (bfR_w r u h1)
     have h3 : 0 ≤ (bfR ds u r).by_ u := by
      have key : ∀ r, 0 ≤ (bfR ds u r).by_ u := fun r => by
       induction r with
       | zero => exact Int.le_refl _
       | succ r ih => exact Int.le_trans ih (bfK_l0 (ds := ds) (k := ds.length) u (bfR_u r)).2
      exact key r
     rw [h1, decide_eq_true oM]; rfl
    obtain ⟨a, b, c, he, ha, hb, hc⟩ := stl_next g hus (g.at_ v hv) rfl hvs
    obtain ⟨j, hj, hjd⟩ := mem_idx he
    have hw1 := bfK_w (bfR_w (ds := ds) (u := u) r) j oM
    have hw2 := bfK_w (bfR_w (ds := ds) (u := u) r) (j + 1) oM
    have ha1 := stl_keep g (bfK_l0 (ds := ds) (k := j)) hw1 ha
    have hb1 : stl (bfK ds (bfR ds u r) (j + 1)) L b = true := by
     unfold stl at ha1
     simp only [Bool.and_eq_true, decide_eq_true_eq] at ha1
     have key : (bfK ds (bfR ds u r) (j + 1)).re b = true ∧ L b ≤ (bfK ds (bfR ds u r) (j + 1)).by_ b := by
      show (bfS (ds.getD j (0, 0, 0)) (bfK ds (bfR ds u r) j)).re b = true ∧ L b ≤ (bfS (ds.getD j (0, 0, 0)) (bfK ds (bfR ds u r) j)).by_ b
      rw [hjd]
      unfold bfS
      by_cases hC : bfC (a, b, c) (bfK ds (bfR ds u r) j) = true
      ·rw [if_pos hC]
       show fUp _ b true b = true ∧ L b ≤ fUp _ b _ b
       unfold fUp
       rw [if_pos rfl, if_pos rfl]
       exact ⟨rfl, by show L b ≤ (bfK ds (bfR ds u r) j).by_ a + c; omega⟩
      ·rw [if_neg hC]
       unfold bfC at hC
       simp only [ha1.1, Bool.true_and, Bool.or_eq_true, Bool.not_eq_true', decide_eq_true_eq, not_or, Bool.not_eq_false, Int.not_lt] at hC
       exact ⟨hC.1, by omega⟩
     unfold stl
     have := g.le b _ (hw2 b key.1)
     rw [key.1, decide_eq_true oM]; rfl
    have hb2 : stl (bfR ds u (r + 1)) L b = true := by
     have hl2 := bfK_l (ds := ds) (s := bfR ds u r) (k := j + 1) (ds.length - (j + 1))
     rw [show j + 1 + (ds.length - (j + 1)) = ds.length by omega] at hl2
     exact stl_keep g hl2 (bfR_w (r + 1)) hb1
    have := stN_lt hk hb hb2 n (g.nd _ he).2
    omega
theorem chK_done {n : Nat} {L : Nat → Int} (g : Gr ds n u L) {s : Bf} (h : ∀ v, v < n → stl s L v = true) : ∀ k, k ≤ ds.length → chK ds s k = false ∧ bfK ds s k = s
 | 0, _ => ⟨rfl, rfl⟩
 | k + 1, hk => by
   obtain ⟨h1, h2⟩ := chK_done g h k oM
   have he := idx_mem (ds := ds) (j := k) oM
   have hn := g.nd _ he
   have hc : bfC (ds.getD k (0, 0, 0)) s = false := by
    have ha := h _ hn.1
    have hb := h _ hn.2
    unfold stl at ha hb
    simp only [Bool.and_eq_true, decide_eq_true_eq] at ha hb
    have hg : L (ds.getD k (0, 0, 0)).1 + (ds.getD k (0, 0, 0)).2.2 ≤ L (ds.getD k (0, 0, 0)).2.1 := g.le _ _ ((g.at_ _ hn.1).snoc he)
    have hnl : ¬ L (ds.getD k (0, 0, 0)).2.1 < L (ds.getD k (0, 0, 0)).1 + (ds.getD k (0, 0, 0)).2.2 := Int.not_lt.2 hg
    unfold bfC
    rw [ha.1, hb.1, ha.2, hb.2, decide_eq_false hnl]; rfl
   refine ⟨by unfold chK; rw [h2, hc, h1]; rfl, by unfold bfK; rw [h2, bfS_same hc]⟩
theorem bf_stop {n : Nat} {L : Nat → Int} (g : Gr ds n u L) (hu0 : L u = 0) : chK ds (bfR ds u (n - 1)) ds.length = false := by
 have hn := g.un
 have h1 := bfR_grow g hu0 (n - 1) oM
 have h2 := stN_le (s := bfR ds u (n - 1)) (L := L) n
 exact (chK_done g (stN_all n oM) _ (Nat.le_refl _)).1
theorem bf_val {n : Nat} {L : Nat → Int} (g : Gr ds n u L) {r : Nat} (h : chK ds (bfR ds u r) ds.length = false) (hu0 : (bfR ds u r).by_ u = 0) {v : Nat} (hv : v < n) : (bfR ds u r).re v = true ∧ (bfR ds u r).by_ v = L v := by
 have h1 := bf_walk h (g.at_ v hv) (bfR_u r)
 have h2 := g.le v _ (bfR_w r v h1.1)
 exact ⟨h1.1, by omega⟩
theorem bfR_ge0 : ∀ r, 0 ≤ (bfR ds u r).by_ u
 | 0 => Int.le_refl _
 | r + 1 => Int.le_trans (bfR_ge0 r) (bfK_l0 (ds := ds) (k := ds.length) u (bfR_u r)).2
theorem bfR_u0 (hp : NoPos ds) (r : Nat) : (bfR ds u r).by_ u = 0 := by
 have h1 := bfR_ge0 (ds := ds) (u := u) r
 have h2 := hp u _ (bfR_w r u (bfR_u r))
 omega
end
theorem bfS_bd {d : Dm} {s : Bf} {W M : Int} (hW : 0 ≤ W) (hd : -W ≤ d.2.2 ∧ d.2.2 ≤ W) (h : ∀ v, -M ≤ s.by_ v ∧ s.by_ v ≤ M) : ∀ v, -(M + W) ≤ (bfS d s).by_ v ∧ (bfS d s).by_ v ≤ M + W := by
 intro v
 have h1 := h v
 have h2 := h d.1
 unfold bfS
 split
 ·show -(M + W) ≤ fUp s.by_ d.2.1 (s.by_ d.1 + d.2.2) v ∧ fUp s.by_ d.2.1 (s.by_ d.1 + d.2.2) v ≤ M + W
  unfold fUp
  split <;> omega
 ·omega
theorem bfK_bd {ds : List Dm} {s : Bf} {W M : Int} (hW : 0 ≤ W) (hd : ∀ d ∈ ds, -W ≤ d.2.2 ∧ d.2.2 ≤ W) (h : ∀ v, -M ≤ s.by_ v ∧ s.by_ v ≤ M) : ∀ k, k ≤ ds.length → ∀ v, -(M + W * k) ≤ (bfK ds s k).by_ v ∧ (bfK ds s k).by_ v ≤ M + W * k
 | 0, _ => fun v => by have := h v; simp only [bfK, Int.natCast_zero, Int.mul_zero, Int.add_zero]; exact this
 | k + 1, hk => fun v => by
   have ih := bfK_bd hW hd h k oM
   have := bfS_bd hW (hd _ (idx_mem (ds := ds) (j := k) oM)) ih v
   rw [show M + W * ((k + 1 : Nat) : Int) = M + W * k + W by rw [Int.natCast_add, Int.mul_add]; simp only [Int.natCast_one, Int.mul_one]; omega]
   exact this
theorem bfR_bd {ds : List Dm} {u : Nat} {W : Int} (hW : 0 ≤ W) (hd : ∀ d ∈ ds, -W ≤ d.2.2 ∧ d.2.2 ≤ W) : ∀ r v, -(W * ds.length * r) ≤ (bfR ds u r).by_ v ∧ (bfR ds u r).by_ v ≤ W * ds.length * r
 | 0, v => by simp [bfR, bf0]
 | r + 1, v => by
   have := bfK_bd hW hd (bfR_bd (u := u) hW hd r) ds.length (Nat.le_refl _) v
   rw [show W * ds.length * ((r + 1 : Nat) : Int) = W * ds.length * r + W * ds.length by rw [Int.natCast_add, Int.mul_add]; simp]
   exact this
end Go.Proofs.Ytanblnhnfkeffaa
