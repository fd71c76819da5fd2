/- Texts of one proof, laid together: Y3, Y4, TB. No condition. -/
import Derived.Test.YtanblnhnfkeffaaD314
import Derived.Test.YtanblnhnfkeffaaD312
import Derived.Test.YtanblnhnfkeffaaD311
import Derived.Test.YtanblnhnfkeffaaD313
import Derived.Test.YtanblnhnfkeffaaD310
namespace Go.Proofs.Ytanblnhnfkeffaa
set_option linter.unusedVariables false
set_option linter.unusedSimpArgs false
structure Bn where
 er : List Int
 lo : Int
 hi : Int
def MT : Int := 1099511627776
def erB (b : Bn) (p : Nat) : Int := b.er.getD p 0
noncomputable def bnB (t : Tr) (b : Bn) : Bool := validL t && decide (b.er.length = t.length) && decide (0 ≤ b.lo) && decide (b.lo ≤ b.hi) && decide (b.hi ≤ MT) && b.er.all (fun e => inB e 0 MT)
def loA (t : Tr) (b : Bn) (x : Nat × Nat) : Int := (evAt t x).time - erB b x.1
def hiA (t : Tr) (b : Bn) (x : Nat × Nat) : Int := (evAt t x).time + erB b x.1
noncomputable def evD (t : Tr) (b : Bn) (x : Nat × Nat) : List Dm :=
 [((ids t).length, numN t x, loA t b x), (numN t x, (ids t).length, -hiA t b x)]
 ++ (if 1 < x.2 then [(numN t x - 1, numN t x, 0)] else [])
 ++ (if (evAt t x).kind = 3 then [(numN t (sndr t x), numN t x, b.lo), (numN t x, numN t (sndr t x), -b.hi)] else [])
noncomputable def evE (t : Tr) (b : Bn) (x : Nat × Nat) : List Dm :=
 [(0, numN t x + 1, hiA t b x), (numN t x + 1, 0, 0 - loA t b x)]
 ++ (if 1 < x.2 then [(numN t x + 1, numN t x, 0)] else [])
 ++ (if (evAt t x).kind = 3 then [(numN t (sndr t x) + 1, numN t x + 1, b.hi), (numN t x + 1, numN t (sndr t x) + 1, 0 - b.lo)] else [])
noncomputable def dsT (t : Tr) (b : Bn) : List Dm := (ids t).flatMap (evD t b)
noncomputable def esT (t : Tr) (b : Bn) : List Dm := (ids t).flatMap (evE t b)
def phN (N k : Nat) : Nat := if k = N then 0 else k + 1
def psN (N k : Nat) : Nat := if k = 0 then N else k - 1
theorem Wk.flip {ds es : List Dm} (m : Nat → Nat) (h : ∀ a b w, (a, b, w) ∈ ds → (m b, m a, -w) ∈ es) {i j : Nat} {s : Int} (w : Wk ds i j s) : Wk es (m j) (m i) (-s) := by
 induction w with
 | nil => exact (Wk.nil _).cast oM
 | snoc _ he ih => exact ((Wk.one (h _ _ _ he)).trans ih).cast oM
theorem Wk.turn {ds es : List Dm} (h : ∀ a b w, (a, b, w) ∈ ds → (b, a, w) ∈ es) {i j : Nat} {s : Int} (w : Wk ds i j s) : Wk es j i s := by
 induction w with
 | nil => exact .nil _
 | snoc _ he ih => exact ((Wk.one (h _ _ _ he)).trans ih).cast oM
def baseM (a b : Nat) : Int := if a = b then 0 else Far
def addE (f : Nat → Nat → Int) (d : Dm) : Nat → Nat → Int := up2 f d.1 d.2.1 (min (f d.1 d.2.1) d.2.2)
def iniM (es : List Dm) : Nat → Nat → Int := es.foldl addE baseM
structure IniP (es : List Dm) (f : Nat → Nat → Int) : Prop where
 bd : Bd f
 dg : ∀ i, f i i = 0
 le : ∀ i j b, (i, j, b) ∈ es → f i j ≤ b
 at_ : ∀ i j, i ≠ j → f i j = Far ∨ (i, j, f i j) ∈ es
theorem addE_p {es : List Dm} {f : Nat → Nat → Int} (h : IniP es f) {d : Dm} (h1 : d.1 ≠ d.2.1) (h2 : 0 - Far ≤ d.2.2) : IniP (es ++ [d]) (addE f d) := by
 have key : ∀ a b, addE f d a b = if a = d.1 ∧ b = d.2.1 then min (f d.1 d.2.1) d.2.2 else f a b := fun a b => rfl
 refine ⟨fun a b => ?_, fun i => ?_, fun i j b hm => ?_, fun i j hij => ?_⟩
 ·have := h.bd a b
  have := h.bd d.1 d.2.1
  rw [key]; split <;> omega
 ·rw [key, if_neg (fun x => h1 (x.1.symm.trans x.2))]; exact h.dg i
 ·rw [key]
  rcases List.mem_append.1 hm with hm | hm
  ·have := h.le i j b hm
   split
   ·rename_i e; obtain ⟨e1, e2⟩ := e; rw [e1, e2] at this; omega
   ·exact this
  ·obtain rfl := List.mem_singleton.1 hm
   rw [if_pos ⟨rfl, rfl⟩]; exact Int.min_le_right _ _
 ·rw [key]
  split
  ·rename_i e
   obtain ⟨rfl, rfl⟩ := e
   by_cases hm : f d.1 d.2.1 ≤ d.2.2
   ·rw [Int.min_eq_left hm]
    exact (h.at_ _ _ hij).imp id (fun he => List.mem_append.2 (.inl he))
   ·rw [Int.min_eq_right oM]
    exact .inr (List.mem_append.2 (.inr (List.mem_singleton.2 rfl)))
  ·exact (h.at_ _ _ hij).imp id (fun he => List.mem_append.2 (.inl he))
theorem base_p : IniP [] baseM := by
 refine ⟨fun a b => ?_, fun i => (by unfold baseM; rw [if_pos rfl]), fun i j b hm => (by cases hm), fun i j hij => .inl (by unfold baseM; rw [if_neg hij])⟩
 unfold baseM Far
 split <;> omega
theorem foldE_p : ∀ (l l0 : List Dm) (f : Nat → Nat → Int), IniP l0 f → (∀ d ∈ l, d.1 ≠ d.2.1 ∧ 0 - Far ≤ d.2.2) → IniP (l0 ++ l) (l.foldl addE f)
 | [], l0, f, h, _ => by rw [List.append_nil]; exact h
 | d :: l, l0, f, h, hd => by
   have := foldE_p l (l0 ++ [d]) (addE f d) (addE_p h (hd d (List.mem_cons_self ..)).1 (hd d (List.mem_cons_self ..)).2) (fun e he => hd e (List.mem_cons_of_mem _ he))
   rw [List.append_assoc] at this
   exact this
theorem iniM_p {es : List Dm} (hd : ∀ d ∈ es, d.1 ≠ d.2.1 ∧ 0 - Far ≤ d.2.2) : IniP es (iniM es) := by
 have := foldE_p es [] baseM base_p hd
 rwa [List.nil_append] at this
theorem IniP.ini {es : List Dm} {f : Nat → Nat → Int} (h : IniP es f) (n : Nat) : Ini n es f := ⟨h.bd, fun i _ => h.dg i, h.le, fun i j _ _ hij => h.at_ i j hij⟩
structure Bok (t : Tr) (b : Bn) : Prop where
 v : Vok t
 len : b.er.length = t.length
 lo : 0 ≤ b.lo
 le : b.lo ≤ b.hi
 hi : b.hi ≤ MT
 er : ∀ p, 0 ≤ erB b p ∧ erB b p ≤ MT
theorem bn_ok {t : Tr} {b : Bn} (h : bnB t b = true) : validL t = true ∧ Bok t b := by
 unfold bnB at h
 simp only [Bool.and_eq_true, decide_eq_true_eq, List.all_eq_true] at h
 obtain ⟨⟨⟨⟨⟨h1, h2⟩, h3⟩, h4⟩, h5⟩, h6⟩ := h
 refine ⟨h1, vok h1, h2, h3, h4, h5, fun p => ?_⟩
 unfold erB
 by_cases hp : p < b.er.length
 ·have := h6 _ (List.getElem_mem hp)
  rw [List.getD_eq_getElem?_getD, List.getElem?_eq_getElem hp]
  simpa [inB] using this
 ·rw [List.getD_eq_getElem?_getD, List.getElem?_eq_none oM]
  exact ⟨Int.le_refl _, by decide⟩
section
variable {t : Tr} {b : Bn} (h : Bok t b)
include h
theorem Bok.time {x : Nat × Nat} (hx : x ∈ ids t) : 0 ≤ (evAt t x).time ∧ (evAt t x).time ≤ MT := by
 have h0 := h.v.form x hx
 unfold formF at h0
 split at h0
 ·simp at h0
 split at h0
 ·simp at h0
 rename_i h2
 simp only [Bool.or_eq_true, Bool.not_eq_true', not_or, Bool.not_eq_false, inB, Bool.and_eq_true, decide_eq_true_eq] at h2
 exact h2.1
theorem Bok.num {x : Nat × Nat} (hx : x ∈ ids t) : numN t x < (ids t).length := by
 have := h.lo
 exact (numN_at hx).1
theorem Bok.inj {x y : Nat × Nat} (hx : x ∈ ids t) (hy : y ∈ ids t) (e : numN t x = numN t y) : x = y := by
 have := h.lo
 obtain ⟨_, h1⟩ := numN_at hx
 obtain ⟨_, h2⟩ := numN_at hy
 rw [← h1, ← h2]
 congr 1
theorem Bok.evD_in {x : Nat × Nat} (hx : x ∈ ids t) {d : Dm} (hd : d ∈ evD t b x) : (phN (ids t).length d.2.1, phN (ids t).length d.1, -d.2.2) ∈ evE t b x := by
 have hn := h.num hx
 have p1 : phN (ids t).length (ids t).length = 0 := by unfold phN; rw [if_pos rfl]
 have p2 : ∀ k, k < (ids t).length → phN (ids t).length k = k + 1 := fun k hk => by unfold phN; rw [if_neg oM]
 unfold evD at hd
 unfold evE
 simp only [List.mem_append, List.mem_cons, List.not_mem_nil, or_false] at hd ⊢
 rcases hd with ((rfl | rfl) | hd) | hd
 ·simp only [p1, p2 _ hn]; left; left; right; congr 2; omega
 ·simp only [p1, p2 _ hn]; left; left; left; congr 2; omega
 ·split at hd
  ·rename_i c
   obtain rfl := List.mem_singleton.1 hd
   simp only [p2 _ hn]
   rw [p2 (numN t x - 1) oM]
   left; right
   rw [if_pos c, show numN t x - 1 + 1 = numN t x by unfold numN; omega]
   exact List.mem_singleton.2 rfl
  ·cases hd
 ·split at hd
  ·rename_i c
   have hs := h.num (sndr_in h.v hx c).1
   rw [if_pos c]
   right
   simp only [List.mem_cons, List.not_mem_nil, or_false] at hd ⊢
   rcases hd with rfl | rfl
   ·simp only [p2 _ hn, p2 _ hs]; right; congr 2; omega
   ·simp only [p2 _ hn, p2 _ hs]; left; congr 2; omega
  ·cases hd
theorem Bok.evE_in {x : Nat × Nat} (hx : x ∈ ids t) {d : Dm} (hd : d ∈ evE t b x) : (psN (ids t).length d.2.1, psN (ids t).length d.1, -d.2.2) ∈ evD t b x := by
 have hn := h.num hx
 have p1 : psN (ids t).length 0 = (ids t).length := by unfold psN; rw [if_pos rfl]
 have p2 : ∀ k, psN (ids t).length (k + 1) = k := fun k => by unfold psN; rw [if_neg oM]; omega
 unfold evE at hd
 unfold evD
 simp only [List.mem_append, List.mem_cons, List.not_mem_nil, or_false] at hd ⊢
 rcases hd with ((rfl | rfl) | hd) | hd
 ·simp only [p1, p2]; left; left; right; trivial
 ·simp only [p1, p2]; left; left; left; congr 2; omega
 ·split at hd
  ·rename_i c
   obtain rfl := List.mem_singleton.1 hd
   have hnum : numN t x = (numN t x - 1) + 1 := by unfold numN; omega
   left; right
   rw [if_pos c]
   simp only [p2]
   refine List.mem_singleton.2 ?_
   rw [show psN (ids t).length (numN t x) = numN t x - 1 by rw [hnum, p2]; omega]
   rfl
  ·cases hd
 ·split at hd
  ·rename_i c
   rw [if_pos c]
   right
   simp only [List.mem_cons, List.not_mem_nil, or_false] at hd ⊢
   rcases hd with rfl | rfl
   ·simp only [p2]; right; trivial
   ·simp only [p2]; left; congr 2; omega
  ·cases hd
theorem Bok.ds_es {i j : Nat} {s : Int} (w : Wk (dsT t b) i j s) : Wk (esT t b) (phN (ids t).length j) (phN (ids t).length i) (-s) :=
 w.flip _ (fun a c v he => by
  obtain ⟨x, hx, hd⟩ := List.mem_flatMap.1 he
  exact List.mem_flatMap.2 ⟨x, hx, h.evD_in hx hd⟩)
theorem Bok.es_ds {i j : Nat} {s : Int} (w : Wk (esT t b) i j s) : Wk (dsT t b) (psN (ids t).length j) (psN (ids t).length i) (-s) :=
 w.flip _ (fun a c v he => by
  obtain ⟨x, hx, hd⟩ := List.mem_flatMap.1 he
  exact List.mem_flatMap.2 ⟨x, hx, h.evE_in hx hd⟩)
theorem Bok.evE_bd {x : Nat × Nat} (hx : x ∈ ids t) {d : Dm} (hd : d ∈ evE t b x) : d.1 < (ids t).length + 1 ∧ d.2.1 < (ids t).length + 1 ∧ -(2 * MT) ≤ d.2.2 ∧ d.2.2 ≤ 2 * MT ∧ d.1 ≠ d.2.1 := by
 have hn := h.num hx
 have ht := h.time hx
 have he := h.er x.1
 have h1 := h.lo
 have h2 := h.le
 have h3 := h.hi
 unfold evE at hd
 unfold loA hiA at hd
 simp only [List.mem_append, List.mem_cons, List.not_mem_nil, or_false] at hd
 rcases hd with ((rfl | rfl) | hd) | hd
 ·simp only; omega
 ·simp only; omega
 ·split at hd
  ·obtain rfl := List.mem_singleton.1 hd
   simp only; unfold MT; omega
  ·cases hd
 ·split at hd
  ·rename_i c
   have hsi := (sndr_in h.v hx c).1
   have hs := h.num hsi
   have hne : numN t (sndr t x) ≠ numN t x := fun e => (sndr_peer h.v hx c).2.1 (congrArg Prod.fst (h.inj hsi hx e))
   simp only [List.mem_cons, List.not_mem_nil, or_false] at hd
   rcases hd with rfl | rfl
   ·simp only; omega
   ·simp only; omega
  ·cases hd
theorem Bok.sys : Sys ((ids t).length + 1) (2 * MT) (esT t b) := by
 have key : ∀ i, 0 < i → i < (ids t).length + 1 → ∃ x, x ∈ ids t ∧ numN t x + 1 = i := fun i h0 hi => by
  have hl : i - 1 < (ids t).length := by omega
  have hx : (ids t)[i - 1] ∈ ids t := List.getElem_mem hl
  obtain ⟨h1, h2⟩ := numN_at hx
  refine ⟨_, hx, ?_⟩
  have hd := List.pairwise_iff_getElem.1 (nodup_ids t)
  rcases Nat.lt_trichotomy (numN t (ids t)[i - 1]) (i - 1) with hlt | he | hlt
  ·exact absurd h2 (hd _ _ h1 hl hlt)
  ·omega
  ·exact absurd h2.symm (hd _ _ hl h1 hlt)
 refine ⟨by omega, by decide, fun d hd => ?_, fun i h0 hi => ?_, fun i h0 hi => ?_⟩
 ·obtain ⟨x, hx, hd⟩ := List.mem_flatMap.1 hd
  have := h.evE_bd hx hd
  exact ⟨this.1, this.2.1, this.2.2.1, this.2.2.2.1⟩
 ·obtain ⟨x, hx, rfl⟩ := key i h0 hi
  exact ⟨_, List.mem_flatMap.2 ⟨x, hx, by unfold evE; simp only [List.mem_append, List.mem_cons]; left; left; right; left; rfl⟩⟩
 ·obtain ⟨x, hx, rfl⟩ := key i h0 hi
  exact ⟨_, List.mem_flatMap.2 ⟨x, hx, by unfold evE; simp only [List.mem_append, List.mem_cons]; left; left; left; rfl⟩⟩
theorem Bok.ini : Ini ((ids t).length + 1) (esT t b) (iniM (esT t b)) := (iniM_p (fun d hd => by
 obtain ⟨x, hx, hd⟩ := List.mem_flatMap.1 hd
 have := h.evE_bd hx hd
 exact ⟨this.2.2.2.2, by have := this.2.2.1; unfold Far; unfold MT at this; omega⟩)).ini _
omit h
end
noncomputable def dM (t : Tr) (b : Bn) : Nat → Nat → Int := fwK ((ids t).length + 1) (iniM (esT t b)) ((ids t).length + 1)
def consB (n : Nat) (f : Nat → Nat → Int) : Bool := (List.range n).all fun i => decide (0 ≤ f i i)
noncomputable def okB (t : Tr) (b : Bn) : Bool := consB ((ids t).length + 1) (dM t b)
section
variable {t : Tr} {b : Bn} (h : Bok t b)
include h
theorem Bok.ok_iff : okB t b = true ↔ NoNeg (esT t b) := by
 rw [← fw_cons h.sys (by decide) h.ini]
 unfold okB consB
 simp only [List.all_eq_true, List.mem_range, decide_eq_true_eq]
 rfl
theorem Bok.pos_iff : NoPos (dsT t b) ↔ NoNeg (esT t b) := by
 constructor
 ·intro hp u s w
  have := hp _ _ (h.es_ds w)
  omega
 ·intro hn u s w
  have := hn _ _ (h.ds_es w)
  omega
theorem Bok.ph_lt {k : Nat} (hk : k < (ids t).length + 1) : phN (ids t).length k < (ids t).length + 1 := by
 have := h.lo
 unfold phN; split <;> omega
theorem Bok.ps_ph {k : Nat} (hk : k < (ids t).length + 1) : psN (ids t).length (phN (ids t).length k) = k := by
 have := h.lo
 unfold phN
 split
 ·rename_i e; rw [e]; unfold psN; rw [if_pos rfl]
 ·unfold psN; rw [if_neg oM]; omega
theorem Bok.ds_bd {d : Dm} (hd : d ∈ dsT t b) : d.1 < (ids t).length + 1 ∧ d.2.1 < (ids t).length + 1 ∧ -(2 * MT) ≤ d.2.2 ∧ d.2.2 ≤ 2 * MT := by
 obtain ⟨x, hx, hd⟩ := List.mem_flatMap.1 hd
 have h1 := h.evE_bd hx (h.evD_in hx hd)
 have h2 : d.1 < (ids t).length + 1 ∧ d.2.1 < (ids t).length + 1 := by
  have hn := h.num hx
  unfold evD at hd
  simp only [List.mem_append, List.mem_cons, List.not_mem_nil, or_false] at hd
  rcases hd with ((rfl | rfl) | hd) | hd
  ·simp only; omega
  ·simp only; omega
  ·split at hd
   ·obtain rfl := List.mem_singleton.1 hd
    simp only; omega
   ·cases hd
  ·split at hd
   ·rename_i c
    have hs := h.num (sndr_in h.v hx c).1
    simp only [List.mem_cons, List.not_mem_nil, or_false] at hd
    rcases hd with rfl | rfl
    ·simp only; omega
    ·simp only; omega
   ·cases hd
 simp only at h1
 exact ⟨h2.1, h2.2, by omega, by omega⟩
theorem Bok.gr (hk : okB t b = true) {u : Nat} (hu : u < (ids t).length + 1) : Gr (dsT t b) ((ids t).length + 1) u (fun v => -dM t b (phN (ids t).length v) (phN (ids t).length u)) := by
 have hn := h.ok_iff.1 hk
 refine ⟨fun d hd => ⟨(h.ds_bd hd).1, (h.ds_bd hd).2.1⟩, hu, fun v hv => ?_, fun v x w => ?_⟩
 ·have := (fw_least h.sys (by decide) h.ini hn (h.ph_lt hv) (h.ph_lt hu)).1
  have := h.es_ds this
  rw [h.ps_ph hv, h.ps_ph hu] at this
  exact this
 ·have hv : v < (ids t).length + 1 := by
   cases w with
   | nil => exact hu
   | snoc _ he => exact (h.ds_bd he).2.1
  have := (fw_least h.sys (by decide) h.ini hn (h.ph_lt hv) (h.ph_lt hu)).2.1 _ (h.ds_es w)
  show x ≤ -dM t b _ _
  unfold dM
  omega
theorem Bok.grT (hk : okB t b = true) {u : Nat} (hu : u < (ids t).length + 1) {rs : List Dm} (hr : ∀ a c w, (a, c, w) ∈ rs ↔ (c, a, w) ∈ dsT t b) : Gr rs ((ids t).length + 1) u (fun v => -dM t b (phN (ids t).length u) (phN (ids t).length v)) := by
 have hn := h.ok_iff.1 hk
 have hbd : ∀ d ∈ rs, d.1 < (ids t).length + 1 ∧ d.2.1 < (ids t).length + 1 := fun d hd => by
  have := h.ds_bd ((hr d.1 d.2.1 d.2.2).1 hd)
  exact ⟨this.2.1, this.1⟩
 refine ⟨hbd, hu, fun v hv => ?_, fun v x w => ?_⟩
 ·have := (fw_least h.sys (by decide) h.ini hn (h.ph_lt hu) (h.ph_lt hv)).1
  have := h.es_ds this
  rw [h.ps_ph hv, h.ps_ph hu] at this
  exact this.turn (fun a c w he => (hr c a w).2 he)
 ·have hv : v < (ids t).length + 1 := by
   cases w with
   | nil => exact hu
   | snoc _ he => exact (hbd _ he).2
  have w' := w.turn (es := dsT t b) (fun a c w he => (hr a c w).1 he)
  have := (fw_least h.sys (by decide) h.ini hn (h.ph_lt hu) (h.ph_lt hv)).2.1 _ (h.ds_es w')
  show x ≤ -dM t b _ _
  unfold dM
  omega
omit h
end
end Go.Proofs.Ytanblnhnfkeffaa
namespace Go.Proofs.Ytanblnhnfkeffaa
set_option linter.unusedVariables false
set_option linter.unusedSimpArgs false
attribute [local go_sem ↓] run_skip run_region run_draw run_both run_seq run_block run_exit run_ret run_cond atN_app seqC_normal seqC_exit seqC_ret seqQ_normal seqQ_exit seqQ_ret blkQ_normal blkQ_exit blkQ_ret runOps_nil runOps_cons runD_nil runD_cons grdO_true grdO_false grdD_true grdD_false ifC_true ifC_false opS_val opS_call opS_two opK_app dS_val dS_call dS_two dK_app kUp_same kUp_ne
attribute [local go_sem] rechks_nil rechks_cons rechk gcase_true gcase_false ex_val ex_val0 gd_none gd_some ev_t ev_c evs_nil evs_cons evo_some evo_none hget_at hget_first hsetB_at hsetB_first hsetL_at hsetL_first ofOpt_some aop aload astore aslice aappend aiaddr aiaddrA afaddr alen alenS acopy amm acall alookup amupdate alenM atostr comma keyEq apick binV binVB binVS isSh intOp strOp boolOp shOp eqC eqF and2 cellsOf setFrom fillA fillS rd rdI elems mk bounds AV.cell List.all_cons List.all_nil Bool.and_true Bool.true_and Bool.and_self List.length_cons List.length_nil List.length_append Nat.reduceAdd Nat.reduceSub Nat.reduceMul Nat.zero_add Nat.add_zero List.cons_append List.nil_append List.append_assoc List.append_nil List.getElem?_cons_zero List.getElem?_cons_succ List.getElem?_nil List.set_cons_zero List.set_cons_succ List.drop_zero List.drop_succ_cons List.take_zero List.take_succ_cons List.take_nil List.drop_nil List.map_cons List.map_nil Option.map_some if_true if_false Bool.false_eq_true and_self true_and and_true Nat.reduceLeDiff Nat.reduceLT Nat.le_refl Nat.reduceEqDiff ite_true ite_false beq_self_eq_true beq_true beq_false Bool.not_true Bool.not_false Bool.true_beq Bool.false_beq map_vs vs_len vs_get vs_take vs_drop vs_snoc1 vs_snoc2 vs_snoc3 vs_snoc5 vs_set1 vs_set2 vs_rep wrap_id le_T lt_T le_F lt_F leI_T ltI_T leI_F ltI_F geI gtI get_T decide_true decide_false room List.getElem?_map List.length_map List.length_take Int.toNat_natCast Nat.min_def Nat.min_self nth_kOf put_kOf put_kNo kOv_cons kOv_nil KHas KArgs List.getElem_cons_zero List.getElem_cons_succ
def a_few19 : AFunc := ⟨1,13,[.tmp 2],(.seq (.region [⟨some 1,.box (.t 0),none⟩,⟨some 2,.mv (.c (.v (.bool false))),none⟩]) (.seq (.region [⟨some 3,.faddr 0 (.t 1),none⟩,⟨some 4,.load none (.t 3),none⟩,⟨some 5,.len (.t 4),none⟩,⟨some 6,.bin .leq (.t 5) (.c (.v (.int .i64 10))),none⟩,⟨some 7,.mv (.t 6),none⟩,⟨some 8,.faddr 0 (.t 1),some (7,true)⟩,⟨some 9,.load none (.t 8),some (7,true)⟩,⟨some 10,.call (.c (.fn 101 [])) [(.t 9),(.c (.fn 119 []))],some (7,true)⟩,⟨some 11,.not (.t 10),some (7,true)⟩,⟨some 12,.pick (.t 7) (.t 11) (.c (.v (.bool false))),none⟩,⟨some 2,.mv (.t 12),none⟩]) .ret))⟩
theorem a_few19_ok : cFunc Try.prog 48 = some a_few19 := by kernel_rfl
def a_few19P : AFunc := ⟨1,18,[.tmp 2],(.seq (.region [⟨some 1,.box (.t 0),none⟩,⟨some 2,.mv (.c (.v (.bool false))),none⟩]) (.seq (.region [⟨some 3,.faddr 2 (.t 1),none⟩,⟨some 4,.load none (.t 3),none⟩,⟨some 5,.len (.t 4),none⟩,⟨some 6,.bin .gtr (.t 5) (.c (.v (.int .i64 12))),none⟩,⟨some 7,.mv (.t 6),none⟩,⟨some 8,.faddr 1 (.t 1),some (7,false)⟩,⟨some 9,.load none (.t 8),some (7,false)⟩,⟨some 10,.len (.t 9),some (7,false)⟩,⟨some 11,.bin .gtr (.t 10) (.c (.v (.int .i64 20))),some (7,false)⟩,⟨some 12,.pick (.t 7) (.c (.v (.bool true))) (.t 11),none⟩,⟨some 13,.mv (.t 12),none⟩,⟨some 14,.faddr 2 (.t 1),some (13,false)⟩,⟨some 15,.load none (.t 14),some (13,false)⟩,⟨some 16,.call (.c (.fn 75 [])) [(.t 15),(.c (.fn 120 []))],some (13,false)⟩,⟨some 17,.pick (.t 13) (.c (.v (.bool true))) (.t 16),none⟩,⟨some 2,.mv (.t 17),none⟩]) .ret))⟩
theorem a_few19P_ok : cFunc Try.prog 119 = some a_few19P := by kernel_rfl
def a_few19E : AFunc := ⟨1,7,[.tmp 2],(.seq (.region [⟨some 1,.box (.t 0),none⟩,⟨some 2,.mv (.c (.v (.bool false))),none⟩]) (.seq (.region [⟨some 3,.faddr 4 (.t 1),none⟩,⟨some 4,.load none (.t 3),none⟩,⟨some 5,.len (.t 4),none⟩,⟨some 6,.bin .gtr (.t 5) (.c (.v (.int .i64 20))),none⟩,⟨some 2,.mv (.t 6),none⟩]) .ret))⟩
theorem a_few19E_ok : cFunc Try.prog 120 = some a_few19E := by kernel_rfl
def a_dValid : AFunc := ⟨2,39,[.tmp 4],(.seq (.region [⟨some 2,.box (.t 0),none⟩,⟨some 3,.box (.t 1),none⟩,⟨some 4,.mv (.c (.v (.bool false))),none⟩]) (.seq (.region [⟨some 5,.load (some 1) (.t 2),none⟩,⟨some 6,.call (.c (.fn 15 [])) [(.t 5)],none⟩,⟨some 7,.mv (.t 6),none⟩,⟨some 8,.faddr 0 (.t 3),some (7,true)⟩,⟨some 9,.load none (.t 8),some (7,true)⟩,⟨some 10,.len (.t 9),some (7,true)⟩,⟨some 11,.faddr 0 (.t 2),some (7,true)⟩,⟨some 12,.load none (.t 11),some (7,true)⟩,⟨some 13,.len (.t 12),some (7,true)⟩,⟨some 14,.bin .eql (.t 10) (.t 13),some (7,true)⟩,⟨some 15,.pick (.t 7) (.t 14) (.c (.v (.bool false))),none⟩,⟨some 16,.mv (.t 15),none⟩,⟨some 17,.faddr 1 (.t 3),some (16,true)⟩,⟨some 18,.load none (.t 17),some (16,true)⟩,⟨some 19,.bin .geq (.t 18) (.c (.v (.int .i64 0))),some (16,true)⟩,⟨some 20,.pick (.t 16) (.t 19) (.c (.v (.bool false))),none⟩,⟨some 21,.mv (.t 20),none⟩,⟨some 22,.faddr 1 (.t 3),some (21,true)⟩,⟨some 23,.load none (.t 22),some (21,true)⟩,⟨some 24,.faddr 2 (.t 3),some (21,true)⟩,⟨some 25,.load none (.t 24),some (21,true)⟩,⟨some 26,.bin .leq (.t 23) (.t 25),some (21,true)⟩,⟨some 27,.pick (.t 21) (.t 26) (.c (.v (.bool false))),none⟩,⟨some 28,.mv (.t 27),none⟩,⟨some 29,.faddr 2 (.t 3),some (28,true)⟩,⟨some 30,.load none (.t 29),some (28,true)⟩,⟨some 31,.bin .leq (.t 30) (.c (.v (.int .i64 1099511627776))),some (28,true)⟩,⟨some 32,.pick (.t 28) (.t 31) (.c (.v (.bool false))),none⟩,⟨some 33,.mv (.t 32),none⟩,⟨some 34,.faddr 0 (.t 3),some (33,true)⟩,⟨some 35,.load none (.t 34),some (33,true)⟩,⟨some 36,.call (.c (.fn 124 [])) [(.t 35),(.c (.fn 125 []))],some (33,true)⟩,⟨some 37,.not (.t 36),some (33,true)⟩,⟨some 38,.pick (.t 33) (.t 37) (.c (.v (.bool false))),none⟩,⟨some 4,.mv (.t 38),none⟩]) .ret))⟩
theorem a_dValid_ok : cFunc Try.prog 53 = some a_dValid := by kernel_rfl
def a_dValid1 : AFunc := ⟨1,9,[.tmp 2],(.seq (.region [⟨some 2,.mv (.c (.v (.bool false))),none⟩]) (.seq (.region [⟨some 3,.mv (.t 0),none⟩,⟨some 4,.bin .lss (.t 3) (.c (.v (.int .i64 0))),none⟩,⟨some 5,.mv (.t 4),none⟩,⟨some 6,.mv (.t 0),some (5,false)⟩,⟨some 7,.bin .gtr (.t 6) (.c (.v (.int .i64 1099511627776))),some (5,false)⟩,⟨some 8,.pick (.t 5) (.c (.v (.bool true))) (.t 7),none⟩,⟨some 2,.mv (.t 8),none⟩]) .ret))⟩
theorem a_dValid1_ok : cFunc Try.prog 125 = some a_dValid1 := by kernel_rfl
def a_dOwn : AFunc := ⟨3,38,[.tmp 6,.tmp 7],(.seq (.region [⟨some 3,.box (.t 0),none⟩,⟨some 4,.box (.t 1),none⟩,⟨some 5,.box (.t 2),none⟩,⟨some 6,.mv (.c (.v (.int .i64 0))),none⟩,⟨some 7,.mv (.c (.v (.int .i64 0))),none⟩]) (.seq (.draw [⟨0,⟨some 9,.faddr 0 (.t 3),none⟩,[]⟩,⟨1,⟨some 10,.load none (.t 9),none⟩,[]⟩,⟨2,⟨some 11,.faddr 0 (.t 5),none⟩,[]⟩,⟨3,⟨some 12,.load none (.t 11),none⟩,[]⟩,⟨4,⟨some 13,.iaddr 3 (.t 10) (.t 12),none⟩,[]⟩,⟨5,⟨some 14,.faddr 2 (.t 13),none⟩,[]⟩,⟨6,⟨some 15,.load none (.t 14),none⟩,[]⟩,⟨7,⟨some 16,.faddr 1 (.t 5),none⟩,[]⟩,⟨8,⟨some 17,.load none (.t 16),none⟩,[]⟩,⟨9,⟨some 18,.bin .sub (.t 17) (.c (.v (.int .i64 1))),none⟩,[]⟩,⟨10,⟨some 19,.iaddr 5 (.t 15) (.t 18),none⟩,[]⟩,⟨11,⟨some 20,.faddr 3 (.t 19),none⟩,[]⟩,⟨12,⟨some 21,.load none (.t 20),none⟩,[]⟩,⟨13,⟨some 8,.mv (.t 21),none⟩,[]⟩]) (.seq (.draw [⟨0,⟨some 22,.mv (.t 8),none⟩,[]⟩,⟨1,⟨some 23,.faddr 0 (.t 4),none⟩,[]⟩,⟨2,⟨some 24,.load none (.t 23),none⟩,[]⟩,⟨3,⟨some 25,.faddr 0 (.t 5),none⟩,[]⟩,⟨4,⟨some 26,.load none (.t 25),none⟩,[]⟩,⟨5,⟨some 27,.iaddr 1 (.t 24) (.t 26),none⟩,[]⟩,⟨6,⟨some 28,.load none (.t 27),none⟩,[]⟩,⟨7,⟨some 29,.bin .sub (.t 22) (.t 28),none⟩,[]⟩,⟨8,⟨some 30,.mv (.t 8),none⟩,[]⟩,⟨9,⟨some 31,.faddr 0 (.t 4),none⟩,[]⟩,⟨10,⟨some 32,.load none (.t 31),none⟩,[]⟩,⟨11,⟨some 33,.faddr 0 (.t 5),none⟩,[]⟩,⟨12,⟨some 34,.load none (.t 33),none⟩,[]⟩,⟨13,⟨some 35,.iaddr 1 (.t 32) (.t 34),none⟩,[]⟩,⟨14,⟨some 36,.load none (.t 35),none⟩,[]⟩,⟨15,⟨some 37,.bin .add (.t 30) (.t 36),none⟩,[]⟩,⟨16,⟨some 6,.mv (.t 29),none⟩,[]⟩,⟨17,⟨some 7,.mv (.t 37),none⟩,[]⟩]) .ret)))⟩
theorem a_dOwn_ok : cFunc Try.prog 123 = some a_dOwn := by kernel_rfl

def lgE19 (e : Ev) : Bool := decide (20 < e.asg.length)
def lgP19 (x : Pr) : Bool := decide (12 < x.evs.length) || (decide (20 < x.vars.length) || (List.range x.evs.length).any fun j => lgE19 (x.evs.getD j dfEv))
def few19B (t : Tr) : Bool := decide (t.length ≤ 10) && !(List.range t.length).any fun j => lgP19 (t.getD j dfPr)
theorem few19E_spec (e : Ev) (b l : List Row) : ACalls Try.prog 120 [.agg ((eEv e).map .v)] b l (fun r b' l' => r = .v (.bool (lgE19 e)) ∧ b' = b ∧ l' = l) := by
 refine calls_kept a_few19E_ok rfl (by decide) ?_
 intro B g hB hR hE hA
 simp only [KArgs] at hA
 simp only [eEv, List.map_cons, List.map_nil] at hA
 simp (disch := (first | decide | omega)) only [a_few19E, hA, List.length_map, go_sem]
 have : decide (20 < (e.asg.length : Int)) = lgE19 e := by unfold lgE19; simp only [decide_eq_decide]; omega
 exact leave_pure (xs := [.v (.bool (decide (20 < (e.asg.length : Int))))]) (.inr rfl) (by simp (disch := (first | decide | omega)) only [resVs, resV, go_sem, hA]) kO hR hB ⟨by rw [this]; rfl, rfl, rfl⟩
theorem few19P_spec (x : Pr) (b l : List Row) : ACalls Try.prog 119 [.agg ((ePr x).map .v)] b l (fun r b' l' => r = .v (.bool (lgP19 x)) ∧ b' = b ∧ l' = l) := by
 refine calls_kept a_few19P_ok rfl (by decide) ?_
 intro B g hB hR hE hA
 simp only [KArgs] at hA
 simp only [ePr, List.map_cons, List.map_nil] at hA
 by_cases h1 : 12 < x.evs.length
 ·have hd : decide (12 < (x.evs.length : Int)) = true := decide_eq_true oM
  have hq : lgP19 x = true := by unfold lgP19; rw [decide_eq_true h1]; rfl
  simp (disch := (first | decide | omega)) only [a_few19P, hA, List.length_map, hd, go_sem]
  exact leave_pure (xs := [.v (.bool true)]) (.inr rfl) (by simp (disch := (first | decide | omega)) only [resVs, resV, go_sem, hA]) kO hR hB ⟨by rw [hq]; rfl, rfl, rfl⟩
 have hd : decide (12 < (x.evs.length : Int)) = false := decide_eq_false oM
 by_cases h2 : 20 < x.vars.length
 ·have hd2 : decide (20 < (x.vars.length : Int)) = true := decide_eq_true oM
  have hq : lgP19 x = true := by unfold lgP19; rw [decide_eq_true h2]; simp
  simp (disch := (first | decide | omega)) only [a_few19P, hA, List.length_map, hd, hd2, go_sem]
  exact leave_pure (xs := [.v (.bool true)]) (.inr rfl) (by simp (disch := (first | decide | omega)) only [resVs, resV, go_sem, hA]) kO hR hB ⟨by rw [hq]; rfl, rfl, rfl⟩
 have hd2 : decide (20 < (x.vars.length : Int)) = false := decide_eq_false oM
 have hq : lgP19 x = (List.range x.evs.length).any fun j => lgE19 (x.evs.getD j dfEv) := by
  unfold lgP19; rw [decide_eq_false h1, decide_eq_false h2]; rfl
 simp (disch := (first | decide | omega)) only [a_few19P, hA, List.length_map, hd, hd2, go_sem]
 refine ACalls.nxt (containsE_spec x.evs _ [] (fun j => lgE19 (x.evs.getD j dfEv)) oM _ _ (fun i hi => by simp only [getD_at hi]; exact few19E_spec _ _ _)) ?_
 rw [← hq]
 simp (disch := (first | decide | omega)) only [hA, go_sem]
 exact leave_pure (xs := [.v (.bool (lgP19 x))]) (.inr rfl) (by simp (disch := (first | decide | omega)) only [resVs, resV, go_sem, hA]) kO hR hB ⟨rfl, rfl, rfl⟩
theorem few19_spec (t : Tr) (b l : List Row) : ACalls Try.prog 48 [.agg [.v (eT t)]] b l (fun r b' l' => r = .v (.bool (few19B t)) ∧ b' = b ∧ l' = l) := by
 refine calls_kept a_few19_ok rfl (by decide) ?_
 intro B g hB hR hE hA
 simp only [KArgs] at hA
 by_cases h1 : t.length ≤ 10
 case neg =>
  have hd : decide ((t.length : Int) ≤ 10) = false := decide_eq_false oM
  have hq : few19B t = false := by unfold few19B; rw [decide_eq_false h1]; rfl
  simp (disch := (first | decide | omega)) only [a_few19, hA, eT, List.length_map, hd, go_sem]
  exact leave_pure (xs := [.v (.bool false)]) (.inr rfl) (by simp (disch := (first | decide | omega)) only [resVs, resV, go_sem, hA]) kO hR hB ⟨by rw [hq]; rfl, rfl, rfl⟩
 have hd : decide ((t.length : Int) ≤ 10) = true := decide_eq_true oM
 have hq : few19B t = !(List.range t.length).any fun j => lgP19 (t.getD j dfPr) := by unfold few19B; rw [decide_eq_true h1]; rfl
 simp (disch := (first | decide | omega)) only [a_few19, hA, eT, List.length_map, hd, go_sem]
 refine ACalls.nxt (containsP_spec t _ [] (fun j => lgP19 (t.getD j dfPr)) oM _ _ (fun i hi => by simp only [getD_at hi]; exact few19P_spec _ _ _)) ?_
 simp (disch := (first | decide | omega)) only [hA, go_sem]
 exact leave_pure (xs := [.v (.bool (!(List.range t.length).any fun j => lgP19 (t.getD j dfPr)))]) (.inr rfl) (by simp (disch := (first | decide | omega)) only [resVs, resV, go_sem, hA]) kO hR hB ⟨by rw [hq]; rfl, rfl, rfl⟩
theorem few19_in {t : Tr} (h : few19B t = true) : t.length ≤ 10 ∧ Small t ∧ (∀ x ∈ t, x.evs.length ≤ 12) ∧ (ids t).length ≤ 120 := by
 simp only [few19B, Bool.and_eq_true, Bool.not_eq_true', List.any_eq_false, List.mem_range, decide_eq_true_eq] at h
 obtain ⟨h2, h1⟩ := h
 have key : ∀ x ∈ t, x.evs.length ≤ 12 ∧ x.vars.length ≤ 20 ∧ ∀ e ∈ x.evs, e.asg.length ≤ 20 := by
  intro x hx
  obtain ⟨i, hi, rfl⟩ := List.getElem_of_mem hx
  have := h1 i hi
  simp only [lgP19, getD_at hi, Bool.or_eq_true, decide_eq_true_eq, List.any_eq_true, List.mem_range, not_or, not_exists, not_and] at this
  refine ⟨by omega, by omega, fun e he => ?_⟩
  obtain ⟨j, hj, rfl⟩ := List.getElem_of_mem he
  have h3 := this.2.2 j hj
  rw [getD_at hj] at h3
  simp only [lgE19, decide_eq_true_eq] at h3
  omega
 have hle : ∀ i, i ≤ t.length → evN t i ≤ 12 * i := by
  intro i
  induction i with
  | zero => intro _; rw [evN_zero]; omega
  | succ i ih =>
    intro hi
    have := (key _ (List.getElem_mem (show i < t.length by omega))).1
    rw [evN_succ oM]
    have := ih oM
    omega
 refine ⟨h2, ⟨by omega, fun x hx => by have := (key x hx).2.1; omega, fun x hx => by have := (key x hx).1; omega, fun x hx e he => by have := (key x hx).2.2 e he; omega⟩, fun x hx => (key x hx).1, ?_⟩
 have := hle t.length (Nat.le_refl _)
 rw [evN_all] at this
 omega
def eBn (b : Bn) : List AV := [.v (.isl 1 (b.er.map eI)), .v (.int .i64 b.lo), .v (.int .i64 b.hi)]
theorem dValid1_spec (n : Int) (b l : List Row) : ACalls Try.prog 125 [.v (.int .i64 n)] b l (fun r b' l' => r = .v (.bool (!inB n 0 MT)) ∧ b' = b ∧ l' = l) := by
 refine calls_kept a_dValid1_ok rfl (by decide) ?_
 intro B g hB hR hE hA
 simp only [KArgs] at hA
 by_cases h1 : n < 0
 ·have hd := decide_eq_true h1
  have hq : inB n 0 MT = false := by unfold inB; rw [decide_eq_false oM]; rfl
  simp (disch := (first | decide | omega)) only [a_dValid1, hA, hd, go_sem]
  exact leave_pure (xs := [.v (.bool true)]) (.inr rfl) (by simp (disch := (first | decide | omega)) only [resVs, resV, go_sem, hA]) kO hR hB ⟨by rw [hq]; rfl, rfl, rfl⟩
 ·have hd := decide_eq_false h1
  have hq : inB n 0 MT = !decide ((1099511627776 : Int) < n) := by
   unfold inB MT
   rw [decide_eq_true (show (0 : Int) ≤ n by omega), Bool.true_and, ← decide_not, decide_eq_decide]; omega
  have hd2 : decide (n > 1099511627776) = decide ((1099511627776 : Int) < n) := rfl
  simp (disch := (first | decide | omega)) only [a_dValid1, hA, hd, hd2, go_sem]
  exact leave_pure (xs := [.v (.bool (decide ((1099511627776 : Int) < n)))]) (.inr rfl) (by simp (disch := (first | decide | omega)) only [resVs, resV, go_sem, hA]) kO hR hB ⟨by rw [hq, Bool.not_not]; rfl, rfl, rfl⟩
theorem er_any {b : Bn} : (List.range b.er.length).any (fun i => !inB (b.er.getD i 0) 0 MT) = !b.er.all (fun e => inB e 0 MT) := by
 cases h : b.er.all (fun e => inB e 0 MT) with
 | true =>
   rw [List.all_eq_true] at h
   show _ = false
   rw [List.any_eq_false]
   intro i hi
   have hil := List.mem_range.1 hi
   rw [getD_at hil, h _ (List.getElem_mem hil)]; decide
 | false =>
   rw [List.all_eq_false] at h
   obtain ⟨e, he, h2⟩ := h
   obtain ⟨i, hi, rfl⟩ := List.getElem_of_mem he
   show _ = true
   rw [List.any_eq_true]
   refine ⟨i, List.mem_range.2 hi, ?_⟩
   rw [getD_at hi]
   simpa using h2
theorem dValid_spec (t : Tr) (hS : Small t) (hN : Nm t) (bn : Bn) (hbl : bn.er.length ≤ 4611686018427387904) (b l : List Row) : ACalls Try.prog 53 [.agg [.v (eT t)], .agg (eBn bn)] b l (fun r b' l' => r = .v (.bool (bnB t bn)) ∧ b' = b ∧ l' = l) := by
 refine calls_kept a_dValid_ok rfl (by decide) ?_
 intro B g hB hR hE hA
 simp only [KArgs] at hA
 have hnp := hS.np
 have cv := fun b l => valid_spec t hS hN b l
 simp only [eBn] at hA
 cases hval : validL t with
 | false =>
   have hq : bnB t bn = false := by unfold bnB; rw [hval]; rfl
   rw [hval] at cv
   simp (disch := (first | decide | omega)) only [a_dValid, hA, go_sem]
   refine ACalls.nxt (cv _ _) ?_
   simp (disch := (first | decide | omega)) only [hA, go_sem]
   exact leave_pure (xs := [.v (.bool false)]) (.inr rfl) (by simp (disch := (first | decide | omega)) only [resVs, resV, go_sem, hA]) kO hR hB ⟨by rw [hq]; rfl, rfl, rfl⟩
 | true =>
   rw [hval] at cv
   simp only [eT] at cv
   have g0 : ∀ x y : Int, decide (x ≥ y) = decide (y ≤ x) := fun _ _ => rfl
   have hq : bnB t bn = (decide (bn.er.length = t.length) && decide (0 ≤ bn.lo) && decide (bn.lo ≤ bn.hi) && decide (bn.hi ≤ MT) && bn.er.all (fun e => inB e 0 MT)) := by unfold bnB; rw [hval]; rfl
   have hl : ((bn.er.length : Int) == (t.length : Int)) = decide (bn.er.length = t.length) := by
    rw [Bool.eq_iff_iff]; simp; omega
   by_cases c1 : bn.er.length = t.length
   case neg =>
    have d1 := decide_eq_false c1
    rw [d1] at hl hq
    simp (disch := (first | decide | omega)) only [a_dValid, hA, eT, go_sem]
    refine ACalls.nxt (cv _ _) ?_
    simp (disch := (first | decide | omega)) only [hA, hl, List.length_map, go_sem]
    exact leave_pure (xs := [.v (.bool false)]) (.inr rfl) (by simp (disch := (first | decide | omega)) only [resVs, resV, go_sem, hA]) kO hR hB ⟨by rw [hq]; rfl, rfl, rfl⟩
   have d1 := decide_eq_true c1
   rw [d1] at hl hq
   by_cases c2 : 0 ≤ bn.lo
   case neg =>
    have d2 := decide_eq_false c2
    rw [d2] at hq
    simp (disch := (first | decide | omega)) only [a_dValid, hA, eT, go_sem]
    refine ACalls.nxt (cv _ _) ?_
    simp (disch := (first | decide | omega)) only [hA, hl, g0, d2, List.length_map, go_sem]
    exact leave_pure (xs := [.v (.bool false)]) (.inr rfl) (by simp (disch := (first | decide | omega)) only [resVs, resV, go_sem, hA]) kO hR hB ⟨by rw [hq]; rfl, rfl, rfl⟩
   have d2 := decide_eq_true c2
   rw [d2] at hq
   by_cases c3 : bn.lo ≤ bn.hi
   case neg =>
    have d3 := decide_eq_false c3
    rw [d3] at hq
    simp (disch := (first | decide | omega)) only [a_dValid, hA, eT, go_sem]
    refine ACalls.nxt (cv _ _) ?_
    simp (disch := (first | decide | omega)) only [hA, hl, g0, d2, d3, List.length_map, go_sem]
    exact leave_pure (xs := [.v (.bool false)]) (.inr rfl) (by simp (disch := (first | decide | omega)) only [resVs, resV, go_sem, hA]) kO hR hB ⟨by rw [hq]; rfl, rfl, rfl⟩
   have d3 := decide_eq_true c3
   rw [d3] at hq
   by_cases c4 : bn.hi ≤ MT
   case neg =>
    have d4 : decide (bn.hi ≤ 1099511627776) = false := decide_eq_false c4
    have d4' : decide (bn.hi ≤ MT) = false := d4
    rw [d4'] at hq
    simp (disch := (first | decide | omega)) only [a_dValid, hA, eT, go_sem]
    refine ACalls.nxt (cv _ _) ?_
    simp (disch := (first | decide | omega)) only [hA, hl, g0, d2, d3, d4, List.length_map, go_sem]
    exact leave_pure (xs := [.v (.bool false)]) (.inr rfl) (by simp (disch := (first | decide | omega)) only [resVs, resV, go_sem, hA]) kO hR hB ⟨by rw [hq]; rfl, rfl, rfl⟩
   have d4 : decide (bn.hi ≤ 1099511627776) = true := decide_eq_true c4
   have d4' : decide (bn.hi ≤ MT) = true := d4
   rw [d4'] at hq
   have hco := fun b l => contains1_spec bn.er 125 [] (fun i => !inB (bn.er.getD i 0) 0 MT) oM b l (fun i hi => by simp only [getD_at hi]; exact dValid1_spec _ _ _)
   rw [er_any] at hco
   simp (disch := (first | decide | omega)) only [a_dValid, hA, eT, go_sem]
   refine ACalls.nxt (cv _ _) ?_
   simp (disch := (first | decide | omega)) only [hA, hl, g0, d2, d3, d4, List.length_map, go_sem]
   refine ACalls.nxt (hco _ _) ?_
   simp (disch := (first | decide | omega)) only [hA, Bool.not_not, go_sem]
   exact leave_pure (xs := [.v (.bool (bn.er.all fun e => inB e 0 MT))]) (.inr rfl) (by simp (disch := (first | decide | omega)) only [resVs, resV, go_sem, hA]) kO hR hB ⟨by rw [hq]; rfl, rfl, rfl⟩
theorem known_spec (t : Tr) (hS : Small t) (x : Int × Int) (b l : List Row) :
  ACalls Try.prog 122 [.agg [.v (eT t)], idP x] b l (fun r b' l' => r = .v (.bool (existsB t x.1 x.2)) ∧ b' = b ∧ l' = l) := exists_gen _ (by kernel_rfl) t hS x b l
theorem dOwn_spec (t : Tr) (hS : Small t) (bn : Bn) (h : Bok t bn) (p i : Nat) (hx : (p, i + 1) ∈ ids t) (b l : List Row) :
  ACalls Try.prog 123 [.agg [.v (eT t)], .agg (eBn bn), idA (p, i + 1)] b l (fun r b' l' => r = .tup [.v (.int .i64 (loA t bn (p, i + 1))), .v (.int .i64 (hiA t bn (p, i + 1)))] ∧ b' = b ∧ l' = l) := by
 refine calls_kept a_dOwn_ok rfl (by decide) ?_
 intro B g hB hR hE hA
 simp only [KArgs] at hA
 obtain ⟨hp, hi⟩ := mem_ids2.1 hx
 rw [evsOf_lt hp] at hi
 have hnp := hS.np
 have hne := hS.ne _ (List.getElem_mem hp)
 have ht := h.time hx
 rw [evAt_eq hp hi] at ht
 have he := h.er p
 have hpe : p < bn.er.length := by rw [h.len]; exact hp
 have hge : erB bn p = bn.er[p] := by unfold erB; exact getD_at hpe
 have e1 : loA t bn (p, i + 1) = t[p].evs[i].time - bn.er[p] := by unfold loA; rw [evAt_eq hp hi, hge]
 have e2 : hiA t bn (p, i + 1) = t[p].evs[i].time + bn.er[p] := by unfold hiA; rw [evAt_eq hp hi, hge]
 rw [e1, e2]
 rw [hge] at he
 unfold MT at ht he
 have hc : ((i + 1 : Nat) : Int) - 1 = (i : Int) := by omega
 have hgp : (t.map ePr)[p]? = some (ePr t[p]) := by rw [List.getElem?_map, List.getElem?_eq_getElem hp]; rfl
 have hgx : (t[p].evs.map eEv)[i]? = some (eEv t[p].evs[i]) := by rw [List.getElem?_map, List.getElem?_eq_getElem hi]; rfl
 have hgb : (bn.er.map eI)[p]? = some [.int .i64 bn.er[p]] := by rw [List.getElem?_map, List.getElem?_eq_getElem hpe]; rfl
 simp only [eBn, eT, idA] at hA
 simp only [ePr] at hgp
 simp only [eEv] at hgx
 simp (disch := (first | decide | omega)) only [a_dOwn, hA, hgp, hgx, hgb, hc, go_sem]
 exact leave_pure (xs := [.v (.int .i64 (t[p].evs[i].time - bn.er[p])), .v (.int .i64 (t[p].evs[i].time + bn.er[p]))]) (.inr rfl) (by simp (disch := (first | decide | omega)) only [resVs, resV, go_sem, hA]) kO hR hB ⟨rfl, rfl, rfl⟩
end Go.Proofs.Ytanblnhnfkeffaa
namespace Go.Proofs.Ytanblnhnfkeffaa
set_option linter.unusedVariables false
def eBv (b : Bn) : List IV := [.isl 1 (b.er.map eI), .int .i64 b.lo, .int .i64 b.hi]
theorem tr_bnd : TR Try.prog 93 3 eBv (fun b => (b.er.length ≤ maxLen ∧ ∀ n ∈ b.er, (Lit.int .i64 n).wf = true) ∧ (Lit.int .i64 b.lo).wf = true ∧ (Lit.int .i64 b.hi).wf = true) :=
 (tr_struct Try.underlying93 (trf_cons tr_ints (by kernel_rfl) rfl (trf_cons tr_i (by kernel_rfl) rfl (trf_cons tr_i (by kernel_rfl) rfl trf_nil)))).map (fun y => ⟨y.1, y.2.1, y.2.2.1⟩) (fun _ => rfl) (fun _ h => ⟨h.1, h.2.1, h.2.2.1⟩)
end Go.Proofs.Ytanblnhnfkeffaa
