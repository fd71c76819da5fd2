/- Texts of one proof, laid together: GA, GB, GC. No condition. -/
import Derived.Test.YtnihdkfmmbpilaaDoorIC10
namespace Go.Proofs.YtnihdkfmmbpilaaDoor
set_option linter.unusedVariables false
inductive ITI where
 | leaf (b : Bool)
 | node (l r : ITI)
 deriving DecidableEq
inductive ITT where
 | leaf (n : Nat)
 | node (n : Nat) (l r : ITT)
 deriving DecidableEq
abbrev Pnt := Nat → Bool
def Pnt.tl (p : Pnt) : Pnt := fun i => p (i + 1)
def Pnt.cons (b : Bool) (p : Pnt) : Pnt := fun i => match i with
 | 0 => b
 | i + 1 => p i
theorem Pnt.tl_cons (b : Bool) (p : Pnt) : (Pnt.cons b p).tl = p := rfl
theorem Pnt.hd_cons (b : Bool) (p : Pnt) : Pnt.cons b p 0 = b := rfl
def iOwn : ITI → Pnt → Bool
 | .leaf b, _ => b
 | .node l r, p => if p 0 then iOwn r p.tl else iOwn l p.tl
def tVal : ITT → Pnt → Nat
 | .leaf n, _ => n
 | .node n l r, p => n + if p 0 then tVal r p.tl else tVal l p.tl
def iDep : ITI → Nat
 | .leaf _ => 0
 | .node l r => max (iDep l) (iDep r) + 1
def tDep : ITT → Nat
 | .leaf _ => 0
 | .node _ l r => max (tDep l) (tDep r) + 1
def tSz : ITT → Nat
 | .leaf _ => 1
 | .node _ l r => tSz l + tSz r + 1
theorem sz_pos (x : ITT) : 0 < tSz x := by cases x <;> simp [tSz]
def tN : ITT → Nat
 | .leaf n => n
 | .node n _ _ => n
def tLf : ITT → Bool
 | .leaf _ => true
 | .node .. => false
def INm : ITI → Prop
 | .leaf _ => True
 | .node l r => ¬ (∃ b, l = .leaf b ∧ r = .leaf b) ∧ INm l ∧ INm r
def TNm : ITT → Prop
 | .leaf _ => True
 | .node _ l r => (tN l = 0 ∨ tN r = 0) ∧ ¬ (l = .leaf 0 ∧ r = .leaf 0) ∧ TNm l ∧ TNm r
def nId : ITI → ITI → ITI
 | .leaf a, .leaf b => if a = b then .leaf a else .node (.leaf a) (.leaf b)
 | l, r => .node l r
def iSplit : ITI → ITI × ITI
 | .leaf false => (.leaf false, .leaf false)
 | .leaf true => (.node (.leaf true) (.leaf false), .node (.leaf false) (.leaf true))
 | .node l r =>
   if l = .leaf false then (.node l (iSplit r).1, .node l (iSplit r).2)
   else if r = .leaf false then (.node (iSplit l).1 r, .node (iSplit l).2 r)
   else (.node l (.leaf false), .node (.leaf false) r)
def iSum : ITI → ITI → ITI × Bool
 | .leaf false, b => (b, true)
 | .leaf true, .leaf false => (.leaf true, true)
 | .leaf true, .leaf true => (.leaf false, false)
 | .leaf true, .node _ _ => (.leaf false, false)
 | .node l r, .leaf false => (.node l r, true)
 | .node _ _, .leaf true => (.leaf false, false)
 | .node l r, .node l' r' => (nId (iSum l l').1 (iSum r r').1, (iSum l l').2 && (iSum r r').2)
theorem nId_own (l r : ITI) (p : Pnt) : iOwn (nId l r) p = if p 0 then iOwn r p.tl else iOwn l p.tl := by
 unfold nId
 split
 ·split
  ·next h => subst h; simp [iOwn]
  ·simp [iOwn]
 ·rfl
theorem nId_nm {l r : ITI} (hl : INm l) (hr : INm r) : INm (nId l r) := by
 unfold nId
 split
 ·split
  ·trivial
  ·next h => exact ⟨fun ⟨b, h1, h2⟩ => h (by cases h1; cases h2; rfl), trivial, trivial⟩
 ·next h => exact ⟨fun ⟨b, h1, h2⟩ => h b b h1 h2, hl, hr⟩
theorem nId_dep (l r : ITI) : iDep (nId l r) ≤ max (iDep l) (iDep r) + 1 := by
 unfold nId
 split
 ·split <;> simp [iDep]
 ·simp [iDep]
theorem own_some : ∀ {i : ITI}, INm i → i ≠ .leaf false → ∃ p, iOwn i p = true
 | .leaf true, _, _ => ⟨fun _ => false, rfl⟩
 | .leaf false, _, h => absurd rfl h
 | .node l r, hn, _ => by
   by_cases hl : l = .leaf false
   ·have hr : r ≠ .leaf false := fun h => hn.1 ⟨false, hl, h⟩
    obtain ⟨p, hp⟩ := own_some hn.2.2 hr
    exact ⟨Pnt.cons true p, by simp [iOwn, Pnt.hd_cons, Pnt.tl_cons, hp]⟩
   ·obtain ⟨p, hp⟩ := own_some hn.2.1 hl
    exact ⟨Pnt.cons false p, by simp [iOwn, Pnt.hd_cons, Pnt.tl_cons, hp]⟩
theorem split_own : ∀ (i : ITI) (p : Pnt), iOwn i p = (iOwn (iSplit i).1 p || iOwn (iSplit i).2 p) ∧ (iOwn (iSplit i).1 p && iOwn (iSplit i).2 p) = false
 | .leaf false, p => ⟨rfl, rfl⟩
 | .leaf true, p => by cases h : p 0 <;> simp [iSplit, iOwn, h]
 | .node l r, p => by
   have h1 := split_own l p.tl
   have h2 := split_own r p.tl
   unfold iSplit
   split
   ·next h => subst h; cases h : p 0 <;> simp [iOwn, h, h2]
   ·split
    ·next h => subst h; cases h : p 0 <;> simp [iOwn, h, h1]
    ·cases h : p 0 <;> simp [iOwn, h]
theorem split_nz : ∀ {i : ITI}, INm i → i ≠ .leaf false → (INm (iSplit i).1 ∧ (iSplit i).1 ≠ .leaf false) ∧ (INm (iSplit i).2 ∧ (iSplit i).2 ≠ .leaf false)
 | .leaf false, _, h => absurd rfl h
 | .leaf true, _, _ => by simp [iSplit, INm]
 | .node l r, hn, _ => by
   obtain ⟨h0, hl, hr⟩ := hn
   unfold iSplit
   split
   ·next h =>
    have hr0 : r ≠ .leaf false := fun h' => h0 ⟨false, h, h'⟩
    obtain ⟨⟨a1, a2⟩, b1, b2⟩ := split_nz hr hr0
    exact ⟨⟨⟨fun ⟨b, e1, e2⟩ => a2 (by rw [h] at e1; cases e1; exact e2), hl, a1⟩, by simp⟩, ⟨fun ⟨b, e1, e2⟩ => b2 (by rw [h] at e1; cases e1; exact e2), hl, b1⟩, by simp⟩
   ·next hl0 =>
    split
    ·next h =>
     obtain ⟨⟨a1, a2⟩, b1, b2⟩ := split_nz hl hl0
     exact ⟨⟨⟨fun ⟨b, e1, e2⟩ => a2 (by rw [h] at e2; cases e2; exact e1), a1, hr⟩, by simp⟩, ⟨fun ⟨b, e1, e2⟩ => b2 (by rw [h] at e2; cases e2; exact e1), b1, hr⟩, by simp⟩
    ·next hr0 =>
     exact ⟨⟨⟨fun ⟨b, e1, e2⟩ => hl0 (by cases e2; exact e1), hl, trivial⟩, by simp⟩, ⟨fun ⟨b, e1, e2⟩ => hr0 (by cases e1; exact e2), trivial, hr⟩, by simp⟩
theorem sum_own : ∀ {a b : ITI}, INm a → INm b → (∀ p, (iOwn a p && iOwn b p) = false) →
  (iSum a b).2 = true ∧ INm (iSum a b).1 ∧ (∀ p, iOwn (iSum a b).1 p = (iOwn a p || iOwn b p)) ∧ iDep (iSum a b).1 ≤ max (iDep a) (iDep b)
 | .leaf false, b, _, hb, _ => by simp [iSum, iOwn, hb, iDep]
 | .leaf true, .leaf false, _, _, _ => by simp [iSum, iOwn, INm, iDep]
 | .leaf true, .leaf true, _, _, h => by have := h (fun _ => false); simp [iOwn] at this
 | .leaf true, .node l r, _, hb, h => by
   obtain ⟨p, hp⟩ := own_some hb (by simp)
   have := h p
   rw [hp] at this
   simp [iOwn] at this
 | .node l r, .leaf false, ha, _, _ => by simp [iSum, iOwn, ha, iDep]
 | .node l r, .leaf true, ha, _, h => by
   obtain ⟨p, hp⟩ := own_some ha (by simp)
   have := h p
   rw [hp] at this
   simp [iOwn] at this
 | .node l r, .node l' r', ha, hb, h => by
   have h1 := sum_own ha.2.1 hb.2.1 (fun p => by have := h (Pnt.cons false p); simpa [iOwn, Pnt.hd_cons, Pnt.tl_cons] using this)
   have h2 := sum_own ha.2.2 hb.2.2 (fun p => by have := h (Pnt.cons true p); simpa [iOwn, Pnt.hd_cons, Pnt.tl_cons] using this)
   refine ⟨by simp [iSum, h1.1, h2.1], nId_nm h1.2.1 h2.2.1, fun p => ?_, ?_⟩
   ·show iOwn (nId _ _) p = _
    rw [nId_own]
    cases h : p 0 <;> simp [iOwn, h, h1.2.2.1, h2.2.2.1]
   ·have := nId_dep (iSum l l').1 (iSum r r').1
    have d1 := h1.2.2.2
    have d2 := h2.2.2.2
    show iDep (nId _ _) ≤ _
    simp only [iDep]
    omega
theorem sum_nz {a b : ITI} (ha : INm a) (hb : INm b) (h : ∀ p, (iOwn a p && iOwn b p) = false) (h0 : a ≠ .leaf false) : (iSum a b).1 ≠ .leaf false := fun e => by
 obtain ⟨p, hp⟩ := own_some ha h0
 have := (sum_own ha hb h).2.2.1 p
 rw [e, hp] at this
 simp [iOwn] at this
def tLift (k : Nat) : ITT → ITT
 | .leaf n => .leaf (n + k)
 | .node n l r => .node (n + k) l r
def tSink (k : Nat) : ITT → ITT
 | .leaf n => .leaf (n - k)
 | .node n l r => .node (n - k) l r
def nTr (n : Nat) (l r : ITT) : ITT :=
 if tLf l = true ∧ tLf r = true ∧ tN l = tN r then .leaf (n + tN l)
 else .node (n + min (tN l) (tN r)) (tSink (min (tN l) (tN r)) l) (tSink (min (tN l) (tN r)) r)
def tMax : ITT → Nat
 | .leaf n => n
 | .node n l r => n + max (tMax l) (tMax r)
def tMin : ITT → Nat
 | .leaf n => n
 | .node n l r => n + min (tMin l) (tMin r)
def tL : ITT → ITT
 | .leaf _ => .leaf 0
 | .node _ l _ => l
def tR : ITT → ITT
 | .leaf _ => .leaf 0
 | .node _ _ r => r
theorem lift_val (k : Nat) (x : ITT) (p : Pnt) : tVal (tLift k x) p = tVal x p + k := by
 cases x <;> simp [tLift, tVal] <;> omega
theorem sink_val {k : Nat} {x : ITT} (h : k ≤ tN x) (p : Pnt) : tVal (tSink k x) p + k = tVal x p := by
 cases x <;> simp only [tN] at h <;> simp [tSink, tVal] <;> omega
theorem lf_val {x : ITT} (h : tLf x = true) (p : Pnt) : tVal x p = tN x := by
 cases x with
 | leaf n => rfl
 | node n l r => cases h
theorem nTr_val (n : Nat) (l r : ITT) (p : Pnt) : tVal (nTr n l r) p = n + if p 0 then tVal r p.tl else tVal l p.tl := by
 unfold nTr
 split
 ·next h =>
  have h1 := lf_val h.1 p.tl
  have h2 := lf_val h.2.1 p.tl
  have h3 := h.2.2
  cases h0 : p 0 <;> simp [tVal] <;> omega
 ·have h1 := sink_val (k := min (tN l) (tN r)) (x := l) oM p.tl
  have h2 := sink_val (k := min (tN l) (tN r)) (x := r) oM p.tl
  cases h0 : p 0 <;> simp [tVal, h0] <;> omega
theorem sink_nm {k : Nat} {x : ITT} (h : TNm x) : TNm (tSink k x) := by
 cases x with
 | leaf n => trivial
 | node n l r => exact h
theorem lift_nm {k : Nat} {x : ITT} (h : TNm x) : TNm (tLift k x) := by
 cases x with
 | leaf n => trivial
 | node n l r => exact h
theorem sink_N (k : Nat) (x : ITT) : tN (tSink k x) = tN x - k := by cases x <;> rfl
theorem sink_leaf {k n : Nat} {x : ITT} (h : tSink k x = .leaf n) : tLf x = true := by
 cases x with
 | leaf n => rfl
 | node n l r => cases h
theorem nTr_nm {n : Nat} {l r : ITT} (hl : TNm l) (hr : TNm r) : TNm (nTr n l r) := by
 unfold nTr
 split
 ·trivial
 ·next h =>
  refine ⟨by rw [sink_N, sink_N]; omega, fun ⟨e1, e2⟩ => h ⟨sink_leaf e1, sink_leaf e2, ?_⟩, sink_nm hl, sink_nm hr⟩
  have h1 := sink_N (min (tN l) (tN r)) l
  have h2 := sink_N (min (tN l) (tN r)) r
  rw [e1] at h1
  rw [e2] at h2
  have h3 : tN (.leaf 0) = 0 := rfl
  omega
theorem sink_dep (k : Nat) (x : ITT) : tDep (tSink k x) = tDep x := by cases x <;> rfl
theorem lift_dep (k : Nat) (x : ITT) : tDep (tLift k x) = tDep x := by cases x <;> rfl
theorem nTr_dep (n : Nat) (l r : ITT) : tDep (nTr n l r) ≤ max (tDep l) (tDep r) + 1 := by
 unfold nTr
 split
 ·simp [tDep]
 ·simp [tDep, sink_dep]
theorem max_val : ∀ (x : ITT) (p : Pnt), tVal x p ≤ tMax x
 | .leaf n, _ => Nat.le_refl _
 | .node n l r, p => by
   have h1 := max_val l p.tl
   have h2 := max_val r p.tl
   simp only [tVal, tMax]
   split <;> omega
theorem max_at : ∀ x : ITT, ∃ p, tVal x p = tMax x
 | .leaf n => ⟨fun _ => false, rfl⟩
 | .node n l r => by
   obtain ⟨p, hp⟩ := max_at l
   obtain ⟨q, hq⟩ := max_at r
   by_cases h : tMax l ≤ tMax r
   ·exact ⟨Pnt.cons true q, by simp [tVal, tMax, Pnt.hd_cons, Pnt.tl_cons, hq]; omega⟩
   ·exact ⟨Pnt.cons false p, by simp [tVal, tMax, Pnt.hd_cons, Pnt.tl_cons, hp]; omega⟩
theorem min_val : ∀ (x : ITT) (p : Pnt), tMin x ≤ tVal x p
 | .leaf n, _ => Nat.le_refl _
 | .node n l r, p => by
   have h1 := min_val l p.tl
   have h2 := min_val r p.tl
   simp only [tVal, tMin]
   split <;> omega
theorem min_at : ∀ x : ITT, ∃ p, tVal x p = tMin x
 | .leaf n => ⟨fun _ => false, rfl⟩
 | .node n l r => by
   obtain ⟨p, hp⟩ := min_at l
   obtain ⟨q, hq⟩ := min_at r
   by_cases h : tMin l ≤ tMin r
   ·exact ⟨Pnt.cons false p, by simp [tVal, tMin, Pnt.hd_cons, Pnt.tl_cons, hp]; omega⟩
   ·exact ⟨Pnt.cons true q, by simp [tVal, tMin, Pnt.hd_cons, Pnt.tl_cons, hq]; omega⟩
theorem nm_min : ∀ {x : ITT}, TNm x → tMin x = tN x
 | .leaf n, _ => rfl
 | .node n l r, h => by
   have h1 := nm_min h.2.2.1
   have h2 := nm_min h.2.2.2
   have := h.1
   simp only [tMin, tN]
   omega
theorem nm_leaf : ∀ {x : ITT}, TNm x → (∀ p q, tVal x p = tVal x q) → tLf x = true
 | .leaf n, _, _ => rfl
 | .node n l r, h, hc => by
   have hl := nm_leaf h.2.2.1 (fun p q => by have := hc (Pnt.cons false p) (Pnt.cons false q); simpa [tVal, Pnt.hd_cons, Pnt.tl_cons] using this)
   have hr := nm_leaf h.2.2.2 (fun p q => by have := hc (Pnt.cons true p) (Pnt.cons true q); simpa [tVal, Pnt.hd_cons, Pnt.tl_cons] using this)
   have he := hc (Pnt.cons false fun _ => false) (Pnt.cons true fun _ => false)
   cases l with
   | node => cases hl
   | leaf a =>
     cases r with
     | node => cases hr
     | leaf b =>
       simp [tVal, Pnt.hd_cons] at he
       have := h.1
       simp only [tN] at this
       exact absurd ⟨by congr 1; omega, by congr 1; omega⟩ h.2.1
theorem nm_eq : ∀ {x y : ITT}, TNm x → TNm y → (∀ p, tVal x p = tVal y p) → x = y
 | .leaf n, .leaf m, _, _, h => by have := h (fun _ => false); simp only [tVal] at this; rw [this]
 | .leaf n, .node m l r, _, hy, h => by
   have := nm_leaf hy (fun p q => by rw [← h p, ← h q]; rfl)
   cases this
 | .node m l r, .leaf n, hx, _, h => by
   have := nm_leaf hx (fun p q => by rw [h p, h q]; rfl)
   cases this
 | .node n l r, .node m l' r', hx, hy, h => by
   have e : n = m := by
    have h1 := nm_min hx
    have h2 := nm_min hy
    obtain ⟨p, hp⟩ := min_at (.node n l r)
    obtain ⟨q, hq⟩ := min_at (.node m l' r')
    have a1 := min_val (.node m l' r') p
    have a2 := min_val (.node n l r) q
    have b1 := h p
    have b2 := h q
    simp only [tN] at h1 h2
    omega
   subst e
   have el := nm_eq hx.2.2.1 hy.2.2.1 (fun p => by have := h (Pnt.cons false p); simpa [tVal, Pnt.hd_cons, Pnt.tl_cons] using this)
   have er := nm_eq hx.2.2.2 hy.2.2.2 (fun p => by have := h (Pnt.cons true p); simpa [tVal, Pnt.hd_cons, Pnt.tl_cons] using this)
   rw [el, er]
theorem tL_sz (x : ITT) : tSz (tL x) ≤ tSz x := by cases x <;> simp [tL, tSz]; omega
theorem tR_sz (x : ITT) : tSz (tR x) ≤ tSz x := by cases x <;> simp [tR, tSz]; omega
theorem tL_lt {x : ITT} (h : tLf x = false) : tSz (tL x) < tSz x := by cases x <;> simp [tL, tSz, tLf] at *; omega
theorem tR_lt {x : ITT} (h : tLf x = false) : tSz (tR x) < tSz x := by cases x <;> simp [tR, tSz, tLf] at *; omega
theorem lift_sz (k : Nat) (x : ITT) : tSz (tLift k x) = tSz x := by cases x <;> rfl
theorem parts_val (x : ITT) (p : Pnt) : tVal x p = tN x + if p 0 then tVal (tR x) p.tl else tVal (tL x) p.tl := by
 cases x <;> simp [tVal, tN, tL, tR]
theorem tL_nm {x : ITT} (h : TNm x) : TNm (tL x) := by
 cases x with
 | leaf => trivial
 | node => exact h.2.2.1
theorem tR_nm {x : ITT} (h : TNm x) : TNm (tR x) := by
 cases x with
 | leaf => trivial
 | node => exact h.2.2.2
def tMrg : Nat → ITT → ITT → ITT
 | 0, a, b => a
 | n + 1, a, b =>
   if tLf a = true ∧ tLf b = true then .leaf (max (tN a) (tN b))
   else if tN b < tN a then nTr (tN b) (tMrg n (tL b) (tLift (tN a - tN b) (tL a))) (tMrg n (tR b) (tLift (tN a - tN b) (tR a)))
   else nTr (tN a) (tMrg n (tL a) (tLift (tN b - tN a) (tL b))) (tMrg n (tR a) (tLift (tN b - tN a) (tR b)))
theorem parts_sz {a b : ITT} (h : ¬ (tLf a = true ∧ tLf b = true)) : tSz (tL a) + tSz (tL b) < tSz a + tSz b ∧ tSz (tR a) + tSz (tR b) < tSz a + tSz b := by
 have a1 := tL_sz a
 have a2 := tL_sz b
 have a3 := tR_sz a
 have a4 := tR_sz b
 cases ha : tLf a with
 | false => have := tL_lt ha; have := tR_lt ha; omega
 | true =>
   cases hb : tLf b with
   | false => have := tL_lt hb; have := tR_lt hb; omega
   | true => exact absurd ⟨ha, hb⟩ h
theorem mrg_val : ∀ (n : Nat) (a b : ITT), tSz a + tSz b ≤ n → ∀ p, tVal (tMrg n a b) p = max (tVal a p) (tVal b p)
 | 0, a, b, h, p => by have h0 := sz_pos a; omega
 | n + 1, a, b, h, p => by
   unfold tMrg
   split
   ·next hl =>
    have h1 := lf_val hl.1 p
    have h2 := lf_val hl.2 p
    rw [h1, h2]; rfl
   ·next hl =>
    have hs := parts_sz hl
    split
    ·have i1 := mrg_val n (tL b) (tLift (tN a - tN b) (tL a)) (by rw [lift_sz]; omega) p.tl
     have i2 := mrg_val n (tR b) (tLift (tN a - tN b) (tR a)) (by rw [lift_sz]; omega) p.tl
     rw [lift_val] at i1 i2
     rw [nTr_val, i1, i2, parts_val a p, parts_val b p]
     split <;> omega
    ·have i1 := mrg_val n (tL a) (tLift (tN b - tN a) (tL b)) (by rw [lift_sz]; omega) p.tl
     have i2 := mrg_val n (tR a) (tLift (tN b - tN a) (tR b)) (by rw [lift_sz]; omega) p.tl
     rw [lift_val] at i1 i2
     rw [nTr_val, i1, i2, parts_val a p, parts_val b p]
     split <;> omega
theorem mrg_nm : ∀ (n : Nat) (a b : ITT), TNm a → TNm b → TNm (tMrg n a b)
 | 0, a, b, h, _ => h
 | n + 1, a, b, ha, hb => by
   unfold tMrg
   split
   ·trivial
   ·split
    ·exact nTr_nm (mrg_nm n _ _ (tL_nm hb) (lift_nm (tL_nm ha))) (mrg_nm n _ _ (tR_nm hb) (lift_nm (tR_nm ha)))
    ·exact nTr_nm (mrg_nm n _ _ (tL_nm ha) (lift_nm (tL_nm hb))) (mrg_nm n _ _ (tR_nm ha) (lift_nm (tR_nm hb)))
theorem tL_dep (x : ITT) : tDep (tL x) ≤ tDep x - 1 := by cases x <;> simp [tL, tDep]; omega
theorem tR_dep (x : ITT) : tDep (tR x) ≤ tDep x - 1 := by cases x <;> simp [tR, tDep]; omega
theorem dep_pos {x : ITT} (h : tLf x = false) : 0 < tDep x := by cases x <;> simp [tLf, tDep] at *
theorem mrg_dep : ∀ (n : Nat) (a b : ITT), tDep (tMrg n a b) ≤ max (tDep a) (tDep b)
 | 0, a, b => by simp only [tMrg]; omega
 | n + 1, a, b => by
   have a1 := tL_dep a
   have a2 := tL_dep b
   have a3 := tR_dep a
   have a4 := tR_dep b
   unfold tMrg
   split
   ·simp [tDep]
   ·next hl =>
    have hp : 0 < max (tDep a) (tDep b) := by
     cases ha : tLf a with
     | false => have := dep_pos ha; omega
     | true =>
       cases hb : tLf b with
       | false => have := dep_pos hb; omega
       | true => exact absurd ⟨ha, hb⟩ hl
    split
    ·have i1 := mrg_dep n (tL b) (tLift (tN a - tN b) (tL a))
     have i2 := mrg_dep n (tR b) (tLift (tN a - tN b) (tR a))
     rw [lift_dep] at i1 i2
     have := nTr_dep (tN b) (tMrg n (tL b) (tLift (tN a - tN b) (tL a))) (tMrg n (tR b) (tLift (tN a - tN b) (tR a)))
     omega
    ·have i1 := mrg_dep n (tL a) (tLift (tN b - tN a) (tL b))
     have i2 := mrg_dep n (tR a) (tLift (tN b - tN a) (tR b))
     rw [lift_dep] at i1 i2
     have := nTr_dep (tN a) (tMrg n (tL a) (tLift (tN b - tN a) (tL b))) (tMrg n (tR a) (tLift (tN b - tN a) (tR b)))
     omega
def tLeq : Nat → ITT → ITT → Int → Bool
 | 0, _, _, _ => true
 | n + 1, a, b, k =>
   if tLf a = true ∧ tLf b = true then decide (0 ≤ k + (tN b - tN a : Int))
   else tLeq n (tL a) (tL b) (k + (tN b - tN a : Int)) && tLeq n (tR a) (tR b) (k + (tN b - tN a : Int))
theorem leq_val : ∀ (n : Nat) (a b : ITT), tSz a + tSz b ≤ n → ∀ k, tLeq n a b k = true ↔ ∀ p, (tVal a p : Int) ≤ tVal b p + k
 | 0, a, b, h, k => by have h0 := sz_pos a; omega
 | n + 1, a, b, h, k => by
   unfold tLeq
   split
   ·next hl =>
    rw [decide_eq_true_iff]
    constructor
    ·intro h0 p
     rw [lf_val hl.1, lf_val hl.2]; omega
    ·intro h0
     have := h0 (fun _ => false)
     rw [lf_val hl.1, lf_val hl.2] at this; omega
   ·next hl =>
    have hs := parts_sz hl
    rw [Bool.and_eq_true, leq_val n _ _ oM, leq_val n _ _ oM]
    constructor
    ·intro ⟨h1, h2⟩ p
     have e1 := parts_val a p
     have e2 := parts_val b p
     have := h1 p.tl
     have := h2 p.tl
     cases h0 : p 0 <;> simp [h0] at e1 e2 <;> omega
    ·intro h0
     refine ⟨fun p => ?_, fun p => ?_⟩
     ·have e := h0 (Pnt.cons false p)
      have e1 := parts_val a (Pnt.cons false p)
      have e2 := parts_val b (Pnt.cons false p)
      simp [Pnt.hd_cons, Pnt.tl_cons] at e1 e2
      omega
     ·have e := h0 (Pnt.cons true p)
      have e1 := parts_val a (Pnt.cons true p)
      have e2 := parts_val b (Pnt.cons true p)
      simp [Pnt.hd_cons, Pnt.tl_cons] at e1 e2
      omega
end Go.Proofs.YtnihdkfmmbpilaaDoor
namespace Go.Proofs.YtnihdkfmmbpilaaDoor
set_option linter.unusedVariables false
def tFill : ITI → ITT → ITT
 | .leaf false, x => x
 | .leaf true, x => .leaf (tMax x)
 | .node _ _, .leaf n => .leaf n
 | .node il ir, .node n l r =>
   if il = .leaf true then nTr n (.leaf (max (tMax l) (tMin (tFill ir r)))) (tFill ir r)
   else if ir = .leaf true then nTr n (tFill il l) (.leaf (max (tMax r) (tMin (tFill il l))))
   else nTr n (tFill il l) (tFill ir r)
def tGrow : ITI → ITT → ITT × Nat
 | .leaf _, x => (.leaf (tMax x + 1), 0)
 | .node il ir, x =>
   let c := if tLf x = true then 1000 else 0
   let gl := tGrow il (tL x)
   let gr := tGrow ir (tR x)
   if il = .leaf false then (.node (tN x) (tL x) gr.1, gr.2 + 1 + c)
   else if ir = .leaf false then (.node (tN x) gl.1 (tR x), gl.2 + 1 + c)
   else if gl.2 + 1 < gr.2 + 1 then (.node (tN x) gl.1 (tR x), gl.2 + 1 + c)
   else (.node (tN x) (tL x) gr.1, gr.2 + 1 + c)
theorem tMin_le (x : ITT) : tMin x ≤ tMax x := Nat.le_trans (min_val x fun _ => false) (max_val x fun _ => false)
theorem max_le {x : ITT} {m : Nat} (h : ∀ p, tVal x p ≤ m) : tMax x ≤ m := by
 obtain ⟨p, hp⟩ := max_at x
 rw [← hp]; exact h p
theorem fill_max : ∀ (i : ITI) (x : ITT) (p : Pnt), tVal (tFill i x) p ≤ tMax x
 | .leaf false, x, p => max_val x p
 | .leaf true, x, p => Nat.le_refl _
 | .node _ _, .leaf n, p => Nat.le_refl _
 | .node il ir, .node n l r, p => by
   have hl := fill_max il l
   have hr := fill_max ir r
   have ml := Nat.le_trans (tMin_le _) (max_le hl)
   have mr := Nat.le_trans (tMin_le _) (max_le hr)
   have h1 := hl p.tl
   have h2 := hr p.tl
   unfold tFill
   split
   ·rw [nTr_val]; simp only [tMax, tVal]; split <;> omega
   ·split
    ·rw [nTr_val]; simp only [tMax, tVal]; split <;> omega
    ·rw [nTr_val]; simp only [tMax]; split <;> omega
theorem fill_val : ∀ (i : ITI) (x : ITT) (p : Pnt), tVal x p ≤ tVal (tFill i x) p ∧ (iOwn i p = false → tVal (tFill i x) p = tVal x p)
 | .leaf false, x, p => ⟨Nat.le_refl _, fun _ => rfl⟩
 | .leaf true, x, p => ⟨max_val x p, fun h => by cases h⟩
 | .node _ _, .leaf n, p => ⟨Nat.le_refl _, fun _ => rfl⟩
 | .node il ir, .node n l r, p => by
   have hl := fill_val il l p.tl
   have hr := fill_val ir r p.tl
   have m1 := max_val l p.tl
   have m2 := max_val r p.tl
   have ho : iOwn (.node il ir) p = if p 0 then iOwn ir p.tl else iOwn il p.tl := rfl
   rw [ho]
   unfold tFill
   split
   ·next h =>
    subst h
    rw [nTr_val]
    cases h0 : p 0 <;> simp [tVal, h0, iOwn]
    ·omega
    ·exact ⟨hr.1, hr.2⟩
   ·split
    ·next h =>
     subst h
     rw [nTr_val]
     cases h0 : p 0 <;> simp [tVal, h0, iOwn]
     ·exact ⟨hl.1, hl.2⟩
     ·omega
    ·rw [nTr_val]
     cases h0 : p 0 <;> simp [tVal, h0]
     ·exact ⟨hl.1, hl.2⟩
     ·exact ⟨hr.1, hr.2⟩
theorem fill_nm : ∀ (i : ITI) {x : ITT}, TNm x → TNm (tFill i x)
 | .leaf false, x, h => h
 | .leaf true, x, _ => trivial
 | .node _ _, .leaf n, _ => trivial
 | .node il ir, .node n l r, h => by
   have hl := fill_nm il h.2.2.1
   have hr := fill_nm ir h.2.2.2
   unfold tFill
   split
   ·exact nTr_nm trivial hr
   ·split
    ·exact nTr_nm hl trivial
    ·exact nTr_nm hl hr
theorem fill_dep : ∀ (i : ITI) (x : ITT), tDep (tFill i x) ≤ tDep x
 | .leaf false, x => Nat.le_refl _
 | .leaf true, x => Nat.zero_le _
 | .node _ _, .leaf n => Nat.le_refl _
 | .node il ir, .node n l r => by
   have hl := fill_dep il l
   have hr := fill_dep ir r
   have d0 : ∀ m, tDep (.leaf m) = 0 := fun _ => rfl
   unfold tFill
   split
   ·have := nTr_dep n (.leaf (max (tMax l) (tMin (tFill ir r)))) (tFill ir r)
    rw [d0] at this
    simp only [tDep]; omega
   ·split
    ·have := nTr_dep n (tFill il l) (.leaf (max (tMax r) (tMin (tFill il l))))
     rw [d0] at this
     simp only [tDep]; omega
    ·have := nTr_dep n (tFill il l) (tFill ir r)
     simp only [tDep]; omega
theorem fill_same {il ir : ITI} {n : Nat} {l r : ITT} (hx : TNm (.node n l r)) (hi : INm (.node il ir)) (h : tFill (.node il ir) (.node n l r) = .node n l r) :
  tFill il l = l ∧ tFill ir r = r ∧ (il = .leaf true → tN r = 0) ∧ (ir = .leaf true → tN l = 0) := by
 have hl := hx.2.2.1
 have hr := hx.2.2.2
 have fl := fill_nm il hl
 have fr := fill_nm ir hr
 have hv : ∀ p, tVal (tFill (.node il ir) (.node n l r)) p = tVal (.node n l r) p := fun p => by rw [h]
 unfold tFill at hv
 split at hv
 ·next e =>
  have v1 : ∀ p, max (tMax l) (tMin (tFill ir r)) = tVal l p := fun p => by
   have := hv (Pnt.cons false p)
   rw [nTr_val] at this
   simpa [tVal, Pnt.hd_cons, Pnt.tl_cons] using this
  have v2 : ∀ p, tVal (tFill ir r) p = tVal r p := fun p => by
   have := hv (Pnt.cons true p)
   rw [nTr_val] at this
   simpa [tVal, Pnt.hd_cons, Pnt.tl_cons] using this
  have er := nm_eq fr hr v2
  have el := nm_leaf hl (fun p q => by rw [← v1 p, ← v1 q])
  cases l with
  | node => cases el
  | leaf a =>
    have h1 := v1 (fun _ => false)
    rw [er, nm_min hr] at h1
    have h2 : a = 0 ∨ tN r = 0 := hx.1
    change max a (tN r) = a at h1
    refine ⟨by rw [e]; rfl, er, fun _ => by omega, fun e' => absurd ⟨true, e, e'⟩ hi.1⟩
 ·next hne =>
  split at hv
  ·next e =>
   have v1 : ∀ p, tVal (tFill il l) p = tVal l p := fun p => by
    have := hv (Pnt.cons false p)
    rw [nTr_val] at this
    simpa [tVal, Pnt.hd_cons, Pnt.tl_cons] using this
   have v2 : ∀ p, max (tMax r) (tMin (tFill il l)) = tVal r p := fun p => by
    have := hv (Pnt.cons true p)
    rw [nTr_val] at this
    simpa [tVal, Pnt.hd_cons, Pnt.tl_cons] using this
   have el := nm_eq fl hl v1
   have er := nm_leaf hr (fun p q => by rw [← v2 p, ← v2 q])
   cases r with
   | node => cases er
   | leaf a =>
     have h1 := v2 (fun _ => false)
     rw [el, nm_min hl] at h1
     have h2 : tN l = 0 ∨ a = 0 := hx.1
     change max a (tN l) = a at h1
     refine ⟨el, by rw [e]; rfl, fun e' => absurd e' hne, fun _ => by omega⟩
  ·next hne2 =>
   have v1 : ∀ p, tVal (tFill il l) p = tVal l p := fun p => by
    have := hv (Pnt.cons false p)
    rw [nTr_val] at this
    simpa [tVal, Pnt.hd_cons, Pnt.tl_cons] using this
   have v2 : ∀ p, tVal (tFill ir r) p = tVal r p := fun p => by
    have := hv (Pnt.cons true p)
    rw [nTr_val] at this
    simpa [tVal, Pnt.hd_cons, Pnt.tl_cons] using this
   exact ⟨nm_eq fl hl v1, nm_eq fr hr v2, fun e' => absurd e' hne, fun e' => absurd e' hne2⟩
theorem grow_cases {il ir : ITI} {x : ITT} (hi : INm (.node il ir)) :
  (ir ≠ .leaf false ∧ (tGrow (.node il ir) x).1 = .node (tN x) (tL x) (tGrow ir (tR x)).1) ∨ (il ≠ .leaf false ∧ (tGrow (.node il ir) x).1 = .node (tN x) (tGrow il (tL x)).1 (tR x)) := by
 rw [tGrow]
 split
 ·next h => exact .inl ⟨fun h' => hi.1 ⟨false, h, h'⟩, rfl⟩
 ·next hl =>
  split
  ·exact .inr ⟨hl, rfl⟩
  ·next hr =>
   split
   ·exact .inr ⟨hl, rfl⟩
   ·exact .inl ⟨hr, rfl⟩
theorem grow_val : ∀ {i : ITI}, INm i → i ≠ .leaf false → ∀ (x : ITT),
  (∀ p, tVal x p ≤ tVal (tGrow i x).1 p ∧ (iOwn i p = false → tVal (tGrow i x).1 p = tVal x p) ∧ tVal (tGrow i x).1 p ≤ tMax x + 1) ∧
  (∃ p, iOwn i p = true ∧ tVal x p < tVal (tGrow i x).1 p) ∧ tDep (tGrow i x).1 ≤ max (iDep i) (tDep x)
 | .leaf false, _, h, _ => absurd rfl h
 | .leaf true, _, _, x => by
   refine ⟨fun p => ⟨Nat.le_trans (max_val x p) (Nat.le_succ _), fun h => (by cases h), Nat.le_refl _⟩, ⟨fun _ => false, rfl, ?_⟩, Nat.zero_le _⟩
   have := max_val x (fun _ => false)
   show _ < tMax x + 1
   omega
 | .node il ir, hi, _, x => by
   have mx : tN x + tMax (tL x) ≤ tMax x ∧ tN x + tMax (tR x) ≤ tMax x := by cases x <;> simp [tN, tL, tR, tMax]; omega
   have dl := tL_dep x
   have dr := tR_dep x
   have pm := fun p => max_val x p
   rcases grow_cases (x := x) hi with ⟨h, e⟩ | ⟨h, e⟩
   ·obtain ⟨g1, ⟨p, g2, g3⟩, g4⟩ := grow_val hi.2.2 h (tR x)
    rw [e]
    refine ⟨fun q => ?_, ⟨Pnt.cons true p, by simp [iOwn, Pnt.hd_cons, Pnt.tl_cons, g2], ?_⟩, ?_⟩
    ·have h1 := g1 q.tl
     have h2 := parts_val x q
     have h3 := pm q
     have h4 : iOwn (.node il ir) q = if q 0 then iOwn ir q.tl else iOwn il q.tl := rfl
     have h5 : tVal (.node (tN x) (tL x) (tGrow ir (tR x)).1) q = tN x + if q 0 then tVal (tGrow ir (tR x)).1 q.tl else tVal (tL x) q.tl := rfl
     rw [h4, h5]
     cases h0 : q 0 <;> simp [h0] at h2 ⊢
     ·exact ⟨by omega, fun _ => by omega, by omega⟩
     ·exact ⟨by omega, fun ho => by rw [h1.2.1 ho]; omega, by omega⟩
    ·rw [parts_val x]
     simp [tVal, Pnt.hd_cons, Pnt.tl_cons, g3]
    ·simp only [tDep, iDep]; omega
   ·obtain ⟨g1, ⟨p, g2, g3⟩, g4⟩ := grow_val hi.2.1 h (tL x)
    rw [e]
    refine ⟨fun q => ?_, ⟨Pnt.cons false p, by simp [iOwn, Pnt.hd_cons, Pnt.tl_cons, g2], ?_⟩, ?_⟩
    ·have h1 := g1 q.tl
     have h2 := parts_val x q
     have h3 := pm q
     have h4 : iOwn (.node il ir) q = if q 0 then iOwn ir q.tl else iOwn il q.tl := rfl
     have h5 : tVal (.node (tN x) (tGrow il (tL x)).1 (tR x)) q = tN x + if q 0 then tVal (tR x) q.tl else tVal (tGrow il (tL x)).1 q.tl := rfl
     rw [h4, h5]
     cases h0 : q 0 <;> simp [h0] at h2 ⊢
     ·exact ⟨by omega, fun ho => by rw [h1.2.1 ho]; omega, by omega⟩
     ·exact ⟨by omega, fun _ => by omega, by omega⟩
    ·rw [parts_val x]
     simp [tVal, Pnt.hd_cons, Pnt.tl_cons, g3]
    ·simp only [tDep, iDep]; omega
theorem grow_N {il ir : ITI} {x : ITT} (hi : INm (.node il ir)) : tN (tGrow (.node il ir) x).1 = tN x := by
 rcases grow_cases (x := x) hi with ⟨_, e⟩ | ⟨_, e⟩ <;> rw [e] <;> rfl
theorem grow_nz {i : ITI} (hi : INm i) (h : i ≠ .leaf false) (x : ITT) : (tGrow i x).1 ≠ .leaf 0 := fun e => by
 obtain ⟨_, ⟨p, _, h1⟩, _⟩ := grow_val hi h x
 rw [e] at h1
 cases h1
theorem fill_zero (i : ITI) : tFill i (.leaf 0) = .leaf 0 := by
 cases i with
 | leaf b => cases b <;> rfl
 | node => rfl
theorem grow_nm : ∀ {i : ITI}, INm i → i ≠ .leaf false → ∀ {x : ITT}, TNm x → tFill i x = x → TNm (tGrow i x).1
 | .leaf _, _, _, _, _, _ => trivial
 | .node il ir, hi, _, x, hx, hf => by
   have key : tFill il (tL x) = tL x ∧ tFill ir (tR x) = tR x ∧ (il = .leaf true → tN (tR x) = 0) ∧ (ir = .leaf true → tN (tL x) = 0) ∧ (tN (tL x) = 0 ∨ tN (tR x) = 0) := by
    cases x with
    | leaf n => exact ⟨fill_zero il, fill_zero ir, fun _ => rfl, fun _ => rfl, .inl rfl⟩
    | node n l r =>
      obtain ⟨a, b, c, d⟩ := fill_same hx hi hf
      exact ⟨a, b, c, d, hx.1⟩
   obtain ⟨k1, k2, k3, k4, k5⟩ := key
   rcases grow_cases (x := x) hi with ⟨h, e⟩ | ⟨h, e⟩
   ·rw [e]
    refine ⟨?_, fun h' => grow_nz hi.2.2 h _ h'.2, tL_nm hx, grow_nm hi.2.2 h (tR_nm hx) k2⟩
    cases ir with
    | leaf b => cases b with
      | false => exact absurd rfl h
      | true => exact .inl (k4 rfl)
    | node a c => rw [grow_N hi.2.2]; exact k5
   ·rw [e]
    refine ⟨?_, fun h' => grow_nz hi.2.1 h _ h'.1, grow_nm hi.2.1 h (tL_nm hx) k1, tR_nm hx⟩
    cases il with
    | leaf b => cases b with
      | false => exact absurd rfl h
      | true => exact .inr (k3 rfl)
    | node a c => rw [grow_N hi.2.1]; exact k5
theorem grow_cost : ∀ (i : ITI) (x : ITT), (tGrow i x).2 ≤ 1001 * iDep i
 | .leaf _, x => Nat.zero_le _
 | .node il ir, x => by
   have h1 := grow_cost il (tL x)
   have h2 := grow_cost ir (tR x)
   have c : (if tLf x = true then 1000 else 0 : Nat) ≤ 1000 := by split <;> omega
   rw [tGrow]
   simp only [iDep]
   split
   ·simp only; omega
   ·split
    ·simp only; omega
    ·split <;> simp only <;> omega
def tStep (i : ITI) (x : ITT) : ITT := if tFill i x = x then (tGrow i x).1 else tFill i x
theorem step_val {i : ITI} {x : ITT} (hi : INm i) (h0 : i ≠ .leaf false) (hx : TNm x) :
  TNm (tStep i x) ∧ (∀ p, tVal x p ≤ tVal (tStep i x) p ∧ (iOwn i p = false → tVal (tStep i x) p = tVal x p)) ∧
  (∃ p, iOwn i p = true ∧ tVal x p < tVal (tStep i x) p) ∧ tMax (tStep i x) ≤ tMax x + 1 ∧ tDep (tStep i x) ≤ max (iDep i) (tDep x) := by
 unfold tStep
 split
 ·next hf =>
  obtain ⟨g1, g2, g3⟩ := grow_val hi h0 x
  exact ⟨grow_nm hi h0 hx hf, fun p => ⟨(g1 p).1, (g1 p).2.1⟩, g2, max_le fun p => (g1 p).2.2, g3⟩
 ·next hf =>
  have hd := fill_dep i x
  refine ⟨fill_nm i hx, fill_val i x, ?_, Nat.le_trans (max_le (fill_max i x)) (Nat.le_succ _), by omega⟩
  refine Classical.byContradiction (fun hc => hf (nm_eq (fill_nm i hx) hx (fun p => ?_)))
  have h1 := fill_val i x p
  cases ho : iOwn i p with
  | false => exact h1.2 ho
  | true =>
    refine Classical.byContradiction (fun hne => hc ⟨p, ho, ?_⟩)
    omega
end Go.Proofs.YtnihdkfmmbpilaaDoor
namespace Go.Proofs.YtnihdkfmmbpilaaDoor
set_option linter.unusedVariables false
abbrev Stk := ITI × ITT × Nat
structure ItInv (n m : Nat) (f : Nat → Stk) : Prop where
 one : ∀ a, a < m → INm (f a).1 ∧ (f a).1 ≠ .leaf false ∧ iDep (f a).1 ≤ 16 ∧ TNm (f a).2.1 ∧ tDep (f a).2.1 ≤ 16 ∧ tMax (f a).2.1 ≤ n ∧ (f a).2.2 < 2 ^ n
 apart : ∀ a b, a < m → b < m → a ≠ b → ∀ p, (iOwn (f a).1 p && iOwn (f b).1 p) = false
 know : ∃ (V : Nat → Pnt → Nat) (pt : Nat → Pnt), (∀ a, a < m → ∀ e p, (f a).2.2.testBit e = true → V e p ≤ tVal (f a).2.1 p) ∧
  (∀ a, a < m → ∀ p, 0 < tVal (f a).2.1 p → ∃ e, (f a).2.2.testBit e = true ∧ V e p = tVal (f a).2.1 p) ∧
  (∀ e b, b < m → (f b).2.2.testBit e = true → ∀ a, a < m → V e (pt e) ≤ tVal (f a).2.1 (pt e) → (f a).2.2.testBit e = true)
 owner : ∀ a, a < m → ∀ p, iOwn (f a).1 p = true → ∀ b, b < m → tVal (f b).2.1 p ≤ tVal (f a).2.1 p
theorem ItInv.leq {n m : Nat} {f : Nat → Stk} (h : ItInv n m f) {a b : Nat} (ha : a < m) (hb : b < m) :
  (∀ p, tVal (f a).2.1 p ≤ tVal (f b).2.1 p) ↔ ∀ e, (f a).2.2.testBit e = true → (f b).2.2.testBit e = true := by
 obtain ⟨V, pt, k1, k2, k3⟩ := h.know
 constructor
 ·intro h e he
  exact k3 e a ha he b hb (Nat.le_trans (k1 a ha e (pt e) he) (h (pt e)))
 ·intro h p
  by_cases h0 : 0 < tVal (f a).2.1 p
  ·obtain ⟨e, he, hv⟩ := k2 a ha p h0
   rw [← hv]
   exact k1 b hb e p (h e he)
  ·omega
theorem ItInv.seed : ItInv 0 1 (fun _ => (.leaf true, .leaf 0, 0)) := by
 refine ⟨fun a _ => ⟨trivial, by simp, Nat.zero_le _, trivial, Nat.zero_le _, Nat.le_refl _, by decide⟩, fun a b h1 h2 h3 => by omega, ⟨fun _ _ => 0, fun _ _ => false, ?_, ?_, ?_⟩, fun _ _ _ _ _ _ => Nat.le_refl _⟩
 ·intro a _ e p h; simp at h
 ·intro a _ p h; simp [tVal] at h
 ·intro e b _ h; simp at h
theorem bit_two (n e : Nat) : (2 ^ n).testBit e = decide (n = e) := Nat.testBit_two_pow
theorem bit_out {x n e : Nat} (h : x < 2 ^ n) (he : n ≤ e) : x.testBit e = false := Nat.testBit_lt_two_pow (Nat.lt_of_lt_of_le h (Nat.pow_le_pow_right oM he))
theorem lt_mono {x n : Nat} (h : x < 2 ^ n) : x < 2 ^ (n + 1) := by rw [Nat.pow_succ]; omega
def sUp (f : Nat → Stk) (i : Nat) (v : Stk) : Nat → Stk := fun a => if a = i then v else f a
theorem sUp_at (f : Nat → Stk) (i : Nat) (v : Stk) : sUp f i v i = v := if_pos rfl
theorem sUp_ne {f : Nat → Stk} {i a : Nat} {v : Stk} (h : a ≠ i) : sUp f i v a = f a := if_neg h
theorem ItInv.regroup {n m m' : Nat} {f g : Nat → Stk} (h : ItInv n m f) (σ : Nat → Nat) (hσ : ∀ a, a < m' → σ a < m) (h2 : ∀ a, a < m' → (g a).2 = (f (σ a)).2)
  (h1 : ∀ a, a < m' → INm (g a).1 ∧ (g a).1 ≠ .leaf false ∧ iDep (g a).1 ≤ 16) (ho : ∀ a, a < m' → ∀ p, iOwn (g a).1 p = true → iOwn (f (σ a)).1 p = true)
  (hap : ∀ a b, a < m' → b < m' → a ≠ b → ∀ p, (iOwn (g a).1 p && iOwn (g b).1 p) = false) : ItInv n m' g := by
 obtain ⟨V, pt, k1, k2, k3⟩ := h.know
 refine ⟨fun a ha => ?_, hap, ⟨V, pt, ?_, ?_, ?_⟩, ?_⟩
 ·have := h.one _ (hσ a ha)
  obtain ⟨a1, a2, a3⟩ := h1 a ha
  rw [h2 a ha]
  exact ⟨a1, a2, a3, this.2.2.2⟩
 ·intro a ha e p
  rw [h2 a ha]; exact k1 _ (hσ a ha) e p
 ·intro a ha p
  rw [h2 a ha]; exact k2 _ (hσ a ha) p
 ·intro e b hb hbe a ha
  rw [h2 b hb] at hbe
  rw [h2 a ha]
  exact k3 e _ (hσ b hb) hbe _ (hσ a ha)
 ·intro a ha p hp b hb
  rw [h2 a ha, h2 b hb]
  exact h.owner _ (hσ a ha) p (ho a ha p hp) _ (hσ b hb)
theorem ItInv.next {n m : Nat} {f : Nat → Stk} (h : ItInv n m f) : ItInv (n + 1) m f :=
 ⟨fun a ha => by obtain ⟨a1, a2, a3, a4, a5, a6, a7⟩ := h.one a ha; exact ⟨a1, a2, a3, a4, a5, by omega, lt_mono a7⟩, h.apart, h.know, h.owner⟩
theorem ItInv.fork {n m i : Nat} {f : Nat → Stk} (h : ItInv n m f) (hi : i < m) (hd : iDep (iSplit (f i).1).1 ≤ 16) (hd' : iDep (iSplit (f i).1).2 ≤ 16) :
  ItInv n (m + 1) (sUp (sUp f i ((iSplit (f i).1).1, (f i).2)) m ((iSplit (f i).1).2, (f i).2)) := by
 obtain ⟨o1, o2, _⟩ := h.one i hi
 obtain ⟨⟨s1, s2⟩, s3, s4⟩ := split_nz o1 o2
 have so := split_own (f i).1
 have e1 : ∀ a, a < m + 1 → sUp (sUp f i ((iSplit (f i).1).1, (f i).2)) m ((iSplit (f i).1).2, (f i).2) a = if a = m then ((iSplit (f i).1).2, (f i).2) else if a = i then ((iSplit (f i).1).1, (f i).2) else f a := fun _ _ => rfl
 refine h.regroup (fun a => if a = m then i else a) (fun a ha => ?_) (fun a ha => ?_) (fun a ha => ?_) (fun a ha p => ?_) (fun a b ha hb hab p => ?_)
 ·split <;> omega
 ·rw [e1 a ha]
  split
  ·rfl
  ·split
   ·next h => rw [h]
   ·rfl
 ·rw [e1 a ha]
  split
  ·exact ⟨s3, s4, hd'⟩
  ·split
   ·exact ⟨s1, s2, hd⟩
   ·obtain ⟨a1, a2, a3, _⟩ := h.one a oM
    exact ⟨a1, a2, a3⟩
 ·rw [e1 a ha]
  have := (so p).1
  split
  ·intro h; rw [this, h, Bool.or_true]
  ·split
   ·next he => intro h; rw [he, this, h, Bool.true_or]
   ·exact id
 ·rw [e1 a ha, e1 b hb]
  have w1 := (so p).1
  have w2 := (so p).2
  have w3 : ∀ c, c < m → c ≠ i → (iOwn (f i).1 p && iOwn (f c).1 p) = false := fun c hc hne => h.apart i c hi hc (Ne.symm hne) p
  rw [w1] at w3
  by_cases a1 : a = m
  ·rw [if_pos a1, if_neg oM]
   by_cases b1 : b = i
   ·rw [if_pos b1]; rw [Bool.and_comm]; exact w2
   ·rw [if_neg b1]
    have := w3 b oM b1
    revert this
    cases iOwn (iSplit (f i).1).1 p <;> cases iOwn (iSplit (f i).1).2 p <;> simp
  ·rw [if_neg a1]
   by_cases a2 : a = i
   ·rw [if_pos a2]
    by_cases b1 : b = m
    ·rw [if_pos b1]; exact w2
    ·rw [if_neg b1, if_neg oM]
     have := w3 b oM oM
     revert this
     cases iOwn (iSplit (f i).1).1 p <;> cases iOwn (iSplit (f i).1).2 p <;> simp
   ·rw [if_neg a2]
    by_cases b1 : b = m
    ·rw [if_pos b1]
     have := w3 a oM a2
     revert this
     cases iOwn (iSplit (f i).1).1 p <;> cases iOwn (iSplit (f i).1).2 p <;> cases iOwn (f a).1 p <;> simp
    ·rw [if_neg b1]
     by_cases b2 : b = i
     ·rw [if_pos b2]
      have := w3 a oM a2
      revert this
      cases iOwn (iSplit (f i).1).1 p <;> cases iOwn (iSplit (f i).1).2 p <;> cases iOwn (f a).1 p <;> simp
     ·rw [if_neg b2]
      exact h.apart a b oM oM hab p
theorem ItInv.step {n m i : Nat} {f : Nat → Stk} (h : ItInv n m f) (hi : i < m) : ItInv (n + 1) m (sUp f i ((f i).1, tStep (f i).1 (f i).2.1, (f i).2.2 ||| 2 ^ n)) := by
 obtain ⟨V, pt, k1, k2, k3⟩ := h.know
 obtain ⟨o1, o2, o3, o4, o5, o6, o7⟩ := h.one i hi
 obtain ⟨s1, s2, ⟨q, s3, s4⟩, s5, s6⟩ := step_val o1 o2 o4
 obtain ⟨X, hX⟩ : ∃ X, tStep (f i).1 (f i).2.1 = X := ⟨_, rfl⟩
 rw [hX] at s1 s2 s4 s5 s6 ⊢
 have at_ : sUp f i ((f i).1, X, (f i).2.2 ||| 2 ^ n) i = ((f i).1, X, (f i).2.2 ||| 2 ^ n) := sUp_at _ _ _
 have ne_ : ∀ a, a ≠ i → sUp f i ((f i).1, X, (f i).2.2 ||| 2 ^ n) a = f a := fun a ha => sUp_ne ha
 have idn : ∀ a, (sUp f i ((f i).1, X, (f i).2.2 ||| 2 ^ n) a).1 = (f a).1 := fun a => by
  by_cases ha : a = i
  ·rw [ha, at_]
  ·rw [ne_ a ha]
 have hle : ∀ a p, tVal (f a).2.1 p ≤ tVal (sUp f i ((f i).1, X, (f i).2.2 ||| 2 ^ n) a).2.1 p := fun a p => by
  by_cases ha : a = i
  ·rw [ha, at_]; exact (s2 p).1
  ·rw [ne_ a ha]; exact Nat.le_refl _
 have hn : ∀ a, a < m → (f a).2.2.testBit n = false := fun a ha => bit_out (h.one a ha).2.2.2.2.2.2 (Nat.le_refl _)
 have bits : ∀ e, ((f i).2.2 ||| 2 ^ n).testBit e = ((f i).2.2.testBit e || decide (n = e)) := fun e => by rw [Nat.testBit_or, bit_two]
 refine ⟨fun a ha => ?_, fun a b ha hb hab p => ?_, ⟨fun e p => if e = n then tVal X p else V e p, fun e => if e = n then q else pt e, ?_, ?_, ?_⟩, ?_⟩
 ·by_cases hai : a = i
  ·rw [hai, at_]
   refine ⟨o1, o2, o3, s1, by simp only; omega, by simp only; omega, ?_⟩
   exact Nat.or_lt_two_pow (lt_mono o7) (by rw [Nat.pow_succ]; have := Nat.two_pow_pos n; omega)
  ·rw [ne_ a hai]
   obtain ⟨a1, a2, a3, a4, a5, a6, a7⟩ := h.one a ha
   exact ⟨a1, a2, a3, a4, a5, by omega, lt_mono a7⟩
 ·rw [idn, idn]
  exact h.apart a b ha hb hab p
 ·intro a ha e p he
  simp only
  by_cases hai : a = i
  ·rw [hai, at_] at he ⊢
   simp only at he ⊢
   rw [bits] at he
   split
   ·exact Nat.le_refl _
   ·next hne =>
    rw [decide_eq_false (Ne.symm hne), Bool.or_false] at he
    exact Nat.le_trans (k1 i hi e p he) (s2 p).1
  ·rw [ne_ a hai] at he ⊢
   rw [if_neg (fun hen => by rw [hen, hn a ha] at he; cases he)]
   exact k1 a ha e p he
 ·intro a ha p hp
  by_cases hai : a = i
  ·rw [hai, at_] at hp ⊢
   exact ⟨n, by simp only; rw [bits]; simp, by simp⟩
  ·rw [ne_ a hai] at hp ⊢
   obtain ⟨e, h1, h2⟩ := k2 a ha p hp
   refine ⟨e, h1, ?_⟩
   simp only
   rw [if_neg (fun hen => by rw [hen, hn a ha] at h1; cases h1)]
   exact h2
 ·intro e b hb hbe a ha hv
  simp only at hv
  by_cases hen : e = n
  ·subst hen
   rw [if_pos rfl, if_pos rfl] at hv
   by_cases hai : a = i
   ·rw [hai, at_]; simp only; rw [bits]; simp
   ·rw [ne_ a hai] at hv
    have := h.owner i hi q s3 a ha
    omega
  ·rw [if_neg hen, if_neg hen] at hv
   have hold : ∃ c, c < m ∧ (f c).2.2.testBit e = true := by
    by_cases hbi : b = i
    ·rw [hbi, at_] at hbe
     simp only at hbe
     rw [bits, decide_eq_false (Ne.symm hen), Bool.or_false] at hbe
     exact ⟨i, hi, hbe⟩
    ·rw [ne_ b hbi] at hbe
     exact ⟨b, hb, hbe⟩
   obtain ⟨c, hc, hce⟩ := hold
   by_cases hai : a = i
   ·rw [hai, at_] at hv ⊢
    simp only at hv ⊢
    rw [bits]
    cases ho : iOwn (f i).1 (pt e) with
    | false =>
      rw [(s2 (pt e)).2 ho] at hv
      rw [k3 e c hc hce i hi hv, Bool.true_or]
    | true =>
      have h1 := k1 c hc e (pt e) hce
      have h2 := h.owner i hi (pt e) ho c hc
      rw [k3 e c hc hce i hi oM, Bool.true_or]
   ·rw [ne_ a hai] at hv ⊢
    exact k3 e c hc hce a ha hv
 ·intro a ha p hp b hb
  rw [idn] at hp
  have h1 := h.owner a ha p hp b hb
  by_cases hbi : b = i
  ·rw [hbi, at_]
   by_cases hai : a = i
   ·rw [hai, at_]; exact Nat.le_refl _
   ·rw [ne_ a hai]
    have h2 := h.apart a i ha hi hai p
    rw [hp, Bool.true_and] at h2
    simp only
    rw [(s2 p).2 h2, ← hbi]
    exact h1
  ·rw [ne_ b hbi]
   exact Nat.le_trans h1 (hle a p)
theorem ItInv.join {n m i k : Nat} {f : Nat → Stk} (h : ItInv n (m + 1) f) (hi : i < m + 1) (hk : k < m + 1) (hik : i ≠ k) {I : ITI} {X : ITT}
  (hI : (INm I ∧ I ≠ .leaf false ∧ iDep I ≤ 16) ∧ ∀ p, iOwn I p = (iOwn (f i).1 p || iOwn (f k).1 p)) (hX : TNm X ∧ tDep X ≤ 16 ∧ ∀ p, tVal X p = max (tVal (f i).2.1 p) (tVal (f k).2.1 p)) :
  ItInv n m (fun a => sUp f i (I, X, (f i).2.2 ||| (f k).2.2) (if a = k then m else a)) := by
 obtain ⟨V, pt, k1, k2, k3⟩ := h.know
 obtain ⟨⟨i1, i2, i3⟩, i4⟩ := hI
 obtain ⟨x1, x2, x3⟩ := hX
 have oi := h.one i hi
 have ok := h.one k hk
 have mx : tMax X ≤ n := max_le fun p => by
  rw [x3 p]
  have := max_val (f i).2.1 p
  have := max_val (f k).2.1 p
  have := oi.2.2.2.2.2.1
  have := ok.2.2.2.2.2.1
  omega
 have hmm : ∀ a, a < m → (if a = k then m else a) < m + 1 ∧ (if a = k then m else a) ≠ k := fun a ha => by split <;> omega
 have hinj : ∀ a b, a < m → b < m → a ≠ b → (if a = k then m else a) ≠ (if b = k then m else b) := fun a b ha hb hab => by
  split <;> split <;> omega
 have bits : ∀ e, ((f i).2.2 ||| (f k).2.2).testBit e = ((f i).2.2.testBit e || (f k).2.2.testBit e) := fun e => Nat.testBit_or _ _ _
 have key : ∀ c, c < m + 1 → c ≠ k → (INm (sUp f i (I, X, (f i).2.2 ||| (f k).2.2) c).1 ∧ (sUp f i (I, X, (f i).2.2 ||| (f k).2.2) c).1 ≠ .leaf false ∧ iDep (sUp f i (I, X, (f i).2.2 ||| (f k).2.2) c).1 ≤ 16 ∧ TNm (sUp f i (I, X, (f i).2.2 ||| (f k).2.2) c).2.1 ∧ tDep (sUp f i (I, X, (f i).2.2 ||| (f k).2.2) c).2.1 ≤ 16 ∧ tMax (sUp f i (I, X, (f i).2.2 ||| (f k).2.2) c).2.1 ≤ n ∧ (sUp f i (I, X, (f i).2.2 ||| (f k).2.2) c).2.2 < 2 ^ n) := fun c hc hck => by
  by_cases h0 : c = i
  ·rw [h0, sUp_at]
   exact ⟨i1, i2, i3, x1, x2, mx, Nat.or_lt_two_pow oi.2.2.2.2.2.2 ok.2.2.2.2.2.2⟩
  ·rw [sUp_ne h0]; exact h.one c hc
 refine ⟨fun a ha => key _ (hmm a ha).1 (hmm a ha).2, fun a b ha hb hab p => ?_, ⟨V, pt, fun a ha e p => ?_, fun a ha p => ?_, fun e b hb hbe a ha => ?_⟩, fun a ha p hp b hb => ?_⟩
 ·have ⟨a1, a2⟩ := hmm a ha
  have ⟨b1, b2⟩ := hmm b hb
  have ne := hinj a b ha hb hab
  revert a1 a2 b1 b2 ne
  try simp only
  generalize (if a = k then m else a) = c
  generalize (if b = k then m else b) = d
  intro a1 a2 b1 b2 ne
  by_cases hc : c = i
  ·rw [hc, sUp_at, sUp_ne oM]
   have w1 := h.apart i d hi b1 oM p
   have w2 := h.apart k d hk b1 (Ne.symm b2) p
   simp only
   rw [i4 p]
   revert w1 w2
   cases iOwn (f i).1 p <;> cases iOwn (f k).1 p <;> cases iOwn (f d).1 p <;> simp
  ·rw [sUp_ne hc]
   by_cases hd : d = i
   ·rw [hd, sUp_at]
    have w1 := h.apart i c hi a1 oM p
    have w2 := h.apart k c hk a1 (Ne.symm a2) p
    simp only
    rw [i4 p]
    revert w1 w2
    cases iOwn (f i).1 p <;> cases iOwn (f k).1 p <;> cases iOwn (f c).1 p <;> simp
   ·rw [sUp_ne hd]; exact h.apart c d a1 b1 ne p
 ·have ⟨a1, a2⟩ := hmm a ha
  revert a1 a2
  try simp only
  generalize (if a = k then m else a) = c
  intro a1 a2
  by_cases hc : c = i
  ·rw [hc, sUp_at]
   simp only
   rw [bits, x3 p, Bool.or_eq_true]
   rintro (he | he)
   ·have := k1 i hi e p he; omega
   ·have := k1 k hk e p he; omega
  ·rw [sUp_ne hc]; exact k1 c a1 e p
 ·have ⟨a1, a2⟩ := hmm a ha
  revert a1 a2
  try simp only
  generalize (if a = k then m else a) = c
  intro a1 a2
  by_cases hc : c = i
  ·rw [hc, sUp_at]
   simp only
   rw [x3 p]
   intro h0
   by_cases hge : tVal (f k).2.1 p ≤ tVal (f i).2.1 p
   ·obtain ⟨e, h1, h2⟩ := k2 i hi p oM
    exact ⟨e, by rw [bits, h1, Bool.true_or], by omega⟩
   ·obtain ⟨e, h1, h2⟩ := k2 k hk p oM
    exact ⟨e, by rw [bits, h1, Bool.or_true], by omega⟩
  ·rw [sUp_ne hc]; exact k2 c a1 p
 ·have ⟨a1, a2⟩ := hmm a ha
  have ⟨b1, b2⟩ := hmm b hb
  revert a1 a2 b1 b2 hbe
  try simp only
  generalize (if a = k then m else a) = c
  generalize (if b = k then m else b) = d
  intro hbe a1 a2 b1 b2
  have hold : ∃ c, c < m + 1 ∧ (f c).2.2.testBit e = true := by
   by_cases hd : d = i
   ·rw [hd, sUp_at] at hbe
    simp only at hbe
    rw [bits, Bool.or_eq_true] at hbe
    exact hbe.elim (fun h => ⟨i, hi, h⟩) (fun h => ⟨k, hk, h⟩)
   ·rw [sUp_ne hd] at hbe
    exact ⟨d, b1, hbe⟩
  obtain ⟨g, hg, hge⟩ := hold
  by_cases hc : c = i
  ·rw [hc, sUp_at]
   simp only
   rw [bits, x3]
   intro hv
   by_cases hge' : V e (pt e) ≤ tVal (f i).2.1 (pt e)
   ·rw [k3 e g hg hge i hi hge', Bool.true_or]
   ·rw [k3 e g hg hge k hk oM, Bool.or_true]
  ·rw [sUp_ne hc]; exact k3 e g hg hge c a1
 ·have ⟨a1, a2⟩ := hmm a ha
  have ⟨b1, b2⟩ := hmm b hb
  revert a1 a2 b1 b2 hp
  try simp only
  generalize (if a = k then m else a) = c
  generalize (if b = k then m else b) = d
  intro hp a1 a2 b1 b2
  have own' : ∀ y, y < m + 1 → tVal (f y).2.1 p ≤ tVal (sUp f i (I, X, (f i).2.2 ||| (f k).2.2) c).2.1 p := fun y hy => by
   by_cases hc : c = i
   ·rw [hc, sUp_at] at hp ⊢
    simp only at hp ⊢
    rw [i4 p, Bool.or_eq_true] at hp
    rw [x3 p]
    rcases hp with hp | hp
    ·have := h.owner i hi p hp y hy; omega
    ·have := h.owner k hk p hp y hy; omega
   ·rw [sUp_ne hc] at hp ⊢
    exact h.owner c a1 p hp y hy
  by_cases hd : d = i
  ·rw [hd, sUp_at]
   simp only
   rw [x3 p]
   have := own' i hi
   have := own' k hk
   omega
  ·rw [sUp_ne hd]; exact own' d b1
end Go.Proofs.YtnihdkfmmbpilaaDoor
