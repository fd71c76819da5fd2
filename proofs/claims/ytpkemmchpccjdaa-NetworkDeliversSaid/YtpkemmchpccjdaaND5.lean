/- Texts of one proof, laid together: NA, NP, NQ. No condition. -/
import Derived.Test.YtpkemmchpccjdaaND4
import Derived.Test.YtpkemmchpccjdaaND1
namespace Go.Proofs.Ytpkemmchpccjdaa
set_option linter.unusedVariables false
set_option linter.unusedSimpArgs false
structure Ms where
 fr : Int
 to : Int
 nu : Int
 body : List Int
structure Nw where
 now : Int
 fifo : Bool
 l : List Ms
 tm : List Int
 fates : List (Int × Int)
theorem Nw.eq_iff {a c : Nw} : a = c ↔ a.now = c.now ∧ a.fifo = c.fifo ∧ a.l = c.l ∧ a.tm = c.tm ∧ a.fates = c.fates := by cases a; cases c; simp
def eMs (m : Ms) : List IV := [.int .i64 m.fr, .int .i64 m.to, .int .i64 m.nu, .isl 1 (m.body.map eI)]
def eFt (f : Int × Int) : List IV := [.int .i64 f.1, .int .i64 f.2]
def eNw (n : Nw) : List IV := [.int .i64 n.now, .bool n.fifo, .isl 4 (n.l.map eMs), .isl 1 (n.tm.map eI), .isl 2 (n.fates.map eFt)]
def dfMs : Ms := ⟨0, 0, 0, []⟩
def nw0 : Nw := ⟨0, false, [], [], []⟩
def ptB (p : Int) : Bool := decide (0 ≤ p ∧ p ≤ 7)
def vlB (n : Int) : Bool := decide (-1073741824 ≤ n ∧ n ≤ 1073741824)
def msB (m : Ms) : Bool := ptB m.fr && (ptB m.to && (decide (m.fr ≠ m.to) && (decide (0 ≤ m.nu ∧ m.nu ≤ 199) && (decide (m.body.length ≤ 20) && m.body.all vlB))))
def ftB (f : Int × Int) : Bool := decide ((0 ≤ f.1 ∧ f.1 ≤ 3) ∧ 0 ≤ f.2 ∧ f.2 ≤ 1000000)
def ftsB (l : List (Int × Int)) : Bool := l.all ftB
def mtB (n : Nw) (i : Nat) : Bool := msB (n.l.getD i dfMs) && decide (0 ≤ n.tm.getD i 0 ∧ n.tm.getD i 0 ≤ 1099512627776 ∧ (0 < i → n.tm.getD (i - 1) 0 ≤ n.tm.getD i 0))
def nwB (n : Nw) : Bool := decide (0 ≤ n.now ∧ n.now ≤ 1099511627776) && (decide (n.l.length = n.tm.length) && (decide (n.l.length ≤ 1000) && (decide (n.fates.length ≤ 1000) && (ftsB n.fates && (List.range n.l.length).all (mtB n)))))
structure NwS (n : Nw) : Prop where
 l : n.l.length ≤ 1000000
 tm : n.tm.length ≤ 1000000
 fates : n.fates.length ≤ 1000000
 body : ∀ m ∈ n.l, m.body.length ≤ 1000000
structure NwV (n : Nw) : Prop where
 now : 0 ≤ n.now ∧ n.now ≤ 1099511627776
 len : n.l.length = n.tm.length
 l : n.l.length ≤ 1000
 fl : n.fates.length ≤ 1000
 fates : ∀ f ∈ n.fates, ftB f = true
 ms : ∀ m ∈ n.l, msB m = true
 tm : ∀ t ∈ n.tm, 0 ≤ t ∧ t ≤ 1099512627776
 mono : ∀ i, i + 1 < n.tm.length → n.tm.getD i 0 ≤ n.tm.getD (i + 1) 0
theorem msB_body {m : Ms} (h : msB m = true) : m.body.length ≤ 20 := by
 unfold msB at h
 simp only [Bool.and_eq_true, decide_eq_true_eq] at h
 exact h.2.2.2.2.1
theorem nwB_iff {n : Nw} : nwB n = true ↔ NwV n := by
 unfold nwB ftsB
 simp only [Bool.and_eq_true, decide_eq_true_eq, List.all_eq_true]
 constructor
 ·rintro ⟨h1, h2, h3, h4, h5, h6⟩
  have key : ∀ i, i < n.l.length → _ := fun i hi => h6 i (List.mem_range.2 hi)
  unfold mtB at key
  simp only [Bool.and_eq_true, decide_eq_true_eq] at key
  refine ⟨h1, h2, h3, h4, h5, fun m hm => ?_, fun t ht => ?_, fun i hi => ?_⟩
  ·obtain ⟨i, hi, rfl⟩ := List.getElem_of_mem hm
   have := (key i hi).1
   rwa [getD_at hi] at this
  ·obtain ⟨i, hi, rfl⟩ := List.getElem_of_mem ht
   have := (key i oM).2
   rw [getD_at hi] at this
   exact ⟨this.1, this.2.1⟩
  ·exact (key (i + 1) oM).2.2.2 oM
 ·intro h
  refine ⟨h.now, h.len, h.l, h.fl, h.fates, fun i hi => ?_⟩
  have hi := List.mem_range.1 hi
  unfold mtB
  simp only [Bool.and_eq_true, decide_eq_true_eq]
  have hl := h.len
  rw [getD_at hi]
  refine ⟨h.ms _ (List.getElem_mem _), ?_⟩
  have h1 := h.tm n.tm[i] (List.getElem_mem oM)
  rw [← getD_at (d := 0)] at h1
  refine ⟨h1.1, h1.2, fun h0 => ?_⟩
  have := h.mono (i - 1) oM
  rwa [show i - 1 + 1 = i by omega] at this
theorem NwV.s {n : Nw} (h : NwV n) : NwS n := ⟨by have := h.l; omega, by have := h.l; have := h.len; omega, by have := h.fl; omega, fun m hm => by have := msB_body (h.ms m hm); omega⟩
theorem NwV.sorted {n : Nw} (h : NwV n) : ∀ i j, i ≤ j → j < n.tm.length → n.tm.getD i 0 ≤ n.tm.getD j 0 := by
 intro i j hij
 induction j with
 | zero => intro _; rw [show i = 0 by omega]; exact Int.le_refl _
 | succ j ih =>
   intro hj
   by_cases he : i = j + 1
   ·rw [he]; exact Int.le_refl _
   ·exact Int.le_trans (ih oM oM) (h.mono j hj)
def leN (l : List Int) (a : Int) : Nat := (l.takeWhile fun t => decide (t ≤ a)).length
theorem leN_le {l : List Int} {a : Int} : leN l a ≤ l.length := by
 unfold leN
 exact (List.takeWhile_sublist _).length_le
theorem leN_eq {l : List Int} {a : Int} {i : Nat} (hi : i ≤ l.length) (h1 : ∀ j, j < i → l.getD j 0 ≤ a) (h2 : i < l.length → a < l.getD i 0) : leN l a = i := by
 induction l generalizing i with
 | nil => simp at hi; subst hi; rfl
 | cons x l ih =>
   unfold leN
   rw [List.takeWhile_cons]
   cases i with
   | zero =>
     have := h2 (by simp)
     simp at this
     rw [if_neg (by simp; omega)]
     rfl
   | succ i =>
     have h0 := h1 0 oM
     simp at h0
     rw [if_pos (by simpa using h0), List.length_cons]
     congr 1
     exact ih (by simpa using hi) (fun j hj => by have := h1 (j + 1) oM; simpa using this) (fun h => by have := h2 (by simp; omega); simpa using this)
def arAt (n : Nw) (m : Ms) : Nat → Int
 | 0 => n.now + (n.fates.headD (1, 0)).2
 | i + 1 => if n.fifo = true ∧ (n.l.getD i dfMs).fr = m.fr ∧ (n.l.getD i dfMs).to = m.to then max (arAt n m i) (n.tm.getD i 0) else arAt n m i
def timN (n : Nw) (m : Ms) : Int := arAt n m n.l.length
def copN (n : Nw) : Int := (n.fates.headD (1, 0)).1
def insN (n : Nw) (m : Ms) (a : Int) (c : Nat) : Nw := ⟨n.now, n.fifo, n.l.take (leN n.tm a) ++ List.replicate c m ++ n.l.drop (leN n.tm a), n.tm.take (leN n.tm a) ++ List.replicate c a ++ n.tm.drop (leN n.tm a), n.fates.drop 1⟩
def sdE (n : Nw) (m : Ms) : Int := if timN n m > 1099512627776 then 9 else if (n.l.length : Int) + copN n > 1000 then 5 else 0
def sdR (n : Nw) (m : Ms) : Nw := if sdE n m = 0 then insN n m (timN n m) (copN n).toNat else nw0
theorem arAt_mono {n : Nw} {m : Ms} : ∀ i, arAt n m 0 ≤ arAt n m i
 | 0 => Int.le_refl _
 | i + 1 => by
   have := arAt_mono (n := n) (m := m) i
   simp only [arAt] at this ⊢
   split <;> omega
theorem head_ok {n : Nw} (h : NwV n) : (0 ≤ (n.fates.headD (1, 0)).1 ∧ (n.fates.headD (1, 0)).1 ≤ 3) ∧ 0 ≤ (n.fates.headD (1, 0)).2 ∧ (n.fates.headD (1, 0)).2 ≤ 1000000 := by
 cases hf : n.fates with
 | nil => simp
 | cons f r =>
   have := h.fates f (by rw [hf]; simp)
   unfold ftB at this
   simpa using this
theorem arAt_in {n : Nw} (h : NwV n) {m : Ms} : ∀ i, i ≤ n.l.length → n.now ≤ arAt n m i ∧ arAt n m i ≤ 1099512627776
 | 0, _ => by have := head_ok h; have := h.now; simp only [arAt]; omega
 | i + 1, hi => by
   have ih := arAt_in h (m := m) i oM
   have hl := h.len
   have := h.tm (n.tm.getD i 0) (by rw [getD_at oM]; exact List.getElem_mem _)
   simp only [arAt]
   split <;> omega
def arB (n : Nw) (to : Int) (i : Nat) : Bool := decide ((n.l.getD i dfMs).to = to) && decide (n.tm.getD i 0 ≤ n.now)
def fiR (n : Nw) (to : Int) : Int := wIdx (arB n to) n.l.length
def woN (n : Nw) (k : Nat) : Nw := { n with l := n.l.take k ++ n.l.drop (k + 1), tm := n.tm.take k ++ n.tm.drop (k + 1) }
def wtN (n : Nw) (to : Int) : Nat → Nat
 | 0 => 0
 | i + 1 => if arB n to i = true then wtN n to i + 1 else wtN n to i
theorem wtN_le {n : Nw} {to : Int} : ∀ i, wtN n to i ≤ i
 | 0 => Nat.le_refl _
 | i + 1 => by have := wtN_le (n := n) (to := to) i; simp only [wtN]; split <;> omega
end Go.Proofs.Ytpkemmchpccjdaa
namespace Go.Proofs.Ytpkemmchpccjdaa
set_option linter.unusedVariables false
theorem ins_getD {α : Type} {l : List α} {x d : α} {p c : Nat} (hp : p ≤ l.length) (i : Nat) :
  (l.take p ++ List.replicate c x ++ l.drop p).getD i d = if i < p then l.getD i d else if i < p + c then x else l.getD (i - c) d := by
 have h1 : (l.take p).length = p := by rw [List.length_take]; omega
 have h2 : (List.replicate c x).length = c := List.length_replicate
 simp only [List.getD_eq_getElem?_getD]
 by_cases ha : i < p
 ·rw [if_pos ha, List.getElem?_append_left (by rw [List.length_append]; omega), List.getElem?_append_left oM, List.getElem?_take, if_pos ha]
 ·rw [if_neg ha]
  by_cases hb : i < p + c
  ·rw [if_pos hb, List.getElem?_append_left (by rw [List.length_append]; omega), List.getElem?_append_right oM, h1, List.getElem?_replicate, if_pos oM]; rfl
  ·rw [if_neg hb, List.getElem?_append_right (by rw [List.length_append]; omega), List.length_append, h1, h2, List.getElem?_drop]
   congr 2; omega
theorem ins_length {α : Type} {l : List α} {x : α} {p c : Nat} (hp : p ≤ l.length) : (l.take p ++ List.replicate c x ++ l.drop p).length = l.length + c := by
 simp only [List.length_append, List.length_take, List.length_replicate, List.length_drop]; omega
theorem leN_spec {l : List Int} {a : Int} : (∀ j, j < leN l a → l.getD j 0 ≤ a) ∧ (leN l a < l.length → a < l.getD (leN l a) 0) := by
 unfold leN
 induction l with
 | nil => simp
 | cons x l ih =>
   by_cases hx : x ≤ a
   ·rw [List.takeWhile_cons_of_pos (by simpa using hx)]
    refine ⟨fun j hj => ?_, fun h => ?_⟩
    ·cases j with
     | zero => exact hx
     | succ j => simp only [List.getD_cons_succ]; exact ih.1 j (by simpa using hj)
    ·simp only [List.length_cons, List.getD_cons_succ]
     exact ih.2 (by simpa using h)
   ·rw [List.takeWhile_cons_of_neg (by simpa using hx)]
    refine ⟨fun j hj => by simp at hj, fun _ => by simp; omega⟩
theorem NwV.ins {n : Nw} (h : NwV n) {m : Ms} (hm : msB m = true) {a : Int} (ha : 0 ≤ a ∧ a ≤ 1099512627776) {c : Nat} (hc : n.l.length + c ≤ 1000) : NwV (insN n m a c) := by
 have hp := leN_le (l := n.tm) (a := a)
 have hp2 : leN n.tm a ≤ n.l.length := by rw [h.len]; exact hp
 have hs := leN_spec (l := n.tm) (a := a)
 refine ⟨h.now, ?_, ?_, ?_, ?_, ?_, ?_, ?_⟩
 ·show (n.l.take _ ++ _ ++ n.l.drop _).length = (n.tm.take _ ++ _ ++ n.tm.drop _).length
  rw [ins_length hp2, ins_length hp, h.len]
 ·show (n.l.take _ ++ _ ++ n.l.drop _).length ≤ 1000
  rw [ins_length hp2]; omega
 ·show (n.fates.drop 1).length ≤ 1000
  have := h.fl; rw [List.length_drop]; omega
 ·intro f hf
  exact h.fates f (List.mem_of_mem_drop hf)
 ·intro x hx
  change x ∈ n.l.take _ ++ _ ++ n.l.drop _ at hx
  rw [List.mem_append, List.mem_append] at hx
  rcases hx with (hx | hx) | hx
  ·exact h.ms x (List.mem_of_mem_take hx)
  ·rw [(List.mem_replicate.1 hx).2]; exact hm
  ·exact h.ms x (List.mem_of_mem_drop hx)
 ·intro x hx
  change x ∈ n.tm.take _ ++ _ ++ n.tm.drop _ at hx
  rw [List.mem_append, List.mem_append] at hx
  rcases hx with (hx | hx) | hx
  ·exact h.tm x (List.mem_of_mem_take hx)
  ·rw [(List.mem_replicate.1 hx).2]; exact ha
  ·exact h.tm x (List.mem_of_mem_drop hx)
 ·intro i hi
  change i + 1 < (n.tm.take _ ++ _ ++ n.tm.drop _).length at hi
  rw [ins_length hp] at hi
  show (n.tm.take _ ++ _ ++ n.tm.drop _).getD i 0 ≤ (n.tm.take _ ++ _ ++ n.tm.drop _).getD (i + 1) 0
  rw [ins_getD hp, ins_getD hp]
  have key := h.mono
  have so := h.sorted
  by_cases h1 : i + 1 < leN n.tm a
  ·rw [if_pos h1, if_pos oM]; exact key i oM
  ·rw [if_neg h1]
   by_cases h2 : i < leN n.tm a
   ·rw [if_pos h2]
    have e1 := hs.1 i h2
    by_cases h3 : i + 1 < leN n.tm a + c
    ·rw [if_pos h3]; exact e1
    ·rw [if_neg h3]
     have : c = 0 := by omega
     subst this
     have : i + 1 < n.tm.length := by omega
     exact key i this
   ·rw [if_neg h2]
    by_cases h3 : i + 1 < leN n.tm a + c
    ·rw [if_pos h3, if_pos oM]; exact Int.le_refl _
    ·rw [if_neg h3]
     by_cases h4 : i < leN n.tm a + c
     ·rw [if_pos h4]
      have e : i + 1 - c = leN n.tm a := by omega
      rw [e]
      have := hs.2 oM
      omega
     ·rw [if_neg h4]
      have e : i + 1 - c = i - c + 1 := by omega
      rw [e]
      exact key (i - c) oM
theorem cut_getD {α : Type} {l : List α} {d : α} {k : Nat} (i : Nat) : (l.take k ++ l.drop (k + 1)).getD i d = if k < l.length ∧ k ≤ i then l.getD (i + 1) d else l.getD i d := by
 simp only [List.getD_eq_getElem?_getD]
 by_cases hk : k < l.length
 ·have h1 : (l.take k).length = k := by rw [List.length_take]; omega
  by_cases hi : k ≤ i
  ·rw [if_pos ⟨hk, hi⟩, List.getElem?_append_right oM, h1, List.getElem?_drop]
   congr 2; omega
  ·rw [if_neg (fun h => hi h.2), List.getElem?_append_left oM, List.getElem?_take, if_pos oM]
 ·rw [if_neg (fun h => hk h.1), List.take_of_length_le oM, List.drop_eq_nil_of_le oM, List.append_nil]
theorem cut_length {α : Type} {l : List α} {k : Nat} (hk : k < l.length) : (l.take k ++ l.drop (k + 1)).length = l.length - 1 := by
 simp only [List.length_append, List.length_take, List.length_drop]; omega
theorem NwV.out {n : Nw} (h : NwV n) {k : Nat} (hk : k < n.l.length) : NwV (woN n k) := by
 have hk2 : k < n.tm.length := by rw [← h.len]; exact hk
 refine ⟨h.now, ?_, ?_, h.fl, h.fates, ?_, ?_, ?_⟩
 ·show (n.l.take k ++ n.l.drop (k + 1)).length = (n.tm.take k ++ n.tm.drop (k + 1)).length
  rw [cut_length hk, cut_length hk2, h.len]
 ·show (n.l.take k ++ n.l.drop (k + 1)).length ≤ 1000
  have := h.l; rw [cut_length hk]; omega
 ·intro x hx
  rcases List.mem_append.1 (show x ∈ n.l.take k ++ n.l.drop (k + 1) from hx) with hx | hx
  ·exact h.ms x (List.mem_of_mem_take hx)
  ·exact h.ms x (List.mem_of_mem_drop hx)
 ·intro x hx
  rcases List.mem_append.1 (show x ∈ n.tm.take k ++ n.tm.drop (k + 1) from hx) with hx | hx
  ·exact h.tm x (List.mem_of_mem_take hx)
  ·exact h.tm x (List.mem_of_mem_drop hx)
 ·intro i hi
  change i + 1 < (n.tm.take k ++ n.tm.drop (k + 1)).length at hi
  rw [cut_length hk2] at hi
  show (n.tm.take k ++ n.tm.drop (k + 1)).getD i 0 ≤ (n.tm.take k ++ n.tm.drop (k + 1)).getD (i + 1) 0
  rw [cut_getD, cut_getD]
  by_cases h1 : k ≤ i
  ·rw [if_pos ⟨hk2, h1⟩, if_pos ⟨hk2, by omega⟩]; exact h.mono (i + 1) oM
  ·rw [if_neg (fun h => h1 h.2)]
   by_cases h2 : k ≤ i + 1
   ·rw [if_pos ⟨hk2, h2⟩]; exact h.sorted i (i + 2) oM oM
   ·rw [if_neg (fun h => h2 h.2)]; exact h.mono i oM
theorem NwV.at {n : Nw} (h : NwV n) {t : Int} (ht : 0 ≤ t ∧ t ≤ 1099511627776) : NwV { n with now := t } := ⟨ht, h.len, h.l, h.fl, h.fates, h.ms, h.tm, h.mono⟩
structure Sc where
 n : Nw
 sent : List Ms
 due : List Int
 copies : List Int
 got : List Int
 last : Int → Int → Int
def cntL (l : List Ms) (k : Int) : Nat := (l.filter fun m => decide (m.nu = k)).length
structure ScOk (fs : List (Int × Int)) (s : Sc) : Prop where
 v : NwV s.n
 few : s.n.l.length ≤ 3 * s.sent.length
 ld : s.due.length = s.sent.length
 lc : s.copies.length = s.sent.length
 lg : s.got.length = s.sent.length
 fates : s.n.fates = fs.drop s.sent.length
 num : ∀ k, k < s.sent.length → (s.sent.getD k dfMs).nu = k
 own : ∀ i, i < s.n.l.length → ∃ k, k < s.sent.length ∧ s.n.l.getD i dfMs = s.sent.getD k dfMs ∧ s.due.getD k 0 ≤ s.n.tm.getD i 0
 cnt : ∀ k, k < s.sent.length → (cntL s.n.l k : Int) + s.got.getD k 0 = s.copies.getD k 0
 ord : s.n.fifo = true → ∀ i j, i < j → j < s.n.l.length → (s.n.l.getD i dfMs).fr = (s.n.l.getD j dfMs).fr → (s.n.l.getD i dfMs).to = (s.n.l.getD j dfMs).to → (s.n.l.getD i dfMs).nu ≤ (s.n.l.getD j dfMs).nu
 lst : s.n.fifo = true → ∀ i, i < s.n.l.length → s.last (s.n.l.getD i dfMs).fr (s.n.l.getD i dfMs).to ≤ (s.n.l.getD i dfMs).nu
 lub : ∀ x y, s.last x y ≤ s.sent.length
 rng : ∀ k, k < s.sent.length → 0 ≤ s.got.getD k 0 ∧ s.copies.getD k 0 ≤ 3
theorem cnt_app (a c : List Ms) (k : Int) : cntL (a ++ c) k = cntL a k + cntL c k := by unfold cntL; rw [List.filter_append, List.length_append]
theorem cnt_ins (l : List Ms) (x : Ms) (p c : Nat) (k : Int) : cntL (l.take p ++ List.replicate c x ++ l.drop p) k = cntL l k + (if x.nu = k then c else 0) := by
 have h : cntL l k = cntL (l.take p) k + cntL (l.drop p) k := by rw [← cnt_app, List.take_append_drop]
 have h2 : cntL (List.replicate c x) k = if x.nu = k then c else 0 := by
  unfold cntL
  rw [List.filter_replicate]
  by_cases hx : x.nu = k <;> simp [hx]
 rw [cnt_app, cnt_app, h, h2]; omega
theorem cnt_zero {l : List Ms} {k : Int} (h : ∀ i, i < l.length → (l.getD i dfMs).nu ≠ k) : cntL l k = 0 := by
 unfold cntL
 rw [List.length_eq_zero_iff, List.filter_eq_nil_iff]
 intro m hm
 obtain ⟨i, hi, rfl⟩ := List.getElem_of_mem hm
 have := h i hi
 rw [getD_at hi] at this
 simpa using this
theorem getD_left {α : Type} {l r : List α} {d : α} {k : Nat} (h : k < l.length) : (l ++ r).getD k d = l.getD k d := by
 simp only [List.getD_eq_getElem?_getD]; rw [List.getElem?_append_left h]
theorem getD_last {α : Type} {l : List α} {x d : α} : (l ++ [x]).getD l.length d = x := by
 simp only [List.getD_eq_getElem?_getD]; rw [List.getElem?_append_right (Nat.le_refl _)]; simp
theorem arAt_chan {n : Nw} {m : Ms} (hf : n.fifo = true) : ∀ i j, j < i → (n.l.getD j dfMs).fr = m.fr → (n.l.getD j dfMs).to = m.to → n.tm.getD j 0 ≤ arAt n m i
 | 0, _, h, _, _ => by omega
 | i + 1, j, h, h1, h2 => by
   simp only [arAt]
   by_cases hj : j = i
   ·subst hj; rw [if_pos ⟨hf, h1, h2⟩]; omega
   ·have := arAt_chan hf i j oM h1 h2
    split <;> omega
theorem ScOk.send {fs : List (Int × Int)} {s : Sc} (h : ScOk fs s) {m : Ms} (hm : msB m = true) (hn : m.nu = s.sent.length) (h60 : s.sent.length < 60) :
  sdE s.n m = 0 ∧ ScOk fs ⟨sdR s.n m, s.sent ++ [m], s.due ++ [s.n.now + (s.n.fates.headD (1, 0)).2], s.copies ++ [(s.n.fates.headD (1, 0)).1], s.got ++ [0], s.last⟩ := by
 have hd := head_ok h.v
 have ha := arAt_in h.v (m := m) s.n.l.length (Nat.le_refl _)
 have hnow := h.v.now
 have hfew := h.few
 obtain ⟨a, hA⟩ : ∃ a, timN s.n m = a := ⟨_, rfl⟩
 change s.n.now ≤ timN s.n m ∧ timN s.n m ≤ _ at ha
 rw [hA] at ha
 obtain ⟨c, hC⟩ : ∃ c : Nat, (s.n.fates.headD (1, 0)).1 = (c : Int) := ⟨(s.n.fates.headD (1, 0)).1.toNat, by omega⟩
 have hc3 : c ≤ 3 := by omega
 have he : sdE s.n m = 0 := by
  unfold sdE copN
  rw [hA, hC, if_neg oM, if_neg oM]
 have hr : sdR s.n m = insN s.n m a c := by
  unfold sdR copN
  rw [if_pos he, hA, hC, Int.toNat_natCast]
 refine ⟨he, ?_⟩
 rw [hr, hC]
 obtain ⟨p, hp⟩ : ∃ p, leN s.n.tm a = p := ⟨_, rfl⟩
 have hs := leN_spec (l := s.n.tm) (a := a)
 have hle := leN_le (l := s.n.tm) (a := a)
 rw [hp] at hs hle
 have hle2 : p ≤ s.n.l.length := by rw [h.v.len]; exact hle
 have el : (insN s.n m a c).l = s.n.l.take p ++ List.replicate c m ++ s.n.l.drop p := by rw [← hp]; rfl
 have et : (insN s.n m a c).tm = s.n.tm.take p ++ List.replicate c a ++ s.n.tm.drop p := by rw [← hp]; rfl
 have ef : (insN s.n m a c).fifo = s.n.fifo := rfl
 have g := fun i => ins_getD (l := s.n.l) (x := m) (d := dfMs) (c := c) hle2 i
 have gt := fun i => ins_getD (l := s.n.tm) (x := a) (d := 0) (c := c) hle i
 have ll : (insN s.n m a c).l.length = s.n.l.length + c := by rw [el, ins_length hle2]
 have late : ∀ j, p ≤ j → j < s.n.l.length → a < s.n.tm.getD j 0 := fun j h1 h2 => by
  have hjt : j < s.n.tm.length := by rw [← h.v.len]; exact h2
  have := hs.2 oM
  have := h.v.sorted p j h1 hjt
  omega
 have old : ∀ i, i < s.n.l.length → (s.n.l.getD i dfMs).nu < s.sent.length := fun i hi => by
  obtain ⟨k, h1, h2, _⟩ := h.own i hi
  rw [h2, h.num k h1]; omega
 refine ⟨h.v.ins hm oM oM, ?_, ?_, ?_, ?_, ?_, ?_, ?_, ?_, ?_, ?_, ?_, ?_⟩
 ·show (insN s.n m a c).l.length ≤ 3 * (s.sent ++ [m]).length
  rw [ll, List.length_append, List.length_singleton]; omega
 ·simp [h.ld]
 ·simp [h.lc]
 ·simp [h.lg]
 ·show s.n.fates.drop 1 = fs.drop (s.sent ++ [m]).length
  rw [h.fates, List.drop_drop, List.length_append, List.length_singleton]
 ·intro k hk
  simp only [List.length_append, List.length_singleton] at hk
  by_cases h1 : k < s.sent.length
  ·simp only [getD_left h1]; exact h.num k h1
  ·obtain rfl : k = s.sent.length := by omega
   simp only [getD_last]; exact hn
 ·intro i hi
  simp only at hi ⊢
  rw [ll] at hi
  rw [el, et, g, gt]
  by_cases h1 : i < p
  ·rw [if_pos h1, if_pos h1]
   obtain ⟨k, k1, k2, k3⟩ := h.own i oM
   exact ⟨k, by simp; omega, by rw [getD_left k1]; exact k2, by rw [getD_left (by rw [h.ld]; exact k1)]; exact k3⟩
  ·rw [if_neg h1, if_neg h1]
   by_cases h2 : i < p + c
   ·rw [if_pos h2, if_pos h2]
    refine ⟨s.sent.length, by simp, by rw [getD_last], ?_⟩
    rw [← h.ld, getD_last, ← hA]
    exact arAt_mono (n := s.n) (m := m) _
   ·rw [if_neg h2, if_neg h2]
    obtain ⟨k, k1, k2, k3⟩ := h.own (i - c) oM
    exact ⟨k, by simp; omega, by rw [getD_left k1]; exact k2, by rw [getD_left (by rw [h.ld]; exact k1)]; exact k3⟩
 ·intro k hk
  simp only [List.length_append, List.length_singleton] at hk ⊢
  rw [el, cnt_ins]
  by_cases h1 : k < s.sent.length
  ·rw [if_neg (by rw [hn]; omega), getD_left (by rw [h.lg]; exact h1), getD_left (by rw [h.lc]; exact h1)]
   exact h.cnt k h1
  ·obtain rfl : k = s.sent.length := by omega
   rw [if_pos hn, cnt_zero (fun i hi => by have := old i hi; omega)]
   have e1 : (s.got ++ [0]).getD s.sent.length 0 = 0 := by rw [← h.lg, getD_last]
   have e2 : (s.copies ++ [(c : Int)]).getD s.sent.length 0 = c := by rw [← h.lc, getD_last]
   rw [e1, e2]; omega
 ·intro hf i j hij hj
  simp only at hf hj ⊢
  rw [ll] at hj
  rw [el, g, g]
  by_cases i1 : i < p
  ·rw [if_pos i1]
   by_cases j1 : j < p
   ·rw [if_pos j1]; exact h.ord hf i j hij oM
   ·rw [if_neg j1]
    by_cases j2 : j < p + c
    ·rw [if_pos j2]; intro _ _; have := old i oM; omega
    ·rw [if_neg j2]; exact h.ord hf i (j - c) oM oM
  ·rw [if_neg i1, if_neg (show ¬ j < p by omega)]
   by_cases i2 : i < p + c
   ·rw [if_pos i2]
    by_cases j2 : j < p + c
    ·rw [if_pos j2]; intro _ _; exact Int.le_refl _
    ·rw [if_neg j2]
     intro e1 e2
     have := late (j - c) oM oM
     have := arAt_chan (n := s.n) (m := m) hf s.n.l.length (j - c) oM e1.symm e2.symm
     change _ ≤ timN s.n m at this
     omega
   ·rw [if_neg i2, if_neg (show ¬ j < p + c by omega)]
    exact h.ord hf (i - c) (j - c) oM oM
 ·intro hf i hi
  simp only at hf hi ⊢
  rw [ll] at hi
  rw [el, g]
  by_cases i1 : i < p
  ·rw [if_pos i1]; exact h.lst hf i oM
  ·rw [if_neg i1]
   by_cases i2 : i < p + c
   ·rw [if_pos i2, hn]; exact h.lub _ _
   ·rw [if_neg i2]; exact h.lst hf (i - c) oM
 ·intro x y
  have := h.lub x y
  simp only [List.length_append, List.length_singleton]; omega
 ·intro k hk
  simp only [List.length_append, List.length_singleton] at hk ⊢
  by_cases h1 : k < s.sent.length
  ·rw [getD_left (by rw [h.lg]; exact h1), getD_left (by rw [h.lc]; exact h1)]
   exact h.rng k h1
  ·obtain rfl : k = s.sent.length := by omega
   have e1 : (s.got ++ [0]).getD s.sent.length 0 = 0 := by rw [← h.lg, getD_last]
   have e2 : (s.copies ++ [(c : Int)]).getD s.sent.length 0 = c := by rw [← h.lc, getD_last]
   rw [e1, e2]; omega
theorem cnt_cut {l : List Ms} {k : Nat} (hk : k < l.length) (x : Int) : cntL (l.take k ++ l.drop (k + 1)) x + (if (l.getD k dfMs).nu = x then 1 else 0) = cntL l x := by
 have h : l = l.take k ++ ([l.getD k dfMs] ++ l.drop (k + 1)) := by
  rw [getD_at hk, List.singleton_append, ← List.drop_eq_getElem_cons hk, List.take_append_drop]
 have h2 : cntL [l.getD k dfMs] x = if (l.getD k dfMs).nu = x then 1 else 0 := by
  obtain ⟨z, hz⟩ : ∃ z, l.getD k dfMs = z := ⟨_, rfl⟩
  rw [hz]
  unfold cntL
  by_cases hx : z.nu = x <;> simp [hx]
 have h3 : cntL l x = cntL (l.take k) x + (cntL [l.getD k dfMs] x + cntL (l.drop (k + 1)) x) := by
  conv => lhs; rw [h]
  rw [cnt_app, cnt_app]
 rw [cnt_app, h3, h2]; omega
theorem set_getD {α : Type} {l : List α} {q k : Nat} {x d : α} (hq : q < l.length) : (l.set q x).getD k d = if k = q then x else l.getD k d := by
 simp only [List.getD_eq_getElem?_getD]
 by_cases h : k = q
 ·subst h; rw [if_pos rfl, List.getElem?_set_self hq]; rfl
 ·rw [if_neg h, List.getElem?_set_ne (fun e => h e.symm)]
theorem ScOk.recv {fs : List (Int × Int)} {s : Sc} (h : ScOk fs s) {to : Int} {k : Nat} (hk : k < s.n.l.length) (ha : arB s.n to k = true) (h0 : ∀ j, j < k → arB s.n to j = false) :
  ∃ q, q < s.sent.length ∧ s.n.l.getD k dfMs = s.sent.getD q dfMs ∧ (s.n.l.getD k dfMs).nu = q ∧ (s.n.l.getD k dfMs).to = to ∧ s.due.getD q 0 ≤ s.n.now ∧
   (s.n.fifo = true → s.last (s.n.l.getD k dfMs).fr (s.n.l.getD k dfMs).to ≤ q) ∧ s.got.getD q 0 + 1 ≤ s.copies.getD q 0 ∧
   ScOk fs ⟨woN s.n k, s.sent, s.due, s.copies, s.got.set q (s.got.getD q 0 + 1), fun x y => if x = (s.n.l.getD k dfMs).fr ∧ y = (s.n.l.getD k dfMs).to then q else s.last x y⟩ := by
 obtain ⟨q, q1, q2, q3⟩ := h.own k hk
 unfold arB at ha
 simp only [Bool.and_eq_true, decide_eq_true_eq] at ha
 obtain ⟨a1, a2⟩ := ha
 have hkt : k < s.n.tm.length := by rw [← h.v.len]; exact hk
 have hnu : (s.n.l.getD k dfMs).nu = q := by rw [q2]; exact h.num q q1
 have hqg : q < s.got.length := by rw [h.lg]; exact q1
 have hcc := cnt_cut hk (q : Int)
 rw [if_pos hnu] at hcc
 have hcq := h.cnt q q1
 refine ⟨q, q1, q2, hnu, a1, by omega, fun hf => by have := h.lst hf k hk; rw [hnu] at this; exact this, by omega, ?_⟩
 have g := fun i => cut_getD (l := s.n.l) (d := dfMs) (k := k) i
 have gt := fun i => cut_getD (l := s.n.tm) (d := 0) (k := k) i
 have ll : (woN s.n k).l.length = s.n.l.length - 1 := cut_length hk
 have el : (woN s.n k).l = s.n.l.take k ++ s.n.l.drop (k + 1) := rfl
 have et : (woN s.n k).tm = s.n.tm.take k ++ s.n.tm.drop (k + 1) := rfl
 obtain ⟨σ, hσ⟩ : ∃ σ : Nat → Nat, ∀ i, σ i = if k ≤ i then i + 1 else i := ⟨_, fun _ => rfl⟩
 have gl : ∀ i, (woN s.n k).l.getD i dfMs = s.n.l.getD (σ i) dfMs := fun i => by
  rw [el, g, hσ]
  by_cases hi : k ≤ i
  ·rw [if_pos ⟨hk, hi⟩, if_pos hi]
  ·rw [if_neg (fun h => hi h.2), if_neg hi]
 have gm : ∀ i, (woN s.n k).tm.getD i 0 = s.n.tm.getD (σ i) 0 := fun i => by
  rw [et, gt, hσ]
  by_cases hi : k ≤ i
  ·rw [if_pos ⟨hkt, hi⟩, if_pos hi]
  ·rw [if_neg (fun h => hi h.2), if_neg hi]
 have sl : ∀ i, i < s.n.l.length - 1 → σ i < s.n.l.length ∧ σ i ≠ k := fun i hi => by
  rw [hσ]; split <;> omega
 have sm : ∀ i j, i < j → σ i < σ j := fun i j hij => by
  rw [hσ, hσ]; split <;> split <;> omega
 refine ⟨h.v.out hk, ?_, h.ld, h.lc, by simp [h.lg], h.fates, h.num, ?_, ?_, ?_, ?_, ?_, ?_⟩
 ·show (woN s.n k).l.length ≤ 3 * s.sent.length
  have := h.few; rw [ll]; omega
 ·intro i hi
  simp only at hi ⊢
  rw [ll] at hi
  rw [gl, gm]
  exact h.own (σ i) (sl i hi).1
 ·intro x hx
  simp only at hx ⊢
  rw [el, set_getD hqg]
  have := cnt_cut hk (x : Int)
  have hcx := h.cnt x hx
  by_cases hxq : x = q
  ·subst hxq; rw [if_pos rfl]; omega
  ·rw [if_neg hxq]
   rw [if_neg (by rw [hnu]; omega)] at this
   omega
 ·intro hf i j hij hj
  simp only at hf hj ⊢
  rw [ll] at hj
  rw [gl, gl]
  exact h.ord hf (σ i) (σ j) (sm i j hij) (sl j hj).1
 ·intro hf i hi
  simp only at hf hi ⊢
  rw [ll] at hi
  rw [gl]
  by_cases hc : (s.n.l.getD (σ i) dfMs).fr = (s.n.l.getD k dfMs).fr ∧ (s.n.l.getD (σ i) dfMs).to = (s.n.l.getD k dfMs).to
  ·rw [if_pos hc]
   have hgt : k < σ i := by
    rcases Nat.lt_or_ge k (σ i) with h1 | h1
    ·exact h1
    ·exfalso
     have h2 : σ i < k := by have := (sl i hi).2; omega
     have h3 := h0 (σ i) h2
     have h4 := h.v.sorted (σ i) k oM hkt
     unfold arB at h3
     rw [decide_eq_true (show (s.n.l.getD (σ i) dfMs).to = to by rw [hc.2]; exact a1), decide_eq_true (show s.n.tm.getD (σ i) 0 ≤ s.n.now by omega)] at h3
     cases h3
   have := h.ord hf k (σ i) hgt (sl i hi).1 hc.1.symm hc.2.symm
   rw [hnu] at this
   exact this
  ·rw [if_neg hc]
   exact h.lst hf (σ i) (sl i hi).1
 ·intro x y
  simp only
  split
  ·omega
  ·exact h.lub x y
 ·intro x hx
  simp only at hx ⊢
  rw [set_getD hqg]
  have := h.rng x hx
  have := h.rng q q1
  split <;> omega
theorem ScOk.at {fs : List (Int × Int)} {s : Sc} (h : ScOk fs s) {t : Int} (ht : 0 ≤ t ∧ t ≤ 1099511627776) : ScOk fs { s with n := { s.n with now := t } } :=
 ⟨h.v.at ht, h.few, h.ld, h.lc, h.lg, h.fates, h.num, h.own, h.cnt, h.ord, h.lst, h.lub, h.rng⟩
theorem ScOk.done {fs : List (Int × Int)} {s : Sc} (h : ScOk fs s) (h0 : s.n.l = []) : s.got = s.copies := by
 apply List.ext_getElem?
 intro k
 by_cases hk : k < s.sent.length
 ·have := h.cnt k hk
  rw [h0] at this
  have e : cntL [] (k : Int) = 0 := rfl
  rw [e] at this
  rw [List.getElem?_eq_getElem (by rw [h.lg]; exact hk), List.getElem?_eq_getElem (by rw [h.lc]; exact hk)]
  rw [getD_at (by rw [h.lg]; exact hk), getD_at (by rw [h.lc]; exact hk)] at this
  congr 1; omega
 ·rw [List.getElem?_eq_none (by rw [h.lg]; omega), List.getElem?_eq_none (by rw [h.lc]; omega)]
theorem ScOk.start {fs : List (Int × Int)} (fifo : Bool) (h : ∀ f ∈ fs, ftB f = true) (hl : fs.length ≤ 1000) : ScOk fs ⟨⟨0, fifo, [], [], fs⟩, [], [], [], [], fun _ _ => 0⟩ :=
 ⟨⟨⟨(by decide : (0 : Int) ≤ 0), (by decide : (0 : Int) ≤ 1099511627776)⟩, rfl, by simp, hl, h, by simp, by simp, by simp⟩, by simp, rfl, rfl, rfl, rfl, by simp, by simp, by simp, by simp, by simp, by simp, by simp⟩
end Go.Proofs.Ytpkemmchpccjdaa
namespace Go.Proofs.Ytpkemmchpccjdaa
set_option linter.unusedVariables false
abbrev ChM := List ((Int × Int) × Int)
def chR (M : ChM) : List (List AV) := M.map fun z => [.agg [.v (.int .i64 z.1.1), .v (.int .i64 z.1.2)], .v (.int .i64 z.2)]
def chL : ChM → Int → Int → Option Int
 | [], _, _ => none
 | z :: M, x, y => if x = z.1.1 ∧ y = z.1.2 then some z.2 else chL M x y
def chU : ChM → Int → Int → Int → ChM
 | [], x, y, v => [((x, y), v)]
 | z :: M, x, y, v => if x = z.1.1 ∧ y = z.1.2 then ((x, y), v) :: M else z :: chU M x y v
theorem chK (x y : Int) (z : Int × Int) : keyEq (.many [.i, .i]) (.agg [.v (.int .i64 x), .v (.int .i64 y)]) (.agg [.v (.int .i64 z.1), .v (.int .i64 z.2)]) = some (decide (x = z.1 ∧ y = z.2)) := by
 simp only [keyEq, eqC, eqF, and2]
 by_cases h1 : x = z.1
 ·by_cases h2 : y = z.2
  ·simp [h1, h2]
  ·simp [h1, h2]
 ·simp [h1]
theorem findM_ch (x y : Int) : ∀ M : ChM, findM (.many [.i, .i]) (.agg [.v (.int .i64 x), .v (.int .i64 y)]) (chR M) = some ((chL M x y).map fun v => .v (.int .i64 v))
 | [] => rfl
 | z :: M => by
   have ih := findM_ch x y M
   unfold chR at ih ⊢
   rw [List.map_cons]
   simp only [findM, chK, chL]
   by_cases h : x = z.1.1 ∧ y = z.1.2
   ·rw [decide_eq_true h, if_pos h]; rfl
   ·rw [decide_eq_false h, if_neg h]; exact ih
theorem updM_ch (x y v : Int) : ∀ M : ChM, updM (.many [.i, .i]) (.agg [.v (.int .i64 x), .v (.int .i64 y)]) (.v (.int .i64 v)) (chR M) = some (chR (chU M x y v))
 | [] => rfl
 | z :: M => by
   have ih := updM_ch x y v M
   unfold chR at ih ⊢
   rw [List.map_cons]
   simp only [updM, chK, chU]
   by_cases h : x = z.1.1 ∧ y = z.1.2
   ·rw [decide_eq_true h, if_pos h]; rfl
   ·rw [decide_eq_false h, if_neg h]; simp only [ih]; rfl
theorem chL_U (M : ChM) (x y v : Int) : ∀ a c, chL (chU M x y v) a c = if a = x ∧ c = y then some v else chL M a c := by
 intro a c
 induction M with
 | nil => simp [chU, chL]
 | cons z M ih =>
   unfold chU
   by_cases h : x = z.1.1 ∧ y = z.1.2
   ·rw [if_pos h]
    simp only [chL, ← h.1, ← h.2]
    split <;> rfl
   ·rw [if_neg h]
    simp only [chL, ih]
    by_cases h2 : a = z.1.1 ∧ c = z.1.2
    ·rw [if_pos h2, if_neg (fun h3 => h ⟨h3.1.symm.trans h2.1, h3.2.symm.trans h2.2⟩), if_pos h2]
    ·rw [if_neg h2, if_neg h2]
def chF (M : ChM) (x y : Int) : Int := (chL M x y).getD 0
theorem chF_U (M : ChM) (x y v : Int) : chF (chU M x y v) = fun a c => if a = x ∧ c = y then v else chF M a c := by
 funext a c
 unfold chF
 rw [chL_U]
 split <;> rfl
end Go.Proofs.Ytpkemmchpccjdaa
