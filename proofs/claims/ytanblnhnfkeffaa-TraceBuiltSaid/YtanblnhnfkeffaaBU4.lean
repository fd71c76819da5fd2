/- Texts of one proof, laid together: RI, RD, OM, KP, PP, CT. No condition. -/
import Derived.Test.YtanblnhnfkeffaaBU3
import Derived.Laws.MakeOwn
namespace Go.Proofs.Ytanblnhnfkeffaa
open Go.RowKit
set_option linter.unusedVariables false

def findV (t : Tr) (k m : Int) : Nat × Nat := firstOf t (ids t) k m

end Go.Proofs.Ytanblnhnfkeffaa
namespace Go.Proofs.Ytanblnhnfkeffaa
open Go.RowKit
set_option linter.unusedVariables false

def backL (t : Tr) (x : Nat × Nat) : List (Nat × Nat) := (if 1 < x.2 then [(x.1, x.2 - 1)] else []) ++ if (evAt t x).kind == 3 then [findV t 2 (evAt t x).msg] else []

end Go.Proofs.Ytanblnhnfkeffaa
namespace Go.Proofs.Ytanblnhnfkeffaa
open Go.RowKit
set_option linter.unusedVariables false

def rowC (D : List Nat) : Array Value := (D.map fun d : Nat => Value.int .i64 d).toArray
theorem rowC_set (D : List Nat) (k d : Nat) : (rowC D).setIfInBounds k (.int .i64 d) = rowC (D.set k d) := by
 unfold rowC
 rw [List.setIfInBounds_toArray, List.map_set]
theorem BoxN.setRow {W : World} {B : Nat} {t : TypeId} {D : List Nat} {k : Nat} (h : BoxN W B t (rowC D)) (d : Nat) : BoxN (W.setCell ⟨B, k, none⟩ (.int .i64 d)) B t (rowC (D.set k d)) := by
 rw [← rowC_set]; exact h.set _ _
end Go.Proofs.Ytanblnhnfkeffaa
namespace Go.Proofs.Ytanblnhnfkeffaa
set_option linter.unusedVariables false

theorem Hb.back {t : Tr} {x z : Nat × Nat} (h : Hb t x z) : ∃ y, Dir t y z ∧ (y = x ∨ Hb t x y) := by
 cases h with
 | one h => exact ⟨_, h, .inl rfl⟩
 | more h1 h2 => exact ⟨_, h2, .inr h1⟩
def Gone (D : List Nat) (x : Nat × Nat) : Prop := x.2 ≤ D.getD x.1 0
structure KI (t : Tr) (D : List Nat) : Prop where
 len : D.length = t.length
 le : ∀ p (hp : p < t.length), D.getD p 0 ≤ t[p].evs.length
 closed : ∀ x ∈ ids t, Gone D x → ∀ y ∈ ids t, Dir t y x → Gone D y
 acyc : ∀ x ∈ ids t, Gone D x → ¬ Hb t x x
theorem KI.start (t : Tr) : KI t (List.replicate t.length 0) := by
 have h0 : ∀ p, (List.replicate t.length 0).getD p 0 = 0 := fun p => by
  rw [List.getD_eq_getElem?_getD, List.getElem?_replicate]; split <;> rfl
 have hn : ∀ x ∈ ids t, ¬ Gone (List.replicate t.length 0) x := fun x hx hg => by
  have := mem_pos hx
  unfold Gone at hg; rw [h0] at hg; omega
 exact ⟨by simp, fun p hp => by rw [h0]; exact Nat.zero_le _, fun x hx hg => absurd hg (hn x hx), fun x hx hg => absurd hg (hn x hx)⟩
theorem KI.gone_back {t : Tr} {D : List Nat} (h : KI t D) {x z : Nat × Nat} (hx : x ∈ ids t) (hz : z ∈ ids t) (hg : Gone D z) (hb : Hb t x z) : Gone D x := by
 induction hb with
 | one hd => exact h.closed _ hz hg _ hx hd
 | more h1 hd ih =>
   have hy := h1.mem hx
   exact ih hy (h.closed _ hz hg _ hy hd)
theorem getD_set {D : List Nat} {p q d : Nat} (hp : p < D.length) : (D.set p d).getD q 0 = if q = p then d else D.getD q 0 := by
 rw [List.getD_eq_getElem?_getD, List.getElem?_set]
 by_cases h : p = q
 ·subst h; rw [if_pos rfl, if_pos rfl, if_pos hp]; rfl
 ·rw [if_neg h, if_neg (fun e => h e.symm), List.getD_eq_getElem?_getD]
theorem KI.step {t : Tr} {D : List Nat} (h : KI t D) {p : Nat} (hp : p < t.length) (hi : D.getD p 0 < t[p].evs.length) (hpre : ∀ y ∈ ids t, Dir t y (p, D.getD p 0 + 1) → Gone D y) : KI t (D.set p (D.getD p 0 + 1)) := by
 have hlen : p < D.length := by rw [h.len]; exact hp
 have hgs : ∀ x, x ∈ ids t → (Gone (D.set p (D.getD p 0 + 1)) x ↔ Gone D x ∨ x = (p, D.getD p 0 + 1)) := fun x hx => by
  unfold Gone
  rw [getD_set hlen]
  obtain ⟨a, b⟩ := x
  simp only [Prod.mk.injEq]
  by_cases ha : a = p
  ·subst ha; rw [if_pos rfl]; omega
  ·rw [if_neg ha]; simp [ha]
 have hxin : (p, D.getD p 0 + 1) ∈ ids t := mem_ids.2 ⟨hp, by simp, hi⟩
 have hnx : ¬ Gone D (p, D.getD p 0 + 1) := by unfold Gone; simp
 refine ⟨by simpa using h.len, fun q hq => ?_, fun x hx hg y hy hd => ?_, fun x hx hg hb => ?_⟩
 ·rw [getD_set hlen]
  split
  ·rename_i e; subst e; exact hi
  ·exact h.le q hq
 ·rcases (hgs x hx).1 hg with h1 | rfl
  ·exact (hgs y hy).2 (.inl (h.closed x hx h1 y hy hd))
  ·exact (hgs y hy).2 (.inl (hpre y hy hd))
 ·rcases (hgs x hx).1 hg with h1 | rfl
  ·exact h.acyc x hx h1 hb
  ·obtain ⟨y, hd, he⟩ := hb.back
   rcases he with rfl | h2
   ·exact hnx (hpre _ hxin hd)
   ·have hy := h2.mem hxin
    exact hnx (h.gone_back hxin hy (hpre y hy hd) h2)
theorem KI.all {t : Tr} {D : List Nat} (h : KI t D) (hd : ∀ p (hp : p < t.length), t[p].evs.length ≤ D.getD p 0) : ∀ x ∈ ids t, ¬ Hb t x x := by
 intro x hx
 obtain ⟨hp, h1, h2⟩ := mem_ids.1 hx
 exact h.acyc x hx (Nat.le_trans h2 (hd x.1 hp))
end Go.Proofs.Ytanblnhnfkeffaa
namespace Go.Proofs.Ytanblnhnfkeffaa
open Go.RowKit
set_option linter.unusedVariables false

theorem sends_find {t : Tr} {q m p : Nat} (hq : q < t.length) (h : sendsB t q m p = true) : ∃ y, findL t 2 m = some y := by
 have e : findL t 2 m = (ids t).find? (keyB t 2 m) := rfl
 rw [e]
 unfold sendsB evsOf at h
 rw [getD_lt dfPr t hq, List.any_eq_true] at h
 obtain ⟨ev, he, hk⟩ := h
 obtain ⟨j, hj, hev⟩ := List.mem_iff_getElem.1 he
 simp only [Bool.and_eq_true, beq_iff_eq] at hk
 have hmem : (q, j + 1) ∈ ids t := mem_ids.2 ⟨hq, by simp, hj⟩
 cases hf : (ids t).find? (keyB t 2 m) with
 | some y => exact ⟨y, rfl⟩
 | none =>
   rw [List.find?_eq_none] at hf
   refine absurd ?_ (hf _ hmem)
   unfold keyB
   rw [evAt_eq hq hj, hev, hk.1.1, hk.1.2]
   simp
structure Paired (t : Tr) : Prop where
 form : ∀ x ∈ ids t, formedB t.length x.1 (evAt t x) = true
 pair : ∀ x ∈ ids t, pairF t x = 0
theorem Paired.recv {t : Tr} (h : Paired t) {x : Nat × Nat} (hx : x ∈ ids t) (hk : (evAt t x).kind = 3) : findL t 3 (evAt t x).msg = some x ∧ ∃ y, findL t 2 (evAt t x).msg = some y := by
 have hp := h.pair x hx
 obtain ⟨m, q, hm, _, hq, hq2, _⟩ := formed_open (h.form x hx) (by rw [hk]; rfl)
 unfold pairF at hp
 rw [hk] at hp
 simp only [show ((3 : Int) == 2) = false from rfl, show ((3 : Int) == 3) = true from rfl, if_true, Bool.false_eq_true, if_false] at hp
 by_cases h1 : (findL t 3 (evAt t x).msg == some x) = true
 ·rw [if_pos h1] at hp
  refine ⟨by simpa using h1, ?_⟩
  by_cases h2 : sendsB t (evAt t x).peer.toNat (evAt t x).msg x.1 = true
  ·rw [hq, hm, Int.toNat_natCast] at h2
   rw [hm]
   exact sends_find hq2 h2
  ·rw [if_neg h2] at hp; cases hp
 ·rw [if_neg h1] at hp; cases hp
theorem Paired.send {t : Tr} (h : Paired t) {x : Nat × Nat} (hx : x ∈ ids t) (hk : (evAt t x).kind = 2) : findL t 2 (evAt t x).msg = some x := by
 have hp := h.pair x hx
 unfold pairF at hp
 rw [hk] at hp
 simp only [show ((2 : Int) == 2) = true from rfl, if_true] at hp
 by_cases h1 : (findL t 2 (evAt t x).msg == some x) = true
 ·simpa using h1
 ·rw [if_neg h1] at hp; cases hp
theorem find_key {t : Tr} {k m : Int} {y : Nat × Nat} (h : findL t k m = some y) : (evAt t y).kind = k ∧ (evAt t y).msg = m := by
 have e : findL t k m = (ids t).find? (keyB t k m) := rfl
 rw [e] at h
 have := List.find?_some h
 simpa [keyB] using this
theorem mem_backL {t : Tr} (h : Paired t) {x y : Nat × Nat} (hx : x ∈ ids t) : y ∈ backL t x ↔ (y ∈ ids t ∧ Dir t y x) := by
 obtain ⟨hp, h1, h2⟩ := mem_ids.1 hx
 unfold backL
 rw [List.mem_append]
 constructor
 ·rintro (hy | hy)
  ·split at hy
   ·rename_i hlt
    have : y = (x.1, x.2 - 1) := by simpa using hy
    subst this
    refine ⟨mem_ids.2 ⟨hp, by simp; omega, by simp; omega⟩, .inl ⟨?_, ?_⟩⟩
    ·ext <;> simp; omega
    ·unfold evsOf; simp only; rw [getD_lt dfPr t hp]; omega
   ·cases hy
  ·split at hy
   ·rename_i hk
    have hk3 : (evAt t x).kind = 3 := by simpa using hk
    obtain ⟨h3, z, hz⟩ := h.recv hx hk3
    have hv : findV t 2 (evAt t x).msg = z := (firstOf_find hz).1
    have : y = z := by rw [← hv]; simpa using hy
    subst this
    obtain ⟨k2, m2⟩ := find_key hz
    refine ⟨(firstOf_find hz).2.2, .inr ⟨k2, ?_⟩⟩
    rw [m2]; exact h3
   ·cases hy
 ·rintro ⟨hy, (⟨he, hl⟩ | ⟨hk, hf⟩)⟩
  ·obtain ⟨_, hy1, _⟩ := mem_ids.1 hy
   left
   rw [he]
   simp only
   rw [if_pos oM]
   simp
  ·right
   obtain ⟨k3, m3⟩ := find_key hf
   rw [k3]
   simp only [show ((3 : Int) == 3) = true from rfl, if_true]
   have := h.send hy hk
   rw [m3, show findV t 2 (evAt t y).msg = y from (firstOf_find this).1]
   simp
theorem Hb.cons {t : Tr} {x y z : Nat × Nat} (h : Dir t x y) (k : Hb t y z) : Hb t x z := by
 induction k with
 | one h2 => exact .more (.one h) h2
 | more _ h2 ih => exact .more ih h2
structure PaI (t : Tr) (x : Nat × Nat) (S R : List (Nat × Nat)) : Prop where
 nod : S.Nodup
 s : ∀ y ∈ S, y ∈ ids t ∧ Hb t y x
 r : ∀ y ∈ R, y ∈ ids t ∧ Hb t y x
 closed : ∀ z, z = x ∨ z ∈ S → ∀ y ∈ ids t, Dir t y z → y ∈ S ∨ y ∈ R
structure PaJ (t : Tr) (x z0 : Nat × Nat) (S R : List (Nat × Nat)) (k : Nat) : Prop where
 nod : S.Nodup
 s : ∀ y ∈ S, y ∈ ids t ∧ Hb t y x
 r : ∀ y ∈ R, y ∈ ids t ∧ Hb t y x
 cur : z0 ∈ S
 done : ∀ y ∈ (backL t z0).take k, y ∈ R
 closed : ∀ z, z = x ∨ z ∈ S → z ≠ z0 → ∀ y ∈ ids t, Dir t y z → y ∈ S ∨ y ∈ R
theorem PaI.start {t : Tr} (h : Paired t) {x : Nat × Nat} (hx : x ∈ ids t) : PaI t x [] (backL t x) :=
 ⟨List.nodup_nil, by simp, fun y hy => let ⟨a, b⟩ := (mem_backL h hx).1 hy; ⟨a, .one b⟩, fun z hz y hy hd => by
  rcases hz with rfl | h1
  ·exact .inr ((mem_backL h hx).2 ⟨hy, hd⟩)
  ·cases h1⟩
theorem PaI.skip {t : Tr} {x y : Nat × Nat} {S R : List (Nat × Nat)} (h : PaI t x S (y :: R)) (hy : y ∈ S) : PaI t x S R :=
 ⟨h.nod, h.s, fun z hz => h.r z (by simp [hz]), fun z hz w hw hd => by
  rcases h.closed z hz w hw hd with h1 | h1
  ·exact .inl h1
  ·rcases List.mem_cons.1 h1 with rfl | h2
   ·exact .inl hy
   ·exact .inr h2⟩
theorem PaJ.push {t : Tr} (hp : Paired t) {x z0 y : Nat × Nat} {S R : List (Nat × Nat)} {k : Nat} (h : PaJ t x z0 S R k) (hk : (backL t z0)[k]? = some y) : PaJ t x z0 S (R ++ [y]) (k + 1) := by
 obtain ⟨hz, hzx⟩ := h.s z0 h.cur
 obtain ⟨hy, hd⟩ := (mem_backL hp hz).1 (List.mem_of_getElem? hk)
 refine ⟨h.nod, h.s, fun w hw => ?_, h.cur, fun w hw => ?_, fun z hz' hne w hw hd' => ?_⟩
 ·rcases List.mem_append.1 hw with h1 | h1
  ·exact h.r w h1
  ·have : w = y := by simpa using h1
   subst this; exact ⟨hy, .cons hd hzx⟩
 ·rw [take_snoc' hk] at hw
  rcases List.mem_append.1 hw with h1 | h1
  ·simp [h.done w h1]
  ·exact List.mem_append.2 (.inr h1)
 ·rcases h.closed z hz' hne w hw hd' with h1 | h1
  ·exact .inl h1
  ·exact .inr (by simp [h1])
theorem PaJ.fin {t : Tr} (hp : Paired t) {x z0 : Nat × Nat} {S R : List (Nat × Nat)} {k : Nat} (h : PaJ t x z0 S R k) (hk : (backL t z0).length ≤ k) : PaI t x S R :=
 ⟨h.nod, h.s, h.r, fun z hz w hw hd => by
  by_cases he : z = z0
  ·subst he
   refine .inr (h.done w ?_)
   rw [List.take_of_length_le hk]
   exact (mem_backL hp (h.s z h.cur).1).2 ⟨hw, hd⟩
  ·exact h.closed z hz he w hw hd⟩
theorem PaI.all {t : Tr} {x : Nat × Nat} {S : List (Nat × Nat)} (h : PaI t x S []) : ∀ y ∈ ids t, y ∈ S ↔ Hb t y x := by
 intro y hy
 refine ⟨fun hs => (h.s y hs).2, fun hb => ?_⟩
 have key : ∀ z, Hb t y z → (z = x ∨ z ∈ S) → y ∈ S := by
  intro z hz
  induction hz with
  | one hd => exact fun hc => (h.closed _ hc _ hy hd).resolve_right (by simp)
  | more h1 hd ih => exact fun hc => ih (.inr ((h.closed _ hc _ (h1.mem hy) hd).resolve_right (by simp)))
 exact key x hb (.inl rfl)
theorem PaI.few {t : Tr} {x : Nat × Nat} {S R : List (Nat × Nat)} (h : PaI t x S R) : S.length ≤ (ids t).length := nodup_le h.nod fun y hy => (h.s y hy).1
theorem PaJ.few {t : Tr} {x z0 : Nat × Nat} {S R : List (Nat × Nat)} {k : Nat} (h : PaJ t x z0 S R k) : S.length ≤ (ids t).length := nodup_le h.nod fun y hy => (h.s y hy).1
def rowM (S : List (Nat × Nat)) (p n : Nat) : Array Value := ((List.range n).map fun i => Value.bool (decide ((p, i) ∈ S))).toArray
theorem rowM_get {S : List (Nat × Nat)} {p n i : Nat} (h : i < n) : (rowM S p n)[i]? = some (.bool (decide ((p, i) ∈ S))) := by simp [rowM, h]
def rowV (q : Nat × Nat) : Value := .slice (some ⟨q.1, 0, none⟩) q.2 q.2
structure GridM (tr tb : TypeId) (W : World) (B : Nat) (v : Value) (gs S : List (Nat × Nat)) : Prop where
 out : OwnC 1 tr W B v gs.length (gs.map rowV)
 row : ∀ p (hp : p < gs.length), BoxN W gs[p].1 tb (rowM S p gs[p].2) ∧ B ≤ gs[p].1
 nod : ∀ p q (hp : p < gs.length) (hq : q < gs.length), gs[p].1 = gs[q].1 → p = q
section
variable {tr tb : TypeId} {W W' : World} {B : Nat} {v : Value} {gs S : List (Nat × Nat)}
theorem GridM.ext (h : GridM tr tb W B v gs S) (he : Ext W W') : GridM tr tb W' B v gs S := ⟨h.out.ext he, fun p hp => ⟨(h.row p hp).1.ext he, (h.row p hp).2⟩, h.nod⟩
theorem GridM.drewN (h : GridM tr tb W B v gs S) (n : Nat) : GridM tr tb (W.drewN n) B v gs S := h.ext ((Ext.refl W).drewN n)
theorem GridM.alloc (h : GridM tr tb W B v gs S) (o : Obj) : GridM tr tb (W.alloc o) B v gs S := h.ext ((Ext.refl W).alloc o)
theorem GridM.kept (h : GridM tr tb W B v gs S) {r : Option Nat} (hg : W.grownBy W' r) (h1 : v.ownBlock ≠ r ∨ v.ownBlock = none) (h2 : ∀ p (hp : p < gs.length), some gs[p].1 ≠ r) : GridM tr tb W' B v gs S :=
 ⟨h.out.kept hg (h1.symm), fun p hp => ⟨(h.row p hp).1.kept hg (h2 p hp), (h.row p hp).2⟩, h.nod⟩
end
def marks (t : Tr) (gs : List (Nat × Nat)) (w : World) : Nat := (ids t).countP fun x => match w.cell? ⟨(gs.getD x.1 (0, 0)).1, x.2, none⟩ with | some (.bool true) => true | _ => false
theorem marks_eq {t : Tr} {tr tb : TypeId} {W : World} {B : Nat} {v : Value} {gs S : List (Nat × Nat)} (h : GridM tr tb W B v gs S) (hl : ∀ x ∈ ids t, ∃ (hp : x.1 < gs.length), x.2 < gs[x.1].2) (hn : S.Nodup) (hs : ∀ y ∈ S, y ∈ ids t) : marks t gs W = S.length := by
 have e : marks t gs W = (ids t).countP fun x => decide (x ∈ S) := by
  unfold marks
  refine List.countP_congr fun x hx => ?_
  obtain ⟨hp, hi⟩ := hl x hx
  rw [getD_lt (0, 0) gs hp, (h.row x.1 hp).1.cell (rowM_get hi)]
  cases decide ((x.1, x.2) ∈ S) <;> simp
 rw [e, List.countP_eq_length_filter]
 apply Nat.le_antisymm
 ·exact nodup_le ((nodup_ids t).filter _) fun x hx => by simpa using (List.mem_filter.1 hx).2
 ·exact nodup_le hn fun x hx => List.mem_filter.2 ⟨hs x hx, by simpa using hx⟩
end Go.Proofs.Ytanblnhnfkeffaa
namespace Go.Proofs.Ytanblnhnfkeffaa
set_option linter.unusedVariables false

structure Vok (t : Tr) : Prop where
 lo : 1 ≤ t.length
 hi : t.length ≤ 8
 head : ∀ p, p < t.length → headF t p = 0
 form : ∀ x ∈ ids t, formF t x = 0
 pair : ∀ x ∈ ids t, pairF t x = 0
 acyc : ∀ x ∈ ids t, ¬ Hb t x x
theorem vok {t : Tr} (h : validL t = true) : Vok t := by
 unfold validL faultL at h
 split at h
 ·simp at h
 rename_i hl
 split at h
 ·rename_i p hp
  have := List.find?_some hp
  simp at h this; exact absurd h this
 rename_i h1
 split at h
 ·rename_i p hp
  have := List.find?_some hp
  simp at h this; exact absurd h this
 rename_i h2
 split at h
 ·rename_i p hp
  have := List.find?_some hp
  simp at h this; exact absurd h this
 rename_i h3
 split at h
 ·simp at h
 rename_i h4
 rw [List.find?_eq_none] at h1 h2 h3 h4
 refine ⟨by omega, by omega, fun p hp => ?_, fun x hx => ?_, fun x hx => ?_, fun x hx => ?_⟩
 ·simpa using h1 p (List.mem_range.2 hp)
 ·simpa using h2 x hx
 ·simpa using h3 x hx
 ·simpa using h4 x hx
theorem Vok.paired {t : Tr} (h : Vok t) : Paired t := ⟨fun x hx => formF_formed (h.form x hx), h.pair⟩
theorem evsOf_lt {t : Tr} {p : Nat} (h : p < t.length) : evsOf t p = t[p].evs := by unfold evsOf; simp [List.getD, h]
theorem mem_ids2 {t : Tr} {p i : Nat} : (p, i + 1) ∈ ids t ↔ p < t.length ∧ i < (evsOf t p).length := by
 rw [mem_ids]
 constructor
 ·rintro ⟨hp, _, h⟩
  have h : i + 1 ≤ t[p].evs.length := h
  exact ⟨hp, by rw [evsOf_lt hp]; omega⟩
 ·rintro ⟨hp, h⟩; rw [evsOf_lt hp] at h; exact ⟨hp, by simp, (show i + 1 ≤ t[p].evs.length by omega)⟩

theorem Hb.trans {t : Tr} {x y z : Nat × Nat} (h : Hb t x y) (k : Hb t y z) : Hb t x z := by
 induction k with
 | one h2 => exact .more h h2
 | more _ h2 ih => exact .more ih h2
def Le (t : Tr) (x y : Nat × Nat) : Prop := x = y ∨ Hb t x y
theorem Le.refl {t : Tr} (x : Nat × Nat) : Le t x x := .inl rfl
theorem Le.hb {t : Tr} {x y z : Nat × Nat} (h : Le t x y) (k : Hb t y z) : Hb t x z := by
 rcases h with rfl | h
 ·exact k
 ·exact h.trans k
theorem Le.trans {t : Tr} {x y z : Nat × Nat} (h : Le t x y) (k : Le t y z) : Le t x z := by
 rcases k with rfl | k
 ·exact h
 ·exact .inr (h.hb k)
theorem hb_row {t : Tr} {p i : Nat} : ∀ {j : Nat}, i < j → j ≤ (evsOf t p).length → Hb t (p, i) (p, j)
 | 0, h, _ => by omega
 | j + 1, h, hl => by
   have d : Dir t (p, j) (p, j + 1) := .inl ⟨rfl, hl⟩
   by_cases hj : i = j
   ·subst hj; exact .one d
   ·exact .more (hb_row (show i < j by omega) oM) d
theorem le_row {t : Tr} {p i j : Nat} (h : i ≤ j) (hl : j ≤ (evsOf t p).length) : Le t (p, i) (p, j) := by
 by_cases hj : i = j
 ·exact .inl (by rw [hj])
 ·exact .inr (hb_row oM hl)

noncomputable def leB (t : Tr) (x y : Nat × Nat) : Bool := @decide (Le t x y) (Classical.propDecidable _)
theorem leB_iff {t : Tr} {x y : Nat × Nat} : leB t x y = true ↔ Le t x y := by unfold leB; exact @decide_eq_true_iff _ (Classical.propDecidable _)
noncomputable def vc (t : Tr) (x : Nat × Nat) (q : Nat) : Nat := (List.range (evsOf t q).length).countP fun i => leB t (q, i + 1) x
theorem count_down {P : Nat → Bool} : ∀ {n : Nat}, (∀ i j, i < n → j ≤ i → P i = true → P j = true) → ∀ i, i < n → (P i = true ↔ i < (List.range n).countP P)
 | 0, _, i, hi => by omega
 | n + 1, h, i, hi => by
   have ih := count_down (P := P) (n := n) (fun i j hi hj hp => h i j oM hj hp)
   have hle := List.countP_le_length (p := P) (l := List.range n)
   rw [List.length_range] at hle
   rw [List.range_succ, List.countP_append, List.countP_singleton]
   by_cases hn : P n = true
   ·have all : ∀ j, j < n → P j = true := fun j hj => h n j oM oM hn
    have hc : (List.range n).countP P = n := by
     rcases Nat.lt_or_ge ((List.range n).countP P) n with hlt | hge
     ·have := (ih _ hlt).1 (all _ hlt); omega
     ·omega
    rw [if_pos hn, hc]
    constructor
    ·intro _; omega
    ·intro _
     rcases Nat.lt_or_ge i n with hlt | hge
     ·exact all i hlt
     ·have : i = n := by omega
      subst this; exact hn
   ·rw [if_neg hn]
    rcases Nat.lt_or_ge i n with hlt | hge
    ·exact ih i hlt
    ·have : i = n := by omega
     subst this
     constructor
     ·intro hp; exact absurd hp hn
     ·intro hp; omega
theorem vc_iff {t : Tr} {x : Nat × Nat} {q i : Nat} (h : i < (evsOf t q).length) : Le t (q, i + 1) x ↔ i < vc t x q := by
 have := count_down (P := fun i => leB t (q, i + 1) x) (n := (evsOf t q).length) (fun i j hi hj hp => by
  rw [leB_iff] at hp ⊢
  exact (le_row oM oM).trans hp) i h
 rw [← leB_iff]
 exact this
theorem vc_le {t : Tr} {x : Nat × Nat} {q : Nat} : vc t x q ≤ (evsOf t q).length := by
 have := List.countP_le_length (p := fun i => leB t (q, i + 1) x) (l := List.range (evsOf t q).length)
 rwa [List.length_range] at this
theorem thresh {a b n : Nat} (ha : a ≤ n) (hb : b ≤ n) (h : ∀ j, j < n → (j < a ↔ j < b)) : a = b := by
 rcases Nat.lt_trichotomy a b with hl | hl | hl
 ·have := (h a oM).2 hl; omega
 ·exact hl
 ·have := (h b oM).1 hl; omega
theorem le_back {t : Tr} (hv : Vok t) {x w : Nat × Nat} (hx : x ∈ ids t) (hw : w ∈ ids t) : Le t w x ↔ w = x ∨ ∃ y ∈ backL t x, Le t w y := by
 constructor
 ·rintro (h | h)
  ·exact .inl h
  ·obtain ⟨y, h1, h2⟩ := h.back
   refine .inr ⟨y, ?_, ?_⟩
   ·refine (mem_backL hv.paired hx).2 ⟨?_, h1⟩
    rcases h2 with rfl | h2
    ·exact hw
    ·exact h2.mem hw
   ·rcases h2 with rfl | h2
    ·exact .inl rfl
    ·exact .inr h2
 ·rintro (h | ⟨y, h1, h2⟩)
  ·exact .inl h
  ·exact .inr (h2.hb (.one ((mem_backL hv.paired hx).1 h1).2))
theorem back_mem {t : Tr} (hv : Vok t) {x y : Nat × Nat} (hx : x ∈ ids t) (hy : y ∈ backL t x) : y ∈ ids t ∧ Hb t y x := by
 obtain ⟨h1, h2⟩ := (mem_backL hv.paired hx).1 hy
 exact ⟨h1, .one h2⟩
noncomputable def sndr (t : Tr) (x : Nat × Nat) : Nat × Nat := findV t 2 (evAt t x).msg
theorem sndr_back {t : Tr} {x : Nat × Nat} (hk : (evAt t x).kind = 3) : sndr t x ∈ backL t x := by
 unfold backL sndr; rw [hk]; simp
noncomputable def rk (t : Tr) (x : Nat × Nat) : Nat := (ids t).countP fun z => leB t z x
theorem countP_lt {α : Type} {P Q : α → Bool} : ∀ {l : List α} {a : α}, (∀ x ∈ l, P x = true → Q x = true) → a ∈ l → P a = false → Q a = true → l.countP P < l.countP Q
 | [], a, _, h, _, _ => by simp at h
 | y :: l, a, h, ha, h1, h2 => by
   have hle : l.countP P ≤ l.countP Q := List.countP_mono_left (fun x hx hp => h x (by simp [hx]) hp)
   rw [List.countP_cons, List.countP_cons]
   rcases List.mem_cons.1 ha with rfl | ha
   ·rw [h1, h2]; simp; omega
   ·have ih := countP_lt (fun x hx => h x (by simp [hx])) ha h1 h2
    have hy := h y (by simp)
    cases hP : P y
    ·simp; omega
    ·rw [hy hP]; simp; omega
theorem rk_lt {t : Tr} (hv : Vok t) {x y : Nat × Nat} (hy : y ∈ ids t) (h : Hb t x y) : rk t x < rk t y := by
 unfold rk
 refine countP_lt (a := y) (fun z _ hz => ?_) hy ?_ (leB_iff.2 (.refl y))
 ·rw [leB_iff] at hz ⊢; exact .inr (hz.hb h)
 ·rw [Bool.eq_false_iff]
  intro hz
  exact hv.acyc y hy ((leB_iff.1 hz).hb h)
theorem some_ready {t : Tr} (hv : Vok t) (D : Nat → Nat) (hD : ∀ p, p < t.length → D p ≤ (evsOf t p).length) (hl : ∃ p, p < t.length ∧ D p < (evsOf t p).length) :
  ∃ p, p < t.length ∧ D p < (evsOf t p).length ∧ ((evAt t (p, D p + 1)).kind = 3 → (sndr t (p, D p + 1)).2 ≤ D (sndr t (p, D p + 1)).1) := by
 obtain ⟨p0, h1, h2⟩ := hl
 have key : ∀ n p, rk t (p, D p + 1) = n → p < t.length → D p < (evsOf t p).length → ∃ p, p < t.length ∧ D p < (evsOf t p).length ∧ ((evAt t (p, D p + 1)).kind = 3 → (sndr t (p, D p + 1)).2 ≤ D (sndr t (p, D p + 1)).1) := by
  intro n
  induction n using Nat.strongRecOn with
  | ind n ih =>
    intro p hn hp hd
    by_cases hr : (evAt t (p, D p + 1)).kind = 3 → (sndr t (p, D p + 1)).2 ≤ D (sndr t (p, D p + 1)).1
    ·exact ⟨p, hp, hd, hr⟩
    ·have hk : (evAt t (p, D p + 1)).kind = 3 := Classical.byContradiction fun h => hr (fun h2 => absurd h2 h)
     have hs : ¬ (sndr t (p, D p + 1)).2 ≤ D (sndr t (p, D p + 1)).1 := fun h => hr (fun _ => h)
     have hx : (p, D p + 1) ∈ ids t := mem_ids2.2 ⟨hp, hd⟩
     obtain ⟨hm, hb⟩ := back_mem hv hx (sndr_back hk)
     generalize sndr t (p, D p + 1) = s at *
     obtain ⟨q, j⟩ := s
     obtain ⟨j, rfl⟩ : ∃ j', j = j' + 1 := by
      obtain ⟨_, h3, _⟩ := mem_ids.1 hm
      exact ⟨j - 1, by simp only at h3; omega⟩
     obtain ⟨hq, hj⟩ := mem_ids2.1 hm
     simp only at hs
     have hle : Le t (q, D q + 1) (q, j + 1) := le_row oM oM
     exact ih _ (by rw [← hn]; exact rk_lt hv hx (hle.hb hb)) q rfl hq oM
 exact key _ p0 rfl h1 h2
end Go.Proofs.Ytanblnhnfkeffaa
