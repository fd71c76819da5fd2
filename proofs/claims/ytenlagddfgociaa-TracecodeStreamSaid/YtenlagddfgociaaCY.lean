/- Walks of frames. No condition but on lengths. -/
import Derived.Test.YtenlagddfgociaaCX
import Derived.Test.YtenlagddfgociaaH
namespace Go.Proofs.Ytenlagddfgociaa
open Go.RowKit
set_option linter.unusedVariables false

theorem be4_arr {n : Nat} (h : n ≤ 16384) : #[Value.int .u8 ((n : Int) / 16777216), .int .u8 ((n : Int) / 65536), .int .u8 ((n : Int) / 256), .int .u8 ((n : Int) % 256)] = ((be4 n).map byt).toArray := by
  unfold be4
  rw [List.map_cons, List.map_cons, List.map_cons, List.map_cons, List.map_nil, ofNat_byte _ (show n / 256 < 256 by omega), ofNat_byte _ (show n % 256 < 256 by omega)]
  have e1 : (n : Int) / 16777216 = 0 := by omega
  have e2 : (n : Int) / 65536 = 0 := by omega
  rw [e1, e2]
  rfl
theorem Frame_big (v : Value) (xs : List UInt8) (w : World) (hl : xs.length ≤ 1000000) (hbig : 16384 < xs.length) (hs : Sl byt w v xs) :
    Calls Try.prog 17 #[v] w fun e w' => e = .returned (.tuple #[.slice none 0 0, .int .i64 5]) ∧ w = w' := by
  obtain ⟨A, c, rfl, _, _, hc⟩ := hs.form
  clear hs hc
  have hb : (16385 : Int) ≤ (xs.length : Int) := by omega
  clear hbig
  go_enter Try.func17, Try.ntmps17
  go_wp2
  go_ret2
  exact ⟨rfl, rfl⟩

set_option maxRecDepth 100000 in
set_option maxHeartbeats 1000000 in
theorem Frame_ok (v : Value) (xs : List UInt8) (w : World) (hl : xs.length ≤ 16384) (hs : Sl byt w v xs) :
    Calls Try.prog 17 #[v] w fun e w' => ∃ v', e = .returned (.tuple #[v', .int .i64 0]) ∧ Own byt 5 w' w.heap.size v' (frameL xs) ∧ Ext w w' := by
  obtain ⟨A, c, hv, _, _, hc⟩ := hs.form
  subst hv
  clear hc
  have hb : (xs.length : Int) ≤ 16384 := by omega
  go_enter Try.func17, Try.ntmps17
  go_wp2_with (first
    | (at_builtin; refine wpl_appb (.tmp 20) (.tmp 21) elB byt_one rfl rfl rfl rfl (Own.made (xs := be4 xs.length) w _ (Nat.le_refl _) (by simp [maxLen, be4]) (be4_arr hl)) (hs.ext ((Ext.refl w).alloc _)) (by simp [be4]; omega) (by omega) (by simp) ?_; intro v1 w1 hown1 hgr1 hb1)
    | (go_at_call 32; refine (summed_any w.heap.size v1 (be4 xs.length ++ xs) w1 (by simp [be4]; omega) hown1 (by have := hb1.size; simp at this; omega)).mono ?_; rintro e w2 ⟨v2, rfl, hown2, hgr2⟩))
  go_ret2
  exact ⟨_, rfl, hown2, (((Ext.refl w).alloc _).more hb1).more (hgr2.below (fun k hk => (hown1.lt k hk).1) (by have := hb1.size; simp at this; omega))⟩

theorem or_lo (a b s : Nat) (ha : a < 4294967296) (hs : s ≤ 16) (hb : b < 2 ^ s) : bits .or .i64 ((a : Int) * 2 ^ s) (b : Int) = ((a * 2 ^ s + b : Nat) : Int) := by
  have h16 : (2 : Nat) ^ s ≤ 2 ^ 16 := Nat.pow_le_pow_right (by omega) hs
  have h1 : a * 2 ^ s ≤ 4294967296 * 65536 := Nat.mul_le_mul (by omega) h16
  have e : ((a : Int) * 2 ^ s) = ((a * 2 ^ s : Nat) : Int) := by push_cast; rfl
  rw [e, i64_or_nat _ _ (by omega) (by omega), Nat.mul_comm a, Nat.two_pow_add_eq_or_of_lt hb]
theorem or_hl {a b : Nat} (ha : a < 256) (hb : b < 256) : bits .or .i64 ((a : Int) * 256) (b : Int) = ((a * 256 + b : Nat) : Int) := or_lo a b 8 (by omega) (by omega) hb

def n4 (a b c d : Nat) : Nat := a * 16777216 + b * 65536 + c * 256 + d
theorem or4 {a b c d : Nat} (ha : a < 256) (hb : b < 256) (hc : c < 256) (hd : d < 256) :
    bits .or .i64 (bits .or .i64 (bits .or .i64 ((a : Int) * 16777216) ((b : Int) * 65536)) ((c : Int) * 256)) (d : Int) = ((n4 a b c d : Nat) : Int) := by
  have e1 : bits .or .i64 ((a : Int) * 16777216) ((b : Int) * 65536) = (((a * 256 + b) * 65536 : Nat) : Int) := by
    have h1 : ((a : Int) * 16777216) = ((a * 16777216 : Nat) : Int) := by omega
    have h2 : ((b : Int) * 65536) = ((b * 65536 : Nat) : Int) := by omega
    rw [h1, h2, i64_or_nat _ _ (by omega) (by omega)]
    have h3 := Nat.two_pow_add_eq_or_of_lt (i := 24) (b := b * 65536) (by omega) a
    congr 1
    rw [show a * 16777216 = 2 ^ 24 * a by omega, ← h3]; omega
  have e2 : bits .or .i64 (((a * 256 + b) * 65536 : Nat) : Int) ((c : Int) * 256) = ((((a * 256 + b) * 256 + c) * 256 : Nat) : Int) := by
    have h2 : ((c : Int) * 256) = ((c * 256 : Nat) : Int) := by omega
    rw [h2, i64_or_nat _ _ (by omega) (by omega)]
    have h3 := Nat.two_pow_add_eq_or_of_lt (i := 16) (b := c * 256) (by omega) (a * 256 + b)
    congr 1
    rw [show (a * 256 + b) * 65536 = 2 ^ 16 * (a * 256 + b) by omega, ← h3]; omega
  rw [e1, e2, i64_or_nat _ _ (by omega) (by omega)]
  have h3 := Nat.two_pow_add_eq_or_of_lt (i := 8) (b := d) (by omega) ((a * 256 + b) * 256 + c)
  congr 1
  rw [show ((a * 256 + b) * 256 + c) * 256 = 2 ^ 8 * ((a * 256 + b) * 256 + c) by omega, ← h3]; unfold n4; omega

/-- The number at the head of a frame; the frame that is read. -/
def headN (xs : List UInt8) : Nat := n4 (xs.getD 0 0).toNat (xs.getD 1 0).toNat (xs.getD 2 0).toNat (xs.getD 3 0).toNat
def unframeL (xs : List UInt8) : List UInt8 × List UInt8 × Int :=
  if xs.length < 4 then ([], [], 4)
  else if 16384 < headN xs then ([], [], 5)
  else if xs.length < headN xs + 6 then ([], [], 4)
  else if crc (xs.take (headN xs + 4)) = (xs.getD (headN xs + 4) 0).toNat * 256 + (xs.getD (headN xs + 5) 0).toNat then ((xs.drop 4).take (headN xs), xs.drop (headN xs + 6), 0)
  else ([], [], 12)

theorem drop_take4 (xs : List UInt8) (n : Nat) : (xs.take (n + 4)).drop 4 = (xs.drop 4).take n := by rw [List.drop_take, Nat.add_sub_cancel]
def UnPost (w : World) (r : List UInt8 × List UInt8 × Int) (e : Ending) (w' : World) : Prop :=
  ∃ u v, e = .returned (.tuple #[u, v, .int .i64 r.2.2]) ∧ Sl byt w' u r.1 ∧ Sl byt w' v r.2.1 ∧ Ext w w'
theorem UnPost.nil {w w' : World} {r : List UInt8 × List UInt8 × Int} {k : Int} (h : r = ([], [], k)) (he : Ext w w') : UnPost w r (.returned (.tuple #[.slice none 0 0, .slice none 0 0, .int .i64 k])) w' := by
  subst h
  exact ⟨_, _, rfl, Sl.nil _ _, Sl.nil _ _, he⟩

set_option maxRecDepth 100000 in
set_option maxHeartbeats 2000000 in
theorem Unframe_full (b off c : Nat) (xs : List UInt8) (w : World) (hl : xs.length ≤ 1000000) (h4 : 4 ≤ xs.length) (hs : Sl byt w (.slice (some ⟨b, off, none⟩) xs.length c) xs)
    (hcell : ∀ (j : Nat) (hj : j < xs.length), w.cell? ⟨b, off + j, none⟩ = some (byt xs[j])) (hbig : 16384 < headN xs) :
    Calls Try.prog 19 #[.slice (some ⟨b, off, none⟩) xs.length c] w (UnPost w (unframeL xs)) := by
  have c0 := hcell 0 (by omega)
  have c1 := hcell 1 (by omega)
  have c2 := hcell 2 (by omega)
  have c3 := hcell 3 (by omega)
  have b0 := (xs[0]).toNat_lt
  have b1 := (xs[1]).toNat_lt
  have b2 := (xs[2]).toNat_lt
  have b3 := (xs[3]).toNat_lt
  have X := or4 b0 b1 b2 b3
  have hn : headN xs = n4 (xs[0]).toNat (xs[1]).toNat (xs[2]).toNat (xs[3]).toNat := by
    unfold headN
    simp [List.getD, List.getElem?_eq_getElem (show 0 < xs.length by omega), List.getElem?_eq_getElem (show 1 < xs.length by omega), List.getElem?_eq_getElem (show 2 < xs.length by omega), List.getElem?_eq_getElem (show 3 < xs.length by omega)]
  have hU : unframeL xs = if 16384 < headN xs then ([], [], 5)
    else if xs.length < headN xs + 6 then ([], [], 4)
    else if crc (xs.take (headN xs + 4)) = (xs.getD (headN xs + 4) 0).toNat * 256 + (xs.getD (headN xs + 5) 0).toNat then ((xs.drop 4).take (headN xs), xs.drop (headN xs + 6), 0)
    else ([], [], 12) := by rw [unframeL, if_neg (by omega)]
  rw [← hn] at X
  have hn0 : 0 ≤ headN xs := Nat.zero_le _
  generalize headN xs = n at *
  clear hn
  have HU := hide hU
  clear hU
  unfold byt at c0 c1 c2 c3
  have i0 : (0 : Int) < (xs.length : Int) := by omega
  have i1 : (1 : Int) < (xs.length : Int) := by omega
  have i2 : (2 : Int) < (xs.length : Int) := by omega
  have i3 : (3 : Int) < (xs.length : Int) := by omega
  simp only [Nat.add_zero] at c0
  generalize (xs[0]).toNat = x0 at *
  generalize (xs[1]).toNat = x1 at *
  generalize (xs[2]).toNat = x2 at *
  generalize (xs[3]).toNat = x3 at *
  have hn : (16385 : Int) ≤ (n : Int) := by omega
  have E := hide (HU.out.trans (if_pos hbig))
  clear HU hcell hbig hs
  go_enter Try.func19, Try.ntmps19
  go_wp2_with fail
  go_quiet (fail)
  go_wp2
  go_ret3
  exact UnPost.nil E.out ((Ext.refl w).drewN _)

set_option maxRecDepth 100000 in
set_option maxHeartbeats 2000000 in
theorem Unframe_short (b off c : Nat) (xs : List UInt8) (w : World) (hl : xs.length ≤ 1000000) (h4 : 4 ≤ xs.length) (hs : Sl byt w (.slice (some ⟨b, off, none⟩) xs.length c) xs)
    (hcell : ∀ (j : Nat) (hj : j < xs.length), w.cell? ⟨b, off + j, none⟩ = some (byt xs[j])) (hbig : ¬ 16384 < headN xs) (hlen : xs.length < headN xs + 6) :
    Calls Try.prog 19 #[.slice (some ⟨b, off, none⟩) xs.length c] w (UnPost w (unframeL xs)) := by
  have c0 := hcell 0 (by omega)
  have c1 := hcell 1 (by omega)
  have c2 := hcell 2 (by omega)
  have c3 := hcell 3 (by omega)
  have b0 := (xs[0]).toNat_lt
  have b1 := (xs[1]).toNat_lt
  have b2 := (xs[2]).toNat_lt
  have b3 := (xs[3]).toNat_lt
  have X := or4 b0 b1 b2 b3
  have hn : headN xs = n4 (xs[0]).toNat (xs[1]).toNat (xs[2]).toNat (xs[3]).toNat := by
    unfold headN
    simp [List.getD, List.getElem?_eq_getElem (show 0 < xs.length by omega), List.getElem?_eq_getElem (show 1 < xs.length by omega), List.getElem?_eq_getElem (show 2 < xs.length by omega), List.getElem?_eq_getElem (show 3 < xs.length by omega)]
  have hU : unframeL xs = if 16384 < headN xs then ([], [], 5)
    else if xs.length < headN xs + 6 then ([], [], 4)
    else if crc (xs.take (headN xs + 4)) = (xs.getD (headN xs + 4) 0).toNat * 256 + (xs.getD (headN xs + 5) 0).toNat then ((xs.drop 4).take (headN xs), xs.drop (headN xs + 6), 0)
    else ([], [], 12) := by rw [unframeL, if_neg (by omega)]
  rw [← hn] at X
  have hn0 : 0 ≤ headN xs := Nat.zero_le _
  generalize headN xs = n at *
  clear hn
  have HU := hide hU
  clear hU
  unfold byt at c0 c1 c2 c3
  have i0 : (0 : Int) < (xs.length : Int) := by omega
  have i1 : (1 : Int) < (xs.length : Int) := by omega
  have i2 : (2 : Int) < (xs.length : Int) := by omega
  have i3 : (3 : Int) < (xs.length : Int) := by omega
  simp only [Nat.add_zero] at c0
  generalize (xs[0]).toNat = x0 at *
  generalize (xs[1]).toNat = x1 at *
  generalize (xs[2]).toNat = x2 at *
  generalize (xs[3]).toNat = x3 at *
  have E := hide (HU.out.trans (if_neg hbig))
  have hn : (n : Int) ≤ 16384 := by omega
  clear HU
  have E := hide (E.out.trans (if_pos hlen))
  have hd : decide ((xs.length : Int) < (n : Int) + 6) = true := by simp; omega
  clear hcell hbig hs
  go_enter Try.func19, Try.ntmps19
  go_wp2_with fail
  go_quiet (fail)
  go_wp2
  go_ret3
  exact UnPost.nil E.out ((Ext.refl w).drewN _)

set_option maxRecDepth 100000 in
set_option maxHeartbeats 2000000 in
theorem Unframe_bad (b off c : Nat) (xs : List UInt8) (w : World) (hl : xs.length ≤ 1000000) (h4 : 4 ≤ xs.length) (hs : Sl byt w (.slice (some ⟨b, off, none⟩) xs.length c) xs)
    (hcell : ∀ (j : Nat) (hj : j < xs.length), w.cell? ⟨b, off + j, none⟩ = some (byt xs[j])) (hbig : ¬ 16384 < headN xs) (hlen : ¬ xs.length < headN xs + 6) (hcr : (crc (xs.take (headN xs + 4)) = (xs.getD (headN xs + 4) 0).toNat * 256 + (xs.getD (headN xs + 5) 0).toNat) = False) :
    Calls Try.prog 19 #[.slice (some ⟨b, off, none⟩) xs.length c] w (UnPost w (unframeL xs)) := by
  have c0 := hcell 0 (by omega)
  have c1 := hcell 1 (by omega)
  have c2 := hcell 2 (by omega)
  have c3 := hcell 3 (by omega)
  have b0 := (xs[0]).toNat_lt
  have b1 := (xs[1]).toNat_lt
  have b2 := (xs[2]).toNat_lt
  have b3 := (xs[3]).toNat_lt
  have X := or4 b0 b1 b2 b3
  have hn : headN xs = n4 (xs[0]).toNat (xs[1]).toNat (xs[2]).toNat (xs[3]).toNat := by
    unfold headN
    simp [List.getD, List.getElem?_eq_getElem (show 0 < xs.length by omega), List.getElem?_eq_getElem (show 1 < xs.length by omega), List.getElem?_eq_getElem (show 2 < xs.length by omega), List.getElem?_eq_getElem (show 3 < xs.length by omega)]
  have hU : unframeL xs = if 16384 < headN xs then ([], [], 5)
    else if xs.length < headN xs + 6 then ([], [], 4)
    else if crc (xs.take (headN xs + 4)) = (xs.getD (headN xs + 4) 0).toNat * 256 + (xs.getD (headN xs + 5) 0).toNat then ((xs.drop 4).take (headN xs), xs.drop (headN xs + 6), 0)
    else ([], [], 12) := by rw [unframeL, if_neg (by omega)]
  rw [← hn] at X
  have hn0 : 0 ≤ headN xs := Nat.zero_le _
  generalize headN xs = n at *
  clear hn
  have HU := hide hU
  clear hU
  unfold byt at c0 c1 c2 c3
  have i0 : (0 : Int) < (xs.length : Int) := by omega
  have i1 : (1 : Int) < (xs.length : Int) := by omega
  have i2 : (2 : Int) < (xs.length : Int) := by omega
  have i3 : (3 : Int) < (xs.length : Int) := by omega
  simp only [Nat.add_zero] at c0
  generalize (xs[0]).toNat = x0 at *
  generalize (xs[1]).toNat = x1 at *
  generalize (xs[2]).toNat = x2 at *
  generalize (xs[3]).toNat = x3 at *
  have E := hide (HU.out.trans (if_neg hbig))
  have hn : (n : Int) ≤ 16384 := by omega
  clear HU
  have hd : decide ((xs.length : Int) < (n : Int) + 6) = false := by simp; omega
  have c4 := hcell (n + 4) (by omega)
  have c5 := hcell (n + 5) (by omega)
  have b4 := (xs[n + 4]).toNat_lt
  have b5 := (xs[n + 5]).toNat_lt
  have X2 := or_hl b4 b5
  have E := E.out.trans (if_neg hlen)
  rw [List.getD, List.getElem?_eq_getElem (show n + 4 < xs.length by omega), List.getD, List.getElem?_eq_getElem (show n + 5 < xs.length by omega), Option.getD_some, Option.getD_some] at E
  rw [List.getD, List.getElem?_eq_getElem (show n + 4 < xs.length by omega), List.getD, List.getElem?_eq_getElem (show n + 5 < xs.length by omega), Option.getD_some, Option.getD_some] at hcr
  unfold byt at c4 c5
  have S := hide (fun k => sum_any _ _ (w.drewN k) (by rw [List.length_take]; omega) ((hs.take (n + 4) (by omega)).drewN k))
  generalize (xs[n + 4]).toNat = x4 at *
  generalize (xs[n + 5]).toNat = x5 at *
  have E' := hide (E.trans (if_neg (of_eq_false hcr)))
  have hq : (((crc (xs.take (n + 4)) : Nat) : Int) != (x4 : Int) * 256 + x5) = true := by
    rw [bne_iff_ne]; intro hh; exact (of_eq_false hcr) (by omega)
  clear hcr
  clear E
  clear hcell
  have i4 : (n : Int) + 4 < (xs.length : Int) := by omega
  have i5 : (n : Int) + 5 < (xs.length : Int) := by omega
  go_enter Try.func19, Try.ntmps19
  go_wp2_with fail
  go_quiet (fail)
  revert nq; intro n1
  go_wp2_with fail
  obtain ⟨w41, w42, w43⟩ := wrap_addI n 4 4 rfl (by omega)
  obtain ⟨w51, w52, w53⟩ := wrap_addI n 5 5 rfl (by omega)
  have w44 : (n : Int) + 4 ≤ (c : Int) := by have := hs.form; obtain ⟨_, _, hv, h1, _, _⟩ := this; injection hv with _ _ hv; subst hv; omega
  go_quiet ((go_at_call 15; go_must (exact quiet_left (S.out _))))
  obtain ⟨w61, w62, w63⟩ := wrap_addI n 6 6 rfl (by omega)
  go_wp2_with fail
  go_ret3
  exact UnPost.nil E'.out (((Ext.refl w).drewN _).drewN _)


set_option maxRecDepth 100000 in
set_option maxHeartbeats 2000000 in
theorem Unframe_ok (b off c : Nat) (xs : List UInt8) (w : World) (hl : xs.length ≤ 1000000) (h4 : 4 ≤ xs.length) (hs : Sl byt w (.slice (some ⟨b, off, none⟩) xs.length c) xs)
    (hcell : ∀ (j : Nat) (hj : j < xs.length), w.cell? ⟨b, off + j, none⟩ = some (byt xs[j])) (hbig : ¬ 16384 < headN xs) (hlen : ¬ xs.length < headN xs + 6) (hcr : (crc (xs.take (headN xs + 4)) = (xs.getD (headN xs + 4) 0).toNat * 256 + (xs.getD (headN xs + 5) 0).toNat) = True) :
    Calls Try.prog 19 #[.slice (some ⟨b, off, none⟩) xs.length c] w (UnPost w (unframeL xs)) := by
  have c0 := hcell 0 (by omega)
  have c1 := hcell 1 (by omega)
  have c2 := hcell 2 (by omega)
  have c3 := hcell 3 (by omega)
  have b0 := (xs[0]).toNat_lt
  have b1 := (xs[1]).toNat_lt
  have b2 := (xs[2]).toNat_lt
  have b3 := (xs[3]).toNat_lt
  have X := or4 b0 b1 b2 b3
  have hn : headN xs = n4 (xs[0]).toNat (xs[1]).toNat (xs[2]).toNat (xs[3]).toNat := by
    unfold headN
    simp [List.getD, List.getElem?_eq_getElem (show 0 < xs.length by omega), List.getElem?_eq_getElem (show 1 < xs.length by omega), List.getElem?_eq_getElem (show 2 < xs.length by omega), List.getElem?_eq_getElem (show 3 < xs.length by omega)]
  have hU : unframeL xs = if 16384 < headN xs then ([], [], 5)
    else if xs.length < headN xs + 6 then ([], [], 4)
    else if crc (xs.take (headN xs + 4)) = (xs.getD (headN xs + 4) 0).toNat * 256 + (xs.getD (headN xs + 5) 0).toNat then ((xs.drop 4).take (headN xs), xs.drop (headN xs + 6), 0)
    else ([], [], 12) := by rw [unframeL, if_neg (by omega)]
  rw [← hn] at X
  have hn0 : 0 ≤ headN xs := Nat.zero_le _
  generalize headN xs = n at *
  clear hn
  have HU := hide hU
  clear hU
  unfold byt at c0 c1 c2 c3
  have i0 : (0 : Int) < (xs.length : Int) := by omega
  have i1 : (1 : Int) < (xs.length : Int) := by omega
  have i2 : (2 : Int) < (xs.length : Int) := by omega
  have i3 : (3 : Int) < (xs.length : Int) := by omega
  simp only [Nat.add_zero] at c0
  generalize (xs[0]).toNat = x0 at *
  generalize (xs[1]).toNat = x1 at *
  generalize (xs[2]).toNat = x2 at *
  generalize (xs[3]).toNat = x3 at *
  have E := hide (HU.out.trans (if_neg hbig))
  have hn : (n : Int) ≤ 16384 := by omega
  clear HU
  have hd : decide ((xs.length : Int) < (n : Int) + 6) = false := by simp; omega
  have c4 := hcell (n + 4) (by omega)
  have c5 := hcell (n + 5) (by omega)
  have b4 := (xs[n + 4]).toNat_lt
  have b5 := (xs[n + 5]).toNat_lt
  have X2 := or_hl b4 b5
  have E := E.out.trans (if_neg hlen)
  rw [List.getD, List.getElem?_eq_getElem (show n + 4 < xs.length by omega), List.getD, List.getElem?_eq_getElem (show n + 5 < xs.length by omega), Option.getD_some, Option.getD_some] at E
  rw [List.getD, List.getElem?_eq_getElem (show n + 4 < xs.length by omega), List.getD, List.getElem?_eq_getElem (show n + 5 < xs.length by omega), Option.getD_some, Option.getD_some] at hcr
  unfold byt at c4 c5
  have S := hide (fun k => sum_any _ _ (w.drewN k) (by rw [List.length_take]; omega) ((hs.take (n + 4) (by omega)).drewN k))
  generalize (xs[n + 4]).toNat = x4 at *
  generalize (xs[n + 5]).toNat = x5 at *
  have E' := hide (E.trans (if_pos (of_eq_true hcr)))
  have hq : (((crc (xs.take (n + 4)) : Nat) : Int) != (x4 : Int) * 256 + x5) = false := by
    have hh := of_eq_true hcr
    rw [bne_eq_false_iff_eq]; omega
  clear hcr
  clear E
  clear hcell
  have i4 : (n : Int) + 4 < (xs.length : Int) := by omega
  have i5 : (n : Int) + 5 < (xs.length : Int) := by omega
  go_enter Try.func19, Try.ntmps19
  go_wp2_with fail
  go_quiet (fail)
  revert nq; intro n1
  go_wp2_with fail
  obtain ⟨w41, w42, w43⟩ := wrap_addI n 4 4 rfl (by omega)
  obtain ⟨w51, w52, w53⟩ := wrap_addI n 5 5 rfl (by omega)
  have w44 : (n : Int) + 4 ≤ (c : Int) := by have := hs.form; obtain ⟨_, _, hv, h1, _, _⟩ := this; injection hv with _ _ hv; subst hv; omega
  go_quiet ((go_at_call 15; go_must (exact quiet_left (S.out _))))
  obtain ⟨w61, w62, w63⟩ := wrap_addI n 6 6 rfl (by omega)
  go_wp2_with fail
  clear S
  obtain ⟨iB, hiB, _, hsB, _⟩ := elB.inf
  obtain ⟨u1, hu1, su1⟩ := hs.cutLH Try.underlying22 hiB hsB 4 (n + 4) (lI := 4) (kI := (n : Int) + 4) rfl (by push_cast; rfl) (by omega) (by omega)
  obtain ⟨u2, hu2, su2⟩ := hs.cutL Try.underlying22 hiB hsB (n + 6) (lI := (n : Int) + 6) (by push_cast; rfl) (by omega)
  have hxl : ((xs.take (n + 4)).drop 4).length ≤ 1000000 := by rw [List.length_drop, List.length_take]; omega
  have hyl : (xs.drop (n + 6)).length ≤ 1000000 := by rw [List.length_drop]; omega
  have heq : (xs.take (n + 4)).drop 4 = (xs.drop 4).take n := drop_take4 xs n
  have HE := hide heq
  clear heq
  have he0 : Ext w ((w.drewN n1).drewN nq) := ((Ext.refl w).drewN _).drewN _
  generalize (w.drewN n1).drewN nq = W at *
  have su1 := su1.ext (he0.drew)
  have su2 := su2.ext (he0.drew)
  have K1 := hide (clone_any u1 _ W.drew hxl su1)
  go_region_with (first
    | (go_at_call_of 21 u1; go_must (refine K1.out.mono ?_); rintro e w1 ⟨v1, rfl, hown1, he1⟩)
    | (go_at_call_of 21 u2; go_must (refine (clone_any u2 _ _ hyl (su2.ext (by assumption))).mono ?_); rintro e w2 ⟨v2, rfl, hown2, he2⟩))
  go_wp2
  go_ret3
  refine ⟨v1, v2, by rw [E'.out]; rfl, ?_, ?_, he0.trans (((Ext.refl W).drew).trans (he1.trans he2))⟩
  · rw [E'.out, ← HE.out]; exact (hown1.sl).ext he2
  · rw [E'.out]; exact hown2.sl

theorem Unframe_any (v : Value) (xs : List UInt8) (w : World) (hl : xs.length ≤ 1000000) (hs : Sl byt w v xs) :
    Calls Try.prog 19 #[v] w (UnPost w (unframeL xs)) := by
  obtain ⟨A, c, rfl, _, _, hc⟩ := hs.form
  by_cases h4 : xs.length < 4
  · have E := hide (show unframeL xs = ([], [], 4) by rw [unframeL, if_pos h4])
    have hd : decide ((xs.length : Int) < 4) = true := by simp; omega
    clear hc hs
    go_enter Try.func19, Try.ntmps19
    go_wp2
    go_ret3
    exact UnPost.nil E.out (Ext.refl w)
  · obtain ⟨b, off, rfl, _, hall⟩ := hc (by omega)
    by_cases hbig : 16384 < headN xs
    · exact Unframe_full b off c xs w hl (by omega) hs hall hbig
    · by_cases hlen : xs.length < headN xs + 6
      · exact Unframe_short b off c xs w hl (by omega) hs hall hbig hlen
      · by_cases hcr : crc (xs.take (headN xs + 4)) = (xs.getD (headN xs + 4) 0).toNat * 256 + (xs.getD (headN xs + 5) 0).toNat
        · exact Unframe_ok b off c xs w hl (by omega) hs hall hbig hlen (eq_true hcr)
        · exact Unframe_bad b off c xs w hl (by omega) hs hall hbig hlen (eq_false hcr)
end Go.Proofs.Ytenlagddfgociaa
