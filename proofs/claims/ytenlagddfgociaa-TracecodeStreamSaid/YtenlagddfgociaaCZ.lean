/- Walks of the reference's frames. No condition but on lengths. -/
import Derived.Test.YtenlagddfgociaaCY
import Derived.Deep.RegionLaw
namespace Go.Proofs.Ytenlagddfgociaa
open Go.RowKit
set_option linter.unusedVariables false

set_option maxRecDepth 100000 in
set_option maxHeartbeats 1000000 in
theorem rFrame_ok (v : Value) (xs : List UInt8) (w : World) (hl : xs.length ≤ 16384) (hs : Sl byt w v xs) :
    Calls Try.prog 18 #[v] w fun e w' => ∃ v', e = .returned v' ∧ Sl byt w' v' (frameL xs) ∧ Ext w w' := by
  obtain ⟨A, c, hv, _, _, hc⟩ := hs.form
  subst hv
  clear hc
  have hb : (xs.length : Int) ≤ 16384 := by omega
  go_enter Try.func18, Try.ntmps18
  go_wp2_with (first
    | (at_builtin; refine wpl_appb (.tmp 17) (.tmp 18) elB byt_one rfl rfl rfl rfl (Own.made (xs := be4 xs.length) w _ (Nat.le_refl _) (by simp [maxLen, be4]) (be4_arr hl)) (hs.ext ((Ext.refl w).alloc _)) (by simp [be4]; omega) (by omega) (by simp) ?_; intro v1 w1 hown1 hgr1 hb1)
    | (go_at_call 33; refine (rsummed_any v1 (be4 xs.length ++ xs) w1 (by simp [be4]; omega) hown1.sl).mono ?_; rintro e w2 ⟨v2, rfl, hown2, he2⟩))
  go_ret
  exact ⟨_, rfl, hown2.sl, (((Ext.refl w).alloc _).more hb1).trans he2⟩

theorem add4 {a b c d : Nat} (ha : a < 256) (hb : b < 256) (hc : c < 256) (hd : d < 256) :
    (a : Int) * 16777216 + (b : Int) * 65536 + (c : Int) * 256 + (d : Int) = ((n4 a b c d : Nat) : Int) := by unfold n4; omega
set_option maxRecDepth 100000 in
set_option maxHeartbeats 2000000 in
theorem rUnframe_full (b off c : Nat) (xs : List UInt8) (w : World) (hl : xs.length ≤ 1000000) (h4 : 4 ≤ xs.length) (hs : Sl byt w (.slice (some ⟨b, off, none⟩) xs.length c) xs)
    (hcell : ∀ (j : Nat) (hj : j < xs.length), w.cell? ⟨b, off + j, none⟩ = some (byt xs[j])) (hbig : 16384 < headN xs) :
    Calls Try.prog 20 #[.slice (some ⟨b, off, none⟩) xs.length c] w (UnPost w (unframeL xs)) := by
  have c0 := hcell 0 (by omega)
  have c1 := hcell 1 (by omega)
  have c2 := hcell 2 (by omega)
  have c3 := hcell 3 (by omega)
  have b0 := (xs[0]).toNat_lt
  have b1 := (xs[1]).toNat_lt
  have b2 := (xs[2]).toNat_lt
  have b3 := (xs[3]).toNat_lt
  have X := add4 b0 b1 b2 b3
  have hn : headN xs = n4 (xs[0]).toNat (xs[1]).toNat (xs[2]).toNat (xs[3]).toNat := by
    unfold headN
    simp [List.getD, List.getElem?_eq_getElem (show 0 < xs.length by omega), List.getElem?_eq_getElem (show 1 < xs.length by omega), List.getElem?_eq_getElem (show 2 < xs.length by omega), List.getElem?_eq_getElem (show 3 < xs.length by omega)]
  have hU : unframeL xs = if 16384 < headN xs then ([], [], 5)
    else if xs.length < headN xs + 6 then ([], [], 4)
    else if crc (xs.take (headN xs + 4)) = (xs.getD (headN xs + 4) 0).toNat * 256 + (xs.getD (headN xs + 5) 0).toNat then ((xs.drop 4).take (headN xs), xs.drop (headN xs + 6), 0)
    else ([], [], 12) := by rw [unframeL, if_neg (by omega)]
  rw [← hn] at X
  have hn0 : 0 ≤ headN xs := Nat.zero_le _
  generalize headN xs = n at *
  clear hn
  have HU := hide hU
  clear hU
  unfold byt at c0 c1 c2 c3
  have i0 : (0 : Int) < (xs.length : Int) := by omega
  have i1 : (1 : Int) < (xs.length : Int) := by omega
  have i2 : (2 : Int) < (xs.length : Int) := by omega
  have i3 : (3 : Int) < (xs.length : Int) := by omega
  simp only [Nat.add_zero] at c0
  generalize (xs[0]).toNat = x0 at *
  generalize (xs[1]).toNat = x1 at *
  generalize (xs[2]).toNat = x2 at *
  generalize (xs[3]).toNat = x3 at *
  have hn : (16385 : Int) ≤ (n : Int) := by omega
  have E := hide (HU.out.trans (if_pos hbig))
  clear HU hcell hbig hs
  go_enter Try.func20, Try.ntmps20
  go_wp2_with fail
  go_quiet (fail)
  go_wp2
  go_ret3
  exact UnPost.nil E.out ((Ext.refl w).drewN _)

set_option maxRecDepth 100000 in
set_option maxHeartbeats 2000000 in
theorem rUnframe_short (b off c : Nat) (xs : List UInt8) (w : World) (hl : xs.length ≤ 1000000) (h4 : 4 ≤ xs.length) (hs : Sl byt w (.slice (some ⟨b, off, none⟩) xs.length c) xs)
    (hcell : ∀ (j : Nat) (hj : j < xs.length), w.cell? ⟨b, off + j, none⟩ = some (byt xs[j])) (hbig : ¬ 16384 < headN xs) (hlen : xs.length < headN xs + 6) :
    Calls Try.prog 20 #[.slice (some ⟨b, off, none⟩) xs.length c] w (UnPost w (unframeL xs)) := by
  have c0 := hcell 0 (by omega)
  have c1 := hcell 1 (by omega)
  have c2 := hcell 2 (by omega)
  have c3 := hcell 3 (by omega)
  have b0 := (xs[0]).toNat_lt
  have b1 := (xs[1]).toNat_lt
  have b2 := (xs[2]).toNat_lt
  have b3 := (xs[3]).toNat_lt
  have X := add4 b0 b1 b2 b3
  have hn : headN xs = n4 (xs[0]).toNat (xs[1]).toNat (xs[2]).toNat (xs[3]).toNat := by
    unfold headN
    simp [List.getD, List.getElem?_eq_getElem (show 0 < xs.length by omega), List.getElem?_eq_getElem (show 1 < xs.length by omega), List.getElem?_eq_getElem (show 2 < xs.length by omega), List.getElem?_eq_getElem (show 3 < xs.length by omega)]
  have hU : unframeL xs = if 16384 < headN xs then ([], [], 5)
    else if xs.length < headN xs + 6 then ([], [], 4)
    else if crc (xs.take (headN xs + 4)) = (xs.getD (headN xs + 4) 0).toNat * 256 + (xs.getD (headN xs + 5) 0).toNat then ((xs.drop 4).take (headN xs), xs.drop (headN xs + 6), 0)
    else ([], [], 12) := by rw [unframeL, if_neg (by omega)]
  rw [← hn] at X
  have hn0 : 0 ≤ headN xs := Nat.zero_le _
  generalize headN xs = n at *
  clear hn
  have HU := hide hU
  clear hU
  unfold byt at c0 c1 c2 c3
  have i0 : (0 : Int) < (xs.length : Int) := by omega
  have i1 : (1 : Int) < (xs.length : Int) := by omega
  have i2 : (2 : Int) < (xs.length : Int) := by omega
  have i3 : (3 : Int) < (xs.length : Int) := by omega
  simp only [Nat.add_zero] at c0
  generalize (xs[0]).toNat = x0 at *
  generalize (xs[1]).toNat = x1 at *
  generalize (xs[2]).toNat = x2 at *
  generalize (xs[3]).toNat = x3 at *
  have E := hide (HU.out.trans (if_neg hbig))
  have hn : (n : Int) ≤ 16384 := by omega
  clear HU
  have E := hide (E.out.trans (if_pos hlen))
  have hd : decide ((xs.length : Int) < (n : Int) + 6) = true := by simp; omega
  clear hcell hbig hs
  go_enter Try.func20, Try.ntmps20
  go_wp2_with fail
  go_quiet (fail)
  go_wp2
  go_ret3
  exact UnPost.nil E.out ((Ext.refl w).drewN _)

set_option maxRecDepth 100000 in
set_option maxHeartbeats 2000000 in
theorem rUnframe_bad (b off c : Nat) (xs : List UInt8) (w : World) (hl : xs.length ≤ 1000000) (h4 : 4 ≤ xs.length) (hs : Sl byt w (.slice (some ⟨b, off, none⟩) xs.length c) xs)
    (hcell : ∀ (j : Nat) (hj : j < xs.length), w.cell? ⟨b, off + j, none⟩ = some (byt xs[j])) (hbig : ¬ 16384 < headN xs) (hlen : ¬ xs.length < headN xs + 6) (hcr : (crc (xs.take (headN xs + 4)) = (xs.getD (headN xs + 4) 0).toNat * 256 + (xs.getD (headN xs + 5) 0).toNat) = False) :
    Calls Try.prog 20 #[.slice (some ⟨b, off, none⟩) xs.length c] w (UnPost w (unframeL xs)) := by
  have c0 := hcell 0 (by omega)
  have c1 := hcell 1 (by omega)
  have c2 := hcell 2 (by omega)
  have c3 := hcell 3 (by omega)
  have b0 := (xs[0]).toNat_lt
  have b1 := (xs[1]).toNat_lt
  have b2 := (xs[2]).toNat_lt
  have b3 := (xs[3]).toNat_lt
  have X := add4 b0 b1 b2 b3
  have hn : headN xs = n4 (xs[0]).toNat (xs[1]).toNat (xs[2]).toNat (xs[3]).toNat := by
    unfold headN
    simp [List.getD, List.getElem?_eq_getElem (show 0 < xs.length by omega), List.getElem?_eq_getElem (show 1 < xs.length by omega), List.getElem?_eq_getElem (show 2 < xs.length by omega), List.getElem?_eq_getElem (show 3 < xs.length by omega)]
  have hU : unframeL xs = if 16384 < headN xs then ([], [], 5)
    else if xs.length < headN xs + 6 then ([], [], 4)
    else if crc (xs.take (headN xs + 4)) = (xs.getD (headN xs + 4) 0).toNat * 256 + (xs.getD (headN xs + 5) 0).toNat then ((xs.drop 4).take (headN xs), xs.drop (headN xs + 6), 0)
    else ([], [], 12) := by rw [unframeL, if_neg (by omega)]
  rw [← hn] at X
  have hn0 : 0 ≤ headN xs := Nat.zero_le _
  generalize headN xs = n at *
  clear hn
  have HU := hide hU
  clear hU
  unfold byt at c0 c1 c2 c3
  have i0 : (0 : Int) < (xs.length : Int) := by omega
  have i1 : (1 : Int) < (xs.length : Int) := by omega
  have i2 : (2 : Int) < (xs.length : Int) := by omega
  have i3 : (3 : Int) < (xs.length : Int) := by omega
  simp only [Nat.add_zero] at c0
  generalize (xs[0]).toNat = x0 at *
  generalize (xs[1]).toNat = x1 at *
  generalize (xs[2]).toNat = x2 at *
  generalize (xs[3]).toNat = x3 at *
  have E := hide (HU.out.trans (if_neg hbig))
  have hn : (n : Int) ≤ 16384 := by omega
  clear HU
  have hd : decide ((xs.length : Int) < (n : Int) + 6) = false := by simp; omega
  have c4 := hcell (n + 4) (by omega)
  have c5 := hcell (n + 5) (by omega)
  have b4 := (xs[n + 4]).toNat_lt
  have b5 := (xs[n + 5]).toNat_lt
  have X2 := or_hl b4 b5
  have E := E.out.trans (if_neg hlen)
  rw [List.getD, List.getElem?_eq_getElem (show n + 4 < xs.length by omega), List.getD, List.getElem?_eq_getElem (show n + 5 < xs.length by omega), Option.getD_some, Option.getD_some] at E
  rw [List.getD, List.getElem?_eq_getElem (show n + 4 < xs.length by omega), List.getD, List.getElem?_eq_getElem (show n + 5 < xs.length by omega), Option.getD_some, Option.getD_some] at hcr
  unfold byt at c4 c5
  have S := hide (fun k => rsum_any _ _ (w.drewN k) (by rw [List.length_take]; omega) ((hs.take (n + 4) (by omega)).drewN k))
  have hcc := crc_lt (xs.take (n + 4))
  have hccb : ((crc (xs.take (n + 4)) : Nat) : Int) ≤ 65535 := by omega
  generalize (xs[n + 4]).toNat = x4 at *
  generalize (xs[n + 5]).toNat = x5 at *
  have E' := hide (E.trans (if_neg (of_eq_false hcr)))
  have hq : (((x4 : Int) != ((crc (xs.take (n + 4)) : Nat) : Int) / 256) = true) ∨ (((x4 : Int) != ((crc (xs.take (n + 4)) : Nat) : Int) / 256) = false ∧ ((x5 : Int) != ((crc (xs.take (n + 4)) : Nat) : Int) % 256) = true) := by
    have hh := of_eq_false hcr
    simp only [bne_iff_ne, bne_eq_false_iff_eq, ne_eq]; omega
  clear hcr hcc
  clear E
  clear hcell
  have i4 : (n : Int) + 4 < (xs.length : Int) := by omega
  have i5 : (n : Int) + 5 < (xs.length : Int) := by omega
  rcases hq with hq | ⟨hq, hq2⟩
  all_goals
    go_enter Try.func20, Try.ntmps20
    go_wp2_with fail
    go_quiet (fail)
    revert nq; intro n1
    obtain ⟨w51, w52, w53⟩ := wrap_addI n 5 5 rfl (by omega)
    have w44 : (n : Int) + 4 ≤ (c : Int) := by have := hs.form; obtain ⟨_, _, hv, h1, _, _⟩ := this; injection hv with _ _ hv; subst hv; omega
    go_wp2_with (go_at_call 16; refine (S.out _).mono ?_; rintro e w1 ⟨rfl, rfl⟩)
    go_ret3
    exact UnPost.nil E'.out (((Ext.refl w).drewN _))

set_option maxRecDepth 100000 in
set_option maxHeartbeats 2000000 in
theorem rUnframe_ok (b off c : Nat) (xs : List UInt8) (w : World) (hl : xs.length ≤ 1000000) (h4 : 4 ≤ xs.length) (hs : Sl byt w (.slice (some ⟨b, off, none⟩) xs.length c) xs)
    (hcell : ∀ (j : Nat) (hj : j < xs.length), w.cell? ⟨b, off + j, none⟩ = some (byt xs[j])) (hbig : ¬ 16384 < headN xs) (hlen : ¬ xs.length < headN xs + 6) (hcr : (crc (xs.take (headN xs + 4)) = (xs.getD (headN xs + 4) 0).toNat * 256 + (xs.getD (headN xs + 5) 0).toNat) = True) :
    Calls Try.prog 20 #[.slice (some ⟨b, off, none⟩) xs.length c] w (UnPost w (unframeL xs)) := by
  have c0 := hcell 0 (by omega)
  have c1 := hcell 1 (by omega)
  have c2 := hcell 2 (by omega)
  have c3 := hcell 3 (by omega)
  have b0 := (xs[0]).toNat_lt
  have b1 := (xs[1]).toNat_lt
  have b2 := (xs[2]).toNat_lt
  have b3 := (xs[3]).toNat_lt
  have X := add4 b0 b1 b2 b3
  have hn : headN xs = n4 (xs[0]).toNat (xs[1]).toNat (xs[2]).toNat (xs[3]).toNat := by
    unfold headN
    simp [List.getD, List.getElem?_eq_getElem (show 0 < xs.length by omega), List.getElem?_eq_getElem (show 1 < xs.length by omega), List.getElem?_eq_getElem (show 2 < xs.length by omega), List.getElem?_eq_getElem (show 3 < xs.length by omega)]
  have hU : unframeL xs = if 16384 < headN xs then ([], [], 5)
    else if xs.length < headN xs + 6 then ([], [], 4)
    else if crc (xs.take (headN xs + 4)) = (xs.getD (headN xs + 4) 0).toNat * 256 + (xs.getD (headN xs + 5) 0).toNat then ((xs.drop 4).take (headN xs), xs.drop (headN xs + 6), 0)
    else ([], [], 12) := by rw [unframeL, if_neg (by omega)]
  rw [← hn] at X
  have hn0 : 0 ≤ headN xs := Nat.zero_le _
  generalize headN xs = n at *
  clear hn
  have HU := hide hU
  clear hU
  unfold byt at c0 c1 c2 c3
  have i0 : (0 : Int) < (xs.length : Int) := by omega
  have i1 : (1 : Int) < (xs.length : Int) := by omega
  have i2 : (2 : Int) < (xs.length : Int) := by omega
  have i3 : (3 : Int) < (xs.length : Int) := by omega
  simp only [Nat.add_zero] at c0
  generalize (xs[0]).toNat = x0 at *
  generalize (xs[1]).toNat = x1 at *
  generalize (xs[2]).toNat = x2 at *
  generalize (xs[3]).toNat = x3 at *
  have E := hide (HU.out.trans (if_neg hbig))
  have hn : (n : Int) ≤ 16384 := by omega
  clear HU
  have hd : decide ((xs.length : Int) < (n : Int) + 6) = false := by simp; omega
  have c4 := hcell (n + 4) (by omega)
  have c5 := hcell (n + 5) (by omega)
  have b4 := (xs[n + 4]).toNat_lt
  have b5 := (xs[n + 5]).toNat_lt
  have X2 := or_hl b4 b5
  have E := E.out.trans (if_neg hlen)
  rw [List.getD, List.getElem?_eq_getElem (show n + 4 < xs.length by omega), List.getD, List.getElem?_eq_getElem (show n + 5 < xs.length by omega), Option.getD_some, Option.getD_some] at E
  rw [List.getD, List.getElem?_eq_getElem (show n + 4 < xs.length by omega), List.getD, List.getElem?_eq_getElem (show n + 5 < xs.length by omega), Option.getD_some, Option.getD_some] at hcr
  unfold byt at c4 c5
  have S := hide (fun k => rsum_any _ _ (w.drewN k) (by rw [List.length_take]; omega) ((hs.take (n + 4) (by omega)).drewN k))
  have hcc := crc_lt (xs.take (n + 4))
  have hccb : ((crc (xs.take (n + 4)) : Nat) : Int) ≤ 65535 := by omega
  generalize (xs[n + 4]).toNat = x4 at *
  generalize (xs[n + 5]).toNat = x5 at *
  have E' := hide (E.trans (if_pos (of_eq_true hcr)))
  have hq1 : ((x4 : Int) != ((crc (xs.take (n + 4)) : Nat) : Int) / 256) = false := by
    have hh := of_eq_true hcr
    rw [bne_eq_false_iff_eq]; omega
  have hq2 : ((x5 : Int) != ((crc (xs.take (n + 4)) : Nat) : Int) % 256) = false := by
    have hh := of_eq_true hcr
    rw [bne_eq_false_iff_eq]; omega
  clear hcr hcc
  clear E
  clear hcell
  have i4 : (n : Int) + 4 < (xs.length : Int) := by omega
  have i5 : (n : Int) + 5 < (xs.length : Int) := by omega
  go_enter Try.func20, Try.ntmps20
  go_wp2_with fail
  go_quiet (fail)
  revert nq; intro n1
  obtain ⟨w51, w52, w53⟩ := wrap_addI n 5 5 rfl (by omega)
  have w44 : (n : Int) + 4 ≤ (c : Int) := by have := hs.form; obtain ⟨_, _, hv, h1, _, _⟩ := this; injection hv with _ _ hv; subst hv; omega
  go_wp2_with (go_at_call 16; refine (S.out _).mono ?_; rintro e w1 ⟨rfl, rfl⟩)
  clear S
  obtain ⟨w61, w62, w63⟩ := wrap_addI n 6 6 rfl (by omega)
  obtain ⟨w41, w42, w43⟩ := wrap_addI n 4 4 rfl (by omega)
  obtain ⟨iB, hiB, _, hsB, _⟩ := elB.inf
  obtain ⟨u1, hu1, su1⟩ := hs.cutLH Try.underlying22 hiB hsB 4 (n + 4) (lI := 4) (kI := (n : Int) + 4) rfl (by push_cast; rfl) (by omega) (by omega)
  obtain ⟨u2, hu2, su2⟩ := hs.cutL Try.underlying22 hiB hsB (n + 6) (lI := (n : Int) + 6) (by push_cast; rfl) (by omega)
  have hxl : ((xs.take (n + 4)).drop 4).length ≤ 1000000 := by rw [List.length_drop, List.length_take]; omega
  have hyl : (xs.drop (n + 6)).length ≤ 1000000 := by rw [List.length_drop]; omega
  have heq : (xs.take (n + 4)).drop 4 = (xs.drop 4).take n := drop_take4 xs n
  have HE := hide heq
  clear heq
  have he0 : Ext w (w.drewN n1) := (Ext.refl w).drewN _
  generalize w.drewN n1 = W at *
  have su1 := su1.ext he0
  have su2 := su2.ext he0
  go_region_law (first
    | (refine step_app0 (.tmp 64) (.tmp 68) elB rfl rfl rfl rfl (su1.ext (by repeat (first | exact Ext.refl _ | assumption | apply Ext.alloc | apply Ext.drew | apply Ext.drewN | (refine Ext.trans ?_ (by assumption))))) (by omega) (by omega) ?_; intro v1 w1 s1 e1)
    | (refine step_app0 (.tmp 70) (.tmp 74) elB rfl rfl rfl rfl (su2.ext (by repeat (first | exact Ext.refl _ | assumption | apply Ext.alloc | apply Ext.drew | apply Ext.drewN | (refine Ext.trans ?_ (by assumption))))) (by omega) (by omega) ?_; intro v2 w2 s2 e2))
  all_goals
    go_wp2
    go_ret3
    refine ⟨v1, v2, by rw [E'.out]; rfl, ?_, ?_, he0.trans (by repeat (first | exact Ext.refl _ | assumption | apply Ext.alloc | apply Ext.drew | apply Ext.drewN | (refine Ext.trans ?_ (by assumption))))⟩
    · rw [E'.out, ← HE.out]; exact s1.ext (by repeat (first | exact Ext.refl _ | assumption | apply Ext.alloc | apply Ext.drew | apply Ext.drewN | (refine Ext.trans ?_ (by assumption))))
    · rw [E'.out]; exact s2.ext (by repeat (first | exact Ext.refl _ | assumption | apply Ext.alloc | apply Ext.drew | apply Ext.drewN | (refine Ext.trans ?_ (by assumption))))

theorem rUnframe_any (v : Value) (xs : List UInt8) (w : World) (hl : xs.length ≤ 1000000) (hs : Sl byt w v xs) :
    Calls Try.prog 20 #[v] w (UnPost w (unframeL xs)) := by
  obtain ⟨A, c, rfl, _, _, hc⟩ := hs.form
  by_cases h4 : xs.length < 4
  · have E := hide (show unframeL xs = ([], [], 4) by rw [unframeL, if_pos h4])
    have hd : decide ((xs.length : Int) < 4) = true := by simp; omega
    clear hc hs
    go_enter Try.func20, Try.ntmps20
    go_wp2
    go_ret3
    exact UnPost.nil E.out (Ext.refl w)
  · obtain ⟨b, off, rfl, _, hall⟩ := hc (by omega)
    by_cases hbig : 16384 < headN xs
    · exact rUnframe_full b off c xs w hl (by omega) hs hall hbig
    · by_cases hlen : xs.length < headN xs + 6
      · exact rUnframe_short b off c xs w hl (by omega) hs hall hbig hlen
      · by_cases hcr : crc (xs.take (headN xs + 4)) = (xs.getD (headN xs + 4) 0).toNat * 256 + (xs.getD (headN xs + 5) 0).toNat
        · exact rUnframe_ok b off c xs w hl (by omega) hs hall hbig hlen (eq_true hcr)
        · exact rUnframe_bad b off c xs w hl (by omega) hs hall hbig hlen (eq_false hcr)
end Go.Proofs.Ytenlagddfgociaa
