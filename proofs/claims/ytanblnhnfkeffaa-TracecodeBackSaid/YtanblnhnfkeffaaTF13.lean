/- Texts of one proof, laid together: Z1, Z2, Z3, Z4. No condition. -/
import Derived.Test.YtanblnhnfkeffaaTC8
import Derived.Test.YtanblnhnfkeffaaTC3
import Derived.Test.YtanblnhnfkeffaaTC5
namespace Go.Proofs.Ytanblnhnfkeffaa
set_option linter.unusedVariables false
def namC (s : ByteArray) : List UInt8 := putL s.size ++ s.data.toList
def bodyAsg (a : Asg) : List UInt8 := putL a.v ++ putL a.val
def bodyVr (v : Vr) : List UInt8 := namC v.name ++ putL v.init
def bodyEv (last : Int) (e : Ev) : List UInt8 := putL e.kind ++ putL e.peer ++ putL e.msg ++ putL (e.time - last) ++ putL e.asg.length ++ e.asg.flatMap bodyAsg
def lastE (l : List Ev) : Int := match l.getLast? with
 | some e => e.time
 | none => 0
def bodyEvs (l : List Ev) : Nat → List UInt8
 | 0 => []
 | k + 1 => match l[k]? with
   | some e => bodyEvs l k ++ bodyEv (lastE (l.take k)) e
   | none => bodyEvs l k
def bodyPr (p : Pr) : List UInt8 := namC p.name ++ putL p.vars.length ++ p.vars.flatMap bodyVr ++ putL p.evs.length ++ bodyEvs p.evs p.evs.length
def bodyT (t : Tr) : List UInt8 := putL t.length ++ t.flatMap bodyPr
def codeL (t : Tr) : List UInt8 := sumL (bodyT t)
abbrev RS := List UInt8 × Bool
def rdNum (s : RS) : Int × RS := if s.2 = true ∨ (getL s.1).2.2 ≠ 0 then (0, (s.1, true)) else ((getL s.1).1, (s.1.drop (getL s.1).2.1.toNat, false))
def cntOf (r : Int × RS) : Nat × RS := if r.1 < 0 ∨ (r.2.1.length : Int) < r.1 then (0, (r.2.1, true)) else (r.1.toNat, r.2)
def rdCnt (s : RS) : Nat × RS := cntOf (rdNum s)
def nameOf (r : Nat × RS) : List UInt8 × RS := (r.2.1.take r.1, (r.2.1.drop r.1, r.2.2))
def rdName (s : RS) : List UInt8 × RS := nameOf (rdCnt s)
def rdRep {α : Type} (f : List α → RS → α × RS) : Nat → RS → List α × RS
 | 0, s => ([], s)
 | n + 1, s => if (rdRep f n s).2.2 = true then rdRep f n s else
   if (f (rdRep f n s).1 (rdRep f n s).2).2.2 = true then ((rdRep f n s).1, (f (rdRep f n s).1 (rdRep f n s).2).2)
   else ((rdRep f n s).1 ++ [(f (rdRep f n s).1 (rdRep f n s).2).1], (f (rdRep f n s).1 (rdRep f n s).2).2)
def rdRepR {α : Type} (f : List α → RS → α × RS) : Nat → RS → List α × RS
 | 0, s => ([], s)
 | n + 1, s => if (rdRepR f n s).2.2 = true then rdRepR f n s else
   ((rdRepR f n s).1 ++ [(f (rdRepR f n s).1 (rdRepR f n s).2).1], (f (rdRepR f n s).1 (rdRepR f n s).2).2)
def rdAsg (s : RS) : Asg × RS := (⟨(rdNum s).1, (rdNum (rdNum s).2).1⟩, (rdNum (rdNum s).2).2)
def baOf (l : List UInt8) : ByteArray := ⟨l.toArray⟩
def rdVr (s : RS) : Vr × RS := (⟨baOf (rdName s).1, (rdNum (rdName s).2).1⟩, (rdNum (rdName s).2).2)
def rd1 (s : RS) := rdNum s
def rd2 (s : RS) := rdNum (rd1 s).2
def rd3 (s : RS) := rdNum (rd2 s).2
def rd4 (s : RS) := rdNum (rd3 s).2
def rd5 (s : RS) := rdCnt (rd4 s).2
def rdEvG (rep : Nat → RS → List Asg × RS) (last : Int) (s : RS) : Ev × RS := (⟨(rd1 s).1, (rd2 s).1, (rd3 s).1, last + (rd4 s).1, (rep (rd5 s).1 (rd5 s).2).1⟩, (rep (rd5 s).1 (rd5 s).2).2)
def rdEv (last : Int) (s : RS) : Ev × RS := rdEvG (rdRep fun _ => rdAsg) last s
def rdEvR (last : Int) (s : RS) : Ev × RS := rdEvG (rdRepR fun _ => rdAsg) last s
def rdP0 (s : RS) := rdName s
def rdP1 (s : RS) := rdCnt (rdP0 s).2
def rdP2 (s : RS) : List Vr × RS := rdRep (fun _ => rdVr) (rdP1 s).1 (rdP1 s).2
def rdP3 (s : RS) := rdCnt (rdP2 s).2
def rdP4 (s : RS) : List Ev × RS := rdRep (fun l => rdEv (lastE l)) (rdP3 s).1 (rdP3 s).2
def rdPr (s : RS) : Pr × RS := if (rdP2 s).2.2 = true then (⟨baOf (rdP0 s).1, (rdP2 s).1, []⟩, (rdP2 s).2) else (⟨baOf (rdP0 s).1, (rdP2 s).1, (rdP4 s).1⟩, (rdP4 s).2)
def rdQ2 (s : RS) : List Vr × RS := rdRepR (fun _ => rdVr) (rdP1 s).1 (rdP1 s).2
def rdQ3 (s : RS) := rdCnt (rdQ2 s).2
def rdQ4 (s : RS) : List Ev × RS := rdRepR (fun l => rdEvR (lastE l)) (rdQ3 s).1 (rdQ3 s).2
def rdPrR (s : RS) : Pr × RS := (⟨baOf (rdP0 s).1, (rdQ2 s).1, (rdQ4 s).1⟩, (rdQ4 s).2)
def rdT (s : RS) : Tr × RS := rdRep (fun _ => rdPr) (rdCnt s).1 (rdCnt s).2
def rdTR (s : RS) : Tr × RS := rdRepR (fun _ => rdPrR) (rdCnt s).1 (rdCnt s).2
theorem rdNum_bad {s : RS} (h : s.2 = true) : rdNum s = (0, s) := by
 obtain ⟨b, w⟩ := s
 unfold rdNum
 rw [if_pos (.inl h)]
 simp only at h
 rw [h]
theorem rdCnt_bad {s : RS} (h : s.2 = true) : rdCnt s = (0, s) := by
 unfold rdCnt
 rw [rdNum_bad h]
 unfold cntOf
 rw [if_neg (by simp only; omega)]
 rfl
theorem rdRepR_bad {α : Type} {f : List α → RS → α × RS} {n : Nat} {s : RS} (h : s.2 = true) : rdRepR f n s = ([], s) := by
 induction n with
 | zero => rfl
 | succ n ih => rw [rdRepR, ih, if_pos h]
def Alike {α : Type} (x y : α × RS) : Prop := x.2 = y.2 ∧ (x.2.2 = false → x.1 = y.1)
theorem Alike.rfl' {α : Type} {x : α × RS} : Alike x x := ⟨rfl, fun _ => rfl⟩
theorem rep_alike {α : Type} {f g : List α → RS → α × RS} (h : ∀ l s, s.2 = false → Alike (f l s) (g l s)) (n : Nat) (s : RS) : Alike (rdRep f n s) (rdRepR g n s) := by
 induction n with
 | zero => exact .rfl'
 | succ n ih =>
   obtain ⟨h1, h2⟩ := ih
   rw [rdRep, rdRepR]
   cases hb : (rdRep f n s).2.2 with
   | true =>
     rw [if_pos rfl, if_pos (by rw [← h1]; exact hb)]
     exact ⟨h1, h2⟩
   | false =>
     have h3 := h2 hb
     have h4 := h (rdRep f n s).1 (rdRep f n s).2 hb
     rw [if_neg (by decide), if_neg (c := (rdRepR g n s).2.2 = true) (by rw [← h1, hb]; decide), ← h1, ← h3]
     cases hc : (f (rdRep f n s).1 (rdRep f n s).2).2.2 with
     | true =>
       rw [if_pos rfl]
       exact ⟨h4.1, fun h => by rw [hc] at h; cases h⟩
     | false =>
       rw [if_neg (by decide)]
       exact ⟨h4.1, fun h => by rw [h4.2 hc]⟩
theorem ev_alike (last : Int) (s : RS) : Alike (rdEv last s) (rdEvR last s) := by
 have h := rep_alike (f := fun _ => rdAsg) (g := fun _ => rdAsg) (fun _ _ _ => .rfl') (rd5 s).1 (rd5 s).2
 unfold rdEv rdEvR rdEvG
 refine ⟨h.1, fun hb => ?_⟩
 have := h.2 hb
 simp only [this]
theorem vrs_alike (s : RS) : Alike (rdP2 s) (rdQ2 s) := rep_alike (fun _ _ _ => .rfl') _ _
theorem evs_alike (n : Nat) (s : RS) : Alike (rdRep (fun l => rdEv (lastE l)) n s) (rdRepR (fun l => rdEvR (lastE l)) n s) := rep_alike (fun l s _ => ev_alike _ _) _ _
theorem pr_alike (s : RS) : Alike (rdPr s) (rdPrR s) := by
 have h2 := vrs_alike s
 unfold rdPr rdPrR rdQ4 rdQ3
 rw [← h2.1]
 cases hb : (rdP2 s).2.2 with
 | true =>
   rw [if_pos rfl, rdCnt_bad hb, rdRepR_bad hb]
   exact ⟨rfl, fun h => by simp only [hb] at h; cases h⟩
 | false =>
   have h4 := evs_alike (rdP3 s).1 (rdP3 s).2
   rw [if_neg (by decide)]
   unfold rdP4
   refine ⟨h4.1, fun h => ?_⟩
   have e := h4.2 h
   unfold rdP3 at e ⊢
   simp only [e, h2.2 hb]
theorem t_alike (s : RS) : Alike (rdT s) (rdTR s) := rep_alike (fun l s _ => pr_alike s) _ _
end Go.Proofs.Ytanblnhnfkeffaa
namespace Go.Proofs.Ytanblnhnfkeffaa
set_option linter.unusedVariables false
theorem xor_back (a c : Nat) : a ^^^ c ^^^ c = a := by rw [Nat.xor_assoc, Nat.xor_self, Nat.xor_zero]
theorem xor_can_r {a b c : Nat} (h : a ^^^ c = b ^^^ c) : a = b := by rw [← xor_back a c, h, xor_back]
theorem xor_can_l {a b c : Nat} (h : c ^^^ a = c ^^^ b) : a = b := xor_can_r (c := c) (by rw [Nat.xor_comm a, Nat.xor_comm b]; exact h)
theorem crcBit_inj {a b : Nat} (ha : a < 65536) (hb : b < 65536) (h : crcBit a = crcBit b) : a = b := by
 have odd : ∀ c : Nat, ((2 * c) % 65536 ^^^ 4129) % 2 = 1 := fun c => by
  have h1 := Nat.xor_mod_two_pow (a := 2 * c % 65536) (b := 4129) (n := 1)
  have h2 : 2 * c % 65536 % 2 ^ 1 = 0 := by omega
  rw [h2] at h1
  exact h1
 unfold crcBit at h
 split at h
 ·split at h
  ·have h2 := xor_can_r h
   omega
  ·have := odd a
   omega
 ·split at h
  ·have := odd b
   omega
  ·omega
theorem crcBits_inj {a b : Nat} (ha : a < 65536) (hb : b < 65536) (k : Nat) (h : crcBits k a = crcBits k b) : a = b := by
 induction k with
 | zero => exact h
 | succ k ih => exact ih (crcBit_inj (crcBits_lt ha k) (crcBits_lt hb k) h)
theorem top_bit {a : Nat} (ha : a < 65536) : a.testBit 15 = decide (32768 ≤ a) := by
 rw [Nat.testBit_eq_decide_div_mod_eq, decide_eq_decide]
 omega
theorem crcBit_def {a : Nat} (ha : a < 65536) : crcBit a = (2 * a) % 65536 ^^^ (if a.testBit 15 = true then 4129 else 0) := by
 unfold crcBit
 rw [top_bit ha]
 by_cases h : 32768 ≤ a
 ·simp [h]
 ·simp [h]; omega
theorem dbl_xor (a b : Nat) : 2 * (a ^^^ b) % 65536 = (2 * a) % 65536 ^^^ (2 * b) % 65536 := by
 have h1 : ∀ c : Nat, 2 * c = c <<< 1 := fun c => by rw [Nat.shiftLeft_eq]; omega
 rw [h1, h1 a, h1 b, Nat.shiftLeft_xor_distrib]
 exact Nat.xor_mod_two_pow (n := 16)
theorem crcBit_xor {a b : Nat} (ha : a < 65536) (hb : b < 65536) : crcBit (a ^^^ b) = crcBit a ^^^ crcBit b := by
 rw [crcBit_def ha, crcBit_def hb, crcBit_def (xor16 ha hb), dbl_xor, Nat.testBit_xor]
 generalize 2 * a % 65536 = u
 generalize 2 * b % 65536 = v
 cases a.testBit 15 <;> cases b.testBit 15
 ·show u ^^^ v ^^^ 0 = (u ^^^ 0) ^^^ (v ^^^ 0)
  simp
 ·show u ^^^ v ^^^ 4129 = (u ^^^ 0) ^^^ (v ^^^ 4129)
  rw [Nat.xor_zero]; ac_rfl
 ·show u ^^^ v ^^^ 4129 = (u ^^^ 4129) ^^^ (v ^^^ 0)
  rw [Nat.xor_zero]; ac_rfl
 ·show u ^^^ v ^^^ 0 = (u ^^^ 4129) ^^^ (v ^^^ 4129)
  rw [show (u ^^^ 4129) ^^^ (v ^^^ 4129) = u ^^^ v ^^^ (4129 ^^^ 4129) from by ac_rfl, Nat.xor_self]
theorem crcBits_xor {a b : Nat} (ha : a < 65536) (hb : b < 65536) (k : Nat) : crcBits k (a ^^^ b) = crcBits k a ^^^ crcBits k b := by
 induction k with
 | zero => rfl
 | succ k ih => rw [crcBits, ih, crcBit_xor (crcBits_lt ha k) (crcBits_lt hb k)]; rfl
theorem tab_low : ∀ x, x < 256 → x ≠ 0 → crcBits 8 (256 * x) % 256 ≠ 0 := by decide +kernel
theorem low_xor (a b : Nat) : (256 * a ^^^ 256 * b) % 256 = 0 := by
 rw [show (256 : Nat) = 2 ^ 8 from rfl, Nat.xor_mod_two_pow]
 simp
theorem crcByte_inj {c d : Nat} (hc : c < 65536) (hd : d < 65536) (x : UInt8) (h : crcByte c x = crcByte d x) : c = d := by
 have hx := x.toNat_lt
 rw [crcByte_eq, crcByte_eq] at h
 exact xor_can_r (crcBits_inj (xor16 hc oM) (xor16 hd oM) 8 h)
theorem foldl_inj (l : List UInt8) : ∀ {c d : Nat}, c < 65536 → d < 65536 → l.foldl crcByte c = l.foldl crcByte d → c = d := by
 induction l with
 | nil => intro c d _ _ h; exact h
 | cons x l ih => intro c d hc hd h; rw [List.foldl_cons, List.foldl_cons] at h; exact crcByte_inj hc hd x (ih (crcByte_lt hc x) (crcByte_lt hd x) h)
theorem crcByte_one {c : Nat} (hc : c < 65536) {a x : UInt8} (h : crcByte c a = crcByte c x) : a = x := by
 have h1 := a.toNat_lt
 have h2 := x.toNat_lt
 rw [crcByte_eq, crcByte_eq] at h
 have h3 := xor_can_l (crcBits_inj (xor16 hc oM) (xor16 hc oM) 8 h)
 exact UInt8.toNat_inj.1 oM
theorem xor4 {u v B Y : Nat} (e : u ^^^ B = v ^^^ Y) : u ^^^ v = B ^^^ Y := by
 have h1 : (u ^^^ B) ^^^ (v ^^^ B) = u ^^^ v := by rw [show (u ^^^ B) ^^^ (v ^^^ B) = (u ^^^ v) ^^^ (B ^^^ B) from by ac_rfl, Nat.xor_self, Nat.xor_zero]
 have h2 : (v ^^^ Y) ^^^ (v ^^^ B) = B ^^^ Y := by rw [show (v ^^^ Y) ^^^ (v ^^^ B) = (v ^^^ v) ^^^ (B ^^^ Y) from by ac_rfl, Nat.xor_self, Nat.zero_xor]
 rw [← h1, e, h2]
theorem xor_high (s : Nat) : s ^^^ 256 * (s / 256) = s % 256 := by
 rw [show (256 : Nat) = 2 ^ 8 from rfl]
 refine Nat.eq_of_testBit_eq (fun j => ?_)
 rw [Nat.testBit_xor, Nat.testBit_mod_two_pow, Nat.testBit_two_pow_mul, Nat.testBit_div_two_pow]
 by_cases h : j < 8
 ·simp [h, Nat.not_le.2 h]
 ·have h8 : 8 ≤ j := by omega
  simp [h, h8]
theorem crcByte_two {c : Nat} (hc : c < 65536) {a b x y : UInt8} (h : crcByte (crcByte c a) b = crcByte (crcByte c x) y) : a = x ∧ b = y := by
 have h1 := a.toNat_lt
 have h2 := x.toNat_lt
 have h3 := b.toNat_lt
 have h4 := y.toNat_lt
 have hu := crcByte_lt hc a
 have hv := crcByte_lt hc x
 rw [crcByte_eq (crcByte c a), crcByte_eq (crcByte c x)] at h
 have e := crcBits_inj (xor16 hu oM) (xor16 hv oM) 8 h
 have hax : a = x := by
  refine Classical.byContradiction (fun hne => ?_)
  have hd : a.toNat ^^^ x.toNat < 256 := by
   have := Nat.xor_lt_two_pow (n := 8) (x := a.toNat) (y := x.toNat) (by simpa using h1) (by simpa using h2)
   simpa using this
  have hn0 : a.toNat ^^^ x.toNat ≠ 0 := fun h0 => hne (UInt8.toNat_inj.1 (xor_can_r (c := x.toNat) (by rw [h0, Nat.xor_self])))
  have ht := tab_low _ hd hn0
  have hm : 256 * (a.toNat ^^^ x.toNat) = (c ^^^ 256 * a.toNat) ^^^ (c ^^^ 256 * x.toNat) := by
   have h256 : ∀ n : Nat, 256 * n = n <<< 8 := fun n => by rw [Nat.shiftLeft_eq]; omega
   rw [h256, h256 a.toNat, h256 x.toNat, Nat.shiftLeft_xor_distrib]
   rw [show (c ^^^ a.toNat <<< 8) ^^^ (c ^^^ x.toNat <<< 8) = (c ^^^ c) ^^^ (a.toNat <<< 8 ^^^ x.toNat <<< 8) from by ac_rfl, Nat.xor_self, Nat.zero_xor]
  rw [hm, crcBits_xor (xor16 hc oM) (xor16 hc oM), ← crcByte_eq, ← crcByte_eq] at ht
  apply ht
  have e2 : crcByte c a ^^^ crcByte c x = 256 * b.toNat ^^^ 256 * y.toNat := by
   exact xor4 e
  rw [e2]
  exact low_xor _ _
 subst hax
 exact ⟨rfl, crcByte_one hu h⟩
def chgL (l : List UInt8) (i : Nat) (x y : UInt8) : List UInt8 := (l.set i (l.getD i 0 ^^^ x)).set (i + 1) (l.getD (i + 1) 0 ^^^ y)
theorem chgL_len {l : List UInt8} {i : Nat} {x y : UInt8} : (chgL l i x y).length = l.length := by simp [chgL]
theorem crc_chg {l : List UInt8} {i : Nat} {x y : UInt8} (hi : i < l.length) (h : crc (chgL l i x y) = crc l) : chgL l i x y = l := by
 have hs : l = l.take i ++ l.drop i := (List.take_append_drop i l).symm
 have hlt : (l.take i).length = i := by simp; omega
 unfold chgL at h ⊢
 by_cases h2 : i + 1 < l.length
 ·have hd : l.drop i = l[i] :: l[i + 1] :: l.drop (i + 2) := by rw [List.drop_eq_getElem_cons hi, List.drop_eq_getElem_cons h2]
  have g1 : l.getD i 0 = l[i] := by rw [List.getD_eq_getElem?_getD, List.getElem?_eq_getElem hi]; rfl
  have g2 : l.getD (i + 1) 0 = l[i + 1] := by rw [List.getD_eq_getElem?_getD, List.getElem?_eq_getElem h2]; rfl
  rw [g1, g2] at h ⊢
  have e : (l.set i (l[i] ^^^ x)).set (i + 1) (l[i + 1] ^^^ y) = l.take i ++ ((l[i] ^^^ x) :: (l[i + 1] ^^^ y) :: l.drop (i + 2)) := by
   generalize l[i] ^^^ x = u
   generalize l[i + 1] ^^^ y = v
   conv => lhs; rw [hs, hd]
   rw [List.set_append_right _ _ oM, hlt, Nat.sub_self, List.set_cons_zero, List.set_append_right _ _ oM, hlt, Nat.add_sub_cancel_left, List.set_cons_succ, List.set_cons_zero]
  have e0 : l = l.take i ++ (l[i] :: l[i + 1] :: l.drop (i + 2)) := by rw [← hd]; exact hs
  rw [e] at h ⊢
  rw [show crc l = crc (l.take i ++ (l[i] :: l[i + 1] :: l.drop (i + 2))) from by rw [← e0]] at h
  unfold crc at h
  rw [List.foldl_append, List.foldl_append, List.foldl_cons, List.foldl_cons, List.foldl_cons, List.foldl_cons] at h
  have hc := foldl_crc_lt (l.take i) (show 65535 < 65536 by omega)
  have := foldl_inj _ (crcByte_lt (crcByte_lt hc _) _) (crcByte_lt (crcByte_lt hc _) _) h
  obtain ⟨h5, h6⟩ := crcByte_two hc this
  rw [h5, h6]
  exact e0.symm
 ·have hd : l.drop i = [l[i]] := by rw [List.drop_eq_getElem_cons hi, List.drop_of_length_le oM]
  have g1 : l.getD i 0 = l[i] := by rw [List.getD_eq_getElem?_getD, List.getElem?_eq_getElem hi]; rfl
  rw [g1] at h ⊢
  have e : ∀ v, (l.set i (l[i] ^^^ x)).set (i + 1) v = l.take i ++ [l[i] ^^^ x] := fun v => by
   rw [List.set_eq_of_length_le (by simp; omega)]
   generalize l[i] ^^^ x = u
   conv => lhs; rw [hs, hd]
   rw [List.set_append_right _ _ oM, hlt, Nat.sub_self, List.set_cons_zero]
  have e0 : l = l.take i ++ [l[i]] := by rw [← hd]; exact hs
  rw [e] at h ⊢
  rw [show crc l = crc (l.take i ++ [l[i]]) from by rw [← e0]] at h
  unfold crc at h
  rw [List.foldl_append, List.foldl_append, List.foldl_cons, List.foldl_cons, List.foldl_nil, List.foldl_nil] at h
  have hc := foldl_crc_lt (l.take i) (show 65535 < 65536 by omega)
  rw [crcByte_one hc h]
  exact e0.symm
theorem crcBits_low {r : Nat} (h : r < 256) : crcBits 8 r = 256 * r := by
 have h1 : ∀ k, k ≤ 8 → crcBits k r = 2 ^ k * r := fun k hk => by
  induction k with
  | zero => simp [crcBits]
  | succ k ih =>
    have hp : 2 ^ k ≤ 128 := by
     have := Nat.pow_le_pow_right (n := 2) oM (show k ≤ 7 by omega)
     simpa using this
    have hm : 2 ^ k * r ≤ 128 * 255 := Nat.mul_le_mul hp oM
    rw [crcBits, ih oM, crcBit, if_neg oM, Nat.pow_succ]
    rw [Nat.mul_comm (2 ^ k) 2, Nat.mul_assoc]
 exact h1 8 oM
theorem crc_sumL (l : List UInt8) : crc (sumL l) = 0 := by
 have hc := crc_lt l
 have hh : (UInt8.ofNat (crc l / 256)).toNat = crc l / 256 := by rw [UInt8.toNat_ofNat']; omega
 have hl : (UInt8.ofNat (crc l % 256)).toNat = crc l % 256 := by rw [UInt8.toNat_ofNat']; omega
 have e1 : crc l ^^^ 256 * (crc l / 256) = crc l % 256 := by
  exact xor_high _
 have e2 : crc (sumL l) = crcByte (crcByte (crc l) (UInt8.ofNat (crc l / 256))) (UInt8.ofNat (crc l % 256)) := by
  unfold sumL crc
  rw [List.foldl_append, List.foldl_cons, List.foldl_cons, List.foldl_nil]
 rw [e2, crcByte_eq, crcByte_eq, hh, hl, e1, crcBits_low (r := crc l % 256) oM, Nat.xor_self]
 decide
end Go.Proofs.Ytanblnhnfkeffaa
namespace Go.Proofs.Ytanblnhnfkeffaa
set_option linter.unusedVariables false
theorem unzig_zig (n : Int) : unzig (zig n) = n := by
 unfold unzig zig
 split <;> split <;> omega
theorem zig_unzig (z : Nat) : zig (unzig z) = z := by
 unfold unzig zig
 split <;> split <;> omega
theorem zig_lt {n : Int} (h : far n = false) : zig n < 128 ^ 8 := by
 have h := far_false.1 h
 have : (128 : Nat) ^ 8 = 72057594037927936 := by decide
 unfold zig
 split <;> omega
theorem byte_toNat {z : Nat} (h : z < 256) : (UInt8.ofNat z).toNat = z := by rw [UInt8.toNat_ofNat']; omega
theorem pow_split {i : Nat} {z w : Nat} : z + w % 128 * 128 ^ i + w / 128 * 128 ^ (i + 1) = z + w * 128 ^ i := by
 have h1 : w / 128 * 128 ^ (i + 1) = (128 * (w / 128)) * 128 ^ i := by rw [Nat.pow_succ]; ac_rfl
 rw [h1, Nat.add_assoc, ← Nat.add_mul]
 congr 2
 omega
theorem getGo_put {rest : List UInt8} (f : Nat) : ∀ {i z w : Nat}, i < 8 → w < 128 ^ (8 - i) → w < 128 ^ (f + 1) → (0 < i → 0 < w) → far (unzig (z + w * 128 ^ i)) = false →
  getGo i z (putN f w ++ rest) = (unzig (z + w * 128 ^ i), ((i + (putN f w).length : Nat) : Int), 0) := by
 induction f with
 | zero =>
   intro i z w hi h8 hf hpos hfar
   have hw : w < 128 := by simpa using hf
   have hb := byte_toNat (show w < 256 by omega)
   rw [putN_small hw]
   show getGo i z (UInt8.ofNat w :: rest) = _
   rw [getGo, if_neg oM, hb, if_neg oM, if_neg oM, Nat.mod_eq_of_lt hw, hfar, if_neg (by decide)]
   rfl
 | succ f ih =>
   intro i z w hi h8 hf hpos hfar
   by_cases hw : 128 ≤ w
   ·have hb := byte_toNat (show w % 128 + 128 < 256 by omega)
    rw [putN_big hw]
    show getGo i z (UInt8.ofNat (w % 128 + 128) :: (putN f (w / 128) ++ rest)) = _
    have hm : (w % 128 + 128) % 128 = w % 128 := by omega
    have hi7 : i + 1 < 8 := by
     refine Classical.byContradiction (fun h => ?_)
     obtain rfl : i = 7 := by omega
     have : w < 128 := by simpa using h8
     omega
    rw [getGo, if_neg oM, hb, if_pos oM, hm]
    have e8 : 128 ^ (8 - i) = 128 * 128 ^ (8 - (i + 1)) := by rw [show 8 - i = (8 - (i + 1)) + 1 from by omega, Nat.pow_succ]; omega
    have ef : 128 ^ (f + 1 + 1) = 128 * 128 ^ (f + 1) := by rw [Nat.pow_succ 128 (f + 1)]; omega
    have := ih (i := i + 1) (z := z + w % 128 * 128 ^ i) (w := w / 128) hi7 (by rw [e8] at h8; exact Nat.div_lt_of_lt_mul h8) (by rw [ef] at hf; exact Nat.div_lt_of_lt_mul hf) (fun _ => by omega) (by rw [pow_split]; exact hfar)
    rw [this, pow_split]
    simp only [List.length_cons]
    congr 3
    omega
   ·have hw : w < 128 := by omega
    have hb := byte_toNat (show w < 256 by omega)
    rw [putN_small hw]
    show getGo i z (UInt8.ofNat w :: rest) = _
    rw [getGo, if_neg oM, hb, if_neg oM, if_neg oM, Nat.mod_eq_of_lt hw, hfar, if_neg (by decide)]
    rfl
theorem get_put {n : Int} (h : far n = false) (rest : List UInt8) : getL (putL n ++ rest) = (n, ((putL n).length : Int), 0) := by
 have h1 := zig_lt h
 have h2 : zig n < 128 ^ (10 + 1) := Nat.lt_of_lt_of_le h1 (Nat.pow_le_pow_right oM oM)
 have := getGo_put (rest := rest) 10 (i := 0) (z := 0) (w := zig n) oM h1 h2 (fun h => by omega) (by rw [Nat.zero_add, Nat.pow_zero, Nat.mul_one, unzig_zig]; exact h)
 unfold getL putL
 rw [this, Nat.zero_add, Nat.pow_zero, Nat.mul_one, unzig_zig, Nat.zero_add]
theorem getGo_canon (l : List UInt8) : ∀ {i z : Nat} {m s : Int}, i ≤ 8 → getGo i z l = (m, s, 0) → ∃ k w, 1 ≤ k ∧ k ≤ l.length ∧ i + k ≤ 8 ∧ s = ((i + k : Nat) : Int) ∧ m = unzig (z + w * 128 ^ i) ∧ far m = false ∧ (0 < i → 0 < w) ∧ ∀ f, k ≤ f + 1 → putN f w = l.take k := by
 induction l with
 | nil => intro i z m s hi h; rw [getGo] at h; split at h <;> simp at h
 | cons c r ih =>
   intro i z m s hi h
   have hc := c.toNat_lt
   rw [getGo] at h
   split at h
   ·simp at h
   rename_i hi8
   split at h
   ·rename_i hbig
    obtain ⟨k, w, h1, h2, h3, h4, h5, h6, h7, h8⟩ := ih oM h
    have hw : 0 < w := h7 oM
    refine ⟨k + 1, c.toNat % 128 + 128 * w, by omega, by simp only [List.length_cons]; omega, by omega, by rw [h4]; omega, ?_, h6, fun _ => by omega, fun f hf => ?_⟩
    ·rw [h5]
     congr 1
     have := pow_split (i := i) (z := z) (w := c.toNat % 128 + 128 * w)
     rw [show (c.toNat % 128 + 128 * w) % 128 = c.toNat % 128 from by omega, show (c.toNat % 128 + 128 * w) / 128 = w from by omega] at this
     exact this
    ·obtain ⟨f, rfl⟩ : ∃ g, f = g + 1 := ⟨f - 1, by omega⟩
     rw [putN_big oM, show (c.toNat % 128 + 128 * w) % 128 + 128 = c.toNat from by omega, show (c.toNat % 128 + 128 * w) / 128 = w from by omega, h8 f oM, List.take_succ_cons]
     congr 1
     exact UInt8.toNat_inj.1 (byte_toNat hc)
   ·rename_i hsm
    split at h
    ·simp at h
    rename_i hnz
    cases hf : far (unzig (z + c.toNat % 128 * 128 ^ i)) with
    | true => rw [hf, if_pos rfl] at h; simp at h
    | false =>
      rw [hf, if_neg (by decide)] at h
      simp only [Prod.mk.injEq, and_true] at h
      obtain ⟨rfl, rfl⟩ := h
      have hm : c.toNat % 128 = c.toNat := Nat.mod_eq_of_lt oM
      refine ⟨1, c.toNat, by omega, by simp only [List.length_cons]; omega, by omega, by omega, by rw [hm], hf, fun h0 => by omega, fun f _ => ?_⟩
      rw [putN_small oM, List.take_succ_cons, List.take_zero]
      congr 1
      exact UInt8.toNat_inj.1 (byte_toNat hc)
theorem get_canon {l : List UInt8} {m s : Int} (h : getL l = (m, s, 0)) : ∃ k : Nat, s = k ∧ 1 ≤ k ∧ k ≤ l.length ∧ k ≤ 8 ∧ far m = false ∧ putL m = l.take k := by
 obtain ⟨k, w, h1, h2, h3, h4, h5, h6, _, h8⟩ := getGo_canon l oM h
 rw [Nat.zero_add, Nat.pow_zero, Nat.mul_one] at h5
 refine ⟨k, by rw [h4]; omega, h1, h2, by omega, h6, ?_⟩
 unfold putL
 rw [h5, zig_unzig]
 exact h8 10 oM
theorem rdNum_put {n : Int} (h : far n = false) (rest : List UInt8) : rdNum (putL n ++ rest, false) = (n, (rest, false)) := by
 unfold rdNum
 rw [get_put h, if_neg (by simp)]
 simp only [Int.toNat_natCast, List.drop_left]
theorem rdCnt_put {k : Nat} {rest : List UInt8} (h : k ≤ rest.length) (hk : k ≤ 1000000000) : rdCnt (putL k ++ rest, false) = (k, (rest, false)) := by
 unfold rdCnt
 rw [rdNum_put (far_false.2 oM)]
 unfold cntOf
 rw [if_neg (by simp only; omega)]
 simp only [Int.toNat_natCast]
theorem rdName_put {s : ByteArray} {rest : List UInt8} (hk : s.size ≤ 1000000000) : rdName (namC s ++ rest, false) = (s.data.toList, (rest, false)) := by
 have hl : s.data.toList.length = s.size := Array.length_toList
 unfold rdName namC
 rw [List.append_assoc, rdCnt_put (by rw [List.length_append]; omega) hk]
 unfold nameOf
 simp only [← hl, List.take_left, List.drop_left]
theorem baOf_data (s : ByteArray) : baOf s.data.toList = s := rfl
theorem rdRep_put {α : Type} {f : List α → RS → α × RS} {enc : List α → α → List UInt8} (xs : List α) (rest : List UInt8)
  (h : ∀ k (hk : k < xs.length) r, f (xs.take k) (enc (xs.take k) xs[k] ++ r, false) = (xs[k], (r, false)))
  (body : Nat → List UInt8) (hb : body xs.length = []) (hs : ∀ k (hk : k < xs.length), body k = enc (xs.take k) xs[k] ++ body (k + 1)) (n : Nat) (hn : n ≤ xs.length) :
  rdRep f n (body 0 ++ rest, false) = (xs.take n, (body n ++ rest, false)) := by
 induction n with
 | zero => rfl
 | succ n ih =>
   have e := ih oM
   rw [rdRep, e]
   simp only
   rw [if_neg (by decide), hs n oM, List.append_assoc, h n oM]
   simp only
   rw [if_neg (by decide), List.take_succ_eq_append_getElem oM]
structure NumOk (t : Tr) : Prop where
 np : t.length ≤ 1000000
 pr : ∀ p ∈ t, p.name.size ≤ 1000000 ∧ p.vars.length ≤ 1000000 ∧ p.evs.length ≤ 1000000 ∧ (∀ v ∈ p.vars, v.name.size ≤ 1000000 ∧ far v.init = false) ∧
  (∀ e ∈ p.evs, far e.kind = false ∧ far e.peer = false ∧ far e.msg = false ∧ 0 ≤ e.time ∧ e.time ≤ 1125899906842624 ∧ e.asg.length ≤ 1000000 ∧ ∀ a ∈ e.asg, far a.v = false ∧ far a.val = false)
theorem rdAsg_put {a : Asg} (h1 : far a.v = false) (h2 : far a.val = false) (r : List UInt8) : rdAsg (bodyAsg a ++ r, false) = (a, (r, false)) := by
 unfold rdAsg bodyAsg
 rw [List.append_assoc, rdNum_put h1, rdNum_put h2]
theorem rdVr_put {v : Vr} (h1 : v.name.size ≤ 1000000) (h2 : far v.init = false) (r : List UInt8) : rdVr (bodyVr v ++ r, false) = (v, (r, false)) := by
 unfold rdVr bodyVr
 rw [List.append_assoc, rdName_put oM, rdNum_put h2, baOf_data]
theorem putL_pos (n : Int) : 1 ≤ (putL n).length := (putN_len 10 _).1
theorem flat_len {α : Type} {g : α → List UInt8} (hg : ∀ x, 1 ≤ (g x).length) (l : List α) : l.length ≤ (l.flatMap g).length := by
 induction l with
 | nil => simp
 | cons x l ih => rw [List.flatMap_cons, List.length_append, List.length_cons]; have := hg x; omega
theorem bodyAsg_pos (a : Asg) : 1 ≤ (bodyAsg a).length := by unfold bodyAsg; rw [List.length_append]; have := putL_pos a.v; omega
theorem bodyVr_pos (a : Vr) : 1 ≤ (bodyVr a).length := by unfold bodyVr; rw [List.length_append]; have := putL_pos a.init; omega
theorem bodyEv_pos (l : Int) (e : Ev) : 1 ≤ (bodyEv l e).length := by
 unfold bodyEv
 simp only [List.length_append]
 have := putL_pos e.kind
 omega
theorem bodyPr_pos (p : Pr) : 1 ≤ (bodyPr p).length := by
 unfold bodyPr
 simp only [List.length_append]
 have := putL_pos p.vars.length
 omega
theorem bodyEvs_len (l : List Ev) (k : Nat) (hk : k ≤ l.length) : k ≤ (bodyEvs l k).length := by
 induction k with
 | zero => omega
 | succ k ih =>
   rw [bodyEvs, List.getElem?_eq_getElem oM]
   simp only [List.length_append]
   have := ih oM
   have := bodyEv_pos (lastE (l.take k)) l[k]
   omega
theorem rdRep_flat {α : Type} {f : RS → α × RS} {g : α → List UInt8} (xs : List α) (rest : List UInt8) (h : ∀ x ∈ xs, ∀ r, f (g x ++ r, false) = (x, (r, false))) :
  rdRep (fun _ => f) xs.length (xs.flatMap g ++ rest, false) = (xs, (rest, false)) := by
 have := rdRep_put (f := fun _ => f) (enc := fun _ => g) xs rest (fun k hk r => h _ (List.getElem_mem hk) r) (fun k => (xs.drop k).flatMap g) (by simp) (fun k hk => by rw [List.drop_eq_getElem_cons hk, List.flatMap_cons]) xs.length (Nat.le_refl _)
 simpa using this
theorem rdEv_put {e : Ev} {last : Int} (h1 : far e.kind = false) (h2 : far e.peer = false) (h3 : far e.msg = false) (h4 : far (e.time - last) = false) (h5 : e.asg.length ≤ 1000000) (h6 : ∀ a ∈ e.asg, far a.v = false ∧ far a.val = false) (r : List UInt8) :
  rdEv last (bodyEv last e ++ r, false) = (e, (r, false)) := by
 have e1 : rd1 (bodyEv last e ++ r, false) = (e.kind, (putL e.peer ++ (putL e.msg ++ (putL (e.time - last) ++ (putL e.asg.length ++ (e.asg.flatMap bodyAsg ++ r)))), false)) := by
  unfold rd1 bodyEv
  simp only [List.append_assoc]
  exact rdNum_put h1 _
 have e2 : rd2 (bodyEv last e ++ r, false) = (e.peer, (putL e.msg ++ (putL (e.time - last) ++ (putL e.asg.length ++ (e.asg.flatMap bodyAsg ++ r))), false)) := by unfold rd2; rw [e1]; exact rdNum_put h2 _
 have e3 : rd3 (bodyEv last e ++ r, false) = (e.msg, (putL (e.time - last) ++ (putL e.asg.length ++ (e.asg.flatMap bodyAsg ++ r)), false)) := by unfold rd3; rw [e2]; exact rdNum_put h3 _
 have e4 : rd4 (bodyEv last e ++ r, false) = (e.time - last, (putL e.asg.length ++ (e.asg.flatMap bodyAsg ++ r), false)) := by unfold rd4; rw [e3]; exact rdNum_put h4 _
 have e5 : rd5 (bodyEv last e ++ r, false) = (e.asg.length, (e.asg.flatMap bodyAsg ++ r, false)) := by
  unfold rd5
  rw [e4]
  refine rdCnt_put ?_ oM
  rw [List.length_append]
  have := flat_len bodyAsg_pos e.asg
  omega
 unfold rdEv rdEvG
 rw [e1, e2, e3, e4, e5, rdRep_flat e.asg r (fun a ha r => rdAsg_put (h6 a ha).1 (h6 a ha).2 r)]
 simp only
 congr 2
 omega
theorem lastE_bd {l : List Ev} (h : ∀ e ∈ l, 0 ≤ e.time ∧ e.time ≤ 1125899906842624) : 0 ≤ lastE l ∧ lastE l ≤ 1125899906842624 := by
 unfold lastE
 cases hl : l.getLast? with
 | none => simp
 | some e => exact h e (List.mem_of_getLast? hl)
theorem rdEvs_put {l : List Ev} (h : ∀ e ∈ l, far e.kind = false ∧ far e.peer = false ∧ far e.msg = false ∧ 0 ≤ e.time ∧ e.time ≤ 1125899906842624 ∧ e.asg.length ≤ 1000000 ∧ ∀ a ∈ e.asg, far a.v = false ∧ far a.val = false) (r : List UInt8) :
  rdRep (fun l => rdEv (lastE l)) l.length (bodyEvs l l.length ++ r, false) = (l, (r, false)) := by
 have key : ∀ k, k ≤ l.length → ∀ tail, bodyEvs l l.length = bodyEvs l k ++ tail → rdRep (fun l => rdEv (lastE l)) k (bodyEvs l l.length ++ r, false) = (l.take k, (tail ++ r, false)) := by
  intro k
  induction k with
  | zero => intro _ tail e; rw [e]; rfl
  | succ k ih =>
    intro hk tail e
    have hg : l[k]? = some l[k] := List.getElem?_eq_getElem oM
    have e2 : bodyEvs l l.length = bodyEvs l k ++ (bodyEv (lastE (l.take k)) l[k] ++ tail) := by
     rw [e, bodyEvs, hg]
     simp only [List.append_assoc]
    have i1 := ih oM _ e2
    rw [rdRep, i1]
    simp only
    obtain ⟨h1, h2, h3, h4, h5, h6, h7⟩ := h l[k] (List.getElem_mem oM)
    have hb := lastE_bd (l := l.take k) (fun e he => by have := h e (List.mem_of_mem_take he); exact ⟨this.2.2.2.1, this.2.2.2.2.1⟩)
    rw [if_neg (by decide), List.append_assoc, rdEv_put h1 h2 h3 (far_false.2 oM) h6 h7]
    simp only
    rw [if_neg (by decide), List.take_succ_eq_append_getElem oM]
 have := key l.length (Nat.le_refl _) [] (by simp)
 simpa using this
theorem rdPr_put {p : Pr} {t : Tr} (h : NumOk t) (hp : p ∈ t) (r : List UInt8) : rdPr (bodyPr p ++ r, false) = (p, (r, false)) := by
 obtain ⟨h1, h2, h3, h4, h5⟩ := h.pr p hp
 have e0 : rdP0 (bodyPr p ++ r, false) = (p.name.data.toList, (putL p.vars.length ++ (p.vars.flatMap bodyVr ++ (putL p.evs.length ++ (bodyEvs p.evs p.evs.length ++ r))), false)) := by
  unfold rdP0 bodyPr
  simp only [List.append_assoc]
  exact rdName_put oM
 have e1 : rdP1 (bodyPr p ++ r, false) = (p.vars.length, (p.vars.flatMap bodyVr ++ (putL p.evs.length ++ (bodyEvs p.evs p.evs.length ++ r)), false)) := by
  unfold rdP1
  rw [e0]
  refine rdCnt_put ?_ oM
  rw [List.length_append]
  have := flat_len bodyVr_pos p.vars
  omega
 have e2 : rdP2 (bodyPr p ++ r, false) = (p.vars, (putL p.evs.length ++ (bodyEvs p.evs p.evs.length ++ r), false)) := by
  unfold rdP2
  rw [e1]
  exact rdRep_flat p.vars _ (fun v hv r => rdVr_put (h4 v hv).1 (h4 v hv).2 r)
 have e3 : rdP3 (bodyPr p ++ r, false) = (p.evs.length, (bodyEvs p.evs p.evs.length ++ r, false)) := by
  unfold rdP3
  rw [e2]
  refine rdCnt_put ?_ oM
  rw [List.length_append]
  have := bodyEvs_len p.evs p.evs.length (Nat.le_refl _)
  omega
 have e4 : rdP4 (bodyPr p ++ r, false) = (p.evs, (r, false)) := by
  unfold rdP4
  rw [e3]
  exact rdEvs_put h5 r
 unfold rdPr
 rw [e2, e4, e0]
 simp only
 rw [if_neg (by decide), baOf_data]
theorem rdT_put {t : Tr} (h : NumOk t) : rdT (bodyT t, false) = (t, ([], false)) := by
 have e : rdCnt (bodyT t, false) = (t.length, (t.flatMap bodyPr, false)) := by
  unfold bodyT
  exact rdCnt_put (flat_len bodyPr_pos t) (by have := h.np; omega)
 unfold rdT
 rw [e]
 have := rdRep_flat (f := rdPr) (g := bodyPr) t [] (fun p hp r => rdPr_put h hp r)
 simpa using this
theorem rdNum_canon {s : RS} {n : Int} {r : List UInt8} (h : rdNum s = (n, (r, false))) : s.2 = false ∧ s.1 = putL n ++ r ∧ far n = false := by
 unfold rdNum at h
 split at h
 ·simp at h
 rename_i hc
 simp only [not_or, Bool.not_eq_true, Classical.not_not] at hc
 simp only [Prod.mk.injEq, and_true] at h
 obtain ⟨k, h1, h2, h3, h4, h5, h6⟩ := get_canon (l := s.1) (m := (getL s.1).1) (s := (getL s.1).2.1) (by rw [← hc.2])
 rw [h1, Int.toNat_natCast] at h
 rw [h.1] at h5 h6
 refine ⟨hc.1, ?_, h5⟩
 rw [h6, ← h.2, List.take_append_drop]
theorem rdCnt_canon {s : RS} {n : Nat} {r : List UInt8} (h : rdCnt s = (n, (r, false))) : s.2 = false ∧ s.1 = putL n ++ r ∧ n ≤ r.length := by
 unfold rdCnt cntOf at h
 split at h
 ·simp at h
 rename_i hc
 simp only [not_or] at hc
 simp only [Prod.mk.injEq] at h
 have h2 : rdNum s = ((n : Int), (r, false)) := by
  refine Prod.ext ?_ h.2
  simp only
  omega
 obtain ⟨h3, h4, _⟩ := rdNum_canon h2
 refine ⟨h3, h4, ?_⟩
 rw [h2] at hc
 simp only at hc
 omega
theorem rdName_canon {s : RS} {x : List UInt8} {r : List UInt8} (h : rdName s = (x, (r, false))) : s.2 = false ∧ s.1 = namC (baOf x) ++ r := by
 unfold rdName nameOf at h
 simp only [Prod.mk.injEq] at h
 obtain ⟨h1, h2, h3⟩ := h
 obtain ⟨h4, h5, h6⟩ := rdCnt_canon (s := s) (n := (rdCnt s).1) (r := (rdCnt s).2.1) (Prod.ext rfl (Prod.ext rfl h3))
 have hl : (baOf x).size = (rdCnt s).1 := by
  rw [← h1]
  show (List.take _ _).toArray.size = _
  simp
  omega
 refine ⟨h4, ?_⟩
 unfold namC
 rw [hl, h5, List.append_assoc]
 congr 1
 rw [← h1, ← h2]
 exact (List.take_append_drop _ _).symm
theorem rdAsg_canon {s : RS} {a : Asg} {r : List UInt8} (h : rdAsg s = (a, (r, false))) : s.2 = false ∧ s.1 = bodyAsg a ++ r := by
 unfold rdAsg at h
 simp only [Prod.mk.injEq] at h
 obtain ⟨rfl, h2⟩ := h
 obtain ⟨h3, h4, _⟩ := rdNum_canon (s := (rdNum s).2) (n := (rdNum (rdNum s).2).1) (r := r) (Prod.ext rfl h2)
 obtain ⟨h5, h6, _⟩ := rdNum_canon (s := s) (n := (rdNum s).1) (r := (rdNum s).2.1) (Prod.ext rfl (Prod.ext rfl h3))
 refine ⟨h5, ?_⟩
 unfold bodyAsg
 rw [h6, h4, List.append_assoc]
theorem rdVr_canon {s : RS} {a : Vr} {r : List UInt8} (h : rdVr s = (a, (r, false))) : s.2 = false ∧ s.1 = bodyVr a ++ r := by
 unfold rdVr at h
 simp only [Prod.mk.injEq] at h
 obtain ⟨rfl, h2⟩ := h
 obtain ⟨h3, h4, _⟩ := rdNum_canon (s := (rdName s).2) (n := (rdNum (rdName s).2).1) (r := r) (Prod.ext rfl h2)
 obtain ⟨h5, h6⟩ := rdName_canon (s := s) (x := (rdName s).1) (r := (rdName s).2.1) (Prod.ext rfl (Prod.ext rfl h3))
 refine ⟨h5, ?_⟩
 unfold bodyVr
 rw [h6, h4, List.append_assoc]
theorem rdRep_canon {α : Type} {f : List α → RS → α × RS} {enc : List α → α → List UInt8} {body : List α → List UInt8} (h0 : body [] = []) (hb : ∀ l x, body (l ++ [x]) = body l ++ enc l x)
  (h : ∀ l s x r, f l s = (x, (r, false)) → s.2 = false ∧ s.1 = enc l x ++ r) {n : Nat} : ∀ {s : RS} {l : List α} {r : List UInt8}, rdRep f n s = (l, (r, false)) → s.2 = false ∧ s.1 = body l ++ r ∧ l.length = n := by
 induction n with
 | zero =>
   intro s l r e
   rw [rdRep] at e
   simp only [Prod.mk.injEq] at e
   obtain ⟨rfl, rfl⟩ := e
   exact ⟨rfl, by rw [h0]; rfl, rfl⟩
 | succ n ih =>
   intro s l r e
   rw [rdRep] at e
   split at e
   ·rename_i hb
    rw [e] at hb; simp at hb
   rename_i hg
   split at e
   ·rename_i hb
    simp only [Prod.mk.injEq] at e
    rw [e.2] at hb; simp at hb
   simp only [Prod.mk.injEq] at e
   obtain ⟨rfl, e2⟩ := e
   simp only [Bool.not_eq_true] at hg
   obtain ⟨_, h2⟩ := h _ _ _ _ (Prod.ext rfl e2)
   obtain ⟨h3, h4, h5⟩ := ih (s := s) (l := (rdRep f n s).1) (r := (rdRep f n s).2.1) (Prod.ext rfl (Prod.ext rfl hg))
   refine ⟨h3, ?_, by rw [List.length_append, h5]; rfl⟩
   rw [hb, h4, h2, List.append_assoc]
theorem flat_snoc {α : Type} {g : α → List UInt8} (l : List α) (x : α) : (l ++ [x]).flatMap g = l.flatMap g ++ g x := by simp
theorem rdEv_canon {last : Int} {s : RS} {a : Ev} {r : List UInt8} (h : rdEv last s = (a, (r, false))) : s.2 = false ∧ s.1 = bodyEv last a ++ r := by
 unfold rdEv rdEvG at h
 simp only [Prod.mk.injEq] at h
 obtain ⟨rfl, h2⟩ := h
 obtain ⟨g5, e6, el⟩ := rdRep_canon (f := fun _ => rdAsg) (enc := fun _ => bodyAsg) (body := fun l => l.flatMap bodyAsg) rfl (fun l x => flat_snoc l x) (fun _ s x r h => rdAsg_canon h) (s := (rd5 s).2) (n := (rd5 s).1) (l := (rdRep (fun _ => rdAsg) (rd5 s).1 (rd5 s).2).1) (r := r) (Prod.ext rfl h2)
 obtain ⟨g4, e5, _⟩ := rdCnt_canon (s := (rd4 s).2) (n := (rd5 s).1) (r := (rd5 s).2.1) (Prod.ext rfl (Prod.ext rfl g5))
 obtain ⟨g3, e4, _⟩ := rdNum_canon (s := (rd3 s).2) (n := (rd4 s).1) (r := (rd4 s).2.1) (Prod.ext rfl (Prod.ext rfl g4))
 obtain ⟨g2, e3, _⟩ := rdNum_canon (s := (rd2 s).2) (n := (rd3 s).1) (r := (rd3 s).2.1) (Prod.ext rfl (Prod.ext rfl g3))
 obtain ⟨g1, e2, _⟩ := rdNum_canon (s := (rd1 s).2) (n := (rd2 s).1) (r := (rd2 s).2.1) (Prod.ext rfl (Prod.ext rfl g2))
 obtain ⟨g0, e1, _⟩ := rdNum_canon (s := s) (n := (rd1 s).1) (r := (rd1 s).2.1) (Prod.ext rfl (Prod.ext rfl g1))
 refine ⟨g0, ?_⟩
 unfold bodyEv
 simp only [el, List.append_assoc]
 rw [e1, e2, e3, e4, e5, e6]
 congr 5
 ·congr 1
  omega
theorem lastE_snoc (l : List Ev) (x : Ev) : lastE (l ++ [x]) = x.time := by unfold lastE; simp
theorem bodyEvs_pre (l : List Ev) (x : Ev) (k : Nat) (hk : k ≤ l.length) : bodyEvs (l ++ [x]) k = bodyEvs l k := by
 induction k with
 | zero => rfl
 | succ k ih =>
   rw [bodyEvs, bodyEvs, List.getElem?_append_left oM, List.getElem?_eq_getElem oM, ih oM, List.take_append_of_le_length oM]
theorem bodyEvs_snoc (l : List Ev) (x : Ev) : bodyEvs (l ++ [x]) (l ++ [x]).length = bodyEvs l l.length ++ bodyEv (lastE l) x := by
 rw [List.length_append]
 show bodyEvs (l ++ [x]) (l.length + 1) = _
 rw [bodyEvs, List.getElem?_append_right (Nat.le_refl _), Nat.sub_self, bodyEvs_pre l x _ (Nat.le_refl _), List.take_left]
 rfl
theorem rdPr_canon {s : RS} {p : Pr} {r : List UInt8} (h : rdPr s = (p, (r, false))) : s.2 = false ∧ s.1 = bodyPr p ++ r := by
 unfold rdPr at h
 split at h
 ·rename_i hb
  simp only [Prod.mk.injEq] at h
  rw [h.2] at hb; simp at hb
 rename_i hg
 simp only [Bool.not_eq_true] at hg
 simp only [Prod.mk.injEq] at h
 obtain ⟨rfl, h2⟩ := h
 obtain ⟨g3, e4, l4⟩ := rdRep_canon (f := fun l => rdEv (lastE l)) (enc := fun l => bodyEv (lastE l)) (body := fun l => bodyEvs l l.length) rfl bodyEvs_snoc (fun _ s x r h => rdEv_canon h) (s := (rdP3 s).2) (n := (rdP3 s).1) (l := (rdP4 s).1) (r := r) (Prod.ext rfl h2)
 obtain ⟨g2, e3, _⟩ := rdCnt_canon (s := (rdP2 s).2) (n := (rdP3 s).1) (r := (rdP3 s).2.1) (Prod.ext rfl (Prod.ext rfl g3))
 obtain ⟨g1, e2, l2⟩ := rdRep_canon (f := fun _ => rdVr) (enc := fun _ => bodyVr) (body := fun l => l.flatMap bodyVr) rfl (fun l x => flat_snoc l x) (fun _ s x r h => rdVr_canon h) (s := (rdP1 s).2) (n := (rdP1 s).1) (l := (rdP2 s).1) (r := (rdP2 s).2.1) (Prod.ext rfl (Prod.ext rfl hg))
 obtain ⟨g0, e1, _⟩ := rdCnt_canon (s := (rdP0 s).2) (n := (rdP1 s).1) (r := (rdP1 s).2.1) (Prod.ext rfl (Prod.ext rfl g1))
 obtain ⟨gg, e0⟩ := rdName_canon (s := s) (x := (rdP0 s).1) (r := (rdP0 s).2.1) (Prod.ext rfl (Prod.ext rfl g0))
 refine ⟨gg, ?_⟩
 unfold bodyPr
 simp only [l4] at e4
 simp only [l4, l2, List.append_assoc]
 rw [e0, e1, e2, e3, e4]
theorem rdT_canon {b : List UInt8} {t : Tr} (h : rdT (b, false) = (t, ([], false))) : bodyT t = b := by
 unfold rdT at h
 obtain ⟨g0, e1, l1⟩ := rdRep_canon (f := fun _ => rdPr) (enc := fun _ => bodyPr) (body := fun l => l.flatMap bodyPr) rfl (fun l x => flat_snoc l x) (fun _ s x r h => rdPr_canon h) h
 obtain ⟨_, e0, _⟩ := rdCnt_canon (s := (b, false)) (n := (rdCnt (b, false)).1) (r := (rdCnt (b, false)).2.1) (Prod.ext rfl (Prod.ext rfl g0))
 unfold bodyT
 rw [l1]
 simp only [List.append_nil] at e1
 rw [← e1]
 exact e0.symm
end Go.Proofs.Ytanblnhnfkeffaa
namespace Go.Proofs.Ytanblnhnfkeffaa
set_option linter.unusedVariables false
theorem inB_iff {x lo hi : Int} : inB x lo hi = true ↔ lo ≤ x ∧ x ≤ hi := by unfold inB; simp
theorem nameB_size {s : ByteArray} (h : nameB s = true) : s.size ≤ 16 := by
 unfold nameB nameL at h
 simp only [Bool.and_eq_true, decide_eq_true_eq] at h
 have := h.1.1.2
 exact (show s.data.toList.length = s.size from Array.length_toList) ▸ this
theorem valB_far {n : Int} (h : valB n = true) : far n = false := by
 unfold valB at h
 simp only [Bool.and_eq_true, decide_eq_true_eq] at h
 exact far_false.2 oM
theorem Vok.numOk {t : Tr} (h : Vok t) : NumOk t := by
 refine ⟨by have := h.hi; omega, fun p hp => ?_⟩
 obtain ⟨i, hi, rfl⟩ := List.getElem_of_mem hp
 have hg : t.getD i dfPr = t[i] := by rw [List.getD_eq_getElem?_getD, List.getElem?_eq_getElem hi]; rfl
 have hh := h.head i hi
 unfold headF at hh
 rw [hg] at hh
 split at hh
 ·omega
 rename_i h1
 simp only [Bool.or_eq_true, Bool.not_eq_true', not_or, Bool.not_eq_false] at h1
 split at hh
 ·omega
 rename_i h2
 split at hh
 ·rename_i h3; exact absurd hh h3
 rename_i h3
 simp only [ne_eq, Classical.not_not] at h3
 split at hh
 ·omega
 rename_i h4
 have hv := firstNZ_zero.1 h3
 refine ⟨by have := nameB_size h1.1; omega, by omega, by omega, fun v hv' => ?_, fun e he => ?_⟩
 ·obtain ⟨j, hj, rfl⟩ := List.getElem_of_mem hv'
  have hgv : t[i].vars.getD j dfVr = t[i].vars[j] := by rw [List.getD_eq_getElem?_getD, List.getElem?_eq_getElem hj]; rfl
  have := hv j hj
  unfold varF at this
  rw [hgv] at this
  split at this
  ·omega
  rename_i g1
  simp only [Bool.or_eq_true, Bool.not_eq_true', not_or, Bool.not_eq_false] at g1
  split at this
  ·omega
  rename_i g2
  simp only [Bool.not_eq_true', Bool.not_eq_false] at g2
  exact ⟨by have := nameB_size g1.1; omega, valB_far g2⟩
 ·obtain ⟨j, hj, rfl⟩ := List.getElem_of_mem he
  have heo : evsOf t i = t[i].evs := by unfold evsOf; rw [hg]
  have hx : (i, j + 1) ∈ ids t := mem_ids2.2 ⟨hi, by rw [heo]; exact hj⟩
  have hev : evAt t (i, j + 1) = t[i].evs[j] := by
   unfold evAt
   rw [heo, Nat.add_sub_cancel, List.getD_eq_getElem?_getD, List.getElem?_eq_getElem hj]; rfl
  have hf := h.form _ hx
  unfold formF at hf
  rw [hev, hg] at hf
  split at hf
  ·omega
  rename_i f1
  split at hf
  ·omega
  rename_i f2
  split at hf
  ·omega
  rename_i f3
  simp only [Bool.or_eq_true, Bool.not_eq_true', not_or, Bool.not_eq_false, decide_eq_true_eq, inB_iff] at f2
  simp only [Bool.not_eq_true', Bool.not_eq_false] at f1
  have hk : far t[i].evs[j].kind = false ∧ far t[i].evs[j].peer = false ∧ far t[i].evs[j].msg = false := by
   have hT := h.hi
   unfold formedB at f1
   split at f1
   ·rename_i k1
    simp only [Bool.and_eq_true, beq_iff_eq] at f1 k1
    rw [k1, f1.1, f1.2]
    decide
   ·split at f1
    ·rename_i k2
     simp only [Bool.and_eq_true, Bool.or_eq_true, beq_iff_eq, inB_iff] at f1 k2
     exact ⟨far_false.2 oM, far_false.2 oM, far_false.2 oM⟩
    ·cases f1
  refine ⟨hk.1, hk.2.1, hk.2.2, by omega, by omega, by omega, fun a ha => ?_⟩
  obtain ⟨k, hk2, rfl⟩ := List.getElem_of_mem ha
  have hga : t[i].evs[j].asg.getD k dfAsg = t[i].evs[j].asg[k] := by rw [List.getD_eq_getElem?_getD, List.getElem?_eq_getElem hk2]; rfl
  have := firstNZ_zero.1 hf k hk2
  unfold asgF at this
  rw [hga] at this
  split at this
  ·omega
  rename_i a1
  simp only [Bool.or_eq_true, Bool.not_eq_true', not_or, Bool.not_eq_false, inB_iff] at a1
  exact ⟨far_false.2 oM, valB_far a1.2⟩
def sumOk (b : List UInt8) : Prop := crc (b.take (b.length - 2)) = (b.getD (b.length - 2) 0).toNat * 256 + (b.getD (b.length - 1) 0).toNat
instance (b : List UInt8) : Decidable (sumOk b) := inferInstanceAs (Decidable (_ = _))
noncomputable def decodeL (b : List UInt8) : Tr × Int :=
 if 16384 < b.length then ([], 5) else if b.length < 2 then ([], 4) else if ¬ sumOk b then ([], 12)
 else if (rdT (b.take (b.length - 2), false)).2.2 = true ∨ 0 < (rdT (b.take (b.length - 2), false)).2.1.length then ([], 3)
 else if validL (rdT (b.take (b.length - 2), false)).1 = false then ([], 1) else ((rdT (b.take (b.length - 2), false)).1, 0)
noncomputable def encodeL (t : Tr) : List UInt8 × Int := if validL t = false then ([], 1) else if 16384 < (codeL t).length then ([], 5) else (codeL t, 0)
theorem two_last {b : List UInt8} (h : 2 ≤ b.length) : b = b.take (b.length - 2) ++ [b.getD (b.length - 2) 0, b.getD (b.length - 1) 0] := by
 have h1 : b.drop (b.length - 2) = [b.getD (b.length - 2) 0, b.getD (b.length - 1) 0] := by
  rw [List.drop_eq_getElem_cons oM, List.drop_eq_getElem_cons oM, List.drop_of_length_le oM]
  rw [List.getD_eq_getElem?_getD, List.getElem?_eq_getElem oM, List.getD_eq_getElem?_getD, List.getElem?_eq_getElem oM]
  simp only [Option.getD_some, List.cons.injEq, and_true, true_and]
  congr 1
  omega
 rw [← h1, List.take_append_drop]
theorem sumOk_iff {b : List UInt8} (h : 2 ≤ b.length) : sumOk b ↔ b = sumL (b.take (b.length - 2)) := by
 have e := two_last h
 generalize hhi : b.getD (b.length - 2) 0 = hi at e
 generalize hlo : b.getD (b.length - 1) 0 = lo at e
 have h1 := hi.toNat_lt
 have h2 := lo.toNat_lt
 unfold sumOk
 rw [hhi, hlo]
 generalize b.take (b.length - 2) = body at e ⊢
 have hc := crc_lt body
 constructor
 ·intro hs
  rw [e, sumL, hs]
  congr 2
  ·exact UInt8.toNat_inj.1 (by rw [UInt8.toNat_ofNat']; omega)
  ·congr 1
   exact UInt8.toNat_inj.1 (by rw [UInt8.toNat_ofNat']; omega)
 ·intro hs
  rw [e] at hs
  unfold sumL at hs
  have := List.append_cancel_left hs
  simp only [List.cons.injEq, and_true] at this
  rw [this.1, this.2, UInt8.toNat_ofNat', UInt8.toNat_ofNat']
  omega
theorem codeL_len (t : Tr) : 2 < (codeL t).length := by
 unfold codeL
 rw [sumL_length]
 unfold bodyT
 rw [List.length_append]
 have := putL_pos t.length
 omega
theorem take_sumL (l : List UInt8) : (sumL l).take ((sumL l).length - 2) = l := by rw [sumL_length, Nat.add_sub_cancel]; unfold sumL; rw [List.take_left]
theorem decode_encode {t : Tr} (h : (encodeL t).2 = 0) : decodeL (encodeL t).1 = (t, 0) := by
 unfold encodeL at h ⊢
 split at h
 ·simp at h
 rename_i h1
 split at h
 ·simp at h
 rename_i h2
 simp only [Bool.not_eq_false] at h1
 rw [if_neg (by rw [h1]; decide), if_neg h2]
 simp only
 have hl := codeL_len t
 have ht : (codeL t).take ((codeL t).length - 2) = bodyT t := take_sumL _
 have hr := rdT_put (vok h1).numOk
 have hs : sumOk (codeL t) := (sumOk_iff oM).2 (by rw [ht]; rfl)
 unfold decodeL
 rw [if_neg h2, if_neg oM, if_neg (fun hh => hh hs), ht, hr]
 simp only
 rw [if_neg (by simp), if_neg (by rw [h1]; decide)]
theorem encode_decode {b : List UInt8} (h : (decodeL b).2 = 0) : encodeL (decodeL b).1 = (b, 0) := by
 unfold decodeL at h ⊢
 split at h
 ·simp at h
 rename_i h1
 split at h
 ·simp at h
 rename_i h2
 split at h
 ·simp at h
 rename_i h3
 split at h
 ·simp at h
 rename_i h4
 split at h
 ·simp at h
 rename_i h5
 rw [if_neg h1, if_neg h2, if_neg h3, if_neg h4, if_neg h5]
 simp only [not_or, Bool.not_eq_true, Nat.not_lt, Nat.le_zero_eq, List.length_eq_zero_iff, Classical.not_not, Bool.not_eq_false] at h3 h4 h5
 have hc := rdT_canon (b := b.take (b.length - 2)) (t := (rdT (b.take (b.length - 2), false)).1) (Prod.ext rfl (Prod.ext h4.2 h4.1))
 have hb : codeL (rdT (b.take (b.length - 2), false)).1 = b := by
  unfold codeL
  rw [hc]
  exact ((sumOk_iff oM).1 h3).symm
 unfold encodeL
 simp only
 rw [if_neg (by rw [h5]; decide), hb, if_neg h1]
theorem decode_changed {t : Tr} (h : (encodeL t).2 = 0) {i : Nat} {x y : UInt8} (hi : i < (encodeL t).1.length) (hne : chgL (encodeL t).1 i x y ≠ (encodeL t).1) : decodeL (chgL (encodeL t).1 i x y) = ([], 12) := by
 have e : encodeL t = (codeL t, 0) ∧ ¬ 16384 < (codeL t).length := by
  unfold encodeL at h ⊢
  split at h
  ·simp at h
  rename_i h1
  split at h
  ·simp at h
  rename_i h2
  exact ⟨by rw [if_neg h1, if_neg h2], h2⟩
 rw [e.1] at hi hne ⊢
 simp only at hi hne ⊢
 have hl := codeL_len t
 have h0 : crc (codeL t) = 0 := crc_sumL _
 have hc : crc (chgL (codeL t) i x y) ≠ 0 := fun hh => hne (crc_chg hi (by rw [hh, h0]))
 have hs : ¬ sumOk (chgL (codeL t) i x y) := fun hh => by
  have := (sumOk_iff (by rw [chgL_len]; omega)).1 hh
  rw [this] at hc
  exact hc (crc_sumL _)
 unfold decodeL
 rw [chgL_len, if_neg e.2, if_neg oM, if_pos hs]
end Go.Proofs.Ytanblnhnfkeffaa
