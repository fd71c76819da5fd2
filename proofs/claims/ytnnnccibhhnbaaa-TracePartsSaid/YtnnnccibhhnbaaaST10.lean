/- Texts of one proof, laid together: PK, PN, PO. No condition. -/
import Derived.Test.YtnnnccibhhnbaaaST9
import Derived.Test.YtnnnccibhhnbaaaST6
import Derived.Test.YtnnnccibhhnbaaaST2
namespace Go.Proofs.Ytnnnccibhhnbaaa
set_option linter.unusedVariables false
set_option linter.unusedSimpArgs false
/-- A consistent cut of a valid trace. -/
structure Cutt (t : Tr) (cs : List Int) : Prop where
  v : Vok t
  len : cs.length = t.length
  rng : ∀ p, p < t.length → 0 ≤ cAt cs p ∧ cAt cs p ≤ (evsOf t p).length
  ok : ∀ x ∈ ids t, (evAt t x).kind = 3 → (x.2 : Int) ≤ cAt cs x.1 → ((sndr t x).2 : Int) ≤ cAt cs (sndr t x).1
def cN (cs : List Int) (p : Nat) : Nat := (cAt cs p).toNat
theorem cutt_of {t : Tr} {cs : List Int} (h : prefC t cs = 0) : Cutt t cs := by
  have hl := pref_len h
  rw [pref_code] at h
  split at h
  · simp at h
  rename_i h1
  split at h
  · simp at h
  rename_i h2
  split at h
  · simp at h
  rename_i h3
  have hval : validL t = true := by
    cases hv : validL t with
    | true => rfl
    | false => exact absurd (.inl hv) h1
  refine ⟨vok hval, hl, fun p hp => ?_, fun x hx hk hle => ?_⟩
  · have h2 : (List.range cs.length).all (rangeB t cs) = true := by
      cases hq : (List.range cs.length).all (rangeB t cs) with
      | true => rfl
      | false => exact absurd hq h2
    rw [List.all_eq_true] at h2
    have := h2 p (List.mem_range.2 (by omega))
    unfold rangeB inB at this
    simp only [Bool.and_eq_true, decide_eq_true_eq] at this
    exact this
  · have h3 : (ids t).any (badL t cs) = false := by
      cases hq : (ids t).any (badL t cs) with
      | false => rfl
      | true => exact absurd hq h3
    rw [List.any_eq_false] at h3
    have := h3 x hx
    unfold badL at this
    have hs : sndr t x = firstOf t (ids t) 2 (evAt t x).msg := rfl
    rw [hs]
    rw [hk] at this
    simp only [show ((3 : Int) == 3) = true from rfl, Bool.true_and, Bool.and_eq_true, Bool.not_eq_true', decide_eq_false_iff_not, decide_eq_true_eq, not_and] at this
    have := this (by omega)
    omega
section
variable {t : Tr} {cs : List Int} (h : Cutt t cs)
include h
theorem cu_len : (firstL t cs).length = t.length := by unfold firstL; simp; have := h.len; omega
theorem cu_get {p : Nat} (hp : p < t.length) : (firstL t cs)[p]'(by rw [cu_len h]; exact hp) = cutP t[p] (cs[p]'(by rw [h.len]; exact hp)) := by
  unfold firstL; simp
theorem cu_at {p : Nat} (hp : p < t.length) : cs[p]'(by rw [h.len]; exact hp) = cAt cs p := by
  unfold cAt; simp [List.getD, show p < cs.length by rw [h.len]; exact hp]
theorem cu_evs {p : Nat} (hp : p < t.length) : evsOf (firstL t cs) p = (evsOf t p).take (cN cs p) := by
  rw [evsOf_lt (by rw [cu_len h]; exact hp), evsOf_lt hp, cu_get h hp]
  unfold cutP cN
  rw [cu_at h hp]
theorem cu_cnt {p : Nat} (hp : p < t.length) : cN cs p ≤ (evsOf t p).length := by
  have := h.rng p hp
  unfold cN; omega
theorem cu_mem {p i : Nat} : (p, i + 1) ∈ ids (firstL t cs) ↔ (p, i + 1) ∈ ids t ∧ i < cN cs p := by
  rw [mem_ids2, mem_ids2, cu_len h]
  constructor
  · rintro ⟨hp, hi⟩
    rw [cu_evs h hp, List.length_take] at hi
    exact ⟨⟨hp, by omega⟩, by omega⟩
  · rintro ⟨⟨hp, hi⟩, hc⟩
    refine ⟨hp, ?_⟩
    rw [cu_evs h hp, List.length_take]; omega
theorem cu_mem2 {x : Nat × Nat} : x ∈ ids (firstL t cs) ↔ x ∈ ids t ∧ x.2 ≤ cN cs x.1 := by
  obtain ⟨p, i⟩ := x
  cases i with
  | zero =>
    constructor
    · intro hx; have := mem_pos hx; simp at this
    · rintro ⟨hx, _⟩; have := mem_pos hx; simp at this
  | succ i => rw [cu_mem h]; simp only; exact ⟨fun ⟨a, b⟩ => ⟨a, by omega⟩, fun ⟨a, b⟩ => ⟨a, by omega⟩⟩
theorem cu_ev {x : Nat × Nat} (hx : x ∈ ids (firstL t cs)) : evAt (firstL t cs) x = evAt t x := by
  obtain ⟨p, i⟩ := x
  obtain ⟨i, rfl⟩ : ∃ k, i = k + 1 := ⟨i - 1, by have := mem_pos hx; simp only at this; omega⟩
  obtain ⟨h1, h2⟩ := (cu_mem h).1 hx
  have hp := (mem_ids2.1 h1).1
  unfold evAt
  simp only [Nat.add_sub_cancel]
  rw [cu_evs h hp]
  unfold List.getD
  rw [List.getElem?_take_of_lt h2]
theorem key_uniq {x : Nat × Nat} (hx : x ∈ ids t) {k : Int} (hk : k = 2 ∨ k = 3) (hkx : (evAt t x).kind = k) : findL t k (evAt t x).msg = some x := by
  rcases hk with rfl | rfl
  · exact h.v.paired.send hx hkx
  · exact (h.v.paired.recv hx hkx).1
theorem cu_find {k m : Int} (hk : k = 2 ∨ k = 3) {y : Nat × Nat} : findL (firstL t cs) k m = some y ↔ findL t k m = some y ∧ y ∈ ids (firstL t cs) := by
  have fw : ∀ z, findL (firstL t cs) k m = some z → findL t k m = some z ∧ z ∈ ids (firstL t cs) := fun z hz => by
    have hm := (firstOf_find hz).2.2
    obtain ⟨k1, k2⟩ := find_key hz
    rw [cu_ev h hm] at k1 k2
    have := key_uniq h ((cu_mem2 h).1 hm).1 hk k1
    rw [k2] at this
    exact ⟨this, hm⟩
  constructor
  · exact fw y
  · rintro ⟨h1, h2⟩
    cases hf : findL (firstL t cs) k m with
    | some z =>
      have := (fw z hf).1
      rw [h1] at this
      rw [Option.some.inj this]
    | none =>
      obtain ⟨k1, k2⟩ := find_key h1
      rw [← cu_ev h h2] at k1 k2
      have e : findL (firstL t cs) k m = (ids (firstL t cs)).find? (keyB (firstL t cs) k m) := rfl
      rw [e, List.find?_eq_none] at hf
      exact absurd (by unfold keyB; rw [k1, k2]; simp) (hf y h2)
/-- Who receives: the peer of the sender. -/
theorem recv_to {x z : Nat × Nat} (hx : x ∈ ids t) (hk : (evAt t x).kind = 2) (hz : findL t 3 (evAt t x).msg = some z) : (evAt t x).peer = (z.1 : Int) ∧ ∃ q : Nat, (evAt t z).peer = (q : Int) ∧ x.1 = q ∧ sendsB t q (evAt t x).msg z.1 = true := by
  have hzm := (firstOf_find hz).2.2
  obtain ⟨k3, km⟩ := find_key hz
  obtain ⟨m, q, hm, _, hq, hq2, hqp⟩ := formed_open (formF_formed (h.v.form z hzm)) (by rw [k3]; rfl)
  have hp := h.v.pair z hzm
  unfold pairF at hp
  rw [k3] at hp
  simp only [show ((3 : Int) == 2) = false from rfl, show ((3 : Int) == 3) = true from rfl, if_true, Bool.false_eq_true, if_false] at hp
  rw [if_pos (by have := (h.v.paired.recv hzm k3).1; simpa using this)] at hp
  have hs : sendsB t q (evAt t z).msg z.1 = true := by
    cases hc : sendsB t q (evAt t z).msg z.1 with
    | true => rfl
    | false => rw [hq, Int.toNat_natCast, hc] at hp; simp at hp
  have hs0 := hs
  unfold sendsB at hs
  obtain ⟨e, he, hb⟩ := List.any_eq_true.1 hs
  simp only [Bool.and_eq_true, beq_iff_eq] at hb
  rw [evsOf_lt hq2] at he
  obtain ⟨j, hj, rfl⟩ := List.getElem_of_mem he
  have hyi : (q, j + 1) ∈ ids t := mem_ids2.2 ⟨hq2, by rw [evsOf_lt hq2]; exact hj⟩
  have hye := evAt_eq hq2 hj
  have hf := key_uniq h hyi (.inl rfl) (by rw [hye]; exact hb.1.1)
  have hfx := key_uniq h hx (.inl rfl) hk
  rw [hye, hb.1.2, km, hfx] at hf
  have hxe := Option.some.inj hf
  rw [hxe, hye]
  exact ⟨hb.2, q, hq, rfl, by rw [← hxe, ← km] at *; rw [hb.1.2] at *; exact hs0⟩
theorem cu_sndr {x : Nat × Nat} (hx : x ∈ ids (firstL t cs)) (hk : (evAt t x).kind = 3) : sndr t x ∈ ids (firstL t cs) ∧ sndr (firstL t cs) x = sndr t x := by
  obtain ⟨h1, h2⟩ := (cu_mem2 h).1 hx
  obtain ⟨s1, _⟩ := sndr_in h.v h1 hk
  have hp := (mem_ids.1 h1).1
  have hr := h.rng x.1 hp
  have hq := (mem_ids.1 s1).1
  have hr2 := h.rng (sndr t x).1 hq
  have hok := h.ok x h1 hk (by unfold cN at h2; omega)
  have hm : sndr t x ∈ ids (firstL t cs) := (cu_mem2 h).2 ⟨s1, by unfold cN; omega⟩
  refine ⟨hm, ?_⟩
  obtain ⟨y, hy⟩ := (h.v.paired.recv h1 hk).2
  have e1 : sndr t x = y := (firstOf_find hy).1
  have : findL (firstL t cs) 2 (evAt (firstL t cs) x).msg = some y := by
    rw [cu_ev h hx, cu_find h (.inl rfl)]
    exact ⟨hy, by rw [← e1]; exact hm⟩
  rw [e1]
  exact (firstOf_find this).1
theorem cu_hb {x y : Nat × Nat} (hx : x ∈ ids (firstL t cs)) (hh : Hb (firstL t cs) x y) : y ∈ ids (firstL t cs) ∧ Hb t x y := by
  have dir : ∀ {a c : Nat × Nat}, a ∈ ids (firstL t cs) → Dir (firstL t cs) a c → Dir t a c := fun {a c} ha d => by
    have hp := (mem_ids.1 ((cu_mem2 h).1 ha).1).1
    rcases d with ⟨e, hl⟩ | ⟨hk, hf⟩
    · refine .inl ⟨e, ?_⟩
      rw [cu_evs h hp, List.length_take] at hl
      omega
    · rw [cu_ev h ha] at hk hf
      exact .inr ⟨hk, ((cu_find h (.inr rfl)).1 hf).1⟩
  induction hh with
  | one d => exact ⟨d.mem hx, .one (dir hx d)⟩
  | more _ d ih => exact ⟨d.mem ih.1, .more ih.2 (dir ih.1 d)⟩
theorem cu_head {p : Nat} (hp : p < t.length) : headF (firstL t cs) p = 0 := by
  have h0 := h.v.head p hp
  have hpu : p < (firstL t cs).length := by rw [cu_len h]; exact hp
  have hmap : (firstL t cs).map (·.name) = t.map (·.name) := by
    refine List.ext_getElem (by simp [cu_len h]) (fun i h1 h2 => ?_)
    simp only [List.length_map] at h1 h2
    simp only [List.getElem_map]
    rw [cu_get h h2]; rfl
  have hg : (firstL t cs).getD p dfPr = cutP t[p] (cs[p]'(by rw [h.len]; exact hp)) := by rw [getD_at hpu, cu_get h hp]
  have hgt : t.getD p dfPr = t[p] := getD_at hp
  have hany : ∀ g : ByteArray → Bool, ((firstL t cs).take p).any (fun y => g y.name) = (t.take p).any (fun y => g y.name) := fun g => by
    have e1 : ∀ l : List Pr, l.any (fun y => g y.name) = (l.map (·.name)).any g := fun l => by rw [List.any_map]; rfl
    rw [e1, e1, List.map_take, List.map_take, hmap]
  unfold headF at h0 ⊢
  rw [hgt] at h0
  rw [hg]
  have hn : (cutP t[p] (cs[p]'(by rw [h.len]; exact hp))).name = t[p].name := rfl
  have hv : (cutP t[p] (cs[p]'(by rw [h.len]; exact hp))).vars = t[p].vars := rfl
  rw [hn, hv]
  have ha : ((firstL t cs).take p).any (fun y => y.name.toList == t[p].name.toList) = (t.take p).any (fun y => y.name.toList == t[p].name.toList) := hany (fun s => s.toList == t[p].name.toList)
  rw [ha]
  split at h0
  · simp at h0
  rename_i q1
  rw [if_neg q1]
  split at h0
  · simp at h0
  rename_i q2
  rw [if_neg q2]
  split at h0
  · rename_i q3; exact absurd h0 q3
  rename_i q3
  rw [if_neg q3]
  split at h0
  · simp at h0
  rename_i q4
  rw [if_neg]
  have : (cutP t[p] (cs[p]'(by rw [h.len]; exact hp))).evs.length ≤ t[p].evs.length := by unfold cutP; rw [List.length_take]; omega
  omega
theorem cu_form {x : Nat × Nat} (hx : x ∈ ids (firstL t cs)) : formF (firstL t cs) x = 0 := by
  obtain ⟨h1, h2⟩ := (cu_mem2 h).1 hx
  have hp := (mem_ids.1 h1).1
  have h0 := h.v.form x h1
  have hl : lastT (firstL t cs) x = lastT t x := by
    unfold lastT
    by_cases hc : 1 < x.2
    · rw [if_pos hc, if_pos hc, cu_evs h hp]
      unfold List.getD
      rw [List.getElem?_take_of_lt (by omega)]
    · rw [if_neg hc, if_neg hc]
  have hg : ((firstL t cs).getD x.1 dfPr).vars = (t.getD x.1 dfPr).vars := by
    rw [getD_at (by rw [cu_len h]; exact hp), cu_get h hp, getD_at hp]; rfl
  unfold formF at h0 ⊢
  rw [cu_ev h hx, cu_len h, hl, hg]
  exact h0
theorem cu_pair {x : Nat × Nat} (hx : x ∈ ids (firstL t cs)) : pairF (firstL t cs) x = 0 := by
  obtain ⟨h1, h2⟩ := (cu_mem2 h).1 hx
  have hev := cu_ev h hx
  unfold pairF
  rw [hev]
  by_cases k2 : (evAt t x).kind = 2
  · have hf : findL (firstL t cs) 2 (evAt t x).msg = some x := (cu_find h (.inl rfl)).2 ⟨key_uniq h h1 (.inl rfl) k2, hx⟩
    rw [hf, k2]; simp
  · by_cases k3 : (evAt t x).kind = 3
    · have hf : findL (firstL t cs) 3 (evAt t x).msg = some x := (cu_find h (.inr rfl)).2 ⟨key_uniq h h1 (.inr rfl) k3, hx⟩
      obtain ⟨sm, _⟩ := cu_sndr h hx k3
      obtain ⟨p1, p2, p3, p4⟩ := sndr_peer h.v h1 k3
      obtain ⟨s1, _⟩ := sndr_in h.v h1 k3
      have hto := (recv_to h s1 p3 (z := x) (by rw [p4]; exact key_uniq h h1 (.inr rfl) k3)).1
      have hsm : sendsB (firstL t cs) (evAt t x).peer.toNat (evAt t x).msg x.1 = true := by
        rw [p1, Int.toNat_natCast]
        unfold sendsB
        rw [List.any_eq_true]
        obtain ⟨⟨sp, si⟩, hs⟩ : ∃ s, sndr t x = s := ⟨_, rfl⟩
        rw [hs] at sm s1 p3 p4 hto ⊢
        obtain ⟨si, rfl⟩ : ∃ k, si = k + 1 := ⟨si - 1, by have := mem_pos s1; simp only at this; omega⟩
        obtain ⟨m1, m2⟩ := mem_ids2.1 sm
        have hev2 := cu_ev h sm
        refine ⟨(evsOf (firstL t cs) sp)[si], List.getElem_mem m2, ?_⟩
        have e : evAt (firstL t cs) (sp, si + 1) = (evsOf (firstL t cs) sp)[si] := by
          unfold evAt; simp only [Nat.add_sub_cancel]; exact getD_at m2
        rw [← e, hev2, p3, p4, hto]; simp
      rw [hf, k3, hsm]; simp
    · have e2 : ((evAt t x).kind == 2) = false := beq_eq_false_iff_ne.2 k2
      have e3 : ((evAt t x).kind == 3) = false := beq_eq_false_iff_ne.2 k3
      rw [e2, e3]; rfl
theorem cu_vok : Vok (firstL t cs) := by
  refine ⟨by rw [cu_len h]; exact h.v.lo, by rw [cu_len h]; exact h.v.hi, fun p hp => cu_head h (by rw [← cu_len h]; exact hp), fun x hx => cu_form h hx, fun x hx => cu_pair h hx, fun x hx hh => ?_⟩
  exact h.v.acyc x ((cu_mem2 h).1 hx).1 (cu_hb h hx hh).2
end
theorem valid_of {t : Tr} (h : Vok t) : validL t = true := by
  unfold validL faultL
  have h1 : ¬ (t.length < 1 ∨ 8 < t.length) := by have := h.lo; have := h.hi; omega
  rw [if_neg h1]
  have h2 : (List.range t.length).find? (fun p => headF t p != 0) = none := by
    rw [List.find?_eq_none]; intro p hp; rw [h.head p (List.mem_range.1 hp)]; simp
  have h3 : (ids t).find? (fun x => formF t x != 0) = none := by
    rw [List.find?_eq_none]; intro x hx; rw [h.form x hx]; simp
  have h4 : (ids t).find? (fun x => pairF t x != 0) = none := by
    rw [List.find?_eq_none]; intro x hx; rw [h.pair x hx]; simp
  simp only [h2, h3, h4]
  split
  · rename_i x hx
    have := List.find?_some hx
    have hm := List.mem_of_find?_eq_some hx
    exact absurd (by simpa using this) (h.acyc x hm)
  · rfl
end Go.Proofs.Ytnnnccibhhnbaaa

namespace Go.Proofs.Ytnnnccibhhnbaaa
set_option linter.unusedVariables false
set_option linter.unusedSimpArgs false
theorem rcv_none {t : Tr} {m : Int} (h : findL t 3 m = none) : (findV t 3 m).2 = 0 := by
  have h : (ids t).find? (keyB t 3 m) = none := h
  unfold findV firstOf
  rw [h]; rfl
theorem rcv_some {t : Tr} {m : Int} {y : Nat × Nat} (h : findL t 3 m = some y) : (findV t 3 m).2 = y.2 := by rw [(firstOf_find h).1.symm]; rfl
section
variable {t : Tr} {cs : List Int} (h : Cutt t cs)
include h
theorem cu_fifo (hf : fifoB t = true) : fifoB (firstL t cs) = true := by
  refine fifo_true (fun p hp i hi j hj => ?_)
  have hpt : p < t.length := by rw [← cu_len h]; exact hp
  have hi2 : i < (evsOf (firstL t cs) p).length := by rw [evsOf_lt hp]; exact hi
  have mi : (p, i + 1) ∈ ids (firstL t cs) := mem_ids2.2 ⟨hp, hi2⟩
  have mj : (p, j + 1) ∈ ids (firstL t cs) := mem_ids2.2 ⟨hp, by omega⟩
  have ei : evp (firstL t cs) p i = evp t p i := cu_ev h mi
  have ej : evp (firstL t cs) p j = evp t p j := cu_ev h mj
  cases hb : pairBad (firstL t cs) p j i with
  | false => rfl
  | true =>
    have mit := ((cu_mem2 h).1 mi).1
    have mjt := ((cu_mem2 h).1 mj).1
    unfold pairBad toI at hb
    rw [ei, ej] at hb
    simp only [Bool.and_eq_true, beq_iff_eq, bne_iff_ne, ne_eq, Bool.or_eq_true, decide_eq_true_eq] at hb
    obtain ⟨kj, ki, kp, ni, hor⟩ := hb
    cases fi : findL (firstL t cs) 3 (evp t p i).msg with
    | none => exact absurd (rcv_none fi) ni
    | some y =>
      rw [rcv_some fi] at ni hor
      obtain ⟨fit, hyu⟩ := (cu_find h (.inr rfl)).1 fi
      have hy2 := ((cu_mem2 h).1 hyu).2
      have pyi := (recv_to h mit ki fit).1
      have bad : pairBad t p j i = true → False := fun hbt => by
        have hil : i < t[p].evs.length := by have := (mem_ids2.1 mit).2; rwa [evsOf_lt hpt] at this
        rw [fifo_false hpt hil hj hbt] at hf; cases hf
      refine (bad ?_).elim
      unfold pairBad toI
      simp only [Bool.and_eq_true, beq_iff_eq, bne_iff_ne, ne_eq, Bool.or_eq_true, decide_eq_true_eq]
      refine ⟨kj, ki, kp, by rw [rcv_some fit]; exact ni, ?_⟩
      rw [rcv_some fit]
      cases fj : findL t 3 (evp t p j).msg with
      | none => exact .inl (rcv_none fj)
      | some z =>
        rw [rcv_some fj]
        by_cases hzu : z ∈ ids (firstL t cs)
        · have fju : findL (firstL t cs) 3 (evp t p j).msg = some z := (cu_find h (.inr rfl)).2 ⟨fj, hzu⟩
          rw [rcv_some fju] at hor
          exact hor
        · have pzj := (recv_to h mjt kj fj).1
          have hzt := (firstOf_find fj).2.2
          have h1 : ¬ z.2 ≤ cN cs z.1 := fun k => hzu ((cu_mem2 h).2 ⟨hzt, k⟩)
          have e1 : (z.1 : Int) = (y.1 : Int) := by rw [← pzj, ← pyi]; exact kp
          have e2 : z.1 = y.1 := by omega
          rw [e2] at h1
          exact .inr (by omega)
end
/-- How many events there are in the first processes. -/
def evC (t : Tr) (i : Nat) : Nat := (idsTo t i 0).length
theorem evC_succ {t : Tr} {i : Nat} (h : i < t.length) : evC t (i + 1) = evC t i + t[i].evs.length := by
  unfold evC
  rw [← idsTo_next t i h]
  simp [idsTo]
theorem evC_all {t : Tr} : evC t t.length = (ids t).length := by unfold evC; rw [idsTo_all]
/-- The sum of the first counts. -/
def sumC (cs : List Int) : Nat → Int
  | 0 => 0
  | i + 1 => sumC cs i + cAt cs i
theorem cu_sum {t : Tr} {cs : List Int} (h : Cutt t cs) : ∀ i, i ≤ t.length → (evC (firstL t cs) i : Int) = sumC cs i
  | 0, _ => rfl
  | i + 1, hi => by
    have ih := cu_sum h i (by omega)
    have hl := cu_len h
    rw [evC_succ (by rw [hl]; omega)]
    unfold sumC
    rw [← ih]
    have hp : i < t.length := by omega
    have e : (firstL t cs)[i]'(by rw [hl]; exact hp) = cutP t[i] (cs[i]'(by rw [h.len]; exact hp)) := cu_get h hp
    have hr := h.rng i hp
    rw [evsOf_lt hp] at hr
    rw [e]
    unfold cutP
    rw [List.length_take, cu_at h hp]
    omega
theorem cu_count {t : Tr} {cs : List Int} (h : Cutt t cs) : ((ids (firstL t cs)).length : Int) = sumC cs cs.length := by
  rw [← evC_all, cu_len h, cu_sum h _ (Nat.le_refl _), h.len]
theorem cu_pref {t : Tr} {cs : List Int} (h : Cutt t cs) (fs : List Int) : (prefC (firstL t cs) fs = 0 → prefC t fs = 0 ∧ firstL (firstL t cs) fs = firstL t fs) ∧ (prefC (firstL t cs) fs ≠ 0 → prefC t fs = prefC (firstL t cs) fs ∨ prefC (firstL t cs) fs = 2) := by
  have hl := cu_len h
  have vu : validL (firstL t cs) = true := valid_of (cu_vok h)
  have vt : validL t = true := valid_of h.v
  by_cases hfl : fs.length = t.length
  case neg =>
    have h1 : prefC (firstL t cs) fs = 1 := by rw [pref_code, if_pos (.inr (by rw [hl]; exact hfl))]
    have h2 : prefC t fs = 1 := by rw [pref_code, if_pos (.inr hfl)]
    rw [h1, h2]
    exact ⟨fun k => absurd k (by decide), fun _ => Or.inl rfl⟩
  have n1 : ¬ (validL (firstL t cs) = false ∨ fs.length ≠ (firstL t cs).length) := by rw [vu, hl]; simp [hfl]
  have n2 : ¬ (validL t = false ∨ fs.length ≠ t.length) := by rw [vt]; simp [hfl]
  by_cases hr : (List.range fs.length).all (rangeB (firstL t cs) fs) = false
  · have h1 : prefC (firstL t cs) fs = 2 := by rw [pref_code, if_neg n1, if_pos hr]
    rw [h1]
    exact ⟨fun k => absurd k (by decide), fun _ => Or.inr rfl⟩
  have hr1 : (List.range fs.length).all (rangeB (firstL t cs) fs) = true := by simpa using hr
  have hrp : ∀ p, p < t.length → 0 ≤ cAt fs p ∧ cAt fs p ≤ (cN cs p : Int) ∧ cN cs p ≤ (evsOf t p).length := fun p hp => by
    rw [List.all_eq_true] at hr1
    have := hr1 p (List.mem_range.2 (by omega))
    unfold rangeB inB at this
    simp only [Bool.and_eq_true, decide_eq_true_eq] at this
    rw [cu_evs h hp, List.length_take] at this
    have := cu_cnt h hp
    omega
  have hrt : (List.range fs.length).all (rangeB t fs) = true := by
    rw [List.all_eq_true]
    intro p hp
    have := hrp p (by have := List.mem_range.1 hp; omega)
    unfold rangeB inB
    simp only [Bool.and_eq_true, decide_eq_true_eq]
    omega
  have same : ∀ x ∈ ids (firstL t cs), badL (firstL t cs) fs x = badL t fs x := fun x hx => by
    have hev := cu_ev h hx
    unfold badL
    rw [hev]
    by_cases hk : (evAt t x).kind = 3
    · have hs := (cu_sndr h hx hk).2
      have e1 : firstOf (firstL t cs) (ids (firstL t cs)) 2 (evAt t x).msg = firstOf t (ids t) 2 (evAt t x).msg := by
        have : sndr (firstL t cs) x = firstOf (firstL t cs) (ids (firstL t cs)) 2 (evAt (firstL t cs) x).msg := rfl
        rw [hev] at this
        rw [← this, hs]; rfl
      rw [e1]
    · have e3 : ((evAt t x).kind == 3) = false := beq_eq_false_iff_ne.2 hk
      rw [e3]; rfl
  have hany : (ids (firstL t cs)).any (badL (firstL t cs) fs) = (ids t).any (badL t fs) := by
    rw [Bool.eq_iff_iff, List.any_eq_true, List.any_eq_true]
    constructor
    · rintro ⟨x, hx, hb⟩
      exact ⟨x, ((cu_mem2 h).1 hx).1, by rw [← same x hx]; exact hb⟩
    · rintro ⟨x, hx, hb⟩
      have hxu : x ∈ ids (firstL t cs) := by
        refine (cu_mem2 h).2 ⟨hx, ?_⟩
        have := hrp x.1 (mem_ids.1 hx).1
        unfold badL at hb
        simp only [Bool.and_eq_true, Bool.not_eq_true', decide_eq_false_iff_not] at hb
        have := hb.2.1
        omega
      exact ⟨x, hxu, by rw [same x hxu]; exact hb⟩
  have hc : prefC t fs = prefC (firstL t cs) fs := by
    have m1 : ¬ ((List.range fs.length).all (rangeB (firstL t cs) fs) = false) := by rw [hr1]; decide
    have m2 : ¬ ((List.range fs.length).all (rangeB t fs) = false) := by rw [hrt]; decide
    rw [pref_code, pref_code, if_neg n1, if_neg n2, if_neg m1, if_neg m2, hany]
  refine ⟨fun k => ⟨by rw [hc]; exact k, ?_⟩, fun _ => .inl hc⟩
  refine List.ext_getElem (by have := h.len; unfold firstL; simp; omega) (fun p h1 h2 => ?_)
  have hp : p < t.length := by unfold firstL at h2; simp at h2; omega
  have e : (firstL t cs)[p]'(by rw [hl]; exact hp) = cutP t[p] (cs[p]'(by rw [h.len]; exact hp)) := cu_get h hp
  have hf := hrp p hp
  have hfp : fs[p]'(by omega) = cAt fs p := by unfold cAt; simp [List.getD, show p < fs.length by omega]
  have e1 : (firstL (firstL t cs) fs)[p] = cutP ((firstL t cs)[p]'(by rw [hl]; exact hp)) (fs[p]'(by omega)) := List.getElem_zipWith
  have e2 : (firstL t fs)[p] = cutP t[p] (fs[p]'(by omega)) := List.getElem_zipWith
  rw [e1, e2, e]
  unfold cutP
  simp only [List.take_take]
  rw [hfp, cu_at h hp, Nat.min_eq_left (by unfold cN at hf; omega)]
theorem vok_evs {t : Tr} (h : Vok t) {p : Nat} (hp : p < t.length) : t[p].evs.length ≤ 64 := by
  have h0 := h.head p hp
  unfold headF at h0
  rw [getD_at hp] at h0
  split at h0
  · simp at h0
  split at h0
  · simp at h0
  split at h0
  · rename_i q; exact absurd h0 q
  split at h0
  · simp at h0
  · omega
theorem vok_ids {t : Tr} (h : Vok t) : (ids t).length ≤ 512 := by
  have : ∀ i, i ≤ t.length → evC t i ≤ 64 * i := by
    intro i
    induction i with
    | zero => intro _; exact Nat.le_refl _
    | succ i ih =>
      intro hi
      have := ih (by omega)
      have := vok_evs h (show i < t.length by omega)
      rw [evC_succ (by omega)]; omega
  have h1 := this t.length (Nat.le_refl _)
  rw [evC_all] at h1
  have := h.hi
  omega
end Go.Proofs.Ytnnnccibhhnbaaa

namespace Go.Proofs.Ytnnnccibhhnbaaa
set_option linter.unusedVariables false
set_option linter.unusedSimpArgs false
attribute [local go_sem ↓] run_skip run_region run_draw run_seq run_block run_exit run_ret run_cond atN_app seqC_normal seqC_exit seqC_ret seqQ_normal seqQ_exit seqQ_ret blkQ_normal blkQ_exit blkQ_ret runOps_nil runOps_cons runD_nil runD_cons grdO_true grdO_false grdD_true grdD_false ifC_true ifC_false opS_val opS_call opS_two opK_app dS_val dS_call dS_two dK_app kUp_same kUp_ne
attribute [local go_sem] rechks_nil rechks_cons rechk gcase_true gcase_false ex_val ex_val0 gd_none gd_some ev_t ev_c evs_nil evs_cons evo_some evo_none hget_at hget_first hsetB_at hsetB_first hsetL_at hsetL_first ofOpt_some aop aload astore aslice aappend aiaddr aiaddrA afaddr alen alenS acopy amm acall alookup amupdate alenM comma keyEq apick binV binVB binVS isSh intOp strOp boolOp shOp eqC eqF and2 cellsOf setFrom fillA fillS rd rdI elems mk bounds AV.cell List.all_cons List.all_nil Bool.and_true Bool.true_and Bool.and_self List.length_cons List.length_nil List.length_append Nat.reduceAdd Nat.reduceSub Nat.reduceMul Nat.zero_add Nat.add_zero List.cons_append List.nil_append List.append_assoc List.append_nil List.getElem?_cons_zero List.getElem?_cons_succ List.getElem?_nil List.set_cons_zero List.set_cons_succ List.drop_zero List.drop_succ_cons List.take_zero List.take_succ_cons List.take_nil List.drop_nil List.map_cons List.map_nil Option.map_some if_true if_false Bool.false_eq_true and_self true_and and_true Nat.reduceLeDiff Nat.reduceLT Nat.le_refl Nat.reduceEqDiff ite_true ite_false beq_self_eq_true beq_true beq_false Bool.not_true Bool.not_false Bool.true_beq Bool.false_beq map_vs vs_len vs_get vs_take vs_drop vs_snoc1 vs_snoc2 vs_snoc3 vs_snoc5 vs_set1 vs_set2 vs_rep wrap_id le_T lt_T le_F lt_F leI_T ltI_T leI_F ltI_F geI gtI get_T decide_true decide_false room List.getElem?_map List.length_map List.length_take Int.toNat_natCast Nat.min_def Nat.min_self nth_kOf put_kOf put_kNo kOv_cons kOv_nil KHas KArgs List.getElem_cons_zero List.getElem_cons_succ
def a_PartsL : AFunc := ⟨3, 112, [.tmp 6],
  (.seq (.region [⟨(some 3), .box (.t 0), none⟩, ⟨(some 6), .mv (.c (.v (.bool false))), none⟩])
  (.seq (.seq (.region [⟨(some 15), .call (.c (.fn 43 [])) [], none⟩, ⟨(some 16), .not (.t 15), none⟩])
  (.cond (.t 16) (.seq (.region [⟨(some 6), .mv (.c (.v (.bool false))), none⟩])
  .ret)
  .skip))
  (.seq (.seq (.region [⟨(some 17), .load (some 1) (.t 3), none⟩, ⟨(some 18), .call (.c (.fn 44 [])) [(.t 17)], none⟩, ⟨(some 19), .not (.t 18), none⟩, ⟨(some 20), .mv (.t 19), none⟩, ⟨(some 21), .mv (.t 1), some (20, false)⟩, ⟨(some 22), .len (.t 21), some (20, false)⟩, ⟨(some 23), .bin .gtr (.t 22) (.c (.v (.int .i64 20))), some (20, false)⟩, ⟨(some 24), .pick (.t 20) (.c (.v (.bool true))) (.t 23), none⟩, ⟨(some 25), .mv (.t 24), none⟩, ⟨(some 26), .mv (.t 2), some (25, false)⟩, ⟨(some 27), .len (.t 26), some (25, false)⟩, ⟨(some 28), .bin .gtr (.t 27) (.c (.v (.int .i64 20))), some (25, false)⟩, ⟨(some 29), .pick (.t 25) (.c (.v (.bool true))) (.t 28), none⟩, ⟨(some 30), .mv (.t 29), none⟩, ⟨(some 31), .load (some 1) (.t 3), some (30, false)⟩, ⟨(some 32), .call (.c (.fn 45 [])) [(.t 31)], some (30, false)⟩, ⟨(some 33), .not (.t 32), some (30, false)⟩, ⟨(some 34), .pick (.t 30) (.c (.v (.bool true))) (.t 33), none⟩])
  (.cond (.t 34) (.seq (.region [⟨(some 6), .mv (.c (.v (.bool true))), none⟩])
  .ret)
  .skip))
  (.seq (.region [⟨(some 36), .load (some 1) (.t 3), none⟩, ⟨(some 37), .mv (.t 1), none⟩, ⟨(some 38), .call (.c (.fn 46 [])) [(.t 36), (.t 37)], none⟩, ⟨(some 35), .mv (.t 38), none⟩, ⟨(some 39), .extract 0 (.t 35), none⟩, ⟨(some 40), .extract 1 (.t 35), none⟩, ⟨(some 7), .alloc [(.v .zsl)], none⟩, ⟨none, .store 1 (.t 7) (.t 39), none⟩, ⟨(some 8), .mv (.t 40), none⟩])
  (.seq (.seq (.region [⟨(some 41), .mv (.t 8), none⟩, ⟨(some 42), .bin .neq (.t 41) (.c (.v (.int .i64 0))), none⟩])
  (.cond (.t 42) (.seq (.region [⟨(some 43), .faddr 0 (.t 7), none⟩, ⟨(some 44), .load none (.t 43), none⟩, ⟨(some 45), .len (.t 44), none⟩, ⟨(some 46), .bin .eql (.t 45) (.c (.v (.int .i64 0))), none⟩, ⟨(some 6), .mv (.t 46), none⟩])
  .ret)
  .skip))
  (.seq (.region [⟨(some 9), .mv (.c (.v (.int .i64 0))), none⟩])
  (.seq (.seq (.region [⟨(some 47), .mv (.t 1), none⟩, ⟨(some 48), .len (.t 47), none⟩, ⟨(some 49), .mv (.c (.v (.int .i64 0))), none⟩])
  (.block 0 (.loop (.seq (.region [⟨(some 50), .bin .lss (.t 49) (.t 48), none⟩])
  (.seq (.cond (.t 50) .skip
  (.exit 0))
  (.seq (.block 1 (.seq (.region [⟨(some 51), .iaddr 1 (.t 47) (.t 49), none⟩, ⟨(some 52), .load none (.t 51), none⟩, ⟨(some 11), .mv (.t 52), none⟩])
  (.region [⟨(some 53), .mv (.t 9), none⟩, ⟨(some 54), .mv (.t 11), none⟩, ⟨(some 55), .bin .add (.t 53) (.t 54), none⟩, ⟨(some 9), .mv (.t 55), none⟩])))
  (.region [⟨(some 56), .bin .add (.t 49) (.c (.v (.int .i64 1))), none⟩, ⟨(some 49), .mv (.t 56), none⟩])))))))
  (.seq (.seq (.region [⟨(some 57), .load (some 1) (.t 7), none⟩, ⟨(some 58), .call (.c (.fn 45 [])) [(.t 57)], none⟩, ⟨(some 59), .not (.t 58), none⟩, ⟨(some 60), .mv (.t 59), none⟩, ⟨(some 61), .load (some 1) (.t 7), some (60, false)⟩, ⟨(some 62), .call (.c (.fn 47 [])) [(.t 61)], some (60, false)⟩, ⟨(some 63), .mv (.t 9), some (60, false)⟩, ⟨(some 64), .bin .neq (.t 62) (.t 63), some (60, false)⟩, ⟨(some 65), .pick (.t 60) (.c (.v (.bool true))) (.t 64), none⟩, ⟨(some 66), .mv (.t 65), none⟩, ⟨(some 67), .load (some 1) (.t 3), some (66, false)⟩, ⟨(some 68), .call (.c (.fn 48 [])) [(.t 67)], some (66, false)⟩, ⟨(some 69), .mv (.t 68), some (66, false)⟩, ⟨(some 70), .load (some 1) (.t 7), some (69, true)⟩, ⟨(some 71), .call (.c (.fn 48 [])) [(.t 70)], some (69, true)⟩, ⟨(some 72), .not (.t 71), some (69, true)⟩, ⟨(some 73), .pick (.t 69) (.t 72) (.c (.v (.bool false))), some (66, false)⟩, ⟨(some 74), .pick (.t 66) (.c (.v (.bool true))) (.t 73), none⟩, ⟨(some 75), .mv (.t 74), none⟩, ⟨(some 76), .faddr 0 (.t 7), some (75, false)⟩, ⟨(some 77), .load none (.t 76), some (75, false)⟩, ⟨(some 78), .len (.t 77), some (75, false)⟩, ⟨(some 79), .faddr 0 (.t 3), some (75, false)⟩, ⟨(some 80), .load none (.t 79), some (75, false)⟩, ⟨(some 81), .len (.t 80), some (75, false)⟩, ⟨(some 82), .bin .neq (.t 78) (.t 81), some (75, false)⟩, ⟨(some 83), .pick (.t 75) (.c (.v (.bool true))) (.t 82), none⟩])
  (.cond (.t 83) (.seq (.region [⟨(some 6), .mv (.c (.v (.bool false))), none⟩])
  .ret)
  .skip))
  (.seq (.region [⟨(some 85), .load (some 1) (.t 7), none⟩, ⟨(some 86), .mv (.t 2), none⟩, ⟨(some 87), .call (.c (.fn 46 [])) [(.t 85), (.t 86)], none⟩, ⟨(some 84), .mv (.t 87), none⟩, ⟨(some 88), .extract 0 (.t 84), none⟩, ⟨(some 89), .extract 1 (.t 84), none⟩, ⟨(some 12), .alloc [(.v .zsl)], none⟩, ⟨none, .store 1 (.t 12) (.t 88), none⟩, ⟨(some 8), .mv (.t 89), none⟩])
  (.seq (.region [⟨(some 91), .load (some 1) (.t 3), none⟩, ⟨(some 92), .mv (.t 2), none⟩, ⟨(some 93), .call (.c (.fn 46 [])) [(.t 91), (.t 92)], none⟩, ⟨(some 90), .mv (.t 93), none⟩, ⟨(some 94), .extract 0 (.t 90), none⟩, ⟨(some 95), .extract 1 (.t 90), none⟩, ⟨(some 13), .alloc [(.v .zsl)], none⟩, ⟨none, .store 1 (.t 13) (.t 94), none⟩, ⟨(some 14), .mv (.t 95), none⟩])
  (.seq (.seq (.region [⟨(some 96), .mv (.t 8), none⟩, ⟨(some 97), .bin .neq (.t 96) (.c (.v (.int .i64 0))), none⟩])
  (.cond (.t 97) (.seq (.region [⟨(some 98), .mv (.t 14), none⟩, ⟨(some 99), .mv (.t 8), none⟩, ⟨(some 100), .bin .eql (.t 98) (.t 99), none⟩, ⟨(some 101), .mv (.t 100), none⟩, ⟨(some 102), .mv (.t 8), some (101, false)⟩, ⟨(some 103), .bin .eql (.t 102) (.c (.v (.int .i64 2))), some (101, false)⟩, ⟨(some 104), .pick (.t 101) (.c (.v (.bool true))) (.t 103), none⟩, ⟨(some 6), .mv (.t 104), none⟩])
  .ret)
  .skip))
  (.seq (.region [⟨(some 105), .mv (.t 14), none⟩, ⟨(some 106), .bin .eql (.t 105) (.c (.v (.int .i64 0))), none⟩, ⟨(some 107), .mv (.t 106), none⟩, ⟨(some 108), .load (some 1) (.t 12), some (107, true)⟩, ⟨(some 109), .load (some 1) (.t 13), some (107, true)⟩, ⟨(some 110), .call (.c (.fn 49 [])) [(.t 108), (.t 109)], some (107, true)⟩, ⟨(some 111), .pick (.t 107) (.t 110) (.c (.v (.bool false))), none⟩, ⟨(some 6), .mv (.t 111), none⟩])
  .ret))))))))))))⟩
theorem a_PartsL_ok : cFunc Try.prog 7 = some a_PartsL := by kernel_rfl
def r_PartsL0 : List (Nat × Nat) := [(9, 9), (11, 11), (49, 56)]

set_option maxRecDepth 20000 in
set_option maxHeartbeats 4000000 in
theorem traceParts_run (t : Tr) (hF : Fits t) (hN : Nm t) (cs fs : List Int) (b l : List Row) :
    ACalls Try.prog 7 [.agg [.v (eT t)], .v (.isl 1 (cs.map eI)), .v (.isl 1 (fs.map eI))] b l (fun r b' l' => r = .v (.bool true) ∧ b' = b ∧ l' = l) := by
  refine calls_kept a_PartsL_ok rfl (by decide) ?_
  intro B g hB hR hE hA
  simp only [KArgs] at hA
  have hn0 : ((0 : Int) != 0) = false := rfl
  have hnn : ∀ n : Int, (n != n) = false := fun n => by simp
  have hee : ∀ n : Int, (n == n) = true := fun n => by simp
  simp (disch := decide) only [a_PartsL, hA, go_sem]
  refine ACalls.nxt (awake_spec _ _) ?_
  simp (disch := decide) only [hA, go_sem]
  refine ACalls.nxt (few_spec t hF _ _) ?_
  cases hf : fewB t with
  | false =>
    simp (disch := decide) only [hA, go_sem]
    exact leave_pure (xs := [.v (.bool true)]) (.inr rfl) (by simp (disch := (first | decide | omega)) only [resVs, resV, go_sem, hA]) (by simp only [one, AVlt_v, AVlt_any, AVlt_sl, AVlt_ptr, AVlt_mp, AVlt_agg, AVlt_tup, AVlt_fn, RowsLt_nil, RowsLt_live, RowsLt_dead, List.mem_cons, List.not_mem_nil, List.forall_mem_cons, List.forall_mem_nil, or_false, false_or, forall_eq_or_imp, forall_eq, vs_lt, Nat.add_lt_add_iff_left, Nat.reduceLT, true_and, and_true, and_self, List.length_cons, List.length_nil, Nat.reduceAdd, Nat.zero_add, implies_true, false_imp_iff, lt_T, List.mem_map]) hR hB ⟨rfl, rfl, rfl⟩
  | true =>
  have hS := few_small hf
  by_cases h20 : 20 < cs.length
  · have hd : decide ((cs.length : Int) > 20) = true := decide_eq_true (by omega)
    have hd' : decide ((20 : Int) < (cs.length : Int)) = true := hd
    simp (disch := decide) only [hA, hd, hd', List.length_map, go_sem]
    exact leave_pure (xs := [.v (.bool true)]) (.inr rfl) (by simp (disch := (first | decide | omega)) only [resVs, resV, go_sem, hA]) (by simp only [one, AVlt_v, AVlt_any, AVlt_sl, AVlt_ptr, AVlt_mp, AVlt_agg, AVlt_tup, AVlt_fn, RowsLt_nil, RowsLt_live, RowsLt_dead, List.mem_cons, List.not_mem_nil, List.forall_mem_cons, List.forall_mem_nil, or_false, false_or, forall_eq_or_imp, forall_eq, vs_lt, Nat.add_lt_add_iff_left, Nat.reduceLT, true_and, and_true, and_self, List.length_cons, List.length_nil, Nat.reduceAdd, Nat.zero_add, implies_true, false_imp_iff, lt_T, List.mem_map]) hR hB ⟨rfl, rfl, rfl⟩
  have hd : decide ((cs.length : Int) > 20) = false := decide_eq_false (by omega)
  have hd' : decide ((20 : Int) < (cs.length : Int)) = false := hd
  by_cases f20 : 20 < fs.length
  · have he : decide ((fs.length : Int) > 20) = true := decide_eq_true (by omega)
    have he' : decide ((20 : Int) < (fs.length : Int)) = true := he
    simp (disch := decide) only [hA, hd, hd', he, he', List.length_map, go_sem]
    exact leave_pure (xs := [.v (.bool true)]) (.inr rfl) (by simp (disch := (first | decide | omega)) only [resVs, resV, go_sem, hA]) (by simp only [one, AVlt_v, AVlt_any, AVlt_sl, AVlt_ptr, AVlt_mp, AVlt_agg, AVlt_tup, AVlt_fn, RowsLt_nil, RowsLt_live, RowsLt_dead, List.mem_cons, List.not_mem_nil, List.forall_mem_cons, List.forall_mem_nil, or_false, false_or, forall_eq_or_imp, forall_eq, vs_lt, Nat.add_lt_add_iff_left, Nat.reduceLT, true_and, and_true, and_self, List.length_cons, List.length_nil, Nat.reduceAdd, Nat.zero_add, implies_true, false_imp_iff, lt_T, List.mem_map]) hR hB ⟨rfl, rfl, rfl⟩
  have he : decide ((fs.length : Int) > 20) = false := decide_eq_false (by omega)
  have he' : decide ((20 : Int) < (fs.length : Int)) = false := he
  simp (disch := decide) only [hA, hd, hd', he, he', List.length_map, go_sem]
  refine ACalls.nxt (valid_spec t hS hN _ _) ?_
  cases hval : validL t with
  | false =>
    simp (disch := decide) only [hA, go_sem]
    exact leave_pure (xs := [.v (.bool true)]) (.inr rfl) (by simp (disch := (first | decide | omega)) only [resVs, resV, go_sem, hA]) (by simp only [one, AVlt_v, AVlt_any, AVlt_sl, AVlt_ptr, AVlt_mp, AVlt_agg, AVlt_tup, AVlt_fn, RowsLt_nil, RowsLt_live, RowsLt_dead, List.mem_cons, List.not_mem_nil, List.forall_mem_cons, List.forall_mem_nil, or_false, false_or, forall_eq_or_imp, forall_eq, vs_lt, Nat.add_lt_add_iff_left, Nat.reduceLT, true_and, and_true, and_self, List.length_cons, List.length_nil, Nat.reduceAdd, Nat.zero_add, implies_true, false_imp_iff, lt_T, List.mem_map]) hR hB ⟨rfl, rfl, rfl⟩
  | true =>
  have hpf := fun b l => prefix_spec t hS hN cs (by omega) b l
  have hpf2 := fun b l => prefix_spec t hS hN fs (by omega) b l
  by_cases h0 : prefC t cs = 0
  case neg =>
    have hV : prefV t cs = .agg [.v .zsl] := by unfold prefV; rw [if_neg h0]
    have hne : (((prefC t cs : Nat) : Int) != 0) = true := by rw [bne_iff_ne]; omega
    rw [hV] at hpf
    simp (disch := decide) only [hA, go_sem]
    refine ACalls.nxt (hpf _ _) ?_
    simp (disch := decide) only [hA, hne, hee, go_sem]
    exact leave_pure (xs := [.v (.bool true)]) (.inr rfl) (by simp (disch := (first | decide | omega)) only [resVs, resV, go_sem, hA]) (by simp only [one, AVlt_v, AVlt_any, AVlt_sl, AVlt_ptr, AVlt_mp, AVlt_agg, AVlt_tup, AVlt_fn, RowsLt_nil, RowsLt_live, RowsLt_dead, List.mem_cons, List.not_mem_nil, List.forall_mem_cons, List.forall_mem_nil, or_false, false_or, forall_eq_or_imp, forall_eq, vs_lt, Nat.add_lt_add_iff_left, Nat.reduceLT, true_and, and_true, and_self, List.length_cons, List.length_nil, Nat.reduceAdd, Nat.zero_add, implies_true, false_imp_iff, lt_T, List.mem_map]) hR hB ⟨rfl, rfl, rfl⟩
  have hC := cutt_of h0
  have hSu : Small (firstL t cs) := first_small hS (pref_len h0)
  have hNu : Nm (firstL t cs) := by
    intro p hp
    obtain ⟨i, hi, rfl⟩ := List.getElem_of_mem hp
    have hit : i < t.length := by rw [← cu_len hC]; exact hi
    rw [cu_get hC hit]
    have hq := hN t[i] (List.getElem_mem hit)
    exact hq
  have hul := cu_len hC
  have hvu : validL (firstL t cs) = true := valid_of (cu_vok hC)
  have hcnt := cu_count hC
  have hcl := hC.len
  have hV : prefV t cs = .agg [.v (eT (firstL t cs))] := by unfold prefV; rw [if_pos h0]
  rw [hV, h0] at hpf
  have hvs := fun b l => valid_spec (firstL t cs) hSu hNu b l
  rw [hvu] at hvs
  have hidu := vok_ids (cu_vok hC)
  have hco := fun b l => count_spec (firstL t cs) hSu hNu b l (by omega)
  have hcr : countR (firstL t cs) = (ids (firstL t cs)).length := by unfold countR; rw [hvu]; rfl
  have hff := fun b l => fifo_spec t hS hN b l
  have hfu := fun b l => fifo_spec (firstL t cs) hSu hNu b l
  rw [hval, Bool.true_and] at hff
  rw [hvu, Bool.true_and] at hfu
  have hpu := fun b l => prefix_spec (firstL t cs) hSu hNu fs (by omega) b l
  obtain ⟨P0, P1⟩ := cu_pref hC fs
  have hfi := cu_fifo hC
  have hsum : ∀ i, i ≤ cs.length → 0 ≤ sumC cs i ∧ sumC cs i ≤ 512 := fun i hi => by
    have h1 := cu_sum hC i (by omega)
    have h2 : evC (firstL t cs) i ≤ evC (firstL t cs) (firstL t cs).length := by
      have : ∀ d i, i + d = (firstL t cs).length → evC (firstL t cs) i ≤ evC (firstL t cs) (firstL t cs).length := by
        intro d
        induction d with
        | zero => intro i hi; rw [Nat.add_zero] at hi; rw [hi]; exact Nat.le_refl _
        | succ d ih =>
          intro i hi
          have := ih (i + 1) (by omega)
          rw [evC_succ (by omega)] at this
          omega
      exact this ((firstL t cs).length - i) i (by omega)
    rw [evC_all] at h2
    omega
  have hcat : ∀ i (h : i < cs.length), cs[i] = cAt cs i := fun i h => by unfold cAt; simp [List.getD, h]
  have hs0 : sumC cs 0 = 0 := rfl
  have hn00 : ((((0 : Nat)) : Int) != 0) = false := rfl
  simp only [eT] at hpf hpf2 hvs hco hff hfu hpu
  simp (disch := decide) only [hA, eT, go_sem]
  refine ACalls.nxt (hpf _ _) ?_
  simp (disch := decide) only [hA, hn0, hn00, List.length_map, go_sem]
  refine loop_kept (ι := Nat) r_PartsL0 (fun i => [(49, .v (.int .i64 i)), (9, .v (.int .i64 (sumC cs i)))]) 2 (fun i => [.live 0 1 [[.v (.isl 3 (t.map ePr))]], .live 0 1 [[.v (.isl 3 ((firstL t cs).map ePr))]]])
    (fun i => i ≤ cs.length) (fun i => cs.length - i) 0 (Nat.zero_le _) (by (repeat (first | exact hE.mono (by omega) | refine KLt.up ?_ (by simp (disch := omega) only [AVlt_v, AVlt_any, AVlt_sl, AVlt_ptr, AVlt_mp, AVlt_agg, AVlt_tup, AVlt_fn, RowsLt_nil, RowsLt_live, RowsLt_dead, List.mem_cons, List.not_mem_nil, List.forall_mem_cons, List.forall_mem_nil, or_false, false_or, forall_eq_or_imp, forall_eq, vs_lt, Nat.add_lt_add_iff_left, Nat.reduceLT, true_and, and_true, and_self, List.length_cons, List.length_nil, Nat.reduceAdd, Nat.zero_add, implies_true, false_imp_iff, lt_T, List.mem_map])))) (by ((try simp (disch := decide) only [hA, hs0, go_sem]) <;> (repeat' (first | exact trivial | refine And.intro ?_ ?_)) <;> (first | rfl | (congr 2; omega)))) (fun e => Weak.refl _ _ _) ?_
  intro g1 hE1 hEE1 hg1 i hi
  by_cases hil : i < cs.length
  · obtain ⟨b1, b2⟩ := hsum i hi
    obtain ⟨b3, b4⟩ := hsum (i + 1) hil
    have hci := hcat i hil
    have hsu : sumC cs i + cAt cs i = sumC cs (i + 1) := rfl
    simp (disch := (first | decide | omega)) only [hA, hg1, eI, hci, hsu, List.length_map, go_sem]
    refine ⟨i + 1, hil, by simp only; omega, ?_⟩
    exact Weak.kround (p := r_PartsL0) (k := 2) (by ((repeat refine (kAny_up rfl).trans ?_); exact hEE1)) (by ((try simp (disch := decide) only [hA, go_sem]) <;> (repeat' (first | exact trivial | refine And.intro ?_ ?_)) <;> (first | rfl | (congr 2; omega)))) rfl hE1 (by simp) (by simp (disch := omega) only [KOvLt, AVlt_v, AVlt_any, AVlt_sl, AVlt_ptr, AVlt_mp, AVlt_agg, AVlt_tup, AVlt_fn, RowsLt_nil, RowsLt_live, RowsLt_dead, List.mem_cons, List.not_mem_nil, List.forall_mem_cons, List.forall_mem_nil, or_false, false_or, forall_eq_or_imp, forall_eq, vs_lt, Nat.add_lt_add_iff_left, Nat.reduceLT, true_and, and_true, and_self, List.length_cons, List.length_nil, Nat.reduceAdd, Nat.zero_add, implies_true, false_imp_iff, lt_T, List.mem_map]) hR (by simp (disch := omega) only [AVlt_v, AVlt_any, AVlt_sl, AVlt_ptr, AVlt_mp, AVlt_agg, AVlt_tup, AVlt_fn, RowsLt_nil, RowsLt_live, RowsLt_dead, List.mem_cons, List.not_mem_nil, List.forall_mem_cons, List.forall_mem_nil, or_false, false_or, forall_eq_or_imp, forall_eq, vs_lt, Nat.add_lt_add_iff_left, Nat.reduceLT, true_and, and_true, and_self, List.length_cons, List.length_nil, Nat.reduceAdd, Nat.zero_add, implies_true, false_imp_iff, lt_T, List.mem_map])
  obtain rfl : i = cs.length := by omega
  have hcn : ((countR (firstL t cs) : Nat) : Int) = sumC cs cs.length := by rw [hcr]; exact hcnt
  have hlm : ((firstL t cs).length : Int) = (t.length : Int) := by rw [hul]
  have hzz : ∀ n : Nat, ((n : Int) == (n : Int)) = true := fun n => by simp
  simp (disch := (first | decide | omega)) only [hA, hg1, List.length_map, go_sem]
  refine ACalls.nxt (hvs _ _) ?_
  simp (disch := decide) only [hA, hg1, go_sem]
  refine ACalls.nxt (hco _ _) ?_
  simp (disch := decide) only [hA, hg1, hcn, hnn, go_sem]
  refine ACalls.nxt (hff _ _) ?_
  have hcases : (prefC (firstL t cs) fs = 0 ∧ prefC t fs = 0 ∧ firstL (firstL t cs) fs = firstL t fs) ∨ (prefC (firstL t cs) fs ≠ 0 ∧ prefC t fs = prefC (firstL t cs) fs) ∨ (prefC (firstL t cs) fs = 2 ∧ prefC t fs ≠ 2) := by
    by_cases q : prefC (firstL t cs) fs = 0
    · exact .inl ⟨q, P0 q⟩
    · by_cases q2 : prefC t fs = prefC (firstL t cs) fs
      · exact .inr (.inl ⟨q, q2⟩)
      · have q3 := (P1 q).resolve_left q2
        exact .inr (.inr ⟨q3, by rw [q3] at q2; exact q2⟩)
  have h22 : ((((2 : Nat)) : Int) == 2) = true := rfl
  have hn2 : ((((2 : Nat)) : Int) != 0) = true := rfl
  have h00 : ((((0 : Nat)) : Int) == 0) = true := rfl
  cases hft : fifoB t
  case' true =>
    have hfut := hfi hft
    rw [hfut] at hfu
    simp (disch := decide) only [hA, hg1, go_sem]
    refine ACalls.nxt (hfu _ _) ?_
    simp (disch := decide) only [hA, hg1, hlm, hnn, List.length_map, go_sem]
  case' false =>
    simp (disch := decide) only [hA, hg1, hlm, hnn, List.length_map, go_sem]
  all_goals
    rcases hcases with ⟨c1, c2, c3⟩ | ⟨c1, c2⟩ | ⟨c1, c2⟩
    · have hSw : Small (firstL t fs) := first_small hS (pref_len c2)
      have v1 : prefV (firstL t cs) fs = .agg [.v (eT (firstL t fs))] := by unfold prefV; rw [if_pos c1, c3]
      have v2 : prefV t fs = .agg [.v (eT (firstL t fs))] := by unfold prefV; rw [if_pos c2]
      have hsm := fun b l => rSame_refl (firstL t fs) hSw b l
      rw [v1, c1] at hpu
      rw [v2, c2] at hpf2
      simp only [eT] at hpu hpf2 hsm
      refine ACalls.nxt (hpu _ _) ?_
      simp (disch := decide) only [hA, hg1, go_sem]
      refine ACalls.nxt (hpf2 _ _) ?_
      simp (disch := decide) only [hA, hg1, hn00, h00, go_sem]
      refine ACalls.nxt (hsm _ _) ?_
      simp (disch := decide) only [hA, hg1, go_sem]
      exact leave_pure (xs := [.v (.bool true)]) (.inr rfl) (by simp (disch := (first | decide | omega)) only [resVs, resV, go_sem, hA, hg1]) (by simp only [one, AVlt_v, AVlt_any, AVlt_sl, AVlt_ptr, AVlt_mp, AVlt_agg, AVlt_tup, AVlt_fn, RowsLt_nil, RowsLt_live, RowsLt_dead, List.mem_cons, List.not_mem_nil, List.forall_mem_cons, List.forall_mem_nil, or_false, false_or, forall_eq_or_imp, forall_eq, vs_lt, Nat.add_lt_add_iff_left, Nat.reduceLT, true_and, and_true, and_self, List.length_cons, List.length_nil, Nat.reduceAdd, Nat.zero_add, implies_true, false_imp_iff, lt_T, List.mem_map]) hR hB ⟨rfl, rfl, rfl⟩
    · have v1 : prefV (firstL t cs) fs = .agg [.v .zsl] := by unfold prefV; rw [if_neg c1]
      have v2 : prefV t fs = .agg [.v .zsl] := by unfold prefV; rw [c2, if_neg c1]
      have hne : (((prefC (firstL t cs) fs : Nat) : Int) != 0) = true := by rw [bne_iff_ne]; omega
      rw [v1] at hpu
      rw [v2, c2] at hpf2
      refine ACalls.nxt (hpu _ _) ?_
      simp (disch := decide) only [hA, hg1, go_sem]
      refine ACalls.nxt (hpf2 _ _) ?_
      simp (disch := decide) only [hA, hg1, hne, hee, go_sem]
      exact leave_pure (xs := [.v (.bool true)]) (.inr rfl) (by simp (disch := (first | decide | omega)) only [resVs, resV, go_sem, hA, hg1]) (by simp only [one, AVlt_v, AVlt_any, AVlt_sl, AVlt_ptr, AVlt_mp, AVlt_agg, AVlt_tup, AVlt_fn, RowsLt_nil, RowsLt_live, RowsLt_dead, List.mem_cons, List.not_mem_nil, List.forall_mem_cons, List.forall_mem_nil, or_false, false_or, forall_eq_or_imp, forall_eq, vs_lt, Nat.add_lt_add_iff_left, Nat.reduceLT, true_and, and_true, and_self, List.length_cons, List.length_nil, Nat.reduceAdd, Nat.zero_add, implies_true, false_imp_iff, lt_T, List.mem_map]) hR hB ⟨rfl, rfl, rfl⟩
    · have v1 : prefV (firstL t cs) fs = .agg [.v .zsl] := by unfold prefV; rw [c1, if_neg (by decide)]
      have hne : (((prefC t fs : Nat) : Int) == ((2 : Nat) : Int)) = false := by rw [beq_eq_false_iff_ne]; omega
      obtain ⟨u, hv2⟩ : ∃ u, prefV t fs = .agg [.v u] := by unfold prefV; split <;> exact ⟨_, rfl⟩
      rw [v1, c1] at hpu
      rw [hv2] at hpf2
      refine ACalls.nxt (hpu _ _) ?_
      simp (disch := decide) only [hA, hg1, go_sem]
      refine ACalls.nxt (hpf2 _ _) ?_
      simp (disch := decide) only [hA, hg1, hn2, hne, h22, go_sem]
      exact leave_pure (xs := [.v (.bool true)]) (.inr rfl) (by simp (disch := (first | decide | omega)) only [resVs, resV, go_sem, hA, hg1]) (by simp only [one, AVlt_v, AVlt_any, AVlt_sl, AVlt_ptr, AVlt_mp, AVlt_agg, AVlt_tup, AVlt_fn, RowsLt_nil, RowsLt_live, RowsLt_dead, List.mem_cons, List.not_mem_nil, List.forall_mem_cons, List.forall_mem_nil, or_false, false_or, forall_eq_or_imp, forall_eq, vs_lt, Nat.add_lt_add_iff_left, Nat.reduceLT, true_and, and_true, and_self, List.length_cons, List.length_nil, Nat.reduceAdd, Nat.zero_add, implies_true, false_imp_iff, lt_T, List.mem_map]) hR hB ⟨rfl, rfl, rfl⟩
end Go.Proofs.Ytnnnccibhhnbaaa
