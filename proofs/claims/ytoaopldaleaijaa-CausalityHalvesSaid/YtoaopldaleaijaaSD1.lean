/- Texts of one proof, laid together: HN, HX. No condition. -/
import Derived.Test.YtoaopldaleaijaaSA9
namespace Go.Proofs.Ytoaopldaleaijaa
set_option linter.unusedVariables false
set_option linter.unusedSimpArgs false
theorem sndr_in {t : Tr} (hv : Vok t) {x : Nat × Nat} (hx : x ∈ ids t) (hk : (evAt t x).kind = 3) : sndr t x ∈ ids t ∧ Hb t (sndr t x) x := back_mem hv hx (sndr_back hk)
/-- Who sent what an event receives. -/
theorem sndr_peer {t : Tr} (hv : Vok t) {x : Nat × Nat} (hx : x ∈ ids t) (hk : (evAt t x).kind = 3) : (evAt t x).peer = ((sndr t x).1 : Int) ∧ (sndr t x).1 ≠ x.1 ∧ (evAt t (sndr t x)).kind = 2 ∧ (evAt t (sndr t x)).msg = (evAt t x).msg := by
  obtain ⟨m, q, hm, _, hq, hq2, hqp⟩ := formed_open (formF_formed (hv.form x hx)) (by rw [hk]; rfl)
  have hp := hv.pair x hx
  unfold pairF at hp
  rw [hk] at hp
  simp only [show ((3 : Int) == 2) = false from rfl, show ((3 : Int) == 3) = true from rfl, if_true, Bool.false_eq_true, if_false] at hp
  rw [if_pos (by have := (hv.paired.recv hx hk).1; simpa using this)] at hp
  have hs : sendsB t q (evAt t x).msg x.1 = true := by
    cases h : sendsB t q (evAt t x).msg x.1 with
    | true => rfl
    | false => rw [hq, Int.toNat_natCast, h] at hp; simp at hp
  unfold sendsB at hs
  obtain ⟨e, he, hb⟩ := List.any_eq_true.1 hs
  simp only [Bool.and_eq_true, beq_iff_eq] at hb
  rw [evsOf_lt hq2] at he
  obtain ⟨j, hj, rfl⟩ := List.getElem_of_mem he
  have hyi : (q, j + 1) ∈ ids t := mem_ids2.2 ⟨hq2, by rw [evsOf_lt hq2]; exact hj⟩
  have hye := evAt_eq hq2 hj
  have hf := hv.paired.send hyi (by rw [hye]; exact hb.1.1)
  rw [hye, hb.1.2] at hf
  have e1 : sndr t x = (q, j + 1) := (firstOf_find hf).1
  rw [e1, hye]
  exact ⟨hq, hqp, hb.1.1, hb.1.2⟩
/-- It is the first one of its process. -/
theorem sndr_first {t : Tr} (hv : Vok t) {x : Nat × Nat} (hx : x ∈ ids t) (hk : (evAt t x).kind = 3) {q j : Nat} (hs : sndr t x = (q, j + 1)) (hq : q < t.length) (hj : j < t[q].evs.length) :
    firstP (fun k => ((t[q].evs.getD k dfEv).kind == 2) && ((t[q].evs.getD k dfEv).msg == (evAt t x).msg)) t[q].evs.length = (j : Int) := by
  obtain ⟨_, _, h3, h4⟩ := sndr_peer hv hx hk
  rw [hs, evAt_eq hq hj] at h3 h4
  refine firstP_at hj (fun k hkj => ?_) (by rw [getD_at hj, h3, h4]; simp)
  rw [getD_at (by omega), Bool.eq_false_iff]
  intro h
  simp only [Bool.and_eq_true, beq_iff_eq] at h
  have hki : (q, k + 1) ∈ ids t := mem_ids2.2 ⟨hq, by rw [evsOf_lt hq]; omega⟩
  have hke := evAt_eq hq (show k < t[q].evs.length by omega)
  have hf := hv.paired.send hki (by rw [hke]; exact h.1)
  rw [hke, h.2] at hf
  have : sndr t x = (q, k + 1) := (firstOf_find hf).1
  rw [hs] at this
  have := congrArg Prod.snd this
  simp at this
  omega
end Go.Proofs.Ytoaopldaleaijaa

namespace Go.Proofs.Ytoaopldaleaijaa
set_option linter.unusedVariables false
set_option linter.unusedSimpArgs false
def pair13 : Tr := [⟨⟨#[112]⟩, [], [⟨2, 1, 5, 0, []⟩, ⟨1, 0, 0, 0, []⟩]⟩, ⟨⟨#[113]⟩, [], [⟨3, 0, 5, 0, []⟩]⟩]
def epair13 : IV := .isl 3 [[.str ⟨#[112]⟩, .zsl, .isl 5 [[.int .i64 2, .int .i64 1, .int .i64 5, .int .i64 0, .zsl], [.int .i64 1, .int .i64 0, .int .i64 0, .int .i64 0, .zsl]]], [.str ⟨#[113]⟩, .zsl, .isl 5 [[.int .i64 3, .int .i64 0, .int .i64 5, .int .i64 0, .zsl]]]]
def ora13 : Nat → List AV → Option AV := fun f args => if (f == 67 && eqL (eqA 20) args [.agg [.v epair13]]) = true then some (.v (.bool true)) else none
def frz13 : Nat → Nat := fun f => if f = 72 then 5 else 0
set_option maxRecDepth 100000
theorem run13 : xOk (E1.xcall tab15 ora13 frz13 (E1.exec tab15 ora13 frz13 3000) 15 [] [] []) = true := by kernel_rfl
theorem epair13_le : IVle epair13 (eT pair13) := by
  have ev : ∀ (a c d e : Int), IVle (.isl 5 [[.int .i64 a, .int .i64 c, .int .i64 d, .int .i64 e, .zsl]]) (.isl 5 [[.int .i64 a, .int .i64 c, .int .i64 d, .int .i64 e, .isl 2 []]]) := fun a c d e =>
    .rows ⟨⟨rfl, getLe_cons (.refl _) (getLe_cons (.refl _) (getLe_cons (.refl _) (getLe_cons (.refl _) (getLe_cons (.zsl 2) getLe_nil))))⟩, trivial⟩
  have ev2 : ∀ (a c d e a2 c2 d2 e2 : Int), IVle (.isl 5 [[.int .i64 a, .int .i64 c, .int .i64 d, .int .i64 e, .zsl], [.int .i64 a2, .int .i64 c2, .int .i64 d2, .int .i64 e2, .zsl]]) (.isl 5 [[.int .i64 a, .int .i64 c, .int .i64 d, .int .i64 e, .isl 2 []], [.int .i64 a2, .int .i64 c2, .int .i64 d2, .int .i64 e2, .isl 2 []]]) := fun a c d e a2 c2 d2 e2 =>
    .rows ⟨⟨rfl, getLe_cons (.refl _) (getLe_cons (.refl _) (getLe_cons (.refl _) (getLe_cons (.refl _) (getLe_cons (.zsl 2) getLe_nil))))⟩, ⟨rfl, getLe_cons (.refl _) (getLe_cons (.refl _) (getLe_cons (.refl _) (getLe_cons (.refl _) (getLe_cons (.zsl 2) getLe_nil))))⟩, trivial⟩
  exact .rows ⟨⟨rfl, getLe_cons (.refl _) (getLe_cons (.zsl 2) (getLe_cons (ev2 _ _ _ _ _ _ _ _) getLe_nil))⟩, ⟨rfl, getLe_cons (.refl _) (getLe_cons (.zsl 2) (getLe_cons (ev _ _ _ _) getLe_nil))⟩, trivial⟩
theorem pair13_small : Small pair13 := ⟨by decide, by decide, by decide, by decide⟩
theorem pair13_nm : Nm pair13 := by
  intro p hp
  simp [pair13] at hp
  rcases hp with rfl | rfl <;> exact ⟨by decide, by simp⟩
theorem pair13_valid : validL pair13 = true := conc_valid (rank := fun x => x.1 * 10 + x.2) (by kernel_rfl)
theorem ora13_ok (f : Nat) (args : List AV) (y : AV) (h : ora13 f args = some y) (b l : List Row) : ACalls Try.prog f args b l (fun r b' l' => r = y ∧ b' = b ∧ l' = l) := by
  unfold ora13 at h
  split at h
  · rename_i hc
    simp only [Bool.and_eq_true, beq_iff_eq] at hc
    obtain ⟨rfl, h2⟩ := hc
    have h3 := eqL_eq (eqA_eq 20) h2
    subst h3
    cases h
    have hv := valid_spec pair13 pair13_small pair13_nm b l
    rw [pair13_valid] at hv
    refine ACalls.le hv rfl ?_
    intro i a c h1 h2
    cases i with
    | zero =>
      simp at h1 h2; subst h1; subst h2
      refine .agg _ _ rfl (fun i a c h1 h2 => ?_)
      cases i with
      | zero => simp at h1 h2; subst h1; subst h2; exact .v _ _ epair13_le
      | succ i => simp at h1
    | succ i => simp at h1
  · cases h
/-- The example of chapter 13. -/
theorem awake13_spec (b l : List Row) : ACalls Try.prog 15 [] b l (fun r b' l' => r = .v (.bool true) ∧ b' = b ∧ l' = l) := by
  obtain ⟨b1, l1, t, h⟩ := xOk_ok run13
  exact ACalls.lift_bool (E1.ACalls.of_exec (T := tab15) (O := ora13) (Z := frz13) (fun f af h => h) ora13_ok h) b l
end Go.Proofs.Ytoaopldaleaijaa
