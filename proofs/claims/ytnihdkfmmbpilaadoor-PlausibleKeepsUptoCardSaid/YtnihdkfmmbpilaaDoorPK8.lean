/- Texts of one proof, laid together: WG, WV. No condition. -/
import Derived.Test.YtnihdkfmmbpilaaDoorPK2
import Derived.Test.YtnihdkfmmbpilaaDoorPK3
import Derived.Test.YtnihdkfmmbpilaaDoorPK6
import Derived.KernelRfl
namespace Go.Proofs.YtnihdkfmmbpilaaDoor
open Go.RowKit
set_option linter.unusedVariables false

section
variable {w : World} {F : Nat → Prop}
def RowR (w : World) (F : Nat → Prop) (b o : Nat) (row : List IV) : Prop := ∀ (j : Nat) (a : IV), row[j]? = some a → ∃ v, w.cell? ⟨b, o + j, none⟩ = some v ∧ RepI w F a v

theorem repI_isl {sz : Nat} {rows : List (List IV)} {v : Value} (h : RepI w F (.isl sz rows) v) :
  ∃ A c, v = .slice A rows.length c ∧ rows.length ≤ c ∧ c ≤ maxLen ∧ (0 < rows.length → ∃ b off, A = some ⟨b, off, none⟩ ∧ F b ∧ ∀ (k : Nat) (row : List IV), rows[k]? = some row → row.length = sz ∧ RowR w F b (off + k * sz) row) := by
 cases h with
 | isl0 _ a c hm => exact ⟨a, c, rfl, Nat.zero_le _, hm, fun h => by simp at h⟩
 | isl _ b off _ c val hF hc hm hsz hcell hrep =>
   exact ⟨_, c, rfl, hc, hm, fun _ => ⟨b, off, rfl, hF, fun k row hk => ⟨hsz k row hk, fun j a hj => ⟨_, hcell k row j a hk hj, hrep k row j a hk hj⟩⟩⟩⟩

theorem isl_repI {sz : Nat} {rows : List (List IV)} {A : Option Addr} {c : Nat} (h1 : rows.length ≤ c) (h2 : c ≤ maxLen)
  (h : 0 < rows.length → ∃ b off, A = some ⟨b, off, none⟩ ∧ F b ∧ ∀ (k : Nat) (row : List IV), rows[k]? = some row → row.length = sz ∧ RowR w F b (off + k * sz) row) : RepI w F (.isl sz rows) (.slice A rows.length c) := by
 by_cases h0 : 0 < rows.length
 ·obtain ⟨b, off, rfl, hF, hr⟩ := h h0
  have cell : ∀ (k : Nat) (row : List IV) (j : Nat) (a : IV), rows[k]? = some row → row[j]? = some a → w.cell? ⟨b, off + k * sz + j, none⟩ = some ((w.cell? ⟨b, off + k * sz + j, none⟩).getD undef) := by
   intro k row j a hk hj
   obtain ⟨v, hv, _⟩ := (hr k row hk).2 j a hj
   rw [hv]; rfl
  exact .isl rows b off sz c (fun k j => (w.cell? ⟨b, off + k * sz + j, none⟩).getD undef) hF h1 h2 (fun k row hk => (hr k row hk).1) cell (fun k row j a hk hj => by
   obtain ⟨v, hv, hr⟩ := (hr k row hk).2 j a hj
   rw [hv]; exact hr)
 ·have : rows = [] := List.eq_nil_of_length_eq_zero oM
  subst this
  exact .isl0 _ _ _ h2

section
variable {α : Type} {sz : Nat} {R : World → Nat → Nat → α → Prop} {enc : α → List IV} {xs : List α} {v : Value}
theorem slr_of_rep (hR : ∀ b o x, x ∈ xs → RowR w F b o (enc x) → R w b o x) (h : RepI w F (.isl sz (xs.map enc)) v) : SlR sz R w v xs := by
 obtain ⟨A, c, h1, h2, h3, h4⟩ := repI_isl h
 rw [List.length_map] at h1 h2 h4
 refine ⟨A, c, h1, h2, h3, fun h0 => ?_⟩
 obtain ⟨b, off, h5, h6, h7⟩ := h4 h0
 refine ⟨b, off, h5, fun j x hx => hR _ _ _ (List.mem_of_getElem? hx) (h7 j (enc x) (by rw [List.getElem?_map, hx]; rfl)).2⟩

end

def eAsg (a : Asg) : List IV := [.int .i64 a.v, .int .i64 a.val]
def eEv (e : Ev) : List IV := [.int .i64 e.kind, .int .i64 e.peer, .int .i64 e.msg, .int .i64 e.time, .isl 2 (e.asg.map eAsg)]
def eVr (v : Vr) : List IV := [.str v.name, .int .i64 v.init]
def ePr (p : Pr) : List IV := [.str p.name, .isl 2 (p.vars.map eVr), .isl 5 (p.evs.map eEv)]
def eT (t : Tr) : IV := .isl 3 (t.map ePr)
def eI (n : Int) : List IV := [.int .i64 n]
def Nm (t : Tr) : Prop := ∀ p ∈ t, p.name.size ≤ maxLen ∧ ∀ v ∈ p.vars, v.name.size ≤ maxLen

theorem rowInt {k : IntKind} {n : Int} {b o j : Nat} {row : List IV} (h : RowR w F b o row) (hj : row[j]? = some (.int k n)) : w.cell? ⟨b, o + j, none⟩ = some (.int k n) := by
 obtain ⟨v, hv, hr⟩ := h j _ hj
 cases hr; exact hv
theorem rowStr {s : ByteArray} {b o j : Nat} {row : List IV} (h : RowR w F b o row) (hj : row[j]? = some (.str s)) : w.cell? ⟨b, o + j, none⟩ = some (.string s) := by
 obtain ⟨v, hv, hr⟩ := h j _ hj
 cases hr; exact hv
theorem asg_in {b o : Nat} {x : Asg} (h : RowR w F b o (eAsg x)) : RAsg w b o x := ⟨rowInt (j := 0) h rfl, rowInt (j := 1) h rfl⟩
theorem vr_in {b o : Nat} {x : Vr} (hx : x.name.size ≤ maxLen) (h : RowR w F b o (eVr x)) : RVr w b o x := ⟨rowStr (j := 0) h rfl, rowInt (j := 1) h rfl, hx⟩
theorem ev_in {b o : Nat} {x : Ev} (h : RowR w F b o (eEv x)) : REv w b o x := by
 obtain ⟨v, h1, h2⟩ := h 4 _ rfl
 exact ⟨rowInt (j := 0) h rfl, rowInt (j := 1) h rfl, rowInt (j := 2) h rfl, rowInt (j := 3) h rfl, v, h1, slr_of_rep (fun _ _ _ _ h => asg_in h) h2⟩
theorem pr_in {b o : Nat} {x : Pr} (hx : x.name.size ≤ maxLen ∧ ∀ v ∈ x.vars, v.name.size ≤ maxLen) (h : RowR w F b o (ePr x)) : RPr w b o x := by
 obtain ⟨v, h1, h2⟩ := h 1 _ rfl
 obtain ⟨u, h3, h4⟩ := h 2 _ rfl
 exact ⟨⟨rowStr (j := 0) h rfl, hx.1⟩, ⟨v, h1, slr_of_rep (fun _ _ y hy h => vr_in (hx.2 y hy) h) h2⟩, u, h3, slr_of_rep (fun _ _ _ _ h => ev_in h) h4⟩
theorem tr_in {t : Tr} {v : Value} (hn : Nm t) (h : RepI w F (eT t) v) : SlR 3 RPr w v t := slr_of_rep (fun _ _ x hx h => pr_in (hn x hx) h) h

section
end
end

section
variable {P : Program}
theorem ACalls.of_ext {f : Nat} {args : List AV} {b l : List Row} {Q : AV → List Row → List Row → Prop} (hf : ∃ fn, P.funcs[f]? = some fn ∧ (fn.name == "runtime.NumGoroutine") = false ∧ fn.body.isSome = true)
  (h : ∀ F L w (vs : Array Value), RepL w F L args vs.toList → Calls P f vs w fun en w' => Ext w w' ∧ ∃ v x, en = .returned v ∧ RepA w' F L x v ∧ Q x b l) : ACalls P f args b l Q := by
 refine ⟨hf, fun F L w vs s hr => Calls.mono (h F L w vs hr) ?_⟩
 rintro en w' ⟨he, v, x, h1, h2, h3⟩
 have hblk : ∀ k, k < w.heap.size → w'.heap[k]? = w.heap[k]? := he.block
 refine ⟨v, x, b, l, F, L, h1, h2, ⟨fun i v z els hi => ?_, s.born, s.apart, fun k hk => ⟨Nat.lt_of_lt_of_le (s.imm k hk).1 he.size, (s.imm k hk).2⟩, s.glob.mono (fun _ h => h) (fun k hk => hblk k (s.imm k hk).1)⟩,
  ⟨fun _ h => h, fun _ _ _ _ h => h, he.os, he.tape, he.output, he.size, fun k hk _ => hblk k hk, fun _ _ h => h, fun _ _ _ h => h, fun _ _ h => .inl h⟩, rfl, h3⟩
 obtain ⟨q, g1, g2⟩ := s.row i v z els hi
 exact ⟨q, g1, g2.mono (fun k hk => hblk k (g2.lt hk)) (fun _ _ hx => hx.mono (fun _ h => h) (fun k hk => hblk k (s.imm k hk).1) (fun _ _ _ h => h))⟩

theorem ACalls.of_glob {f : Nat} {args : List AV} {b l : List Row} {Q : AV → List Row → List Row → Prop} (hf : ∃ fn, P.funcs[f]? = some fn ∧ (fn.name == "runtime.NumGoroutine") = false ∧ fn.body.isSome = true)
  (h : ∀ F L w (vs : Array Value), Glob w F → RepL w F L args vs.toList → Calls P f vs w fun en w' => w' = w ∧ ∃ v x, en = .returned v ∧ RepA w F L x v ∧ Q x b l) : ACalls P f args b l Q := by
 refine ⟨hf, fun F L w vs s hr => Calls.mono (h F L w vs s.glob hr) ?_⟩
 rintro en w' ⟨rfl, v, x, h1, h2, h3⟩
 exact ⟨v, x, b, l, F, L, h1, h2, s, Step.refl _ _ _ _ _, rfl, h3⟩

theorem ACalls.calls {f : Nat} {args : List AV} {Q : AV → List Row → List Row → Prop} (h : ACalls P f args [] [] Q) {w : World} {vs : Array Value} (hr : RepL w (fun b => b < w.heap.size) (fun _ _ => none) args vs.toList) (hG : Glob w (fun b => b < w.heap.size) := by intro _ _ h; cases h) :
  Calls P f vs w fun en w' => ∃ v x b' l' F' L', en = .returned v ∧ RepA w' F' L' x v ∧ Ext w w' ∧ Q x b' l' := by
 have no : ∀ k, ¬ Owned (fun _ _ => none) [] k := by rintro k ⟨i, v, s, e1, q, h1, h2, h3⟩; cases h2
 refine Calls.mono (h.2 _ _ w vs ⟨fun i v z els hi => by simp at hi, fun i v q hq => (by cases hq), fun i i' v v' z z' e1 e2 bb q1 q2 h1 => by simp at h1, fun b hb => ⟨hb, no b⟩, hG⟩ hr) ?_
 rintro en w' ⟨v, x, b', l', F', L', h1, h2, h3, h4, h5, h6⟩
 exact ⟨v, x, b', l', F', L', h1, h2, ⟨h4.os, h4.tape, h4.output, h4.size, fun k hk => h4.block k hk (no k)⟩, h6⟩
end
end Go.Proofs.YtnihdkfmmbpilaaDoor
namespace Go.Proofs.YtnihdkfmmbpilaaDoor
set_option linter.unusedVariables false

def idA (x : Nat × Nat) : AV := .agg [.v (.int .i64 x.1), .v (.int .i64 x.2)]
theorem idA_rep (w : World) (F : Nat → Prop) (L : LMap) (x : Nat × Nat) : RepA w F L (idA x) (idVal x) := by
 refine RepL.agg (vs := #[.int .i64 x.1, .int .i64 x.2]) ?_
 exact RepL.cons (.v _ _ (.int _ _)) (RepL.cons (.v _ _ (.int _ _)) RepL.nil)
theorem repL_cons {w : World} {F : Nat → Prop} {L : LMap} {x : AV} {xs : List AV} {vs : List Value} (h : RepL w F L (x :: xs) vs) : ∃ v us, vs = v :: us ∧ RepA w F L x v ∧ RepL w F L xs us := by
 obtain ⟨h1, h2⟩ := h
 cases vs with
 | nil => simp at h1
 | cons v us => exact ⟨v, us, rfl, h2 0 x v rfl rfl, by simpa using h1, fun i a u ha hu => h2 (i + 1) a u ha hu⟩
theorem repL_nil {w : World} {F : Nat → Prop} {L : LMap} {vs : List Value} (h : RepL w F L [] vs) : vs = [] := by
 have := h.1
 exact List.eq_nil_of_length_eq_zero (by simpa using this.symm)
theorem repL_tr {w : World} {F : Nat → Prop} {L : LMap} {t : Tr} {xs : List AV} {vs : Array Value} (hn : Nm t) (h : RepL w F L (.agg [.v (eT t)] :: xs) vs.toList) : ∃ u us, vs = (.agg #[u] :: us).toArray ∧ SlR 3 RPr w u t ∧ RepL w F L xs us := by
 obtain ⟨v, us, h1, h2, h3⟩ := repL_cons h
 obtain ⟨cs, rfl, h4⟩ := h2.aggL
 obtain ⟨u, rest, h5, h6, h7⟩ := repL_cons h4
 have := repL_nil h7
 subst this
 have hcs : cs = #[u] := Array.toList_inj.1 (by rw [h5])
 subst hcs
 exact ⟨u, us, Array.toList_inj.1 (by rw [h1]), tr_in hn h6.vI, h3⟩

section
theorem valid_specS (t : Tr) (hS : Sm t) (hN : Nm t) (b l : List Row) : ACalls Tryd.prog 68 [.agg [.v (eT t)]] b l (fun r b' l' => r = .v (.bool (validL t)) ∧ b' = b ∧ l' = l) := by
 refine ACalls.of_ext ⟨_, Tryd.func68, by kernel_rfl, by kernel_rfl⟩ (fun F L w vs hr => ?_)
 obtain ⟨u, us, rfl, hs, hr2⟩ := repL_tr hN hr
 obtain rfl := repL_nil hr2
 refine (Valid_any u t w hS hs).mono ?_
 rintro e w' ⟨rfl, he⟩
 exact ⟨he, _, _, rfl, .v _ _ (.bool _), rfl, rfl, rfl⟩
theorem rvalid_specS (t : Tr) (hS : Sm t) (hN : Nm t) (b l : List Row) : ACalls Tryd.prog 21 [.agg [.v (eT t)]] b l (fun r b' l' => r = .v (.bool (validL t)) ∧ b' = b ∧ l' = l) := by
 refine ACalls.of_ext ⟨_, Tryd.func21, by kernel_rfl, by kernel_rfl⟩ (fun F L w vs hr => ?_)
 obtain ⟨u, us, rfl, hs, hr2⟩ := repL_tr hN hr
 obtain rfl := repL_nil hr2
 refine (rValid_any u t w hS hs).mono ?_
 rintro e w' ⟨rfl, he⟩
 exact ⟨he, _, _, rfl, .v _ _ (.bool _), rfl, rfl, rfl⟩
theorem valid_spec (t : Tr) (hS : Small t) (hN : Nm t) (b l : List Row) : ACalls Tryd.prog 68 [.agg [.v (eT t)]] b l (fun r b' l' => r = .v (.bool (validL t)) ∧ b' = b ∧ l' = l) := valid_specS t hS.sm hN b l
end
end Go.Proofs.YtnihdkfmmbpilaaDoor
