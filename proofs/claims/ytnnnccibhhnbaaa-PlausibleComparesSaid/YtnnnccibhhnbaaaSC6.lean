/- Texts of one proof, laid together: RW, WG, TR, WV, WU, VC, VX, VL, VR. No condition. -/
import Derived.Test.YtnnnccibhhnbaaaSG2
import Derived.Test.YtnnnccibhhnbaaaSC3
import Derived.Test.YtnnnccibhhnbaaaSC5
import Derived.Test.YtnnnccibhhnbaaaSC4
import Derived.Test.YtnnnccibhhnbaaaProg
import Derived.KernelRfl
namespace Go.Proofs.Ytnnnccibhhnbaaa
open Go.RowKit Go.ChangeShapes Go.WideShapes Go.Deep
set_option linter.unusedVariables false

/-- Cells that read as a row of plain values. -/
def RIs (w : World) (F : Nat → Prop) (row : List IV) (cs : List Value) : Prop := row.length = cs.length ∧ ∀ (j : Nat) (a : IV) (v : Value), row[j]? = some a → cs[j]? = some v → RepI w F a v
theorem RIs.nil {w : World} {F : Nat → Prop} : RIs w F [] [] := ⟨rfl, fun j a v h => by simp at h⟩
theorem RIs.one {w : World} {F : Nat → Prop} {a : IV} {v : Value} (h : RepI w F a v) : RIs w F [a] [v] := by
  refine ⟨rfl, fun j x u hx hu => ?_⟩
  cases j with
  | zero => simp at hx hu; subst hx; subst hu; exact h
  | succ j => simp at hx
theorem RIs.append {w : World} {F : Nat → Prop} {r s : List IV} {cs ds : List Value} (h : RIs w F r cs) (k : RIs w F s ds) : RIs w F (r ++ s) (cs ++ ds) := by
  refine ⟨by simp [h.1, k.1], fun j a v ha hv => ?_⟩
  by_cases hj : j < r.length
  · rw [List.getElem?_append_left hj] at ha
    rw [List.getElem?_append_left (by rw [← h.1]; exact hj)] at hv
    exact h.2 j a v ha hv
  · rw [List.getElem?_append_right (by omega)] at ha
    rw [List.getElem?_append_right (by rw [← h.1]; omega), ← h.1] at hv
    exact k.2 _ a v ha hv
theorem RIs.repL {w : World} {F : Nat → Prop} {L : LMap} {r : List IV} {cs : List Value} (h : RIs w F r cs) : RepL w F L (r.map .v) cs := by
  refine ⟨by simpa using h.1, fun j x v hx hv => ?_⟩
  rw [List.getElem?_map] at hx
  cases hq : r[j]? with
  | none => simp [hq] at hx
  | some y => simp [hq] at hx; subst hx; exact .v _ _ (h.2 j y v hq hv)

def Low (w : World) : Nat → Prop := fun b => b < w.heap.size

/-- Values of a type read as rows of plain values. -/
def TR {α : Type} (P : Program) (t : TypeId) (n : Nat) (enc : α → List IV) (good : α → Prop) : Prop :=
  ∀ (H : Type) (en : TypeId × Value → H) (w : World) (base : Nat) (spare : Nat → Bool) (held : Bool) (fuel : Nat) (cs : List Value) (x : DataW H × List MemPlace), cs.length = n → DataW.trod en P w base spare held fuel t cs = some x →
    ∃ y, good y ∧ RIs w (Low w) (enc y) cs

section
variable {P : Program} {α β : Type}
theorem TR.map {t : TypeId} {n : Nat} {enc : α → List IV} {good : α → Prop} (h : TR P t n enc good) {enc' : β → List IV} {good' : β → Prop} (f : α → β) (he : ∀ y, enc' (f y) = enc y) (hg : ∀ y, good y → good' (f y)) : TR P t n enc' good' := by
  intro H en w base spare held fuel cs x hl hx
  obtain ⟨y, g, r⟩ := h H en w base spare held fuel cs x hl hx
  exact ⟨f y, hg y g, by rw [he]; exact r⟩
theorem tr_int {t : TypeId} {k : IntKind} (ht : P.underlying t = some (.int k)) : TR P t 1 (fun n : Int => [.int k n]) (fun n => (Lit.int k n).wf = true) := by
  intro H en w base spare held fuel cs x hl hx
  obtain ⟨n, rfl, _, hw⟩ := DataW.trod_int ht hx
  exact ⟨n, hw, RIs.one (.int _ _)⟩
theorem tr_slice {t e : TypeId} {n : Nat} {enc : α → List IV} {good : α → Prop} (h : TR P e n enc good) (ht : P.underlying t = some (.slice e)) (hC : P.cellsOf e = n) (h0 : 0 < n) :
    TR P t 1 (fun ys : List α => [.isl n (ys.map enc)]) (fun ys => ys.length ≤ maxLen ∧ ∀ y ∈ ys, good y) := by
  intro H en w base spare held fuel cs x hl hx
  rcases open_slice ht hx with ⟨hv, _⟩ | ⟨a, len, cap, m, f, D, Pl, hv, hb, hll, hm, hmm, _, hel⟩
  · subst hv
    exact ⟨[], ⟨by simp [maxLen], fun y hy => by simp at hy⟩, RIs.one (.isl0 _ _ _ (by simp [maxLen]))⟩
  · subst hv
    have hle : len ≤ m := by rw [hmm]; split <;> omega
    have key : ∀ i, i < len → ∃ y, (good y ∧ ∃ b off, a = ⟨b, off, none⟩ ∧ (enc y).length = n ∧ ∀ (j : Nat) (c : IV), (enc y)[j]? = some c → ∃ v, w.cell? ⟨b, off + i * n + j, none⟩ = some v ∧ RepI w (Low w) c v) := by
      intro i hi
      obtain ⟨cs', hc, ht'⟩ := hel i (by omega)
      rw [hC] at hc
      obtain ⟨_, hcl, hat⟩ := World.cells?_some hc
      obtain ⟨cs0, hc0, _⟩ := hel 0 (by omega)
      rw [hC] at hc0
      obtain ⟨_, hcl0, hat0⟩ := World.cells?_some hc0
      have h00 := hat0 0 h0
      have e00 : (a.add (0 * n)).add 0 = a := by simp [Addr.add]
      rw [e00, List.getElem?_eq_getElem (show 0 < cs0.length by omega)] at h00
      have hsp := spot_none h00
      obtain ⟨b, off, sp⟩ := a
      simp only at hsp
      subst hsp
      obtain ⟨y, hg, hy⟩ := h H en w base spare held f cs' (D i, Pl i) hcl ht'
      refine ⟨y, hg, b, off, rfl, by rw [hy.1, hcl], fun j c hj => ?_⟩
      have hjl : j < cs'.length := by rw [← hy.1]; exact (List.getElem?_eq_some_iff.1 hj).1
      have := hat j (by omega)
      have e1 : ((⟨b, off, none⟩ : Addr).add (i * n)).add j = ⟨b, off + i * n + j, none⟩ := by
        unfold Addr.add
        by_cases h1 : i * n = 0 <;> by_cases h2 : j = 0 <;> simp [h1, h2]
      rw [e1, List.getElem?_eq_getElem hjl] at this
      exact ⟨_, this, hy.2 j c _ hj (List.getElem?_eq_getElem hjl)⟩
    obtain ⟨xs, hxl, hxs⟩ := list_of len key
    subst hxl
    refine ⟨xs, ⟨by omega, fun y hy => ?_⟩, RIs.one ?_⟩
    · obtain ⟨i, hi⟩ := List.mem_iff_getElem?.1 hy
      exact (hxs i y hi).1
    · by_cases hpos : 0 < xs.length
      · obtain ⟨_, b, off, ha, _⟩ := hxs 0 xs[0] (List.getElem?_eq_getElem hpos)
        subst ha
        have hfacts : ∀ (k : Nat) (row : List IV), (xs.map enc)[k]? = some row → row.length = n ∧ ∀ (j : Nat) (c : IV), row[j]? = some c → ∃ v, w.cell? ⟨b, off + k * n + j, none⟩ = some v ∧ RepI w (Low w) c v := by
          intro k row hk
          rw [List.getElem?_map] at hk
          cases hq : xs[k]? with
          | none => rw [hq] at hk; cases hk
          | some y =>
            rw [hq] at hk; cases hk
            obtain ⟨_, b', off', hh, h1, h2⟩ := hxs k y hq
            injection hh with g1 g2
            subst g1; subst g2
            exact ⟨h1, h2⟩
        have hlow : Low w b := by
          obtain ⟨r1, r2⟩ := hfacts 0 (enc xs[0]) (by rw [List.getElem?_map, List.getElem?_eq_getElem hpos]; rfl)
          obtain ⟨v, hv, _⟩ := r2 0 (enc xs[0])[0] (List.getElem?_eq_getElem (by omega))
          exact lt_of_cell hv
        have := RepI.isl (w := w) (F := Low w) (xs.map enc) b off n cap (fun k j => (w.cell? ⟨b, off + k * n + j, none⟩).getD undef) hlow (by simpa using hll) hm (fun k row hk => (hfacts k row hk).1)
          (fun k row j c hk hj => by
            obtain ⟨v, hv, _⟩ := (hfacts k row hk).2 j c hj
            rw [hv]; rfl)
          (fun k row j c hk hj => by
            obtain ⟨v, hv, hr⟩ := (hfacts k row hk).2 j c hj
            rw [hv]; exact hr)
        rw [List.length_map] at this
        exact this
      · have : xs = [] := List.eq_nil_of_length_eq_zero (by omega)
        subst this
        exact .isl0 _ _ _ hm

theorem TR.one {t : TypeId} {enc : α → IV} {good : α → Prop} (h : TR P t 1 (fun y => [enc y]) good) {H : Type} {en : TypeId × Value → H} {w : World} {v : Value} {d : DataW H} {p : List MemPlace} {base : Nat} {spare : Nat → Bool} {held : Bool}
    (hv : v.cells = #[v]) (hT : DataW.Trod en P w base spare held t v d p) : ∃ y, good y ∧ RepI w (Low w) (enc y) v := by
  obtain ⟨fuel, hf⟩ := hT
  rw [hv] at hf
  obtain ⟨y, hg, hy⟩ := h H en w base spare held fuel [v] (d, p) rfl hf
  exact ⟨y, hg, hy.2 0 _ _ rfl rfl⟩
theorem TR.agg {t : TypeId} {n : Nat} {enc : α → List IV} {good : α → Prop} (h : TR P t n enc good) {fs : Array Field} (hs : P.underlying t = some (.struct fs)) (hC : P.cellsOf t = n) {H : Type} {en : TypeId × Value → H} {w : World} {v : Value} {d : DataW H} {p : List MemPlace} {base b0 : Nat} {r : Reach} {spare : Nat → Bool} {held : Bool}
    (hv : Value.okWide P w r b0 t v) (hT : DataW.Trod en P w base spare held t v d p) : ∃ y, good y ∧ RepA w (Low w) (fun _ _ => none) (.agg ((enc y).map .v)) v := by
  obtain ⟨cs, rfl, hsz⟩ := okWide_struct hs hv
  obtain ⟨fuel, hf⟩ := hT
  obtain ⟨y, hg, hy⟩ := h H en w base spare held fuel _ (d, p) (by simpa [Value.cells] using hsz.trans hC) hf
  exact ⟨y, hg, RepL.agg hy.repL⟩
end
end Go.Proofs.Ytnnnccibhhnbaaa

namespace Go.Proofs.Ytnnnccibhhnbaaa
open Go.RowKit
set_option linter.unusedVariables false

section
variable {w : World} {F : Nat → Prop}
/-- Cells in a row that read as plain values. -/
def RowR (w : World) (F : Nat → Prop) (b o : Nat) (row : List IV) : Prop := ∀ (j : Nat) (a : IV), row[j]? = some a → ∃ v, w.cell? ⟨b, o + j, none⟩ = some v ∧ RepI w F a v

theorem repI_isl {sz : Nat} {rows : List (List IV)} {v : Value} (h : RepI w F (.isl sz rows) v) :
    ∃ A c, v = .slice A rows.length c ∧ rows.length ≤ c ∧ c ≤ maxLen ∧ (0 < rows.length → ∃ b off, A = some ⟨b, off, none⟩ ∧ F b ∧ ∀ (k : Nat) (row : List IV), rows[k]? = some row → row.length = sz ∧ RowR w F b (off + k * sz) row) := by
  cases h with
  | isl0 _ a c hm => exact ⟨a, c, rfl, Nat.zero_le _, hm, fun h => by simp at h⟩
  | isl _ b off _ c val hF hc hm hsz hcell hrep =>
    exact ⟨_, c, rfl, hc, hm, fun _ => ⟨b, off, rfl, hF, fun k row hk => ⟨hsz k row hk, fun j a hj => ⟨_, hcell k row j a hk hj, hrep k row j a hk hj⟩⟩⟩⟩

theorem isl_repI {sz : Nat} {rows : List (List IV)} {A : Option Addr} {c : Nat} (h1 : rows.length ≤ c) (h2 : c ≤ maxLen)
    (h : 0 < rows.length → ∃ b off, A = some ⟨b, off, none⟩ ∧ F b ∧ ∀ (k : Nat) (row : List IV), rows[k]? = some row → row.length = sz ∧ RowR w F b (off + k * sz) row) : RepI w F (.isl sz rows) (.slice A rows.length c) := by
  by_cases h0 : 0 < rows.length
  · obtain ⟨b, off, rfl, hF, hr⟩ := h h0
    have cell : ∀ (k : Nat) (row : List IV) (j : Nat) (a : IV), rows[k]? = some row → row[j]? = some a → w.cell? ⟨b, off + k * sz + j, none⟩ = some ((w.cell? ⟨b, off + k * sz + j, none⟩).getD undef) := by
      intro k row j a hk hj
      obtain ⟨v, hv, _⟩ := (hr k row hk).2 j a hj
      rw [hv]; rfl
    exact .isl rows b off sz c (fun k j => (w.cell? ⟨b, off + k * sz + j, none⟩).getD undef) hF h1 h2 (fun k row hk => (hr k row hk).1) cell (fun k row j a hk hj => by
      obtain ⟨v, hv, hr⟩ := (hr k row hk).2 j a hj
      rw [hv]; exact hr)
  · have : rows = [] := List.eq_nil_of_length_eq_zero (by omega)
    subst this
    exact .isl0 _ _ _ h2

section
variable {α : Type} {sz : Nat} {R : World → Nat → Nat → α → Prop} {enc : α → List IV} {xs : List α} {v : Value}
theorem slr_of_rep (hR : ∀ b o x, x ∈ xs → RowR w F b o (enc x) → R w b o x) (h : RepI w F (.isl sz (xs.map enc)) v) : SlR sz R w v xs := by
  obtain ⟨A, c, h1, h2, h3, h4⟩ := repI_isl h
  rw [List.length_map] at h1 h2 h4
  refine ⟨A, c, h1, h2, h3, fun h0 => ?_⟩
  obtain ⟨b, off, h5, h6, h7⟩ := h4 h0
  refine ⟨b, off, h5, fun j x hx => hR _ _ _ (List.mem_of_getElem? hx) (h7 j (enc x) (by rw [List.getElem?_map, hx]; rfl)).2⟩

end

def eAsg (a : Asg) : List IV := [.int .i64 a.v, .int .i64 a.val]
def eEv (e : Ev) : List IV := [.int .i64 e.kind, .int .i64 e.peer, .int .i64 e.msg, .int .i64 e.time, .isl 2 (e.asg.map eAsg)]
def eVr (v : Vr) : List IV := [.str v.name, .int .i64 v.init]
def ePr (p : Pr) : List IV := [.str p.name, .isl 2 (p.vars.map eVr), .isl 5 (p.evs.map eEv)]
def eT (t : Tr) : IV := .isl 3 (t.map ePr)
def eI (n : Int) : List IV := [.int .i64 n]
/-- Names are no longer than a string may be. -/
def Nm (t : Tr) : Prop := ∀ p ∈ t, p.name.size ≤ maxLen ∧ ∀ v ∈ p.vars, v.name.size ≤ maxLen

theorem rowInt {k : IntKind} {n : Int} {b o j : Nat} {row : List IV} (h : RowR w F b o row) (hj : row[j]? = some (.int k n)) : w.cell? ⟨b, o + j, none⟩ = some (.int k n) := by
  obtain ⟨v, hv, hr⟩ := h j _ hj
  cases hr; exact hv
theorem rowStr {s : ByteArray} {b o j : Nat} {row : List IV} (h : RowR w F b o row) (hj : row[j]? = some (.str s)) : w.cell? ⟨b, o + j, none⟩ = some (.string s) := by
  obtain ⟨v, hv, hr⟩ := h j _ hj
  cases hr; exact hv
theorem asg_in {b o : Nat} {x : Asg} (h : RowR w F b o (eAsg x)) : RAsg w b o x := ⟨rowInt (j := 0) h rfl, rowInt (j := 1) h rfl⟩
theorem vr_in {b o : Nat} {x : Vr} (hx : x.name.size ≤ maxLen) (h : RowR w F b o (eVr x)) : RVr w b o x := ⟨rowStr (j := 0) h rfl, rowInt (j := 1) h rfl, hx⟩
theorem ev_in {b o : Nat} {x : Ev} (h : RowR w F b o (eEv x)) : REv w b o x := by
  obtain ⟨v, h1, h2⟩ := h 4 _ rfl
  exact ⟨rowInt (j := 0) h rfl, rowInt (j := 1) h rfl, rowInt (j := 2) h rfl, rowInt (j := 3) h rfl, v, h1, slr_of_rep (fun _ _ _ _ h => asg_in h) h2⟩
theorem pr_in {b o : Nat} {x : Pr} (hx : x.name.size ≤ maxLen ∧ ∀ v ∈ x.vars, v.name.size ≤ maxLen) (h : RowR w F b o (ePr x)) : RPr w b o x := by
  obtain ⟨v, h1, h2⟩ := h 1 _ rfl
  obtain ⟨u, h3, h4⟩ := h 2 _ rfl
  exact ⟨⟨rowStr (j := 0) h rfl, hx.1⟩, ⟨v, h1, slr_of_rep (fun _ _ y hy h => vr_in (hx.2 y hy) h) h2⟩, u, h3, slr_of_rep (fun _ _ _ _ h => ev_in h) h4⟩
/-- A trace as plain data lies in memory as a trace. -/
theorem tr_in {t : Tr} {v : Value} (hn : Nm t) (h : RepI w F (eT t) v) : SlR 3 RPr w v t := slr_of_rep (fun _ _ x hx h => pr_in (hn x hx) h) h

section
end
end

section
variable {P : Program}
/-- A contract that only makes memory, in the words of runs. -/
theorem ACalls.of_ext {f : Nat} {args : List AV} {b l : List Row} {Q : AV → List Row → List Row → Prop} (hf : ∃ fn, P.funcs[f]? = some fn ∧ (fn.name == "runtime.NumGoroutine") = false ∧ fn.body.isSome = true)
    (h : ∀ F L w (vs : Array Value), RepL w F L args vs.toList → Calls P f vs w fun en w' => Ext w w' ∧ ∃ v x, en = .returned v ∧ RepA w' F L x v ∧ Q x b l) : ACalls P f args b l Q := by
  refine ⟨hf, fun F L w vs s hr => Calls.mono (h F L w vs hr) ?_⟩
  rintro en w' ⟨he, v, x, h1, h2, h3⟩
  have hblk : ∀ k, k < w.heap.size → w'.heap[k]? = w.heap[k]? := he.block
  refine ⟨v, x, b, l, F, L, h1, h2, ⟨fun i v z els hi => ?_, s.born, s.apart, fun k hk => ⟨Nat.lt_of_lt_of_le (s.imm k hk).1 he.size, (s.imm k hk).2⟩⟩,
    ⟨fun _ h => h, fun _ _ _ _ h => h, he.os, he.tape, he.output, he.size, fun k hk _ => hblk k hk, fun _ _ h => h, fun _ _ _ h => h, fun _ _ h => .inl h⟩, rfl, h3⟩
  obtain ⟨q, g1, g2⟩ := s.row i v z els hi
  exact ⟨q, g1, g2.mono (fun k hk => hblk k (g2.lt hk)) (fun _ _ hx => hx.mono (fun _ h => h) (fun k hk => hblk k (s.imm k hk).1) (fun _ _ _ h => h))⟩

/-- A contract in the words of runs, used in a walk: arguments are plain values. -/
theorem ACalls.calls {f : Nat} {args : List AV} {Q : AV → List Row → List Row → Prop} (h : ACalls P f args [] [] Q) {w : World} {vs : Array Value} (hr : RepL w (fun b => b < w.heap.size) (fun _ _ => none) args vs.toList) :
    Calls P f vs w fun en w' => ∃ v x b' l' F' L', en = .returned v ∧ RepA w' F' L' x v ∧ Ext w w' ∧ Q x b' l' := by
  have no : ∀ k, ¬ Owned (fun _ _ => none) [] k := by rintro k ⟨i, v, s, e1, q, h1, h2, h3⟩; cases h2
  refine Calls.mono (h.2 _ _ w vs ⟨fun i v z els hi => by simp at hi, fun i v q hq => (by cases hq), fun i i' v v' z z' e1 e2 bb q1 q2 h1 => by simp at h1, fun b hb => ⟨hb, no b⟩⟩ hr) ?_
  rintro en w' ⟨v, x, b', l', F', L', h1, h2, h3, h4, h5, h6⟩
  exact ⟨v, x, b', l', F', L', h1, h2, ⟨h4.os, h4.tape, h4.output, h4.size, fun k hk => h4.block k hk (no k)⟩, h6⟩
end
end Go.Proofs.Ytnnnccibhhnbaaa

namespace Go.Proofs.Ytnnnccibhhnbaaa
open Go.RowKit
set_option linter.unusedVariables false
theorem tr_i : TR Try.prog 3 1 (fun n : Int => [.int .i64 n]) (fun n => (Lit.int .i64 n).wf = true) := tr_int Try.underlying3
theorem tr_ints : TR Try.prog 41 1 (fun c : List Int => [.isl 1 (c.map eI)]) (fun c => c.length ≤ maxLen ∧ ∀ n ∈ c, (Lit.int .i64 n).wf = true) := tr_slice tr_i Try.underlying41 (by kernel_rfl) (by decide)
end Go.Proofs.Ytnnnccibhhnbaaa

namespace Go.Proofs.Ytnnnccibhhnbaaa
set_option linter.unusedVariables false

theorem repL_cons {w : World} {F : Nat → Prop} {L : LMap} {x : AV} {xs : List AV} {vs : List Value} (h : RepL w F L (x :: xs) vs) : ∃ v us, vs = v :: us ∧ RepA w F L x v ∧ RepL w F L xs us := by
  obtain ⟨h1, h2⟩ := h
  cases vs with
  | nil => simp at h1
  | cons v us => exact ⟨v, us, rfl, h2 0 x v rfl rfl, by simpa using h1, fun i a u ha hu => h2 (i + 1) a u ha hu⟩
theorem repL_nil {w : World} {F : Nat → Prop} {L : LMap} {vs : List Value} (h : RepL w F L [] vs) : vs = [] := by
  have := h.1
  exact List.eq_nil_of_length_eq_zero (by simpa using this.symm)
theorem repL_tr {w : World} {F : Nat → Prop} {L : LMap} {t : Tr} {xs : List AV} {vs : Array Value} (hn : Nm t) (h : RepL w F L (.agg [.v (eT t)] :: xs) vs.toList) : ∃ u us, vs = (.agg #[u] :: us).toArray ∧ SlR 3 RPr w u t ∧ RepL w F L xs us := by
  obtain ⟨v, us, h1, h2, h3⟩ := repL_cons h
  obtain ⟨cs, rfl, h4⟩ := h2.aggL
  obtain ⟨u, rest, h5, h6, h7⟩ := repL_cons h4
  have := repL_nil h7
  subst this
  have hcs : cs = #[u] := Array.toList_inj.1 (by rw [h5])
  subst hcs
  exact ⟨u, us, Array.toList_inj.1 (by rw [h1]), tr_in hn h6.vI, h3⟩

section
theorem valid_specS (t : Tr) (hS : Sm t) (hN : Nm t) (b l : List Row) : ACalls Try.prog 45 [.agg [.v (eT t)]] b l (fun r b' l' => r = .v (.bool (validL t)) ∧ b' = b ∧ l' = l) := by
  refine ACalls.of_ext ⟨_, Try.func45, by kernel_rfl, by kernel_rfl⟩ (fun F L w vs hr => ?_)
  obtain ⟨u, us, rfl, hs, hr2⟩ := repL_tr hN hr
  obtain rfl := repL_nil hr2
  refine (Valid_any u t w hS hs).mono ?_
  rintro e w' ⟨rfl, he⟩
  exact ⟨he, _, _, rfl, .v _ _ (.bool _), rfl, rfl, rfl⟩
theorem valid_spec (t : Tr) (hS : Small t) (hN : Nm t) (b l : List Row) : ACalls Try.prog 45 [.agg [.v (eT t)]] b l (fun r b' l' => r = .v (.bool (validL t)) ∧ b' = b ∧ l' = l) := valid_specS t hS.sm hN b l
end
end Go.Proofs.Ytnnnccibhhnbaaa

namespace Go.Proofs.Ytnnnccibhhnbaaa
set_option linter.unusedVariables false
set_option linter.unusedSimpArgs false

inductive IVle : IV → IV → Prop where
  | refl (x : IV) : IVle x x
  | zsl (sz : Nat) : IVle .zsl (.isl sz [])
  | isl (sz : Nat) (rows rows' : List (List IV)) (hl : rows.length = rows'.length) (hl2 : ∀ (k : Nat) (row row' : List IV), rows[k]? = some row → rows'[k]? = some row' → row.length = row'.length)
      (hr : ∀ (k : Nat) (row row' : List IV) (j : Nat) (a a' : IV), rows[k]? = some row → rows'[k]? = some row' → row[j]? = some a → row'[j]? = some a' → IVle a a') : IVle (.isl sz rows) (.isl sz rows')

theorem RepI.le {w : World} {F : Nat → Prop} {x y : IV} (h : IVle x y) : ∀ {v : Value}, RepI w F x v → RepI w F y v := by
  induction h with
  | refl x => exact fun h => h
  | zsl sz => intro v h; cases h; exact .isl0 _ _ _ (Nat.zero_le _)
  | isl sz rows rows' hl hl2 hr ih =>
    intro v h
    obtain ⟨A, c, rfl, h2, h3, h4⟩ := repI_isl h
    rw [hl] at h2 h4 ⊢
    refine isl_repI h2 h3 (fun h0 => ?_)
    obtain ⟨b, off, h5, h6, h7⟩ := h4 h0
    refine ⟨b, off, h5, h6, fun k row' hk' => ?_⟩
    have hk : k < rows.length := by rw [hl]; exact (List.getElem?_eq_some_iff.1 hk').1
    obtain ⟨g1, g2⟩ := h7 k rows[k] (List.getElem?_eq_getElem hk)
    have hll := hl2 k rows[k] row' (List.getElem?_eq_getElem hk) hk'
    refine ⟨by rw [← hll]; exact g1, fun j a' hj' => ?_⟩
    have hj : j < rows[k].length := by rw [hll]; exact (List.getElem?_eq_some_iff.1 hj').1
    obtain ⟨v, hv, hrep⟩ := g2 j rows[k][j] (List.getElem?_eq_getElem hj)
    exact ⟨v, hv, ih k _ _ j _ _ (List.getElem?_eq_getElem hk) hk' (List.getElem?_eq_getElem hj) hj' hrep⟩

/-- Row by row. -/
def RowsLe : List (List IV) → List (List IV) → Prop
  | [], [] => True
  | r :: rs, q :: qs => (r.length = q.length ∧ ∀ (j : Nat) (a a' : IV), r[j]? = some a → q[j]? = some a' → IVle a a') ∧ RowsLe rs qs
  | _, _ => False
theorem RowsLe.len : ∀ {r q : List (List IV)}, RowsLe r q → r.length = q.length
  | [], [], _ => rfl
  | _ :: _, _ :: _, h => by simp [RowsLe.len h.2]
  | [], _ :: _, h => h.elim
  | _ :: _, [], h => h.elim
theorem RowsLe.get : ∀ {r q : List (List IV)}, RowsLe r q → ∀ (k : Nat) (row row' : List IV), r[k]? = some row → q[k]? = some row' → row.length = row'.length ∧ ∀ (j : Nat) (a a' : IV), row[j]? = some a → row'[j]? = some a' → IVle a a'
  | [], [], _, k, row, row', h, _ => by simp at h
  | r :: rs, q :: qs, h, k, row, row', h1, h2 => by
    cases k with
    | zero => simp at h1 h2; subst h1; subst h2; exact h.1
    | succ k => simp at h1 h2; exact RowsLe.get h.2 k row row' h1 h2
  | [], _ :: _, h, _, _, _, _, _ => h.elim
  | _ :: _, [], h, _, _, _, _, _ => h.elim
theorem IVle.rows {sz : Nat} {r q : List (List IV)} (h : RowsLe r q) : IVle (.isl sz r) (.isl sz q) :=
  .isl sz r q h.len (fun k row row' h1 h2 => (h.get k row row' h1 h2).1) (fun k row row' j a a' h1 h2 => (h.get k row row' h1 h2).2 j a a')

inductive AVle : AV → AV → Prop where
  | refl (x : AV) : AVle x x
  | v (x y : IV) (h : IVle x y) : AVle (.v x) (.v y)
  | agg (cs ds : List AV) (hl : cs.length = ds.length) (h : ∀ (i : Nat) (a c : AV), cs[i]? = some a → ds[i]? = some c → AVle a c) : AVle (.agg cs) (.agg ds)
theorem RepA.le {w : World} {F : Nat → Prop} {L : LMap} {x y : AV} (h : AVle x y) : ∀ {v : Value}, RepA w F L x v → RepA w F L y v := by
  induction h with
  | refl x => exact fun h => h
  | v x y h => intro v hx; exact .v _ _ (hx.vI.le h)
  | agg cs ds hl h ih =>
    intro v hx
    obtain ⟨vs, rfl, hr⟩ := hx.aggL
    refine RepL.agg ⟨by rw [← hl]; exact hr.1, fun i c u hc hu => ?_⟩
    have hi : i < cs.length := by rw [hl]; exact (List.getElem?_eq_some_iff.1 hc).1
    exact ih i cs[i] c (List.getElem?_eq_getElem hi) hc (hr.2 i _ u (List.getElem?_eq_getElem hi) hu)
/-- Arguments that say more will do. -/
theorem ACalls.le {P : Program} {f : Nat} {args args' : List AV} {b l : List Row} {Q : AV → List Row → List Row → Prop} (h : ACalls P f args b l Q) (hl : args'.length = args.length) (hle : ∀ (i : Nat) (a c : AV), args'[i]? = some a → args[i]? = some c → AVle a c) : ACalls P f args' b l Q :=
  ⟨h.1, fun F L w vs s hr => h.2 F L w vs s ⟨by rw [← hl]; exact hr.1, fun i c v hc hv => by
    have hi : i < args'.length := by rw [hl]; exact (List.getElem?_eq_some_iff.1 hc).1
    exact RepA.le (hle i args'[i] c (List.getElem?_eq_getElem hi) hc) (hr.2 i _ v (List.getElem?_eq_getElem hi) hv)⟩⟩
/-- A state that says less. -/
theorem Weak.le {e e' : List AV} {b l : List Row} (hl : e.length = e'.length) (h : ∀ (i : Nat) (x y : AV), e[i]? = some x → e'[i]? = some y → AVle x y) : Weak e b l e' b l := by
  intro F L w a s hea
  refine ⟨F, L, s, ⟨hea.1, by rw [← hl]; exact hea.2.1, fun i y v hy hv => ?_⟩, Step.refl _ _ _ _ _, rfl⟩
  have hi : i < e.length := by rw [hl]; exact (List.getElem?_eq_some_iff.1 hy).1
  exact RepA.le (h i e[i] y (List.getElem?_eq_getElem hi) hy) (hea.2.2 i _ v (List.getElem?_eq_getElem hi) hv)
end Go.Proofs.Ytnnnccibhhnbaaa

namespace Go.Proofs.Ytnnnccibhhnbaaa
set_option linter.unusedVariables false
def concB (t : Tr) (rank : Nat × Nat → Nat) : Bool :=
  decide (1 ≤ t.length) && (decide (t.length ≤ 8) && ((List.range t.length).all (fun p => headF t p == 0) && ((ids t).all (fun x => formF t x == 0) && ((ids t).all (fun x => pairF t x == 0) && (ids t).all (fun x => (dirL t x).all fun y => decide (rank x < rank y))))))
theorem conc_fault {t : Tr} {rank : Nat × Nat → Nat} (h : concB t rank = true) : faultL t = ((0, 0), 0) := by
  simp only [concB, Bool.and_eq_true, decide_eq_true_eq, List.all_eq_true, beq_iff_eq] at h
  obtain ⟨h1, h2, h3, h4, h5, h6⟩ := h
  have hb : ∀ {x y : Nat × Nat}, Hb t x y → x ∈ ids t → rank x < rank y := by
    intro x y hxy
    induction hxy with
    | one h => intro hx; exact h6 _ hx _ (mem_dirL.2 h)
    | more h k ih =>
      intro hx
      exact Nat.lt_trans (ih hx) (h6 _ (Hb.mem hx h) _ (mem_dirL.2 k))
  unfold faultL
  rw [if_neg (by omega)]
  have e1 : (List.range t.length).find? (fun p => headF t p != 0) = none := by
    rw [List.find?_eq_none]; intro p hp; simp [h3 p hp]
  have e2 : (ids t).find? (fun x => formF t x != 0) = none := by
    rw [List.find?_eq_none]; intro p hp; simp [h4 p hp]
  have e3 : (ids t).find? (fun x => pairF t x != 0) = none := by
    rw [List.find?_eq_none]; intro p hp; simp [h5 p hp]
  rw [e1]; simp only
  rw [e2]; simp only
  rw [e3]; simp only
  have e4 : (ids t).find? (fun x => @decide (Hb t x x) (Classical.propDecidable _)) = none := by
    rw [List.find?_eq_none]
    intro x hx
    simp only [decide_eq_true_eq]
    intro hh
    have := hb hh hx
    omega
  rw [e4]
theorem conc_valid {t : Tr} {rank : Nat × Nat → Nat} (h : concB t rank = true) : validL t = true := by simp [validL, conc_fault h]
end Go.Proofs.Ytnnnccibhhnbaaa

namespace Go.Proofs.Ytnnnccibhhnbaaa
set_option linter.unusedVariables false
set_option linter.unusedSimpArgs false
def xOk : XV → Bool
  | .ok (.v (.bool true)) _ _ _ => true
  | _ => false
theorem xOk_ok {x : XV} (h : xOk x = true) : ∃ b l t, x = .ok (.v (.bool true)) b l t := by
  unfold xOk at h
  split at h
  · exact ⟨_, _, _, rfl⟩
  · exact absurd h (by decide)
noncomputable def tab15 : Nat → Option AFunc := fun f => cFunc Try.prog f
set_option maxRecDepth 100000
theorem getLe_nil {f : IV → IV → Prop} : ∀ (j : Nat) (a a' : IV), ([] : List IV)[j]? = some a → ([] : List IV)[j]? = some a' → f a a' := fun j a a' h => by simp at h
theorem getLe_cons {f : IV → IV → Prop} {x y : IV} {xs ys : List IV} (h : f x y) (hs : ∀ (j : Nat) (a a' : IV), xs[j]? = some a → ys[j]? = some a' → f a a') : ∀ (j : Nat) (a a' : IV), (x :: xs)[j]? = some a → (y :: ys)[j]? = some a' → f a a' := by
  intro j a a' h1 h2
  cases j with
  | zero => simp at h1 h2; subst h1; subst h2; exact h
  | succ j => simp at h1 h2; exact hs j a a' h1 h2
/-- A contract of a function without arguments that answers with a bool, with nothing said of rows: it holds among any rows. -/
theorem ACalls.lift_bool {P : Program} {f : Nat} {z : Bool} (h : ACalls P f [] [] [] (fun r _ _ => r = .v (.bool z))) (b l : List Row) : ACalls P f [] b l (fun r b' l' => r = .v (.bool z) ∧ b' = b ∧ l' = l) := by
  refine ACalls.of_ext h.1 (fun F L w vs hr => ?_)
  have hn : vs = #[] := Array.toList_inj.1 (repL_nil hr)
  subst hn
  refine (ACalls.calls h (vs := #[]) RepL.nil).mono ?_
  rintro en w' ⟨v, x, b', l', F', L', he, hx, hE, rfl⟩
  cases hx.vI
  exact ⟨hE, _, _, he, .v _ _ (.bool _), rfl, rfl, rfl⟩
end Go.Proofs.Ytnnnccibhhnbaaa

namespace Go.Proofs.Ytnnnccibhhnbaaa
set_option linter.unusedVariables false
set_option linter.unusedSimpArgs false

def vBad (n : Int) : Bool := decide (n < 0) || decide (n > 1125899906842624)
def vBadAt (v : List Int) (i : Nat) : Bool := vBad (v.getD i 0)
def isV (v : List Int) : Bool := decide (1 ≤ v.length) && (decide (v.length ≤ 8) && !(List.range v.length).any (vBadAt v))
def bothV (v w : List Int) : Bool := isV v && (isV w && decide (v.length = w.length))
def leqAt (v w : List Int) (i : Nat) : Bool := decide (v.getD i 0 ≤ w.getD i 0)
def leqV (v w : List Int) : Bool := (List.range v.length).all (leqAt v w)
def cmpV (v w : List Int) : Int := if leqV v w = true then (if leqV w v = true then 0 else -1) else if leqV w v = true then 1 else 2

theorem getD_at {α : Type} {l : List α} {i : Nat} {d : α} (h : i < l.length) : l.getD i d = l[i] := by simp [List.getD, h]
theorem leqV_iff {v w : List Int} : leqV v w = true ↔ ∀ i, i < v.length → v.getD i 0 ≤ w.getD i 0 := by
  simp [leqV, leqAt, List.all_eq_true]
theorem getD_set_ne {α : Type} {l : List α} {i j : Nat} {x d : α} (h : i ≠ j) : (l.set i x).getD j d = l.getD j d := by
  simp only [List.getD_eq_getElem?_getD, List.getElem?_set_ne h]
end Go.Proofs.Ytnnnccibhhnbaaa

namespace Go.Proofs.Ytnnnccibhhnbaaa
set_option linter.unusedVariables false
set_option linter.unusedSimpArgs false
attribute [local go_sem ↓] run_skip run_region run_draw run_seq run_block run_exit run_ret run_cond atN_app seqC_normal seqC_exit seqC_ret seqQ_normal seqQ_exit seqQ_ret blkQ_normal blkQ_exit blkQ_ret runOps_nil runOps_cons runD_nil runD_cons grdO_true grdO_false grdD_true grdD_false ifC_true ifC_false opS_val opS_call opS_two opK_app dS_val dS_call dS_two dK_app kUp_same kUp_ne
attribute [local go_sem] rechks_nil rechks_cons rechk gcase_true gcase_false ex_val ex_val0 gd_none gd_some ev_t ev_c evs_nil evs_cons evo_some evo_none hget_at hget_first hsetB_at hsetB_first hsetL_at hsetL_first ofOpt_some aop aload astore aslice aappend aiaddr aiaddrA afaddr alen alenS acopy amm acall alookup amupdate alenM comma keyEq apick binV binVB binVS isSh intOp strOp boolOp shOp eqC eqF and2 cellsOf setFrom fillA fillS rd rdI elems mk bounds AV.cell List.all_cons List.all_nil Bool.and_true Bool.true_and Bool.and_self List.length_cons List.length_nil List.length_append Nat.reduceAdd Nat.reduceSub Nat.reduceMul Nat.zero_add Nat.add_zero List.cons_append List.nil_append List.append_assoc List.append_nil List.getElem?_cons_zero List.getElem?_cons_succ List.getElem?_nil List.set_cons_zero List.set_cons_succ List.drop_zero List.drop_succ_cons List.take_zero List.take_succ_cons List.take_nil List.drop_nil List.map_cons List.map_nil Option.map_some if_true if_false Bool.false_eq_true and_self true_and and_true Nat.reduceLeDiff Nat.reduceLT Nat.le_refl Nat.reduceEqDiff ite_true ite_false beq_self_eq_true beq_true beq_false Bool.not_true Bool.not_false Bool.true_beq Bool.false_beq map_vs vs_len vs_get vs_take vs_drop vs_snoc1 vs_snoc2 vs_snoc3 vs_snoc5 vs_set1 vs_set2 vs_rep wrap_id le_T lt_T le_F lt_F leI_T ltI_T leI_F ltI_F geI gtI get_T decide_true decide_false room List.getElem?_map List.length_map List.length_take Int.toNat_natCast Nat.min_def Nat.min_self nth_kOf put_kOf put_kNo kOv_cons kOv_nil KHas KArgs List.getElem_cons_zero List.getElem_cons_succ
def a_Ind1 : AFunc := ⟨2, 19, [.tmp 4],
  (.seq (.region [⟨(some 4), .mv (.c (.v (.int .i64 0))), none⟩])
  (.seq (.seq (.region [⟨(some 6), .mv (.t 0), none⟩, ⟨(some 7), .len (.t 6), none⟩, ⟨(some 8), .mv (.c (.v (.int .i64 0))), none⟩])
  (.block 0 (.loop (.seq (.region [⟨(some 9), .bin .lss (.t 8) (.t 7), none⟩])
  (.seq (.cond (.t 9) .skip
  (.exit 0))
  (.seq (.block 1 (.seq (.region [⟨(some 10), .mv (.t 8), none⟩, ⟨(some 5), .mv (.t 10), none⟩])
  (.seq (.region [⟨(some 11), .mv (.t 1), none⟩, ⟨(some 12), .mv (.t 0), none⟩, ⟨(some 13), .mv (.t 5), none⟩, ⟨(some 14), .iaddr 1 (.t 12) (.t 13), none⟩, ⟨(some 15), .load none (.t 14), none⟩, ⟨(some 16), .call (.t 11) [(.t 15)], none⟩])
  (.cond (.t 16) (.seq (.region [⟨(some 17), .mv (.t 5), none⟩, ⟨(some 4), .mv (.t 17), none⟩])
  .ret)
  .skip))))
  (.region [⟨(some 18), .bin .add (.t 8) (.c (.v (.int .i64 1))), none⟩, ⟨(some 8), .mv (.t 18), none⟩])))))))
  (.seq (.region [⟨(some 4), .mv (.c (.v (.int .i64 (-1)))), none⟩])
  .ret)))⟩
theorem a_Ind1_ok : cFunc Try.prog 82 = some a_Ind1 := by kernel_rfl
def r_Ind10 : List (Nat × Nat) := [(4, 5), (8, 18)]
def a_Con1 : AFunc := ⟨2, 9, [.tmp 4],
  (.seq (.region [⟨(some 4), .mv (.c (.v (.bool false))), none⟩])
  (.seq (.region [⟨(some 5), .mv (.t 0), none⟩, ⟨(some 6), .mv (.t 1), none⟩, ⟨(some 7), .call (.c (.fn 82 [])) [(.t 5), (.t 6)], none⟩, ⟨(some 8), .bin .geq (.t 7) (.c (.v (.int .i64 0))), none⟩, ⟨(some 4), .mv (.t 8), none⟩])
  .ret))⟩
theorem a_Con1_ok : cFunc Try.prog 22 = some a_Con1 := by kernel_rfl

/-- A slice of numbers. -/
def iv (v : List Int) : AV := .v (.isl 1 (v.map eI))

def firstP (p : Nat → Bool) (n : Nat) : Int := match (List.range n).find? p with
  | some i => i
  | none => -1
theorem firstP_at {p : Nat → Bool} {n i : Nat} (h : i < n) (h0 : ∀ j, j < i → p j = false) (hi : p i = true) : firstP p n = i := by
  have hf : (List.range n).find? p = some i := by
    rw [show n = i + (1 + (n - i - 1)) by omega, List.range_add, List.find?_append]
    have : (List.range i).find? p = none := by
      rw [List.find?_eq_none]; intro q hq; simp [h0 q (List.mem_range.1 hq)]
    rw [this, Nat.add_comm 1, List.range_succ_eq_map]
    simp [hi]
  unfold firstP; rw [hf]
theorem firstP_none {p : Nat → Bool} {n : Nat} (h0 : ∀ j, j < n → p j = false) : firstP p n = -1 := by
  have : (List.range n).find? p = none := by
    rw [List.find?_eq_none]; intro q hq; simp [h0 q (List.mem_range.1 hq)]
  unfold firstP; rw [this]
theorem firstP_ge {p : Nat → Bool} {n : Nat} : decide (0 ≤ firstP p n) = (List.range n).any p := by
  unfold firstP
  cases h : (List.range n).find? p with
  | none =>
    have := List.find?_eq_none.1 h
    have hn : (List.range n).any p = false := by rw [List.any_eq_false]; exact this
    rw [hn]; rfl
  | some i =>
    have h1 := List.find?_some h
    have h2 := List.mem_of_find?_eq_some h
    have hn : (List.range n).any p = true := List.any_eq_true.2 ⟨i, h2, h1⟩
    rw [hn]; simp

theorem index1_spec (v : List Int) (k : Nat) (caps : List AV) (p : Nat → Bool) (hn : v.length ≤ 1000000) (b l : List Row)
    (hp : ∀ (i : Nat) (h : i < v.length), ACalls Try.prog k (.v (.int .i64 v[i]) :: caps) (b ++ l) [] (fun r b' l' => r = .v (.bool (p i)) ∧ b' = b ++ l ∧ l' = [])) :
    ACalls Try.prog 82 [.v (.isl 1 (v.map eI)), .fn k caps] b l (fun r b' l' => r = .v (.int .i64 (firstP p v.length)) ∧ b' = b ∧ l' = l) := by
  refine calls_kept a_Ind1_ok rfl (by decide) ?_
  intro B g hB hR hE hA
  simp only [KArgs] at hA
  simp (disch := decide) only [a_Ind1, hA, List.length_map, go_sem]
  refine loop_kept (ι := Nat) r_Ind10 (fun i => [(8, .v (.int .i64 i))]) 0 (fun _ => [])
    (fun i => i ≤ v.length ∧ ∀ j, j < i → p j = false) (fun i => v.length - i) 0 ⟨Nat.zero_le _, fun j hj => by omega⟩ (by (repeat (first | exact hE.mono (by omega) | refine KLt.up ?_ (by simp (disch := omega) only [AVlt_v, AVlt_any, AVlt_sl, AVlt_ptr, AVlt_mp, AVlt_agg, AVlt_tup, AVlt_fn, RowsLt_nil, RowsLt_live, RowsLt_dead, List.mem_cons, List.not_mem_nil, List.forall_mem_cons, List.forall_mem_nil, or_false, false_or, forall_eq_or_imp, forall_eq, vs_lt, Nat.add_lt_add_iff_left, Nat.reduceLT, true_and, and_true, and_self, List.length_cons, List.length_nil, Nat.reduceAdd, Nat.zero_add, implies_true, false_imp_iff, lt_T, List.mem_map])))) (by ((try simp (disch := decide) only [hA, go_sem]) <;> (repeat' (first | exact trivial | refine And.intro ?_ ?_)) <;> (first | rfl | (congr 2; omega)))) (fun e => Weak.refl _ _ _) ?_
  rintro g1 hE1 hEE1 hg1 i ⟨hi, h0⟩
  by_cases hlt : i < v.length
  · simp (disch := (first | decide | omega)) only [hA, hg1, eI, go_sem]
    refine ACalls_mono _ _ _ _ _ _ (hB ▸ hp i hlt) ?_
    rintro r b' l' ⟨rfl, rfl, rfl⟩
    cases hpi : p i
    · simp (disch := (first | decide | omega)) only [hA, hg1, hpi, go_sem]
      refine ⟨i + 1, ⟨hlt, fun j hj => ?_⟩, by simp only; omega, ?_⟩
      · rcases Nat.lt_or_ge j i with hji | hji
        · exact h0 j hji
        · have : j = i := by omega
          rw [this]; exact hpi
      exact Weak.kround (p := r_Ind10) (k := 0) (by ((repeat refine (kAny_up rfl).trans ?_); exact hEE1)) (by ((try simp (disch := decide) only [hA, go_sem]) <;> (repeat' (first | exact trivial | refine And.intro ?_ ?_)) <;> (first | rfl | (congr 2; omega)))) rfl hE1 (by simp) (by simp (disch := omega) only [KOvLt, AVlt_v, AVlt_any, AVlt_sl, AVlt_ptr, AVlt_mp, AVlt_agg, AVlt_tup, AVlt_fn, RowsLt_nil, RowsLt_live, RowsLt_dead, List.mem_cons, List.not_mem_nil, List.forall_mem_cons, List.forall_mem_nil, or_false, false_or, forall_eq_or_imp, forall_eq, vs_lt, Nat.add_lt_add_iff_left, Nat.reduceLT, true_and, and_true, and_self, List.length_cons, List.length_nil, Nat.reduceAdd, Nat.zero_add, implies_true, false_imp_iff, lt_T, List.mem_map]) hR (by simp (disch := omega) only [AVlt_v, AVlt_any, AVlt_sl, AVlt_ptr, AVlt_mp, AVlt_agg, AVlt_tup, AVlt_fn, RowsLt_nil, RowsLt_live, RowsLt_dead, List.mem_cons, List.not_mem_nil, List.forall_mem_cons, List.forall_mem_nil, or_false, false_or, forall_eq_or_imp, forall_eq, vs_lt, Nat.add_lt_add_iff_left, Nat.reduceLT, true_and, and_true, and_self, List.length_cons, List.length_nil, Nat.reduceAdd, Nat.zero_add, implies_true, false_imp_iff, lt_T, List.mem_map])
    · simp (disch := (first | decide | omega)) only [hA, hg1, hpi, go_sem]
      exact leave_pure (xs := [.v (.int .i64 i)]) (.inr rfl) (by simp (disch := (first | decide | omega)) only [resVs, resV, go_sem, hA, hg1]) (by simp only [one, AVlt_v, AVlt_any, AVlt_sl, AVlt_ptr, AVlt_mp, AVlt_agg, AVlt_tup, AVlt_fn, RowsLt_nil, RowsLt_live, RowsLt_dead, List.mem_cons, List.not_mem_nil, List.forall_mem_cons, List.forall_mem_nil, or_false, false_or, forall_eq_or_imp, forall_eq, vs_lt, Nat.add_lt_add_iff_left, Nat.reduceLT, true_and, and_true, and_self, List.length_cons, List.length_nil, Nat.reduceAdd, Nat.zero_add, implies_true, false_imp_iff, lt_T, List.mem_map]) hR hB ⟨by rw [firstP_at hlt h0 hpi]; rfl, rfl, rfl⟩
  · simp (disch := (first | decide | omega)) only [hA, hg1, go_sem]
    obtain rfl : i = v.length := by omega
    exact leave_pure (xs := [.v (.int .i64 (-1))]) (.inr rfl) (by simp (disch := (first | decide | omega)) only [resVs, resV, go_sem, hA, hg1]) (by simp only [one, AVlt_v, AVlt_any, AVlt_sl, AVlt_ptr, AVlt_mp, AVlt_agg, AVlt_tup, AVlt_fn, RowsLt_nil, RowsLt_live, RowsLt_dead, List.mem_cons, List.not_mem_nil, List.forall_mem_cons, List.forall_mem_nil, or_false, false_or, forall_eq_or_imp, forall_eq, vs_lt, Nat.add_lt_add_iff_left, Nat.reduceLT, true_and, and_true, and_self, List.length_cons, List.length_nil, Nat.reduceAdd, Nat.zero_add, implies_true, false_imp_iff, lt_T, List.mem_map]) hR hB ⟨by rw [firstP_none h0]; rfl, rfl, rfl⟩
theorem contains1_spec (v : List Int) (k : Nat) (caps : List AV) (p : Nat → Bool) (hn : v.length ≤ 1000000) (b l : List Row)
    (hp : ∀ (i : Nat) (h : i < v.length), ACalls Try.prog k (.v (.int .i64 v[i]) :: caps) (b ++ l) [] (fun r b' l' => r = .v (.bool (p i)) ∧ b' = b ++ l ∧ l' = [])) :
    ACalls Try.prog 22 [.v (.isl 1 (v.map eI)), .fn k caps] b l (fun r b' l' => r = .v (.bool ((List.range v.length).any p)) ∧ b' = b ∧ l' = l) := by
  refine calls_kept a_Con1_ok rfl (by decide) ?_
  intro B g hB hR hE hA
  simp only [KArgs] at hA
  simp (disch := decide) only [a_Con1, hA, go_sem]
  refine ACalls_mono _ _ _ _ _ _ (index1_spec v k caps p hn B [] (by rw [List.append_nil, hB]; exact hp)) ?_
  rintro r b' l' ⟨rfl, rfl, rfl⟩
  simp (disch := decide) only [hA, go_sem]
  exact leave_pure (xs := [.v (.bool (decide (0 ≤ firstP p v.length)))]) (.inr rfl) (by simp (disch := (first | decide | omega)) only [resVs, resV, go_sem, hA]) (by simp only [one, AVlt_v, AVlt_any, AVlt_sl, AVlt_ptr, AVlt_mp, AVlt_agg, AVlt_tup, AVlt_fn, RowsLt_nil, RowsLt_live, RowsLt_dead, List.mem_cons, List.not_mem_nil, List.forall_mem_cons, List.forall_mem_nil, or_false, false_or, forall_eq_or_imp, forall_eq, vs_lt, Nat.add_lt_add_iff_left, Nat.reduceLT, true_and, and_true, and_self, List.length_cons, List.length_nil, Nat.reduceAdd, Nat.zero_add, implies_true, false_imp_iff, lt_T, List.mem_map]) hR hB ⟨by rw [firstP_ge]; rfl, rfl, rfl⟩
end Go.Proofs.Ytnnnccibhhnbaaa
