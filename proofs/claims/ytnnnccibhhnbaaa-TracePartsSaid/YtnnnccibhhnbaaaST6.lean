/- Texts of one proof, laid together: RW, WG, TR, HA, VL, VR, HN. No condition. -/
import Derived.Test.YtnnnccibhhnbaaaST2
import Derived.Test.YtnnnccibhhnbaaaST3
import Derived.Test.YtnnnccibhhnbaaaST4
import Derived.Test.YtnnnccibhhnbaaaProg
import Derived.KernelRfl
namespace Go.Proofs.Ytnnnccibhhnbaaa
open Go.RowKit Go.ChangeShapes Go.WideShapes Go.Deep
set_option linter.unusedVariables false

/-- Cells that read as a row of plain values. -/
def RIs (w : World) (F : Nat → Prop) (row : List IV) (cs : List Value) : Prop := row.length = cs.length ∧ ∀ (j : Nat) (a : IV) (v : Value), row[j]? = some a → cs[j]? = some v → RepI w F a v
theorem RIs.nil {w : World} {F : Nat → Prop} : RIs w F [] [] := ⟨rfl, fun j a v h => by simp at h⟩
theorem RIs.one {w : World} {F : Nat → Prop} {a : IV} {v : Value} (h : RepI w F a v) : RIs w F [a] [v] := by
  refine ⟨rfl, fun j x u hx hu => ?_⟩
  cases j with
  | zero => simp at hx hu; subst hx; subst hu; exact h
  | succ j => simp at hx
theorem RIs.append {w : World} {F : Nat → Prop} {r s : List IV} {cs ds : List Value} (h : RIs w F r cs) (k : RIs w F s ds) : RIs w F (r ++ s) (cs ++ ds) := by
  refine ⟨by simp [h.1, k.1], fun j a v ha hv => ?_⟩
  by_cases hj : j < r.length
  · rw [List.getElem?_append_left hj] at ha
    rw [List.getElem?_append_left (by rw [← h.1]; exact hj)] at hv
    exact h.2 j a v ha hv
  · rw [List.getElem?_append_right (by omega)] at ha
    rw [List.getElem?_append_right (by rw [← h.1]; omega), ← h.1] at hv
    exact k.2 _ a v ha hv
theorem RIs.repL {w : World} {F : Nat → Prop} {L : LMap} {r : List IV} {cs : List Value} (h : RIs w F r cs) : RepL w F L (r.map .v) cs := by
  refine ⟨by simpa using h.1, fun j x v hx hv => ?_⟩
  rw [List.getElem?_map] at hx
  cases hq : r[j]? with
  | none => simp [hq] at hx
  | some y => simp [hq] at hx; subst hx; exact .v _ _ (h.2 j y v hq hv)

def Low (w : World) : Nat → Prop := fun b => b < w.heap.size

/-- Values of a type read as rows of plain values. -/
def TR {α : Type} (P : Program) (t : TypeId) (n : Nat) (enc : α → List IV) (good : α → Prop) : Prop :=
  ∀ (H : Type) (en : TypeId × Value → H) (w : World) (base : Nat) (spare : Nat → Bool) (held : Bool) (fuel : Nat) (cs : List Value) (x : DataW H × List MemPlace), cs.length = n → DataW.trod en P w base spare held fuel t cs = some x →
    ∃ y, good y ∧ RIs w (Low w) (enc y) cs

section
variable {P : Program} {α β : Type}
theorem TR.map {t : TypeId} {n : Nat} {enc : α → List IV} {good : α → Prop} (h : TR P t n enc good) {enc' : β → List IV} {good' : β → Prop} (f : α → β) (he : ∀ y, enc' (f y) = enc y) (hg : ∀ y, good y → good' (f y)) : TR P t n enc' good' := by
  intro H en w base spare held fuel cs x hl hx
  obtain ⟨y, g, r⟩ := h H en w base spare held fuel cs x hl hx
  exact ⟨f y, hg y g, by rw [he]; exact r⟩
theorem tr_int {t : TypeId} {k : IntKind} (ht : P.underlying t = some (.int k)) : TR P t 1 (fun n : Int => [.int k n]) (fun n => (Lit.int k n).wf = true) := by
  intro H en w base spare held fuel cs x hl hx
  obtain ⟨n, rfl, _, hw⟩ := DataW.trod_int ht hx
  exact ⟨n, hw, RIs.one (.int _ _)⟩
theorem tr_string {t : TypeId} (ht : P.underlying t = some .string) : TR P t 1 (fun s : ByteArray => [.str s]) (fun s => s.size ≤ maxLen) := by
  intro H en w base spare held fuel cs x hl hx
  obtain ⟨n, rfl, _, hm⟩ := DataW.trod_string ht hx
  exact ⟨n, hm, RIs.one (.str _)⟩
theorem tr_slice {t e : TypeId} {n : Nat} {enc : α → List IV} {good : α → Prop} (h : TR P e n enc good) (ht : P.underlying t = some (.slice e)) (hC : P.cellsOf e = n) (h0 : 0 < n) :
    TR P t 1 (fun ys : List α => [.isl n (ys.map enc)]) (fun ys => ys.length ≤ maxLen ∧ ∀ y ∈ ys, good y) := by
  intro H en w base spare held fuel cs x hl hx
  rcases open_slice ht hx with ⟨hv, _⟩ | ⟨a, len, cap, m, f, D, Pl, hv, hb, hll, hm, hmm, _, hel⟩
  · subst hv
    exact ⟨[], ⟨by simp [maxLen], fun y hy => by simp at hy⟩, RIs.one (.isl0 _ _ _ (by simp [maxLen]))⟩
  · subst hv
    have hle : len ≤ m := by rw [hmm]; split <;> omega
    have key : ∀ i, i < len → ∃ y, (good y ∧ ∃ b off, a = ⟨b, off, none⟩ ∧ (enc y).length = n ∧ ∀ (j : Nat) (c : IV), (enc y)[j]? = some c → ∃ v, w.cell? ⟨b, off + i * n + j, none⟩ = some v ∧ RepI w (Low w) c v) := by
      intro i hi
      obtain ⟨cs', hc, ht'⟩ := hel i (by omega)
      rw [hC] at hc
      obtain ⟨_, hcl, hat⟩ := World.cells?_some hc
      obtain ⟨cs0, hc0, _⟩ := hel 0 (by omega)
      rw [hC] at hc0
      obtain ⟨_, hcl0, hat0⟩ := World.cells?_some hc0
      have h00 := hat0 0 h0
      have e00 : (a.add (0 * n)).add 0 = a := by simp [Addr.add]
      rw [e00, List.getElem?_eq_getElem (show 0 < cs0.length by omega)] at h00
      have hsp := spot_none h00
      obtain ⟨b, off, sp⟩ := a
      simp only at hsp
      subst hsp
      obtain ⟨y, hg, hy⟩ := h H en w base spare held f cs' (D i, Pl i) hcl ht'
      refine ⟨y, hg, b, off, rfl, by rw [hy.1, hcl], fun j c hj => ?_⟩
      have hjl : j < cs'.length := by rw [← hy.1]; exact (List.getElem?_eq_some_iff.1 hj).1
      have := hat j (by omega)
      have e1 : ((⟨b, off, none⟩ : Addr).add (i * n)).add j = ⟨b, off + i * n + j, none⟩ := by
        unfold Addr.add
        by_cases h1 : i * n = 0 <;> by_cases h2 : j = 0 <;> simp [h1, h2]
      rw [e1, List.getElem?_eq_getElem hjl] at this
      exact ⟨_, this, hy.2 j c _ hj (List.getElem?_eq_getElem hjl)⟩
    obtain ⟨xs, hxl, hxs⟩ := list_of len key
    subst hxl
    refine ⟨xs, ⟨by omega, fun y hy => ?_⟩, RIs.one ?_⟩
    · obtain ⟨i, hi⟩ := List.mem_iff_getElem?.1 hy
      exact (hxs i y hi).1
    · by_cases hpos : 0 < xs.length
      · obtain ⟨_, b, off, ha, _⟩ := hxs 0 xs[0] (List.getElem?_eq_getElem hpos)
        subst ha
        have hfacts : ∀ (k : Nat) (row : List IV), (xs.map enc)[k]? = some row → row.length = n ∧ ∀ (j : Nat) (c : IV), row[j]? = some c → ∃ v, w.cell? ⟨b, off + k * n + j, none⟩ = some v ∧ RepI w (Low w) c v := by
          intro k row hk
          rw [List.getElem?_map] at hk
          cases hq : xs[k]? with
          | none => rw [hq] at hk; cases hk
          | some y =>
            rw [hq] at hk; cases hk
            obtain ⟨_, b', off', hh, h1, h2⟩ := hxs k y hq
            injection hh with g1 g2
            subst g1; subst g2
            exact ⟨h1, h2⟩
        have hlow : Low w b := by
          obtain ⟨r1, r2⟩ := hfacts 0 (enc xs[0]) (by rw [List.getElem?_map, List.getElem?_eq_getElem hpos]; rfl)
          obtain ⟨v, hv, _⟩ := r2 0 (enc xs[0])[0] (List.getElem?_eq_getElem (by omega))
          exact lt_of_cell hv
        have := RepI.isl (w := w) (F := Low w) (xs.map enc) b off n cap (fun k j => (w.cell? ⟨b, off + k * n + j, none⟩).getD undef) hlow (by simpa using hll) hm (fun k row hk => (hfacts k row hk).1)
          (fun k row j c hk hj => by
            obtain ⟨v, hv, _⟩ := (hfacts k row hk).2 j c hj
            rw [hv]; rfl)
          (fun k row j c hk hj => by
            obtain ⟨v, hv, hr⟩ := (hfacts k row hk).2 j c hj
            rw [hv]; exact hr)
        rw [List.length_map] at this
        exact this
      · have : xs = [] := List.eq_nil_of_length_eq_zero (by omega)
        subst this
        exact .isl0 _ _ _ hm

/-- Fields from a place on. -/
def TRF (P : Program) (fs : List Field) (o n : Nat) (enc : α → List IV) (good : α → Prop) : Prop :=
  ∀ (H : Type) (en : TypeId × Value → H) (w : World) (base : Nat) (spare : Nat → Bool) (held : Bool) (fuel : Nat) (cs : List Value), cs.length = o + n → (∀ f ∈ fs, ∃ x, DataW.trod en P w base spare held fuel f.type ((cs.drop f.offset).take (P.cellsOf f.type)) = some x) →
    ∃ y, good y ∧ RIs w (Low w) (enc y) (cs.drop o)
theorem trf_nil {o : Nat} : TRF P [] o 0 (fun _ : Unit => []) (fun _ => True) := by
  intro H en w base spare held fuel cs hl _
  refine ⟨(), trivial, ?_⟩
  rw [List.drop_eq_nil_of_le (by omega)]
  exact RIs.nil
theorem trf_cons {f : Field} {fs : List Field} {o n m : Nat} {enc : α → List IV} {good : α → Prop} {enc' : β → List IV} {good' : β → Prop} (h : TR P f.type n enc good) (hC : P.cellsOf f.type = n) (ho : f.offset = o) (k : TRF P fs (o + n) m enc' good') :
    TRF P (f :: fs) o (n + m) (fun y : α × β => enc y.1 ++ enc' y.2) (fun y => good y.1 ∧ good' y.2) := by
  intro H en w base spare held fuel cs hl hfs
  obtain ⟨x, hx⟩ := hfs f (by simp)
  rw [ho, hC] at hx
  obtain ⟨y, hg, hy⟩ := h H en w base spare held fuel _ x (by simp; omega) hx
  obtain ⟨z, hg', hz⟩ := k H en w base spare held fuel cs (by omega) (fun f hf => hfs f (by simp [hf]))
  refine ⟨(y, z), ⟨hg, hg'⟩, ?_⟩
  have : cs.drop o = (cs.drop o).take n ++ cs.drop (o + n) := by rw [← List.drop_drop, List.take_append_drop]
  rw [this]
  exact hy.append hz
theorem tr_struct {t : TypeId} {fs : Array Field} {n : Nat} {enc : α → List IV} {good : α → Prop} (ht : P.underlying t = some (.struct fs)) (h : TRF P fs.toList 0 n enc good) : TR P t n enc good := by
  intro H en w base spare held fuel cs x hl hx
  obtain ⟨xs, m, _, _, _, hlen, hf⟩ := DataW.trod_struct ht hx
  obtain ⟨y, hg, hy⟩ := h H en w base spare held m cs (by omega) (fun f hm => by
    obtain ⟨i, hi⟩ := List.mem_iff_getElem?.1 hm
    have hi' : fs[i]? = some f := by simpa using hi
    have hlt : i < xs.length := by rw [hlen]; exact (Array.getElem?_eq_some_iff.1 hi').1
    exact ⟨_, (hf i f hi').trans (List.getElem?_eq_getElem hlt)⟩)
  exact ⟨y, hg, by simpa using hy⟩
theorem TR.one {t : TypeId} {enc : α → IV} {good : α → Prop} (h : TR P t 1 (fun y => [enc y]) good) {H : Type} {en : TypeId × Value → H} {w : World} {v : Value} {d : DataW H} {p : List MemPlace} {base : Nat} {spare : Nat → Bool} {held : Bool}
    (hv : v.cells = #[v]) (hT : DataW.Trod en P w base spare held t v d p) : ∃ y, good y ∧ RepI w (Low w) (enc y) v := by
  obtain ⟨fuel, hf⟩ := hT
  rw [hv] at hf
  obtain ⟨y, hg, hy⟩ := h H en w base spare held fuel [v] (d, p) rfl hf
  exact ⟨y, hg, hy.2 0 _ _ rfl rfl⟩
theorem TR.agg {t : TypeId} {n : Nat} {enc : α → List IV} {good : α → Prop} (h : TR P t n enc good) {fs : Array Field} (hs : P.underlying t = some (.struct fs)) (hC : P.cellsOf t = n) {H : Type} {en : TypeId × Value → H} {w : World} {v : Value} {d : DataW H} {p : List MemPlace} {base b0 : Nat} {r : Reach} {spare : Nat → Bool} {held : Bool}
    (hv : Value.okWide P w r b0 t v) (hT : DataW.Trod en P w base spare held t v d p) : ∃ y, good y ∧ RepA w (Low w) (fun _ _ => none) (.agg ((enc y).map .v)) v := by
  obtain ⟨cs, rfl, hsz⟩ := okWide_struct hs hv
  obtain ⟨fuel, hf⟩ := hT
  obtain ⟨y, hg, hy⟩ := h H en w base spare held fuel _ (d, p) (by simpa [Value.cells] using hsz.trans hC) hf
  exact ⟨y, hg, RepL.agg hy.repL⟩
end
end Go.Proofs.Ytnnnccibhhnbaaa

namespace Go.Proofs.Ytnnnccibhhnbaaa
open Go.RowKit
set_option linter.unusedVariables false

section
variable {w : World} {F : Nat → Prop}
/-- Cells in a row that read as plain values. -/
def RowR (w : World) (F : Nat → Prop) (b o : Nat) (row : List IV) : Prop := ∀ (j : Nat) (a : IV), row[j]? = some a → ∃ v, w.cell? ⟨b, o + j, none⟩ = some v ∧ RepI w F a v

theorem repI_isl {sz : Nat} {rows : List (List IV)} {v : Value} (h : RepI w F (.isl sz rows) v) :
    ∃ A c, v = .slice A rows.length c ∧ rows.length ≤ c ∧ c ≤ maxLen ∧ (0 < rows.length → ∃ b off, A = some ⟨b, off, none⟩ ∧ F b ∧ ∀ (k : Nat) (row : List IV), rows[k]? = some row → row.length = sz ∧ RowR w F b (off + k * sz) row) := by
  cases h with
  | isl0 _ a c hm => exact ⟨a, c, rfl, Nat.zero_le _, hm, fun h => by simp at h⟩
  | isl _ b off _ c val hF hc hm hsz hcell hrep =>
    exact ⟨_, c, rfl, hc, hm, fun _ => ⟨b, off, rfl, hF, fun k row hk => ⟨hsz k row hk, fun j a hj => ⟨_, hcell k row j a hk hj, hrep k row j a hk hj⟩⟩⟩⟩

theorem isl_repI {sz : Nat} {rows : List (List IV)} {A : Option Addr} {c : Nat} (h1 : rows.length ≤ c) (h2 : c ≤ maxLen)
    (h : 0 < rows.length → ∃ b off, A = some ⟨b, off, none⟩ ∧ F b ∧ ∀ (k : Nat) (row : List IV), rows[k]? = some row → row.length = sz ∧ RowR w F b (off + k * sz) row) : RepI w F (.isl sz rows) (.slice A rows.length c) := by
  by_cases h0 : 0 < rows.length
  · obtain ⟨b, off, rfl, hF, hr⟩ := h h0
    have cell : ∀ (k : Nat) (row : List IV) (j : Nat) (a : IV), rows[k]? = some row → row[j]? = some a → w.cell? ⟨b, off + k * sz + j, none⟩ = some ((w.cell? ⟨b, off + k * sz + j, none⟩).getD undef) := by
      intro k row j a hk hj
      obtain ⟨v, hv, _⟩ := (hr k row hk).2 j a hj
      rw [hv]; rfl
    exact .isl rows b off sz c (fun k j => (w.cell? ⟨b, off + k * sz + j, none⟩).getD undef) hF h1 h2 (fun k row hk => (hr k row hk).1) cell (fun k row j a hk hj => by
      obtain ⟨v, hv, hr⟩ := (hr k row hk).2 j a hj
      rw [hv]; exact hr)
  · have : rows = [] := List.eq_nil_of_length_eq_zero (by omega)
    subst this
    exact .isl0 _ _ _ h2

section
variable {α : Type} {sz : Nat} {R : World → Nat → Nat → α → Prop} {enc : α → List IV} {xs : List α} {v : Value}
theorem slr_of_rep (hR : ∀ b o x, x ∈ xs → RowR w F b o (enc x) → R w b o x) (h : RepI w F (.isl sz (xs.map enc)) v) : SlR sz R w v xs := by
  obtain ⟨A, c, h1, h2, h3, h4⟩ := repI_isl h
  rw [List.length_map] at h1 h2 h4
  refine ⟨A, c, h1, h2, h3, fun h0 => ?_⟩
  obtain ⟨b, off, h5, h6, h7⟩ := h4 h0
  refine ⟨b, off, h5, fun j x hx => hR _ _ _ (List.mem_of_getElem? hx) (h7 j (enc x) (by rw [List.getElem?_map, hx]; rfl)).2⟩

end

def eAsg (a : Asg) : List IV := [.int .i64 a.v, .int .i64 a.val]
def eEv (e : Ev) : List IV := [.int .i64 e.kind, .int .i64 e.peer, .int .i64 e.msg, .int .i64 e.time, .isl 2 (e.asg.map eAsg)]
def eVr (v : Vr) : List IV := [.str v.name, .int .i64 v.init]
def ePr (p : Pr) : List IV := [.str p.name, .isl 2 (p.vars.map eVr), .isl 5 (p.evs.map eEv)]
def eT (t : Tr) : IV := .isl 3 (t.map ePr)
def eI (n : Int) : List IV := [.int .i64 n]
/-- Names are no longer than a string may be. -/
def Nm (t : Tr) : Prop := ∀ p ∈ t, p.name.size ≤ maxLen ∧ ∀ v ∈ p.vars, v.name.size ≤ maxLen

theorem rowInt {k : IntKind} {n : Int} {b o j : Nat} {row : List IV} (h : RowR w F b o row) (hj : row[j]? = some (.int k n)) : w.cell? ⟨b, o + j, none⟩ = some (.int k n) := by
  obtain ⟨v, hv, hr⟩ := h j _ hj
  cases hr; exact hv
theorem rowStr {s : ByteArray} {b o j : Nat} {row : List IV} (h : RowR w F b o row) (hj : row[j]? = some (.str s)) : w.cell? ⟨b, o + j, none⟩ = some (.string s) := by
  obtain ⟨v, hv, hr⟩ := h j _ hj
  cases hr; exact hv
theorem asg_in {b o : Nat} {x : Asg} (h : RowR w F b o (eAsg x)) : RAsg w b o x := ⟨rowInt (j := 0) h rfl, rowInt (j := 1) h rfl⟩
theorem vr_in {b o : Nat} {x : Vr} (hx : x.name.size ≤ maxLen) (h : RowR w F b o (eVr x)) : RVr w b o x := ⟨rowStr (j := 0) h rfl, rowInt (j := 1) h rfl, hx⟩
theorem ev_in {b o : Nat} {x : Ev} (h : RowR w F b o (eEv x)) : REv w b o x := by
  obtain ⟨v, h1, h2⟩ := h 4 _ rfl
  exact ⟨rowInt (j := 0) h rfl, rowInt (j := 1) h rfl, rowInt (j := 2) h rfl, rowInt (j := 3) h rfl, v, h1, slr_of_rep (fun _ _ _ _ h => asg_in h) h2⟩
theorem pr_in {b o : Nat} {x : Pr} (hx : x.name.size ≤ maxLen ∧ ∀ v ∈ x.vars, v.name.size ≤ maxLen) (h : RowR w F b o (ePr x)) : RPr w b o x := by
  obtain ⟨v, h1, h2⟩ := h 1 _ rfl
  obtain ⟨u, h3, h4⟩ := h 2 _ rfl
  exact ⟨⟨rowStr (j := 0) h rfl, hx.1⟩, ⟨v, h1, slr_of_rep (fun _ _ y hy h => vr_in (hx.2 y hy) h) h2⟩, u, h3, slr_of_rep (fun _ _ _ _ h => ev_in h) h4⟩
/-- A trace as plain data lies in memory as a trace. -/
theorem tr_in {t : Tr} {v : Value} (hn : Nm t) (h : RepI w F (eT t) v) : SlR 3 RPr w v t := slr_of_rep (fun _ _ x hx h => pr_in (hn x hx) h) h

section
end
end

section
variable {P : Program}
/-- A contract that only makes memory, in the words of runs. -/
theorem ACalls.of_ext {f : Nat} {args : List AV} {b l : List Row} {Q : AV → List Row → List Row → Prop} (hf : ∃ fn, P.funcs[f]? = some fn ∧ (fn.name == "runtime.NumGoroutine") = false ∧ fn.body.isSome = true)
    (h : ∀ F L w (vs : Array Value), RepL w F L args vs.toList → Calls P f vs w fun en w' => Ext w w' ∧ ∃ v x, en = .returned v ∧ RepA w' F L x v ∧ Q x b l) : ACalls P f args b l Q := by
  refine ⟨hf, fun F L w vs s hr => Calls.mono (h F L w vs hr) ?_⟩
  rintro en w' ⟨he, v, x, h1, h2, h3⟩
  have hblk : ∀ k, k < w.heap.size → w'.heap[k]? = w.heap[k]? := he.block
  refine ⟨v, x, b, l, F, L, h1, h2, ⟨fun i v z els hi => ?_, s.born, s.apart, fun k hk => ⟨Nat.lt_of_lt_of_le (s.imm k hk).1 he.size, (s.imm k hk).2⟩⟩,
    ⟨fun _ h => h, fun _ _ _ _ h => h, he.os, he.tape, he.output, he.size, fun k hk _ => hblk k hk, fun _ _ h => h, fun _ _ _ h => h, fun _ _ h => .inl h⟩, rfl, h3⟩
  obtain ⟨q, g1, g2⟩ := s.row i v z els hi
  exact ⟨q, g1, g2.mono (fun k hk => hblk k (g2.lt hk)) (fun _ _ hx => hx.mono (fun _ h => h) (fun k hk => hblk k (s.imm k hk).1) (fun _ _ _ h => h))⟩

/-- A contract in the words of runs, used in a walk: arguments are plain values. -/
theorem ACalls.calls {f : Nat} {args : List AV} {Q : AV → List Row → List Row → Prop} (h : ACalls P f args [] [] Q) {w : World} {vs : Array Value} (hr : RepL w (fun b => b < w.heap.size) (fun _ _ => none) args vs.toList) :
    Calls P f vs w fun en w' => ∃ v x b' l' F' L', en = .returned v ∧ RepA w' F' L' x v ∧ Ext w w' ∧ Q x b' l' := by
  have no : ∀ k, ¬ Owned (fun _ _ => none) [] k := by rintro k ⟨i, v, s, e1, q, h1, h2, h3⟩; cases h2
  refine Calls.mono (h.2 _ _ w vs ⟨fun i v z els hi => by simp at hi, fun i v q hq => (by cases hq), fun i i' v v' z z' e1 e2 bb q1 q2 h1 => by simp at h1, fun b hb => ⟨hb, no b⟩⟩ hr) ?_
  rintro en w' ⟨v, x, b', l', F', L', h1, h2, h3, h4, h5, h6⟩
  exact ⟨v, x, b', l', F', L', h1, h2, ⟨h4.os, h4.tape, h4.output, h4.size, fun k hk => h4.block k hk (no k)⟩, h6⟩
end
end Go.Proofs.Ytnnnccibhhnbaaa

namespace Go.Proofs.Ytnnnccibhhnbaaa
open Go.RowKit
set_option linter.unusedVariables false
theorem tr_i : TR Try.prog 3 1 (fun n : Int => [.int .i64 n]) (fun n => (Lit.int .i64 n).wf = true) := tr_int Try.underlying3
theorem tr_s : TR Try.prog 9 1 (fun s : ByteArray => [.str s]) (fun s => s.size ≤ maxLen) := tr_string Try.underlying9
theorem tr_ints : TR Try.prog 41 1 (fun c : List Int => [.isl 1 (c.map eI)]) (fun c => c.length ≤ maxLen ∧ ∀ n ∈ c, (Lit.int .i64 n).wf = true) := tr_slice tr_i Try.underlying41 (by kernel_rfl) (by decide)
theorem tr_asg : TR Try.prog 180 2 eAsg (fun _ => True) :=
  (tr_struct Try.underlying180 (trf_cons tr_i (by kernel_rfl) rfl (trf_cons tr_i (by kernel_rfl) rfl trf_nil))).map (fun y => ⟨y.1, y.2.1⟩) (fun _ => rfl) (fun _ _ => trivial)
theorem tr_asgs : TR Try.prog 101 1 (fun l : List Asg => [.isl 2 (l.map eAsg)]) (fun l => l.length ≤ maxLen) :=
  (tr_slice tr_asg Try.underlying101 (by kernel_rfl) (by decide)).map id (fun _ => rfl) (fun _ h => h.1)
theorem tr_ev : TR Try.prog 103 5 eEv (fun _ => True) :=
  (tr_struct Try.underlying103 (trf_cons tr_i (by kernel_rfl) rfl (trf_cons tr_i (by kernel_rfl) rfl (trf_cons tr_i (by kernel_rfl) rfl (trf_cons tr_i (by kernel_rfl) rfl (trf_cons tr_asgs (by kernel_rfl) rfl trf_nil)))))).map
    (fun y => ⟨y.1, y.2.1, y.2.2.1, y.2.2.2.1, y.2.2.2.2.1⟩) (fun _ => rfl) (fun _ _ => trivial)
theorem tr_evs : TR Try.prog 97 1 (fun l : List Ev => [.isl 5 (l.map eEv)]) (fun l => l.length ≤ maxLen) :=
  (tr_slice tr_ev Try.underlying97 (by kernel_rfl) (by decide)).map id (fun _ => rfl) (fun _ h => h.1)
theorem tr_var : TR Try.prog 136 2 eVr (fun v => v.name.size ≤ maxLen) :=
  (tr_struct Try.underlying136 (trf_cons tr_s (by kernel_rfl) rfl (trf_cons tr_i (by kernel_rfl) rfl trf_nil))).map (fun y => ⟨y.1, y.2.1⟩) (fun _ => rfl) (fun _ h => h.1)
theorem tr_vars : TR Try.prog 96 1 (fun l : List Vr => [.isl 2 (l.map eVr)]) (fun l => l.length ≤ maxLen ∧ ∀ v ∈ l, v.name.size ≤ maxLen) :=
  tr_slice tr_var Try.underlying96 (by kernel_rfl) (by decide)
def OkPr (p : Pr) : Prop := (p.name.size ≤ maxLen ∧ ∀ v ∈ p.vars, v.name.size ≤ maxLen) ∧ p.vars.length ≤ maxLen ∧ p.evs.length ≤ maxLen
theorem tr_proc : TR Try.prog 99 3 ePr OkPr :=
  (tr_struct Try.underlying99 (trf_cons tr_s (by kernel_rfl) rfl (trf_cons tr_vars (by kernel_rfl) rfl (trf_cons tr_evs (by kernel_rfl) rfl trf_nil)))).map
    (fun y => ⟨y.1, y.2.1, y.2.2.1⟩) (fun _ => rfl) (fun _ h => ⟨⟨h.1, h.2.1.2⟩, h.2.1.1, h.2.2.1⟩)
/-- What is known of a trace that comes in. -/
def OkTr (t : Tr) : Prop := t.length ≤ maxLen ∧ ∀ p ∈ t, OkPr p
theorem tr_trace : TR Try.prog 24 1 (fun t : Tr => [eT t]) OkTr :=
  (tr_struct Try.underlying24 (trf_cons (tr_slice tr_proc Try.underlying22 (by kernel_rfl) (by decide)) (by kernel_rfl) rfl trf_nil)).map (fun y => y.1) (fun _ => rfl) (fun _ h => h.1)
theorem OkTr.nm {t : Tr} (h : OkTr t) : Nm t := fun p hp => (h.2 p hp).1
theorem maxLen_eq : maxLen = 9223372036854775807 := by decide
end Go.Proofs.Ytnnnccibhhnbaaa

namespace Go.Proofs.Ytnnnccibhhnbaaa
set_option linter.unusedVariables false
set_option linter.unusedSimpArgs false
/-- What the search keeps: counts c of what is marked, queue Q. -/
structure Pst (t : Tr) (x : Nat × Nat) (c : Nat → Nat) (Q : List (Nat × Nat)) : Prop where
  q : ∀ y ∈ Q, y ∈ ids t ∧ Le t y x
  le : ∀ p i, i < c p → p < t.length ∧ i < (evsOf t p).length ∧ Le t (p, i + 1) x
  src : x ∈ Q ∨ x.2 ≤ c x.1
  cl : ∀ z ∈ ids t, z.2 ≤ c z.1 → ∀ y ∈ backL t z, y ∈ Q ∨ y.2 ≤ c y.1
theorem Pst.start {t : Tr} {x : Nat × Nat} (hx : x ∈ ids t) : Pst t x (fun _ => 0) [x] := by
  refine ⟨fun y hy => ?_, fun p i h => by simp at h, .inl (by simp), fun z hz h => ?_⟩
  · simp only [List.mem_singleton] at hy; subst hy; exact ⟨hx, .refl _⟩
  · have := (mem_ids.1 hz).2.1
    omega
theorem Pst.cle {t : Tr} {x : Nat × Nat} {c : Nat → Nat} {Q : List (Nat × Nat)} (h : Pst t x c Q) (p : Nat) : c p ≤ (evsOf t p).length := by
  cases hc : c p with
  | zero => omega
  | succ n => have := (h.le p n (by omega)).2.1; omega
theorem Pst.skip {t : Tr} {x y : Nat × Nat} {c : Nat → Nat} {Q : List (Nat × Nat)} (h : Pst t x c (y :: Q)) (hc : y.2 ≤ c y.1) : Pst t x c Q := by
  refine ⟨fun z hz => h.q z (by simp [hz]), h.le, ?_, fun z hz hzc w hw => ?_⟩
  · rcases h.src with h1 | h1
    · rcases List.mem_cons.1 h1 with rfl | h2
      · exact .inr hc
      · exact .inl h2
    · exact .inr h1
  · rcases h.cl z hz hzc w hw with h1 | h1
    · rcases List.mem_cons.1 h1 with rfl | h2
      · exact .inr hc
      · exact .inl h2
    · exact .inr h1
theorem Pst.all {t : Tr} (hv : Vok t) {x : Nat × Nat} {c : Nat → Nat} (h : Pst t x c []) : ∀ n z, rk t z = n → z ∈ ids t → z.2 ≤ c z.1 → ∀ w ∈ ids t, Le t w z → w.2 ≤ c w.1 := by
  intro n
  induction n using Nat.strongRecOn with
  | _ n ih =>
    intro z hn hz hzc w hw hl
    rcases (le_back hv hz hw).1 hl with rfl | ⟨y, hy, hl2⟩
    · exact hzc
    · obtain ⟨h1, h2⟩ := back_mem hv hz hy
      rcases h.cl z hz hzc y hy with h3 | h3
      · simp at h3
      · exact ih (rk t y) (by rw [← hn]; exact rk_lt hv hz h2) y rfl h1 h3 w hw hl2
theorem Pst.done {t : Tr} (hv : Vok t) {x : Nat × Nat} (hx : x ∈ ids t) {c : Nat → Nat} (h : Pst t x c []) {p : Nat} (hp : p < t.length) : c p = vc t x p := by
  refine thresh (n := (evsOf t p).length) (h.cle p) vc_le (fun j hj => ?_)
  rw [← vc_iff hj]
  constructor
  · exact fun hl => (h.le p j hl).2.2
  · intro hl
    have hs : x.2 ≤ c x.1 := h.src.resolve_left (by simp)
    have := h.all hv (rk t x) x rfl hx hs (p, j + 1) (mem_ids2.2 ⟨hp, hj⟩) hl
    exact this
end Go.Proofs.Ytnnnccibhhnbaaa

namespace Go.Proofs.Ytnnnccibhhnbaaa
set_option linter.unusedVariables false
set_option linter.unusedSimpArgs false

theorem getD_at {α : Type} {l : List α} {i : Nat} {d : α} (h : i < l.length) : l.getD i d = l[i] := by simp [List.getD, h]
theorem getD_set_ne {α : Type} {l : List α} {i j : Nat} {x d : α} (h : i ≠ j) : (l.set i x).getD j d = l.getD j d := by
  simp only [List.getD_eq_getElem?_getD, List.getElem?_set_ne h]
end Go.Proofs.Ytnnnccibhhnbaaa

namespace Go.Proofs.Ytnnnccibhhnbaaa
set_option linter.unusedVariables false
set_option linter.unusedSimpArgs false
attribute [local go_sem ↓] run_skip run_region run_draw run_seq run_block run_exit run_ret run_cond atN_app seqC_normal seqC_exit seqC_ret seqQ_normal seqQ_exit seqQ_ret blkQ_normal blkQ_exit blkQ_ret runOps_nil runOps_cons runD_nil runD_cons grdO_true grdO_false grdD_true grdD_false ifC_true ifC_false opS_val opS_call opS_two opK_app dS_val dS_call dS_two dK_app kUp_same kUp_ne
attribute [local go_sem] rechks_nil rechks_cons rechk gcase_true gcase_false ex_val ex_val0 gd_none gd_some ev_t ev_c evs_nil evs_cons evo_some evo_none hget_at hget_first hsetB_at hsetB_first hsetL_at hsetL_first ofOpt_some aop aload astore aslice aappend aiaddr aiaddrA afaddr alen alenS acopy amm acall alookup amupdate alenM comma keyEq apick binV binVB binVS isSh intOp strOp boolOp shOp eqC eqF and2 cellsOf setFrom fillA fillS rd rdI elems mk bounds AV.cell List.all_cons List.all_nil Bool.and_true Bool.true_and Bool.and_self List.length_cons List.length_nil List.length_append Nat.reduceAdd Nat.reduceSub Nat.reduceMul Nat.zero_add Nat.add_zero List.cons_append List.nil_append List.append_assoc List.append_nil List.getElem?_cons_zero List.getElem?_cons_succ List.getElem?_nil List.set_cons_zero List.set_cons_succ List.drop_zero List.drop_succ_cons List.take_zero List.take_succ_cons List.take_nil List.drop_nil List.map_cons List.map_nil Option.map_some if_true if_false Bool.false_eq_true and_self true_and and_true Nat.reduceLeDiff Nat.reduceLT Nat.le_refl Nat.reduceEqDiff ite_true ite_false beq_self_eq_true beq_true beq_false Bool.not_true Bool.not_false Bool.true_beq Bool.false_beq map_vs vs_len vs_get vs_take vs_drop vs_snoc1 vs_snoc2 vs_snoc3 vs_snoc5 vs_set1 vs_set2 vs_rep wrap_id le_T lt_T le_F lt_F leI_T ltI_T leI_F ltI_F geI gtI get_T decide_true decide_false room List.getElem?_map List.length_map List.length_take Int.toNat_natCast Nat.min_def Nat.min_self nth_kOf put_kOf put_kNo kOv_cons kOv_nil KHas KArgs List.getElem_cons_zero List.getElem_cons_succ
/-- A slice of numbers. -/
def iv (v : List Int) : AV := .v (.isl 1 (v.map eI))

end Go.Proofs.Ytnnnccibhhnbaaa

namespace Go.Proofs.Ytnnnccibhhnbaaa
set_option linter.unusedVariables false
set_option linter.unusedSimpArgs false
theorem sndr_in {t : Tr} (hv : Vok t) {x : Nat × Nat} (hx : x ∈ ids t) (hk : (evAt t x).kind = 3) : sndr t x ∈ ids t ∧ Hb t (sndr t x) x := back_mem hv hx (sndr_back hk)
/-- Who sent what an event receives. -/
theorem sndr_peer {t : Tr} (hv : Vok t) {x : Nat × Nat} (hx : x ∈ ids t) (hk : (evAt t x).kind = 3) : (evAt t x).peer = ((sndr t x).1 : Int) ∧ (sndr t x).1 ≠ x.1 ∧ (evAt t (sndr t x)).kind = 2 ∧ (evAt t (sndr t x)).msg = (evAt t x).msg := by
  obtain ⟨m, q, hm, _, hq, hq2, hqp⟩ := formed_open (formF_formed (hv.form x hx)) (by rw [hk]; rfl)
  have hp := hv.pair x hx
  unfold pairF at hp
  rw [hk] at hp
  simp only [show ((3 : Int) == 2) = false from rfl, show ((3 : Int) == 3) = true from rfl, if_true, Bool.false_eq_true, if_false] at hp
  rw [if_pos (by have := (hv.paired.recv hx hk).1; simpa using this)] at hp
  have hs : sendsB t q (evAt t x).msg x.1 = true := by
    cases h : sendsB t q (evAt t x).msg x.1 with
    | true => rfl
    | false => rw [hq, Int.toNat_natCast, h] at hp; simp at hp
  unfold sendsB at hs
  obtain ⟨e, he, hb⟩ := List.any_eq_true.1 hs
  simp only [Bool.and_eq_true, beq_iff_eq] at hb
  rw [evsOf_lt hq2] at he
  obtain ⟨j, hj, rfl⟩ := List.getElem_of_mem he
  have hyi : (q, j + 1) ∈ ids t := mem_ids2.2 ⟨hq2, by rw [evsOf_lt hq2]; exact hj⟩
  have hye := evAt_eq hq2 hj
  have hf := hv.paired.send hyi (by rw [hye]; exact hb.1.1)
  rw [hye, hb.1.2] at hf
  have e1 : sndr t x = (q, j + 1) := (firstOf_find hf).1
  rw [e1, hye]
  exact ⟨hq, hqp, hb.1.1, hb.1.2⟩
end Go.Proofs.Ytnnnccibhhnbaaa
