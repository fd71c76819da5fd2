/- Texts of one proof, laid together: RW, WG, TR, HA, RV, WV, VL, VR, VS, VU, MS, VA, VB, HB, HC, HD, VD, VE, VF, VG, VH, H1, WU, J4, I1, I2, J6. No condition. -/
import Derived.Test.YtcemoeigegkmoaaUM3
import Derived.Test.YtcemoeigegkmoaaUM4
import Derived.Test.YtcemoeigegkmoaaUE6
import Derived.Test.YtcemoeigegkmoaaUE7
import Derived.Test.YtcemoeigegkmoaaUM5
import Derived.Test.YtcemoeigegkmoaaUM1
import Derived.Test.YtcemoeigegkmoaaProg
import Derived.KernelRfl
namespace Go.Proofs.Ytcemoeigegkmoaa
open Go.RowKit Go.ChangeShapes Go.WideShapes Go.Deep
set_option linter.unusedVariables false

def RIs (w : World) (F : Nat → Prop) (row : List IV) (cs : List Value) : Prop := row.length = cs.length ∧ ∀ (j : Nat) (a : IV) (v : Value), row[j]? = some a → cs[j]? = some v → RepI w F a v
theorem RIs.nil {w : World} {F : Nat → Prop} : RIs w F [] [] := ⟨rfl, fun j a v h => by simp at h⟩
theorem RIs.one {w : World} {F : Nat → Prop} {a : IV} {v : Value} (h : RepI w F a v) : RIs w F [a] [v] := by
 refine ⟨rfl, fun j x u hx hu => ?_⟩
 cases j with
 | zero => simp at hx hu; subst hx; subst hu; exact h
 | succ j => simp at hx
theorem RIs.append {w : World} {F : Nat → Prop} {r s : List IV} {cs ds : List Value} (h : RIs w F r cs) (k : RIs w F s ds) : RIs w F (r ++ s) (cs ++ ds) := by
 refine ⟨by simp [h.1, k.1], fun j a v ha hv => ?_⟩
 by_cases hj : j < r.length
 ·rw [List.getElem?_append_left hj] at ha
  rw [List.getElem?_append_left (by rw [← h.1]; exact hj)] at hv
  exact h.2 j a v ha hv
 ·rw [List.getElem?_append_right oM] at ha
  rw [List.getElem?_append_right (by rw [← h.1]; omega), ← h.1] at hv
  exact k.2 _ a v ha hv
theorem RIs.repL {w : World} {F : Nat → Prop} {L : LMap} {r : List IV} {cs : List Value} (h : RIs w F r cs) : RepL w F L (r.map .v) cs := by
 refine ⟨by simpa using h.1, fun j x v hx hv => ?_⟩
 rw [List.getElem?_map] at hx
 cases hq : r[j]? with
 | none => simp [hq] at hx
 | some y => simp [hq] at hx; subst hx; exact .v _ _ (h.2 j y v hq hv)

def Low (w : World) : Nat → Prop := fun b => b < w.heap.size

def TR {α : Type} (P : Program) (t : TypeId) (n : Nat) (enc : α → List IV) (good : α → Prop) : Prop :=
 ∀ (H : Type) (en : TypeId × Value → H) (w : World) (base : Nat) (spare : Nat → Bool) (held : Bool) (fuel : Nat) (cs : List Value) (x : DataW H × List MemPlace), cs.length = n → DataW.trod en P w base spare held fuel t cs = some x →
  ∃ y, good y ∧ RIs w (Low w) (enc y) cs

section
variable {P : Program} {α β : Type}
theorem TR.map {t : TypeId} {n : Nat} {enc : α → List IV} {good : α → Prop} (h : TR P t n enc good) {enc' : β → List IV} {good' : β → Prop} (f : α → β) (he : ∀ y, enc' (f y) = enc y) (hg : ∀ y, good y → good' (f y)) : TR P t n enc' good' := by
 intro H en w base spare held fuel cs x hl hx
 obtain ⟨y, g, r⟩ := h H en w base spare held fuel cs x hl hx
 exact ⟨f y, hg y g, by rw [he]; exact r⟩
theorem tr_int {t : TypeId} {k : IntKind} (ht : P.underlying t = some (.int k)) : TR P t 1 (fun n : Int => [.int k n]) (fun n => (Lit.int k n).wf = true) := by
 intro H en w base spare held fuel cs x hl hx
 obtain ⟨n, rfl, _, hw⟩ := DataW.trod_int ht hx
 exact ⟨n, hw, RIs.one (.int _ _)⟩
theorem tr_string {t : TypeId} (ht : P.underlying t = some .string) : TR P t 1 (fun s : ByteArray => [.str s]) (fun s => s.size ≤ maxLen) := by
 intro H en w base spare held fuel cs x hl hx
 obtain ⟨n, rfl, _, hm⟩ := DataW.trod_string ht hx
 exact ⟨n, hm, RIs.one (.str _)⟩
theorem tr_slice {t e : TypeId} {n : Nat} {enc : α → List IV} {good : α → Prop} (h : TR P e n enc good) (ht : P.underlying t = some (.slice e)) (hC : P.cellsOf e = n) (h0 : 0 < n) :
  TR P t 1 (fun ys : List α => [.isl n (ys.map enc)]) (fun ys => ys.length ≤ maxLen ∧ ∀ y ∈ ys, good y) := by
 intro H en w base spare held fuel cs x hl hx
 rcases open_slice ht hx with ⟨hv, _⟩ | ⟨a, len, cap, m, f, D, Pl, hv, hb, hll, hm, hmm, _, hel⟩
 ·subst hv
  exact ⟨[], ⟨by simp [maxLen], fun y hy => by simp at hy⟩, RIs.one (.isl0 _ _ _ (by simp [maxLen]))⟩
 ·subst hv
  have hle : len ≤ m := by rw [hmm]; split <;> omega
  have key : ∀ i, i < len → ∃ y, (good y ∧ ∃ b off, a = ⟨b, off, none⟩ ∧ (enc y).length = n ∧ ∀ (j : Nat) (c : IV), (enc y)[j]? = some c → ∃ v, w.cell? ⟨b, off + i * n + j, none⟩ = some v ∧ RepI w (Low w) c v) := by
   intro i hi
   obtain ⟨cs', hc, ht'⟩ := hel i oM
   rw [hC] at hc
   obtain ⟨_, hcl, hat⟩ := World.cells?_some hc
   obtain ⟨cs0, hc0, _⟩ := hel 0 oM
   rw [hC] at hc0
   obtain ⟨_, hcl0, hat0⟩ := World.cells?_some hc0
   have h00 := hat0 0 h0
   have e00 : (a.add (0 * n)).add 0 = a := by simp [Addr.add]
   rw [e00, List.getElem?_eq_getElem (show 0 < cs0.length by omega)] at h00
   have hsp := spot_none h00
   obtain ⟨b, off, sp⟩ := a
   simp only at hsp
   subst hsp
   obtain ⟨y, hg, hy⟩ := h H en w base spare held f cs' (D i, Pl i) hcl ht'
   refine ⟨y, hg, b, off, rfl, by rw [hy.1, hcl], fun j c hj => ?_⟩
   have hjl : j < cs'.length := by rw [← hy.1]; exact (List.getElem?_eq_some_iff.1 hj).1
   have := hat j oM
   have e1 : ((⟨b, off, none⟩ : Addr).add (i * n)).add j = ⟨b, off + i * n + j, none⟩ := by
    unfold Addr.add
    by_cases h1 : i * n = 0 <;> by_cases h2 : j = 0 <;> simp [h1, h2]
   rw [e1, List.getElem?_eq_getElem hjl] at this
   exact ⟨_, this, hy.2 j c _ hj (List.getElem?_eq_getElem hjl)⟩
  obtain ⟨xs, hxl, hxs⟩ := list_of len key
  subst hxl
  refine ⟨xs, ⟨by omega, fun y hy => ?_⟩, RIs.one ?_⟩
  ·obtain ⟨i, hi⟩ := List.mem_iff_getElem?.1 hy
   exact (hxs i y hi).1
  ·by_cases hpos : 0 < xs.length
   ·obtain ⟨_, b, off, ha, _⟩ := hxs 0 xs[0] (List.getElem?_eq_getElem hpos)
    subst ha
    have hfacts : ∀ (k : Nat) (row : List IV), (xs.map enc)[k]? = some row → row.length = n ∧ ∀ (j : Nat) (c : IV), row[j]? = some c → ∃ v, w.cell? ⟨b, off + k * n + j, none⟩ = some v ∧ RepI w (Low w) c v := by
     intro k row hk
     rw [List.getElem?_map] at hk
     cases hq : xs[k]? with
     | none => rw [hq] at hk; cases hk
     | some y =>
       rw [hq] at hk; cases hk
       obtain ⟨_, b', off', hh, h1, h2⟩ := hxs k y hq
       injection hh with g1 g2
       subst g1; subst g2
       exact ⟨h1, h2⟩
    have hlow : Low w b := by
     obtain ⟨r1, r2⟩ := hfacts 0 (enc xs[0]) (by rw [List.getElem?_map, List.getElem?_eq_getElem hpos]; rfl)
     obtain ⟨v, hv, _⟩ := r2 0 (enc xs[0])[0] (List.getElem?_eq_getElem oM)
     exact lt_of_cell hv
    have := RepI.isl (w := w) (F := Low w) (xs.map enc) b off n cap (fun k j => (w.cell? ⟨b, off + k * n + j, none⟩).getD undef) hlow (by simpa using hll) hm (fun k row hk => (hfacts k row hk).1)
     (fun k row j c hk hj => by
      obtain ⟨v, hv, _⟩ := (hfacts k row hk).2 j c hj
      rw [hv]; rfl)
     (fun k row j c hk hj => by
      obtain ⟨v, hv, hr⟩ := (hfacts k row hk).2 j c hj
      rw [hv]; exact hr)
    rw [List.length_map] at this
    exact this
   ·have : xs = [] := List.eq_nil_of_length_eq_zero oM
    subst this
    exact .isl0 _ _ _ hm

def TRF (P : Program) (fs : List Field) (o n : Nat) (enc : α → List IV) (good : α → Prop) : Prop :=
 ∀ (H : Type) (en : TypeId × Value → H) (w : World) (base : Nat) (spare : Nat → Bool) (held : Bool) (fuel : Nat) (cs : List Value), cs.length = o + n → (∀ f ∈ fs, ∃ x, DataW.trod en P w base spare held fuel f.type ((cs.drop f.offset).take (P.cellsOf f.type)) = some x) →
  ∃ y, good y ∧ RIs w (Low w) (enc y) (cs.drop o)
theorem trf_nil {o : Nat} : TRF P [] o 0 (fun _ : Unit => []) (fun _ => True) := by
 intro H en w base spare held fuel cs hl _
 refine ⟨(), trivial, ?_⟩
 rw [List.drop_eq_nil_of_le oM]
 exact RIs.nil
theorem trf_cons {f : Field} {fs : List Field} {o n m : Nat} {enc : α → List IV} {good : α → Prop} {enc' : β → List IV} {good' : β → Prop} (h : TR P f.type n enc good) (hC : P.cellsOf f.type = n) (ho : f.offset = o) (k : TRF P fs (o + n) m enc' good') :
  TRF P (f :: fs) o (n + m) (fun y : α × β => enc y.1 ++ enc' y.2) (fun y => good y.1 ∧ good' y.2) := by
 intro H en w base spare held fuel cs hl hfs
 obtain ⟨x, hx⟩ := hfs f (by simp)
 rw [ho, hC] at hx
 obtain ⟨y, hg, hy⟩ := h H en w base spare held fuel _ x (by simp; omega) hx
 obtain ⟨z, hg', hz⟩ := k H en w base spare held fuel cs oM (fun f hf => hfs f (by simp [hf]))
 refine ⟨(y, z), ⟨hg, hg'⟩, ?_⟩
 have : cs.drop o = (cs.drop o).take n ++ cs.drop (o + n) := by rw [← List.drop_drop, List.take_append_drop]
 rw [this]
 exact hy.append hz
theorem tr_struct {t : TypeId} {fs : Array Field} {n : Nat} {enc : α → List IV} {good : α → Prop} (ht : P.underlying t = some (.struct fs)) (h : TRF P fs.toList 0 n enc good) : TR P t n enc good := by
 intro H en w base spare held fuel cs x hl hx
 obtain ⟨xs, m, _, _, _, hlen, hf⟩ := DataW.trod_struct ht hx
 obtain ⟨y, hg, hy⟩ := h H en w base spare held m cs oM (fun f hm => by
  obtain ⟨i, hi⟩ := List.mem_iff_getElem?.1 hm
  have hi' : fs[i]? = some f := by simpa using hi
  have hlt : i < xs.length := by rw [hlen]; exact (Array.getElem?_eq_some_iff.1 hi').1
  exact ⟨_, (hf i f hi').trans (List.getElem?_eq_getElem hlt)⟩)
 exact ⟨y, hg, by simpa using hy⟩
theorem TR.one {t : TypeId} {enc : α → IV} {good : α → Prop} (h : TR P t 1 (fun y => [enc y]) good) {H : Type} {en : TypeId × Value → H} {w : World} {v : Value} {d : DataW H} {p : List MemPlace} {base : Nat} {spare : Nat → Bool} {held : Bool}
  (hv : v.cells = #[v]) (hT : DataW.Trod en P w base spare held t v d p) : ∃ y, good y ∧ RepI w (Low w) (enc y) v := by
 obtain ⟨fuel, hf⟩ := hT
 rw [hv] at hf
 obtain ⟨y, hg, hy⟩ := h H en w base spare held fuel [v] (d, p) rfl hf
 exact ⟨y, hg, hy.2 0 _ _ rfl rfl⟩
theorem TR.agg {t : TypeId} {n : Nat} {enc : α → List IV} {good : α → Prop} (h : TR P t n enc good) {fs : Array Field} (hs : P.underlying t = some (.struct fs)) (hC : P.cellsOf t = n) {H : Type} {en : TypeId × Value → H} {w : World} {v : Value} {d : DataW H} {p : List MemPlace} {base b0 : Nat} {r : Reach} {spare : Nat → Bool} {held : Bool}
  (hv : Value.okWide P w r b0 t v) (hT : DataW.Trod en P w base spare held t v d p) : ∃ y, good y ∧ RepA w (Low w) (fun _ _ => none) (.agg ((enc y).map .v)) v := by
 obtain ⟨cs, rfl, hsz⟩ := okWide_struct hs hv
 obtain ⟨fuel, hf⟩ := hT
 obtain ⟨y, hg, hy⟩ := h H en w base spare held fuel _ (d, p) (by simpa [Value.cells] using hsz.trans hC) hf
 exact ⟨y, hg, RepL.agg hy.repL⟩
end
end Go.Proofs.Ytcemoeigegkmoaa
namespace Go.Proofs.Ytcemoeigegkmoaa
open Go.RowKit
set_option linter.unusedVariables false

section
variable {w : World} {F : Nat → Prop}
def RowR (w : World) (F : Nat → Prop) (b o : Nat) (row : List IV) : Prop := ∀ (j : Nat) (a : IV), row[j]? = some a → ∃ v, w.cell? ⟨b, o + j, none⟩ = some v ∧ RepI w F a v

theorem repI_isl {sz : Nat} {rows : List (List IV)} {v : Value} (h : RepI w F (.isl sz rows) v) :
  ∃ A c, v = .slice A rows.length c ∧ rows.length ≤ c ∧ c ≤ maxLen ∧ (0 < rows.length → ∃ b off, A = some ⟨b, off, none⟩ ∧ F b ∧ ∀ (k : Nat) (row : List IV), rows[k]? = some row → row.length = sz ∧ RowR w F b (off + k * sz) row) := by
 cases h with
 | isl0 _ a c hm => exact ⟨a, c, rfl, Nat.zero_le _, hm, fun h => by simp at h⟩
 | isl _ b off _ c val hF hc hm hsz hcell hrep =>
   exact ⟨_, c, rfl, hc, hm, fun _ => ⟨b, off, rfl, hF, fun k row hk => ⟨hsz k row hk, fun j a hj => ⟨_, hcell k row j a hk hj, hrep k row j a hk hj⟩⟩⟩⟩

theorem isl_repI {sz : Nat} {rows : List (List IV)} {A : Option Addr} {c : Nat} (h1 : rows.length ≤ c) (h2 : c ≤ maxLen)
  (h : 0 < rows.length → ∃ b off, A = some ⟨b, off, none⟩ ∧ F b ∧ ∀ (k : Nat) (row : List IV), rows[k]? = some row → row.length = sz ∧ RowR w F b (off + k * sz) row) : RepI w F (.isl sz rows) (.slice A rows.length c) := by
 by_cases h0 : 0 < rows.length
 ·obtain ⟨b, off, rfl, hF, hr⟩ := h h0
  have cell : ∀ (k : Nat) (row : List IV) (j : Nat) (a : IV), rows[k]? = some row → row[j]? = some a → w.cell? ⟨b, off + k * sz + j, none⟩ = some ((w.cell? ⟨b, off + k * sz + j, none⟩).getD undef) := by
   intro k row j a hk hj
   obtain ⟨v, hv, _⟩ := (hr k row hk).2 j a hj
   rw [hv]; rfl
  exact .isl rows b off sz c (fun k j => (w.cell? ⟨b, off + k * sz + j, none⟩).getD undef) hF h1 h2 (fun k row hk => (hr k row hk).1) cell (fun k row j a hk hj => by
   obtain ⟨v, hv, hr⟩ := (hr k row hk).2 j a hj
   rw [hv]; exact hr)
 ·have : rows = [] := List.eq_nil_of_length_eq_zero oM
  subst this
  exact .isl0 _ _ _ h2

section
variable {α : Type} {sz : Nat} {R : World → Nat → Nat → α → Prop} {enc : α → List IV} {xs : List α} {v : Value}
theorem slr_of_rep (hR : ∀ b o x, x ∈ xs → RowR w F b o (enc x) → R w b o x) (h : RepI w F (.isl sz (xs.map enc)) v) : SlR sz R w v xs := by
 obtain ⟨A, c, h1, h2, h3, h4⟩ := repI_isl h
 rw [List.length_map] at h1 h2 h4
 refine ⟨A, c, h1, h2, h3, fun h0 => ?_⟩
 obtain ⟨b, off, h5, h6, h7⟩ := h4 h0
 refine ⟨b, off, h5, fun j x hx => hR _ _ _ (List.mem_of_getElem? hx) (h7 j (enc x) (by rw [List.getElem?_map, hx]; rfl)).2⟩

end

def eAsg (a : Asg) : List IV := [.int .i64 a.v, .int .i64 a.val]
def eEv (e : Ev) : List IV := [.int .i64 e.kind, .int .i64 e.peer, .int .i64 e.msg, .int .i64 e.time, .isl 2 (e.asg.map eAsg)]
def eVr (v : Vr) : List IV := [.str v.name, .int .i64 v.init]
def ePr (p : Pr) : List IV := [.str p.name, .isl 2 (p.vars.map eVr), .isl 5 (p.evs.map eEv)]
def eT (t : Tr) : IV := .isl 3 (t.map ePr)
def eI (n : Int) : List IV := [.int .i64 n]
def Nm (t : Tr) : Prop := ∀ p ∈ t, p.name.size ≤ maxLen ∧ ∀ v ∈ p.vars, v.name.size ≤ maxLen

theorem rowInt {k : IntKind} {n : Int} {b o j : Nat} {row : List IV} (h : RowR w F b o row) (hj : row[j]? = some (.int k n)) : w.cell? ⟨b, o + j, none⟩ = some (.int k n) := by
 obtain ⟨v, hv, hr⟩ := h j _ hj
 cases hr; exact hv
theorem rowStr {s : ByteArray} {b o j : Nat} {row : List IV} (h : RowR w F b o row) (hj : row[j]? = some (.str s)) : w.cell? ⟨b, o + j, none⟩ = some (.string s) := by
 obtain ⟨v, hv, hr⟩ := h j _ hj
 cases hr; exact hv
theorem asg_in {b o : Nat} {x : Asg} (h : RowR w F b o (eAsg x)) : RAsg w b o x := ⟨rowInt (j := 0) h rfl, rowInt (j := 1) h rfl⟩
theorem vr_in {b o : Nat} {x : Vr} (hx : x.name.size ≤ maxLen) (h : RowR w F b o (eVr x)) : RVr w b o x := ⟨rowStr (j := 0) h rfl, rowInt (j := 1) h rfl, hx⟩
theorem ev_in {b o : Nat} {x : Ev} (h : RowR w F b o (eEv x)) : REv w b o x := by
 obtain ⟨v, h1, h2⟩ := h 4 _ rfl
 exact ⟨rowInt (j := 0) h rfl, rowInt (j := 1) h rfl, rowInt (j := 2) h rfl, rowInt (j := 3) h rfl, v, h1, slr_of_rep (fun _ _ _ _ h => asg_in h) h2⟩
theorem pr_in {b o : Nat} {x : Pr} (hx : x.name.size ≤ maxLen ∧ ∀ v ∈ x.vars, v.name.size ≤ maxLen) (h : RowR w F b o (ePr x)) : RPr w b o x := by
 obtain ⟨v, h1, h2⟩ := h 1 _ rfl
 obtain ⟨u, h3, h4⟩ := h 2 _ rfl
 exact ⟨⟨rowStr (j := 0) h rfl, hx.1⟩, ⟨v, h1, slr_of_rep (fun _ _ y hy h => vr_in (hx.2 y hy) h) h2⟩, u, h3, slr_of_rep (fun _ _ _ _ h => ev_in h) h4⟩
theorem tr_in {t : Tr} {v : Value} (hn : Nm t) (h : RepI w F (eT t) v) : SlR 3 RPr w v t := slr_of_rep (fun _ _ x hx h => pr_in (hn x hx) h) h

section
end
end

section
variable {P : Program}
theorem ACalls.of_ext {f : Nat} {args : List AV} {b l : List Row} {Q : AV → List Row → List Row → Prop} (hf : ∃ fn, P.funcs[f]? = some fn ∧ (fn.name == "runtime.NumGoroutine") = false ∧ fn.body.isSome = true)
  (h : ∀ F L w (vs : Array Value), RepL w F L args vs.toList → Calls P f vs w fun en w' => Ext w w' ∧ ∃ v x, en = .returned v ∧ RepA w' F L x v ∧ Q x b l) : ACalls P f args b l Q := by
 refine ⟨hf, fun F L w vs s hr => Calls.mono (h F L w vs hr) ?_⟩
 rintro en w' ⟨he, v, x, h1, h2, h3⟩
 have hblk : ∀ k, k < w.heap.size → w'.heap[k]? = w.heap[k]? := he.block
 refine ⟨v, x, b, l, F, L, h1, h2, ⟨fun i v z els hi => ?_, s.born, s.apart, fun k hk => ⟨Nat.lt_of_lt_of_le (s.imm k hk).1 he.size, (s.imm k hk).2⟩⟩,
  ⟨fun _ h => h, fun _ _ _ _ h => h, he.os, he.tape, he.output, he.size, fun k hk _ => hblk k hk, fun _ _ h => h, fun _ _ _ h => h, fun _ _ h => .inl h⟩, rfl, h3⟩
 obtain ⟨q, g1, g2⟩ := s.row i v z els hi
 exact ⟨q, g1, g2.mono (fun k hk => hblk k (g2.lt hk)) (fun _ _ hx => hx.mono (fun _ h => h) (fun k hk => hblk k (s.imm k hk).1) (fun _ _ _ h => h))⟩

theorem ACalls.calls {f : Nat} {args : List AV} {Q : AV → List Row → List Row → Prop} (h : ACalls P f args [] [] Q) {w : World} {vs : Array Value} (hr : RepL w (fun b => b < w.heap.size) (fun _ _ => none) args vs.toList) :
  Calls P f vs w fun en w' => ∃ v x b' l' F' L', en = .returned v ∧ RepA w' F' L' x v ∧ Ext w w' ∧ Q x b' l' := by
 have no : ∀ k, ¬ Owned (fun _ _ => none) [] k := by rintro k ⟨i, v, s, e1, q, h1, h2, h3⟩; cases h2
 refine Calls.mono (h.2 _ _ w vs ⟨fun i v z els hi => by simp at hi, fun i v q hq => (by cases hq), fun i i' v v' z z' e1 e2 bb q1 q2 h1 => by simp at h1, fun b hb => ⟨hb, no b⟩⟩ hr) ?_
 rintro en w' ⟨v, x, b', l', F', L', h1, h2, h3, h4, h5, h6⟩
 exact ⟨v, x, b', l', F', L', h1, h2, ⟨h4.os, h4.tape, h4.output, h4.size, fun k hk => h4.block k hk (no k)⟩, h6⟩
end
end Go.Proofs.Ytcemoeigegkmoaa
namespace Go.Proofs.Ytcemoeigegkmoaa
open Go.RowKit
set_option linter.unusedVariables false
theorem tr_i : TR Try.prog 3 1 (fun n : Int => [.int .i64 n]) (fun n => (Lit.int .i64 n).wf = true) := tr_int Try.underlying3
theorem tr_s : TR Try.prog 9 1 (fun s : ByteArray => [.str s]) (fun s => s.size ≤ maxLen) := tr_string Try.underlying9
theorem tr_asg : TR Try.prog 164 2 eAsg (fun _ => True) :=
 (tr_struct Try.underlying164 (trf_cons tr_i (by kernel_rfl) rfl (trf_cons tr_i (by kernel_rfl) rfl trf_nil))).map (fun y => ⟨y.1, y.2.1⟩) (fun _ => rfl) (fun _ _ => trivial)
theorem tr_asgs : TR Try.prog 107 1 (fun l : List Asg => [.isl 2 (l.map eAsg)]) (fun l => l.length ≤ maxLen) :=
 (tr_slice tr_asg Try.underlying107 (by kernel_rfl) (by decide)).map id (fun _ => rfl) (fun _ h => h.1)
theorem tr_ev : TR Try.prog 109 5 eEv (fun _ => True) :=
 (tr_struct Try.underlying109 (trf_cons tr_i (by kernel_rfl) rfl (trf_cons tr_i (by kernel_rfl) rfl (trf_cons tr_i (by kernel_rfl) rfl (trf_cons tr_i (by kernel_rfl) rfl (trf_cons tr_asgs (by kernel_rfl) rfl trf_nil)))))).map
  (fun y => ⟨y.1, y.2.1, y.2.2.1, y.2.2.2.1, y.2.2.2.2.1⟩) (fun _ => rfl) (fun _ _ => trivial)
theorem tr_evs : TR Try.prog 102 1 (fun l : List Ev => [.isl 5 (l.map eEv)]) (fun l => l.length ≤ maxLen) :=
 (tr_slice tr_ev Try.underlying102 (by kernel_rfl) (by decide)).map id (fun _ => rfl) (fun _ h => h.1)
theorem tr_var : TR Try.prog 129 2 eVr (fun v => v.name.size ≤ maxLen) :=
 (tr_struct Try.underlying129 (trf_cons tr_s (by kernel_rfl) rfl (trf_cons tr_i (by kernel_rfl) rfl trf_nil))).map (fun y => ⟨y.1, y.2.1⟩) (fun _ => rfl) (fun _ h => h.1)
theorem tr_vars : TR Try.prog 101 1 (fun l : List Vr => [.isl 2 (l.map eVr)]) (fun l => l.length ≤ maxLen ∧ ∀ v ∈ l, v.name.size ≤ maxLen) :=
 tr_slice tr_var Try.underlying101 (by kernel_rfl) (by decide)
def OkPr (p : Pr) : Prop := (p.name.size ≤ maxLen ∧ ∀ v ∈ p.vars, v.name.size ≤ maxLen) ∧ p.vars.length ≤ maxLen ∧ p.evs.length ≤ maxLen
theorem tr_proc : TR Try.prog 104 3 ePr OkPr :=
 (tr_struct Try.underlying104 (trf_cons tr_s (by kernel_rfl) rfl (trf_cons tr_vars (by kernel_rfl) rfl (trf_cons tr_evs (by kernel_rfl) rfl trf_nil)))).map
  (fun y => ⟨y.1, y.2.1, y.2.2.1⟩) (fun _ => rfl) (fun _ h => ⟨⟨h.1, h.2.1.2⟩, h.2.1.1, h.2.2.1⟩)
def OkTr (t : Tr) : Prop := t.length ≤ maxLen ∧ ∀ p ∈ t, OkPr p
theorem tr_trace : TR Try.prog 24 1 (fun t : Tr => [eT t]) OkTr :=
 (tr_struct Try.underlying24 (trf_cons (tr_slice tr_proc Try.underlying22 (by kernel_rfl) (by decide)) (by kernel_rfl) rfl trf_nil)).map (fun y => y.1) (fun _ => rfl) (fun _ h => h.1)
theorem OkTr.nm {t : Tr} (h : OkTr t) : Nm t := fun p hp => (h.2 p hp).1
theorem maxLen_eq : maxLen = 9223372036854775807 := by decide
end Go.Proofs.Ytcemoeigegkmoaa
namespace Go.Proofs.Ytcemoeigegkmoaa
set_option linter.unusedVariables false
set_option linter.unusedSimpArgs false
def lftN (len c : Nat → Nat) : Nat → Nat
 | 0 => 0
 | n + 1 => lftN len c n + (len n - c n)
theorem lftN_up {len c : Nat → Nat} {p v : Nat} : ∀ {n : Nat}, n ≤ p → lftN len (fUp c p v) n = lftN len c n
 | 0, _ => rfl
 | n + 1, h => by
   unfold lftN
   rw [lftN_up oM, fUp_ne oM]
theorem lftN_step {len c : Nat → Nat} {p v : Nat} (h1 : c p ≤ v) (h2 : v ≤ len p) : ∀ {n : Nat}, p < n → lftN len (fUp c p v) n + (v - c p) = lftN len c n
 | 0, h => by omega
 | n + 1, h => by
   unfold lftN
   by_cases hp : p < n
   ·have := lftN_step (n := n) h1 h2 hp
    rw [fUp_ne oM]; omega
   ·obtain rfl : p = n := by omega
    rw [lftN_up (Nat.le_refl _), fUp_same]; omega
def lft (t : Tr) (c : Nat → Nat) : Nat := lftN (fun p => (evsOf t p).length) c t.length
theorem lft_step {t : Tr} {c : Nat → Nat} {p v : Nat} (hp : p < t.length) (h1 : c p ≤ v) (h2 : v ≤ (evsOf t p).length) : lft t (fUp c p v) + (v - c p) = lft t c := lftN_step (len := fun p => (evsOf t p).length) h1 h2 hp
noncomputable def bkL (t : Tr) (p n i : Nat) : List (Nat × Nat) := (List.range (n - i)).flatMap fun k => backL t (p, n - k)
theorem bkL_nil {t : Tr} {p n : Nat} : bkL t p n n = [] := by unfold bkL; simp
theorem bkL_step {t : Tr} {p n i : Nat} (h : i < n) : bkL t p n i = bkL t p n (i + 1) ++ backL t (p, i + 1) := by
 unfold bkL
 rw [show n - i = (n - (i + 1)) + 1 by omega, List.range_succ, List.flatMap_append]
 simp only [List.flatMap_cons, List.flatMap_nil, List.append_nil]
 rw [show n - (n - (i + 1)) = i + 1 by omega]
theorem bkL_len {t : Tr} {p n i : Nat} (h : i ≤ n) : (bkL t p n i).length ≤ 2 * (n - i) := by
 obtain ⟨d, rfl⟩ : ∃ d, n = i + d := ⟨n - i, by omega⟩
 induction d generalizing i with
 | zero => rw [Nat.add_zero, bkL_nil]; simp
 | succ d ih =>
   rw [bkL_step oM, List.length_append, show i + (d + 1) = (i + 1) + d by omega]
   have h1 := ih (i := i + 1) oM
   have h2 := backL_len t (p, i + 1)
   omega
theorem mem_bkL {t : Tr} {p n i : Nat} {y : Nat × Nat} (h : y ∈ bkL t p n i) : ∃ j, i < j ∧ j ≤ n ∧ y ∈ backL t (p, j) := by
 unfold bkL at h
 obtain ⟨k, hk, hy⟩ := List.mem_flatMap.1 h
 have := List.mem_range.1 hk
 exact ⟨n - k, by omega, by omega, hy⟩
theorem bkL_mem {t : Tr} {p n i j : Nat} {y : Nat × Nat} (h1 : i < j) (h2 : j ≤ n) (hy : y ∈ backL t (p, j)) : y ∈ bkL t p n i := by
 unfold bkL
 exact List.mem_flatMap.2 ⟨n - j, List.mem_range.2 oM, by rwa [show n - (n - j) = j by omega]⟩
structure Pst (t : Tr) (x : Nat × Nat) (c : Nat → Nat) (Q : List (Nat × Nat)) : Prop where
 q : ∀ y ∈ Q, y ∈ ids t ∧ Le t y x
 le : ∀ p i, i < c p → p < t.length ∧ i < (evsOf t p).length ∧ Le t (p, i + 1) x
 src : x ∈ Q ∨ x.2 ≤ c x.1
 cl : ∀ z ∈ ids t, z.2 ≤ c z.1 → ∀ y ∈ backL t z, y ∈ Q ∨ y.2 ≤ c y.1
theorem Pst.start {t : Tr} {x : Nat × Nat} (hx : x ∈ ids t) : Pst t x (fun _ => 0) [x] := by
 refine ⟨fun y hy => ?_, fun p i h => by simp at h, .inl (by simp), fun z hz h => ?_⟩
 ·simp only [List.mem_singleton] at hy; subst hy; exact ⟨hx, .refl _⟩
 ·have := (mem_ids.1 hz).2.1
  omega
theorem Pst.cle {t : Tr} {x : Nat × Nat} {c : Nat → Nat} {Q : List (Nat × Nat)} (h : Pst t x c Q) (p : Nat) : c p ≤ (evsOf t p).length := by
 cases hc : c p with
 | zero => omega
 | succ n => have := (h.le p n oM).2.1; omega
theorem Pst.skip {t : Tr} {x y : Nat × Nat} {c : Nat → Nat} {Q : List (Nat × Nat)} (h : Pst t x c (y :: Q)) (hc : y.2 ≤ c y.1) : Pst t x c Q := by
 refine ⟨fun z hz => h.q z (by simp [hz]), h.le, ?_, fun z hz hzc w hw => ?_⟩
 ·rcases h.src with h1 | h1
  ·rcases List.mem_cons.1 h1 with rfl | h2
   ·exact .inr hc
   ·exact .inl h2
  ·exact .inr h1
 ·rcases h.cl z hz hzc w hw with h1 | h1
  ·rcases List.mem_cons.1 h1 with rfl | h2
   ·exact .inr hc
   ·exact .inl h2
  ·exact .inr h1
theorem Pst.mark {t : Tr} (hv : Vok t) {x : Nat × Nat} {p n : Nat} {c : Nat → Nat} {Q : List (Nat × Nat)} (h : Pst t x c ((p, n) :: Q)) (hc : c p < n) : Pst t x (fUp c p n) (Q ++ bkL t p n (c p)) := by
 obtain ⟨hy, hl⟩ := h.q (p, n) (by simp)
 obtain ⟨n, rfl⟩ : ∃ k, n = k + 1 := ⟨n - 1, by have := (mem_ids.1 hy).2.1; simp only at this; omega⟩
 obtain ⟨hp, hn⟩ := mem_ids2.1 hy
 have up : ∀ q, c q ≤ fUp c p (n + 1) q := fun q => by
  by_cases hq : q = p
  ·subst hq; rw [fUp_same]; omega
  ·rw [fUp_ne hq]; exact Nat.le_refl _
 refine ⟨fun z hz => ?_, fun q i hi => ?_, ?_, fun z hz hzc w hw => ?_⟩
 ·rcases List.mem_append.1 hz with hz | hz
  ·exact h.q z (by simp [hz])
  ·obtain ⟨j, h1, h2, h3⟩ := mem_bkL hz
   obtain ⟨j, rfl⟩ : ∃ k, j = k + 1 := ⟨j - 1, by omega⟩
   obtain ⟨h4, h5⟩ := back_mem hv (mem_ids2.2 ⟨hp, by omega⟩) h3
   exact ⟨h4, Le.trans (.inr h5) ((le_row h2 oM).trans hl)⟩
 ·by_cases hq : q = p
  ·subst hq
   rw [fUp_same] at hi
   exact ⟨hp, by omega, (le_row oM oM).trans hl⟩
  ·rw [fUp_ne hq] at hi
   exact h.le q i hi
 ·rcases h.src with h1 | h1
  ·rcases List.mem_cons.1 h1 with rfl | h2
   ·exact .inr (by simp only; rw [fUp_same]; omega)
   ·exact .inl (List.mem_append.2 (.inl h2))
  ·exact .inr (Nat.le_trans h1 (up _))
 ·have old : z.2 ≤ c z.1 → w ∈ Q ++ bkL t p (n + 1) (c p) ∨ w.2 ≤ fUp c p (n + 1) w.1 := fun h0 => by
   rcases h.cl z hz h0 w hw with h1 | h1
   ·rcases List.mem_cons.1 h1 with rfl | h2
    ·exact .inr (by simp only; rw [fUp_same]; omega)
    ·exact .inl (List.mem_append.2 (.inl h2))
   ·exact .inr (Nat.le_trans h1 (up _))
  obtain ⟨zp, zi⟩ := z
  by_cases hq : zp = p
  ·subst hq
   simp only at hzc
   rw [fUp_same] at hzc
   by_cases h0 : zi ≤ c zp
   ·exact old h0
   ·exact .inl (List.mem_append.2 (.inr (bkL_mem oM hzc hw)))
  ·simp only at hzc
   rw [fUp_ne hq] at hzc
   exact old hzc
theorem Pst.all {t : Tr} (hv : Vok t) {x : Nat × Nat} {c : Nat → Nat} (h : Pst t x c []) : ∀ n z, rk t z = n → z ∈ ids t → z.2 ≤ c z.1 → ∀ w ∈ ids t, Le t w z → w.2 ≤ c w.1 := by
 intro n
 induction n using Nat.strongRecOn with
 | _ n ih =>
   intro z hn hz hzc w hw hl
   rcases (le_back hv hz hw).1 hl with rfl | ⟨y, hy, hl2⟩
   ·exact hzc
   ·obtain ⟨h1, h2⟩ := back_mem hv hz hy
    rcases h.cl z hz hzc y hy with h3 | h3
    ·simp at h3
    ·exact ih (rk t y) (by rw [← hn]; exact rk_lt hv hz h2) y rfl h1 h3 w hw hl2
theorem Pst.done {t : Tr} (hv : Vok t) {x : Nat × Nat} (hx : x ∈ ids t) {c : Nat → Nat} (h : Pst t x c []) {p : Nat} (hp : p < t.length) : c p = vc t x p := by
 refine thresh (n := (evsOf t p).length) (h.cle p) vc_le (fun j hj => ?_)
 rw [← vc_iff hj]
 constructor
 ·exact fun hl => (h.le p j hl).2.2
 ·intro hl
  have hs : x.2 ≤ c x.1 := h.src.resolve_left (by simp)
  have := h.all hv (rk t x) x rfl hx hs (p, j + 1) (mem_ids2.2 ⟨hp, hj⟩) hl
  exact this
end Go.Proofs.Ytcemoeigegkmoaa
namespace Go.Proofs.Ytcemoeigegkmoaa
open Go.RowKit
set_option linter.unusedVariables false

theorem findG_next {t : Tr} {P : Nat × Nat → Bool} {k j : Nat} (h : (idsTo t k j).find? P = none) (hx : P (k, j + 1) = false) : (idsTo t k (j + 1)).find? P = none := by
 rw [idsTo_succ, List.find?_append, h]
 simp [hx]
theorem findG_stop {t : Tr} {P : Nat × Nat → Bool} {k j : Nat} (hk : k < t.length) (hj : j < t[k].evs.length) (h : (idsTo t k j).find? P = none) (hx : P (k, j + 1) = true) : (ids t).find? P = some (k, j + 1) := by
 obtain ⟨r, hr⟩ := idsTo_prefix t k (j + 1) hk hj
 rw [← hr, idsTo_succ, List.append_assoc, List.find?_append, h]
 simp [hx]
theorem findG_all {t : Tr} {P : Nat × Nat → Bool} (h : (idsTo t t.length 0).find? P = none) : (ids t).find? P = none := by
 rw [idsTo_all] at h; exact h
theorem findG_zero {t : Tr} {f : Nat × Nat → Nat} (h : (ids t).find? (fun x => f x != 0) = none) : ∀ x ∈ ids t, f x = 0 := fun x hx => by
 rw [List.find?_eq_none] at h
 simpa using h x hx

open Classical in
noncomputable def hbB (t : Tr) (x : Nat × Nat) : Bool := decide (Hb t x x)
open Classical in
theorem hbB_true {t : Tr} {x : Nat × Nat} (h : Hb t x x) : hbB t x = true := by unfold hbB; exact decide_eq_true h
open Classical in
theorem hbB_false {t : Tr} {x : Nat × Nat} (h : ¬ Hb t x x) : hbB t x = false := by unfold hbB; exact decide_eq_false h

set_option maxRecDepth 100000 in
set_option maxHeartbeats 8000000 in
theorem rFault_any (u : Value) (t : Tr) (w : World) (hS : Sm t) (hs : SlR 3 RPr w u t) :
  Calls Try.prog 80 #[.agg #[u]] w fun e w' => FPost t w e w' := by
 have HHD := hide (fun p (hp : p < t.length) w' (he : Ext w w') => rhead_any u t p w' hp hS (hs.ext RPr.keeps he))
 have HFO := hide (fun (hS : Small t) p i (hp : p < t.length) (hi : i < t[p].evs.length) w' (he : Ext w w') => rform_any u t p i w' hp hi hS (hs.ext RPr.keeps he))
 have HPA0 := hide (fun (hS : Small t) p i (hx : (p, i) ∈ ids t) (hf : formedB t.length p (evAt t (p, i)) = true) w' (he : Ext w w') => paired_any u t p i w' hx hf hS (hs.ext RPr.keeps he))
 have HAC0 := hide (fun (hS : Small t) (h1 : ∀ x ∈ ids t, pairF t x = 0) (h2 : ∀ x ∈ ids t, formedB t.length x.1 (evAt t x) = true) w' (he : Ext w w') => acyclic_any u t w' h1 h2 hS (hs.ext RPr.keeps he))
 have HPS0 := hide (fun (hS : Small t) p i (hx : (p, i) ∈ ids t) (hP : Paired t) (hN : (ids t).length ≤ 1000000) w' (he : Ext w w') => Past_any u t p i w' hx hP hN hS (hs.ext RPr.keeps he))
 obtain ⟨A, c, rfl, _, hcm, hc⟩ := hs.at_
 have HC := hide hc
 have hnp := hS.np
 clear hs hc
 unfold idVal at *
 go_enter Try.func80, Try.ntmps80
 cases hin : inB t.length 1 8
 ·have HF := hide (fault_len hin)
  have hd : t.length < 1 ∨ 8 < t.length := by simp [inB] at hin; omega
  clear hin
  rcases hd with hd | hd
  ·have hd1 : decide ((t.length : Int) < 1) = true := decide_eq_true oM
   clear hd
   go_wp2_with fail
   refine bodyPost_ret (v := .tuple #[idVal (0, 0), .int .i64 1]) ?_ rfl ⟨by rw [HF.out]; rfl, ((Ext.refl w).alloc _).alloc _⟩
   simp [results, Try.f80, go_sem, idVal]
  ·have hd1 : decide ((t.length : Int) < 1) = false := decide_eq_false oM
   have hd2 : decide ((8 : Int) < (t.length : Int)) = true := decide_eq_true oM
   clear hd
   go_wp2_with fail
   refine bodyPost_ret (v := .tuple #[idVal (0, 0), .int .i64 1]) ?_ rfl ⟨by rw [HF.out]; rfl, ((Ext.refl w).alloc _).alloc _⟩
   simp [results, Try.f80, go_sem, idVal]
 ·have HIN := hide hin
  have hd1 : decide ((t.length : Int) < 1) = false := decide_eq_false (by simp [inB] at hin; omega)
  have hd2 : decide ((8 : Int) < (t.length : Int)) = false := decide_eq_false (by simp [inB] at hin; omega)
  clear hin
  go_wp2_with fail
  clear hd1 hd2
  have btW := (BoxN.new w 24 #[.slice A t.length c]).alloc (.cells #[.int .i64 0, .int .i64 0] 40)
  have brW : BoxN ((w.alloc (.cells #[.slice A t.length c] 24)).alloc (.cells #[.int .i64 0, .int .i64 0] 40)) (w.heap.size + 1) 40 #[.int .i64 0, .int .i64 0] := BoxN.newAt _ _ (by simp)
  have hx1 := ((Ext.refl w).alloc (.cells #[.slice A t.length c] 24)).alloc (.cells #[.int .i64 0, .int .i64 0] 40)
  generalize (w.alloc (.cells #[.slice A t.length c] 24)).alloc (.cells #[.int .i64 0, .int .i64 0] 40) = W1 at *
  go_loopw [4] (fun i wr => ∃ k : Nat, k ≤ t.length ∧ i = .int .i64 k ∧ (∀ q, q < k → headF t q = 0) ∧ Ext W1 wr) (fun i _ => t.length - (intOf i).toNat)
  case atStart => exact ⟨0, Nat.zero_le _, rfl, fun q hq => absurd hq (Nat.not_lt_zero _), Ext.refl _⟩
  case round =>
   obtain ⟨k, hk, rfl, h0, hxx⟩ := hrel
   have H0 := hide h0
   clear h0
   have bt2 := btW.ext hxx
   have br2 := brW.ext hxx
   have t0 : wr.cell? ⟨w.heap.size, 0, none⟩ = some (.slice A t.length c) := bt2.cell (j := 0) rfl
   have lt1 := bt2.lt
   have lt2 := br2.lt
   have hxw := hx1.trans hxx
   by_cases hlt : k < t.length
   ·go_wp2_with fail
    refine (HHD.out k hlt _ hxw).mono ?_
    rintro e w2 ⟨rfl, he2⟩
    by_cases hz : headF t k = 0
    ·have HZ := hide hz
     rw [hz]
     clear hz
     go_wp2_with fail
     go_roundw
     case rel => exact ⟨k + 1, hlt, by go_num, fun q hq => (Nat.lt_succ_iff_lt_or_eq.1 hq).elim (H0.out q) (fun e => e ▸ HZ.out), hxx.trans he2⟩
     case measure => simp [intOf]; omega
    ·have HF := hide (fault_head HIN.out hlt H0.out hz)
     have hne2 : ((headF t k : Int) != 0) = true := by simp; omega
     have hne3 : ¬ ((headF t k : Int) = 0) := by omega
     have br3 := br2.ext he2
     have f0 := br3.frozen 0
     have f1 := br3.frozen 1
     have r0 := br3.cell (j := 0) rfl
     have r1 := br3.cell (j := 1) rfl
     have hxw2 := hxw.trans he2
     go_wp2_with fail
     obtain ⟨Wr, hWr⟩ : ∃ Wr, ((w2).setCell ⟨w.heap.size + 1, 0, none⟩ (Value.int .i64 k)).setCell ⟨w.heap.size + 1, 1, none⟩ (Value.int .i64 0) = Wr := ⟨_, rfl⟩
     rw [hWr]
     have s1 : BoxN Wr (w.heap.size + 1) 40 #[.int .i64 k, .int .i64 0] := by rw [← hWr]; exact kW1
     have sx : Ext w Wr := by rw [← hWr]; exact kW1
     clear hWr
     refine bodyPost_ret (v := .tuple #[idVal (k, 0), .int .i64 (headF t k)]) ?_ rfl ⟨by first | (rw [HF.out]; done) | (rw [HF.out]; rfl), sx⟩
     simp [results, Try.f80, go_sem, idVal, s1.cell (j := 0) rfl, s1.cell (j := 1) rfl]
   ·obtain rfl : k = t.length := by omega
    have hS := hS.small H0.out
    have HFO := hide (HFO.out hS)
    have HPA0 := hide (HPA0.out hS)
    have HAC0 := hide (HAC0.out hS)
    have HPS0 := hide (HPS0.out hS)
    go_wp2_with fail
    clear t0 lt1 lt2 bt2 br2 hxw
    go_loopw [6] (fun i wr => ∃ k : Nat, k ≤ t.length ∧ i = .int .i64 k ∧ (idsTo t k 0).find? (fun x => formF t x != 0) = none ∧ Ext W1 wr) (fun i _ => t.length - (intOf i).toNat)
    case atStart => exact ⟨0, Nat.zero_le _, rfl, rfl, hxx⟩
    case round =>
     obtain ⟨k, hk, rfl, hno, hx⟩ := hrel
     have HNO := hide hno
     clear hno
     have bt2 := btW.ext hx
     have br2 := brW.ext hx
     have hxw := hx1.trans hx
     have t0 : wr.cell? ⟨w.heap.size, 0, none⟩ = some (.slice A t.length c) := bt2.cell (j := 0) rfl
     have lt1 := bt2.lt
     have lt2 := br2.lt
     by_cases hlt : k < t.length
     ·obtain ⟨b, off, rfl, hel⟩ := HC.out oM
      obtain ⟨_, _, v2, c2, hs2⟩ := hel k hlt
      obtain ⟨A2, k2, rfl, _, _, hc2⟩ := hs2.at_
      have hne := hS.ne _ (List.getElem_mem hlt)
      clear hel hs2 hc2
      go_wp2_with fail
      clear t0 bt2 br2 hxw lt1 lt2
      go_loopw [7] (fun i wr => ∃ j : Nat, j ≤ t[k].evs.length ∧ i = .int .i64 j ∧ (idsTo t k j).find? (fun x => formF t x != 0) = none ∧ Ext W1 wr) (fun i _ => t[k].evs.length - (intOf i).toNat)
      case atStart => exact ⟨0, Nat.zero_le _, rfl, HNO.out, hx⟩
      case round =>
       clear hx
       obtain ⟨j, hj, rfl, hno2, hx⟩ := hrel
       have HNO2 := hide hno2
       clear hno2
       have bt2 := btW.ext hx
       have br2 := brW.ext hx
       have hxw := hx1.trans hx
       have t0 : wr.cell? ⟨w.heap.size, 0, none⟩ = some (.slice (some ⟨b, off, none⟩) t.length c) := bt2.cell (j := 0) rfl
       have lt1 := bt2.lt
       have lt2 := br2.lt
       have c2' := hxw.cellAt c2
       by_cases hlj : j < t[k].evs.length
       ·have hxi : (k, j + 1) ∈ ids t := mem_ids.2 ⟨hlt, by simp, hlj⟩
        have HXI := hide hxi
        clear hxi
        go_wp2_with fail
        refine (HFO.out k j hlt hlj _ hxw).mono ?_
        rintro e w2 ⟨rfl, he2⟩
        by_cases hz : formF t (k, j + 1) = 0
        ·have HN := hide (findG_next (P := fun x => formF t x != 0) HNO2.out (by simp [hz]))
         rw [hz]
         clear hz
         go_wp2_with fail
         go_roundw
         case rel => exact ⟨j + 1, hlj, by go_num, HN.out, hx.trans he2⟩
         case measure => simp [intOf]; omega
        ·have HF := hide (fault_form HIN.out H0.out (findG_stop (P := fun x => formF t x != 0) hlt hlj HNO2.out (by simp [hz])))
         have hne2 : ((formF t (k, j + 1) : Int) != 0) = true := by simp; omega
         have hne3 : ¬ ((formF t (k, j + 1) : Int) = 0) := by omega
         have br3 := br2.ext he2
         have f0 := br3.frozen 0
         have f1 := br3.frozen 1
         have r0 := br3.cell (j := 0) rfl
         have r1 := br3.cell (j := 1) rfl
         have hxw2 := hxw.trans he2
         go_wp2_with fail
         obtain ⟨Wr, hWr⟩ : ∃ Wr, ((w2).setCell ⟨w.heap.size + 1, 0, none⟩ (Value.int .i64 k)).setCell ⟨w.heap.size + 1, 1, none⟩ (Value.int .i64 ((j : Int) + 1)) = Wr := ⟨_, rfl⟩
         rw [hWr]
         have s1 : BoxN Wr (w.heap.size + 1) 40 #[.int .i64 k, .int .i64 ((j : Int) + 1)] := by rw [← hWr]; exact kW1
         have sx : Ext w Wr := by rw [← hWr]; exact kW1
         clear hWr
         refine bodyPost_ret (v := .tuple #[idVal (k, j + 1), .int .i64 (formF t (k, j + 1))]) ?_ rfl ⟨by first | (rw [HF.out]; done) | (rw [HF.out]; rfl), sx⟩
         simp [results, Try.f80, go_sem, idVal, s1.cell (j := 0) rfl, s1.cell (j := 1) rfl]
       ·obtain rfl : j = t[k].evs.length := by omega
        go_wp2_with fail
        go_roundw
        case rel => exact ⟨k + 1, hlt, by go_num, by rw [← idsTo_next t k hlt]; exact HNO2.out, hx⟩
        case measure => simp [intOf]; omega
     ·obtain rfl : k = t.length := by omega
      have HALL := hide (findG_all HNO.out)
      have HFN := hide HALL.out
      have HPA := hide (fun p j (hx : (p, j + 1) ∈ ids t) w' (he : Ext w w') => (show ((j + 1 : Nat) : Int) = (j : Int) + 1 from by push_cast; rfl) ▸ HPA0.out p (j + 1) hx (formF_formed (findG_zero HFN.out _ hx)) w' he)
      clear HALL
      go_wp2_with fail
      clear t0 lt1 lt2 bt2 br2 hxw HNO
      go_loopw [9] (fun i wr => ∃ k : Nat, k ≤ t.length ∧ i = .int .i64 k ∧ (idsTo t k 0).find? (fun x => pairF t x != 0) = none ∧ Ext W1 wr) (fun i _ => t.length - (intOf i).toNat)
      case atStart => exact ⟨0, Nat.zero_le _, rfl, rfl, hx⟩
      case round =>
       clear hx
       obtain ⟨k, hk, rfl, hno, hx⟩ := hrel
       have HNO := hide hno
       clear hno
       have bt2 := btW.ext hx
       have br2 := brW.ext hx
       have hxw := hx1.trans hx
       have t0 : wr.cell? ⟨w.heap.size, 0, none⟩ = some (.slice A t.length c) := bt2.cell (j := 0) rfl
       have lt1 := bt2.lt
       have lt2 := br2.lt
       by_cases hlt : k < t.length
       ·obtain ⟨b, off, rfl, hel⟩ := HC.out oM
        obtain ⟨_, _, v2, c2, hs2⟩ := hel k hlt
        obtain ⟨A2, k2, rfl, _, _, hc2⟩ := hs2.at_
        have hne := hS.ne _ (List.getElem_mem hlt)
        clear hel hs2 hc2
        go_wp2_with fail
        clear t0 bt2 br2 hxw lt1 lt2
        go_loopw [10] (fun i wr => ∃ j : Nat, j ≤ t[k].evs.length ∧ i = .int .i64 j ∧ (idsTo t k j).find? (fun x => pairF t x != 0) = none ∧ Ext W1 wr) (fun i _ => t[k].evs.length - (intOf i).toNat)
        case atStart => exact ⟨0, Nat.zero_le _, rfl, HNO.out, hx⟩
        case round =>
         clear hx
         obtain ⟨j, hj, rfl, hno2, hx⟩ := hrel
         have HNO2 := hide hno2
         clear hno2
         have bt2 := btW.ext hx
         have br2 := brW.ext hx
         have hxw := hx1.trans hx
         have t0 : wr.cell? ⟨w.heap.size, 0, none⟩ = some (.slice (some ⟨b, off, none⟩) t.length c) := bt2.cell (j := 0) rfl
         have lt1 := bt2.lt
         have lt2 := br2.lt
         have c2' := hxw.cellAt c2
         by_cases hlj : j < t[k].evs.length
         ·have hxi : (k, j + 1) ∈ ids t := mem_ids.2 ⟨hlt, by simp, hlj⟩
          have HXI := hide hxi
          clear hxi
          go_wp2_with fail
          have bxn := BoxN.new wr 40 #[.int .i64 k, .int .i64 ((j : Int) + 1)]
          have hxn := hxw.alloc (.cells #[.int .i64 k, .int .i64 ((j : Int) + 1)] 40)
          have hx1n := hx.alloc (.cells #[.int .i64 k, .int .i64 ((j : Int) + 1)] 40)
          have brn := br2.alloc (.cells #[.int .i64 k, .int .i64 ((j : Int) + 1)] 40)
          clear t0 lt1 lt2 c2' bt2 br2 hx hxw
          generalize wr.heap.size = gx at *
          generalize (wr.alloc (.cells #[.int .i64 k, .int .i64 ((j : Int) + 1)] 40)) = W3 at *
          refine (HPA.out k j HXI.out _ hxn).mono ?_
          rintro e w2 ⟨rfl, he2⟩
          by_cases hz : pairF t (k, j + 1) = 0
          ·have HN := hide (findG_next (P := fun x => pairF t x != 0) HNO2.out (by simp [hz]))
           rw [hz]
           clear hz
           go_wp2_with fail
           go_roundw
           case rel => exact ⟨j + 1, hlj, by go_num, HN.out, hx1n.trans he2⟩
           case measure => simp [intOf]; omega
          ·have HF := hide (fault_pair HIN.out H0.out HFN.out (findG_stop (P := fun x => pairF t x != 0) hlt hlj HNO2.out (by simp [hz])))
           have hne2 : ((pairF t (k, j + 1) : Int) != 0) = true := by simp; omega
           have hne3 : ¬ ((pairF t (k, j + 1) : Int) = 0) := by omega
           have br3 := brn.ext he2
           have f0 := br3.frozen 0
           have f1 := br3.frozen 1
           have r0 := br3.cell (j := 0) rfl
           have r1 := br3.cell (j := 1) rfl
           have bx3 := bxn.ext he2
           have x0 := bx3.cell (j := 0) rfl
           have x1 := bx3.cell (j := 1) rfl
           have hxw2 := hxn.trans he2
           go_wp2_with fail
           obtain ⟨Wr, hWr⟩ : ∃ Wr, ((w2).setCell ⟨w.heap.size + 1, 0, none⟩ (Value.int .i64 k)).setCell ⟨w.heap.size + 1, 1, none⟩ (Value.int .i64 ((j : Int) + 1)) = Wr := ⟨_, rfl⟩
           rw [hWr]
           have s1 : BoxN Wr (w.heap.size + 1) 40 #[.int .i64 k, .int .i64 ((j : Int) + 1)] := by rw [← hWr]; exact kW1
           have sx : Ext w Wr := by rw [← hWr]; exact kW1
           clear hWr
           refine bodyPost_ret (v := .tuple #[idVal (k, j + 1), .int .i64 (pairF t (k, j + 1))]) ?_ rfl ⟨by first | (rw [HF.out]; done) | (rw [HF.out]; rfl), sx⟩
           simp [results, Try.f80, go_sem, idVal, s1.cell (j := 0) rfl, s1.cell (j := 1) rfl]
         ·obtain rfl : j = t[k].evs.length := by omega
          go_wp2_with fail
          go_roundw
          case rel => exact ⟨k + 1, hlt, by go_num, by rw [← idsTo_next t k hlt]; exact HNO2.out, hx⟩
          case measure => simp [intOf]; omega
       ·obtain rfl : k = t.length := by omega
        have HALL := hide (findG_all HNO.out)
        have HPN := hide HALL.out
        have hP : Paired t := ⟨fun x hx => formF_formed (findG_zero HFN.out x hx), findG_zero HPN.out⟩
        have HPS := hide (fun p j (hx : (p, j + 1) ∈ ids t) w' (he : Ext w w') => (show ((j + 1 : Nat) : Int) = (j : Int) + 1 from by push_cast; rfl) ▸ HPS0.out p (j + 1) hx hP (ids_few hS.np hS.ne HIN.out H0.out) w' he)
        have HAC := hide (HAC0.out hP.pair hP.form)
        clear hP HALL
        go_wp2_with fail
        refine (HAC.out _ hxw).mono ?_
        rintro e w2 ⟨b, rfl, hb, he2⟩
        cases b
        ·go_wp2_with fail
         replace hx := hx.trans he2
         clear t0 lt1 lt2 bt2 br2 hxw he2 hb HNO
         obtain ⟨WB, hWB⟩ : ∃ WB : World, w2 = WB := ⟨_, rfl⟩
         rw [hWB] at hx ⊢
         clear hWB
         go_loopw [13] (fun i wr => ∃ k : Nat, k ≤ t.length ∧ i = .int .i64 k ∧ (idsTo t k 0).find? (hbB t) = none ∧ Ext W1 wr) (fun i _ => t.length - (intOf i).toNat)
         case atStart => exact ⟨0, Nat.zero_le _, rfl, rfl, hx⟩
         case round =>
          clear hx
          obtain ⟨k, hk, rfl, hno, hx⟩ := hrel
          have HNO := hide hno
          clear hno
          have bt2 := btW.ext hx
          have br2 := brW.ext hx
          have hxw := hx1.trans hx
          have t0 : wr.cell? ⟨w.heap.size, 0, none⟩ = some (.slice A t.length c) := bt2.cell (j := 0) rfl
          have lt1 := bt2.lt
          have lt2 := br2.lt
          by_cases hlt : k < t.length
          ·obtain ⟨b, off, rfl, hel⟩ := HC.out oM
           obtain ⟨_, _, v2, c2, hs2⟩ := hel k hlt
           obtain ⟨A2, k2, rfl, _, _, hc2⟩ := hs2.at_
           have hne := hS.ne _ (List.getElem_mem hlt)
           clear hel hs2 hc2
           go_wp2_with fail
           clear t0 bt2 br2 hxw lt1 lt2
           go_loopw [14] (fun i wr => ∃ j : Nat, j ≤ t[k].evs.length ∧ i = .int .i64 j ∧ (idsTo t k j).find? (hbB t) = none ∧ Ext W1 wr) (fun i _ => t[k].evs.length - (intOf i).toNat)
           case atStart => exact ⟨0, Nat.zero_le _, rfl, HNO.out, hx⟩
           case round =>
            clear hx
            obtain ⟨j, hj, rfl, hno2, hx⟩ := hrel
            have HNO2 := hide hno2
            clear hno2
            have bt2 := btW.ext hx
            have br2 := brW.ext hx
            have hxw := hx1.trans hx
            have t0 : wr.cell? ⟨w.heap.size, 0, none⟩ = some (.slice (some ⟨b, off, none⟩) t.length c) := bt2.cell (j := 0) rfl
            have lt1 := bt2.lt
            have lt2 := br2.lt
            have c2' := hxw.cellAt c2
            by_cases hlj : j < t[k].evs.length
            ·have hxi : (k, j + 1) ∈ ids t := mem_ids.2 ⟨hlt, by simp, hlj⟩
             have HXI := hide hxi
             clear hxi
             go_wp2_with fail
             have bxn := BoxN.new wr 40 #[.int .i64 k, .int .i64 ((j : Int) + 1)]
             have hxn := hxw.alloc (.cells #[.int .i64 k, .int .i64 ((j : Int) + 1)] 40)
             have hx1n := hx.alloc (.cells #[.int .i64 k, .int .i64 ((j : Int) + 1)] 40)
             have brn := br2.alloc (.cells #[.int .i64 k, .int .i64 ((j : Int) + 1)] 40)
             clear t0 lt1 lt2 c2' bt2 br2 hx hxw
             generalize wr.heap.size = gx at *
             generalize (wr.alloc (.cells #[.int .i64 k, .int .i64 ((j : Int) + 1)] 40)) = W3 at *
             refine (HPS.out k j HXI.out _ hxn).mono ?_
             rintro e w2 ⟨v9, gs, S, rfl, hgr, hgl, hiff, he2⟩
             have hyg : k < gs.length := by rw [hgl.1]; exact hlt
             have hgl2 : gs[k].2 = t[k].evs.length + 1 := hgl.2 k hyg hlt
             have hHB := hide (hiff (k, j + 1) HXI.out)
             obtain ⟨gO, offO, capO, curO, rfl, hBO, hbO, hO1, hO2, hO3, hcO⟩ := hgr.out.open_ oM
             have o0 : w2.cell? ⟨gO, offO + k, none⟩ = some (.slice (some ⟨gs[k].1, 0, none⟩) gs[k].2 gs[k].2) := hbO.cell (hcO k _ (by rw [List.getElem?_map, List.getElem?_eq_getElem hyg]; rfl))
             have rr0 : w2.cell? ⟨gs[k].1, j + 1, none⟩ = some (.bool (decide ((k, j + 1) ∈ S))) := (hgr.row k hyg).1.cell (rowM_get (by rw [hgl2]; omega))
             have hlO := hbO.lt
             have hlR := (hgr.row k hyg).1.lt
             have hi1 : (k : Int) < (gs.length : Int) := by omega
             have hi3 : (j : Int) + 1 < (gs[k].2 : Int) := by rw [hgl2]; omega
             have hcap : gs[k].2 ≤ 1000001 := by rw [hgl2]; omega
             have hi2 : (0 : Int) ≤ (k : Int) := by omega
             have hi4 : (0 : Int) ≤ (j : Int) + 1 := by omega
             have br3 := brn.ext he2
             have f0 := br3.frozen 0
             have f1 := br3.frozen 1
             have r0 := br3.cell (j := 0) rfl
             have r1 := br3.cell (j := 1) rfl
             have bx3 := bxn.ext he2
             have x0 := bx3.cell (j := 0) rfl
             have x1 := bx3.cell (j := 1) rfl
             have hxw2 := hxn.trans he2
             clear hgr hgl hiff hbO hcO hgl2
             unfold maxLen at hO2
             generalize gs[k].1 = gb at *
             generalize gs[k].2 = gn at *
             cases hz : decide ((k, j + 1) ∈ S)
             ·have HN := hide (findG_next (P := hbB t) HNO2.out (hbB_false fun h => of_decide_eq_false hz (hHB.out.2 h)))
              rw [hz] at rr0
              clear hz
              go_wp2_with fail
              go_roundw
              case rel => exact ⟨j + 1, hlj, by go_num, HN.out, hx1n.trans he2⟩
              case measure => simp [intOf]; omega
             ·have HF := hide (fault_hb HIN.out H0.out HFN.out HPN.out (show hbFirst t = _ from findG_stop (P := hbB t) hlt hlj HNO2.out (hbB_true (hHB.out.1 (of_decide_eq_true hz)))))
              rw [hz] at rr0
              clear hz
              go_wp2_with fail
              obtain ⟨Wr, hWr⟩ : ∃ Wr, ((w2).setCell ⟨w.heap.size + 1, 0, none⟩ (Value.int .i64 k)).setCell ⟨w.heap.size + 1, 1, none⟩ (Value.int .i64 ((j : Int) + 1)) = Wr := ⟨_, rfl⟩
              rw [hWr]
              have s1 : BoxN Wr (w.heap.size + 1) 40 #[.int .i64 k, .int .i64 ((j : Int) + 1)] := by rw [← hWr]; exact kW1
              have sx : Ext w Wr := by rw [← hWr]; exact kW1
              clear hWr
              refine bodyPost_ret (v := .tuple #[idVal (k, j + 1), .int .i64 10]) ?_ rfl ⟨by first | (rw [HF.out]; done) | (rw [HF.out]; rfl), sx⟩
              simp [results, Try.f80, go_sem, idVal, s1.cell (j := 0) rfl, s1.cell (j := 1) rfl]
            ·obtain rfl : j = t[k].evs.length := by omega
             go_wp2_with fail
             go_roundw
             case rel => exact ⟨k + 1, hlt, by go_num, by rw [← idsTo_next t k hlt]; exact HNO2.out, hx⟩
             case measure => simp [intOf]; omega
          ·obtain rfl : k = t.length := by omega
           have HALL := hide (findG_all HNO.out)
           have HF := hide (fault_ok HIN.out H0.out HFN.out HPN.out (show hbFirst t = none from HALL.out))
           have f0 := br2.frozen 0
           have f1 := br2.frozen 1
           have r0 := br2.cell (j := 0) rfl
           have r1 := br2.cell (j := 1) rfl
           go_wp2_with fail
           obtain ⟨Wr, hWr⟩ : ∃ Wr, (wr.setCell ⟨w.heap.size + 1, 0, none⟩ (Value.int .i64 0)).setCell ⟨w.heap.size + 1, 1, none⟩ (Value.int .i64 0) = Wr := ⟨_, rfl⟩
           rw [hWr]
           have s1 : BoxN Wr (w.heap.size + 1) 40 #[.int .i64 0, .int .i64 0] := by rw [← hWr]; exact kW1
           have sx : Ext w Wr := by rw [← hWr]; exact kW1
           clear hWr
           refine bodyPost_ret (v := .tuple #[idVal (0, 0), .int .i64 0]) ?_ rfl ⟨by first | (rw [HF.out]; done) | (rw [HF.out]; rfl), sx⟩
           simp [results, Try.f80, go_sem, idVal, s1.cell (j := 0) rfl, s1.cell (j := 1) rfl]

        ·have HNB := hide (show (ids t).find? (hbB t) = none from by
          rw [List.find?_eq_none]; intro x hx; rw [hbB_false (hb rfl x hx)]; exact Bool.false_ne_true)
         have HF := hide (fault_ok HIN.out H0.out HFN.out HPN.out (show hbFirst t = none from HNB.out))
         have br3 := br2.ext he2
         have f0 := br3.frozen 0
         have f1 := br3.frozen 1
         have r0 := br3.cell (j := 0) rfl
         have r1 := br3.cell (j := 1) rfl
         have hxw2 := hxw.trans he2
         go_wp2_with fail
         obtain ⟨Wr, hWr⟩ : ∃ Wr, (w2.setCell ⟨w.heap.size + 1, 0, none⟩ (Value.int .i64 0)).setCell ⟨w.heap.size + 1, 1, none⟩ (Value.int .i64 0) = Wr := ⟨_, rfl⟩
         rw [hWr]
         have s1 : BoxN Wr (w.heap.size + 1) 40 #[.int .i64 0, .int .i64 0] := by rw [← hWr]; exact kW1
         have sx : Ext w Wr := by rw [← hWr]; exact kW1
         clear hWr
         refine bodyPost_ret (v := .tuple #[idVal (0, 0), .int .i64 0]) ?_ rfl ⟨by first | (rw [HF.out]; done) | (rw [HF.out]; rfl), sx⟩
         simp [results, Try.f80, go_sem, idVal, s1.cell (j := 0) rfl, s1.cell (j := 1) rfl]
theorem rValid_any (u : Value) (t : Tr) (w : World) (hS : Sm t) (hs : SlR 3 RPr w u t) :
  Calls Try.prog 18 #[.agg #[u]] w fun e w' => e = .returned (.bool (validL t)) ∧ Ext w w' := by
 have HF := hide (fun w' (he : Ext w w') => rFault_any u t w' hS (hs.ext RPr.keeps he))
 obtain ⟨A, c, rfl, _, hcm, _⟩ := hs.at_
 go_enter Try.func18, Try.ntmps18
 go_wp2_with fail
 refine (HF.out _ ((Ext.refl w).alloc _)).mono ?_
 rintro e w2 ⟨rfl, he2⟩
 unfold idVal
 go_wp2
 go_ret
 refine ⟨ret_bool ?_, Ext.alloc (Ext.trans ((Ext.refl w).alloc _) he2) _⟩
 unfold validL
 rw [Bool.eq_iff_iff]; simp
end Go.Proofs.Ytcemoeigegkmoaa
namespace Go.Proofs.Ytcemoeigegkmoaa
set_option linter.unusedVariables false

def idA (x : Nat × Nat) : AV := .agg [.v (.int .i64 x.1), .v (.int .i64 x.2)]
theorem idA_rep (w : World) (F : Nat → Prop) (L : LMap) (x : Nat × Nat) : RepA w F L (idA x) (idVal x) := by
 refine RepL.agg (vs := #[.int .i64 x.1, .int .i64 x.2]) ?_
 exact RepL.cons (.v _ _ (.int _ _)) (RepL.cons (.v _ _ (.int _ _)) RepL.nil)
theorem repL_cons {w : World} {F : Nat → Prop} {L : LMap} {x : AV} {xs : List AV} {vs : List Value} (h : RepL w F L (x :: xs) vs) : ∃ v us, vs = v :: us ∧ RepA w F L x v ∧ RepL w F L xs us := by
 obtain ⟨h1, h2⟩ := h
 cases vs with
 | nil => simp at h1
 | cons v us => exact ⟨v, us, rfl, h2 0 x v rfl rfl, by simpa using h1, fun i a u ha hu => h2 (i + 1) a u ha hu⟩
theorem repL_nil {w : World} {F : Nat → Prop} {L : LMap} {vs : List Value} (h : RepL w F L [] vs) : vs = [] := by
 have := h.1
 exact List.eq_nil_of_length_eq_zero (by simpa using this.symm)
theorem repL_tr {w : World} {F : Nat → Prop} {L : LMap} {t : Tr} {xs : List AV} {vs : Array Value} (hn : Nm t) (h : RepL w F L (.agg [.v (eT t)] :: xs) vs.toList) : ∃ u us, vs = (.agg #[u] :: us).toArray ∧ SlR 3 RPr w u t ∧ RepL w F L xs us := by
 obtain ⟨v, us, h1, h2, h3⟩ := repL_cons h
 obtain ⟨cs, rfl, h4⟩ := h2.aggL
 obtain ⟨u, rest, h5, h6, h7⟩ := repL_cons h4
 have := repL_nil h7
 subst this
 have hcs : cs = #[u] := Array.toList_inj.1 (by rw [h5])
 subst hcs
 exact ⟨u, us, Array.toList_inj.1 (by rw [h1]), tr_in hn h6.vI, h3⟩

section
theorem valid_specS (t : Tr) (hS : Sm t) (hN : Nm t) (b l : List Row) : ACalls Try.prog 63 [.agg [.v (eT t)]] b l (fun r b' l' => r = .v (.bool (validL t)) ∧ b' = b ∧ l' = l) := by
 refine ACalls.of_ext ⟨_, Try.func63, by kernel_rfl, by kernel_rfl⟩ (fun F L w vs hr => ?_)
 obtain ⟨u, us, rfl, hs, hr2⟩ := repL_tr hN hr
 obtain rfl := repL_nil hr2
 refine (Valid_any u t w hS hs).mono ?_
 rintro e w' ⟨rfl, he⟩
 exact ⟨he, _, _, rfl, .v _ _ (.bool _), rfl, rfl, rfl⟩
theorem rvalid_specS (t : Tr) (hS : Sm t) (hN : Nm t) (b l : List Row) : ACalls Try.prog 18 [.agg [.v (eT t)]] b l (fun r b' l' => r = .v (.bool (validL t)) ∧ b' = b ∧ l' = l) := by
 refine ACalls.of_ext ⟨_, Try.func18, by kernel_rfl, by kernel_rfl⟩ (fun F L w vs hr => ?_)
 obtain ⟨u, us, rfl, hs, hr2⟩ := repL_tr hN hr
 obtain rfl := repL_nil hr2
 refine (rValid_any u t w hS hs).mono ?_
 rintro e w' ⟨rfl, he⟩
 exact ⟨he, _, _, rfl, .v _ _ (.bool _), rfl, rfl, rfl⟩
theorem valid_spec (t : Tr) (hS : Small t) (hN : Nm t) (b l : List Row) : ACalls Try.prog 63 [.agg [.v (eT t)]] b l (fun r b' l' => r = .v (.bool (validL t)) ∧ b' = b ∧ l' = l) := valid_specS t hS.sm hN b l
end
end Go.Proofs.Ytcemoeigegkmoaa
namespace Go.Proofs.Ytcemoeigegkmoaa
set_option linter.unusedVariables false
set_option linter.unusedSimpArgs false

def vBad (n : Int) : Bool := decide (n < 0) || decide (n > 1125899906842624)
def vBadAt (v : List Int) (i : Nat) : Bool := vBad (v.getD i 0)
def isV (v : List Int) : Bool := decide (1 ≤ v.length) && (decide (v.length ≤ 8) && !(List.range v.length).any (vBadAt v))
def joinV (v w : List Int) : List Int := List.zipWith max v w
def leqAt (v w : List Int) (i : Nat) : Bool := decide (v.getD i 0 ≤ w.getD i 0)
def leqV (v w : List Int) : Bool := (List.range v.length).all (leqAt v w)
def cmpV (v w : List Int) : Int := if leqV v w = true then (if leqV w v = true then 0 else -1) else if leqV w v = true then 1 else 2

theorem getD_at {α : Type} {l : List α} {i : Nat} {d : α} (h : i < l.length) : l.getD i d = l[i] := by simp [List.getD, h]
theorem isV_mk {v : List Int} (h1 : 1 ≤ v.length) (h2 : v.length ≤ 8) (h : ∀ i, i < v.length → 0 ≤ v.getD i 0 ∧ v.getD i 0 ≤ 1125899906842624) : isV v = true := by
 simp only [isV, Bool.and_eq_true, decide_eq_true_eq, Bool.not_eq_true', List.any_eq_false, List.mem_range, vBadAt, vBad, Bool.or_eq_true, not_or]
 refine ⟨h1, h2, fun i hi => ?_⟩
 have := h i hi
 omega
theorem leqV_iff {v w : List Int} : leqV v w = true ↔ ∀ i, i < v.length → v.getD i 0 ≤ w.getD i 0 := by
 simp [leqV, leqAt, List.all_eq_true]
theorem joinV_len {v w : List Int} (h : v.length = w.length) : (joinV v w).length = v.length := by
 simp [joinV, h]
theorem joinV_get {v w : List Int} (h : v.length = w.length) {i : Nat} (hi : i < v.length) : (joinV v w).getD i 0 = max (v.getD i 0) (w.getD i 0) := by
 rw [getD_at (by rw [joinV_len h]; exact hi), getD_at hi, getD_at oM]
 simp [joinV]
theorem ext_getD {v w : List Int} (h : v.length = w.length) (hg : ∀ i, i < v.length → v.getD i 0 = w.getD i 0) : v = w := by
 refine List.ext_getElem h (fun i h1 h2 => ?_)
 have := hg i h1
 rwa [getD_at h1, getD_at h2] at this
theorem getD_set_ne {α : Type} {l : List α} {i j : Nat} {x d : α} (h : i ≠ j) : (l.set i x).getD j d = l.getD j d := by
 simp only [List.getD_eq_getElem?_getD, List.getElem?_set_ne h]
end Go.Proofs.Ytcemoeigegkmoaa
namespace Go.Proofs.Ytcemoeigegkmoaa
set_option linter.unusedVariables false
set_option linter.unusedSimpArgs false
attribute [local go_sem ↓] run_skip run_region run_draw run_seq run_block run_exit run_ret run_cond atN_app seqC_normal seqC_exit seqC_ret seqQ_normal seqQ_exit seqQ_ret blkQ_normal blkQ_exit blkQ_ret runOps_nil runOps_cons runD_nil runD_cons grdO_true grdO_false grdD_true grdD_false ifC_true ifC_false opS_val opS_call opS_two opK_app dS_val dS_call dS_two dK_app kUp_same kUp_ne
attribute [local go_sem] rechks_nil rechks_cons rechk gcase_true gcase_false ex_val ex_val0 gd_none gd_some ev_t ev_c evs_nil evs_cons evo_some evo_none hget_at hget_first hsetB_at hsetB_first hsetL_at hsetL_first ofOpt_some aop aload astore aslice aappend aiaddr aiaddrA afaddr alen alenS acopy amm acall alookup amupdate alenM comma keyEq apick binV binVB binVS isSh intOp strOp boolOp shOp eqC eqF and2 cellsOf setFrom fillA fillS rd rdI elems mk bounds AV.cell List.all_cons List.all_nil Bool.and_true Bool.true_and Bool.and_self List.length_cons List.length_nil List.length_append Nat.reduceAdd Nat.reduceSub Nat.reduceMul Nat.zero_add Nat.add_zero List.cons_append List.nil_append List.append_assoc List.append_nil List.getElem?_cons_zero List.getElem?_cons_succ List.getElem?_nil List.set_cons_zero List.set_cons_succ List.drop_zero List.drop_succ_cons List.take_zero List.take_succ_cons List.take_nil List.drop_nil List.map_cons List.map_nil Option.map_some if_true if_false Bool.false_eq_true and_self true_and and_true Nat.reduceLeDiff Nat.reduceLT Nat.le_refl Nat.reduceEqDiff ite_true ite_false beq_self_eq_true beq_true beq_false Bool.not_true Bool.not_false Bool.true_beq Bool.false_beq map_vs vs_len vs_get vs_take vs_drop vs_snoc1 vs_snoc2 vs_snoc3 vs_snoc5 vs_set1 vs_set2 vs_rep wrap_id le_T lt_T le_F lt_F leI_T ltI_T leI_F ltI_F geI gtI get_T decide_true decide_false room List.getElem?_map List.length_map List.length_take Int.toNat_natCast Nat.min_def Nat.min_self nth_kOf put_kOf put_kNo kOv_cons kOv_nil KHas KArgs List.getElem_cons_zero List.getElem_cons_succ
def a_Ind1 : AFunc := ⟨2,19,[.tmp 4],(.seq (.region [⟨some 4,.mv (.c (.v (.int .i64 0))),none⟩]) (.seq (.seq (.region [⟨some 6,.mv (.t 0),none⟩,⟨some 7,.len (.t 6),none⟩,⟨some 8,.mv (.c (.v (.int .i64 0))),none⟩]) (.block 0 (.loop (.seq (.region [⟨some 9,.bin .lss (.t 8) (.t 7),none⟩]) (.seq (.cond (.t 9) .skip (.exit 0)) (.seq (.block 1 (.seq (.region [⟨some 10,.mv (.t 8),none⟩,⟨some 5,.mv (.t 10),none⟩]) (.seq (.region [⟨some 11,.mv (.t 1),none⟩,⟨some 12,.mv (.t 0),none⟩,⟨some 13,.mv (.t 5),none⟩,⟨some 14,.iaddr 1 (.t 12) (.t 13),none⟩,⟨some 15,.load none (.t 14),none⟩,⟨some 16,.call (.t 11) [(.t 15)],none⟩]) (.cond (.t 16) (.seq (.region [⟨some 17,.mv (.t 5),none⟩,⟨some 4,.mv (.t 17),none⟩]) .ret) .skip)))) (.region [⟨some 18,.bin .add (.t 8) (.c (.v (.int .i64 1))),none⟩,⟨some 8,.mv (.t 18),none⟩]))))))) (.seq (.region [⟨some 4,.mv (.c (.v (.int .i64 (-1)))),none⟩]) .ret)))⟩
theorem a_Ind1_ok : cFunc Try.prog 52 = some a_Ind1 := by kernel_rfl
def r_Ind10 : List (Nat × Nat) := [(4, 5), (8, 18)]
def a_Con1 : AFunc := ⟨2,9,[.tmp 4],(.seq (.region [⟨some 4,.mv (.c (.v (.bool false))),none⟩]) (.seq (.region [⟨some 5,.mv (.t 0),none⟩,⟨some 6,.mv (.t 1),none⟩,⟨some 7,.call (.c (.fn 52 [])) [(.t 5),(.t 6)],none⟩,⟨some 8,.bin .geq (.t 7) (.c (.v (.int .i64 0))),none⟩,⟨some 4,.mv (.t 8),none⟩]) .ret))⟩
theorem a_Con1_ok : cFunc Try.prog 30 = some a_Con1 := by kernel_rfl
def a_Eq1 : AFunc := ⟨2,26,[.tmp 4],(.seq (.region [⟨some 4,.mv (.c (.v (.bool false))),none⟩]) (.seq (.seq (.region [⟨some 6,.mv (.t 0),none⟩,⟨some 7,.len (.t 6),none⟩,⟨some 8,.mv (.t 1),none⟩,⟨some 9,.len (.t 8),none⟩,⟨some 10,.bin .neq (.t 7) (.t 9),none⟩]) (.cond (.t 10) (.seq (.region [⟨some 4,.mv (.c (.v (.bool false))),none⟩]) .ret) .skip)) (.seq (.seq (.region [⟨some 11,.mv (.t 0),none⟩,⟨some 12,.len (.t 11),none⟩,⟨some 13,.mv (.c (.v (.int .i64 0))),none⟩]) (.block 0 (.loop (.seq (.region [⟨some 14,.bin .lss (.t 13) (.t 12),none⟩]) (.seq (.cond (.t 14) .skip (.exit 0)) (.seq (.block 1 (.seq (.region [⟨some 15,.mv (.t 13),none⟩,⟨some 5,.mv (.t 15),none⟩]) (.seq (.draw [⟨0,⟨some 16,.mv (.t 0),none⟩,[]⟩,⟨1,⟨some 17,.mv (.t 5),none⟩,[]⟩,⟨2,⟨some 18,.iaddr 1 (.t 16) (.t 17),none⟩,[]⟩,⟨3,⟨some 19,.load none (.t 18),none⟩,[]⟩,⟨4,⟨some 20,.mv (.t 1),none⟩,[]⟩,⟨5,⟨some 21,.mv (.t 5),none⟩,[]⟩,⟨6,⟨some 22,.iaddr 1 (.t 20) (.t 21),none⟩,[]⟩,⟨7,⟨some 23,.load none (.t 22),none⟩,[]⟩,⟨8,⟨some 24,.bin .neq (.t 19) (.t 23),none⟩,[]⟩]) (.cond (.t 24) (.seq (.region [⟨some 4,.mv (.c (.v (.bool false))),none⟩]) .ret) .skip)))) (.region [⟨some 25,.bin .add (.t 13) (.c (.v (.int .i64 1))),none⟩,⟨some 13,.mv (.t 25),none⟩]))))))) (.seq (.region [⟨some 4,.mv (.c (.v (.bool true))),none⟩]) .ret))))⟩
theorem a_Eq1_ok : cFunc Try.prog 29 = some a_Eq1 := by kernel_rfl
def r_Eq10 : List (Nat × Nat) := [(4, 5), (13, 25)]
def a_Clo1 : AFunc := ⟨1,8,[.tmp 2],(.seq (.region [⟨some 2,.mv (.c (.v .zsl)),none⟩]) (.seq (.seq (.region [⟨some 3,.mv (.t 0),none⟩,⟨some 4,.isnil false (.t 3),none⟩]) (.cond (.t 4) (.seq (.region [⟨some 2,.mv (.c (.v .zsl)),none⟩]) .ret) .skip)) (.seq (.region [⟨some 5,.bslice 1 [(.v (.int .i64 0))] 0 [],none⟩,⟨some 6,.mv (.t 0),none⟩,⟨some 7,.append 1 8 (.t 5) (.t 6),none⟩,⟨some 2,.mv (.t 7),none⟩]) .ret)))⟩
theorem a_Clo1_ok : cFunc Try.prog 58 = some a_Clo1 := by kernel_rfl
def a_joined : AFunc := ⟨2,28,[.tmp 4],(.seq (.region [⟨some 4,.mv (.c (.v .zsl)),none⟩]) (.seq (.region [⟨some 8,.mv (.t 0),none⟩,⟨some 9,.call (.c (.fn 58 [])) [(.t 8)],none⟩,⟨some 5,.mv (.t 9),none⟩]) (.seq (.seq (.region [⟨some 10,.mv (.t 1),none⟩,⟨some 11,.len (.t 10),none⟩,⟨some 12,.mv (.c (.v (.int .i64 0))),none⟩]) (.block 0 (.loop (.seq (.region [⟨some 13,.bin .lss (.t 12) (.t 11),none⟩]) (.seq (.cond (.t 13) .skip (.exit 0)) (.seq (.block 1 (.seq (.region [⟨some 14,.mv (.t 12),none⟩,⟨some 15,.iaddr 1 (.t 10) (.t 12),none⟩,⟨some 16,.load none (.t 15),none⟩,⟨some 6,.mv (.t 14),none⟩,⟨some 7,.mv (.t 16),none⟩]) (.region [⟨some 17,.mv (.t 5),none⟩,⟨some 18,.mv (.t 6),none⟩,⟨some 19,.mv (.t 5),none⟩,⟨some 20,.mv (.t 6),none⟩,⟨some 21,.iaddr 1 (.t 19) (.t 20),none⟩,⟨some 22,.load none (.t 21),none⟩,⟨some 23,.mv (.t 7),none⟩,⟨some 24,.mm true (.t 22) (.t 23),none⟩,⟨some 25,.iaddr 1 (.t 17) (.t 18),none⟩,⟨none,.store 1 (.t 25) (.t 24),none⟩]))) (.region [⟨some 26,.bin .add (.t 12) (.c (.v (.int .i64 1))),none⟩,⟨some 12,.mv (.t 26),none⟩]))))))) (.seq (.region [⟨some 27,.mv (.t 5),none⟩,⟨some 4,.mv (.t 27),none⟩]) .ret))))⟩
theorem a_joined_ok : cFunc Try.prog 144 = some a_joined := by kernel_rfl
def r_joined0 : List (Nat × Nat) := [(6, 7), (12, 26)]

def iv (v : List Int) : AV := .v (.isl 1 (v.map eI))

def firstP (p : Nat → Bool) (n : Nat) : Int := match (List.range n).find? p with
 | some i => i
 | none => -1
theorem firstP_at {p : Nat → Bool} {n i : Nat} (h : i < n) (h0 : ∀ j, j < i → p j = false) (hi : p i = true) : firstP p n = i := by
 have hf : (List.range n).find? p = some i := by
  rw [show n = i + (1 + (n - i - 1)) by omega, List.range_add, List.find?_append]
  have : (List.range i).find? p = none := by
   rw [List.find?_eq_none]; intro q hq; simp [h0 q (List.mem_range.1 hq)]
  rw [this, Nat.add_comm 1, List.range_succ_eq_map]
  simp [hi]
 unfold firstP; rw [hf]
theorem firstP_none {p : Nat → Bool} {n : Nat} (h0 : ∀ j, j < n → p j = false) : firstP p n = -1 := by
 have : (List.range n).find? p = none := by
  rw [List.find?_eq_none]; intro q hq; simp [h0 q (List.mem_range.1 hq)]
 unfold firstP; rw [this]
theorem firstP_ge {p : Nat → Bool} {n : Nat} : decide (0 ≤ firstP p n) = (List.range n).any p := by
 unfold firstP
 cases h : (List.range n).find? p with
 | none =>
   have := List.find?_eq_none.1 h
   have hn : (List.range n).any p = false := by rw [List.any_eq_false]; exact this
   rw [hn]; rfl
 | some i =>
   have h1 := List.find?_some h
   have h2 := List.mem_of_find?_eq_some h
   have hn : (List.range n).any p = true := List.any_eq_true.2 ⟨i, h2, h1⟩
   rw [hn]; simp

theorem kL {p : Prop} (h : p := by simp (disch := omega) only [lts.down, Nat.reduceLT, Nat.reduceAdd]) : p := h
theorem kO {p : Prop} (h : p := by simp only [one, lts.down, Nat.reduceLT, Nat.reduceAdd]) : p := h
theorem kV {p : Prop} (h : p := by simp (disch := omega) only [KOvLt, lts.down, Nat.reduceLT, Nat.reduceAdd]) : p := h
theorem index1_spec (v : List Int) (k : Nat) (caps : List AV) (p : Nat → Bool) (hn : v.length ≤ 1000000) (b l : List Row)
  (hp : ∀ (i : Nat) (h : i < v.length), ACalls Try.prog k (.v (.int .i64 v[i]) :: caps) (b ++ l) [] (fun r b' l' => r = .v (.bool (p i)) ∧ b' = b ++ l ∧ l' = [])) :
  ACalls Try.prog 52 [.v (.isl 1 (v.map eI)), .fn k caps] b l (fun r b' l' => r = .v (.int .i64 (firstP p v.length)) ∧ b' = b ∧ l' = l) := by
 refine calls_kept a_Ind1_ok rfl (by decide) ?_
 intro B g hB hR hE hA
 simp only [KArgs] at hA
 simp (disch := decide) only [a_Ind1, hA, List.length_map, go_sem]
 refine loop_kept (ι := Nat) r_Ind10 (fun i => [(8, .v (.int .i64 i))]) 0 (fun _ => [])
  (fun i => i ≤ v.length ∧ ∀ j, j < i → p j = false) (fun i => v.length - i) 0 ⟨Nat.zero_le _, fun j hj => by omega⟩ (by (repeat (first | exact hE.mono oM | refine KLt.up ?_ kL))) (by ((try simp (disch := decide) only [hA, go_sem]) <;> exact kH)) (fun e => Weak.refl _ _ _) ?_
 rintro g1 hE1 hEE1 hg1 i ⟨hi, h0⟩
 by_cases hlt : i < v.length
 ·simp (disch := (first | decide | omega)) only [hA, hg1, eI, go_sem]
  refine ACalls_mono _ _ _ _ _ _ (hB ▸ hp i hlt) ?_
  rintro r b' l' ⟨rfl, rfl, rfl⟩
  cases hpi : p i
  ·simp (disch := (first | decide | omega)) only [hA, hg1, hpi, go_sem]
   refine ⟨i + 1, ⟨hlt, fun j hj => ?_⟩, by simp only; omega, ?_⟩
   ·rcases Nat.lt_or_ge j i with hji | hji
    ·exact h0 j hji
    ·have : j = i := by omega
     rw [this]; exact hpi
   exact Weak.kround (p := r_Ind10) (k := 0) (by ((repeat refine (kAny_up rfl).trans ?_); exact hEE1)) (by ((try simp (disch := decide) only [hA, go_sem]) <;> exact kH)) rfl hE1 (by simp) kV hR kL
  ·simp (disch := (first | decide | omega)) only [hA, hg1, hpi, go_sem]
   exact leave_pure (xs := [.v (.int .i64 i)]) (.inr rfl) (by simp (disch := (first | decide | omega)) only [resVs, resV, go_sem, hA, hg1]) kO hR hB ⟨by rw [firstP_at hlt h0 hpi]; rfl, rfl, rfl⟩
 ·simp (disch := (first | decide | omega)) only [hA, hg1, go_sem]
  obtain rfl : i = v.length := by omega
  exact leave_pure (xs := [.v (.int .i64 (-1))]) (.inr rfl) (by simp (disch := (first | decide | omega)) only [resVs, resV, go_sem, hA, hg1]) kO hR hB ⟨by rw [firstP_none h0]; rfl, rfl, rfl⟩
theorem contains1_spec (v : List Int) (k : Nat) (caps : List AV) (p : Nat → Bool) (hn : v.length ≤ 1000000) (b l : List Row)
  (hp : ∀ (i : Nat) (h : i < v.length), ACalls Try.prog k (.v (.int .i64 v[i]) :: caps) (b ++ l) [] (fun r b' l' => r = .v (.bool (p i)) ∧ b' = b ++ l ∧ l' = [])) :
  ACalls Try.prog 30 [.v (.isl 1 (v.map eI)), .fn k caps] b l (fun r b' l' => r = .v (.bool ((List.range v.length).any p)) ∧ b' = b ∧ l' = l) := by
 refine calls_kept a_Con1_ok rfl (by decide) ?_
 intro B g hB hR hE hA
 simp only [KArgs] at hA
 simp (disch := decide) only [a_Con1, hA, go_sem]
 refine ACalls_mono _ _ _ _ _ _ (index1_spec v k caps p hn B [] (by rw [List.append_nil, hB]; exact hp)) ?_
 rintro r b' l' ⟨rfl, rfl, rfl⟩
 simp (disch := decide) only [hA, go_sem]
 exact leave_pure (xs := [.v (.bool (decide (0 ≤ firstP p v.length)))]) (.inr rfl) (by simp (disch := (first | decide | omega)) only [resVs, resV, go_sem, hA]) kO hR hB ⟨by rw [firstP_ge]; rfl, rfl, rfl⟩
theorem leave_own {rs : List ARes} {Q : AV → List Row → List Row → Prop} {B e l : _} {ex : AExit} (hex : ex = .normal ∨ ex = .ret) {ver sz n : Nat} {rows : List (List IV)} {junk : List Row} (hx : resVs e B l rs = some [.sl B.length ver 0 n]) (hl : l = [.live ver sz (vs rows)] ++ junk)
  (hR : RowsLt B.length B) {b0 l0 : List Row} (hB : B = b0 ++ l0) (hq : Q (.sl B.length ver 0 n) b0 (l0 ++ [.live ver sz (vs rows)])) : Leaves rs Q b0.length ex e B l := by
 refine leave hex hx (y := .sl B.length ver 0 n) (Weak.trim (l1 := [.live ver sz (vs rows)]) hl ?_ (hR.mono oM) ?_) hB hq
 ·intro x hx
  simp [one] at hx
  subst hx
  simp (disch := omega) only [lts.down, Nat.reduceLT, Nat.reduceAdd]
 ·simp (disch := omega) only [lts.down, Nat.reduceLT, Nat.reduceAdd]
theorem eq1_spec (v w : List Int) (hv : v.length ≤ 1000000) (b l : List Row) : ACalls Try.prog 29 [.v (.isl 1 (v.map eI)), .v (.isl 1 (w.map eI))] b l (fun r b' l' => r = .v (.bool (decide (v = w))) ∧ b' = b ∧ l' = l) := by
 refine calls_kept a_Eq1_ok rfl (by decide) ?_
 intro B g hB hR hE hA
 simp only [KArgs] at hA
 by_cases hl : v.length = w.length
 ·have hd : ((v.length : Int) != (w.length : Int)) = false := by simp [hl]
  simp (disch := (first | decide | omega)) only [a_Eq1, hA, List.length_map, hd, go_sem]
  refine loop_kept (ι := Nat) r_Eq10 (fun i => [(13, .v (.int .i64 i))]) 0 (fun _ => [])
   (fun i => i ≤ v.length ∧ ∀ j, j < i → v.getD j 0 = w.getD j 0) (fun i => v.length - i) 0 ⟨Nat.zero_le _, fun j hj => by omega⟩ (by (repeat (first | exact hE.mono oM | refine KLt.up ?_ kL))) (by ((try simp (disch := decide) only [hA, go_sem]) <;> exact kH)) (fun e => Weak.refl _ _ _) ?_
  rintro g1 hE1 hEE1 hg1 i ⟨hi, h0⟩
  by_cases hlt : i < v.length
  ·have hlw : i < w.length := by omega
   by_cases he : v[i] = w[i]
   ·have hd2 : (v[i] != w[i]) = false := by simp [he]
    simp (disch := (first | decide | omega)) only [hA, hg1, eI, hd2, go_sem]
    refine ⟨i + 1, ⟨hlt, fun j hj => ?_⟩, by simp only; omega, ?_⟩
    ·rcases Nat.lt_or_ge j i with hji | hji
     ·exact h0 j hji
     ·have : j = i := by omega
      subst this
      rw [getD_at hlt, getD_at hlw, he]
    exact Weak.kround (p := r_Eq10) (k := 0) (by ((repeat refine (kAny_up rfl).trans ?_); exact hEE1)) (by ((try simp (disch := decide) only [hA, go_sem]) <;> exact kH)) rfl hE1 (by simp) kV hR kL
   ·have hd2 : (v[i] != w[i]) = true := by simp [he]
    have hne : decide (v = w) = false := by
     rw [decide_eq_false_iff_not]; intro h; subst h; exact he rfl
    simp (disch := (first | decide | omega)) only [hA, hg1, eI, hd2, go_sem]
    exact leave_pure (xs := [.v (.bool false)]) (.inr rfl) (by simp (disch := (first | decide | omega)) only [resVs, resV, go_sem, hA, hg1]) kO hR hB ⟨by rw [hne]; rfl, rfl, rfl⟩
  ·simp (disch := (first | decide | omega)) only [hA, hg1, go_sem]
   obtain rfl : i = v.length := by omega
   have he : decide (v = w) = true := decide_eq_true (ext_getD hl h0)
   exact leave_pure (xs := [.v (.bool true)]) (.inr rfl) (by simp (disch := (first | decide | omega)) only [resVs, resV, go_sem, hA, hg1]) kO hR hB ⟨by rw [he]; rfl, rfl, rfl⟩
 ·have hd : ((v.length : Int) != (w.length : Int)) = true := by simp; omega
  have hne : decide (v = w) = false := by
   rw [decide_eq_false_iff_not]; intro h; subst h; exact hl rfl
  simp (disch := (first | decide | omega)) only [a_Eq1, hA, List.length_map, hd, go_sem]
  exact leave_pure (xs := [.v (.bool false)]) (.inr rfl) (by simp (disch := (first | decide | omega)) only [resVs, resV, go_sem, hA]) kO hR hB ⟨by rw [hne]; rfl, rfl, rfl⟩
theorem clo1_spec (v : List Int) (h1 : 1 ≤ v.length) (ht : v.length ≤ 1000000) (b l : List Row) : ACalls Try.prog 58 [.v (.isl 1 (v.map eI))] b l (fun r b' l' => r = .sl (b.length + l.length) 1 0 v.length ∧ b' = b ∧ l' = l ++ [.live 1 1 (vs (v.map eI))]) := by
 refine calls_kept a_Clo1_ok rfl (by decide) ?_
 intro B g hB hR hE hA
 simp only [KArgs] at hA
 simp (disch := decide) only [a_Clo1, hA, go_sem]
 refine ⟨fun h => ?_, ?_⟩
 ·exfalso; rw [List.isEmpty_iff] at h; rw [List.map_eq_nil_iff.1 h] at h1; exact absurd h1 (by decide)
 rw [if_pos (by first | omega | (simp only [List.length_map]; omega))]
 simp (disch := (first | decide | omega)) only [hA, go_sem]
 exact leave_own (.inr rfl) (n := v.length) (rows := v.map eI) (junk := []) (by simp (disch := (first | decide | omega)) only [resVs, resV, hA, List.length_map, go_sem]) (by simp) hR hB ⟨by rw [hB, List.length_append], rfl, rfl⟩
def joTo (v w : List Int) (i : Nat) : List Int := (joinV v w).take i ++ v.drop i
theorem joTo_len {v w : List Int} (h : v.length = w.length) (i : Nat) (hi : i ≤ v.length) : (joTo v w i).length = v.length := by
 unfold joTo; rw [List.length_append, List.length_take, List.length_drop, joinV_len h]; omega
theorem joTo_zero (v w : List Int) : joTo v w 0 = v := by simp [joTo]
theorem joTo_all {v w : List Int} (h : v.length = w.length) : joTo v w v.length = joinV v w := by
 unfold joTo; rw [List.take_of_length_le (by rw [joinV_len h]; exact Nat.le_refl _), List.drop_length, List.append_nil]
theorem joTo_get {v w : List Int} (h : v.length = w.length) {i : Nat} (hi : i < v.length) (h2 : i < (joTo v w i).length) : (joTo v w i)[i] = v[i] := by
 simp only [joTo]
 rw [List.getElem_append_right (by rw [List.length_take, joinV_len h]; omega)]
 simp [joinV_len h, Nat.min_eq_left (Nat.le_of_lt hi)]
theorem joTo_set {v w : List Int} (h : v.length = w.length) {i : Nat} (hi : i < v.length) (hw : i < w.length) : ((joTo v w i).map eI).set i [.int .i64 (max v[i] w[i])] = (joTo v w (i + 1)).map eI := by
 rw [show [IV.int .i64 (max v[i] w[i])] = eI (max v[i] w[i]) from rfl, ← List.map_set]
 congr 1
 refine ext_getD (by rw [List.length_set, joTo_len h _ oM, joTo_len h _ hi]) (fun j hj => ?_)
 rw [List.length_set, joTo_len h _ oM] at hj
 have e : ∀ k, k ≤ v.length → ∀ j, j < v.length → (joTo v w k).getD j 0 = if j < k then max (v.getD j 0) (w.getD j 0) else v.getD j 0 := by
  intro k hk j hj
  unfold joTo
  by_cases hjk : j < k
  ·rw [if_pos hjk, ← joinV_get h hj]
   simp only [List.getD_eq_getElem?_getD]
   rw [List.getElem?_append_left (by rw [List.length_take, joinV_len h]; omega), List.getElem?_take_of_lt hjk]
  ·rw [if_neg hjk]
   simp only [List.getD_eq_getElem?_getD]
   rw [List.getElem?_append_right (by rw [List.length_take, joinV_len h]; omega), List.getElem?_drop, List.length_take, joinV_len h]
   congr 2; omega
 rw [e (i + 1) hi j hj]
 by_cases hij : i = j
 ·subst hij
  rw [if_pos oM, getD_at (by rw [List.length_set, joTo_len h _ oM]; exact hi), getD_at hi, getD_at hw]
  simp
 ·rw [getD_set_ne hij, e i oM j hj]
  by_cases hlt : j < i
  ·rw [if_pos hlt, if_pos oM]
  ·rw [if_neg hlt, if_neg oM]
theorem ACalls.next {P : Program} {f : Nat} {args : List AV} {b l B' L' : List Row} {x : AV} {K : AV → List Row → List Row → Prop} (h : ACalls P f args b l (fun r b' l' => r = x ∧ b' = B' ∧ l' = L')) (k : K x B' L') : ACalls P f args b l K := by
 refine ACalls_mono _ _ _ _ _ _ h ?_
 rintro r b' l' ⟨rfl, rfl, rfl⟩
 exact k
end Go.Proofs.Ytcemoeigegkmoaa
namespace Go.Proofs.Ytcemoeigegkmoaa
set_option linter.unusedVariables false
def eRw (r : List Int) : List IV := [.isl 1 (r.map eI)]
theorem fl_next {α : Type} {n : Nat} {f : Nat → α} {x : α} (h : f n = x) : fl n f ++ [x] = fl (n + 1) f := by
 rw [fl_snoc]
 refine fl_congr (fun j hj => ?_)
 unfold fUp
 by_cases hj2 : j = n
 ·rw [if_pos hj2, hj2, h]
 ·rw [if_neg hj2]
end Go.Proofs.Ytcemoeigegkmoaa
namespace Go.Proofs.Ytcemoeigegkmoaa
set_option linter.unusedVariables false
set_option linter.unusedSimpArgs false
attribute [local go_sem ↓] run_skip run_region run_draw run_seq run_block run_exit run_ret run_cond atN_app seqC_normal seqC_exit seqC_ret seqQ_normal seqQ_exit seqQ_ret blkQ_normal blkQ_exit blkQ_ret runOps_nil runOps_cons runD_nil runD_cons grdO_true grdO_false grdD_true grdD_false ifC_true ifC_false opS_val opS_call opS_two opK_app dS_val dS_call dS_two dK_app kUp_same kUp_ne
attribute [local go_sem] rechks_nil rechks_cons rechk gcase_true gcase_false ex_val ex_val0 gd_none gd_some ev_t ev_c evs_nil evs_cons evo_some evo_none hget_at hget_first hsetB_at hsetB_first hsetL_at hsetL_first ofOpt_some aop aload astore aslice aappend aiaddr aiaddrA afaddr alen alenS acopy amm acall alookup amupdate alenM comma keyEq apick binV binVB binVS isSh intOp strOp boolOp shOp eqC eqF and2 cellsOf setFrom fillA fillS rd rdI elems mk bounds AV.cell List.all_cons List.all_nil Bool.and_true Bool.true_and Bool.and_self List.length_cons List.length_nil List.length_append Nat.reduceAdd Nat.reduceSub Nat.reduceMul Nat.zero_add Nat.add_zero List.cons_append List.nil_append List.append_assoc List.append_nil List.getElem?_cons_zero List.getElem?_cons_succ List.getElem?_nil List.set_cons_zero List.set_cons_succ List.drop_zero List.drop_succ_cons List.take_zero List.take_succ_cons List.take_nil List.drop_nil List.map_cons List.map_nil Option.map_some if_true if_false Bool.false_eq_true and_self true_and and_true Nat.reduceLeDiff Nat.reduceLT Nat.le_refl Nat.reduceEqDiff ite_true ite_false beq_self_eq_true beq_true beq_false Bool.not_true Bool.not_false Bool.true_beq Bool.false_beq map_vs vs_len vs_get vs_take vs_drop vs_snoc1 vs_snoc2 vs_snoc3 vs_snoc5 vs_set1 vs_set2 vs_rep wrap_id le_T lt_T le_F lt_F leI_T ltI_T leI_F ltI_F geI gtI get_T decide_true decide_false room List.getElem?_map List.length_map List.length_take Int.toNat_natCast Nat.min_def Nat.min_self nth_kOf put_kOf put_kNo kOv_cons kOv_nil KHas KArgs List.getElem_cons_zero List.getElem_cons_succ
noncomputable def vcs (t : Tr) (x : Nat × Nat) : List Int := fl t.length fun q => (vc t x q : Int)
theorem frz0_lt {m id ver sz : Nat} {rows : List (List IV)} {x : AV} (h : AVlt m x) (hm : m ≤ id) : frz0 id ver sz rows x = x := by
 cases h with
 | sl i v o n hi => simp only [frz0]; rw [if_neg oM]
 | _ => rfl
theorem frz_lt {m id ver sz : Nat} {rows : List (List IV)} {x : AV} (h : AVlt m x) (hm : m ≤ id) : frz id ver sz rows x = x := by
 cases h with
 | agg cs hc =>
   simp only [frz]
   congr 1
   rw [List.map_congr_left (fun c hcc => frz0_lt (hc c hcc) hm), List.map_id']
 | tup cs hc =>
   simp only [frz]
   congr 1
   rw [List.map_congr_left (fun c hcc => frz0_lt (hc c hcc) hm), List.map_id']
 | sl i v o n hi => exact frz0_lt (.sl i v o n hi) hm
 | _ => rfl
theorem KHas.frz {f : Nat → AV} {m id ver sz : Nat} {rows : List (List IV)} (hm : m ≤ id) : ∀ {ov : List (Nat × AV)}, KHas f ov → KOvLt m ov → KHas (fun n => frz id ver sz rows (f n)) ov
 | [], _, _ => trivial
 | (n, x) :: r, h, ho => ⟨by show Go.Proofs.Ytcemoeigegkmoaa.frz id ver sz rows (f n) = x; rw [h.1]; exact frz_lt ho.1 hm, KHas.frz hm h.2 ho.2⟩
theorem Weak.kroundF {N : Nat} {p : List (Nat × Nat)} {ov : List (Nat × AV)} {f g : Nat → AV} {b l l1 junk : List Row} {k i ver sz : Nat} {rows : List (List IV)} (hi : l[i]? = some (.live ver sz (vs rows))) (he : kAny p f = g) (h : KHas f ov) (hl : (l.set i (.dead ver)).map (rowMap (frz0 (b.length + i) ver sz rows)) = l1 ++ junk) (hE : KLt (b.length + k) g) (hk : k ≤ l1.length) (hki : l1.length ≤ i) (ho : KOvLt (b.length + l1.length) ov) (hb : RowsLt b.length b) (h1 : RowsLt (b.length + l1.length) l1) :
  Weak (kOf N f) b l (kOf N (kOv ov g)) b l1 := by
 have h2 := Weak.freezeR (e := kOf N f) (b := b) hi
 have h3 : (kOf N f).map (frz (b.length + i) ver sz rows) = kOf N (fun n => frz (b.length + i) ver sz rows (f n)) := by unfold kOf; rw [List.map_map]; rfl
 rw [h3] at h2
 refine h2.trans ?_
 refine Weak.kround (p := p) (k := k) ?_ (h.frz (m := b.length + l1.length) oM ho) hl hE hk ho hb h1
 rw [← he]
 funext n
 unfold kAny
 split
 ·rfl
 ·rename_i hn
  have hf : f n = g n := by rw [← he]; unfold kAny; rw [if_neg hn]
  show frz (b.length + i) ver sz rows (f n) = f n
  rw [hf]
  exact frz_lt (m := b.length + k) (id := b.length + i) (hE n) oM

noncomputable def stRow (t : Tr) (p n : Nat) : List (List IV) := fl n fun i => [.isl 1 ((vcs t (p, i + 1)).map eI)]
noncomputable def stAll (t : Tr) (n : Nat) : List (List IV) := fl n fun p => [.isl 1 (stRow t p (evsOf t p).length)]
theorem stRow_next {t : Tr} {p n : Nat} : stRow t p n ++ [[.isl 1 ((vcs t (p, n + 1)).map eI)]] = stRow t p (n + 1) := fl_next rfl
end Go.Proofs.Ytcemoeigegkmoaa
namespace Go.Proofs.Ytcemoeigegkmoaa
set_option linter.unusedVariables false
set_option linter.unusedSimpArgs false
theorem fl_const {α : Type} {n : Nat} {x : α} : fl n (fun _ => x) = List.replicate n x := by
 apply List.ext_getElem?
 intro j
 by_cases hj : j < n
 ·rw [fl_get hj, List.getElem?_replicate_of_lt hj]
 ·rw [fl_none oM, List.getElem?_eq_none (by simp; omega)]
def remN (len D : Nat → Nat) : Nat → Nat
 | 0 => 0
 | n + 1 => remN len D n + (len n - D n)
theorem remN_up {len D : Nat → Nat} {p v : Nat} : ∀ {n : Nat}, n ≤ p → remN len (fUp D p v) n = remN len D n
 | 0, _ => rfl
 | n + 1, h => by
   unfold remN
   rw [remN_up oM, fUp_ne oM]
theorem remN_step {len D : Nat → Nat} {p : Nat} (hd : D p < len p) : ∀ {n : Nat}, p < n → remN len (fUp D p (D p + 1)) n + 1 = remN len D n
 | 0, h => by omega
 | n + 1, h => by
   unfold remN
   by_cases hp : p < n
   ·have := remN_step (n := n) hd hp
    rw [fUp_ne oM]; omega
   ·obtain rfl : p = n := by omega
    rw [remN_up (Nat.le_refl _), fUp_same]; omega
def remT (t : Tr) (D : Nat → Nat) : Nat := remN (fun p => (evsOf t p).length) D t.length
theorem remT_step {t : Tr} {D : Nat → Nat} {p : Nat} (hp : p < t.length) (hd : D p < (evsOf t p).length) : remT t (fUp D p (D p + 1)) + 1 = remT t D := remN_step (len := fun p => (evsOf t p).length) hd hp
def Rdy (t : Tr) (D : Nat → Nat) (p : Nat) : Prop := D p < (evsOf t p).length ∧ ((evAt t (p, D p + 1)).kind = 3 → (sndr t (p, D p + 1)).2 ≤ D (sndr t (p, D p + 1)).1)
theorem none_left {t : Tr} (hv : Vok t) {D : Nat → Nat} (hD : ∀ p, p < t.length → D p ≤ (evsOf t p).length) (h : ∀ p, p < t.length → ¬ Rdy t D p) : ∀ p, p < t.length → D p = (evsOf t p).length := by
 intro p hp
 refine Classical.byContradiction fun hn => ?_
 obtain ⟨q, h1, h2, h3⟩ := some_ready hv D hD ⟨p, hp, by have := hD p hp; omega⟩
 exact h q h1 ⟨h2, h3⟩
noncomputable def sentV (t : Tr) (D : Nat → Nat) (m : Nat) : IV := if 0 < (findV t 2 m).2 ∧ (findV t 2 m).2 ≤ D (findV t 2 m).1 then .isl 1 ((vcs t (findV t 2 m)).map eI) else .zsl
noncomputable def sentL (t : Tr) (D : Nat → Nat) : List (List IV) := fl 200 fun m => [sentV t D m]
theorem sentL_zero {t : Tr} : List.replicate 200 [AV.v IV.zsl] = vs (sentL t fun _ => 0) := by
 have : sentL t (fun _ => 0) = fl 200 fun _ => [.zsl] := by
  refine fl_congr (fun m _ => ?_)
  unfold sentV; rw [if_neg (fun h => by have := h.1; have := h.2; simp only at this; omega)]
 rw [this]
 unfold vs
 rw [fl_map]
 exact fl_const.symm
theorem sndr_own {t : Tr} (hv : Vok t) {x : Nat × Nat} (hx : x ∈ ids t) (hk : (evAt t x).kind = 2) : findV t 2 (evAt t x).msg = x := by
 have h := hv.pair x hx
 unfold pairF at h
 rw [if_pos (by rw [hk]; rfl)] at h
 have h2 : (findL t 2 (evAt t x).msg == some x) = true := by
  cases h3 : findL t 2 (evAt t x).msg == some x
  ·rw [h3] at h; simp at h
  ·rfl
 rw [findV_is (mem_ids.1 hx).2.1] at h2
 exact of_decide_eq_true h2
theorem msg_in {t : Tr} (hv : Vok t) {x : Nat × Nat} (hx : x ∈ ids t) (hk : (evAt t x).kind = 2 ∨ (evAt t x).kind = 3) : ∃ m : Nat, (evAt t x).msg = m ∧ m < 200 := by
 have h := formF_formed (hv.form x hx)
 unfold formedB at h
 rw [if_neg (by rcases hk with e | e <;> rw [e] <;> decide), if_pos (by rcases hk with e | e <;> rw [e] <;> decide)] at h
 simp only [Bool.and_eq_true, inB, decide_eq_true_eq] at h
 exact ⟨(evAt t x).msg.toNat, by omega, by omega⟩
theorem findV_some2 {t : Tr} {k m : Int} (h : 0 < (findV t k m).2) : findV t k m ∈ ids t ∧ (evAt t (findV t k m)).kind = k ∧ (evAt t (findV t k m)).msg = m := by
 unfold findV firstOf at h ⊢
 cases hf : (ids t).find? (keyB t k m) with
 | none => rw [hf] at h; simp at h
 | some y =>
   have h1 := List.mem_of_find?_eq_some hf
   have h2 := List.find?_some hf
   simp only [keyB, Bool.and_eq_true, beq_iff_eq] at h2
   exact ⟨h1, h2⟩
theorem sentV_same {t : Tr} {D : Nat → Nat} {p m : Nat} (h : findV t 2 m ≠ (p, D p + 1)) : sentV t (fUp D p (D p + 1)) m = sentV t D m := by
 unfold sentV
 by_cases hp : (findV t 2 m).1 = p
 ·rw [hp, fUp_same]
  have : (findV t 2 m).2 ≠ D p + 1 := fun e => h (Prod.ext hp e)
  by_cases hc : 0 < (findV t 2 m).2 ∧ (findV t 2 m).2 ≤ D p
  ·rw [if_pos hc, if_pos oM]
  ·rw [if_neg hc, if_neg oM]
 ·rw [fUp_ne hp]
theorem sentL_other {t : Tr} {D : Nat → Nat} {p : Nat} (hk : (evAt t (p, D p + 1)).kind ≠ 2) : sentL t (fUp D p (D p + 1)) = sentL t D := by
 refine fl_congr (fun m _ => ?_)
 rw [sentV_same]
 intro e
 refine hk ?_
 have := findV_some2 (t := t) (k := 2) (m := m) (by rw [e]; simp)
 rw [e] at this
 exact this.2.1
theorem sentL_send {t : Tr} (hv : Vok t) {D : Nat → Nat} {p m : Nat} (hx : (p, D p + 1) ∈ ids t) (hk : (evAt t (p, D p + 1)).kind = 2) (hm : (evAt t (p, D p + 1)).msg = m) : (sentL t D).set m [.isl 1 ((vcs t (p, D p + 1)).map eI)] = sentL t (fUp D p (D p + 1)) := by
 have ho := sndr_own hv hx hk
 rw [hm] at ho
 unfold sentL
 rw [fl_set]
 refine fl_congr (fun j _ => ?_)
 by_cases hj : j = m
 ·subst hj
  rw [fUp_same]
  unfold sentV
  rw [ho, if_pos ⟨by simp, by simp [fUp_same]⟩]
 ·rw [fUp_ne hj, sentV_same]
  intro e
  have := findV_some2 (t := t) (k := 2) (m := j) (by rw [e]; simp)
  rw [e, hm] at this
  have := this.2.2
  omega
theorem sentV_recv {t : Tr} (hv : Vok t) {D : Nat → Nat} {p m : Nat} (hx : (p, D p + 1) ∈ ids t) (hk : (evAt t (p, D p + 1)).kind = 3) (hm : (evAt t (p, D p + 1)).msg = m) :
  sentV t D m = if (sndr t (p, D p + 1)).2 ≤ D (sndr t (p, D p + 1)).1 then .isl 1 ((vcs t (sndr t (p, D p + 1))).map eI) else .zsl := by
 obtain ⟨h1, _⟩ := back_mem hv hx (sndr_back hk)
 have h2 := (mem_ids.1 h1).2.1
 unfold sndr at h2 ⊢
 rw [hm] at h2 ⊢
 unfold sentV
 by_cases hc : (findV t 2 m).2 ≤ D (findV t 2 m).1
 ·rw [if_pos ⟨by omega, hc⟩, if_pos hc]
 ·rw [if_neg (fun h => hc h.2), if_neg hc]
noncomputable def prvV (t : Tr) (p k : Nat) : List Int := fl t.length fun q => (vPrev t p k q : Int)
theorem prvV_zero {t : Tr} {p : Nat} : (prvV t p 0).map eI = List.replicate t.length [.int .i64 0] := by
 unfold prvV
 rw [fl_map, ← fl_const]
 refine fl_congr (fun q _ => ?_)
 simp [vPrev, eI]
theorem prvV_succ {t : Tr} {p k : Nat} : prvV t p (k + 1) = vcs t (p, k + 1) := by
 refine fl_congr (fun q _ => ?_)
 unfold vPrev; rw [if_neg oM]
noncomputable def rcvV (t : Tr) (p k : Nat) : List Int := if (evAt t (p, k + 1)).kind = 3 then joinV (prvV t p k) (vcs t (sndr t (p, k + 1))) else prvV t p k
theorem rcvV_len {t : Tr} {p k : Nat} : (rcvV t p k).length = t.length := by
 unfold rcvV
 split
 ·rw [joinV_len (by simp [prvV, vcs, fl_len])]; simp [prvV, fl_len]
 ·simp [prvV, fl_len]
theorem vcs_set {t : Tr} (hv : Vok t) {p k : Nat} (hx : (p, k + 1) ∈ ids t) : (rcvV t p k).set p ((rcvV t p k).getD p 0 + 1) = vcs t (p, k + 1) := by
 have hl := rcvV_len (t := t) (p := p) (k := k)
 have hp := (mem_ids2.1 hx).1
 have hg : ∀ q, q < t.length → (rcvV t p k).getD q 0 = ((max (vPrev t p k q) (vRecv t (p, k + 1) q) : Nat) : Int) := by
  intro q hq
  unfold rcvV vRecv
  split
  ·rw [joinV_get (by simp [prvV, vcs, fl_len]) (by simp [prvV, fl_len, hq])]
   unfold prvV vcs
   rw [fl_getD hq, fl_getD hq]
   omega
  ·unfold prvV; rw [fl_getD hq]; omega
 refine ext_getD (by rw [List.length_set, hl]; simp [vcs, fl_len]) (fun q hq => ?_)
 rw [List.length_set, hl] at hq
 unfold vcs
 rw [fl_getD hq, vc_step hv hx hq]
 by_cases hqp : q = p
 ·subst hqp
  rw [getD_at (by rw [List.length_set, hl]; exact hq), List.getElem_set_self, hg q hq, if_pos rfl]; omega
 ·rw [getD_set_ne (fun e => hqp e.symm), hg q hq, if_neg hqp]; omega
end Go.Proofs.Ytcemoeigegkmoaa
namespace Go.Proofs.Ytcemoeigegkmoaa
set_option linter.unusedVariables false
set_option linter.unusedSimpArgs false
attribute [local go_sem ↓] run_skip run_region run_draw run_seq run_block run_exit run_ret run_cond atN_app seqC_normal seqC_exit seqC_ret seqQ_normal seqQ_exit seqQ_ret blkQ_normal blkQ_exit blkQ_ret runOps_nil runOps_cons runD_nil runD_cons grdO_true grdO_false grdD_true grdD_false ifC_true ifC_false opS_val opS_call opS_two opK_app dS_val dS_call dS_two dK_app kUp_same kUp_ne
attribute [local go_sem] rechks_nil rechks_cons rechk gcase_true gcase_false ex_val ex_val0 gd_none gd_some ev_t ev_c evs_nil evs_cons evo_some evo_none hget_at hget_first hsetB_at hsetB_first hsetL_at hsetL_first ofOpt_some aop aload astore aslice aappend aiaddr aiaddrA afaddr alen alenS acopy amm acall alookup amupdate alenM comma keyEq apick binV binVB binVS isSh intOp strOp boolOp shOp eqC eqF and2 cellsOf setFrom fillA fillS rd rdI elems mk bounds AV.cell List.all_cons List.all_nil Bool.and_true Bool.true_and Bool.and_self List.length_cons List.length_nil List.length_append Nat.reduceAdd Nat.reduceSub Nat.reduceMul Nat.zero_add Nat.add_zero List.cons_append List.nil_append List.append_assoc List.append_nil List.getElem?_cons_zero List.getElem?_cons_succ List.getElem?_nil List.set_cons_zero List.set_cons_succ List.drop_zero List.drop_succ_cons List.take_zero List.take_succ_cons List.take_nil List.drop_nil List.map_cons List.map_nil Option.map_some if_true if_false Bool.false_eq_true and_self true_and and_true Nat.reduceLeDiff Nat.reduceLT Nat.le_refl Nat.reduceEqDiff ite_true ite_false beq_self_eq_true beq_true beq_false Bool.not_true Bool.not_false Bool.true_beq Bool.false_beq map_vs vs_len vs_get vs_take vs_drop vs_snoc1 vs_snoc2 vs_snoc3 vs_snoc5 vs_set1 vs_set2 vs_rep wrap_id le_T lt_T le_F lt_F leI_T ltI_T leI_F ltI_F geI gtI get_T decide_true decide_false room List.getElem?_map List.length_map List.length_take Int.toNat_natCast Nat.min_def Nat.min_self nth_kOf put_kOf put_kNo kOv_cons kOv_nil KHas KArgs List.getElem_cons_zero List.getElem_cons_succ
def a_knows : AFunc := ⟨1,52,[.cell 2 (some 3)],(.seq (.region [⟨some 1,.box (.t 0),none⟩,⟨some 2,.alloc [(.v .zsl),(.v .nilm),(.v .nilm)],none⟩]) (.seq (.region [⟨some 9,.load (some 1) (.t 1),none⟩,⟨some 10,.mkmap,none⟩,⟨some 11,.mkmap,none⟩,⟨some 12,.build [(.v .zsl),(.v .nilm),(.v .nilm)] [(0,1,(.t 9)),(1,1,(.t 10)),(2,1,(.t 11))],none⟩,⟨some 3,.alloc [(.v .zsl),(.v .nilm),(.v .nilm)],none⟩,⟨none,.store 3 (.t 3) (.t 12),none⟩]) (.seq (.seq (.region [⟨some 13,.faddr 0 (.t 1),none⟩,⟨some 14,.load none (.t 13),none⟩,⟨some 15,.len (.t 14),none⟩,⟨some 16,.mv (.c (.v (.int .i64 0))),none⟩]) (.block 0 (.loop (.seq (.region [⟨some 17,.bin .lss (.t 16) (.t 15),none⟩]) (.seq (.cond (.t 17) .skip (.exit 0)) (.seq (.block 1 (.seq (.region [⟨some 18,.mv (.t 16),none⟩,⟨some 19,.iaddr 3 (.t 14) (.t 16),none⟩,⟨some 20,.load (some 3) (.t 19),none⟩,⟨some 5,.alloc [(.v (.str ⟨#[]⟩)),(.v .zsl),(.v .zsl)],none⟩,⟨some 4,.mv (.t 18),none⟩,⟨none,.store 3 (.t 5) (.t 20),none⟩]) (.seq (.region [⟨some 21,.faddr 2 (.t 5),none⟩,⟨some 22,.load none (.t 21),none⟩,⟨some 23,.len (.t 22),none⟩,⟨some 24,.mv (.c (.v (.int .i64 0))),none⟩]) (.block 2 (.loop (.seq (.region [⟨some 25,.bin .lss (.t 24) (.t 23),none⟩]) (.seq (.cond (.t 25) .skip (.exit 2)) (.seq (.block 3 (.seq (.region [⟨some 26,.mv (.t 24),none⟩,⟨some 27,.iaddr 5 (.t 22) (.t 24),none⟩,⟨some 28,.load (some 5) (.t 27),none⟩,⟨some 7,.alloc [(.v (.int .i64 0)),(.v (.int .i64 0)),(.v (.int .i64 0)),(.v (.int .i64 0)),(.v .zsl)],none⟩,⟨some 6,.mv (.t 26),none⟩,⟨none,.store 5 (.t 7) (.t 28),none⟩]) (.seq (.region [⟨some 29,.mv (.t 4),none⟩,⟨some 30,.mv (.t 6),none⟩,⟨some 31,.bin .add (.t 30) (.c (.v (.int .i64 1))),none⟩,⟨some 32,.build [(.v (.int .i64 0)),(.v (.int .i64 0))] [(0,1,(.t 29)),(1,1,(.t 31))],none⟩,⟨some 8,.alloc [(.v (.int .i64 0)),(.v (.int .i64 0))],none⟩,⟨none,.store 2 (.t 8) (.t 32),none⟩]) (.seq (.region [⟨some 33,.faddr 0 (.t 7),none⟩,⟨some 34,.load none (.t 33),none⟩]) (.block 4 (.seq (.region [⟨some 36,.bin .eql (.t 34) (.c (.v (.int .i64 2))),none⟩,⟨some 35,.mv (.t 36),none⟩]) (.cond (.t 35) (.region [⟨some 37,.faddr 1 (.t 3),none⟩,⟨some 38,.load none (.t 37),none⟩,⟨some 39,.faddr 2 (.t 7),none⟩,⟨some 40,.load none (.t 39),none⟩,⟨some 41,.load (some 2) (.t 8),none⟩,⟨none,.mupdate (.one .i) (.t 38) (.t 40) (.t 41),none⟩]) (.seq (.region [⟨some 43,.bin .eql (.t 34) (.c (.v (.int .i64 3))),none⟩,⟨some 42,.mv (.t 43),none⟩]) (.cond (.t 42) (.region [⟨some 44,.faddr 2 (.t 3),none⟩,⟨some 45,.load none (.t 44),none⟩,⟨some 46,.faddr 2 (.t 7),none⟩,⟨some 47,.load none (.t 46),none⟩,⟨some 48,.load (some 2) (.t 8),none⟩,⟨none,.mupdate (.one .i) (.t 45) (.t 47) (.t 48),none⟩]) .skip))))))))) (.region [⟨some 49,.bin .add (.t 24) (.c (.v (.int .i64 1))),none⟩,⟨some 24,.mv (.t 49),none⟩]))))))))) (.region [⟨some 50,.bin .add (.t 16) (.c (.v (.int .i64 1))),none⟩,⟨some 16,.mv (.t 50),none⟩]))))))) (.seq (.region [⟨some 51,.load (some 3) (.t 3),none⟩,⟨none,.store 3 (.t 2) (.t 51),none⟩]) .ret))))⟩
theorem a_knows_ok : cFunc Try.prog 172 = some a_knows := by kernel_rfl
def r_knows0 : List (Nat × Nat) := [(4, 8), (16, 50)]
def r_knows1 : List (Nat × Nat) := [(6, 8), (24, 49)]
def a_kevent : AFunc := ⟨2,18,[.cell 4 (some 5)],(.seq (.region [⟨some 2,.box (.t 0),none⟩,⟨some 3,.box (.t 1),none⟩,⟨some 4,.alloc [(.v (.int .i64 0)),(.v (.int .i64 0)),(.v (.int .i64 0)),(.v (.int .i64 0)),(.v .zsl)],none⟩]) (.seq (.draw [⟨0,⟨some 5,.faddr 0 (.t 2),none⟩,[]⟩,⟨1,⟨some 6,.faddr 0 (.t 5),none⟩,[]⟩,⟨2,⟨some 7,.load none (.t 6),none⟩,[]⟩,⟨3,⟨some 8,.faddr 0 (.t 3),none⟩,[]⟩,⟨4,⟨some 9,.load none (.t 8),none⟩,[]⟩,⟨5,⟨some 10,.iaddr 3 (.t 7) (.t 9),none⟩,[]⟩,⟨6,⟨some 11,.faddr 2 (.t 10),none⟩,[]⟩,⟨7,⟨some 12,.load none (.t 11),none⟩,[]⟩,⟨8,⟨some 13,.faddr 1 (.t 3),none⟩,[]⟩,⟨9,⟨some 14,.load none (.t 13),none⟩,[]⟩,⟨10,⟨some 15,.bin .sub (.t 14) (.c (.v (.int .i64 1))),none⟩,[]⟩,⟨11,⟨some 16,.iaddr 5 (.t 12) (.t 15),none⟩,[]⟩,⟨12,⟨some 17,.load (some 5) (.t 16),none⟩,[]⟩,⟨13,⟨none,.store 5 (.t 4) (.t 17),none⟩,[]⟩]) .ret))⟩
theorem a_kevent_ok : cFunc Try.prog 194 = some a_kevent := by kernel_rfl
def a_kback : AFunc := ⟨2,34,[.tmp 4],(.seq (.region [⟨some 2,.box (.t 0),none⟩,⟨some 3,.box (.t 1),none⟩,⟨some 4,.mv (.c (.v .zsl)),none⟩]) (.seq (.region [⟨some 5,.mv (.c (.v .zsl)),none⟩]) (.seq (.seq (.region [⟨some 7,.faddr 1 (.t 3),none⟩,⟨some 8,.load none (.t 7),none⟩,⟨some 9,.bin .gtr (.t 8) (.c (.v (.int .i64 1))),none⟩]) (.cond (.t 9) (.region [⟨some 10,.mv (.t 5),none⟩,⟨some 11,.faddr 0 (.t 3),none⟩,⟨some 12,.load none (.t 11),none⟩,⟨some 13,.faddr 1 (.t 3),none⟩,⟨some 14,.load none (.t 13),none⟩,⟨some 15,.bin .sub (.t 14) (.c (.v (.int .i64 1))),none⟩,⟨some 16,.build [(.v (.int .i64 0)),(.v (.int .i64 0))] [(0,1,(.t 12)),(1,1,(.t 15))],none⟩,⟨some 17,.bslice 2 [(.v (.int .i64 0)),(.v (.int .i64 0))] 1 [(0,(.t 16))],none⟩,⟨some 18,.append 2 16 (.t 10) (.t 17),none⟩,⟨some 5,.mv (.t 18),none⟩]) .skip)) (.seq (.seq (.region [⟨some 19,.load (some 3) (.t 2),none⟩,⟨some 20,.load (some 2) (.t 3),none⟩,⟨some 21,.call (.c (.fn 194 [])) [(.t 19),(.t 20)],none⟩,⟨some 6,.alloc [(.v (.int .i64 0)),(.v (.int .i64 0)),(.v (.int .i64 0)),(.v (.int .i64 0)),(.v .zsl)],none⟩,⟨none,.store 5 (.t 6) (.t 21),none⟩]) (.seq (.region [⟨some 22,.faddr 0 (.t 6),none⟩,⟨some 23,.load none (.t 22),none⟩,⟨some 24,.bin .eql (.t 23) (.c (.v (.int .i64 3))),none⟩]) (.cond (.t 24) (.region [⟨some 25,.mv (.t 5),none⟩,⟨some 26,.faddr 1 (.t 2),none⟩,⟨some 27,.load none (.t 26),none⟩,⟨some 28,.faddr 2 (.t 6),none⟩,⟨some 29,.load none (.t 28),none⟩,⟨some 30,.lookup (.one .i) (.agg [(.v (.int .i64 0)),(.v (.int .i64 0))]) false (.t 27) (.t 29),none⟩,⟨some 31,.bslice 2 [(.v (.int .i64 0)),(.v (.int .i64 0))] 1 [(0,(.t 30))],none⟩,⟨some 32,.append 2 16 (.t 25) (.t 31),none⟩,⟨some 5,.mv (.t 32),none⟩]) .skip))) (.seq (.region [⟨some 33,.mv (.t 5),none⟩,⟨some 4,.mv (.t 33),none⟩]) .ret)))))⟩
theorem a_kback_ok : cFunc Try.prog 190 = some a_kback := by kernel_rfl

def mpL (t : Tr) (k : Int) (l : List (Nat × Nat)) : List (List AV) := (l.filter fun x => (evAt t x).kind == k).map fun x => [.v (.int .i64 (evAt t x).msg), idA x]
theorem findM_mp {t : Tr} {k m : Int} : ∀ l, findM (.one .i) (.v (.int .i64 m)) (mpL t k l) = some ((l.find? (keyB t k m)).map idA)
 | [] => rfl
 | x :: l => by
   have ih := findM_mp (t := t) (k := k) (m := m) l
   unfold mpL at ih ⊢
   cases hk : (evAt t x).kind == k with
   | false =>
     rw [List.filter_cons_of_neg (by simp [hk]), ih, List.find?_cons_of_neg (by simp [keyB, hk])]
   | true =>
     rw [List.filter_cons_of_pos (by simp [hk]), List.map_cons]
     cases hm : (evAt t x).msg == m with
     | true =>
       rw [List.find?_cons_of_pos (by simp [keyB, hk, hm])]
       have : m = (evAt t x).msg := by simpa using (beq_iff_eq.1 hm).symm
       simp [findM, keyEq, eqF, this]
     | false =>
       rw [List.find?_cons_of_neg (by simp [keyB, hk, hm]), ← ih]
       have : (m == (evAt t x).msg) = false := by
        rw [beq_eq_false_iff_ne] at hm ⊢; exact fun h => hm h.symm
       simp [findM, keyEq, eqF, this]
theorem updM_new {kk : KK} {x v : AV} : ∀ {els : List (List AV)}, findM kk x els = some none → updM kk x v els = some (els ++ [[x, v]])
 | [], _ => rfl
 | [y, u] :: r, h => by
   simp only [findM] at h
   simp only [updM]
   split at h
   ·cases h
   ·rename_i hq
    simp only [updM_new h, Option.map_some, List.cons_append]
   ·cases h
 | [] :: _, h => by simp [findM] at h
 | [_] :: _, h => by simp [findM] at h
 | (_ :: _ :: _ :: _) :: _, h => by simp [findM] at h
theorem find_fresh {t : Tr} {k : Int} {p i : Nat} (hp : p < t.length) (hi : i < t[p].evs.length) {m : Int} (h : findL t k m = some (p, i + 1)) : (idsTo t p i).find? (keyB t k m) = none := by
 obtain ⟨c, hc⟩ := idsTo_prefix t p (i + 1) hp hi
 have hn := nodup_ids t
 rw [← hc, idsTo_succ] at hn
 cases hf : (idsTo t p i).find? (keyB t k m) with
 | none => rfl
 | some y =>
   have e : findL t k m = (ids t).find? (keyB t k m) := rfl
   rw [e, ← hc, idsTo_succ, List.append_assoc, List.find?_append, hf] at h
   simp at h
   subst h
   have hm := List.mem_of_find?_eq_some hf
   have hd := (List.nodup_append.1 (List.nodup_append.1 hn).1).2.2
   exact absurd rfl (hd _ hm _ (by simp))
theorem mp_next {t : Tr} {k : Int} {l : List (Nat × Nat)} {x : Nat × Nat} (hk : (evAt t x).kind = k) (hf : l.find? (keyB t k (evAt t x).msg) = none) : updM (.one .i) (.v (.int .i64 (evAt t x).msg)) (idA x) (mpL t k l) = some (mpL t k (l ++ [x])) := by
 rw [updM_new (by rw [findM_mp, hf]; rfl)]
 unfold mpL
 rw [List.filter_append, List.map_append, List.filter_cons_of_pos (by simp [hk])]
 rfl
theorem mp_skip {t : Tr} {k : Int} {l : List (Nat × Nat)} {x : Nat × Nat} (hk : (evAt t x).kind ≠ k) : mpL t k (l ++ [x]) = mpL t k l := by
 unfold mpL
 rw [List.filter_append, List.filter_cons_of_neg (by simpa using hk)]
 simp
def kA (t : Tr) (s r : Nat) : AV := .agg [.v (eT t), .mp s 0, .mp r 0]
def knoR (t : Tr) (n : Nat) (l : List (Nat × Nat)) : List Row := [.live 0 1 [[.v (eT t)]], .live 0 3 [[.v (eT t), .mp (n + 2) 0, .mp (n + 3) 0]], .live 0 0 (mpL t 2 l), .live 0 0 (mpL t 3 l), .live 0 3 [[.v (eT t), .mp (n + 2) 0, .mp (n + 3) 0]]]
def knoR0 (t : Tr) (n : Nat) (l : List (Nat × Nat)) : List Row := [.live 0 1 [[.v (eT t)]], .live 0 3 [[.v .zsl, .v .nilm, .v .nilm]], .live 0 0 (mpL t 2 l), .live 0 0 (mpL t 3 l), .live 0 3 [[.v (eT t), .mp (n + 2) 0, .mp (n + 3) 0]]]
theorem mpL_lt {t : Tr} {k : Int} {l : List (Nat × Nat)} {m : Nat} : ∀ row ∈ mpL t k l, ∀ c ∈ row, AVlt m c := by
 intro row hr c hc
 obtain ⟨x, _, rfl⟩ := List.mem_map.1 hr
 simp only [List.mem_cons, List.not_mem_nil, or_false] at hc
 rcases hc with rfl | rfl
 ·exact .v _
 ·unfold idA; simp only [lts.down, Nat.reduceLT, Nat.reduceAdd]
theorem knoR0_lt {t : Tr} {n m : Nat} {l : List (Nat × Nat)} {T : List Row} (h : n + 5 ≤ m) (hT : RowsLt m T) : RowsLt m (knoR0 t n l ++ T) := by
 intro id ver sz els hr row hrow c hc
 match id, hr with
 | 0, hr => cases hr; simp at hrow; subst hrow; simp at hc; subst hc; exact .v _
 | 1, hr => cases hr; simp at hrow; subst hrow; simp at hc; rcases hc with rfl | rfl <;> exact .v _
 | 2, hr => cases hr; exact mpL_lt row hrow c hc
 | 3, hr => cases hr; exact mpL_lt row hrow c hc
 | 4, hr => cases hr; simp at hrow; subst hrow; simp at hc; rcases hc with rfl | rfl | rfl <;> first | exact .v _ | exact .mp _ _ oM
 | id + 5, hr => exact hT id ver sz els hr row hrow c hc
theorem kN {p : Prop} (h : p := by simp only [lts.down, Nat.reduceLT, Nat.reduceAdd]) : p := h
theorem knows_spec (t : Tr) (hv : Vok t) (hS : Small t) (b l : List Row) :
  ACalls Try.prog 172 [.agg [.v (eT t)]] b l (fun r b' l' => r = kA t (b.length + l.length + 2) (b.length + l.length + 3) ∧ b' = b ∧ l' = l ++ knoR t (b.length + l.length) (ids t)) := by
 refine calls_kept a_knows_ok rfl (by decide) ?_
 intro B g hB hR hE hA
 simp only [KArgs] at hA
 have hnp := hS.np
 have hBl : B.length = b.length + l.length := by rw [hB, List.length_append]
 simp (disch := decide) only [a_knows, eT, hA, List.length_map, go_sem]
 refine loop_kept (ι := Nat) r_knows0 (fun p => [(16, .v (.int .i64 p))]) 5 (fun p => knoR0 t B.length (idsTo t p 0))
  (fun p => p ≤ t.length) (fun p => t.length - p) 0 (Nat.zero_le _) (by (repeat (first | exact hE.mono oM | refine KLt.up ?_ kL))) (by ((try simp (disch := decide) only [hA, go_sem]) <;> exact kH)) (fun e => Weak.refl _ _ _) ?_
 intro g1 hE1 hEE1 hg1 p hp
 by_cases hlt : p < t.length
 ·have hne := hS.ne _ (List.getElem_mem hlt)
  simp (disch := (first | decide | omega)) only [hA, hg1, ePr, List.length_map, knoR0, go_sem]
  refine loop_kept (ι := Nat) r_knows1 (fun i => [(24, .v (.int .i64 i))]) 6 (fun i => knoR0 t B.length (idsTo t p i) ++ [.live 0 3 [[.v (.str t[p].name), .v (.isl 2 (t[p].vars.map eVr)), .v (.isl 5 (t[p].evs.map eEv))]]])
   (fun i => i ≤ t[p].evs.length) (fun i => t[p].evs.length - i) 0 (Nat.zero_le _) (by (repeat (first | exact hE1.mono oM | refine KLt.up ?_ kL))) (by ((try simp (disch := decide) only [hA, hg1, go_sem]) <;> exact kH)) (fun e => Weak.refl _ _ _) ?_
  intro g2 hE2 hEE2 hg2 i hi
  by_cases hil : i < t[p].evs.length
  ·have hx : (p, i + 1) ∈ ids t := mem_ids.2 ⟨hlt, by simp, by simp; omega⟩
   have hev := evAt_eq hlt hil
   have hsc := idsTo_succ t p i
   have hc : ((i + 1 : Nat) : Int) = (i : Int) + 1 := by omega
   have fin : ∀ l2, KHas l2 [(24, .v (.int .i64 ((i + 1 : Nat) : Int)))] → (∀ n, kAny r_knows1 l2 n = g2 n) → ∀ junk, Weak (kOf 52 l2) B (knoR0 t B.length (idsTo t p (i + 1)) ++ [.live 0 3 [[.v (.str t[p].name), .v (.isl 2 (t[p].vars.map eVr)), .v (.isl 5 (t[p].evs.map eEv))]]] ++ junk) (kOf 52 (kOv [(24, .v (.int .i64 ((i + 1 : Nat) : Int)))] g2)) B (knoR0 t B.length (idsTo t p (i + 1)) ++ [.live 0 3 [[.v (.str t[p].name), .v (.isl 2 (t[p].vars.map eVr)), .v (.isl 5 (t[p].evs.map eEv))]]]) := fun l2 h1 h2 junk =>
    Weak.kround (p := r_knows1) (k := 6) (funext h2) h1 rfl hE2 (by simp [knoR0]) kV hR (knoR0_lt (T := [_]) (by simp [knoR0]) kN)
   by_cases hk2 : t[p].evs[i].kind = 2
   ·have hk2b : (t[p].evs[i].kind == 2) = true := by rw [hk2]; rfl
    have hf := find_fresh hlt hil (hv.paired.send hx (by rw [hev]; exact hk2))
    have h2 := mp_next (k := 2) (by rw [hev]; exact hk2) hf
    have h3 := mp_skip (k := 3) (l := idsTo t p i) (x := (p, i + 1)) (by rw [hev, hk2]; decide)
    rw [← hsc] at h2 h3
    rw [hev] at h2
    simp only [idA, hc] at h2
    simp (disch := (first | decide | omega)) only [hA, hg1, hg2, knoR0, eEv, hk2b, h2, go_sem]
    refine ⟨i + 1, hil, by simp only; omega, ?_⟩
    rw [← h3]
    exact fin _ (by ((try simp (disch := decide) only [hA, go_sem]) <;> exact kH)) (fun n => by rw [show kAny r_knows1 _ = g2 by ((repeat refine (kAny_up rfl).trans ?_); exact hEE2)]) _
   ·have hk2b : (t[p].evs[i].kind == 2) = false := beq_eq_false_iff_ne.2 hk2
    have h2 := mp_skip (k := 2) (l := idsTo t p i) (x := (p, i + 1)) (by rw [hev]; exact hk2)
    by_cases hk3 : t[p].evs[i].kind = 3
    ·have hk3b : (t[p].evs[i].kind == 3) = true := by rw [hk3]; rfl
     have hf := find_fresh hlt hil (hv.paired.recv hx (by rw [hev]; exact hk3)).1
     have h3 := mp_next (k := 3) (by rw [hev]; exact hk3) hf
     rw [← hsc] at h2 h3
     rw [hev] at h3
     simp only [idA, hc] at h3
     simp (disch := (first | decide | omega)) only [hA, hg1, hg2, knoR0, eEv, hk2b, hk3b, h3, go_sem]
     refine ⟨i + 1, hil, by simp only; omega, ?_⟩
     rw [← h2]
     exact fin _ (by ((try simp (disch := decide) only [hA, go_sem]) <;> exact kH)) (fun n => by rw [show kAny r_knows1 _ = g2 by ((repeat refine (kAny_up rfl).trans ?_); exact hEE2)]) _
    ·have hk3b : (t[p].evs[i].kind == 3) = false := beq_eq_false_iff_ne.2 hk3
     have h3 := mp_skip (k := 3) (l := idsTo t p i) (x := (p, i + 1)) (by rw [hev]; exact hk3)
     rw [← hsc] at h2 h3
     simp (disch := (first | decide | omega)) only [hA, hg1, hg2, knoR0, eEv, hk2b, hk3b, go_sem]
     refine ⟨i + 1, hil, by simp only; omega, ?_⟩
     rw [← h2, ← h3]
     exact fin _ (by ((try simp (disch := decide) only [hA, go_sem]) <;> exact kH)) (fun n => by rw [show kAny r_knows1 _ = g2 by ((repeat refine (kAny_up rfl).trans ?_); exact hEE2)]) _
  ·simp (disch := (first | decide | omega)) only [hA, hg1, hg2, knoR0, go_sem]
   obtain rfl : i = t[p].evs.length := by omega
   refine ⟨p + 1, hlt, by simp only; omega, ?_⟩
   have hnx := idsTo_next t p hlt
   exact Weak.kround (l1 := knoR0 t B.length (idsTo t (p + 1) 0)) (p := r_knows0) (k := 5) (by ((repeat refine (kAny_up rfl).trans ?_); refine (kAny_sub hg2 (kIn_sub rfl)).trans ?_; (repeat refine (kAny_up rfl).trans ?_); exact hEE1)) (by ((try simp (disch := decide) only [hA, hg1, go_sem]) <;> exact kH)) (by rw [hnx]; rfl) (by (repeat (first | exact hE1.mono oM | refine KLt.up ?_ kL))) (by simp [knoR0]) kV hR (knoR0_lt (T := []) (by simp [knoR0]) RowsLt_nil)
 ·simp (disch := (first | decide | omega)) only [hA, hg1, knoR0, go_sem]
  obtain rfl : p = t.length := by omega
  rw [idsTo_all]
  exact leave (.inr rfl) (xs := [kA t (B.length + 2) (B.length + 3)]) (by simp (disch := (first | decide | omega)) only [resVs, resV, hA, hg1, kA, knoR, go_sem]) (y := kA t (B.length + 2) (B.length + 3)) (l' := knoR t B.length (ids t)) (Weak.refl _ _ _) hB ⟨by rw [hBl], rfl, by rw [hBl]⟩
theorem kevent_spec (t : Tr) (hS : Small t) (s r : Nat) (x : Nat × Nat) (hx : x ∈ ids t) (b l : List Row) :
  ACalls Try.prog 194 [kA t s r, idA x] b l (fun r b' l' => r = .agg ((eEv (evAt t x)).map .v) ∧ b' = b ∧ l' = l) := by
 refine calls_kept a_kevent_ok rfl (by decide) ?_
 intro B g hB hR hE hA
 simp only [KArgs] at hA
 obtain ⟨p, i⟩ := x
 obtain ⟨i, rfl⟩ : ∃ k, i = k + 1 := ⟨i - 1, by have := mem_pos hx; simp only at this; omega⟩
 obtain ⟨hp, hi⟩ := mem_ids2.1 hx
 rw [evsOf_lt hp] at hi
 have hev := evAt_eq hp hi
 have hc : ((i + 1 : Nat) : Int) - 1 = (i : Int) := by omega
 have hne := hS.ne _ (List.getElem_mem hp)
 simp (disch := (first | decide | omega)) only [a_kevent, kA, idA, eT, hA, ePr, eEv, hc, go_sem]
 exact leave_pure (xs := [.agg [.v (.int .i64 t[p].evs[i].kind), .v (.int .i64 t[p].evs[i].peer), .v (.int .i64 t[p].evs[i].msg), .v (.int .i64 t[p].evs[i].time), .v (.isl 2 (t[p].evs[i].asg.map eAsg))]]) (.inr rfl) (by simp (disch := (first | decide | omega)) only [resVs, resV, go_sem, hA]) kO hR hB ⟨by rw [hev]; rfl, rfl, rfl⟩
def eId (x : Nat × Nat) : List IV := [.int .i64 x.1, .int .i64 x.2]
theorem hget_low {B : List Row} {s : Nat} {r : Row} (h : B[s]? = some r) (l : List Row) : hget B l s = some r := by
 unfold hget; rw [if_pos (List.getElem?_eq_some_iff.1 h).1, h]
theorem kback_run (t : Tr) (hv : Vok t) (hS : Small t) (s r : Nat) (x : Nat × Nat) (hx : x ∈ ids t) (b l : List Row) (hs : (b ++ l)[s]? = some (.live 0 0 (mpL t 2 (ids t)))) :
  ACalls Try.prog 190 [kA t s r, idA x] b l (fun r b' l' => (r = .v (.isl 2 ((backL t x).map eId)) ∨ (backL t x = [] ∧ r = .v .zsl)) ∧ b' = b ∧ l' = l) := by
 refine calls_kept a_kback_ok rfl (by decide) ?_
 intro B g hB hR hE hA
 simp only [KArgs] at hA
 rw [← hB] at hs
 have hgs := hget_low hs
 obtain ⟨p, i⟩ := x
 obtain ⟨i, rfl⟩ : ∃ k, i = k + 1 := ⟨i - 1, by have := mem_pos hx; simp only at this; omega⟩
 obtain ⟨hp, hi⟩ := mem_ids2.1 hx
 rw [evsOf_lt hp] at hi
 have hev := evAt_eq hp hi
 have hc : ((i + 1 : Nat) : Int) - 1 = (i : Int) := by omega
 have hne := hS.ne _ (List.getElem_mem hp)
 have ev := kevent_spec t hS s r (p, i + 1) hx
 rw [hev] at ev
 by_cases h0 : 0 < i
 ·have hd : decide (((i + 1 : Nat) : Int) > 1) = true := decide_eq_true oM
  simp (disch := (first | decide | omega)) only [a_kback, kA, idA, eT, hA, hd, hc, List.replicate_succ, List.replicate_zero, reduceCtorEq, go_sem]
  refine ACalls.nxt (ev _ _) ?_
  by_cases hk : t[p].evs[i].kind = 3
  ·obtain ⟨y, hy⟩ := (hv.paired.recv hx (by rw [hev]; exact hk)).2
   rw [hev] at hy
   have hb : backL t (p, i + 1) = [(p, i), y] := by
    unfold backL; rw [hev, hk, if_pos (by simp; omega), show findV t 2 t[p].evs[i].msg = y from (firstOf_find hy).1]; simp
   have hfm : findM (.one .i) (.v (.int .i64 t[p].evs[i].msg)) (mpL t 2 (ids t)) = some (some (idA y)) := by rw [findM_mp]; exact congrArg _ (congrArg _ hy)
   simp only [idA] at hfm
   have hkb : (t[p].evs[i].kind == 3) = true := by rw [hk]; rfl
   simp (disch := (first | decide | omega)) only [hA, eEv, hkb, hgs, hfm, List.replicate_succ, List.replicate_zero, reduceCtorEq, go_sem]
   exact leave_frz (i := 3) (ver := 1) (sz := 2) (n := 2) (rows := [eId (p, i), eId y]) (.inr rfl) (by simp (disch := (first | decide | omega)) only [resVs, resV, hA, go_sem]) rfl rfl hR hB ⟨.inl (by rw [hb]; rfl), rfl, rfl⟩
  ·have hb : backL t (p, i + 1) = [(p, i)] := by
    unfold backL; rw [hev, if_pos (by simp; omega), if_neg (by simpa using hk)]; simp
   have hkb : (t[p].evs[i].kind == 3) = false := beq_eq_false_iff_ne.2 hk
   simp (disch := (first | decide | omega)) only [hA, eEv, hkb, go_sem]
   exact leave_frz (i := 3) (ver := 0) (sz := 2) (n := 1) (rows := [eId (p, i)]) (.inr rfl) (by simp (disch := (first | decide | omega)) only [resVs, resV, hA, go_sem]) rfl rfl hR hB ⟨.inl (by rw [hb]; rfl), rfl, rfl⟩
 ·have hd : decide (((i + 1 : Nat) : Int) > 1) = false := decide_eq_false oM
  simp (disch := (first | decide | omega)) only [a_kback, kA, idA, eT, hA, hd, hc, go_sem]
  refine ACalls.nxt (ev _ _) ?_
  by_cases hk : t[p].evs[i].kind = 3
  ·obtain ⟨y, hy⟩ := (hv.paired.recv hx (by rw [hev]; exact hk)).2
   rw [hev] at hy
   have hb : backL t (p, i + 1) = [y] := by
    unfold backL; rw [hev, hk, if_neg (by simp; omega), show findV t 2 t[p].evs[i].msg = y from (firstOf_find hy).1]; simp
   have hfm : findM (.one .i) (.v (.int .i64 t[p].evs[i].msg)) (mpL t 2 (ids t)) = some (some (idA y)) := by rw [findM_mp]; exact congrArg _ (congrArg _ hy)
   simp only [idA] at hfm
   have hkb : (t[p].evs[i].kind == 3) = true := by rw [hk]; rfl
   simp (disch := (first | decide | omega)) only [hA, eEv, hkb, hgs, hfm, List.replicate_succ, List.replicate_zero, reduceCtorEq, go_sem]
   exact leave_frz (i := 4) (ver := 0) (sz := 2) (n := 1) (rows := [eId y]) (.inr rfl) (by simp (disch := (first | decide | omega)) only [resVs, resV, hA, go_sem]) rfl rfl hR hB ⟨.inl (by rw [hb]; rfl), rfl, rfl⟩
  ·have hb : backL t (p, i + 1) = [] := by
    unfold backL; rw [hev, if_neg (by simp; omega), if_neg (by simpa using hk)]; simp
   have hkb : (t[p].evs[i].kind == 3) = false := beq_eq_false_iff_ne.2 hk
   simp (disch := (first | decide | omega)) only [hA, eEv, hkb, go_sem]
   exact leave_pure (xs := [.v .zsl]) (.inr rfl) (by simp (disch := (first | decide | omega)) only [resVs, resV, go_sem, hA]) kO hR hB ⟨.inr ⟨hb, rfl⟩, rfl, rfl⟩
theorem kback_spec (t : Tr) (hv : Vok t) (hS : Small t) (s r : Nat) (x : Nat × Nat) (hx : x ∈ ids t) (b l : List Row) (hs : (b ++ l)[s]? = some (.live 0 0 (mpL t 2 (ids t)))) :
  ACalls Try.prog 190 [kA t s r, idA x] b l (fun r b' l' => r = .v (.isl 2 ((backL t x).map eId)) ∧ b' = b ∧ l' = l) := by
 refine ACalls.wk (kback_run t hv hS s r x hx b l hs) ?_
 rintro r b' l' ⟨hr, rfl, rfl⟩
 refine ⟨.v (.isl 2 ((backL t x).map eId)), fun w F L v h => ?_, rfl, rfl, rfl⟩
 rcases hr with rfl | ⟨he, rfl⟩
 ·exact h
 ·rw [he]; exact zw1_rep (sz := 2) h
def a_past : AFunc := ⟨2,58,[.tmp 4],(.seq (.region [⟨some 2,.box (.t 0),none⟩,⟨some 3,.box (.t 1),none⟩,⟨some 4,.mv (.c (.v .zsl)),none⟩]) (.seq (.region [⟨some 9,.faddr 0 (.t 2),none⟩,⟨some 10,.faddr 0 (.t 9),none⟩,⟨some 11,.load none (.t 10),none⟩,⟨some 12,.len (.t 11),none⟩,⟨some 13,.mkslice 1 [(.v (.int .i64 0))] 8 (.t 12) (.t 12),none⟩,⟨some 5,.mv (.t 13),none⟩]) (.seq (.region [⟨some 14,.load (some 2) (.t 3),none⟩,⟨some 15,.bslice 2 [(.v (.int .i64 0)),(.v (.int .i64 0))] 1 [(0,(.t 14))],none⟩,⟨some 6,.mv (.t 15),none⟩]) (.seq (.block 0 (.loop (.seq (.seq (.region [⟨some 16,.mv (.t 6),none⟩,⟨some 17,.len (.t 16),none⟩,⟨some 18,.bin .gtr (.t 17) (.c (.v (.int .i64 0))),none⟩]) (.cond (.t 18) .skip (.exit 0))) (.block 1 (.seq (.region [⟨some 19,.mv (.t 6),none⟩,⟨some 20,.iaddr 2 (.t 19) (.c (.v (.int .i64 0))),none⟩,⟨some 21,.load (some 2) (.t 20),none⟩,⟨some 7,.alloc [(.v (.int .i64 0)),(.v (.int .i64 0))],none⟩,⟨none,.store 2 (.t 7) (.t 21),none⟩]) (.seq (.region [⟨some 22,.mv (.t 6),none⟩,⟨some 23,.slice 2 (.t 22) (some (.c (.v (.int .i64 1)))) none,none⟩,⟨some 6,.mv (.t 23),none⟩]) (.seq (.seq (.draw [⟨0,⟨some 24,.mv (.t 5),none⟩,[]⟩,⟨1,⟨some 25,.faddr 0 (.t 7),none⟩,[]⟩,⟨2,⟨some 26,.load none (.t 25),none⟩,[]⟩,⟨3,⟨some 27,.iaddr 1 (.t 24) (.t 26),none⟩,[]⟩,⟨4,⟨some 28,.load none (.t 27),none⟩,[]⟩,⟨5,⟨some 29,.faddr 1 (.t 7),none⟩,[]⟩,⟨6,⟨some 30,.load none (.t 29),none⟩,[]⟩,⟨7,⟨some 31,.bin .geq (.t 28) (.t 30),none⟩,[]⟩]) (.cond (.t 31) (.exit 1) .skip)) (.seq (.seq (.region [⟨some 32,.faddr 1 (.t 7),none⟩,⟨some 33,.load none (.t 32),none⟩,⟨some 8,.mv (.t 33),none⟩]) (.block 2 (.loop (.seq (.seq (.region [⟨some 34,.mv (.t 8),none⟩,⟨some 35,.mv (.t 5),none⟩,⟨some 36,.faddr 0 (.t 7),none⟩,⟨some 37,.load none (.t 36),none⟩,⟨some 38,.iaddr 1 (.t 35) (.t 37),none⟩,⟨some 39,.load none (.t 38),none⟩,⟨some 40,.bin .gtr (.t 34) (.t 39),none⟩]) (.cond (.t 40) .skip (.exit 2))) (.seq (.block 3 (.region [⟨some 43,.mv (.t 6),none⟩,⟨some 44,.load (some 3) (.t 2),none⟩,⟨some 45,.faddr 0 (.t 7),none⟩,⟨some 46,.load none (.t 45),none⟩,⟨some 47,.mv (.t 8),none⟩,⟨some 48,.build [(.v (.int .i64 0)),(.v (.int .i64 0))] [(0,1,(.t 46)),(1,1,(.t 47))],none⟩,⟨some 49,.call (.c (.fn 190 [])) [(.t 44),(.t 48)],none⟩,⟨some 50,.append 2 16 (.t 43) (.t 49),none⟩,⟨some 6,.mv (.t 50),none⟩])) (.region [⟨some 41,.mv (.t 8),none⟩,⟨some 42,.bin .sub (.t 41) (.c (.v (.int .i64 1))),none⟩,⟨some 8,.mv (.t 42),none⟩])))))) (.region [⟨some 51,.mv (.t 5),none⟩,⟨some 52,.faddr 0 (.t 7),none⟩,⟨some 53,.load none (.t 52),none⟩,⟨some 54,.faddr 1 (.t 7),none⟩,⟨some 55,.load none (.t 54),none⟩,⟨some 56,.iaddr 1 (.t 51) (.t 53),none⟩,⟨none,.store 1 (.t 56) (.t 55),none⟩]))))))))) (.seq (.region [⟨some 57,.mv (.t 5),none⟩,⟨some 4,.mv (.t 57),none⟩]) .ret)))))⟩
theorem a_past_ok : cFunc Try.prog 174 = some a_past := by kernel_rfl
def r_past0 : List (Nat × Nat) := [(6, 8), (16, 56)]
def r_past1 : List (Nat × Nat) := [(6, 6), (8, 8), (34, 50)]

theorem lft_zero {t : Tr} : lft t (fun _ => 0) = (ids t).length := by
 unfold lft ids
 have : ∀ n, lftN (fun p => (evsOf t p).length) (fun _ => 0) n = ((List.range n).flatMap (idsOf t)).length := by
  intro n
  induction n with
  | zero => rfl
  | succ n ih =>
    unfold lftN
    rw [ih, List.range_succ, List.flatMap_append, List.length_append]
    simp [idsOf]
 exact this _
def cntR (t : Tr) (c : Nat → Nat) : List (List IV) := fl t.length fun q => [.int .i64 (c q)]
def paR (t : Tr) (s r : Nat) (x : Nat × Nat) (c : Nat → Nat) (v : Nat) (els : List (Nat × Nat)) : List Row :=
 [.live 0 3 [[.v (eT t), .mp s 0, .mp r 0]], .live 0 2 [[.v (.int .i64 x.1), .v (.int .i64 x.2)]], .live 0 1 (vs (cntR t c)), .live v 2 (vs (els.map eId))]
theorem paR_lt {t : Tr} {s r m v : Nat} {x : Nat × Nat} {c : Nat → Nat} {els : List (Nat × Nat)} {T : List Row} {n : Nat} (hs : s < n) (hr : r < n) (h : n + 4 ≤ m) (hT : RowsLt m T) : RowsLt m (paR t s r x c v els ++ T) := by
 have hp : ∀ (rows : List (List IV)) row, row ∈ vs rows → ∀ c ∈ row, AVlt m c := by
  intro rows row h c hc
  obtain ⟨r0, _, rfl⟩ := List.mem_map.1 h
  obtain ⟨x0, _, rfl⟩ := List.mem_map.1 hc
  exact .v _
 intro id ver sz els hr row hrow c hc
 match id, hr with
 | 0, hr => cases hr; simp at hrow; subst hrow; simp at hc; rcases hc with rfl | rfl | rfl <;> first | exact .v _ | exact .mp _ _ oM
 | 1, hr => cases hr; simp at hrow; subst hrow; simp at hc; rcases hc with rfl | rfl <;> exact .v _
 | 2, hr => cases hr; exact hp _ row hrow c hc
 | 3, hr => cases hr; exact hp _ row hrow c hc
 | id + 4, hr => exact hT id ver sz _ hr row hrow c hc
theorem paR_len {t : Tr} {s r v : Nat} {x : Nat × Nat} {c : Nat → Nat} {els : List (Nat × Nat)} : (paR t s r x c v els).length = 4 := rfl
structure PSt where
 c : Nat → Nat
 v : Nat
 els : List (Nat × Nat)
 off : Nat
def POk (t : Tr) (x : Nat × Nat) (i : PSt) : Prop := i.off ≤ i.els.length ∧ Pst t x i.c (i.els.drop i.off) ∧ 3 * lft t i.c + (i.els.length - i.off) ≤ 3 * (ids t).length + 1
theorem past_run (t : Tr) (hv : Vok t) (hS : Small t) (hC : (ids t).length ≤ 1000000) (s r : Nat) (x : Nat × Nat) (hx : x ∈ ids t) (b l : List Row)
  (hs : (b ++ l)[s]? = some (.live 0 0 (mpL t 2 (ids t)))) (hr : (b ++ l)[r]? = some (.live 0 0 (mpL t 3 (ids t)))) :
  ACalls Try.prog 174 [kA t s r, idA x] b l (fun r b' l' => r = .v (.isl 1 ((vcs t x).map eI)) ∧ b' = b ∧ l' = l) := by
 refine calls_kept a_past_ok rfl (by decide) ?_
 intro B g hB hR hE hA
 simp only [KArgs] at hA
 rw [← hB] at hs hr
 have hsl := (List.getElem?_eq_some_iff.1 hs).1
 have hrl := (List.getElem?_eq_some_iff.1 hr).1
 have hnp := hS.np
 simp (disch := (first | decide | omega)) only [a_past, kA, idA, eT, hA, List.length_map, go_sem]
 refine loop_kept (ι := PSt) r_past0 (fun i => [(6, .sl (B.length + 3) i.v i.off (i.els.length - i.off))]) 4 (fun i => paR t s r x i.c i.v i.els)
  (POk t x) (fun i => 3 * lft t i.c + (i.els.length - i.off)) ⟨fun _ => 0, 0, [x], 0⟩ ⟨by simp, .start hx, by rw [lft_zero]; simp⟩ (by (repeat (first | exact hE.mono oM | refine KLt.up ?_ kL))) (by ((try simp (disch := decide) only [hA, go_sem]) <;> exact kH)) (fun e => by
   have e1 : List.replicate t.length [IV.int .i64 0] = cntR t fun _ => 0 := by unfold cntR; rw [fl_const]; rfl
   rw [e1]
   exact Weak.refl _ _ _) ?_
 rintro g1 hE1 hEE1 hg1 ⟨c, v, els, off⟩ ⟨hoff, hP, hM⟩
 simp only at hoff hP hM
 by_cases hlt : off < els.length
 ·have hd : decide (((els.length - off : Nat) : Int) > 0) = true := decide_eq_true oM
  obtain ⟨⟨yp, yi⟩, hy⟩ : ∃ y, y = els[off] := ⟨_, rfl⟩
  have hdr : els.drop off = (yp, yi) :: els.drop (off + 1) := by rw [hy]; exact List.drop_eq_getElem_cons hlt
  rw [hdr] at hP
  have hq := (hP.q (yp, yi) (by simp)).1
  obtain ⟨hyp, hy1, hy2⟩ := mem_ids.1 hq
  simp only at hyp hy1 hy2
  have hye : (vs (els.map eId))[off]? = some [.v (.int .i64 yp), .v (.int .i64 yi)] := by
   unfold vs; rw [List.getElem?_map, List.getElem?_map, List.getElem?_eq_getElem hlt, ← hy]; rfl
  have hce : (vs (cntR t c))[yp]? = some [.v (.int .i64 (c yp))] := by
   unfold vs cntR; rw [List.getElem?_map, fl_get hyp]; rfl
  have hz0 : Int.toNat 0 = 0 := rfl
  have hy' := hy.symm
  have hl1 : els.length - off - 1 = els.length - (off + 1) := by omega
  by_cases hge : yi ≤ c yp
  ·have hd2 : decide ((c yp : Int) ≥ (yi : Int)) = true := decide_eq_true oM
   simp (disch := (first | decide | omega)) only [hA, hg1, paR, hd, hye, hce, hl1, hd2, hz0, Nat.add_zero, hy', eId, go_sem]
   refine ⟨⟨c, v, els, off + 1⟩, ⟨by simp only; omega, hP.skip hge, by simp only; omega⟩, by simp only; omega, ?_⟩
   exact Weak.kround (l1 := paR t s r x c v els) (p := r_past0) (k := 4) (by ((repeat refine (kAny_up rfl).trans ?_); exact hEE1)) (by ((try simp (disch := decide) only [hA, go_sem]) <;> exact kH)) rfl hE1 (by simp [paR]) (by simp (disch := omega) only [KOvLt, paR_len, lts.down, Nat.reduceLT, Nat.reduceAdd]) hR (paR_lt (T := []) hsl hrl (by simp [paR]) RowsLt_nil)
  ·have hd2 : decide ((c yp : Int) ≥ (yi : Int)) = false := decide_eq_false oM
   have hyl : yi ≤ (evsOf t yp).length := by rw [evsOf_lt hyp]; exact hy2
   have hne := hS.ne _ (List.getElem_mem hyp)
   have hd0 : els.drop (off + 1) ++ bkL t yp yi yi = els.drop (off + 1) := by rw [bkL_nil, List.append_nil]
   simp (disch := (first | decide | omega)) only [hA, hg1, paR, hd, hye, hce, hl1, hd2, hz0, Nat.add_zero, hy', eId, go_sem]
   refine loop_kept (ι := Nat × Nat × List (Nat × Nat) × Nat) r_past1 (fun i => [(8, .v (.int .i64 i.1)), (6, .sl (B.length + 3) i.2.1 i.2.2.2 (i.2.2.1.length - i.2.2.2))]) 5 (fun i => paR t s r x c i.2.1 i.2.2.1 ++ [.live 0 2 [[.v (.int .i64 yp), .v (.int .i64 yi)]]])
    (fun i => c yp ≤ i.1 ∧ i.1 ≤ yi ∧ i.2.2.2 ≤ i.2.2.1.length ∧ i.2.2.1.drop i.2.2.2 = els.drop (off + 1) ++ bkL t yp yi i.1) (fun i => i.1 - c yp) (yi, v, els, off + 1) ⟨by omega, Nat.le_refl _, hlt, hd0.symm⟩ (by (repeat (first | exact hE1.mono oM | refine KLt.up ?_ kL))) (by ((try simp (disch := decide) only [hA, hg1, go_sem]) <;> exact kH)) (fun e => Weak.refl _ _ _) ?_
   rintro g2 hE2 hEE2 hg2 ⟨i, v2, els2, off2⟩ ⟨hi1, hi2, hi3, hi4⟩
   simp only at hi1 hi2 hi3 hi4
   have hlen : els2.length - off2 = els.length - (off + 1) + (bkL t yp yi i).length := by
    have := congrArg List.length hi4
    rwa [List.length_drop, List.length_append, List.length_drop] at this
   have hbl := bkL_len (t := t) (p := yp) hi2
   have hst := lft_step (t := t) hyp (c := c) (v := yi) oM hyl
   by_cases hil : c yp < i
   ·have hd3 : decide ((i : Int) > (c yp : Int)) = true := decide_eq_true oM
    obtain ⟨i, rfl⟩ : ∃ k, i = k + 1 := ⟨i - 1, by omega⟩
    have hci : ((i + 1 : Nat) : Int) - 1 = (i : Int) := by omega
    have hmem : (yp, i + 1) ∈ ids t := mem_ids2.2 ⟨hyp, by omega⟩
    have hbk := fun L => kback_spec t hv hS s r (yp, i + 1) hmem B L (by rw [List.getElem?_append_left hsl]; exact hs)
    have hb2 := backL_len t (yp, i + 1)
    simp (disch := (first | decide | omega)) only [hA, hg1, hg2, paR, hce, hd3, hci, go_sem]
    refine ACalls.nxt (hbk _) ?_
    have htk : vs (List.take (els2.length - off2) (List.drop off2 (els2.map eId))) ++ vs ((backL t (yp, i + 1)).map eId) = vs ((els2.drop off2 ++ backL t (yp, i + 1)).map eId) := by
     unfold vs
     rw [← List.map_drop, List.take_of_length_le (by simp), List.map_append, List.map_append]
    simp (disch := (first | decide | omega)) only [hA, hg1, hg2, paR, hce, hd3, hci, htk, List.length_map, go_sem]
    refine ⟨(i, v2 + 1, els2.drop off2 ++ backL t (yp, i + 1), 0), ⟨by simp only; omega, by simp only; omega, by simp, ?_⟩, by simp only; omega, ?_⟩
    ·simp only [List.drop_zero]
     rw [hi4, bkL_step (t := t) (p := yp) (n := yi) (i := i) oM, List.append_assoc]
    ·exact Weak.kround (junk := []) (p := r_past1) (k := 5) (by ((repeat refine (kAny_up rfl).trans ?_); exact hEE2)) (by ((try simp (disch := decide) only [hA, List.length_append, List.length_drop, Nat.sub_zero, go_sem]) <;> exact kH)) (List.append_nil _).symm hE2 (by simp) (by simp (disch := omega) only [KOvLt, List.length_append, List.length_cons, List.length_nil, paR_len, lts.down, Nat.reduceLT, Nat.reduceAdd]) hR (paR_lt (T := [_]) hsl hrl (by simp) kN)
   ·have hd3 : decide ((i : Int) > (c yp : Int)) = false := decide_eq_false oM
    obtain rfl : i = c yp := by omega
    have hcs : (cntR t c).set yp [.int .i64 (yi : Int)] = cntR t (fUp c yp yi) := by
     unfold cntR
     rw [fl_set]
     refine fl_congr (fun q _ => ?_)
     by_cases hq : q = yp
     ·subst hq; rw [fUp_same, fUp_same]
     ·rw [fUp_ne hq, fUp_ne hq]
    simp (disch := (first | decide | omega)) only [hA, hg1, hg2, paR, hce, hd3, go_sem]
    refine ⟨⟨fUp c yp yi, v2, els2, off2⟩, ⟨hi3, ?_, by simp only; omega⟩, by simp only; omega, ?_⟩
    ·simp only
     rw [hi4]
     exact hP.mark hv oM
    ·rw [hcs]
     exact Weak.kround (l1 := paR t s r x (fUp c yp yi) v2 els2) (p := r_past0) (k := 4) (by ((repeat refine (kAny_up rfl).trans ?_); refine (kAny_sub hg2 (kIn_sub rfl)).trans ?_; (repeat refine (kAny_up rfl).trans ?_); exact hEE1)) (by ((try simp (disch := decide) only [hA, go_sem]) <;> exact kH)) rfl hE1 (by simp [paR]) (by simp (disch := omega) only [KOvLt, paR_len, lts.down, Nat.reduceLT, Nat.reduceAdd]) hR (paR_lt (T := []) hsl hrl (by simp [paR]) RowsLt_nil)
 ·have hd : decide (((els.length - off : Nat) : Int) > 0) = false := decide_eq_false oM
  simp (disch := (first | decide | omega)) only [hA, hg1, paR, hd, go_sem]
  have hz : els.drop off = [] := List.drop_eq_nil_of_le oM
  rw [hz] at hP
  have hcn : cntR t c = (vcs t x).map eI := by
   unfold cntR vcs
   rw [fl_map]
   refine fl_congr (fun q hq => ?_)
   rw [hP.done hv hx hq]; rfl
  rw [hcn]
  exact leave_frz (i := 2) (ver := 0) (sz := 1) (n := t.length) (rows := (vcs t x).map eI) (.inr rfl) (by simp (disch := (first | decide | omega)) only [resVs, resV, hA, hg1, go_sem]) rfl (by simp [vcs, fl_len]) hR hB ⟨rfl, rfl, rfl⟩
noncomputable def befB (t : Tr) (x y : Nat × Nat) : Bool := !(decide (x = y)) && decide (x.2 ≤ vc t y x.1)
theorem befB_iff {t : Tr} (hv : Vok t) {x y : Nat × Nat} (hx : x ∈ ids t) (hy : y ∈ ids t) : befB t x y = true ↔ Hb t x y := by
 obtain ⟨p, i⟩ := x
 obtain ⟨i, rfl⟩ : ∃ k, i = k + 1 := ⟨i - 1, by have := mem_pos hx; simp only at this; omega⟩
 obtain ⟨hp, hi⟩ := mem_ids2.1 hx
 unfold befB
 simp only [Bool.and_eq_true, Bool.not_eq_true', decide_eq_false_iff_not, decide_eq_true_eq]
 rw [show (i + 1 ≤ vc t y p) ↔ Le t (p, i + 1) y from (vc_iff hi).symm]
 constructor
 ·rintro ⟨h1, h2⟩; exact h2.resolve_left h1
 ·intro h
  refine ⟨fun he => ?_, .inr h⟩
  subst he
  have := rk_lt hv hx h; omega
def a_exists : AFunc := ⟨2,34,[.tmp 4],(.seq (.region [⟨some 2,.box (.t 0),none⟩,⟨some 3,.box (.t 1),none⟩,⟨some 4,.mv (.c (.v (.bool false))),none⟩]) (.seq (.draw [⟨0,⟨some 5,.faddr 0 (.t 3),none⟩,[]⟩,⟨1,⟨some 6,.load none (.t 5),none⟩,[]⟩,⟨2,⟨some 7,.bin .geq (.t 6) (.c (.v (.int .i64 0))),none⟩,[]⟩,⟨3,⟨some 8,.mv (.t 7),none⟩,[]⟩,⟨4,⟨some 9,.faddr 0 (.t 3),some (8,true)⟩,[]⟩,⟨5,⟨some 10,.load none (.t 9),some (8,true)⟩,[]⟩,⟨6,⟨some 11,.faddr 0 (.t 2),some (8,true)⟩,[]⟩,⟨7,⟨some 12,.load none (.t 11),some (8,true)⟩,[]⟩,⟨8,⟨some 13,.len (.t 12),some (8,true)⟩,[]⟩,⟨9,⟨some 14,.bin .lss (.t 10) (.t 13),some (8,true)⟩,[]⟩,⟨10,⟨some 15,.pick (.t 8) (.t 14) (.c (.v (.bool false))),none⟩,[]⟩,⟨11,⟨some 16,.mv (.t 15),none⟩,[]⟩,⟨12,⟨some 17,.faddr 1 (.t 3),some (16,true)⟩,[]⟩,⟨13,⟨some 18,.load none (.t 17),some (16,true)⟩,[]⟩,⟨14,⟨some 19,.bin .geq (.t 18) (.c (.v (.int .i64 1))),some (16,true)⟩,[]⟩,⟨15,⟨some 20,.pick (.t 16) (.t 19) (.c (.v (.bool false))),none⟩,[]⟩,⟨16,⟨some 21,.mv (.t 20),none⟩,[]⟩,⟨17,⟨some 22,.faddr 1 (.t 3),some (21,true)⟩,[]⟩,⟨18,⟨some 23,.load none (.t 22),some (21,true)⟩,[]⟩,⟨19,⟨some 24,.faddr 0 (.t 2),some (21,true)⟩,[]⟩,⟨20,⟨some 25,.load none (.t 24),some (21,true)⟩,[]⟩,⟨21,⟨some 26,.faddr 0 (.t 3),some (21,true)⟩,[]⟩,⟨22,⟨some 27,.load none (.t 26),some (21,true)⟩,[]⟩,⟨23,⟨some 28,.iaddr 3 (.t 25) (.t 27),some (21,true)⟩,[]⟩,⟨24,⟨some 29,.faddr 2 (.t 28),some (21,true)⟩,[]⟩,⟨25,⟨some 30,.load none (.t 29),some (21,true)⟩,[]⟩,⟨26,⟨some 31,.len (.t 30),some (21,true)⟩,[]⟩,⟨27,⟨some 32,.bin .leq (.t 23) (.t 31),some (21,true)⟩,[]⟩,⟨28,⟨some 33,.pick (.t 21) (.t 32) (.c (.v (.bool false))),none⟩,[]⟩,⟨29,⟨some 4,.mv (.t 33),none⟩,[]⟩]) .ret))⟩
theorem a_exists_ok : cFunc Try.prog 189 = some a_exists := by kernel_rfl
def a_check : AFunc := ⟨2,21,[.tmp 4],(.seq (.region [⟨some 2,.box (.t 0),none⟩,⟨some 4,.mv (.c (.v (.int .i64 0))),none⟩]) (.seq (.seq (.region [⟨some 7,.load (some 1) (.t 2),none⟩,⟨some 8,.call (.c (.fn 63 [])) [(.t 7)],none⟩,⟨some 9,.not (.t 8),none⟩]) (.cond (.t 9) (.seq (.region [⟨some 4,.mv (.c (.v (.int .i64 1))),none⟩]) .ret) .skip)) (.seq (.seq (.region [⟨some 10,.mv (.t 1),none⟩,⟨some 11,.len (.t 10),none⟩,⟨some 12,.mv (.c (.v (.int .i64 0))),none⟩]) (.block 0 (.loop (.seq (.region [⟨some 13,.bin .lss (.t 12) (.t 11),none⟩]) (.seq (.cond (.t 13) .skip (.exit 0)) (.seq (.block 1 (.seq (.region [⟨some 14,.iaddr 2 (.t 10) (.t 12),none⟩,⟨some 15,.load (some 2) (.t 14),none⟩,⟨some 6,.alloc [(.v (.int .i64 0)),(.v (.int .i64 0))],none⟩,⟨none,.store 2 (.t 6) (.t 15),none⟩]) (.seq (.region [⟨some 16,.load (some 1) (.t 2),none⟩,⟨some 17,.load (some 2) (.t 6),none⟩,⟨some 18,.call (.c (.fn 189 [])) [(.t 16),(.t 17)],none⟩,⟨some 19,.not (.t 18),none⟩]) (.cond (.t 19) (.seq (.region [⟨some 4,.mv (.c (.v (.int .i64 2))),none⟩]) .ret) .skip)))) (.region [⟨some 20,.bin .add (.t 12) (.c (.v (.int .i64 1))),none⟩,⟨some 12,.mv (.t 20),none⟩]))))))) (.seq (.region [⟨some 4,.mv (.c (.v (.int .i64 0))),none⟩]) .ret))))⟩
theorem a_check_ok : cFunc Try.prog 171 = some a_check := by kernel_rfl
def r_check0 : List (Nat × Nat) := [(4, 4), (6, 6), (12, 20)]

def existsB (t : Tr) (a c : Int) : Bool := decide (0 ≤ a) && (decide (a < (t.length : Int)) && (decide (1 ≤ c) && decide (c ≤ ((evsOf t a.toNat).length : Int))))
def idP (x : Int × Int) : AV := .agg [.v (.int .i64 x.1), .v (.int .i64 x.2)]
theorem exists_gen (k : Nat) (hk : cFunc Try.prog k = some a_exists) (t : Tr) (hS : Small t) (x : Int × Int) (b l : List Row) :
  ACalls Try.prog k [.agg [.v (eT t)], idP x] b l (fun r b' l' => r = .v (.bool (existsB t x.1 x.2)) ∧ b' = b ∧ l' = l) := by
 refine calls_kept hk rfl (by decide) ?_
 intro B g hB hR hE hA
 simp only [KArgs] at hA
 obtain ⟨a, c⟩ := x
 have hnp := hS.np
 by_cases h1 : 0 ≤ a
 ·have d1 := decide_eq_true h1
  have d1' : decide (a ≥ 0) = true := d1
  by_cases h2 : a < (t.length : Int)
  ·have d2 := decide_eq_true h2
   obtain ⟨p, rfl⟩ : ∃ p : Nat, a = p := ⟨a.toNat, by omega⟩
   have hp : p < t.length := by omega
   have hne := hS.ne _ (List.getElem_mem hp)
   by_cases h3 : 1 ≤ c
   ·have d3 := decide_eq_true h3
    have d3' : decide (c ≥ 1) = true := d3
    have he : existsB t p c = decide (c ≤ (t[p].evs.length : Int)) := by simp [existsB, h2, h3, evsOf_lt hp]
    rw [he]
    simp (disch := (first | decide | omega)) only [a_exists, idP, eT, hA, ePr, d1, d1', d2, d3, d3', List.length_map, go_sem]
    exact leave_pure (xs := [.v (.bool (decide (c ≤ (t[p].evs.length : Int))))]) (.inr rfl) (by simp (disch := (first | decide | omega)) only [resVs, resV, go_sem, hA]) kO hR hB ⟨rfl, rfl, rfl⟩
   ·have d3 := decide_eq_false h3
    have d3' : decide (c ≥ 1) = false := d3
    have he : existsB t p c = false := by simp [existsB, h3]
    rw [he]
    simp (disch := (first | decide | omega)) only [a_exists, idP, eT, hA, ePr, d1, d1', d2, d3, d3', List.length_map, go_sem]
    exact leave_pure (xs := [.v (.bool false)]) (.inr rfl) (by simp (disch := (first | decide | omega)) only [resVs, resV, go_sem, hA]) kO hR hB ⟨rfl, rfl, rfl⟩
  ·have d2 := decide_eq_false h2
   have he : existsB t a c = false := by simp [existsB, h2]
   rw [he]
   simp (disch := (first | decide | omega)) only [a_exists, idP, eT, hA, ePr, d1, d1', d2, List.length_map, go_sem]
   exact leave_pure (xs := [.v (.bool false)]) (.inr rfl) (by simp (disch := (first | decide | omega)) only [resVs, resV, go_sem, hA]) kO hR hB ⟨rfl, rfl, rfl⟩
 ·have d1 := decide_eq_false h1
  have d1' : decide (a ≥ 0) = false := d1
  have he : existsB t a c = false := by simp [existsB, h1]
  rw [he]
  simp (disch := (first | decide | omega)) only [a_exists, idP, eT, hA, ePr, d1, d1', List.length_map, go_sem]
  exact leave_pure (xs := [.v (.bool false)]) (.inr rfl) (by simp (disch := (first | decide | omega)) only [resVs, resV, go_sem, hA]) kO hR hB ⟨rfl, rfl, rfl⟩
theorem exists_spec (t : Tr) (hS : Small t) (x : Int × Int) (b l : List Row) :
  ACalls Try.prog 189 [.agg [.v (eT t)], idP x] b l (fun r b' l' => r = .v (.bool (existsB t x.1 x.2)) ∧ b' = b ∧ l' = l) := exists_gen _ a_exists_ok t hS x b l
noncomputable def chkE (t : Tr) (l : List (Int × Int)) : Int := if validL t = true then (if l.all (fun x => existsB t x.1 x.2) then 0 else 2) else 1
def eIdP (x : Int × Int) : List IV := [.int .i64 x.1, .int .i64 x.2]
theorem check_spec (t : Tr) (hS : Small t) (hN : Nm t) (v : List (Int × Int)) (hl : v.length ≤ 1000000) (b l : List Row) :
  ACalls Try.prog 171 [.agg [.v (eT t)], .v (.isl 2 (v.map eIdP))] b l (fun r b' l' => r = .v (.int .i64 (chkE t v)) ∧ b' = b ∧ l' = l) := by
 refine calls_kept a_check_ok rfl (by decide) ?_
 intro B g hB hR hE hA
 simp only [KArgs] at hA
 simp (disch := (first | decide | omega)) only [a_check, hA, go_sem]
 refine ACalls.nxt (valid_spec t hS hN _ _) ?_
 cases hval : validL t with
 | false =>
   simp (disch := (first | decide | omega)) only [hA, go_sem]
   exact leave_pure (xs := [.v (.int .i64 1)]) (.inr rfl) (by simp (disch := (first | decide | omega)) only [resVs, resV, go_sem, hA]) kO hR hB ⟨by unfold chkE; rw [hval]; rfl, rfl, rfl⟩
 | true =>
   simp (disch := (first | decide | omega)) only [hA, List.length_map, go_sem]
   refine loop_kept (ι := Nat) r_check0 (fun i => [(12, .v (.int .i64 i))]) 1 (fun i => [.live 0 1 [[.v (eT t)]]])
    (fun i => i ≤ v.length ∧ ∀ j (h : j < v.length), j < i → existsB t v[j].1 v[j].2 = true) (fun i => v.length - i) 0 ⟨Nat.zero_le _, fun j _ h => by omega⟩ (by (repeat (first | exact hE.mono oM | refine KLt.up ?_ kL))) (by ((try simp (disch := decide) only [hA, go_sem]) <;> exact kH)) (fun e => Weak.refl _ _ _) ?_
   rintro g1 hE1 hEE1 hg1 i ⟨hi, hbef⟩
   by_cases hil : i < v.length
   ·simp (disch := (first | decide | omega)) only [hA, hg1, eIdP, go_sem]
    refine ACalls.nxt (exists_spec t hS v[i] _ _) ?_
    cases hex : existsB t v[i].1 v[i].2 with
    | false =>
      simp (disch := (first | decide | omega)) only [hA, hg1, go_sem]
      have hall : (v.all fun x => existsB t x.1 x.2) = false := by
       rw [Bool.eq_false_iff]; intro h
       rw [List.all_eq_true] at h
       have := h _ (List.getElem_mem hil)
       rw [hex] at this; cases this
      exact leave_pure (xs := [.v (.int .i64 2)]) (.inr rfl) (by simp (disch := (first | decide | omega)) only [resVs, resV, go_sem, hA, hg1]) kO hR hB ⟨by unfold chkE; rw [hval, hall]; rfl, rfl, rfl⟩
    | true =>
      simp (disch := (first | decide | omega)) only [hA, hg1, go_sem]
      refine ⟨i + 1, ⟨hil, fun j hj h => ?_⟩, by simp only; omega, ?_⟩
      ·by_cases hji : j = i
       ·subst hji; exact hex
       ·exact hbef j hj oM
      ·exact Weak.kround (p := r_check0) (k := 1) (by ((repeat refine (kAny_up rfl).trans ?_); exact hEE1)) (by ((try simp (disch := decide) only [hA, go_sem]) <;> exact kH)) rfl hE1 (by simp) kV hR kL
   ·simp (disch := (first | decide | omega)) only [hA, hg1, go_sem]
    have hall : (v.all fun x => existsB t x.1 x.2) = true := by
     rw [List.all_eq_true]
     intro x hx
     obtain ⟨j, hj, rfl⟩ := List.getElem_of_mem hx
     exact hbef j hj oM
    exact leave_pure (xs := [.v (.int .i64 0)]) (.inr rfl) (by simp (disch := (first | decide | omega)) only [resVs, resV, go_sem, hA, hg1]) kO hR hB ⟨by unfold chkE; rw [hval, hall]; rfl, rfl, rfl⟩
theorem chkE_zero {t : Tr} {l : List (Int × Int)} : chkE t l = 0 ↔ validL t = true ∧ ∀ x ∈ l, existsB t x.1 x.2 = true := by
 unfold chkE
 cases validL t
 ·simp
 ·simp only [if_true, true_and]
  cases h : l.all (fun x => existsB t x.1 x.2) with
  | true => simp [List.all_eq_true.1 h]; intro a b hab; exact List.all_eq_true.1 h _ hab
  | false =>
    simp only [Bool.false_eq_true, if_false]
    constructor
    ·intro h2; simp at h2
    ·intro h2
     rw [List.all_eq_true.2 h2] at h; cases h
def a_stamps : AFunc := ⟨1,107,[.tmp 2],(.seq (.region [⟨some 1,.box (.t 0),none⟩,⟨some 2,.mv (.c (.v .zsl)),none⟩]) (.seq (.region [⟨some 11,.faddr 0 (.t 1),none⟩,⟨some 12,.load none (.t 11),none⟩,⟨some 13,.len (.t 12),none⟩,⟨some 14,.mkslice 1 [(.v .zsl)] 24 (.t 13) (.t 13),none⟩,⟨some 3,.mv (.t 14),none⟩]) (.seq (.region [⟨some 15,.mkslice 1 [(.v .zsl)] 24 (.c (.v (.int .i64 200))) (.c (.v (.int .i64 200))),none⟩,⟨some 4,.mv (.t 15),none⟩]) (.seq (.seq (.region [⟨some 5,.mv (.c (.v (.bool true))),none⟩]) (.block 0 (.loop (.seq (.seq (.region [⟨some 16,.mv (.t 5),none⟩]) (.cond (.t 16) .skip (.exit 0))) (.block 1 (.seq (.region [⟨some 5,.mv (.c (.v (.bool false))),none⟩]) (.seq (.region [⟨some 17,.faddr 0 (.t 1),none⟩,⟨some 18,.load none (.t 17),none⟩,⟨some 19,.len (.t 18),none⟩,⟨some 20,.mv (.c (.v (.int .i64 0))),none⟩]) (.block 2 (.loop (.seq (.region [⟨some 21,.bin .lss (.t 20) (.t 19),none⟩]) (.seq (.cond (.t 21) .skip (.exit 2)) (.seq (.block 3 (.seq (.region [⟨some 22,.mv (.t 20),none⟩,⟨some 23,.iaddr 3 (.t 18) (.t 20),none⟩,⟨some 24,.load (some 3) (.t 23),none⟩,⟨some 7,.alloc [(.v (.str ⟨#[]⟩)),(.v .zsl),(.v .zsl)],none⟩,⟨some 6,.mv (.t 22),none⟩,⟨none,.store 3 (.t 7) (.t 24),none⟩]) (.block 4 (.loop (.seq (.seq (.draw [⟨0,⟨some 25,.mv (.t 3),none⟩,[]⟩,⟨1,⟨some 26,.mv (.t 6),none⟩,[]⟩,⟨2,⟨some 27,.iaddr 1 (.t 25) (.t 26),none⟩,[]⟩,⟨3,⟨some 28,.load none (.t 27),none⟩,[]⟩,⟨4,⟨some 29,.len (.t 28),none⟩,[]⟩,⟨5,⟨some 30,.faddr 2 (.t 7),none⟩,[]⟩,⟨6,⟨some 31,.load none (.t 30),none⟩,[]⟩,⟨7,⟨some 32,.len (.t 31),none⟩,[]⟩,⟨8,⟨some 33,.bin .lss (.t 29) (.t 32),none⟩,[]⟩]) (.cond (.t 33) .skip (.exit 4))) (.block 5 (.seq (.draw [⟨0,⟨some 34,.faddr 2 (.t 7),none⟩,[]⟩,⟨1,⟨some 35,.load none (.t 34),none⟩,[]⟩,⟨2,⟨some 36,.mv (.t 3),none⟩,[]⟩,⟨3,⟨some 37,.mv (.t 6),none⟩,[]⟩,⟨4,⟨some 38,.iaddr 1 (.t 36) (.t 37),none⟩,[]⟩,⟨5,⟨some 39,.load none (.t 38),none⟩,[]⟩,⟨6,⟨some 40,.len (.t 39),none⟩,[]⟩,⟨7,⟨some 41,.iaddr 5 (.t 35) (.t 40),none⟩,[]⟩,⟨8,⟨some 42,.load (some 5) (.t 41),none⟩,[]⟩,⟨9,⟨some 8,.alloc [(.v (.int .i64 0)),(.v (.int .i64 0)),(.v (.int .i64 0)),(.v (.int .i64 0)),(.v .zsl)],none⟩,[⟨some 34,.faddr 2 (.t 7),none⟩,⟨some 35,.load none (.t 34),none⟩,⟨some 36,.mv (.t 3),none⟩,⟨some 37,.mv (.t 6),none⟩,⟨some 38,.iaddr 1 (.t 36) (.t 37),none⟩,⟨some 39,.load none (.t 38),none⟩,⟨some 40,.len (.t 39),none⟩,⟨some 41,.iaddr 5 (.t 35) (.t 40),none⟩,⟨some 42,.load (some 5) (.t 41),none⟩]⟩,⟨10,⟨none,.store 5 (.t 8) (.t 42),none⟩,[]⟩]) (.seq (.region [⟨some 43,.faddr 0 (.t 1),none⟩,⟨some 44,.load none (.t 43),none⟩,⟨some 45,.len (.t 44),none⟩,⟨some 46,.mkslice 1 [(.v (.int .i64 0))] 8 (.t 45) (.t 45),none⟩,⟨some 9,.mv (.t 46),none⟩]) (.seq (.seq (.region [⟨some 47,.mv (.t 3),none⟩,⟨some 48,.mv (.t 6),none⟩,⟨some 49,.iaddr 1 (.t 47) (.t 48),none⟩,⟨some 50,.load none (.t 49),none⟩,⟨some 51,.len (.t 50),none⟩,⟨some 10,.mv (.t 51),none⟩]) (.seq (.region [⟨some 52,.mv (.t 10),none⟩,⟨some 53,.bin .gtr (.t 52) (.c (.v (.int .i64 0))),none⟩]) (.cond (.t 53) (.region [⟨some 54,.mv (.t 9),none⟩,⟨some 55,.mv (.t 3),none⟩,⟨some 56,.mv (.t 6),none⟩,⟨some 57,.iaddr 1 (.t 55) (.t 56),none⟩,⟨some 58,.load none (.t 57),none⟩,⟨some 59,.mv (.t 10),none⟩,⟨some 60,.bin .sub (.t 59) (.c (.v (.int .i64 1))),none⟩,⟨some 61,.iaddr 1 (.t 58) (.t 60),none⟩,⟨some 62,.load none (.t 61),none⟩,⟨some 63,.copy 1 (.t 54) (.t 62),none⟩]) .skip))) (.seq (.seq (.region [⟨some 64,.faddr 0 (.t 8),none⟩,⟨some 65,.load none (.t 64),none⟩,⟨some 66,.bin .eql (.t 65) (.c (.v (.int .i64 3))),none⟩]) (.cond (.t 66) (.seq (.seq (.region [⟨some 67,.mv (.t 4),none⟩,⟨some 68,.faddr 2 (.t 8),none⟩,⟨some 69,.load none (.t 68),none⟩,⟨some 70,.iaddr 1 (.t 67) (.t 69),none⟩,⟨some 71,.load none (.t 70),none⟩,⟨some 72,.len (.t 71),none⟩,⟨some 73,.bin .eql (.t 72) (.c (.v (.int .i64 0))),none⟩]) (.cond (.t 73) (.exit 4) .skip)) (.region [⟨some 74,.mv (.t 9),none⟩,⟨some 75,.mv (.t 4),none⟩,⟨some 76,.faddr 2 (.t 8),none⟩,⟨some 77,.load none (.t 76),none⟩,⟨some 78,.iaddr 1 (.t 75) (.t 77),none⟩,⟨some 79,.load none (.t 78),none⟩,⟨some 80,.call (.c (.fn 144 [])) [(.t 74),(.t 79)],none⟩,⟨some 9,.mv (.t 80),none⟩])) .skip)) (.seq (.region [⟨some 81,.mv (.t 9),none⟩,⟨some 82,.mv (.t 6),none⟩,⟨some 83,.iaddr 1 (.t 81) (.t 82),none⟩,⟨some 84,.load none (.t 83),none⟩,⟨some 85,.bin .add (.t 84) (.c (.v (.int .i64 1))),none⟩,⟨some 86,.iaddr 1 (.t 81) (.t 82),none⟩,⟨none,.store 1 (.t 86) (.t 85),none⟩]) (.seq (.seq (.region [⟨some 87,.faddr 0 (.t 8),none⟩,⟨some 88,.load none (.t 87),none⟩,⟨some 89,.bin .eql (.t 88) (.c (.v (.int .i64 2))),none⟩]) (.cond (.t 89) (.region [⟨some 90,.mv (.t 4),none⟩,⟨some 91,.faddr 2 (.t 8),none⟩,⟨some 92,.load none (.t 91),none⟩,⟨some 93,.mv (.t 9),none⟩,⟨some 94,.iaddr 1 (.t 90) (.t 92),none⟩,⟨none,.store 1 (.t 94) (.t 93),none⟩]) .skip)) (.seq (.region [⟨some 95,.mv (.t 3),none⟩,⟨some 96,.mv (.t 6),none⟩,⟨some 97,.mv (.t 3),none⟩,⟨some 98,.mv (.t 6),none⟩,⟨some 99,.iaddr 1 (.t 97) (.t 98),none⟩,⟨some 100,.load none (.t 99),none⟩,⟨some 101,.mv (.t 9),none⟩,⟨some 102,.bslice 1 [(.v .zsl)] 1 [(0,(.t 101))],none⟩,⟨some 103,.append 1 24 (.t 100) (.t 102),none⟩,⟨some 104,.iaddr 1 (.t 95) (.t 96),none⟩,⟨none,.store 1 (.t 104) (.t 103),none⟩]) (.region [⟨some 5,.mv (.c (.v (.bool true))),none⟩])))))))))))))) (.region [⟨some 105,.bin .add (.t 20) (.c (.v (.int .i64 1))),none⟩,⟨some 20,.mv (.t 105),none⟩]))))))))))))) (.seq (.region [⟨some 106,.mv (.t 3),none⟩,⟨some 2,.mv (.t 106),none⟩]) .ret)))))⟩
theorem a_stamps_ok : cFunc Try.prog 95 = some a_stamps := by kernel_rfl
def r_stamps0 : List (Nat × Nat) := [(5, 10), (16, 105)]
def r_stamps1 : List (Nat × Nat) := [(5, 10), (20, 105)]
def r_stamps2 : List (Nat × Nat) := [(5, 5), (8, 10), (25, 104)]

theorem joined_own (v w : List Int) (h1 : 1 ≤ v.length) (h2 : v.length ≤ 1000000) (h : v.length = w.length) (b l : List Row) : ACalls Try.prog 144 [.v (.isl 1 (v.map eI)), .v (.isl 1 (w.map eI))] b l (fun r b' l' => r = .sl (b.length + l.length) 1 0 v.length ∧ b' = b ∧ l' = l ++ [.live 1 1 (vs ((joinV v w).map eI))]) := by
 refine calls_kept a_joined_ok rfl (by decide) ?_
 intro B g hB hR hE hA
 simp only [KArgs] at hA
 simp (disch := decide) only [a_joined, hA, go_sem]
 refine ACalls_mono _ _ _ _ _ _ (clo1_spec v h1 h2 _ _) ?_
 rintro r b' l' ⟨rfl, rfl, rfl⟩
 have j0 := joTo_zero v w
 simp (disch := (first | decide | omega)) only [hA, List.length_map, go_sem]
 refine loop_kept (ι := Nat) r_joined0 (fun i => [(12, .v (.int .i64 i))]) 1 (fun i => [.live 1 1 (vs ((joTo v w i).map eI))])
  (fun i => i ≤ v.length) (fun i => v.length - i) 0 (Nat.zero_le _) (by (repeat (first | exact hE.mono oM | refine KLt.up ?_ kL))) (by ((try simp (disch := decide) only [hA, go_sem]) <;> exact kH)) (fun e => by rw [j0]; exact Weak.refl _ _ _) ?_
 intro g1 hE1 hEE1 hg1 i hi
 by_cases hlt : i < v.length
 ·have hlw : i < w.length := by omega
  have jl := joTo_len h i hi
  have jg := joTo_get h hlt oM
  have js := joTo_set h hlt hlw
  have hm : (if v[i] < w[i] then w[i] else v[i]) = max v[i] w[i] := by split <;> omega
  simp (disch := (first | decide | omega)) only [hA, hg1, eI, jg, hm, js, jl, go_sem]
  refine ⟨i + 1, hlt, by simp only; omega, ?_⟩
  exact Weak.kround (p := r_joined0) (k := 1) (by ((repeat refine (kAny_up rfl).trans ?_); exact hEE1)) (by ((try simp (disch := decide) only [hA, go_sem]) <;> exact kH)) rfl hE1 (by simp) kV hR kL
 ·have jl := joTo_len h i hi
  simp (disch := (first | decide | omega)) only [hA, hg1, go_sem]
  obtain rfl : i = v.length := by omega
  have hlen : b'.length = b.length + l.length := by rw [hB, List.length_append]
  exact leave_own (ver := 1) (sz := 1) (n := v.length) (rows := (joTo v w v.length).map eI) (junk := []) (.inr rfl) (by simp (disch := (first | decide | omega)) only [resVs, resV, hA, hg1, go_sem]) rfl hR hB ⟨by rw [hlen], rfl, by rw [joTo_all h]⟩
noncomputable def cR (t : Tr) (D : Nat → Nat) (p : Nat) : Row := .live (D p) 1 (vs (stRow t p (D p)))
noncomputable def stR (t : Tr) (base : Nat) (D : Nat → Nat) (T : List Row) : List Row :=
 .live 0 1 [[.v (.isl 3 (t.map ePr))]] :: .live 0 1 (fl t.length fun p => [.sl (base + (p + 1 + 1 + 1)) (D p) 0 (D p)]) :: .live 0 1 (vs (sentL t D)) :: (fl t.length (cR t D) ++ T)
section
variable {α : Type} {n : Nat} {C : Nat → α} {T : List α}
theorem fa_at {p : Nat} (h : p < n) : (fl n C ++ T)[p]? = some (C p) := by rw [List.getElem?_append_left (by rw [fl_len]; exact h), fl_get h]
theorem fa_tail {j : Nat} : (fl n C ++ T)[n + j]? = T[j]? := by rw [List.getElem?_append_right (by rw [fl_len]; omega), fl_len, Nat.add_sub_cancel_left]
theorem fa_tail0 : (fl n C ++ T)[n]? = T[0]? := fa_tail (j := 0)
theorem fa_set {p : Nat} {x : α} (h : p < n) : (fl n C ++ T).set p x = fl n (fUp C p x) ++ T := by rw [List.set_append_left _ _ (by rw [fl_len]; exact h), fl_set]
theorem fa_settail {j : Nat} {x : α} : (fl n C ++ T).set (n + j) x = fl n C ++ T.set j x := by rw [List.set_append_right _ _ (by rw [fl_len]; omega), fl_len, Nat.add_sub_cancel_left]
theorem fa_settail0 {x : α} : (fl n C ++ T).set n x = fl n C ++ T.set 0 x := fa_settail (j := 0)
end
theorem stR_lt {t : Tr} {m base : Nat} {D : Nat → Nat} {T : List Row} (hm : base + (t.length + 3) ≤ m) (hT : RowsLt m T) : RowsLt m (stR t base D T) := by
 intro id ver sz els hr row hrow c hc
 have hp : ∀ rows : List (List IV), row ∈ vs rows → AVlt m c := by
  intro rows h
  obtain ⟨r0, _, rfl⟩ := List.mem_map.1 h
  obtain ⟨x0, _, rfl⟩ := List.mem_map.1 hc
  exact .v _
 match id, hr with
 | 0, hr =>
   cases hr
   simp only [List.mem_singleton] at hrow
   subst hrow
   simp only [List.mem_singleton] at hc
   subst hc
   exact .v _
 | 1, hr =>
   cases hr
   obtain ⟨j, hj, rfl⟩ := List.mem_map.1 hrow
   simp only [List.mem_singleton] at hc
   subst hc
   have := List.mem_range.1 hj
   exact .sl _ _ _ _ oM
 | 2, hr => cases hr; exact hp _ hrow
 | id + 3, hr =>
   have hr : (fl t.length (cR t D) ++ T)[id]? = some (.live ver sz els) := hr
   by_cases hid : id < t.length
   ·rw [fa_at hid] at hr
    cases hr
    exact hp _ hrow
   ·rw [List.getElem?_append_right (by rw [fl_len]; omega)] at hr
    exact hT _ _ _ _ hr row hrow c hc
theorem Weak.nilrows {t : Tr} {e : List AV} {b : List Row} : ∀ i, i ≤ t.length → Weak e b [.live 0 1 [[.v (.isl 3 (t.map ePr))]], .live 0 1 (List.replicate t.length [.v .zsl]), .live 0 1 (vs (sentL t fun _ => 0))] e b
  (.live 0 1 [[.v (.isl 3 (t.map ePr))]] :: .live 0 1 (fl t.length fun p => if p < i then [.sl (b.length + (p + 1 + 1 + 1)) 0 0 0] else [.v .zsl]) :: .live 0 1 (vs (sentL t fun _ => 0)) :: fl i (cR t fun _ => 0))
 | 0, _ => by
   have : (fl t.length fun p => if p < 0 then [.sl (b.length + (p + 1 + 1 + 1)) 0 0 0] else [AV.v .zsl]) = List.replicate t.length [.v .zsl] := by
    rw [← fl_const]; exact fl_congr (fun j _ => if_neg oM)
   rw [this]
   exact Weak.refl _ _ _
 | i + 1, hi => by
   refine (Weak.nilrows i oM).trans ?_
   have := Weak.nilcell (e := e) (b := b) (sz := 1) (i := 1) (ver := 0) (z := 1) (k := i) (j := 0) (row := [.v .zsl]) (l := .live 0 1 [[.v (.isl 3 (t.map ePr))]] :: .live 0 1 (fl t.length fun p => if p < i then [.sl (b.length + (p + 1 + 1 + 1)) 0 0 0] else [.v .zsl]) :: .live 0 1 (vs (sentL t fun _ => 0)) :: fl i (cR t fun _ => 0)) rfl (by rw [fl_get oM, if_neg oM]) rfl
   refine Weak.trans this ?_
   have e2 : (fl t.length fun p => if p < i then [.sl (b.length + (p + 1 + 1 + 1)) 0 0 0] else [AV.v .zsl]).set i [.sl (b.length + (i + 1 + 1 + 1)) 0 0 0] = fl t.length fun p => if p < i + 1 then [.sl (b.length + (p + 1 + 1 + 1)) 0 0 0] else [.v .zsl] := by
    rw [fl_set]
    refine fl_congr (fun j _ => ?_)
    unfold fUp
    by_cases hj : j = i
    ·subst hj; rw [if_pos rfl, if_pos oM]
    ·rw [if_neg hj]
     show (if j < i then _ else _) = _
     by_cases hji : j < i
     ·rw [if_pos hji, if_pos oM]
     ·rw [if_neg hji, if_neg oM]
   have e3 : fl i (cR t fun _ => 0) ++ [.live 0 1 []] = fl (i + 1) (cR t fun _ => 0) := fl_next rfl
   simp only [List.set_cons_succ, List.set_cons_zero, List.length_cons, fl_len, List.cons_append, e3]
   rw [e2]
   exact Weak.refl _ _ _
theorem Weak.nilall {t : Tr} {e : List AV} {b : List Row} : Weak e b [.live 0 1 [[.v (.isl 3 (t.map ePr))]], .live 0 1 (List.replicate t.length [.v .zsl]), .live 0 1 (List.replicate 200 [AV.v IV.zsl])] e b (stR t b.length (fun _ => 0) []) := by
 have h := Weak.nilrows (t := t) (e := e) (b := b) t.length (Nat.le_refl _)
 have e2 : (fl t.length fun p => if p < t.length then [.sl (b.length + (p + 1 + 1 + 1)) 0 0 0] else [AV.v .zsl]) = fl t.length fun p => [.sl (b.length + (p + 1 + 1 + 1)) 0 0 0] := fl_congr (fun j hj => if_pos hj)
 rw [e2] at h
 rw [sentL_zero (t := t)]
 unfold stR
 rw [List.append_nil]
 exact h
def Dn (t : Tr) (D : Nat → Nat) : Prop := ∀ p, p < t.length → D p ≤ (evsOf t p).length
def Prg (t : Tr) (D0 D : Nat → Nat) (ag : Bool) (n : Nat) : Prop := Dn t D ∧ (ag = false → D = D0 ∧ ∀ q, q < n → ¬ Rdy t D0 q) ∧ (ag = true → remT t D < remT t D0)
theorem stR_lt0 {t : Tr} {m base : Nat} {D : Nat → Nat} (hm : base + (t.length + 3) ≤ m) : RowsLt m (.live 0 1 [[.v (.isl 3 (t.map ePr))]] :: .live 0 1 (fl t.length fun p => [.sl (base + (p + 1 + 1 + 1)) (D p) 0 (D p)]) :: .live 0 1 (vs (sentL t D)) :: fl t.length (cR t D)) := by
 have h := stR_lt (t := t) (D := D) hm RowsLt_nil
 unfold stR at h
 rwa [List.append_nil] at h
theorem oR_frz {n id ver sz base p : Nat} {rows : List (List IV)} {D : Nat → Nat} (hp : p < n) (hid : base + (n + 3) ≤ id) :
  ((fl n fun q => [AV.sl (base + (q + 1 + 1 + 1)) (D q) 0 (D q)]).set p [.sl (base + (p + 1 + 1 + 1)) (D p + 1) 0 (D p + 1)]).map (List.map (frz0 id ver sz rows)) = fl n fun q => [.sl (base + (q + 1 + 1 + 1)) (fUp D p (D p + 1) q) 0 (fUp D p (D p + 1) q)] := by
 rw [fl_set, fl_map]
 refine fl_congr (fun q hq => ?_)
 by_cases hqp : q = p
 ·subst hqp
  rw [fUp_same, fUp_same]
  simp only [List.map_cons, List.map_nil, frz0]
  rw [if_neg oM]
 ·rw [fUp_ne hqp, fUp_ne hqp]
  simp only [List.map_cons, List.map_nil, frz0]
  rw [if_neg oM]
theorem cR_frz {t : Tr} {id ver p : Nat} {D : Nat → Nat} (hp : p < t.length) :
  (fl t.length (fUp (cR t D) p (.live (D p + 1) 1 (vs (stRow t p (D p)) ++ [[.sl id ver 0 t.length]])))).map (rowMap (frz0 id ver 1 ((vcs t (p, D p + 1)).map eI))) = fl t.length (cR t (fUp D p (D p + 1))) := by
 rw [fl_map]
 refine fl_congr (fun q hq => ?_)
 by_cases hqp : q = p
 ·subst hqp
  unfold cR
  rw [fUp_same, fUp_same]
  simp only [rowMap, List.map_append, vs_frz0, List.map_cons, List.map_nil, frz0]
  rw [if_pos ⟨trivial, trivial, by simp [vcs, fl_len]⟩, ← stRow_next]
  simp [vs, vcs, fl_len]
  unfold fl
  rw [List.take_of_length_le (by simp)]
 ·unfold cR
  rw [fUp_ne hqp, fUp_ne hqp]
  simp only [rowMap, vs_frz0]
theorem sent_frz {t : Tr} (hv : Vok t) {id ver p m : Nat} {D : Nat → Nat} (hx : (p, D p + 1) ∈ ids t) (hk : (evAt t (p, D p + 1)).kind = 2) (hm : (evAt t (p, D p + 1)).msg = m) :
  ((vs (sentL t D)).set m [.sl id ver 0 t.length]).map (List.map (frz0 id ver 1 ((vcs t (p, D p + 1)).map eI))) = vs (sentL t (fUp D p (D p + 1))) := by
 rw [← sentL_send hv hx hk hm, List.map_set, vs_frz0]
 simp only [List.map_cons, List.map_nil, frz0]
 rw [if_pos ⟨trivial, trivial, by simp [vcs, fl_len]⟩]
 simp only [vs, List.map_set, List.map_cons, List.map_nil, List.drop_zero]
 rw [List.take_of_length_le (by simp [vcs, fl_len])]
def xRow (x : Pr) : Row := .live 0 3 [[.v (.str x.name), .v (.isl 2 (x.vars.map eVr)), .v (.isl 5 (x.evs.map eEv))]]
theorem st_frz {t : Tr} {base ver p j : Nat} {D : Nat → Nat} {S : List (List AV)} {S' : List (List IV)} {x : Pr} {T : List Row} (hp : p < t.length)
  (hS : S.map (List.map (frz0 (base + (t.length + (j + 1) + 1 + 1 + 1)) ver 1 ((vcs t (p, D p + 1)).map eI))) = vs S') :
  ((Row.live 0 1 [[.v (.isl 3 (t.map ePr))]] :: Row.live 0 1 ((fl t.length fun q => [AV.sl (base + (q + 1 + 1 + 1)) (D q) 0 (D q)]).set p [.sl (base + (p + 1 + 1 + 1)) (D p + 1) 0 (D p + 1)]) :: Row.live 0 1 S ::
    (fl t.length (fUp (cR t D) p (.live (D p + 1) 1 (vs (stRow t p (D p)) ++ [[.sl (base + (t.length + (j + 1) + 1 + 1 + 1)) ver 0 t.length]]))) ++ xRow x :: T)).set (t.length + (j + 1) + 1 + 1 + 1) (.dead ver)).map (rowMap (frz0 (base + (t.length + (j + 1) + 1 + 1 + 1)) ver 1 ((vcs t (p, D p + 1)).map eI)))
  = (Row.live 0 1 [[.v (.isl 3 (t.map ePr))]] :: Row.live 0 1 (fl t.length fun q => [AV.sl (base + (q + 1 + 1 + 1)) (fUp D p (D p + 1) q) 0 (fUp D p (D p + 1) q)]) :: Row.live 0 1 (vs S') :: (fl t.length (cR t (fUp D p (D p + 1))) ++ [xRow x])) ++ (T.set j (.dead ver)).map (rowMap (frz0 (base + (t.length + (j + 1) + 1 + 1 + 1)) ver 1 ((vcs t (p, D p + 1)).map eI))) := by
 simp only [List.set_cons_succ, fa_settail, List.map_cons, List.map_append, rowMap, hS, cR_frz hp]
 rw [oR_frz hp oM]
 simp [rowMap, xRow, frz0]
theorem stR_ltx {t : Tr} {m base : Nat} {D : Nat → Nat} {x : Pr} (hm : base + (t.length + 3) ≤ m) : RowsLt m (.live 0 1 [[.v (.isl 3 (t.map ePr))]] :: .live 0 1 (fl t.length fun p => [.sl (base + (p + 1 + 1 + 1)) (D p) 0 (D p)]) :: .live 0 1 (vs (sentL t D)) :: (fl t.length (cR t D) ++ [xRow x])) :=
 stR_lt (t := t) (D := D) (T := [xRow x]) hm (by simp (disch := omega) only [xRow, lts.down, Nat.reduceLT, Nat.reduceAdd])
noncomputable def sfR (t : Tr) (base : Nat) (D : Nat → Nat) (i : Nat) : List Row :=
 .live 0 1 [[.v (.isl 3 (t.map ePr))]] :: .live 0 1 (fl t.length fun p => if p < i then [.v (.isl 1 (stRow t p (D p)))] else [.sl (base + (p + 1 + 1 + 1)) (D p) 0 (D p)]) :: .live 0 1 (vs (sentL t D)) :: fl t.length fun p => if p < i then .dead (D p) else cR t D p
theorem sfR_step {t : Tr} {base : Nat} {D : Nat → Nat} {i : Nat} (h : i < t.length) :
  ((sfR t base D i).set (i + 1 + 1 + 1) (.dead (D i))).map (rowMap (frz0 (base + (i + 1 + 1 + 1)) (D i) 1 (stRow t i (D i)))) = sfR t base D (i + 1) := by
 unfold sfR
 simp only [List.set_cons_succ, List.map_cons, rowMap, vs_frz0, fl_set, fl_map]
 have e0 : List.map (frz0 (base + (i + 1 + 1 + 1)) (D i) 1 (stRow t i (D i))) [AV.v (.isl 3 (t.map ePr))] = [AV.v (.isl 3 (t.map ePr))] := rfl
 refine congr (congrArg _ ?_) ?_
 ·simp [frz0]
 refine congr (congrArg _ ?_) (congrArg _ ?_)
 ·congr 1
  refine fl_congr (fun j hj => ?_)
  by_cases h1 : j < i
  ·rw [if_pos h1, if_pos oM]; rfl
  ·rw [if_neg h1]
   by_cases h2 : j = i
   ·subst h2
    rw [if_pos oM]
    have : (stRow t j (D j)).length = D j := fl_len
    simp only [List.map_cons, List.map_nil, frz0]
    rw [if_pos ⟨trivial, trivial, by omega⟩, List.drop_zero, List.take_of_length_le oM]
   ·rw [if_neg oM]
    simp only [List.map_cons, List.map_nil, frz0]
    rw [if_neg oM]
 ·refine fl_congr (fun j hj => ?_)
  by_cases h2 : j = i
  ·subst h2
   rw [fUp_same, if_pos oM]
  ·rw [fUp_ne h2]
   by_cases h1 : j < i
   ·rw [if_pos h1, if_pos oM]
   ·rw [if_neg h1, if_neg oM]
    unfold cR
    simp only [rowMap, vs_frz0]
theorem Weak.sfrz {e : List AV} {b : List Row} {t : Tr} {D : Nat → Nat} (he : ∀ i, i < t.length → e.map (frz (b.length + (i + 1 + 1 + 1)) (D i) 1 (stRow t i (D i))) = e) : ∀ i, i ≤ t.length → Weak e b (sfR t b.length D 0) e b (sfR t b.length D i)
 | 0, _ => Weak.refl _ _ _
 | i + 1, hi => by
   refine (Weak.sfrz he i oM).trans ?_
   have := Weak.freezeR (e := e) (b := b) (l := sfR t b.length D i) (i := i + 1 + 1 + 1) (ver := D i) (sz := 1) (rows := stRow t i (D i)) (by
    unfold sfR
    simp only [List.getElem?_cons_succ]
    rw [fl_get oM, if_neg oM]; rfl)
   rwa [he i oM, sfR_step oM] at this
theorem leave_st {rs : List ARes} {Q : AV → List Row → List Row → Prop} {B e l : _} {t : Tr} {D : Nat → Nat} (hD : ∀ p, p < t.length → D p = (evsOf t p).length) (hx : resVs e B l rs = some [.sl (B.length + 1) 0 0 t.length]) (hl : l = stR t B.length D [])
  (hR : RowsLt B.length B) {b0 l0 : List Row} (hB : B = b0 ++ l0) (hq : Q (.v (.isl 1 (stAll t t.length))) b0 l0) : Leaves rs Q b0.length .ret e B l := by
 have e1 : stR t B.length D [] = sfR t B.length D 0 := by
  unfold stR sfR
  rw [List.append_nil]
  simp
 have e2 : (sfR t B.length D t.length)[1]? = some (.live 0 1 (vs (stAll t t.length))) := by
  unfold sfR
  simp only [List.getElem?_cons_succ, List.getElem?_cons_zero]
  congr 2
  unfold vs stAll
  rw [fl_map]
  refine fl_congr (fun j hj => ?_)
  rw [if_pos hj, hD j hj]; rfl
 refine leave (.inr rfl) hx (y := .v (.isl 1 (stAll t t.length))) (l' := []) ?_ hB (by simpa using hq)
 rw [hl, e1]
 refine (Weak.sfrz (e := [one [AV.sl (B.length + 1) 0 0 t.length]]) (b := B) (fun i hi => ?_) t.length (Nat.le_refl _)).trans ?_
 ·simp only [one, List.map_cons, List.map_nil, frz, frz0]
  rw [if_neg oM]
 have h1 := Weak.freezeR (e := [one [AV.sl (B.length + 1) 0 0 t.length]]) (b := B) (i := 1) (rows := stAll t t.length) e2
 refine h1.trans ?_
 have h2 : List.map (frz (B.length + 1) 0 1 (stAll t t.length)) [one [AV.sl (B.length + 1) 0 0 t.length]] = [.v (.isl 1 (stAll t t.length))] := by
  simp [one, frz, frz0, stAll, fl_len]
  unfold fl
  rw [List.take_of_length_le (by simp)]
 rw [h2]
 exact Weak.trim (l1 := []) rfl (by
  intro x hx
  simp only [List.mem_singleton] at hx
  subst hx
  exact .v _) (by simpa using hR) RowsLt_nil
set_option maxRecDepth 20000 in
set_option maxHeartbeats 2000000 in
theorem stamps_spec (t : Tr) (hv : Vok t) (hS : Small t) (b l : List Row) :
  ACalls Try.prog 95 [.agg [.v (eT t)]] b l (fun r b' l' => r = .v (.isl 1 (stAll t t.length)) ∧ b' = b ∧ l' = l) := by
 refine calls_kept a_stamps_ok rfl (by decide) ?_
 intro B g hB hR hE hA
 simp only [KArgs] at hA
 have hlo := hv.hi
 simp (disch := (first | decide | omega)) only [a_stamps, eT, hA, List.length_map, go_sem]
 refine loop_kept (ι := (Nat → Nat) × Bool) r_stamps0 (fun i => [(5, .v (.bool i.2))]) (t.length + 3) (fun i => stR t B.length i.1 [])
  (fun i => Dn t i.1 ∧ (i.2 = false → ∀ p, p < t.length → i.1 p = (evsOf t p).length)) (fun i => 2 * remT t i.1 + cond i.2 1 0) (fun _ => 0, true) ⟨fun p hp => Nat.zero_le _, fun h => by cases h⟩ (by (repeat (first | exact hE.mono oM | refine KLt.up ?_ kL))) (by ((try simp (disch := decide) only [hA, go_sem]) <;> exact kH)) (fun e => by have h := Weak.nilall (t := t) (e := e) (b := B); simp only [vs, List.map_replicate, List.map_cons, List.map_nil]; exact h) ?_
 rintro g1 hE1 hEE1 hg1 ⟨D0, ag0⟩ ⟨hD0, hag0⟩
 cases ag0 with
 | false =>
   have hall := hag0 rfl
   simp (disch := (first | decide | omega)) only [hA, hg1, go_sem]
   exact leave_st hall (by simp (disch := (first | decide | omega)) only [resVs, resV, hA, hg1, go_sem]) rfl hR hB ⟨rfl, rfl, rfl⟩
 | true =>
   simp (disch := (first | decide | omega)) only [hA, hg1, List.length_map, stR, go_sem]
   refine loop_kept (ι := Nat × (Nat → Nat) × Bool) r_stamps1 (fun i => [(5, .v (.bool i.2.2)), (20, .v (.int .i64 i.1))]) (t.length + 3) (fun i => stR t B.length i.2.1 [])
    (fun i => i.1 ≤ t.length ∧ Prg t D0 i.2.1 i.2.2 i.1) (fun i => t.length - i.1) (0, D0, false) ⟨Nat.zero_le _, hD0, fun _ => ⟨rfl, fun q hq => by omega⟩, fun h => by cases h⟩ (by (repeat (first | exact hE1.mono oM | refine KLt.up ?_ kL))) (by ((try simp (disch := decide) only [hA, hg1, go_sem]) <;> exact kH)) (fun e => by unfold stR; rw [List.append_nil]; exact Weak.refl _ _ _) ?_
   rintro g2 hE2 hEE2 hg2 ⟨p, D1, ag1⟩ ⟨hp, hP1⟩
   simp only at hp hP1
   by_cases hlt : p < t.length
   ·have heq := evsOf_lt hlt
    have hne := hS.ne _ (List.getElem_mem hlt)
    simp (disch := (first | decide | omega)) only [hA, hg1, hg2, ePr, List.length_map, stR, fl_len, fa_at, fa_tail, fa_tail0, fa_set, fa_settail, fa_settail0, fl_get, go_sem]
    refine loop_kept (ι := (Nat → Nat) × Bool) r_stamps2 (fun i => [(5, .v (.bool i.2))]) (t.length + 4) (fun i => stR t B.length i.1 [xRow t[p]])
     (fun i => Prg t D0 i.1 i.2 p) (fun i => remT t i.1) (D1, ag1) hP1 (by (repeat (first | exact hE2.mono oM | refine KLt.up ?_ kL))) (by ((try simp (disch := decide) only [hA, hg1, hg2, go_sem]) <;> exact kH)) (fun e => by first | exact Weak.refl _ _ _) ?_
    rintro g3 hE3 hEE3 hg3 ⟨D, ag⟩ hP
    simp only at hP
    by_cases hd : D p < (evsOf t p).length
    ·have hd' : D p < t[p].evs.length := by rw [← heq]; exact hd
     have hcd : decide ((D p : Int) < (t[p].evs.length : Int)) = true := decide_eq_true oM
     simp (disch := (first | decide | omega)) only [hA, hg1, hg2, hg3, ePr, List.length_map, stR, fl_len, fa_at, fa_tail, fa_tail0, fa_set, fa_settail, fa_settail0, fl_get, xRow, hcd, eEv, go_sem]
     have hx : (p, D p + 1) ∈ ids t := mem_ids2.2 ⟨hlt, hd⟩
     have hev : evAt t (p, D p + 1) = t[p].evs[D p] := by unfold evAt; simp [heq, List.getD, hd']
     have hpl : (prvV t p (D p)).length = t.length := fl_len
     have hrl : (rcvV t p (D p)).length = t.length := rcvV_len
     have hn0 : ((t.length : Int) == 0) = false := beq_eq_false_iff_ne.2 oM
     have hown : (rcvV t p (D p)).getD p 0 = (D p : Int) := by
      have h1 : ((rcvV t p (D p)).set p ((rcvV t p (D p)).getD p 0 + 1)).getD p 0 = (vcs t (p, D p + 1)).getD p 0 := by rw [vcs_set hv hx]
      rw [getD_at (by rw [List.length_set, hrl]; exact hlt), List.getElem_set_self] at h1
      unfold vcs at h1
      rw [fl_getD hlt, vc_own hv hx] at h1
      omega
     have hrg : (rcvV t p (D p))[p]? = some (D p : Int) := by rw [List.getElem?_eq_getElem (by rw [hrl]; exact hlt), ← getD_at (d := 0), hown]
     have hrs : ((rcvV t p (D p)).map eI).set p [.int .i64 ((D p : Int) + 1)] = (vcs t (p, D p + 1)).map eI := by
      rw [← vcs_set hv hx, hown, List.map_set]; rfl
     have h32 : ((3 : Int) == 2) = false := rfl
     have hprg : Prg t D0 (fUp D p (D p + 1)) true p := by
      have hst := remT_step hlt hd
      refine ⟨fun q hq => ?_, (fun h => by cases h), fun _ => ?_⟩
      ·by_cases hqp : q = p
       ·subst hqp; rw [fUp_same]; omega
       ·rw [fUp_ne hqp]; exact hP.1 q hq
      ·cases ag with
       | true => have := hP.2.2 rfl; omega
       | false => rw [← (hP.2.1 rfl).1]; omega
     have hvl : ∀ x, (vcs t x).length = t.length := fun x => fl_len
     have hsL : (sentL t D).length = 200 := fl_len
     have hrw : (stRow t p (D p)).length = D p := fl_len
     have tkr : List.take (D p) (stRow t p (D p)) = stRow t p (D p) := List.take_of_length_le oM
     by_cases hk : 0 < D p
     ·have hk1 : decide (0 < (D p : Int)) = true := decide_eq_true oM
      have hkt : ((D p : Int) - 1).toNat = D p - 1 := by omega
      have hst : (stRow t p (D p))[D p - 1]? = some [.isl 1 ((prvV t p (D p)).map eI)] := by
       obtain ⟨k, hkk⟩ : ∃ k, D p = k + 1 := ⟨D p - 1, by omega⟩
       rw [hkk, prvV_succ]
       exact fl_get oM
      have tk : List.take t.length ((prvV t p (D p)).map eI) = (prvV t p (D p)).map eI := List.take_of_length_le (by simp [hpl])
      have dr : List.drop t.length (List.replicate t.length [IV.int .i64 0]) = [] := List.drop_eq_nil_of_le (by simp)
      simp (disch := (first | decide | omega)) only [hA, hg1, hg2, hg3, List.length_map, fl_len, fa_at, fa_tail, fa_tail0, fa_set, fa_settail, fa_settail0, fl_get, List.length_replicate, vs_nil, List.length_set, hk1, hkt, hst, hpl, tk, dr, cR, go_sem]
      by_cases hk3 : t[p].evs[D p].kind = 3
      ·-- receive
       obtain ⟨m, hm, hm2⟩ := msg_in hv hx (.inr (by rw [hev]; exact hk3))
       have hsv := sentV_recv hv hx (by rw [hev]; exact hk3) hm
       rw [hev] at hm
       have hsg : (sentL t D)[m]? = some [sentV t D m] := fl_get hm2
       by_cases hr : (sndr t (p, D p + 1)).2 ≤ D (sndr t (p, D p + 1)).1
       ·rw [if_pos hr] at hsv
        rw [hsv] at hsg
        have hrv : joinV (prvV t p (D p)) (vcs t (sndr t (p, D p + 1))) = rcvV t p (D p) := by unfold rcvV; rw [if_pos (by rw [hev]; exact hk3)]
        simp (disch := (first | decide | omega)) only [hA, hg1, hg2, hg3, List.length_map, fl_len, fa_at, fa_tail, fa_tail0, fa_set, fa_settail, fa_settail0, fl_get, List.length_replicate, vs_nil, List.length_set, hk3, hm, hsg, hsL, hvl, hpl, hn0, go_sem]
        refine ACalls.frzB (i := t.length + 2 + 1 + 1 + 1) (ver := 0) (sz := 1) (rows := (prvV t p (D p)).map eI) (by simp only [List.getElem?_cons_succ, fa_tail, List.getElem?_cons_zero]) (by simp only [List.map_cons, List.map_nil]; rw [frz_own (by simp [hpl]), frz_v]) ?_
        refine ACalls.nxt (joined_own (prvV t p (D p)) (vcs t (sndr t (p, D p + 1))) oM oM (by rw [hpl, hvl]) _ _) ?_
        rw [hrv]
        simp (disch := (first | decide | omega)) only [hA, hg1, hg2, hg3, List.length_map, fl_len, fa_at, fa_tail, fa_tail0, fa_set, fa_settail, fa_settail0, fl_get, List.length_replicate, vs_nil, List.length_set, hk3, hm, hpl, hrl, hrg, hrs, eI, hrw, tkr, cR, h32, setFrom, cellsOf, go_sem]
        refine ⟨(fUp D p (D p + 1), true), hprg, by have := remT_step hlt hd; simp only; omega, ?_⟩
        rw [← sentL_other (D := D) (p := p) (by rw [hev, hk3]; decide)]
        exact Weak.kroundF (p := r_stamps2) (i := t.length + 3 + 1 + 1 + 1) (ver := 1) (sz := 1) (rows := (vcs t (p, D p + 1)).map eI) (k := t.length + 4) (by simp only [List.getElem?_cons_succ, fa_tail, List.getElem?_cons_zero]) (by ((repeat refine (kAny_up rfl).trans ?_); exact hEE3)) (by ((try simp (disch := decide) only [hA, go_sem]) <;> exact kH)) (st_frz (j := 2) (x := t[p]) hlt vs_frz0) (by (repeat (first | exact hE3.mono oM | refine KLt.up ?_ kL))) (by simp [fl_len]) (by simp [fl_len]) kV hR (stR_ltx (by simp [fl_len]))
       ·rw [if_neg hr] at hsv
        rw [hsv] at hsg
        simp (disch := (first | decide | omega)) only [hA, hg1, hg2, hg3, List.length_map, fl_len, fa_at, fa_tail, fa_tail0, fa_set, fa_settail, fa_settail0, fl_get, List.length_replicate, vs_nil, List.length_set, hk3, hm, hsg, hsL, hvl, hpl, hn0, go_sem]
        refine ⟨(p + 1, D, ag), ⟨hlt, hP.1, fun h => ⟨(hP.2.1 h).1, fun q hq hr2 => ?_⟩, hP.2.2⟩, by simp only; omega, ?_⟩
        ·by_cases hqp : q = p
         ·subst hqp; rw [← (hP.2.1 h).1] at hr2; exact hr (hr2.2 (by rw [hev]; exact hk3))
         ·exact (hP.2.1 h).2 q oM hr2
        ·refine Weak.kround (p := r_stamps1) (k := t.length + 3) (by ((repeat refine (kAny_up rfl).trans ?_); refine (kAny_sub hg3 (kIn_sub rfl)).trans ?_; (repeat refine (kAny_up rfl).trans ?_); exact hEE2)) (by ((try simp (disch := decide) only [hA, go_sem]) <;> exact kH)) rfl (by (repeat (first | exact hE2.mono oM | refine KLt.up ?_ kL))) (by simp [fl_len]) kV hR (stR_lt0 (by simp [fl_len]))
      ·have hk3b : (t[p].evs[D p].kind == 3) = false := beq_eq_false_iff_ne.2 hk3
       have hrv : prvV t p (D p) = rcvV t p (D p) := by unfold rcvV; rw [if_neg (by rw [hev]; exact hk3)]
       by_cases hk2 : t[p].evs[D p].kind = 2
       ·obtain ⟨m, hm, hm2⟩ := msg_in hv hx (.inl (by rw [hev]; exact hk2))
        have hm0 := hm
        rw [hev] at hm
        have h23 : ((2 : Int) == 3) = false := rfl
        have hsE : ∀ h : m < (sentL t D).length, (sentL t D)[m]'h = [sentV t D m] := fun h => fl_getE h
        simp (disch := (first | decide | omega)) only [hA, hg1, hg2, hg3, List.length_map, fl_len, fa_at, fa_tail, fa_tail0, fa_set, fa_settail, fa_settail0, fl_get, List.length_replicate, vs_nil, List.length_set, hk2, h23, hm, hsL, hsE, hrv, hrl, hrg, hrs, eI, hrw, tkr, cR, setFrom, cellsOf, go_sem]
        refine ⟨(fUp D p (D p + 1), true), hprg, by have := remT_step hlt hd; simp only; omega, ?_⟩
        exact Weak.kroundF (p := r_stamps2) (i := t.length + 2 + 1 + 1 + 1) (ver := 0) (sz := 1) (rows := (vcs t (p, D p + 1)).map eI) (k := t.length + 4) (by simp only [List.getElem?_cons_succ, fa_tail, List.getElem?_cons_zero]) (by ((repeat refine (kAny_up rfl).trans ?_); exact hEE3)) (by ((try simp (disch := decide) only [hA, go_sem]) <;> exact kH)) (st_frz (j := 1) (x := t[p]) hlt (sent_frz hv hx (by rw [hev]; exact hk2) hm0)) (by (repeat (first | exact hE3.mono oM | refine KLt.up ?_ kL))) (by simp [fl_len]) (by simp [fl_len]) kV hR (stR_ltx (by simp [fl_len]))
       ·have hk2b : (t[p].evs[D p].kind == 2) = false := beq_eq_false_iff_ne.2 hk2
        simp (disch := (first | decide | omega)) only [hA, hg1, hg2, hg3, List.length_map, fl_len, fa_at, fa_tail, fa_tail0, fa_set, fa_settail, fa_settail0, fl_get, List.length_replicate, vs_nil, List.length_set, hk3b, hk2b, hrv, hrl, hrg, hrs, eI, hrw, tkr, cR, setFrom, cellsOf, go_sem]
        refine ⟨(fUp D p (D p + 1), true), hprg, by have := remT_step hlt hd; simp only; omega, ?_⟩
        rw [← sentL_other (D := D) (p := p) (by rw [hev]; exact hk2)]
        exact Weak.kroundF (p := r_stamps2) (i := t.length + 2 + 1 + 1 + 1) (ver := 0) (sz := 1) (rows := (vcs t (p, D p + 1)).map eI) (k := t.length + 4) (by simp only [List.getElem?_cons_succ, fa_tail, List.getElem?_cons_zero]) (by ((repeat refine (kAny_up rfl).trans ?_); exact hEE3)) (by ((try simp (disch := decide) only [hA, go_sem]) <;> exact kH)) (st_frz (j := 1) (x := t[p]) hlt vs_frz0) (by (repeat (first | exact hE3.mono oM | refine KLt.up ?_ kL))) (by simp [fl_len]) (by simp [fl_len]) kV hR (stR_ltx (by simp [fl_len]))
     ·have hk1 : decide (0 < (D p : Int)) = false := decide_eq_false oM
      have hz : D p = 0 := by omega
      have hv0 : List.replicate t.length [IV.int .i64 0] = (prvV t p (D p)).map eI := by rw [hz, prvV_zero]
      simp (disch := (first | decide | omega)) only [hA, hg1, hg2, hg3, List.length_map, fl_len, fa_at, fa_tail, fa_tail0, fa_set, fa_settail, fa_settail0, fl_get, List.length_replicate, vs_nil, List.length_set, hk1, hv0, cR, go_sem]
      by_cases hk3 : t[p].evs[D p].kind = 3
      ·-- receive
       obtain ⟨m, hm, hm2⟩ := msg_in hv hx (.inr (by rw [hev]; exact hk3))
       have hsv := sentV_recv hv hx (by rw [hev]; exact hk3) hm
       rw [hev] at hm
       have hsg : (sentL t D)[m]? = some [sentV t D m] := fl_get hm2
       by_cases hr : (sndr t (p, D p + 1)).2 ≤ D (sndr t (p, D p + 1)).1
       ·rw [if_pos hr] at hsv
        rw [hsv] at hsg
        have hrv : joinV (prvV t p (D p)) (vcs t (sndr t (p, D p + 1))) = rcvV t p (D p) := by unfold rcvV; rw [if_pos (by rw [hev]; exact hk3)]
        simp (disch := (first | decide | omega)) only [hA, hg1, hg2, hg3, List.length_map, fl_len, fa_at, fa_tail, fa_tail0, fa_set, fa_settail, fa_settail0, fl_get, List.length_replicate, vs_nil, List.length_set, hk3, hm, hsg, hsL, hvl, hpl, hn0, go_sem]
        refine ACalls.frzB (i := t.length + 2 + 1 + 1 + 1) (ver := 0) (sz := 1) (rows := (prvV t p (D p)).map eI) (by simp only [List.getElem?_cons_succ, fa_tail, List.getElem?_cons_zero]) (by simp only [List.map_cons, List.map_nil]; rw [frz_own (by simp [hpl]), frz_v]) ?_
        refine ACalls.nxt (joined_own (prvV t p (D p)) (vcs t (sndr t (p, D p + 1))) oM oM (by rw [hpl, hvl]) _ _) ?_
        rw [hrv]
        simp (disch := (first | decide | omega)) only [hA, hg1, hg2, hg3, List.length_map, fl_len, fa_at, fa_tail, fa_tail0, fa_set, fa_settail, fa_settail0, fl_get, List.length_replicate, vs_nil, List.length_set, hk3, hm, hpl, hrl, hrg, hrs, eI, hrw, tkr, cR, h32, setFrom, cellsOf, go_sem]
        refine ⟨(fUp D p (D p + 1), true), hprg, by have := remT_step hlt hd; simp only; omega, ?_⟩
        rw [← sentL_other (D := D) (p := p) (by rw [hev, hk3]; decide)]
        exact Weak.kroundF (p := r_stamps2) (i := t.length + 3 + 1 + 1 + 1) (ver := 1) (sz := 1) (rows := (vcs t (p, D p + 1)).map eI) (k := t.length + 4) (by simp only [List.getElem?_cons_succ, fa_tail, List.getElem?_cons_zero]) (by ((repeat refine (kAny_up rfl).trans ?_); exact hEE3)) (by ((try simp (disch := decide) only [hA, go_sem]) <;> exact kH)) (st_frz (j := 2) (x := t[p]) hlt vs_frz0) (by (repeat (first | exact hE3.mono oM | refine KLt.up ?_ kL))) (by simp [fl_len]) (by simp [fl_len]) kV hR (stR_ltx (by simp [fl_len]))
       ·rw [if_neg hr] at hsv
        rw [hsv] at hsg
        simp (disch := (first | decide | omega)) only [hA, hg1, hg2, hg3, List.length_map, fl_len, fa_at, fa_tail, fa_tail0, fa_set, fa_settail, fa_settail0, fl_get, List.length_replicate, vs_nil, List.length_set, hk3, hm, hsg, hsL, hvl, hpl, hn0, go_sem]
        refine ⟨(p + 1, D, ag), ⟨hlt, hP.1, fun h => ⟨(hP.2.1 h).1, fun q hq hr2 => ?_⟩, hP.2.2⟩, by simp only; omega, ?_⟩
        ·by_cases hqp : q = p
         ·subst hqp; rw [← (hP.2.1 h).1] at hr2; exact hr (hr2.2 (by rw [hev]; exact hk3))
         ·exact (hP.2.1 h).2 q oM hr2
        ·refine Weak.kround (p := r_stamps1) (k := t.length + 3) (by ((repeat refine (kAny_up rfl).trans ?_); refine (kAny_sub hg3 (kIn_sub rfl)).trans ?_; (repeat refine (kAny_up rfl).trans ?_); exact hEE2)) (by ((try simp (disch := decide) only [hA, go_sem]) <;> exact kH)) rfl (by (repeat (first | exact hE2.mono oM | refine KLt.up ?_ kL))) (by simp [fl_len]) kV hR (stR_lt0 (by simp [fl_len]))
      ·have hk3b : (t[p].evs[D p].kind == 3) = false := beq_eq_false_iff_ne.2 hk3
       have hrv : prvV t p (D p) = rcvV t p (D p) := by unfold rcvV; rw [if_neg (by rw [hev]; exact hk3)]
       by_cases hk2 : t[p].evs[D p].kind = 2
       ·obtain ⟨m, hm, hm2⟩ := msg_in hv hx (.inl (by rw [hev]; exact hk2))
        have hm0 := hm
        rw [hev] at hm
        have h23 : ((2 : Int) == 3) = false := rfl
        have hsE : ∀ h : m < (sentL t D).length, (sentL t D)[m]'h = [sentV t D m] := fun h => fl_getE h
        simp (disch := (first | decide | omega)) only [hA, hg1, hg2, hg3, List.length_map, fl_len, fa_at, fa_tail, fa_tail0, fa_set, fa_settail, fa_settail0, fl_get, List.length_replicate, vs_nil, List.length_set, hk2, h23, hm, hsL, hsE, hrv, hrl, hrg, hrs, eI, hrw, tkr, cR, setFrom, cellsOf, go_sem]
        refine ⟨(fUp D p (D p + 1), true), hprg, by have := remT_step hlt hd; simp only; omega, ?_⟩
        exact Weak.kroundF (p := r_stamps2) (i := t.length + 2 + 1 + 1 + 1) (ver := 0) (sz := 1) (rows := (vcs t (p, D p + 1)).map eI) (k := t.length + 4) (by simp only [List.getElem?_cons_succ, fa_tail, List.getElem?_cons_zero]) (by ((repeat refine (kAny_up rfl).trans ?_); exact hEE3)) (by ((try simp (disch := decide) only [hA, go_sem]) <;> exact kH)) (st_frz (j := 1) (x := t[p]) hlt (sent_frz hv hx (by rw [hev]; exact hk2) hm0)) (by (repeat (first | exact hE3.mono oM | refine KLt.up ?_ kL))) (by simp [fl_len]) (by simp [fl_len]) kV hR (stR_ltx (by simp [fl_len]))
       ·have hk2b : (t[p].evs[D p].kind == 2) = false := beq_eq_false_iff_ne.2 hk2
        simp (disch := (first | decide | omega)) only [hA, hg1, hg2, hg3, List.length_map, fl_len, fa_at, fa_tail, fa_tail0, fa_set, fa_settail, fa_settail0, fl_get, List.length_replicate, vs_nil, List.length_set, hk3b, hk2b, hrv, hrl, hrg, hrs, eI, hrw, tkr, cR, setFrom, cellsOf, go_sem]
        refine ⟨(fUp D p (D p + 1), true), hprg, by have := remT_step hlt hd; simp only; omega, ?_⟩
        rw [← sentL_other (D := D) (p := p) (by rw [hev]; exact hk2)]
        exact Weak.kroundF (p := r_stamps2) (i := t.length + 2 + 1 + 1 + 1) (ver := 0) (sz := 1) (rows := (vcs t (p, D p + 1)).map eI) (k := t.length + 4) (by simp only [List.getElem?_cons_succ, fa_tail, List.getElem?_cons_zero]) (by ((repeat refine (kAny_up rfl).trans ?_); exact hEE3)) (by ((try simp (disch := decide) only [hA, go_sem]) <;> exact kH)) (st_frz (j := 1) (x := t[p]) hlt vs_frz0) (by (repeat (first | exact hE3.mono oM | refine KLt.up ?_ kL))) (by simp [fl_len]) (by simp [fl_len]) kV hR (stR_ltx (by simp [fl_len]))
    ·have hcd : decide ((D p : Int) < (t[p].evs.length : Int)) = false := decide_eq_false (by rw [heq] at hd; omega)
     simp (disch := (first | decide | omega)) only [hA, hg1, hg2, hg3, ePr, List.length_map, stR, fl_len, fa_at, fa_tail, fa_tail0, fa_set, fa_settail, fa_settail0, fl_get, xRow, hcd, go_sem]
     refine ⟨(p + 1, D, ag), ⟨hlt, hP.1, fun h => ⟨(hP.2.1 h).1, fun q hq hr => ?_⟩, hP.2.2⟩, by simp only; omega, ?_⟩
     ·by_cases hqp : q = p
      ·subst hqp; rw [← (hP.2.1 h).1] at hr; exact hd hr.1
      ·exact (hP.2.1 h).2 q oM hr
     ·refine Weak.kround (p := r_stamps1) (k := t.length + 3) (junk := [xRow t[p]]) (by ((repeat refine (kAny_up rfl).trans ?_); refine (kAny_sub hg3 (kIn_sub rfl)).trans ?_; (repeat refine (kAny_up rfl).trans ?_); exact hEE2)) (by ((try simp (disch := decide) only [hA, go_sem]) <;> exact kH)) (by simp [xRow]) (by (repeat (first | exact hE2.mono oM | refine KLt.up ?_ kL))) (by simp [fl_len]) kV hR (stR_lt0 (by simp [fl_len]))
   ·simp (disch := (first | decide | omega)) only [hA, hg1, hg2, List.length_map, stR, go_sem]
    obtain rfl : p = t.length := by omega
    refine ⟨(D1, ag1), ⟨hP1.1, fun h => ?_⟩, ?_, ?_⟩
    ·obtain ⟨e1, e2⟩ := hP1.2.1 h
     simp only
     rw [e1]
     exact none_left hv hD0 e2
    ·cases ag1 with
     | true => have := hP1.2.2 rfl; simp only [cond]; omega
     | false => rw [(hP1.2.1 rfl).1]; simp only [cond]; omega
    ·refine Weak.kround (p := r_stamps0) (k := t.length + 3) (junk := []) (by ((repeat refine (kAny_up rfl).trans ?_); refine (kAny_sub hg2 (kIn_sub rfl)).trans ?_; (repeat refine (kAny_up rfl).trans ?_); exact hEE1)) (by ((try simp (disch := decide) only [hA, go_sem]) <;> exact kH)) (by simp) (by (repeat (first | exact hE1.mono oM | refine KLt.up ?_ kL))) (by simp [fl_len]) kV hR (stR_lt0 (by simp [fl_len]))
def a_vStamps : AFunc := ⟨1,9,[.tmp 2,.tmp 3],(.seq (.region [⟨some 1,.box (.t 0),none⟩,⟨some 2,.mv (.c (.v .zsl)),none⟩,⟨some 3,.mv (.c (.v (.int .i64 0))),none⟩]) (.seq (.seq (.region [⟨some 4,.load (some 1) (.t 1),none⟩,⟨some 5,.call (.c (.fn 63 [])) [(.t 4)],none⟩,⟨some 6,.not (.t 5),none⟩]) (.cond (.t 6) (.seq (.region [⟨some 2,.mv (.c (.v .zsl)),none⟩,⟨some 3,.mv (.c (.v (.int .i64 1))),none⟩]) .ret) .skip)) (.seq (.region [⟨some 7,.load (some 1) (.t 1),none⟩,⟨some 8,.call (.c (.fn 95 [])) [(.t 7)],none⟩,⟨some 2,.mv (.t 8),none⟩,⟨some 3,.mv (.c (.v (.int .i64 0))),none⟩]) .ret)))⟩
theorem a_vStamps_ok : cFunc Try.prog 27 = some a_vStamps := by kernel_rfl

def eMx (m : List (List Int)) : List IV := [.isl 1 (m.map eRw)]
noncomputable def stL (t : Tr) : List (List (List Int)) := fl t.length fun p => fl (evsOf t p).length fun i => vcs t (p, i + 1)
theorem stL_all {t : Tr} : stAll t t.length = (stL t).map eMx := by
 unfold stAll stL
 rw [fl_map]
 refine fl_congr (fun p _ => ?_)
 unfold eMx stRow
 rw [fl_map]; rfl
theorem vStamps_spec (t : Tr) (hS : Small t) (hN : Nm t) (b l : List Row) :
  ACalls Try.prog 27 [.agg [.v (eT t)]] b l (fun r b' l' => r = (if validL t = true then .tup [.v (.isl 1 ((stL t).map eMx)), .v (.int .i64 0)] else .tup [.v .zsl, .v (.int .i64 1)]) ∧ b' = b ∧ l' = l) := by
 refine calls_kept a_vStamps_ok rfl (by decide) ?_
 intro B g hB hR hE hA
 simp only [KArgs] at hA
 simp (disch := decide) only [a_vStamps, hA, go_sem]
 refine ACalls.nxt (valid_spec t hS hN _ _) ?_
 cases hval : validL t with
 | false =>
   simp (disch := decide) only [hA, go_sem]
   exact leave_pure (xs := [.v .zsl, .v (.int .i64 1)]) (.inr rfl) (by simp (disch := (first | decide | omega)) only [resVs, resV, go_sem, hA]) kO hR hB ⟨rfl, rfl, rfl⟩
 | true =>
   have hv := vok hval
   have hst := fun b l => stamps_spec t hv hS b l
   simp only [stL_all] at hst
   simp (disch := decide) only [hA, go_sem]
   refine ACalls.nxt (hst _ _) ?_
   simp (disch := decide) only [hA, go_sem]
   exact leave_pure (xs := [.v (.isl 1 ((stL t).map eMx)), .v (.int .i64 0)]) (.inr rfl) (by simp (disch := (first | decide | omega)) only [resVs, resV, go_sem, hA]) kO hR hB ⟨rfl, rfl, rfl⟩
def a_IndE : AFunc := ⟨2,19,[.tmp 4],(.seq (.region [⟨some 4,.mv (.c (.v (.int .i64 0))),none⟩]) (.seq (.seq (.region [⟨some 6,.mv (.t 0),none⟩,⟨some 7,.len (.t 6),none⟩,⟨some 8,.mv (.c (.v (.int .i64 0))),none⟩]) (.block 0 (.loop (.seq (.region [⟨some 9,.bin .lss (.t 8) (.t 7),none⟩]) (.seq (.cond (.t 9) .skip (.exit 0)) (.seq (.block 1 (.seq (.region [⟨some 10,.mv (.t 8),none⟩,⟨some 5,.mv (.t 10),none⟩]) (.seq (.region [⟨some 11,.mv (.t 1),none⟩,⟨some 12,.mv (.t 0),none⟩,⟨some 13,.mv (.t 5),none⟩,⟨some 14,.iaddr 5 (.t 12) (.t 13),none⟩,⟨some 15,.load (some 5) (.t 14),none⟩,⟨some 16,.call (.t 11) [(.t 15)],none⟩]) (.cond (.t 16) (.seq (.region [⟨some 17,.mv (.t 5),none⟩,⟨some 4,.mv (.t 17),none⟩]) .ret) .skip)))) (.region [⟨some 18,.bin .add (.t 8) (.c (.v (.int .i64 1))),none⟩,⟨some 8,.mv (.t 18),none⟩]))))))) (.seq (.region [⟨some 4,.mv (.c (.v (.int .i64 (-1)))),none⟩]) .ret)))⟩
theorem a_IndE_ok : cFunc Try.prog 130 = some a_IndE := by kernel_rfl
def r_IndE0 : List (Nat × Nat) := [(4, 5), (8, 18)]
def a_ConE : AFunc := ⟨2,9,[.tmp 4],(.seq (.region [⟨some 4,.mv (.c (.v (.bool false))),none⟩]) (.seq (.region [⟨some 5,.mv (.t 0),none⟩,⟨some 6,.mv (.t 1),none⟩,⟨some 7,.call (.c (.fn 130 [])) [(.t 5),(.t 6)],none⟩,⟨some 8,.bin .geq (.t 7) (.c (.v (.int .i64 0))),none⟩,⟨some 4,.mv (.t 8),none⟩]) .ret))⟩
theorem a_ConE_ok : cFunc Try.prog 74 = some a_ConE := by kernel_rfl
def evN (t : Tr) (i : Nat) : Nat := (idsTo t i 0).length
theorem evN_zero {t : Tr} : evN t 0 = 0 := rfl
theorem evN_succ {t : Tr} {i : Nat} (h : i < t.length) : evN t (i + 1) = evN t i + t[i].evs.length := by
 unfold evN
 rw [← idsTo_next t i h]
 simp [idsTo]
theorem evN_all {t : Tr} : evN t t.length = (ids t).length := by unfold evN; rw [idsTo_all]
end Go.Proofs.Ytcemoeigegkmoaa
namespace Go.Proofs.Ytcemoeigegkmoaa
set_option linter.unusedVariables false
set_option linter.unusedSimpArgs false

inductive IVle : IV → IV → Prop where
 | refl (x : IV) : IVle x x
 | zsl (sz : Nat) : IVle .zsl (.isl sz [])
 | isl (sz : Nat) (rows rows' : List (List IV)) (hl : rows.length = rows'.length) (hl2 : ∀ (k : Nat) (row row' : List IV), rows[k]? = some row → rows'[k]? = some row' → row.length = row'.length)
   (hr : ∀ (k : Nat) (row row' : List IV) (j : Nat) (a a' : IV), rows[k]? = some row → rows'[k]? = some row' → row[j]? = some a → row'[j]? = some a' → IVle a a') : IVle (.isl sz rows) (.isl sz rows')

theorem RepI.le {w : World} {F : Nat → Prop} {x y : IV} (h : IVle x y) : ∀ {v : Value}, RepI w F x v → RepI w F y v := by
 induction h with
 | refl x => exact fun h => h
 | zsl sz => intro v h; cases h; exact .isl0 _ _ _ (Nat.zero_le _)
 | isl sz rows rows' hl hl2 hr ih =>
   intro v h
   obtain ⟨A, c, rfl, h2, h3, h4⟩ := repI_isl h
   rw [hl] at h2 h4 ⊢
   refine isl_repI h2 h3 (fun h0 => ?_)
   obtain ⟨b, off, h5, h6, h7⟩ := h4 h0
   refine ⟨b, off, h5, h6, fun k row' hk' => ?_⟩
   have hk : k < rows.length := by rw [hl]; exact (List.getElem?_eq_some_iff.1 hk').1
   obtain ⟨g1, g2⟩ := h7 k rows[k] (List.getElem?_eq_getElem hk)
   have hll := hl2 k rows[k] row' (List.getElem?_eq_getElem hk) hk'
   refine ⟨by rw [← hll]; exact g1, fun j a' hj' => ?_⟩
   have hj : j < rows[k].length := by rw [hll]; exact (List.getElem?_eq_some_iff.1 hj').1
   obtain ⟨v, hv, hrep⟩ := g2 j rows[k][j] (List.getElem?_eq_getElem hj)
   exact ⟨v, hv, ih k _ _ j _ _ (List.getElem?_eq_getElem hk) hk' (List.getElem?_eq_getElem hj) hj' hrep⟩

def RowsLe : List (List IV) → List (List IV) → Prop
 | [], [] => True
 | r :: rs, q :: qs => (r.length = q.length ∧ ∀ (j : Nat) (a a' : IV), r[j]? = some a → q[j]? = some a' → IVle a a') ∧ RowsLe rs qs
 | _, _ => False
theorem RowsLe.len : ∀ {r q : List (List IV)}, RowsLe r q → r.length = q.length
 | [], [], _ => rfl
 | _ :: _, _ :: _, h => by simp [RowsLe.len h.2]
 | [], _ :: _, h => h.elim
 | _ :: _, [], h => h.elim
theorem RowsLe.get : ∀ {r q : List (List IV)}, RowsLe r q → ∀ (k : Nat) (row row' : List IV), r[k]? = some row → q[k]? = some row' → row.length = row'.length ∧ ∀ (j : Nat) (a a' : IV), row[j]? = some a → row'[j]? = some a' → IVle a a'
 | [], [], _, k, row, row', h, _ => by simp at h
 | r :: rs, q :: qs, h, k, row, row', h1, h2 => by
   cases k with
   | zero => simp at h1 h2; subst h1; subst h2; exact h.1
   | succ k => simp at h1 h2; exact RowsLe.get h.2 k row row' h1 h2
 | [], _ :: _, h, _, _, _, _, _ => h.elim
 | _ :: _, [], h, _, _, _, _, _ => h.elim
theorem IVle.rows {sz : Nat} {r q : List (List IV)} (h : RowsLe r q) : IVle (.isl sz r) (.isl sz q) :=
 .isl sz r q h.len (fun k row row' h1 h2 => (h.get k row row' h1 h2).1) (fun k row row' j a a' h1 h2 => (h.get k row row' h1 h2).2 j a a')

inductive AVle : AV → AV → Prop where
 | refl (x : AV) : AVle x x
 | v (x y : IV) (h : IVle x y) : AVle (.v x) (.v y)
 | agg (cs ds : List AV) (hl : cs.length = ds.length) (h : ∀ (i : Nat) (a c : AV), cs[i]? = some a → ds[i]? = some c → AVle a c) : AVle (.agg cs) (.agg ds)
theorem RepA.le {w : World} {F : Nat → Prop} {L : LMap} {x y : AV} (h : AVle x y) : ∀ {v : Value}, RepA w F L x v → RepA w F L y v := by
 induction h with
 | refl x => exact fun h => h
 | v x y h => intro v hx; exact .v _ _ (hx.vI.le h)
 | agg cs ds hl h ih =>
   intro v hx
   obtain ⟨vs, rfl, hr⟩ := hx.aggL
   refine RepL.agg ⟨by rw [← hl]; exact hr.1, fun i c u hc hu => ?_⟩
   have hi : i < cs.length := by rw [hl]; exact (List.getElem?_eq_some_iff.1 hc).1
   exact ih i cs[i] c (List.getElem?_eq_getElem hi) hc (hr.2 i _ u (List.getElem?_eq_getElem hi) hu)
theorem ACalls.le {P : Program} {f : Nat} {args args' : List AV} {b l : List Row} {Q : AV → List Row → List Row → Prop} (h : ACalls P f args b l Q) (hl : args'.length = args.length) (hle : ∀ (i : Nat) (a c : AV), args'[i]? = some a → args[i]? = some c → AVle a c) : ACalls P f args' b l Q :=
 ⟨h.1, fun F L w vs s hr => h.2 F L w vs s ⟨by rw [← hl]; exact hr.1, fun i c v hc hv => by
  have hi : i < args'.length := by rw [hl]; exact (List.getElem?_eq_some_iff.1 hc).1
  exact RepA.le (hle i args'[i] c (List.getElem?_eq_getElem hi) hc) (hr.2 i _ v (List.getElem?_eq_getElem hi) hv)⟩⟩
theorem Weak.le {e e' : List AV} {b l : List Row} (hl : e.length = e'.length) (h : ∀ (i : Nat) (x y : AV), e[i]? = some x → e'[i]? = some y → AVle x y) : Weak e b l e' b l := by
 intro F L w a s hea
 refine ⟨F, L, s, ⟨hea.1, by rw [← hl]; exact hea.2.1, fun i y v hy hv => ?_⟩, Step.refl _ _ _ _ _, rfl⟩
 have hi : i < e.length := by rw [hl]; exact (List.getElem?_eq_some_iff.1 hy).1
 exact RepA.le (h i e[i] y (List.getElem?_eq_getElem hi) hy) (hea.2.2 i _ v (List.getElem?_eq_getElem hi) hv)
def a_indexN (sz : Nat) : AFunc := ⟨2, 19, [.tmp 4],
 (.seq (.region [⟨(some 4), .mv (.c (.v (.int .i64 0))), none⟩])
 (.seq (.seq (.region [⟨(some 6), .mv (.t 0), none⟩, ⟨(some 7), .len (.t 6), none⟩, ⟨(some 8), .mv (.c (.v (.int .i64 0))), none⟩])
 (.block 0 (.loop (.seq (.region [⟨(some 9), .bin .lss (.t 8) (.t 7), none⟩])
 (.seq (.cond (.t 9) .skip
 (.exit 0))
 (.seq (.block 1 (.seq (.region [⟨(some 10), .mv (.t 8), none⟩, ⟨(some 5), .mv (.t 10), none⟩])
 (.seq (.region [⟨(some 11), .mv (.t 1), none⟩, ⟨(some 12), .mv (.t 0), none⟩, ⟨(some 13), .mv (.t 5), none⟩, ⟨(some 14), .iaddr sz (.t 12) (.t 13), none⟩, ⟨(some 15), .load (some sz) (.t 14), none⟩, ⟨(some 16), .call (.t 11) [(.t 15)], none⟩])
 (.cond (.t 16) (.seq (.region [⟨(some 17), .mv (.t 5), none⟩, ⟨(some 4), .mv (.t 17), none⟩])
 .ret)
 .skip))))
 (.region [⟨(some 18), .bin .add (.t 8) (.c (.v (.int .i64 1))), none⟩, ⟨(some 8), .mv (.t 18), none⟩])))))))
 (.seq (.region [⟨(some 4), .mv (.c (.v (.int .i64 (-1)))), none⟩])
 .ret)))⟩
def a_containsN (g : Nat) : AFunc := ⟨2, 9, [.tmp 4],
 (.seq (.region [⟨(some 4), .mv (.c (.v (.bool false))), none⟩])
 (.seq (.region [⟨(some 5), .mv (.t 0), none⟩, ⟨(some 6), .mv (.t 1), none⟩, ⟨(some 7), .call (.c (.fn g [])) [(.t 5), (.t 6)], none⟩, ⟨(some 8), .bin .geq (.t 7) (.c (.v (.int .i64 0))), none⟩, ⟨(some 4), .mv (.t 8), none⟩])
 .ret))⟩
def wIdx (p : Nat → Bool) (n : Nat) : Int := match (List.range n).find? p with
 | some i => i
 | none => -1
theorem wIdx_at {p : Nat → Bool} {n i : Nat} (h : i < n) (h0 : ∀ j, j < i → p j = false) (hi : p i = true) : wIdx p n = i := by
 have hf : (List.range n).find? p = some i := by
  rw [show n = i + (1 + (n - i - 1)) by omega, List.range_add, List.find?_append]
  have : (List.range i).find? p = none := by
   rw [List.find?_eq_none]; intro q hq; simp [h0 q (List.mem_range.1 hq)]
  rw [this, Nat.add_comm 1, List.range_succ_eq_map]
  simp [hi]
 unfold wIdx; rw [hf]
theorem wIdx_none {p : Nat → Bool} {n : Nat} (h0 : ∀ j, j < n → p j = false) : wIdx p n = -1 := by
 have : (List.range n).find? p = none := by
  rw [List.find?_eq_none]; intro q hq; simp [h0 q (List.mem_range.1 hq)]
 unfold wIdx; rw [this]
theorem index_spec {P : Program} {f sz : Nat} (hf : cFunc P f = some (a_indexN sz)) (rows : List (List IV)) (k : Nat) (caps : List AV) (p : Nat → Bool) (hlen : ∀ row ∈ rows, row.length = sz) (hn : rows.length ≤ 1000000) (b l : List Row)
  (hp : ∀ (i : Nat) (row : List IV), rows[i]? = some row → ACalls P k ([.agg (row.map .v)] ++ caps) (b ++ l) [] (fun r b' l' => r = .v (.bool (p i)) ∧ b' = b ++ l ∧ l' = [])) :
  ACalls P f [.v (.isl sz rows), .fn k caps] b l (fun r b' l' => r = .v (.int .i64 (wIdx p rows.length)) ∧ b' = b ∧ l' = l) := by
 refine calls_of hf rfl ?_
 intro B hB hR hA
 simp only [a_indexN, ↓run_skip, ↓run_region, ↓run_draw, ↓run_seq, ↓run_block, ↓run_exit, ↓run_ret, ↓run_cond, ↓atN_app, ↓seqC_normal, ↓seqC_exit, ↓seqC_ret, ↓seqQ_normal, ↓seqQ_exit, ↓seqQ_ret, ↓blkQ_normal, ↓blkQ_exit, ↓blkQ_ret, ↓runOps_nil, ↓runOps_cons, ↓runD_nil, ↓runD_cons, ↓grdO_true, ↓grdO_false, ↓grdD_true, ↓grdD_false, ↓ifC_true, ↓ifC_false, ↓opS_val, ↓opS_call, ↓opS_two, ↓opK_app, ↓dS_val, ↓dS_call, ↓dS_two, ↓dK_app, rechks_nil, rechks_cons, rechk, gcase_true, gcase_false, ex_val, ex_val0, gd_none, gd_some, nth_zero, nth_succ, upd_zero, upd_succ, put_some, put_none, ev_t, ev_c, evs_nil, evs_cons, evo_some, evo_none, hget_at, hget_first, hsetB_at, hsetB_first, hsetL_at, hsetL_first, ofOpt_some, aop, aload, astore, aslice, aappend, aiaddr, aiaddrA, afaddr, alen, alenS, acopy, amm, acall, alookup, amupdate, alenM, comma, keyEq, apick, binV, binVB, binVS, isSh, intOp, strOp, boolOp, shOp, eqC, eqF, and2, cellsOf, setFrom, fillA, fillS, rd, rdI, elems, mk, bounds, AV.cell, List.all_cons, List.all_nil, Bool.and_true, Bool.true_and, Bool.and_self, List.length_cons, List.length_nil, List.length_append, Nat.reduceAdd, Nat.reduceSub, Nat.reduceMul, Nat.zero_add, Nat.add_zero, List.replicate_succ, List.replicate_zero, List.cons_append, List.nil_append, List.append_assoc, List.append_nil, List.getElem?_cons_zero, List.getElem?_cons_succ, List.getElem?_nil, List.set_cons_zero, List.set_cons_succ, List.drop_zero, List.drop_succ_cons, List.take_zero, List.take_succ_cons, List.take_nil, List.drop_nil, List.map_cons, List.map_nil, Option.map_some, if_true, if_false, Bool.false_eq_true, and_self, true_and, and_true, Nat.reduceLeDiff, Nat.reduceLT, Nat.le_refl, Nat.reduceEqDiff, ite_true, ite_false, beq_self_eq_true, beq_true, beq_false, Bool.not_true, Bool.not_false, Bool.true_beq, Bool.false_beq]
 refine loop_rule (ι := Nat) (fun i => [.v (.isl sz rows), .fn k caps, .any, .any, .any, .any, .any, .v (.int .i64 rows.length), .v (.int .i64 i), .any, .any, .any, .any, .any, .any, .any, .any, .any, .any])
  (fun _ => B) (fun _ => []) (fun i => i ≤ rows.length ∧ ∀ j, j < i → p j = false) (fun i => rows.length - i) 0 ⟨Nat.zero_le _, fun j hj => by omega⟩ (Weak.forget (by simp [Fgt])) ?_
 rintro i ⟨hi, h0⟩
 by_cases hlt : i < rows.length
 ·have hl := hlen rows[i] (List.getElem_mem hlt)
  have ht : List.take sz rows[i] = rows[i] := List.take_of_length_le oM
  simp (disch := omega) only [ht, ↓run_skip, ↓run_region, ↓run_draw, ↓run_seq, ↓run_block, ↓run_exit, ↓run_ret, ↓run_cond, ↓atN_app, ↓seqC_normal, ↓seqC_exit, ↓seqC_ret, ↓seqQ_normal, ↓seqQ_exit, ↓seqQ_ret, ↓blkQ_normal, ↓blkQ_exit, ↓blkQ_ret, ↓runOps_nil, ↓runOps_cons, ↓runD_nil, ↓runD_cons, ↓grdO_true, ↓grdO_false, ↓grdD_true, ↓grdD_false, ↓ifC_true, ↓ifC_false, ↓opS_val, ↓opS_call, ↓opS_two, ↓opK_app, ↓dS_val, ↓dS_call, ↓dS_two, ↓dK_app, rechks_nil, rechks_cons, rechk, gcase_true, gcase_false, ex_val, ex_val0, gd_none, gd_some, nth_zero, nth_succ, upd_zero, upd_succ, put_some, put_none, ev_t, ev_c, evs_nil, evs_cons, evo_some, evo_none, hget_at, hget_first, hsetB_at, hsetB_first, hsetL_at, hsetL_first, ofOpt_some, aop, aload, astore, aslice, aappend, aiaddr, aiaddrA, afaddr, alen, alenS, acopy, amm, acall, alookup, amupdate, alenM, comma, keyEq, apick, binV, binVB, binVS, isSh, intOp, strOp, boolOp, shOp, eqC, eqF, and2, cellsOf, setFrom, fillA, fillS, rd, rdI, elems, mk, bounds, AV.cell, List.all_cons, List.all_nil, Bool.and_true, Bool.true_and, Bool.and_self, List.length_cons, List.length_nil, List.length_append, Nat.reduceAdd, Nat.reduceSub, Nat.reduceMul, Nat.zero_add, Nat.add_zero, List.replicate_succ, List.replicate_zero, List.cons_append, List.nil_append, List.append_assoc, List.append_nil, List.getElem?_cons_zero, List.getElem?_cons_succ, List.getElem?_nil, List.set_cons_zero, List.set_cons_succ, List.drop_zero, List.drop_succ_cons, List.take_zero, List.take_succ_cons, List.take_nil, List.drop_nil, List.map_cons, List.map_nil, Option.map_some, if_true, if_false, Bool.false_eq_true, and_self, true_and, and_true, Nat.reduceLeDiff, Nat.reduceLT, Nat.le_refl, Nat.reduceEqDiff, ite_true, ite_false, beq_self_eq_true, beq_true, beq_false, Bool.not_true, Bool.not_false, Bool.true_beq, Bool.false_beq, map_vs, vs_len, vs_get, vs_take, vs_drop, vs_snoc1, vs_snoc2, vs_snoc3, vs_snoc5, vs_set1, vs_set2, vs_rep, wrap_id, le_T, lt_T, le_F, lt_F, leI_T, ltI_T, leI_F, ltI_F, geI, gtI, get_T, decide_true, decide_false, room, List.getElem?_map, List.length_map, List.length_take, Int.toNat_natCast, Nat.min_def, Nat.min_self]
  refine ACalls_mono _ _ _ _ _ _ (hB ▸ hp i rows[i] (List.getElem?_eq_getElem hlt)) ?_
  rintro r b' l' ⟨rfl, rfl, rfl⟩
  simp (disch := omega) only [↓run_skip, ↓run_region, ↓run_draw, ↓run_seq, ↓run_block, ↓run_exit, ↓run_ret, ↓run_cond, ↓atN_app, ↓seqC_normal, ↓seqC_exit, ↓seqC_ret, ↓seqQ_normal, ↓seqQ_exit, ↓seqQ_ret, ↓blkQ_normal, ↓blkQ_exit, ↓blkQ_ret, ↓runOps_nil, ↓runOps_cons, ↓runD_nil, ↓runD_cons, ↓grdO_true, ↓grdO_false, ↓grdD_true, ↓grdD_false, ↓ifC_true, ↓ifC_false, ↓opS_val, ↓opS_call, ↓opS_two, ↓opK_app, ↓dS_val, ↓dS_call, ↓dS_two, ↓dK_app, rechks_nil, rechks_cons, rechk, gcase_true, gcase_false, ex_val, ex_val0, gd_none, gd_some, nth_zero, nth_succ, upd_zero, upd_succ, put_some, put_none, ev_t, ev_c, evs_nil, evs_cons, evo_some, evo_none, hget_at, hget_first, hsetB_at, hsetB_first, hsetL_at, hsetL_first, ofOpt_some, aop, aload, astore, aslice, aappend, aiaddr, aiaddrA, afaddr, alen, alenS, acopy, amm, acall, alookup, amupdate, alenM, comma, keyEq, apick, binV, binVB, binVS, isSh, intOp, strOp, boolOp, shOp, eqC, eqF, and2, cellsOf, setFrom, fillA, fillS, rd, rdI, elems, mk, bounds, AV.cell, List.all_cons, List.all_nil, Bool.and_true, Bool.true_and, Bool.and_self, List.length_cons, List.length_nil, List.length_append, Nat.reduceAdd, Nat.reduceSub, Nat.reduceMul, Nat.zero_add, Nat.add_zero, List.replicate_succ, List.replicate_zero, List.cons_append, List.nil_append, List.append_assoc, List.append_nil, List.getElem?_cons_zero, List.getElem?_cons_succ, List.getElem?_nil, List.set_cons_zero, List.set_cons_succ, List.drop_zero, List.drop_succ_cons, List.take_zero, List.take_succ_cons, List.take_nil, List.drop_nil, List.map_cons, List.map_nil, Option.map_some, if_true, if_false, Bool.false_eq_true, and_self, true_and, and_true, Nat.reduceLeDiff, Nat.reduceLT, Nat.le_refl, Nat.reduceEqDiff, ite_true, ite_false, beq_self_eq_true, beq_true, beq_false, Bool.not_true, Bool.not_false, Bool.true_beq, Bool.false_beq, map_vs, vs_len, vs_get, vs_take, vs_drop, vs_snoc1, vs_snoc2, vs_snoc3, vs_snoc5, vs_set1, vs_set2, vs_rep, wrap_id, le_T, lt_T, le_F, lt_F, leI_T, ltI_T, leI_F, ltI_F, geI, gtI, get_T, decide_true, decide_false, room, List.getElem?_map, List.length_map, List.length_take, Int.toNat_natCast, Nat.min_def, Nat.min_self]
  refine ifC_split (fun h => ?_) (fun h => ?_)
  ·simp (disch := omega) only [↓run_skip, ↓run_region, ↓run_draw, ↓run_seq, ↓run_block, ↓run_exit, ↓run_ret, ↓run_cond, ↓atN_app, ↓seqC_normal, ↓seqC_exit, ↓seqC_ret, ↓seqQ_normal, ↓seqQ_exit, ↓seqQ_ret, ↓blkQ_normal, ↓blkQ_exit, ↓blkQ_ret, ↓runOps_nil, ↓runOps_cons, ↓runD_nil, ↓runD_cons, ↓grdO_true, ↓grdO_false, ↓grdD_true, ↓grdD_false, ↓ifC_true, ↓ifC_false, ↓opS_val, ↓opS_call, ↓opS_two, ↓opK_app, ↓dS_val, ↓dS_call, ↓dS_two, ↓dK_app, rechks_nil, rechks_cons, rechk, gcase_true, gcase_false, ex_val, ex_val0, gd_none, gd_some, nth_zero, nth_succ, upd_zero, upd_succ, put_some, put_none, ev_t, ev_c, evs_nil, evs_cons, evo_some, evo_none, hget_at, hget_first, hsetB_at, hsetB_first, hsetL_at, hsetL_first, ofOpt_some, aop, aload, astore, aslice, aappend, aiaddr, aiaddrA, afaddr, alen, alenS, acopy, amm, acall, alookup, amupdate, alenM, comma, keyEq, apick, binV, binVB, binVS, isSh, intOp, strOp, boolOp, shOp, eqC, eqF, and2, cellsOf, setFrom, fillA, fillS, rd, rdI, elems, mk, bounds, AV.cell, List.all_cons, List.all_nil, Bool.and_true, Bool.true_and, Bool.and_self, List.length_cons, List.length_nil, List.length_append, Nat.reduceAdd, Nat.reduceSub, Nat.reduceMul, Nat.zero_add, Nat.add_zero, List.replicate_succ, List.replicate_zero, List.cons_append, List.nil_append, List.append_assoc, List.append_nil, List.getElem?_cons_zero, List.getElem?_cons_succ, List.getElem?_nil, List.set_cons_zero, List.set_cons_succ, List.drop_zero, List.drop_succ_cons, List.take_zero, List.take_succ_cons, List.take_nil, List.drop_nil, List.map_cons, List.map_nil, Option.map_some, if_true, if_false, Bool.false_eq_true, and_self, true_and, and_true, Nat.reduceLeDiff, Nat.reduceLT, Nat.le_refl, Nat.reduceEqDiff, ite_true, ite_false, beq_self_eq_true, beq_true, beq_false, Bool.not_true, Bool.not_false, Bool.true_beq, Bool.false_beq, map_vs, vs_len, vs_get, vs_take, vs_drop, vs_snoc1, vs_snoc2, vs_snoc3, vs_snoc5, vs_set1, vs_set2, vs_rep, wrap_id, le_T, lt_T, le_F, lt_F, leI_T, ltI_T, leI_F, ltI_F, geI, gtI, get_T, decide_true, decide_false, room, List.getElem?_map, List.length_map, List.length_take, Int.toNat_natCast, Nat.min_def, Nat.min_self]
   exact leave_pure (.inr rfl) rfl (.v _) hR hB ⟨by rw [wIdx_at hlt h0 h]; rfl, rfl, rfl⟩
  ·simp (disch := omega) only [↓run_skip, ↓run_region, ↓run_draw, ↓run_seq, ↓run_block, ↓run_exit, ↓run_ret, ↓run_cond, ↓atN_app, ↓seqC_normal, ↓seqC_exit, ↓seqC_ret, ↓seqQ_normal, ↓seqQ_exit, ↓seqQ_ret, ↓blkQ_normal, ↓blkQ_exit, ↓blkQ_ret, ↓runOps_nil, ↓runOps_cons, ↓runD_nil, ↓runD_cons, ↓grdO_true, ↓grdO_false, ↓grdD_true, ↓grdD_false, ↓ifC_true, ↓ifC_false, ↓opS_val, ↓opS_call, ↓opS_two, ↓opK_app, ↓dS_val, ↓dS_call, ↓dS_two, ↓dK_app, rechks_nil, rechks_cons, rechk, gcase_true, gcase_false, ex_val, ex_val0, gd_none, gd_some, nth_zero, nth_succ, upd_zero, upd_succ, put_some, put_none, ev_t, ev_c, evs_nil, evs_cons, evo_some, evo_none, hget_at, hget_first, hsetB_at, hsetB_first, hsetL_at, hsetL_first, ofOpt_some, aop, aload, astore, aslice, aappend, aiaddr, aiaddrA, afaddr, alen, alenS, acopy, amm, acall, alookup, amupdate, alenM, comma, keyEq, apick, binV, binVB, binVS, isSh, intOp, strOp, boolOp, shOp, eqC, eqF, and2, cellsOf, setFrom, fillA, fillS, rd, rdI, elems, mk, bounds, AV.cell, List.all_cons, List.all_nil, Bool.and_true, Bool.true_and, Bool.and_self, List.length_cons, List.length_nil, List.length_append, Nat.reduceAdd, Nat.reduceSub, Nat.reduceMul, Nat.zero_add, Nat.add_zero, List.replicate_succ, List.replicate_zero, List.cons_append, List.nil_append, List.append_assoc, List.append_nil, List.getElem?_cons_zero, List.getElem?_cons_succ, List.getElem?_nil, List.set_cons_zero, List.set_cons_succ, List.drop_zero, List.drop_succ_cons, List.take_zero, List.take_succ_cons, List.take_nil, List.drop_nil, List.map_cons, List.map_nil, Option.map_some, if_true, if_false, Bool.false_eq_true, and_self, true_and, and_true, Nat.reduceLeDiff, Nat.reduceLT, Nat.le_refl, Nat.reduceEqDiff, ite_true, ite_false, beq_self_eq_true, beq_true, beq_false, Bool.not_true, Bool.not_false, Bool.true_beq, Bool.false_beq, map_vs, vs_len, vs_get, vs_take, vs_drop, vs_snoc1, vs_snoc2, vs_snoc3, vs_snoc5, vs_set1, vs_set2, vs_rep, wrap_id, le_T, lt_T, le_F, lt_F, leI_T, ltI_T, leI_F, ltI_F, geI, gtI, get_T, decide_true, decide_false, room, List.getElem?_map, List.length_map, List.length_take, Int.toNat_natCast, Nat.min_def, Nat.min_self]
   refine ⟨i + 1, ⟨hlt, fun j hj => ?_⟩, by simp only; omega, Weak.forget (by simp [Fgt])⟩
   rcases Nat.lt_or_ge j i with hji | hji
   ·exact h0 j hji
   ·have : j = i := by omega
    rw [this]; exact h
 ·simp (disch := omega) only [↓run_skip, ↓run_region, ↓run_draw, ↓run_seq, ↓run_block, ↓run_exit, ↓run_ret, ↓run_cond, ↓atN_app, ↓seqC_normal, ↓seqC_exit, ↓seqC_ret, ↓seqQ_normal, ↓seqQ_exit, ↓seqQ_ret, ↓blkQ_normal, ↓blkQ_exit, ↓blkQ_ret, ↓runOps_nil, ↓runOps_cons, ↓runD_nil, ↓runD_cons, ↓grdO_true, ↓grdO_false, ↓grdD_true, ↓grdD_false, ↓ifC_true, ↓ifC_false, ↓opS_val, ↓opS_call, ↓opS_two, ↓opK_app, ↓dS_val, ↓dS_call, ↓dS_two, ↓dK_app, rechks_nil, rechks_cons, rechk, gcase_true, gcase_false, ex_val, ex_val0, gd_none, gd_some, nth_zero, nth_succ, upd_zero, upd_succ, put_some, put_none, ev_t, ev_c, evs_nil, evs_cons, evo_some, evo_none, hget_at, hget_first, hsetB_at, hsetB_first, hsetL_at, hsetL_first, ofOpt_some, aop, aload, astore, aslice, aappend, aiaddr, aiaddrA, afaddr, alen, alenS, acopy, amm, acall, alookup, amupdate, alenM, comma, keyEq, apick, binV, binVB, binVS, isSh, intOp, strOp, boolOp, shOp, eqC, eqF, and2, cellsOf, setFrom, fillA, fillS, rd, rdI, elems, mk, bounds, AV.cell, List.all_cons, List.all_nil, Bool.and_true, Bool.true_and, Bool.and_self, List.length_cons, List.length_nil, List.length_append, Nat.reduceAdd, Nat.reduceSub, Nat.reduceMul, Nat.zero_add, Nat.add_zero, List.replicate_succ, List.replicate_zero, List.cons_append, List.nil_append, List.append_assoc, List.append_nil, List.getElem?_cons_zero, List.getElem?_cons_succ, List.getElem?_nil, List.set_cons_zero, List.set_cons_succ, List.drop_zero, List.drop_succ_cons, List.take_zero, List.take_succ_cons, List.take_nil, List.drop_nil, List.map_cons, List.map_nil, Option.map_some, if_true, if_false, Bool.false_eq_true, and_self, true_and, and_true, Nat.reduceLeDiff, Nat.reduceLT, Nat.le_refl, Nat.reduceEqDiff, ite_true, ite_false, beq_self_eq_true, beq_true, beq_false, Bool.not_true, Bool.not_false, Bool.true_beq, Bool.false_beq, map_vs, vs_len, vs_get, vs_take, vs_drop, vs_snoc1, vs_snoc2, vs_snoc3, vs_snoc5, vs_set1, vs_set2, vs_rep, wrap_id, le_T, lt_T, le_F, lt_F, leI_T, ltI_T, leI_F, ltI_F, geI, gtI, get_T, decide_true, decide_false, room, List.getElem?_map, List.length_map, List.length_take, Int.toNat_natCast, Nat.min_def, Nat.min_self]
  obtain rfl : i = rows.length := by omega
  exact leave_pure (.inr rfl) rfl (.v _) hR hB ⟨by rw [wIdx_none h0]; rfl, rfl, rfl⟩

theorem wIdx_ge {p : Nat → Bool} {n : Nat} : decide (wIdx p n ≥ 0) = (List.range n).any p := by
 unfold wIdx
 cases h : (List.range n).find? p with
 | none =>
   have := List.find?_eq_none.1 h
   have hn : (List.range n).any p = false := by rw [List.any_eq_false]; exact this
   rw [hn]; rfl
 | some i =>
   have h1 := List.find?_some h
   have h2 := List.mem_of_find?_eq_some h
   have hn : (List.range n).any p = true := List.any_eq_true.2 ⟨i, h2, h1⟩
   rw [hn]; simp

theorem contains_spec {P : Program} {f g sz : Nat} (hf : cFunc P f = some (a_containsN g)) (hg : cFunc P g = some (a_indexN sz)) (rows : List (List IV)) (k : Nat) (caps : List AV) (p : Nat → Bool) (hlen : ∀ row ∈ rows, row.length = sz) (hn : rows.length ≤ 1000000) (b l : List Row)
  (hp : ∀ (i : Nat) (row : List IV), rows[i]? = some row → ACalls P k ([.agg (row.map .v)] ++ caps) (b ++ l) [] (fun r b' l' => r = .v (.bool (p i)) ∧ b' = b ++ l ∧ l' = [])) :
  ACalls P f [.v (.isl sz rows), .fn k caps] b l (fun r b' l' => r = .v (.bool ((List.range rows.length).any p)) ∧ b' = b ∧ l' = l) := by
 refine calls_of hf rfl ?_
 intro B hB hR hA
 simp only [a_containsN, ↓run_skip, ↓run_region, ↓run_draw, ↓run_seq, ↓run_block, ↓run_exit, ↓run_ret, ↓run_cond, ↓atN_app, ↓seqC_normal, ↓seqC_exit, ↓seqC_ret, ↓seqQ_normal, ↓seqQ_exit, ↓seqQ_ret, ↓blkQ_normal, ↓blkQ_exit, ↓blkQ_ret, ↓runOps_nil, ↓runOps_cons, ↓runD_nil, ↓runD_cons, ↓grdO_true, ↓grdO_false, ↓grdD_true, ↓grdD_false, ↓ifC_true, ↓ifC_false, ↓opS_val, ↓opS_call, ↓opS_two, ↓opK_app, ↓dS_val, ↓dS_call, ↓dS_two, ↓dK_app, rechks_nil, rechks_cons, rechk, gcase_true, gcase_false, ex_val, ex_val0, gd_none, gd_some, nth_zero, nth_succ, upd_zero, upd_succ, put_some, put_none, ev_t, ev_c, evs_nil, evs_cons, evo_some, evo_none, hget_at, hget_first, hsetB_at, hsetB_first, hsetL_at, hsetL_first, ofOpt_some, aop, aload, astore, aslice, aappend, aiaddr, aiaddrA, afaddr, alen, alenS, acopy, amm, acall, alookup, amupdate, alenM, comma, keyEq, apick, binV, binVB, binVS, isSh, intOp, strOp, boolOp, shOp, eqC, eqF, and2, cellsOf, setFrom, fillA, fillS, rd, rdI, elems, mk, bounds, AV.cell, List.all_cons, List.all_nil, Bool.and_true, Bool.true_and, Bool.and_self, List.length_cons, List.length_nil, List.length_append, Nat.reduceAdd, Nat.reduceSub, Nat.reduceMul, Nat.zero_add, Nat.add_zero, List.replicate_succ, List.replicate_zero, List.cons_append, List.nil_append, List.append_assoc, List.append_nil, List.getElem?_cons_zero, List.getElem?_cons_succ, List.getElem?_nil, List.set_cons_zero, List.set_cons_succ, List.drop_zero, List.drop_succ_cons, List.take_zero, List.take_succ_cons, List.take_nil, List.drop_nil, List.map_cons, List.map_nil, Option.map_some, if_true, if_false, Bool.false_eq_true, and_self, true_and, and_true, Nat.reduceLeDiff, Nat.reduceLT, Nat.le_refl, Nat.reduceEqDiff, ite_true, ite_false, beq_self_eq_true, beq_true, beq_false, Bool.not_true, Bool.not_false, Bool.true_beq, Bool.false_beq]
 refine ACalls_mono _ _ _ _ _ _ (index_spec hg rows k caps p hlen hn B [] (by rw [List.append_nil, hB]; exact hp)) ?_
 rintro r b' l' ⟨rfl, rfl, rfl⟩
 simp only [↓run_skip, ↓run_region, ↓run_draw, ↓run_seq, ↓run_block, ↓run_exit, ↓run_ret, ↓run_cond, ↓atN_app, ↓seqC_normal, ↓seqC_exit, ↓seqC_ret, ↓seqQ_normal, ↓seqQ_exit, ↓seqQ_ret, ↓blkQ_normal, ↓blkQ_exit, ↓blkQ_ret, ↓runOps_nil, ↓runOps_cons, ↓runD_nil, ↓runD_cons, ↓grdO_true, ↓grdO_false, ↓grdD_true, ↓grdD_false, ↓ifC_true, ↓ifC_false, ↓opS_val, ↓opS_call, ↓opS_two, ↓opK_app, ↓dS_val, ↓dS_call, ↓dS_two, ↓dK_app, rechks_nil, rechks_cons, rechk, gcase_true, gcase_false, ex_val, ex_val0, gd_none, gd_some, nth_zero, nth_succ, upd_zero, upd_succ, put_some, put_none, ev_t, ev_c, evs_nil, evs_cons, evo_some, evo_none, hget_at, hget_first, hsetB_at, hsetB_first, hsetL_at, hsetL_first, ofOpt_some, aop, aload, astore, aslice, aappend, aiaddr, aiaddrA, afaddr, alen, alenS, acopy, amm, acall, alookup, amupdate, alenM, comma, keyEq, apick, binV, binVB, binVS, isSh, intOp, strOp, boolOp, shOp, eqC, eqF, and2, cellsOf, setFrom, fillA, fillS, rd, rdI, elems, mk, bounds, AV.cell, List.all_cons, List.all_nil, Bool.and_true, Bool.true_and, Bool.and_self, List.length_cons, List.length_nil, List.length_append, Nat.reduceAdd, Nat.reduceSub, Nat.reduceMul, Nat.zero_add, Nat.add_zero, List.replicate_succ, List.replicate_zero, List.cons_append, List.nil_append, List.append_assoc, List.append_nil, List.getElem?_cons_zero, List.getElem?_cons_succ, List.getElem?_nil, List.set_cons_zero, List.set_cons_succ, List.drop_zero, List.drop_succ_cons, List.take_zero, List.take_succ_cons, List.take_nil, List.drop_nil, List.map_cons, List.map_nil, Option.map_some, if_true, if_false, Bool.false_eq_true, and_self, true_and, and_true, Nat.reduceLeDiff, Nat.reduceLT, Nat.le_refl, Nat.reduceEqDiff, ite_true, ite_false, beq_self_eq_true, beq_true, beq_false, Bool.not_true, Bool.not_false, Bool.true_beq, Bool.false_beq]
 exact leave_pure (.inr rfl) rfl (.v _) hR hB ⟨by rw [← wIdx_ge]; rfl, rfl, rfl⟩
end Go.Proofs.Ytcemoeigegkmoaa
namespace Go.Proofs.Ytcemoeigegkmoaa
set_option linter.unusedVariables false
set_option linter.unusedSimpArgs false
attribute [local go_sem ↓] run_skip run_region run_draw run_seq run_block run_exit run_ret run_cond atN_app seqC_normal seqC_exit seqC_ret seqQ_normal seqQ_exit seqQ_ret blkQ_normal blkQ_exit blkQ_ret runOps_nil runOps_cons runD_nil runD_cons grdO_true grdO_false grdD_true grdD_false ifC_true ifC_false opS_val opS_call opS_two opK_app dS_val dS_call dS_two dK_app kUp_same kUp_ne
attribute [local go_sem] rechks_nil rechks_cons rechk gcase_true gcase_false ex_val ex_val0 gd_none gd_some ev_t ev_c evs_nil evs_cons evo_some evo_none hget_at hget_first hsetB_at hsetB_first hsetL_at hsetL_first ofOpt_some aop aload astore aslice aappend aiaddr aiaddrA afaddr alen alenS acopy amm acall alookup amupdate alenM comma keyEq apick binV binVB binVS isSh intOp strOp boolOp shOp eqC eqF and2 cellsOf setFrom fillA fillS rd rdI elems mk bounds AV.cell List.all_cons List.all_nil Bool.and_true Bool.true_and Bool.and_self List.length_cons List.length_nil List.length_append Nat.reduceAdd Nat.reduceSub Nat.reduceMul Nat.zero_add Nat.add_zero List.cons_append List.nil_append List.append_assoc List.append_nil List.getElem?_cons_zero List.getElem?_cons_succ List.getElem?_nil List.set_cons_zero List.set_cons_succ List.drop_zero List.drop_succ_cons List.take_zero List.take_succ_cons List.take_nil List.drop_nil List.map_cons List.map_nil Option.map_some if_true if_false Bool.false_eq_true and_self true_and and_true Nat.reduceLeDiff Nat.reduceLT Nat.le_refl Nat.reduceEqDiff ite_true ite_false beq_self_eq_true beq_true beq_false Bool.not_true Bool.not_false Bool.true_beq Bool.false_beq map_vs vs_len vs_get vs_take vs_drop vs_snoc1 vs_snoc2 vs_snoc3 vs_snoc5 vs_set1 vs_set2 vs_rep wrap_id le_T lt_T le_F lt_F leI_T ltI_T leI_F ltI_F geI gtI get_T decide_true decide_false room List.getElem?_map List.length_map List.length_take Int.toNat_natCast Nat.min_def Nat.min_self nth_kOf put_kOf put_kNo kOv_cons kOv_nil KHas KArgs List.getElem_cons_zero List.getElem_cons_succ
def a_few18 : AFunc := ⟨1,47,[.tmp 2],(.seq (.region [⟨some 1,.box (.t 0),none⟩,⟨some 2,.mv (.c (.v (.bool false))),none⟩]) (.seq (.region [⟨some 3,.mv (.c (.v (.int .i64 0))),none⟩]) (.seq (.seq (.region [⟨some 6,.faddr 0 (.t 1),none⟩,⟨some 7,.load none (.t 6),none⟩,⟨some 8,.len (.t 7),none⟩,⟨some 9,.mv (.c (.v (.int .i64 0))),none⟩]) (.block 0 (.loop (.seq (.region [⟨some 10,.bin .lss (.t 9) (.t 8),none⟩]) (.seq (.cond (.t 10) .skip (.exit 0)) (.seq (.block 1 (.seq (.region [⟨some 11,.iaddr 3 (.t 7) (.t 9),none⟩,⟨some 12,.load (some 3) (.t 11),none⟩,⟨some 5,.alloc [(.v (.str ⟨#[]⟩)),(.v .zsl),(.v .zsl)],none⟩,⟨none,.store 3 (.t 5) (.t 12),none⟩]) (.seq (.region [⟨some 13,.mv (.t 3),none⟩,⟨some 14,.faddr 2 (.t 5),none⟩,⟨some 15,.load none (.t 14),none⟩,⟨some 16,.len (.t 15),none⟩,⟨some 17,.bin .add (.t 13) (.t 16),none⟩,⟨some 3,.mv (.t 17),none⟩]) (.seq (.region [⟨some 18,.mv (.t 3),none⟩,⟨some 19,.bin .gtr (.t 18) (.c (.v (.int .i64 40))),none⟩,⟨some 20,.mv (.t 19),none⟩,⟨some 21,.faddr 1 (.t 5),some (20,false)⟩,⟨some 22,.load none (.t 21),some (20,false)⟩,⟨some 23,.len (.t 22),some (20,false)⟩,⟨some 24,.bin .gtr (.t 23) (.c (.v (.int .i64 12))),some (20,false)⟩,⟨some 25,.pick (.t 20) (.c (.v (.bool true))) (.t 24),none⟩,⟨some 26,.mv (.t 25),none⟩,⟨some 27,.faddr 0 (.t 5),some (26,false)⟩,⟨some 28,.load none (.t 27),some (26,false)⟩,⟨some 29,.lenS (.t 28),some (26,false)⟩,⟨some 30,.bin .gtr (.t 29) (.c (.v (.int .i64 40))),some (26,false)⟩,⟨some 31,.pick (.t 26) (.c (.v (.bool true))) (.t 30),none⟩,⟨some 32,.mv (.t 31),none⟩,⟨some 33,.faddr 2 (.t 5),some (32,false)⟩,⟨some 34,.load none (.t 33),some (32,false)⟩,⟨some 35,.call (.c (.fn 74 [])) [(.t 34),(.c (.fn 75 []))],some (32,false)⟩,⟨some 36,.pick (.t 32) (.c (.v (.bool true))) (.t 35),none⟩,⟨some 37,.mv (.t 36),none⟩,⟨some 38,.faddr 1 (.t 5),some (37,false)⟩,⟨some 39,.load none (.t 38),some (37,false)⟩,⟨some 40,.call (.c (.fn 76 [])) [(.t 39),(.c (.fn 77 []))],some (37,false)⟩,⟨some 41,.pick (.t 37) (.c (.v (.bool true))) (.t 40),none⟩]) (.cond (.t 41) (.seq (.region [⟨some 2,.mv (.c (.v (.bool false))),none⟩]) .ret) .skip))))) (.region [⟨some 42,.bin .add (.t 9) (.c (.v (.int .i64 1))),none⟩,⟨some 9,.mv (.t 42),none⟩]))))))) (.seq (.region [⟨some 43,.faddr 0 (.t 1),none⟩,⟨some 44,.load none (.t 43),none⟩,⟨some 45,.len (.t 44),none⟩,⟨some 46,.bin .leq (.t 45) (.c (.v (.int .i64 10))),none⟩,⟨some 2,.mv (.t 46),none⟩]) .ret))))⟩
theorem a_few18_ok : cFunc Try.prog 16 = some a_few18 := by kernel_rfl
def r_few180 : List (Nat × Nat) := [(2, 3), (5, 5), (9, 42)]
def a_few181 : AFunc := ⟨1,7,[.tmp 2],(.seq (.region [⟨some 1,.box (.t 0),none⟩,⟨some 2,.mv (.c (.v (.bool false))),none⟩]) (.seq (.region [⟨some 3,.faddr 4 (.t 1),none⟩,⟨some 4,.load none (.t 3),none⟩,⟨some 5,.len (.t 4),none⟩,⟨some 6,.bin .gtr (.t 5) (.c (.v (.int .i64 12))),none⟩,⟨some 2,.mv (.t 6),none⟩]) .ret))⟩
theorem a_few181_ok : cFunc Try.prog 75 = some a_few181 := by kernel_rfl
def a_few182 : AFunc := ⟨1,7,[.tmp 2],(.seq (.region [⟨some 1,.box (.t 0),none⟩,⟨some 2,.mv (.c (.v (.bool false))),none⟩]) (.seq (.region [⟨some 3,.faddr 0 (.t 1),none⟩,⟨some 4,.load none (.t 3),none⟩,⟨some 5,.lenS (.t 4),none⟩,⟨some 6,.bin .gtr (.t 5) (.c (.v (.int .i64 40))),none⟩,⟨some 2,.mv (.t 6),none⟩]) .ret))⟩
theorem a_few182_ok : cFunc Try.prog 77 = some a_few182 := by kernel_rfl

def l12E (e : Ev) : Bool := decide (12 < e.asg.length)
def l40V (v : Vr) : Bool := decide (40 < v.name.size)
theorem few181_spec (e : Ev) (b l : List Row) : ACalls Try.prog 75 [.agg ((eEv e).map .v)] b l (fun r b' l' => r = .v (.bool (l12E e)) ∧ b' = b ∧ l' = l) := by
 refine calls_kept a_few181_ok rfl (by decide) ?_
 intro B g hB hR hE hA
 simp only [KArgs] at hA
 have hd : decide ((e.asg.length : Int) > 12) = l12E e := by unfold l12E; rw [Bool.eq_iff_iff]; simp; omega
 have hd' : decide ((12 : Int) < e.asg.length) = l12E e := hd
 simp (disch := (first | decide | omega)) only [a_few181, hA, eEv, List.length_map, hd, hd', go_sem]
 exact leave_pure (xs := [.v (.bool (l12E e))]) (.inr rfl) (by simp (disch := (first | decide | omega)) only [resVs, resV, go_sem, hA]) kO hR hB ⟨rfl, rfl, rfl⟩
theorem few182_spec (v : Vr) (b l : List Row) : ACalls Try.prog 77 [.agg ((eVr v).map .v)] b l (fun r b' l' => r = .v (.bool (l40V v)) ∧ b' = b ∧ l' = l) := by
 refine calls_kept a_few182_ok rfl (by decide) ?_
 intro B g hB hR hE hA
 simp only [KArgs] at hA
 have hd : decide ((v.name.size : Int) > 40) = l40V v := by unfold l40V; rw [Bool.eq_iff_iff]; simp; omega
 have hd' : decide ((40 : Int) < v.name.size) = l40V v := hd
 simp (disch := (first | decide | omega)) only [a_few182, hA, eVr, List.length_map, hd, hd', go_sem]
 exact leave_pure (xs := [.v (.bool (l40V v))]) (.inr rfl) (by simp (disch := (first | decide | omega)) only [resVs, resV, go_sem, hA]) kO hR hB ⟨rfl, rfl, rfl⟩
def a_inside : AFunc := ⟨2,13,[.tmp 4],(.seq (.region [⟨some 2,.box (.t 0),none⟩,⟨some 4,.mv (.c (.v (.bool false))),none⟩]) (.seq (.region [⟨some 5,.mv (.t 1),none⟩,⟨some 6,.bin .geq (.t 5) (.c (.v (.int .i64 0))),none⟩,⟨some 7,.mv (.t 6),none⟩,⟨some 8,.mv (.t 1),some (7,true)⟩,⟨some 9,.faddr 0 (.t 2),some (7,true)⟩,⟨some 10,.load none (.t 9),some (7,true)⟩,⟨some 11,.bin .lss (.t 8) (.t 10),some (7,true)⟩,⟨some 12,.pick (.t 7) (.t 11) (.c (.v (.bool false))),none⟩,⟨some 4,.mv (.t 12),none⟩]) .ret))⟩
theorem a_inside_ok : cFunc Try.prog 177 = some a_inside := by kernel_rfl
def a_words : AFunc := ⟨1,7,[.tmp 2],(.seq (.region [⟨some 2,.mv (.c (.v (.int .i64 0))),none⟩]) (.seq (.region [⟨some 3,.mv (.t 0),none⟩,⟨some 4,.bin .add (.t 3) (.c (.v (.int .i64 64))),none⟩,⟨some 5,.bin .sub (.t 4) (.c (.v (.int .i64 1))),none⟩,⟨some 6,.bin .quo (.t 5) (.c (.v (.int .i64 64))),none⟩,⟨some 2,.mv (.t 6),none⟩]) .ret))⟩
theorem a_words_ok : cFunc Try.prog 191 = some a_words := by kernel_rfl
def a_OfB : AFunc := ⟨2,45,[.cell 4 (some 2),.tmp 5],(.seq (.region [⟨some 4,.alloc [(.v (.int .i64 0)),(.v .zsl)],none⟩,⟨some 5,.mv (.c (.v (.int .i64 0))),none⟩]) (.seq (.seq (.region [⟨some 9,.mv (.t 0),none⟩,⟨some 10,.bin .lss (.t 9) (.c (.v (.int .i64 0))),none⟩,⟨some 11,.mv (.t 10),none⟩,⟨some 12,.mv (.t 0),some (11,false)⟩,⟨some 13,.bin .gtr (.t 12) (.c (.v (.int .i64 512))),some (11,false)⟩,⟨some 14,.pick (.t 11) (.c (.v (.bool true))) (.t 13),none⟩]) (.cond (.t 14) (.seq (.region [⟨some 15,.build [(.v (.int .i64 0)),(.v .zsl)] [],none⟩,⟨none,.store 2 (.t 4) (.t 15),none⟩,⟨some 5,.mv (.c (.v (.int .i64 2))),none⟩]) .ret) .skip)) (.seq (.region [⟨some 16,.mv (.t 0),none⟩,⟨some 17,.mv (.t 0),none⟩,⟨some 18,.call (.c (.fn 191 [])) [(.t 17)],none⟩,⟨some 19,.mkslice 1 [(.v (.int .u64 0))] 8 (.t 18) (.t 18),none⟩,⟨some 20,.build [(.v (.int .i64 0)),(.v .zsl)] [(0,1,(.t 16)),(1,1,(.t 19))],none⟩,⟨some 6,.alloc [(.v (.int .i64 0)),(.v .zsl)],none⟩,⟨none,.store 2 (.t 6) (.t 20),none⟩]) (.seq (.seq (.region [⟨some 21,.mv (.t 1),none⟩,⟨some 22,.len (.t 21),none⟩,⟨some 23,.mv (.c (.v (.int .i64 0))),none⟩]) (.block 0 (.loop (.seq (.region [⟨some 24,.bin .lss (.t 23) (.t 22),none⟩]) (.seq (.cond (.t 24) .skip (.exit 0)) (.seq (.block 1 (.seq (.region [⟨some 25,.iaddr 1 (.t 21) (.t 23),none⟩,⟨some 26,.load none (.t 25),none⟩,⟨some 8,.mv (.t 26),none⟩]) (.seq (.seq (.region [⟨some 27,.load (some 2) (.t 6),none⟩,⟨some 28,.mv (.t 8),none⟩,⟨some 29,.call (.c (.fn 177 [])) [(.t 27),(.t 28)],none⟩,⟨some 30,.not (.t 29),none⟩]) (.cond (.t 30) (.seq (.region [⟨some 31,.build [(.v (.int .i64 0)),(.v .zsl)] [],none⟩,⟨none,.store 2 (.t 4) (.t 31),none⟩,⟨some 5,.mv (.c (.v (.int .i64 2))),none⟩]) .ret) .skip)) (.draw [⟨0,⟨some 32,.faddr 1 (.t 6),none⟩,[]⟩,⟨1,⟨some 33,.load none (.t 32),none⟩,[]⟩,⟨2,⟨some 34,.mv (.t 8),none⟩,[]⟩,⟨3,⟨some 35,.bin .quo (.t 34) (.c (.v (.int .i64 64))),none⟩,[]⟩,⟨4,⟨some 36,.iaddr 1 (.t 33) (.t 35),none⟩,[]⟩,⟨5,⟨some 37,.load none (.t 36),none⟩,[]⟩,⟨6,⟨some 38,.mv (.t 8),none⟩,[]⟩,⟨7,⟨some 39,.bin .rem (.t 38) (.c (.v (.int .i64 64))),none⟩,[]⟩,⟨8,⟨some 40,.bin .shl (.c (.v (.int .u64 1))) (.t 39),none⟩,[]⟩,⟨9,⟨some 41,.bin .or (.t 37) (.t 40),none⟩,[]⟩,⟨10,⟨some 42,.iaddr 1 (.t 33) (.t 35),none⟩,[]⟩,⟨11,⟨none,.store 1 (.t 42) (.t 41),none⟩,[]⟩])))) (.region [⟨some 43,.bin .add (.t 23) (.c (.v (.int .i64 1))),none⟩,⟨some 23,.mv (.t 43),none⟩]))))))) (.seq (.region [⟨some 44,.load (some 2) (.t 6),none⟩,⟨none,.store 2 (.t 4) (.t 44),none⟩,⟨some 5,.mv (.c (.v (.int .i64 0))),none⟩]) .ret)))))⟩
theorem a_OfB_ok : cFunc Try.prog 175 = some a_OfB := by kernel_rfl
def r_OfB0 : List (Nat × Nat) := [(5, 5), (8, 8), (23, 43)]

def bw : List Nat → Nat → Nat
 | [], _ => 0
 | i :: L, k => if i / 64 = k then bw L k ||| 2 ^ (i % 64) else bw L k
theorem bw_bit {k j : Nat} (hj : j < 64) : ∀ L, (bw L k).testBit j = decide (64 * k + j ∈ L)
 | [] => by simp [bw]
 | i :: L => by
   have ih := bw_bit (k := k) hj L
   unfold bw
   by_cases h : i / 64 = k
   ·rw [if_pos h, Nat.testBit_or, ih, Nat.testBit_two_pow]
    rw [Bool.eq_iff_iff]
    simp only [Bool.or_eq_true, decide_eq_true_eq, List.mem_cons]
    have := Nat.div_add_mod i 64
    constructor
    ·rintro (h1 | h1)
     ·exact .inr h1
     ·exact .inl oM
    ·rintro (h1 | h1)
     ·exact .inr oM
     ·exact .inl h1
   ·rw [if_neg h, ih, Bool.eq_iff_iff]
    simp only [decide_eq_true_eq, List.mem_cons]
    constructor
    ·exact .inr
    ·rintro (h1 | h1)
     ·exact absurd (show i / 64 = k by omega) h
     ·exact h1
theorem bw_lt {k : Nat} : ∀ L, bw L k < 2 ^ 64
 | [] => by simp [bw]
 | i :: L => by
   have ih := bw_lt (k := k) L
   unfold bw
   split
   ·exact Nat.or_lt_two_pow ih (Nat.pow_lt_pow_right oM (Nat.mod_lt _ oM))
   ·exact ih
def nW (n : Nat) : Nat := (n + 63) / 64
def setV (n : Nat) (L : List Nat) : List IV := [.int .i64 n, .isl 1 (fl (nW n) fun k => [.int .u64 (bw L k)])]
theorem shr_word (a j : Nat) : Int.fdiv (a : Int) (2 ^ j) = ((a / 2 ^ j : Nat) : Int) := by
 have : ((2 : Int) ^ j) = ((2 ^ j : Nat) : Int) := by simp
 rw [this, Int.fdiv_eq_ediv_of_nonneg _ (Int.natCast_nonneg _)]; rfl
def eRel (n : Nat) (T : Nat → List Nat) : IV := .isl 2 (fl n fun i => setV n (T i))
theorem wrap_u {a : Nat} (h : a < 2 ^ 64) : IntKind.u64.wrap (a : Int) = a := by
 unfold IntKind.wrap
 have : (2 : Int) ^ 64 = 18446744073709551616 := by decide
 simp [IntKind.bits, IntKind.signed]
 omega
theorem or_word {a c : Nat} (ha : a < 2 ^ 64) (hc : c < 2 ^ 64) : IntKind.u64.wrap (((BitVec.ofInt 64 (a : Int) ||| BitVec.ofInt 64 (c : Int)).toNat : Nat) : Int) = ((a ||| c : Nat) : Int) := by
 have e1 : BitVec.ofInt 64 (a : Int) = BitVec.ofNat 64 a := by simp
 have e2 : BitVec.ofInt 64 (c : Int) = BitVec.ofNat 64 c := by simp
 rw [e1, e2, BitVec.toNat_or, BitVec.toNat_ofNat, BitVec.toNat_ofNat, Nat.mod_eq_of_lt ha, Nat.mod_eq_of_lt hc, wrap_u (Nat.or_lt_two_pow ha hc)]
theorem shl_word {j : Nat} (h : j < 64) : IntKind.u64.wrap (1 * 2 ^ j) = ((2 ^ j : Nat) : Int) := by
 have : (1 : Int) * 2 ^ j = ((2 ^ j : Nat) : Int) := by simp
 rw [this, wrap_u (Nat.pow_lt_pow_right oM h)]
theorem inside_spec (n a c d : Nat) (i : Nat) (b l : List Row) : ACalls Try.prog 177 [.agg [.v (.int .i64 n), .sl a c 0 d], .v (.int .i64 i)] b l (fun r b' l' => r = .v (.bool (decide (i < n))) ∧ b' = b ∧ l' = l) := by
 refine calls_kept a_inside_ok rfl (by decide) ?_
 intro B g hB hR hE hA
 simp only [KArgs] at hA
 have h0 : decide ((i : Int) ≥ 0) = true := decide_eq_true oM
 have h0' : decide ((0 : Int) ≤ (i : Int)) = true := h0
 have h1 : decide ((i : Int) < (n : Int)) = decide (i < n) := by rw [decide_eq_decide]; omega
 simp (disch := (first | decide | omega)) only [a_inside, hA, h0, h0', h1, go_sem]
 exact leave_pure (xs := [.v (.bool (decide (i < n)))]) (.inr rfl) (by simp (disch := (first | decide | omega)) only [resVs, resV, go_sem, hA]) kO hR hB ⟨rfl, rfl, rfl⟩
theorem words_spec (n : Nat) (hn : n ≤ 512) (b l : List Row) : ACalls Try.prog 191 [.v (.int .i64 n)] b l (fun r b' l' => r = .v (.int .i64 (nW n)) ∧ b' = b ∧ l' = l) := by
 refine calls_kept a_words_ok rfl (by decide) ?_
 intro B g hB hR hE hA
 simp only [KArgs] at hA
 have h64 : ((64 : Int) = 0) = False := by simp
 have q1 : Int.tdiv ((n : Int) + 64 - 1) 64 = ((nW n : Nat) : Int) := by
  unfold nW
  rw [show (n : Int) + 64 - 1 = ((n + 63 : Nat) : Int) by omega]; rfl
 have hb : nW n ≤ 9 := by unfold nW; omega
 simp (disch := (first | decide | omega)) only [a_words, hA, h64, q1, if_false, go_sem]
 exact leave_pure (xs := [.v (.int .i64 (nW n))]) (.inr rfl) (by simp (disch := (first | decide | omega)) only [resVs, resV, go_sem, hA]) kO hR hB ⟨rfl, rfl, rfl⟩
def eN (i : Nat) : List IV := [.int .i64 i]
def wL (n : Nat) (L : List Nat) : List (List IV) := fl (nW n) fun k => [.int .u64 (bw L k)]
theorem wL_set {n i : Nat} {L : List Nat} : (wL n L).set (i / 64) [.int .u64 ((bw L (i / 64) ||| 2 ^ (i % 64) : Nat) : Int)] = wL n (i :: L) := by
 unfold wL
 rw [fl_set]
 refine fl_congr (fun k _ => ?_)
 by_cases h : k = i / 64
 ·subst h
  rw [fUp_same]
  show _ = [IV.int .u64 ((bw (i :: L) (i / 64) : Nat) : Int)]
  rw [show bw (i :: L) (i / 64) = bw L (i / 64) ||| 2 ^ (i % 64) by rw [bw, if_pos rfl]]
 ·rw [fUp_ne h, show bw (i :: L) k = bw L k by rw [bw, if_neg (fun e => h e.symm)]]
theorem wL_zero {n : Nat} : List.replicate (nW n) [IV.int .u64 0] = wL n [] := by
 unfold wL; rw [← fl_const]; rfl
theorem of_run (n : Nat) (hn : n ≤ 512) (L : List Nat) (hL : ∀ i ∈ L, i < n) (hl : L.length ≤ 1000000) (b l : List Row) :
  ACalls Try.prog 175 [.v (.int .i64 n), .v (.isl 1 (L.map eN))] b l (fun r b' l' => r = .tup [.agg [.v (.int .i64 n), .sl (b.length + l.length + 1) 0 0 (nW n)], .v (.int .i64 0)] ∧ b' = b ∧ l' = l ++ [.live 0 2 [[.v (.int .i64 n), .sl (b.length + l.length + 1) 0 0 (nW n)]], .live 0 1 (vs (wL n L.reverse))]) := by
 refine calls_kept a_OfB_ok rfl (by decide) ?_
 intro B g hB hR hE hA
 simp only [KArgs] at hA
 have hBl : B.length = b.length + l.length := by rw [hB, List.length_append]
 have h1 : decide ((n : Int) < 0) = false := decide_eq_false oM
 have h2 : decide ((n : Int) > 512) = false := decide_eq_false oM
 have h2' : decide ((512 : Int) < (n : Int)) = false := h2
 have hnb : nW n ≤ 9 := by unfold nW; omega
 simp (disch := (first | decide | omega)) only [a_OfB, hA, h1, h2, h2', go_sem]
 refine ACalls.nxt (words_spec n hn _ _) ?_
 simp (disch := (first | decide | omega)) only [hA, List.length_map, go_sem]
 refine loop_kept (ι := Nat) r_OfB0 (fun m => [(23, .v (.int .i64 m))]) 3 (fun m => [.live 0 2 [[.v (.int .i64 0), .v .zsl]], .live 0 1 (vs (wL n (L.take m).reverse)), .live 0 2 [[.v (.int .i64 n), .sl (B.length + 1) 0 0 (nW n)]]])
  (fun m => m ≤ L.length) (fun m => L.length - m) 0 (Nat.zero_le _) (by (repeat (first | exact hE.mono oM | refine KLt.up ?_ kL))) (by ((try simp (disch := decide) only [hA, go_sem]) <;> exact kH)) (fun e => by rw [wL_zero]; exact Weak.refl _ _ _) ?_
 intro g1 hE1 hEE1 hg1 m hm
 by_cases hml : m < L.length
 ·have hi := hL _ (List.getElem_mem hml)
  obtain ⟨i, hLi⟩ : ∃ i, L[m] = i := ⟨_, rfl⟩
  rw [hLi] at hi
  have htk : (L.take (m + 1)).reverse = i :: (L.take m).reverse := by
   rw [List.take_add_one, List.getElem?_eq_getElem hml, hLi]; simp
  have hk : i / 64 < nW n := by unfold nW; omega
  have hg : (wL n (L.take m).reverse)[i / 64]? = some [.int .u64 (bw (L.take m).reverse (i / 64))] := fl_get hk
  have hset := wL_set (n := n) (i := i) (L := (L.take m).reverse)
  rw [← htk] at hset
  have h64 : ((64 : Int) = 0) = False := by simp
  have q1 : Int.tdiv (i : Int) 64 = ((i / 64 : Nat) : Int) := rfl
  have q2 : Int.tmod (i : Int) 64 = ((i % 64 : Nat) : Int) := rfl
  have hsh : (((i % 64 : Nat) : Int) < 0) = False := by simp; omega
  have h65 : (i % 64 ≤ IntKind.bits .u64) = True := eq_true (show i % 64 ≤ 64 by omega)
  have hi6 : i / 64 ≤ 8 := by omega
  have q5 := shl_word (Nat.mod_lt i (show 0 < 64 by omega))
  have q6 := or_word (bw_lt (k := i / 64) (L.take m).reverse) (Nat.pow_lt_pow_right (a := 2) oM (Nat.mod_lt i (show 0 < 64 by omega)))
  have hid : decide (i < n) = true := decide_eq_true hi
  simp (disch := (first | decide | omega)) only [hA, hg1, eN, hLi, go_sem]
  refine ACalls.nxt (inside_spec n (B.length + 1) 0 (nW n) i _ _) ?_
  rw [hid]
  simp (disch := (first | decide | omega)) only [hA, hg1, h64, q1, q2, hsh, h65, q5, q6, hg, hset, if_false, setFrom, cellsOf, go_sem]
  refine ⟨m + 1, hml, by simp only; omega, ?_⟩
  erw [q6, hset]
  exact Weak.kround (l1 := [Row.live 0 2 [[AV.v (.int .i64 0), AV.v .zsl]], .live 0 1 (vs (wL n (L.take (m + 1)).reverse)), .live 0 2 [[.v (.int .i64 n), .sl (B.length + 1) 0 0 (nW n)]]]) (p := r_OfB0) (k := 3) (by ((repeat refine (kAny_up rfl).trans ?_); exact hEE1)) (by ((try simp (disch := decide) only [hA, go_sem]) <;> exact kH)) rfl hE1 (by simp) kV hR kL
 ·simp (disch := (first | decide | omega)) only [hA, hg1, go_sem]
  obtain rfl : m = L.length := by omega
  rw [List.take_length]
  exact leave (.inr rfl) (xs := [.agg [.v (.int .i64 n), .sl (B.length + 1) 0 0 (nW n)], .v (.int .i64 0)]) (by simp (disch := (first | decide | omega)) only [resVs, resV, hA, hg1, go_sem]) (y := .tup [.agg [.v (.int .i64 n), .sl (B.length + 1) 0 0 (nW n)], .v (.int .i64 0)]) (l' := [.live 0 2 [[.v (.int .i64 n), .sl (B.length + 1) 0 0 (nW n)]], .live 0 1 (vs (wL n L.reverse))]) (Weak.trim (l1 := [.live 0 2 [[.v (.int .i64 n), .sl (B.length + 1) 0 0 (nW n)]], .live 0 1 (vs (wL n L.reverse))]) (junk := [.live 0 2 [[.v (.int .i64 n), .sl (B.length + 1) 0 0 (nW n)]]]) rfl (by
   intro x hx
   simp only [one, List.mem_singleton] at hx
   subst hx
   simp (disch := (simp; try omega)) only [lts.down, Nat.reduceLT, Nat.reduceAdd]) (hR.mono (by simp)) (by simp (disch := (simp; try omega)) only [lts.down, Nat.reduceLT, Nat.reduceAdd])) hB ⟨by rw [hBl], rfl, by rw [hBl]⟩
theorem ACalls.valdeep {P : Program} {f : Nat} {args : List AV} {b l N : List Row} {i ver sz : Nat} {rows : List (List IV)} {x x' : AV} (n : Nat) (hN : N[i]? = some (.live ver sz (vs rows))) (hx : deep (frz0 (b.length + l.length + i) ver sz rows) n x = x') (hlt : ∀ m, AVlt m x')
  (h : ACalls P f args b l (fun r b' l' => r = x ∧ b' = b ∧ l' = l ++ N)) : ACalls P f args b l (fun r b' l' => r = x' ∧ b' = b ∧ l' = l) := by
 refine ⟨h.1, fun F L w vs s hr => Calls.mono (h.2 F L w vs s hr) ?_⟩
 rintro en w' ⟨v, y, b', l', F', L', h1, h2, h3, h4, h5, rfl, rfl, rfl⟩
 have hbl : (b' ++ l).length = b'.length + l.length := List.length_append
 have hsim : Sim F' L' ((b' ++ l) ++ N) w' := by rw [List.append_assoc]; exact h3
 obtain ⟨F2, s1, _, st1, k4⟩ := freeze_core (e := []) hN F' L' w' { tmps := #[], defers := [] } hsim ⟨rfl, rfl, fun j x v hx hv => by simp at hx⟩
 rw [hbl] at k4
 have hrep : RepA w' F2 L' x' v := by
  rw [← hx]
  exact deep_rep k4 n y v (h2.mono st1.imm (fun _ _ => rfl) (fun _ _ _ h => h))
 have hw : Weak [x'] (b' ++ l) (N.set i (.dead ver)) [x'] (b' ++ l) [] :=
  Weak.trim (l1 := []) rfl (by intro z hz; simp only [List.mem_singleton] at hz; subst hz; exact hlt _) (by simpa using s.rowsLt) RowsLt_nil
 obtain ⟨F3, L3, k1, k2, k3, k5⟩ := hw F2 L' w' { tmps := #[v], defers := [] } s1 ⟨rfl, rfl, fun j z u hz hu => by
  cases j with
  | zero => simp at hz hu; subst hz; subst hu; exact hrep
  | succ j => simp at hz⟩
 rw [List.append_nil] at k1 k3
 refine ⟨v, x', b', l, F3, L3, h1, k2.2.2 0 _ v rfl rfl, k1, ?_, h5, rfl, rfl, rfl⟩
 refine h4.trans ?_
 rw [← List.append_assoc]
 exact st1.trans k3
theorem Of_spec (n : Nat) (hn : n ≤ 512) (L : List Nat) (hL : ∀ i ∈ L, i < n) (hl : L.length ≤ 1000000) (b l : List Row) :
  ACalls Try.prog 175 [.v (.int .i64 n), .v (.isl 1 (L.map eN))] b l (fun r b' l' => r = .tup [.agg ((setV n L.reverse).map .v), .v (.int .i64 0)] ∧ b' = b ∧ l' = l) := by
 refine ACalls.valdeep (i := 1) (ver := 0) (sz := 1) (rows := wL n L.reverse) 6 rfl ?_ ?_ (of_run n hn L hL hl b l)
 ·have hw : (wL n L.reverse).length = nW n := fl_len
  have tk : List.take (nW n) (wL n L.reverse) = wL n L.reverse := List.take_of_length_le oM
  simp [deep, frz0, setV, hw, tk]
  rfl
 ·intro m
  refine .tup _ (fun c hc => ?_)
  simp only [List.mem_cons, List.not_mem_nil, or_false] at hc
  rcases hc with rfl | rfl
  ·refine .agg _ (fun c hc => ?_)
   simp only [setV, List.map_cons, List.map_nil, List.mem_cons, List.not_mem_nil, or_false] at hc
   rcases hc with rfl | rfl <;> exact .v _
  ·exact .v _
def a_bValid : AFunc := ⟨1,39,[.tmp 2],(.seq (.region [⟨some 1,.box (.t 0),none⟩,⟨some 2,.mv (.c (.v (.bool false))),none⟩]) (.seq (.seq (.draw [⟨0,⟨some 4,.faddr 0 (.t 1),none⟩,[]⟩,⟨1,⟨some 5,.load none (.t 4),none⟩,[]⟩,⟨2,⟨some 6,.bin .lss (.t 5) (.c (.v (.int .i64 0))),none⟩,[]⟩,⟨3,⟨some 7,.mv (.t 6),none⟩,[]⟩,⟨4,⟨some 8,.faddr 0 (.t 1),some (7,false)⟩,[]⟩,⟨5,⟨some 9,.load none (.t 8),some (7,false)⟩,[]⟩,⟨6,⟨some 10,.bin .gtr (.t 9) (.c (.v (.int .i64 512))),some (7,false)⟩,[]⟩,⟨7,⟨some 11,.pick (.t 7) (.c (.v (.bool true))) (.t 10),none⟩,[]⟩,⟨8,⟨some 12,.mv (.t 11),none⟩,[]⟩,⟨9,⟨some 13,.faddr 1 (.t 1),some (12,false)⟩,[]⟩,⟨10,⟨some 14,.load none (.t 13),some (12,false)⟩,[]⟩,⟨11,⟨some 15,.len (.t 14),some (12,false)⟩,[]⟩,⟨12,⟨some 16,.faddr 0 (.t 1),some (12,false)⟩,[]⟩,⟨13,⟨some 17,.load none (.t 16),some (12,false)⟩,[]⟩,⟨14,⟨some 18,.call (.c (.fn 191 [])) [(.t 17)],some (12,false)⟩,[⟨some 13,.faddr 1 (.t 1),some (12,false)⟩,⟨some 14,.load none (.t 13),some (12,false)⟩,⟨some 15,.len (.t 14),some (12,false)⟩]⟩,⟨15,⟨some 19,.bin .neq (.t 15) (.t 18),some (12,false)⟩,[]⟩,⟨16,⟨some 20,.pick (.t 12) (.c (.v (.bool true))) (.t 19),none⟩,[]⟩]) (.cond (.t 20) (.seq (.region [⟨some 2,.mv (.c (.v (.bool false))),none⟩]) .ret) .skip)) (.seq (.region [⟨some 21,.faddr 0 (.t 1),none⟩,⟨some 22,.load none (.t 21),none⟩,⟨some 23,.bin .rem (.t 22) (.c (.v (.int .i64 64))),none⟩,⟨some 3,.mv (.t 23),none⟩]) (.seq (.region [⟨some 24,.mv (.t 3),none⟩,⟨some 25,.bin .eql (.t 24) (.c (.v (.int .i64 0))),none⟩,⟨some 26,.mv (.t 25),none⟩,⟨some 27,.faddr 1 (.t 1),some (26,false)⟩,⟨some 28,.load none (.t 27),some (26,false)⟩,⟨some 29,.faddr 1 (.t 1),some (26,false)⟩,⟨some 30,.load none (.t 29),some (26,false)⟩,⟨some 31,.len (.t 30),some (26,false)⟩,⟨some 32,.bin .sub (.t 31) (.c (.v (.int .i64 1))),some (26,false)⟩,⟨some 33,.iaddr 1 (.t 28) (.t 32),some (26,false)⟩,⟨some 34,.load none (.t 33),some (26,false)⟩,⟨some 35,.mv (.t 3),some (26,false)⟩,⟨some 36,.bin .shr (.t 34) (.t 35),some (26,false)⟩,⟨some 37,.bin .eql (.t 36) (.c (.v (.int .u64 0))),some (26,false)⟩,⟨some 38,.pick (.t 26) (.c (.v (.bool true))) (.t 37),none⟩,⟨some 2,.mv (.t 38),none⟩]) .ret))))⟩
theorem a_bValid_ok : cFunc Try.prog 176 = some a_bValid := by kernel_rfl
def a_bhas : AFunc := ⟨2,16,[.tmp 4],(.seq (.region [⟨some 2,.box (.t 0),none⟩,⟨some 4,.mv (.c (.v (.bool false))),none⟩]) (.seq (.region [⟨some 5,.faddr 1 (.t 2),none⟩,⟨some 6,.load none (.t 5),none⟩,⟨some 7,.mv (.t 1),none⟩,⟨some 8,.bin .quo (.t 7) (.c (.v (.int .i64 64))),none⟩,⟨some 9,.iaddr 1 (.t 6) (.t 8),none⟩,⟨some 10,.load none (.t 9),none⟩,⟨some 11,.mv (.t 1),none⟩,⟨some 12,.bin .rem (.t 11) (.c (.v (.int .i64 64))),none⟩,⟨some 13,.bin .shr (.t 10) (.t 12),none⟩,⟨some 14,.bin .and (.t 13) (.c (.v (.int .u64 1))),none⟩,⟨some 15,.bin .eql (.t 14) (.c (.v (.int .u64 1))),none⟩,⟨some 4,.mv (.t 15),none⟩]) .ret))⟩
theorem a_bhas_ok : cFunc Try.prog 178 = some a_bhas := by kernel_rfl
def a_bHas : AFunc := ⟨2,17,[.tmp 4],(.seq (.region [⟨some 2,.box (.t 0),none⟩,⟨some 4,.mv (.c (.v (.bool false))),none⟩]) (.seq (.region [⟨some 5,.load (some 2) (.t 2),none⟩,⟨some 6,.call (.c (.fn 176 [])) [(.t 5)],none⟩,⟨some 7,.mv (.t 6),none⟩,⟨some 8,.load (some 2) (.t 2),some (7,true)⟩,⟨some 9,.mv (.t 1),some (7,true)⟩,⟨some 10,.call (.c (.fn 177 [])) [(.t 8),(.t 9)],some (7,true)⟩,⟨some 11,.pick (.t 7) (.t 10) (.c (.v (.bool false))),none⟩,⟨some 12,.mv (.t 11),none⟩,⟨some 13,.load (some 2) (.t 2),some (12,true)⟩,⟨some 14,.mv (.t 1),some (12,true)⟩,⟨some 15,.call (.c (.fn 178 [])) [(.t 13),(.t 14)],some (12,true)⟩,⟨some 16,.pick (.t 12) (.t 15) (.c (.v (.bool false))),none⟩,⟨some 4,.mv (.t 16),none⟩]) .ret))⟩
theorem a_bHas_ok : cFunc Try.prog 143 = some a_bHas := by kernel_rfl

theorem bw_top {n : Nat} {L : List Nat} (hL : ∀ i ∈ L, i < n) (h : n % 64 ≠ 0) : bw L (nW n - 1) / 2 ^ (n % 64) = 0 := by
 refine Nat.div_eq_of_lt (Nat.lt_pow_two_of_testBit _ (fun j hj => ?_))
 by_cases hj64 : j < 64
 ·rw [bw_bit hj64, decide_eq_false_iff_not]
  intro hm
  have := hL _ hm
  have e : nW n - 1 = n / 64 := by unfold nW; omega
  rw [e] at this
  omega
 ·have h1 := bw_lt (k := nW n - 1) L
  have h64 : (2 : Nat) ^ 64 ≤ 2 ^ j := Nat.pow_le_pow_right oM oM
  exact Nat.testBit_lt_two_pow oM
theorem and_word {a : Nat} (ha : a < 2 ^ 64) : IntKind.u64.wrap (((BitVec.ofInt 64 (a : Int) &&& BitVec.ofInt 64 (1 : Int)).toNat : Nat) : Int) = ((a % 2 : Nat) : Int) := by
 have e1 : BitVec.ofInt 64 (a : Int) = BitVec.ofNat 64 a := by simp
 have e2 : BitVec.ofInt 64 (1 : Int) = BitVec.ofNat 64 1 := by decide
 rw [e1, e2, BitVec.toNat_and, BitVec.toNat_ofNat, BitVec.toNat_ofNat, Nat.mod_eq_of_lt ha, Nat.mod_eq_of_lt (by decide), Nat.and_one_is_mod, wrap_u oM]
theorem inside2_spec (n : Nat) (x : IV) (i : Nat) (b l : List Row) : ACalls Try.prog 177 [.agg [.v (.int .i64 n), .v x], .v (.int .i64 i)] b l (fun r b' l' => r = .v (.bool (decide (i < n))) ∧ b' = b ∧ l' = l) := by
 refine calls_kept a_inside_ok rfl (by decide) ?_
 intro B g hB hR hE hA
 simp only [KArgs] at hA
 have h0 : decide ((i : Int) ≥ 0) = true := decide_eq_true oM
 have h0' : decide ((0 : Int) ≤ (i : Int)) = true := h0
 have h1 : decide ((i : Int) < (n : Int)) = decide (i < n) := by rw [decide_eq_decide]; omega
 simp (disch := (first | decide | omega)) only [a_inside, hA, h0, h0', h1, go_sem]
 exact leave_pure (xs := [.v (.bool (decide (i < n)))]) (.inr rfl) (by simp (disch := (first | decide | omega)) only [resVs, resV, go_sem, hA]) kO hR hB ⟨rfl, rfl, rfl⟩
theorem bValid_spec (n : Nat) (L : List Nat) (hn : n ≤ 512) (hL : ∀ i ∈ L, i < n) (b l : List Row) : ACalls Try.prog 176 [.agg [.v (.int .i64 n), .v (.isl 1 (wL n L))]] b l (fun r b' l' => r = .v (.bool true) ∧ b' = b ∧ l' = l) := by
 refine calls_kept a_bValid_ok rfl (by decide) ?_
 intro B g hB hR hE hA
 simp only [KArgs] at hA
 have hnn : ∀ n : Int, (n != n) = false := fun n => by simp
 have h1 : decide ((n : Int) < 0) = false := decide_eq_false oM
 have h2 : decide ((n : Int) > 512) = false := decide_eq_false oM
 have h2' : decide ((512 : Int) < (n : Int)) = false := h2
 have hwl : (wL n L).length = nW n := fl_len
 have h64 : ((64 : Int) = 0) = False := by simp
 have q2 : Int.tmod (n : Int) 64 = ((n % 64 : Nat) : Int) := rfl
 simp (disch := (first | decide | omega)) only [a_bValid, hA, h1, h2, h2', go_sem]
 refine ACalls.nxt (words_spec n hn _ _) ?_
 by_cases h0 : n % 64 = 0
 ·have d0 : (((n % 64 : Nat) : Int) == 0) = true := by rw [h0]; rfl
  simp (disch := (first | decide | omega)) only [hA, hwl, hnn, h64, q2, d0, if_false, go_sem]
  exact leave_pure (xs := [.v (.bool true)]) (.inr rfl) (by simp (disch := (first | decide | omega)) only [resVs, resV, go_sem, hA]) kO hR hB ⟨rfl, rfl, rfl⟩
 ·have d0 : (((n % 64 : Nat) : Int) == 0) = false := by rw [beq_eq_false_iff_ne]; omega
  have hw : nW n = (nW n - 1) + 1 := by unfold nW; omega
  have hlast : ((nW n : Nat) : Int) - 1 = ((nW n - 1 : Nat) : Int) := by unfold nW; omega
  have hg : (wL n L)[nW n - 1]? = some [.int .u64 (bw L (nW n - 1))] := fl_get oM
  have hb : nW n ≤ 9 := by unfold nW; omega
  have q5 := shr_word (bw L (nW n - 1)) (n % 64)
  rw [bw_top hL h0] at q5
  have hsh : (((n % 64 : Nat) : Int) < 0) = False := by simp; omega
  have hbi : IntKind.bits .u64 = 64 := rfl
  have h65 : (n % 64 ≤ 64) = True := eq_true oM
  have e0 : ((((0 : Nat)) : Int) == 0) = true := rfl
  simp (disch := (first | decide | omega)) only [hA, hwl, hnn, h64, q2, d0, hlast, hg, hsh, hbi, h65, q5, e0, if_false, go_sem]
  exact leave_pure (xs := [.v (.bool true)]) (.inr rfl) (by simp (disch := (first | decide | omega)) only [resVs, resV, go_sem, hA]) kO hR hB ⟨rfl, rfl, rfl⟩
theorem bhas_spec (n : Nat) (L : List Nat) (hn : n ≤ 512) (i : Nat) (hi : i < n) (b l : List Row) : ACalls Try.prog 178 [.agg [.v (.int .i64 n), .v (.isl 1 (wL n L))], .v (.int .i64 i)] b l (fun r b' l' => r = .v (.bool (decide (i ∈ L))) ∧ b' = b ∧ l' = l) := by
 refine calls_kept a_bhas_ok rfl (by decide) ?_
 intro B g hB hR hE hA
 simp only [KArgs] at hA
 have hwl : (wL n L).length = nW n := fl_len
 have hk : i / 64 < nW n := by unfold nW; omega
 have hg : (wL n L)[i / 64]? = some [.int .u64 (bw L (i / 64))] := fl_get hk
 have hb := bw_bit (k := i / 64) (Nat.mod_lt i (show 0 < 64 by omega)) L
 rw [show 64 * (i / 64) + i % 64 = i from Nat.div_add_mod i 64] at hb
 have q1 : Int.tdiv (i : Int) 64 = ((i / 64 : Nat) : Int) := rfl
 have q2 : Int.tmod (i : Int) 64 = ((i % 64 : Nat) : Int) := rfl
 have q5 := shr_word (bw L (i / 64)) (i % 64)
 have hlt : bw L (i / 64) / 2 ^ (i % 64) < 2 ^ 64 := Nat.lt_of_le_of_lt (Nat.div_le_self _ _) (bw_lt L)
 have q6 := and_word hlt
 have q7 : ((((bw L (i / 64) / 2 ^ (i % 64)) % 2 : Nat) : Int) == 1) = decide (i ∈ L) := by
  rw [← hb, Nat.testBit_eq_decide_div_mod_eq, Bool.eq_iff_iff]
  simp only [beq_iff_eq, decide_eq_true_eq]
  omega
 have h64 : ((64 : Int) = 0) = False := by simp
 have hsh : (((i % 64 : Nat) : Int) < 0) = False := by simp; omega
 have h65 : (i % 64 ≤ IntKind.bits .u64) = True := eq_true (show i % 64 ≤ 64 by omega)
 have hi6 : i / 64 ≤ 8 := by omega
 have hbb : nW n ≤ 9 := by unfold nW; omega
 simp (disch := (first | decide | omega)) only [a_bhas, hA, hwl, q1, q2, hg, h64, hsh, h65, q5, if_false, go_sem]
 erw [q6, q7]
 exact leave_pure (xs := [.v (.bool (decide (i ∈ L)))]) (.inr rfl) (by simp (disch := (first | decide | omega)) only [resVs, resV, go_sem, hA]) kO hR hB ⟨rfl, rfl, rfl⟩
theorem bHas_spec (n : Nat) (L : List Nat) (hn : n ≤ 512) (hL : ∀ i ∈ L, i < n) (i : Nat) (hi : i < n) (b l : List Row) : ACalls Try.prog 143 [.agg [.v (.int .i64 n), .v (.isl 1 (wL n L))], .v (.int .i64 i)] b l (fun r b' l' => r = .v (.bool (decide (i ∈ L))) ∧ b' = b ∧ l' = l) := by
 refine calls_kept a_bHas_ok rfl (by decide) ?_
 intro B g hB hR hE hA
 simp only [KArgs] at hA
 have hd : decide (i < n) = true := decide_eq_true hi
 simp (disch := (first | decide | omega)) only [a_bHas, hA, go_sem]
 refine ACalls.nxt (bValid_spec n L hn hL _ _) ?_
 simp (disch := (first | decide | omega)) only [hA, go_sem]
 refine ACalls.nxt (inside2_spec n _ i _ _) ?_
 rw [hd]
 simp (disch := (first | decide | omega)) only [hA, go_sem]
 refine ACalls.nxt (bhas_spec n L hn i hi _ _) ?_
 simp (disch := (first | decide | omega)) only [hA, go_sem]
 exact leave_pure (xs := [.v (.bool (decide (i ∈ L)))]) (.inr rfl) (by simp (disch := (first | decide | omega)) only [resVs, resV, go_sem, hA]) kO hR hB ⟨rfl, rfl, rfl⟩
end Go.Proofs.Ytcemoeigegkmoaa
