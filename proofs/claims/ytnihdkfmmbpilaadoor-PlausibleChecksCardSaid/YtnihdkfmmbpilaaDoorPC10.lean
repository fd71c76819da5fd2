/- Texts of one proof, laid together: RW, TR, MS. No condition. -/
import Derived.Test.YtnihdkfmmbpilaaDoorPC2
import Derived.Test.YtnihdkfmmbpilaaDoorPC3
import Derived.Test.YtnihdkfmmbpilaaDoorPC8
import Derived.Test.YtnihdkfmmbpilaaDoorPC7
import Derived.Test.YtnihdkfmmbpilaaDoorProg
import Derived.KernelRfl
namespace Go.Proofs.YtnihdkfmmbpilaaDoor
open Go.RowKit Go.ChangeShapes Go.WideShapes Go.Deep
set_option linter.unusedVariables false

def RIs (w : World) (F : Nat → Prop) (row : List IV) (cs : List Value) : Prop := row.length = cs.length ∧ ∀ (j : Nat) (a : IV) (v : Value), row[j]? = some a → cs[j]? = some v → RepI w F a v
theorem RIs.nil {w : World} {F : Nat → Prop} : RIs w F [] [] := ⟨rfl, fun j a v h => by simp at h⟩
theorem RIs.one {w : World} {F : Nat → Prop} {a : IV} {v : Value} (h : RepI w F a v) : RIs w F [a] [v] := by
 refine ⟨rfl, fun j x u hx hu => ?_⟩
 cases j with
 | zero => simp at hx hu; subst hx; subst hu; exact h
 | succ j => simp at hx
theorem RIs.append {w : World} {F : Nat → Prop} {r s : List IV} {cs ds : List Value} (h : RIs w F r cs) (k : RIs w F s ds) : RIs w F (r ++ s) (cs ++ ds) := by
 refine ⟨by simp [h.1, k.1], fun j a v ha hv => ?_⟩
 by_cases hj : j < r.length
 ·rw [List.getElem?_append_left hj] at ha
  rw [List.getElem?_append_left (by rw [← h.1]; exact hj)] at hv
  exact h.2 j a v ha hv
 ·rw [List.getElem?_append_right oM] at ha
  rw [List.getElem?_append_right (by rw [← h.1]; omega), ← h.1] at hv
  exact k.2 _ a v ha hv
theorem RIs.repL {w : World} {F : Nat → Prop} {L : LMap} {r : List IV} {cs : List Value} (h : RIs w F r cs) : RepL w F L (r.map .v) cs := by
 refine ⟨by simpa using h.1, fun j x v hx hv => ?_⟩
 rw [List.getElem?_map] at hx
 cases hq : r[j]? with
 | none => simp [hq] at hx
 | some y => simp [hq] at hx; subst hx; exact .v _ _ (h.2 j y v hq hv)

def Low (w : World) : Nat → Prop := fun b => b < w.heap.size

def TR {α : Type} (P : Program) (t : TypeId) (n : Nat) (enc : α → List IV) (good : α → Prop) : Prop :=
 ∀ (H : Type) (en : TypeId × Value → H) (w : World) (base : Nat) (spare : Nat → Bool) (held : Bool) (fuel : Nat) (cs : List Value) (x : DataW H × List MemPlace), cs.length = n → DataW.trod en P w base spare held fuel t cs = some x →
  ∃ y, good y ∧ RIs w (Low w) (enc y) cs

section
variable {P : Program} {α β : Type}
theorem TR.map {t : TypeId} {n : Nat} {enc : α → List IV} {good : α → Prop} (h : TR P t n enc good) {enc' : β → List IV} {good' : β → Prop} (f : α → β) (he : ∀ y, enc' (f y) = enc y) (hg : ∀ y, good y → good' (f y)) : TR P t n enc' good' := by
 intro H en w base spare held fuel cs x hl hx
 obtain ⟨y, g, r⟩ := h H en w base spare held fuel cs x hl hx
 exact ⟨f y, hg y g, by rw [he]; exact r⟩
theorem tr_int {t : TypeId} {k : IntKind} (ht : P.underlying t = some (.int k)) : TR P t 1 (fun n : Int => [.int k n]) (fun n => (Lit.int k n).wf = true) := by
 intro H en w base spare held fuel cs x hl hx
 obtain ⟨n, rfl, _, hw⟩ := DataW.trod_int ht hx
 exact ⟨n, hw, RIs.one (.int _ _)⟩
theorem tr_string {t : TypeId} (ht : P.underlying t = some .string) : TR P t 1 (fun s : ByteArray => [.str s]) (fun s => s.size ≤ maxLen) := by
 intro H en w base spare held fuel cs x hl hx
 obtain ⟨n, rfl, _, hm⟩ := DataW.trod_string ht hx
 exact ⟨n, hm, RIs.one (.str _)⟩
theorem tr_slice {t e : TypeId} {n : Nat} {enc : α → List IV} {good : α → Prop} (h : TR P e n enc good) (ht : P.underlying t = some (.slice e)) (hC : P.cellsOf e = n) (h0 : 0 < n) :
  TR P t 1 (fun ys : List α => [.isl n (ys.map enc)]) (fun ys => ys.length ≤ maxLen ∧ ∀ y ∈ ys, good y) := by
 intro H en w base spare held fuel cs x hl hx
 rcases open_slice ht hx with ⟨hv, _⟩ | ⟨a, len, cap, m, f, D, Pl, hv, hb, hll, hm, hmm, _, hel⟩
 ·subst hv
  exact ⟨[], ⟨by simp [maxLen], fun y hy => by simp at hy⟩, RIs.one (.isl0 _ _ _ (by simp [maxLen]))⟩
 ·subst hv
  have hle : len ≤ m := by rw [hmm]; split <;> omega
  have key : ∀ i, i < len → ∃ y, (good y ∧ ∃ b off, a = ⟨b, off, none⟩ ∧ (enc y).length = n ∧ ∀ (j : Nat) (c : IV), (enc y)[j]? = some c → ∃ v, w.cell? ⟨b, off + i * n + j, none⟩ = some v ∧ RepI w (Low w) c v) := by
   intro i hi
   obtain ⟨cs', hc, ht'⟩ := hel i oM
   rw [hC] at hc
   obtain ⟨_, hcl, hat⟩ := World.cells?_some hc
   obtain ⟨cs0, hc0, _⟩ := hel 0 oM
   rw [hC] at hc0
   obtain ⟨_, hcl0, hat0⟩ := World.cells?_some hc0
   have h00 := hat0 0 h0
   have e00 : (a.add (0 * n)).add 0 = a := by simp [Addr.add]
   rw [e00, List.getElem?_eq_getElem (show 0 < cs0.length by omega)] at h00
   have hsp := spot_none h00
   obtain ⟨b, off, sp⟩ := a
   simp only at hsp
   subst hsp
   obtain ⟨y, hg, hy⟩ := h H en w base spare held f cs' (D i, Pl i) hcl ht'
   refine ⟨y, hg, b, off, rfl, by rw [hy.1, hcl], fun j c hj => ?_⟩
   have hjl : j < cs'.length := by rw [← hy.1]; exact (List.getElem?_eq_some_iff.1 hj).1
   have := hat j oM
   have e1 : ((⟨b, off, none⟩ : Addr).add (i * n)).add j = ⟨b, off + i * n + j, none⟩ := by
    unfold Addr.add
    by_cases h1 : i * n = 0 <;> by_cases h2 : j = 0 <;> simp [h1, h2]
   rw [e1, List.getElem?_eq_getElem hjl] at this
   exact ⟨_, this, hy.2 j c _ hj (List.getElem?_eq_getElem hjl)⟩
  obtain ⟨xs, hxl, hxs⟩ := list_of len key
  subst hxl
  refine ⟨xs, ⟨by omega, fun y hy => ?_⟩, RIs.one ?_⟩
  ·obtain ⟨i, hi⟩ := List.mem_iff_getElem?.1 hy
   exact (hxs i y hi).1
  ·by_cases hpos : 0 < xs.length
   ·obtain ⟨_, b, off, ha, _⟩ := hxs 0 xs[0] (List.getElem?_eq_getElem hpos)
    subst ha
    have hfacts : ∀ (k : Nat) (row : List IV), (xs.map enc)[k]? = some row → row.length = n ∧ ∀ (j : Nat) (c : IV), row[j]? = some c → ∃ v, w.cell? ⟨b, off + k * n + j, none⟩ = some v ∧ RepI w (Low w) c v := by
     intro k row hk
     rw [List.getElem?_map] at hk
     cases hq : xs[k]? with
     | none => rw [hq] at hk; cases hk
     | some y =>
       rw [hq] at hk; cases hk
       obtain ⟨_, b', off', hh, h1, h2⟩ := hxs k y hq
       injection hh with g1 g2
       subst g1; subst g2
       exact ⟨h1, h2⟩
    have hlow : Low w b := by
     obtain ⟨r1, r2⟩ := hfacts 0 (enc xs[0]) (by rw [List.getElem?_map, List.getElem?_eq_getElem hpos]; rfl)
     obtain ⟨v, hv, _⟩ := r2 0 (enc xs[0])[0] (List.getElem?_eq_getElem oM)
     exact lt_of_cell hv
    have := RepI.isl (w := w) (F := Low w) (xs.map enc) b off n cap (fun k j => (w.cell? ⟨b, off + k * n + j, none⟩).getD undef) hlow (by simpa using hll) hm (fun k row hk => (hfacts k row hk).1)
     (fun k row j c hk hj => by
      obtain ⟨v, hv, _⟩ := (hfacts k row hk).2 j c hj
      rw [hv]; rfl)
     (fun k row j c hk hj => by
      obtain ⟨v, hv, hr⟩ := (hfacts k row hk).2 j c hj
      rw [hv]; exact hr)
    rw [List.length_map] at this
    exact this
   ·have : xs = [] := List.eq_nil_of_length_eq_zero oM
    subst this
    exact .isl0 _ _ _ hm

def TRF (P : Program) (fs : List Field) (o n : Nat) (enc : α → List IV) (good : α → Prop) : Prop :=
 ∀ (H : Type) (en : TypeId × Value → H) (w : World) (base : Nat) (spare : Nat → Bool) (held : Bool) (fuel : Nat) (cs : List Value), cs.length = o + n → (∀ f ∈ fs, ∃ x, DataW.trod en P w base spare held fuel f.type ((cs.drop f.offset).take (P.cellsOf f.type)) = some x) →
  ∃ y, good y ∧ RIs w (Low w) (enc y) (cs.drop o)
theorem trf_nil {o : Nat} : TRF P [] o 0 (fun _ : Unit => []) (fun _ => True) := by
 intro H en w base spare held fuel cs hl _
 refine ⟨(), trivial, ?_⟩
 rw [List.drop_eq_nil_of_le oM]
 exact RIs.nil
theorem trf_cons {f : Field} {fs : List Field} {o n m : Nat} {enc : α → List IV} {good : α → Prop} {enc' : β → List IV} {good' : β → Prop} (h : TR P f.type n enc good) (hC : P.cellsOf f.type = n) (ho : f.offset = o) (k : TRF P fs (o + n) m enc' good') :
  TRF P (f :: fs) o (n + m) (fun y : α × β => enc y.1 ++ enc' y.2) (fun y => good y.1 ∧ good' y.2) := by
 intro H en w base spare held fuel cs hl hfs
 obtain ⟨x, hx⟩ := hfs f (by simp)
 rw [ho, hC] at hx
 obtain ⟨y, hg, hy⟩ := h H en w base spare held fuel _ x (by simp; omega) hx
 obtain ⟨z, hg', hz⟩ := k H en w base spare held fuel cs oM (fun f hf => hfs f (by simp [hf]))
 refine ⟨(y, z), ⟨hg, hg'⟩, ?_⟩
 have : cs.drop o = (cs.drop o).take n ++ cs.drop (o + n) := by rw [← List.drop_drop, List.take_append_drop]
 rw [this]
 exact hy.append hz
theorem tr_struct {t : TypeId} {fs : Array Field} {n : Nat} {enc : α → List IV} {good : α → Prop} (ht : P.underlying t = some (.struct fs)) (h : TRF P fs.toList 0 n enc good) : TR P t n enc good := by
 intro H en w base spare held fuel cs x hl hx
 obtain ⟨xs, m, _, _, _, hlen, hf⟩ := DataW.trod_struct ht hx
 obtain ⟨y, hg, hy⟩ := h H en w base spare held m cs oM (fun f hm => by
  obtain ⟨i, hi⟩ := List.mem_iff_getElem?.1 hm
  have hi' : fs[i]? = some f := by simpa using hi
  have hlt : i < xs.length := by rw [hlen]; exact (Array.getElem?_eq_some_iff.1 hi').1
  exact ⟨_, (hf i f hi').trans (List.getElem?_eq_getElem hlt)⟩)
 exact ⟨y, hg, by simpa using hy⟩
theorem TR.one {t : TypeId} {enc : α → IV} {good : α → Prop} (h : TR P t 1 (fun y => [enc y]) good) {H : Type} {en : TypeId × Value → H} {w : World} {v : Value} {d : DataW H} {p : List MemPlace} {base : Nat} {spare : Nat → Bool} {held : Bool}
  (hv : v.cells = #[v]) (hT : DataW.Trod en P w base spare held t v d p) : ∃ y, good y ∧ RepI w (Low w) (enc y) v := by
 obtain ⟨fuel, hf⟩ := hT
 rw [hv] at hf
 obtain ⟨y, hg, hy⟩ := h H en w base spare held fuel [v] (d, p) rfl hf
 exact ⟨y, hg, hy.2 0 _ _ rfl rfl⟩
theorem TR.agg {t : TypeId} {n : Nat} {enc : α → List IV} {good : α → Prop} (h : TR P t n enc good) {fs : Array Field} (hs : P.underlying t = some (.struct fs)) (hC : P.cellsOf t = n) {H : Type} {en : TypeId × Value → H} {w : World} {v : Value} {d : DataW H} {p : List MemPlace} {base b0 : Nat} {r : Reach} {spare : Nat → Bool} {held : Bool}
  (hv : Value.okWide P w r b0 t v) (hT : DataW.Trod en P w base spare held t v d p) : ∃ y, good y ∧ RepA w (Low w) (fun _ _ => none) (.agg ((enc y).map .v)) v := by
 obtain ⟨cs, rfl, hsz⟩ := okWide_struct hs hv
 obtain ⟨fuel, hf⟩ := hT
 obtain ⟨y, hg, hy⟩ := h H en w base spare held fuel _ (d, p) (by simpa [Value.cells] using hsz.trans hC) hf
 exact ⟨y, hg, RepL.agg hy.repL⟩
end
end Go.Proofs.YtnihdkfmmbpilaaDoor
namespace Go.Proofs.YtnihdkfmmbpilaaDoor
open Go.RowKit
set_option linter.unusedVariables false
theorem tr_i : TR Tryd.prog 3 1 (fun n : Int => [.int .i64 n]) (fun n => (Lit.int .i64 n).wf = true) := tr_int Tryd.underlying3
theorem tr_s : TR Tryd.prog 9 1 (fun s : ByteArray => [.str s]) (fun s => s.size ≤ maxLen) := tr_string Tryd.underlying9
theorem tr_ints : TR Tryd.prog 31 1 (fun c : List Int => [.isl 1 (c.map eI)]) (fun c => c.length ≤ maxLen ∧ ∀ n ∈ c, (Lit.int .i64 n).wf = true) := tr_slice tr_i Tryd.underlying31 (by kernel_rfl) (by decide)
theorem tr_asg : TR Tryd.prog 196 2 eAsg (fun _ => True) :=
 (tr_struct Tryd.underlying196 (trf_cons tr_i (by kernel_rfl) rfl (trf_cons tr_i (by kernel_rfl) rfl trf_nil))).map (fun y => ⟨y.1, y.2.1⟩) (fun _ => rfl) (fun _ _ => trivial)
theorem tr_asgs : TR Tryd.prog 72 1 (fun l : List Asg => [.isl 2 (l.map eAsg)]) (fun l => l.length ≤ maxLen) :=
 (tr_slice tr_asg Tryd.underlying72 (by kernel_rfl) (by decide)).map id (fun _ => rfl) (fun _ h => h.1)
theorem tr_ev : TR Tryd.prog 74 5 eEv (fun _ => True) :=
 (tr_struct Tryd.underlying74 (trf_cons tr_i (by kernel_rfl) rfl (trf_cons tr_i (by kernel_rfl) rfl (trf_cons tr_i (by kernel_rfl) rfl (trf_cons tr_i (by kernel_rfl) rfl (trf_cons tr_asgs (by kernel_rfl) rfl trf_nil)))))).map
  (fun y => ⟨y.1, y.2.1, y.2.2.1, y.2.2.2.1, y.2.2.2.2.1⟩) (fun _ => rfl) (fun _ _ => trivial)
theorem tr_evs : TR Tryd.prog 75 1 (fun l : List Ev => [.isl 5 (l.map eEv)]) (fun l => l.length ≤ maxLen) :=
 (tr_slice tr_ev Tryd.underlying75 (by kernel_rfl) (by decide)).map id (fun _ => rfl) (fun _ h => h.1)
theorem tr_var : TR Tryd.prog 86 2 eVr (fun v => v.name.size ≤ maxLen) :=
 (tr_struct Tryd.underlying86 (trf_cons tr_s (by kernel_rfl) rfl (trf_cons tr_i (by kernel_rfl) rfl trf_nil))).map (fun y => ⟨y.1, y.2.1⟩) (fun _ => rfl) (fun _ h => h.1)
theorem tr_vars : TR Tryd.prog 76 1 (fun l : List Vr => [.isl 2 (l.map eVr)]) (fun l => l.length ≤ maxLen ∧ ∀ v ∈ l, v.name.size ≤ maxLen) :=
 tr_slice tr_var Tryd.underlying76 (by kernel_rfl) (by decide)
def OkPr (p : Pr) : Prop := (p.name.size ≤ maxLen ∧ ∀ v ∈ p.vars, v.name.size ≤ maxLen) ∧ p.vars.length ≤ maxLen ∧ p.evs.length ≤ maxLen
theorem tr_proc : TR Tryd.prog 78 3 ePr OkPr :=
 (tr_struct Tryd.underlying78 (trf_cons tr_s (by kernel_rfl) rfl (trf_cons tr_vars (by kernel_rfl) rfl (trf_cons tr_evs (by kernel_rfl) rfl trf_nil)))).map
  (fun y => ⟨y.1, y.2.1, y.2.2.1⟩) (fun _ => rfl) (fun _ h => ⟨⟨h.1, h.2.1.2⟩, h.2.1.1, h.2.2.1⟩)
def OkTr (t : Tr) : Prop := t.length ≤ maxLen ∧ ∀ p ∈ t, OkPr p
theorem tr_trace : TR Tryd.prog 24 1 (fun t : Tr => [eT t]) OkTr :=
 (tr_struct Tryd.underlying24 (trf_cons (tr_slice tr_proc Tryd.underlying22 (by kernel_rfl) (by decide)) (by kernel_rfl) rfl trf_nil)).map (fun y => y.1) (fun _ => rfl) (fun _ h => h.1)
theorem OkTr.nm {t : Tr} (h : OkTr t) : Nm t := fun p hp => (h.2 p hp).1
theorem maxLen_eq : maxLen = 9223372036854775807 := by decide
end Go.Proofs.YtnihdkfmmbpilaaDoor
namespace Go.Proofs.YtnihdkfmmbpilaaDoor
set_option linter.unusedVariables false
def eRw (r : List Int) : List IV := [.isl 1 (r.map eI)]
theorem tr_mat : TR Tryd.prog 29 1 (fun m : List (List Int) => [.isl 1 (m.map eRw)]) (fun m => m.length ≤ maxLen ∧ ∀ r ∈ m, r.length ≤ maxLen ∧ ∀ n ∈ r, (Lit.int .i64 n).wf = true) := tr_slice tr_ints Tryd.underlying29 (by kernel_rfl) (by decide)
theorem fl_next {α : Type} {n : Nat} {f : Nat → α} {x : α} (h : f n = x) : fl n f ++ [x] = fl (n + 1) f := by
 rw [fl_snoc]
 refine fl_congr (fun j hj => ?_)
 unfold fUp
 by_cases hj2 : j = n
 ·rw [if_pos hj2, hj2, h]
 ·rw [if_neg hj2]
end Go.Proofs.YtnihdkfmmbpilaaDoor
