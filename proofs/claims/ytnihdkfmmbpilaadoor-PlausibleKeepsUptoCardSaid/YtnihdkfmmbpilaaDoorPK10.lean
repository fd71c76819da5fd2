/- Texts of one proof, laid together: RW, TR, MS, RU. No condition. -/
import Derived.Test.YtnihdkfmmbpilaaDoorPK2
import Derived.Test.YtnihdkfmmbpilaaDoorPK3
import Derived.Test.YtnihdkfmmbpilaaDoorPK8
import Derived.Test.YtnihdkfmmbpilaaDoorPK7
import Derived.Test.YtnihdkfmmbpilaaDoorProg
import Derived.KernelRfl
import Derived.Test.YtnihdkfmmbpilaaDoorRows
namespace Go.Proofs.YtnihdkfmmbpilaaDoor
open Go.RowKit Go.ChangeShapes Go.WideShapes Go.Deep
set_option linter.unusedVariables false

def RIs (w : World) (F : Nat → Prop) (row : List IV) (cs : List Value) : Prop := row.length = cs.length ∧ ∀ (j : Nat) (a : IV) (v : Value), row[j]? = some a → cs[j]? = some v → RepI w F a v
theorem RIs.nil {w : World} {F : Nat → Prop} : RIs w F [] [] := ⟨rfl, fun j a v h => by simp at h⟩
theorem RIs.one {w : World} {F : Nat → Prop} {a : IV} {v : Value} (h : RepI w F a v) : RIs w F [a] [v] := by
 refine ⟨rfl, fun j x u hx hu => ?_⟩
 cases j with
 | zero => simp at hx hu; subst hx; subst hu; exact h
 | succ j => simp at hx
theorem RIs.append {w : World} {F : Nat → Prop} {r s : List IV} {cs ds : List Value} (h : RIs w F r cs) (k : RIs w F s ds) : RIs w F (r ++ s) (cs ++ ds) := by
 refine ⟨by simp [h.1, k.1], fun j a v ha hv => ?_⟩
 by_cases hj : j < r.length
 ·rw [List.getElem?_append_left hj] at ha
  rw [List.getElem?_append_left (by rw [← h.1]; exact hj)] at hv
  exact h.2 j a v ha hv
 ·rw [List.getElem?_append_right oM] at ha
  rw [List.getElem?_append_right (by rw [← h.1]; omega), ← h.1] at hv
  exact k.2 _ a v ha hv
theorem RIs.repL {w : World} {F : Nat → Prop} {L : LMap} {r : List IV} {cs : List Value} (h : RIs w F r cs) : RepL w F L (r.map .v) cs := by
 refine ⟨by simpa using h.1, fun j x v hx hv => ?_⟩
 rw [List.getElem?_map] at hx
 cases hq : r[j]? with
 | none => simp [hq] at hx
 | some y => simp [hq] at hx; subst hx; exact .v _ _ (h.2 j y v hq hv)

def Low (w : World) : Nat → Prop := fun b => b < w.heap.size

def TR {α : Type} (P : Program) (t : TypeId) (n : Nat) (enc : α → List IV) (good : α → Prop) : Prop :=
 ∀ (H : Type) (en : TypeId × Value → H) (w : World) (base : Nat) (spare : Nat → Bool) (held : Bool) (fuel : Nat) (cs : List Value) (x : DataW H × List MemPlace), cs.length = n → DataW.trod en P w base spare held fuel t cs = some x →
  ∃ y, good y ∧ RIs w (Low w) (enc y) cs

section
variable {P : Program} {α β : Type}
theorem TR.map {t : TypeId} {n : Nat} {enc : α → List IV} {good : α → Prop} (h : TR P t n enc good) {enc' : β → List IV} {good' : β → Prop} (f : α → β) (he : ∀ y, enc' (f y) = enc y) (hg : ∀ y, good y → good' (f y)) : TR P t n enc' good' := by
 intro H en w base spare held fuel cs x hl hx
 obtain ⟨y, g, r⟩ := h H en w base spare held fuel cs x hl hx
 exact ⟨f y, hg y g, by rw [he]; exact r⟩
theorem tr_int {t : TypeId} {k : IntKind} (ht : P.underlying t = some (.int k)) : TR P t 1 (fun n : Int => [.int k n]) (fun n => (Lit.int k n).wf = true) := by
 intro H en w base spare held fuel cs x hl hx
 obtain ⟨n, rfl, _, hw⟩ := DataW.trod_int ht hx
 exact ⟨n, hw, RIs.one (.int _ _)⟩
theorem tr_string {t : TypeId} (ht : P.underlying t = some .string) : TR P t 1 (fun s : ByteArray => [.str s]) (fun s => s.size ≤ maxLen) := by
 intro H en w base spare held fuel cs x hl hx
 obtain ⟨n, rfl, _, hm⟩ := DataW.trod_string ht hx
 exact ⟨n, hm, RIs.one (.str _)⟩
theorem TR.one {t : TypeId} {enc : α → IV} {good : α → Prop} (h : TR P t 1 (fun y => [enc y]) good) {H : Type} {en : TypeId × Value → H} {w : World} {v : Value} {d : DataW H} {p : List MemPlace} {base : Nat} {spare : Nat → Bool} {held : Bool}
  (hv : v.cells = #[v]) (hT : DataW.Trod en P w base spare held t v d p) : ∃ y, good y ∧ RepI w (Low w) (enc y) v := by
 obtain ⟨fuel, hf⟩ := hT
 rw [hv] at hf
 obtain ⟨y, hg, hy⟩ := h H en w base spare held fuel [v] (d, p) rfl hf
 exact ⟨y, hg, hy.2 0 _ _ rfl rfl⟩
theorem TR.agg {t : TypeId} {n : Nat} {enc : α → List IV} {good : α → Prop} (h : TR P t n enc good) {fs : Array Field} (hs : P.underlying t = some (.struct fs)) (hC : P.cellsOf t = n) {H : Type} {en : TypeId × Value → H} {w : World} {v : Value} {d : DataW H} {p : List MemPlace} {base b0 : Nat} {r : Reach} {spare : Nat → Bool} {held : Bool}
  (hv : Value.okWide P w r b0 t v) (hT : DataW.Trod en P w base spare held t v d p) : ∃ y, good y ∧ RepA w (Low w) (fun _ _ => none) (.agg ((enc y).map .v)) v := by
 obtain ⟨cs, rfl, hsz⟩ := okWide_struct hs hv
 obtain ⟨fuel, hf⟩ := hT
 obtain ⟨y, hg, hy⟩ := h H en w base spare held fuel _ (d, p) (by simpa [Value.cells] using hsz.trans hC) hf
 exact ⟨y, hg, RepL.agg hy.repL⟩
end
end Go.Proofs.YtnihdkfmmbpilaaDoor
namespace Go.Proofs.YtnihdkfmmbpilaaDoor
open Go.RowKit
set_option linter.unusedVariables false
theorem tr_i : TR Tryd.prog 3 1 (fun n : Int => [.int .i64 n]) (fun n => (Lit.int .i64 n).wf = true) := tr_int Tryd.underlying3
theorem tr_s : TR Tryd.prog 9 1 (fun s : ByteArray => [.str s]) (fun s => s.size ≤ maxLen) := tr_string Tryd.underlying9
def OkPr (p : Pr) : Prop := (p.name.size ≤ maxLen ∧ ∀ v ∈ p.vars, v.name.size ≤ maxLen) ∧ p.vars.length ≤ maxLen ∧ p.evs.length ≤ maxLen
def OkTr (t : Tr) : Prop := t.length ≤ maxLen ∧ ∀ p ∈ t, OkPr p
theorem OkTr.nm {t : Tr} (h : OkTr t) : Nm t := fun p hp => (h.2 p hp).1
end Go.Proofs.YtnihdkfmmbpilaaDoor
namespace Go.Proofs.YtnihdkfmmbpilaaDoor
set_option linter.unusedVariables false
def eRw (r : List Int) : List IV := [.isl 1 (r.map eI)]
theorem fl_next {α : Type} {n : Nat} {f : Nat → α} {x : α} (h : f n = x) : fl n f ++ [x] = fl (n + 1) f := by
 rw [fl_snoc]
 refine fl_congr (fun j hj => ?_)
 unfold fUp
 by_cases hj2 : j = n
 ·rw [if_pos hj2, hj2, h]
 ·rw [if_neg hj2]
end Go.Proofs.YtnihdkfmmbpilaaDoor
namespace Go.Proofs.YtnihdkfmmbpilaaDoor
open Go.RowKit Go.ChangeShapes Go.WideShapes Go.Deep
set_option linter.unusedVariables false
theorem bulk_one {H : Type} (d : DataW H) : 1 ≤ Rows.uptoBulk d := by
 cases d with
 | lit l => cases l <;> simp [Rows.uptoBulk]
 | nil => simp [Rows.uptoBulk]
 | ptr d => simp [Rows.uptoBulk]
 | slice elems spare => simp [Rows.uptoBulk]
 | agg parts => simp [Rows.uptoBulk]
 | iface t d => simp [Rows.uptoBulk]
 | map entries => simp [Rows.uptoBulk]
 | held h => simp [Rows.uptoBulk]
def TRZ {α : Type} (P : Program) (t : TypeId) (n : Nat) (enc : α → List IV) (good : α → Prop) (sz : α → Nat) : Prop :=
 ∀ (H : Type) (en : TypeId × Value → H) (w : World) (base : Nat) (spare : Nat → Bool) (held : Bool) (fuel : Nat) (cs : List Value) (x : DataW H × List MemPlace), cs.length = n → DataW.trod en P w base spare held fuel t cs = some x →
  ∃ y, (good y ∧ sz y ≤ Rows.uptoBulk x.1) ∧ RIs w (Low w) (enc y) cs
section
variable {P : Program} {α β : Type}
theorem TRZ.of {t : TypeId} {n : Nat} {enc : α → List IV} {good : α → Prop} (h : TR P t n enc good) : TRZ P t n enc good (fun _ => 1) := by
 intro H en w base spare held fuel cs x hl hx
 obtain ⟨y, g, r⟩ := h H en w base spare held fuel cs x hl hx
 exact ⟨y, ⟨g, bulk_one _⟩, r⟩
theorem TRZ.map {t : TypeId} {n : Nat} {enc : α → List IV} {good : α → Prop} {sz : α → Nat} (h : TRZ P t n enc good sz) {enc' : β → List IV} {good' : β → Prop} {sz' : β → Nat} (f : α → β) (he : ∀ y, enc' (f y) = enc y) (hg : ∀ y, good y → good' (f y)) (hs : ∀ y, sz' (f y) ≤ sz y) : TRZ P t n enc' good' sz' := by
 intro H en w base spare held fuel cs x hl hx
 obtain ⟨y, ⟨g, s⟩, r⟩ := h H en w base spare held fuel cs x hl hx
 exact ⟨f y, ⟨hg y g, Nat.le_trans (hs y) s⟩, by rw [he]; exact r⟩
theorem bulk_sum {H : Type} {D : Nat → DataW H} {sz : α → Nat} : ∀ (xs : List α) (o : Nat), (∀ i y, xs[i]? = some y → sz y ≤ Rows.uptoBulk (D (o + i))) → (xs.map sz).sum ≤ Rows.uptoBulkAll ((List.range xs.length).map fun i => D (o + i))
 | [], _, _ => by simp
 | x :: xs, o, h => by
   have h1 := bulk_sum xs (o + 1) (fun i y hy => by
    have := h (i + 1) y (by simpa using hy)
    rwa [show o + 1 + i = o + (i + 1) by omega])
   have h0 := h 0 x rfl
   have e : (List.range (x :: xs).length).map (fun i => D (o + i)) = D (o + 0) :: (List.range xs.length).map (fun i => D (o + 1 + i)) := by
    rw [List.length_cons, List.range_succ_eq_map, List.map_cons, List.map_map]
    congr 1
    refine List.map_congr_left (fun i _ => ?_)
    simp only [Function.comp_apply]
    congr 1; omega
   rw [e, List.map_cons, List.sum_cons]
   simp only [Rows.uptoBulkAll]
   omega
theorem trz_slice {t e : TypeId} {n : Nat} {enc : α → List IV} {good : α → Prop} {sz : α → Nat} (h : TRZ P e n enc good sz) (ht : P.underlying t = some (.slice e)) (hC : P.cellsOf e = n) (h0 : 0 < n) :
  TRZ P t 1 (fun ys : List α => [.isl n (ys.map enc)]) (fun ys => ys.length ≤ maxLen ∧ ∀ y ∈ ys, good y) (fun ys => (ys.map sz).sum) := by
 intro H en w base spare held fuel cs x hl hx
 rcases open_slice ht hx with ⟨hv, _⟩ | ⟨a, len, cap, m, f, D, Pl, hv, hb, hll, hm, hmm, hxx, hel⟩
 ·subst hv
  exact ⟨[], ⟨⟨by simp [maxLen], fun y hy => by simp at hy⟩, by simp⟩, RIs.one (.isl0 _ _ _ (by simp [maxLen]))⟩
 ·subst hv
  have hle : len ≤ m := by rw [hmm]; split <;> omega
  have key : ∀ i, i < len → ∃ y, ((good y ∧ sz y ≤ Rows.uptoBulk (D i)) ∧ ∃ b off, a = ⟨b, off, none⟩ ∧ (enc y).length = n ∧ ∀ (j : Nat) (c : IV), (enc y)[j]? = some c → ∃ v, w.cell? ⟨b, off + i * n + j, none⟩ = some v ∧ RepI w (Low w) c v) := by
   intro i hi
   obtain ⟨cs', hc, ht'⟩ := hel i oM
   rw [hC] at hc
   obtain ⟨_, hcl, hat⟩ := World.cells?_some hc
   obtain ⟨cs0, hc0, _⟩ := hel 0 oM
   rw [hC] at hc0
   obtain ⟨_, hcl0, hat0⟩ := World.cells?_some hc0
   have h00 := hat0 0 h0
   have e00 : (a.add (0 * n)).add 0 = a := by simp [Addr.add]
   rw [e00, List.getElem?_eq_getElem (show 0 < cs0.length by omega)] at h00
   have hsp := spot_none h00
   obtain ⟨b, off, sp⟩ := a
   simp only at hsp
   subst hsp
   obtain ⟨y, hg, hy⟩ := h H en w base spare held f cs' (D i, Pl i) hcl ht'
   refine ⟨y, hg, b, off, rfl, by rw [hy.1, hcl], fun j c hj => ?_⟩
   have hjl : j < cs'.length := by rw [← hy.1]; exact (List.getElem?_eq_some_iff.1 hj).1
   have := hat j oM
   have e1 : ((⟨b, off, none⟩ : Addr).add (i * n)).add j = ⟨b, off + i * n + j, none⟩ := by
    unfold Addr.add
    by_cases h1 : i * n = 0 <;> by_cases h2 : j = 0 <;> simp [h1, h2]
   rw [e1, List.getElem?_eq_getElem hjl] at this
   exact ⟨_, this, hy.2 j c _ hj (List.getElem?_eq_getElem hjl)⟩
  obtain ⟨xs, hxl, hxs⟩ := list_of len key
  subst hxl
  refine ⟨xs, ⟨⟨by omega, fun y hy => ?_⟩, ?_⟩, RIs.one ?_⟩
  ·obtain ⟨i, hi⟩ := List.mem_iff_getElem?.1 hy
   exact (hxs i y hi).1.1
  ·rw [hxx]
   simp only [Rows.uptoBulk]
   have := bulk_sum (D := D) xs 0 (fun i y hy => by rw [Nat.zero_add]; exact (hxs i y hy).1.2)
   simp only [Nat.zero_add] at this
   have h2 : (xs.map sz).sum ≤ Rows.uptoBulkAll ((List.range xs.length).map D) := this
   omega
  ·by_cases hpos : 0 < xs.length
   ·obtain ⟨_, b, off, ha, _⟩ := hxs 0 xs[0] (List.getElem?_eq_getElem hpos)
    subst ha
    have hfacts : ∀ (k : Nat) (row : List IV), (xs.map enc)[k]? = some row → row.length = n ∧ ∀ (j : Nat) (c : IV), row[j]? = some c → ∃ v, w.cell? ⟨b, off + k * n + j, none⟩ = some v ∧ RepI w (Low w) c v := by
     intro k row hk
     rw [List.getElem?_map] at hk
     cases hq : xs[k]? with
     | none => rw [hq] at hk; cases hk
     | some y =>
       rw [hq] at hk; cases hk
       obtain ⟨_, b', off', hh, h1, h2⟩ := hxs k y hq
       injection hh with g1 g2
       subst g1; subst g2
       exact ⟨h1, h2⟩
    have hlow : Low w b := by
     obtain ⟨r1, r2⟩ := hfacts 0 (enc xs[0]) (by rw [List.getElem?_map, List.getElem?_eq_getElem hpos]; rfl)
     obtain ⟨v, hv, _⟩ := r2 0 (enc xs[0])[0] (List.getElem?_eq_getElem oM)
     exact lt_of_cell hv
    have := RepI.isl (w := w) (F := Low w) (xs.map enc) b off n cap (fun k j => (w.cell? ⟨b, off + k * n + j, none⟩).getD undef) hlow (by simpa using hll) hm (fun k row hk => (hfacts k row hk).1)
     (fun k row j c hk hj => by
      obtain ⟨v, hv, _⟩ := (hfacts k row hk).2 j c hj
      rw [hv]; rfl)
     (fun k row j c hk hj => by
      obtain ⟨v, hv, hr⟩ := (hfacts k row hk).2 j c hj
      rw [hv]; exact hr)
    rw [List.length_map] at this
    exact this
   ·have : xs = [] := List.eq_nil_of_length_eq_zero oM
    subst this
    exact .isl0 _ _ _ hm
def TRZF (P : Program) (fs : List Field) (o n : Nat) (enc : α → List IV) (good : α → Prop) (sz : α → Nat) : Prop :=
 ∀ (H : Type) (en : TypeId × Value → H) (w : World) (base : Nat) (spare : Nat → Bool) (held : Bool) (fuel : Nat) (cs : List Value) (xs : List (DataW H × List MemPlace)), cs.length = o + n → xs.length = fs.length → (∀ (i : Nat) f, fs[i]? = some f → DataW.trod en P w base spare held fuel f.type ((cs.drop f.offset).take (P.cellsOf f.type)) = xs[i]?) →
  ∃ y, (good y ∧ sz y ≤ Rows.uptoBulkAll (xs.map (·.1))) ∧ RIs w (Low w) (enc y) (cs.drop o)
theorem trzf_nil {o : Nat} : TRZF P [] o 0 (fun _ : Unit => []) (fun _ => True) (fun _ => 0) := by
 intro H en w base spare held fuel cs xs hl _ _
 refine ⟨(), ⟨trivial, Nat.zero_le _⟩, ?_⟩
 rw [List.drop_eq_nil_of_le oM]
 exact RIs.nil
theorem trzf_cons {f : Field} {fs : List Field} {o n m : Nat} {enc : α → List IV} {good : α → Prop} {sz : α → Nat} {enc' : β → List IV} {good' : β → Prop} {sz' : β → Nat} (h : TRZ P f.type n enc good sz) (hC : P.cellsOf f.type = n) (ho : f.offset = o) (k : TRZF P fs (o + n) m enc' good' sz') :
  TRZF P (f :: fs) o (n + m) (fun y : α × β => enc y.1 ++ enc' y.2) (fun y => good y.1 ∧ good' y.2) (fun y => sz y.1 + sz' y.2) := by
 intro H en w base spare held fuel cs xs hl hxl hfs
 match xs, hxl, hfs with
 | x :: xs, hxl, hfs =>
   have hx := hfs 0 f rfl
   rw [ho, hC] at hx
   obtain ⟨y, hg, hy⟩ := h H en w base spare held fuel _ x (by simp; omega) hx
   obtain ⟨z, hg', hz⟩ := k H en w base spare held fuel cs xs oM (by simpa using hxl) (fun i g hi => by have := hfs (i + 1) g (by simpa using hi); simpa using this)
   refine ⟨(y, z), ⟨⟨hg.1, hg'.1⟩, ?_⟩, ?_⟩
   ·simp only [List.map_cons, Rows.uptoBulkAll]
    have := hg.2
    have := hg'.2
    omega
   ·have : cs.drop o = (cs.drop o).take n ++ cs.drop (o + n) := by rw [← List.drop_drop, List.take_append_drop]
    rw [this]
    exact hy.append hz
theorem trz_struct {t : TypeId} {fs : Array Field} {n : Nat} {enc : α → List IV} {good : α → Prop} {sz : α → Nat} (ht : P.underlying t = some (.struct fs)) (h : TRZF P fs.toList 0 n enc good sz) : TRZ P t n enc good (fun y => sz y + 1) := by
 intro H en w base spare held fuel cs x hl hx
 obtain ⟨xs, m, _, hxx, _, hlen, hf⟩ := DataW.trod_struct ht hx
 obtain ⟨y, hg, hy⟩ := h H en w base spare held m cs xs oM (by simpa using hlen) (fun i f hi => hf i f (by simpa using hi))
 refine ⟨y, ⟨hg.1, ?_⟩, by simpa using hy⟩
 rw [hxx]
 simp only [Rows.uptoBulk]
 have := hg.2
 omega
theorem TRZ.agg {t : TypeId} {n : Nat} {enc : α → List IV} {good : α → Prop} {sz : α → Nat} (h : TRZ P t n enc good sz) {fs : Array Field} (hs : P.underlying t = some (.struct fs)) (hC : P.cellsOf t = n) {H : Type} {en : TypeId × Value → H} {w : World} {v : Value} {d : DataW H} {p : List MemPlace} {base b0 : Nat} {r : Reach} {spare : Nat → Bool} {held : Bool}
  (hv : Value.okWide P w r b0 t v) (hT : DataW.Trod en P w base spare held t v d p) : ∃ y, (good y ∧ sz y ≤ Rows.uptoBulk d) ∧ RepA w (Low w) (fun _ _ => none) (.agg ((enc y).map .v)) v := by
 obtain ⟨cs, rfl, hsz⟩ := okWide_struct hs hv
 obtain ⟨fuel, hf⟩ := hT
 obtain ⟨y, hg, hy⟩ := h H en w base spare held fuel _ (d, p) (by simpa [Value.cells] using hsz.trans hC) hf
 exact ⟨y, hg, RepL.agg hy.repL⟩
end
def szEv (e : Ev) : Nat := 3 * e.asg.length + 5
def szPr (p : Pr) : Nat := 3 * p.vars.length + (p.evs.map szEv).sum + 2
def szT (t : Tr) : Nat := (t.map szPr).sum
theorem sum_threes {α : Type} : ∀ l : List α, (l.map fun _ => 3).sum = 3 * l.length
 | [] => rfl
 | _ :: l => by rw [List.map_cons, List.sum_cons, sum_threes l, List.length_cons]; omega
theorem trz_asg : TRZ Tryd.prog 196 2 eAsg (fun _ => True) (fun _ => 3) :=
 (trz_struct Tryd.underlying196 (trzf_cons (TRZ.of tr_i) (by kernel_rfl) rfl (trzf_cons (TRZ.of tr_i) (by kernel_rfl) rfl trzf_nil))).map (fun y => ⟨y.1, y.2.1⟩) (fun _ => rfl) (fun _ _ => trivial) (fun _ => Nat.le_refl _)
theorem trz_var : TRZ Tryd.prog 86 2 eVr (fun v => v.name.size ≤ maxLen) (fun _ => 3) :=
 (trz_struct Tryd.underlying86 (trzf_cons (TRZ.of tr_s) (by kernel_rfl) rfl (trzf_cons (TRZ.of tr_i) (by kernel_rfl) rfl trzf_nil))).map (fun y => ⟨y.1, y.2.1⟩) (fun _ => rfl) (fun _ h => h.1) (fun _ => Nat.le_refl _)
theorem trz_asgs : TRZ Tryd.prog 72 1 (fun l : List Asg => [.isl 2 (l.map eAsg)]) (fun l => l.length ≤ maxLen) (fun l => 3 * l.length) :=
 (trz_slice trz_asg Tryd.underlying72 (by kernel_rfl) (by decide)).map id (fun _ => rfl) (fun _ h => h.1) (fun y => by show 3 * y.length ≤ _; rw [sum_threes]; exact Nat.le_refl _)
theorem trz_ev : TRZ Tryd.prog 74 5 eEv (fun _ => True) szEv :=
 (trz_struct Tryd.underlying74 (trzf_cons (TRZ.of tr_i) (by kernel_rfl) rfl (trzf_cons (TRZ.of tr_i) (by kernel_rfl) rfl (trzf_cons (TRZ.of tr_i) (by kernel_rfl) rfl (trzf_cons (TRZ.of tr_i) (by kernel_rfl) rfl (trzf_cons trz_asgs (by kernel_rfl) rfl trzf_nil)))))).map
  (fun y => ⟨y.1, y.2.1, y.2.2.1, y.2.2.2.1, y.2.2.2.2.1⟩) (fun _ => rfl) (fun _ _ => trivial) (fun y => by unfold szEv; simp only; omega)
theorem trz_evs : TRZ Tryd.prog 75 1 (fun l : List Ev => [.isl 5 (l.map eEv)]) (fun l => l.length ≤ maxLen) (fun l => (l.map szEv).sum) :=
 (trz_slice trz_ev Tryd.underlying75 (by kernel_rfl) (by decide)).map id (fun _ => rfl) (fun _ h => h.1) (fun _ => Nat.le_refl _)
theorem trz_vars : TRZ Tryd.prog 76 1 (fun l : List Vr => [.isl 2 (l.map eVr)]) (fun l => l.length ≤ maxLen ∧ ∀ v ∈ l, v.name.size ≤ maxLen) (fun l => 3 * l.length) :=
 (trz_slice trz_var Tryd.underlying76 (by kernel_rfl) (by decide)).map id (fun _ => rfl) (fun _ h => h) (fun y => by show 3 * y.length ≤ _; rw [sum_threes]; exact Nat.le_refl _)
theorem trz_proc : TRZ Tryd.prog 78 3 ePr OkPr szPr :=
 (trz_struct Tryd.underlying78 (trzf_cons (TRZ.of tr_s) (by kernel_rfl) rfl (trzf_cons trz_vars (by kernel_rfl) rfl (trzf_cons trz_evs (by kernel_rfl) rfl trzf_nil)))).map
  (fun y => ⟨y.1, y.2.1, y.2.2.1⟩) (fun _ => rfl) (fun _ h => ⟨⟨h.1, h.2.1.2⟩, h.2.1.1, h.2.2.1⟩) (fun y => by unfold szPr; simp only; omega)
theorem trz_trace : TRZ Tryd.prog 24 1 (fun t : Tr => [eT t]) OkTr szT :=
 (trz_struct Tryd.underlying24 (trzf_cons (trz_slice trz_proc Tryd.underlying22 (by kernel_rfl) (by decide)) (by kernel_rfl) rfl trzf_nil)).map (fun y => y.1) (fun _ => rfl) (fun _ h => h.1) (fun y => by unfold szT; omega)
theorem sum_mem {α : Type} {f : α → Nat} : ∀ {l : List α} {x : α}, x ∈ l → f x ≤ (l.map f).sum
 | _ :: l, x, h => by
   rw [List.map_cons, List.sum_cons]
   rcases List.mem_cons.1 h with rfl | h
   ·omega
   ·have := sum_mem (f := f) h; omega
theorem sum_len {α : Type} {f : α → Nat} {c : Nat} (h1 : ∀ x, c ≤ f x) : ∀ (l : List α), c * l.length ≤ (l.map f).sum
 | [] => by simp
 | x :: l => by
   rw [List.map_cons, List.sum_cons, List.length_cons, Nat.mul_add]
   have := h1 x
   have := sum_len h1 l
   omega
theorem sum_le {α : Type} {f g : α → Nat} (h : ∀ x, f x ≤ g x) : ∀ l : List α, (l.map f).sum ≤ (l.map g).sum
 | [] => Nat.le_refl _
 | x :: l => by
   rw [List.map_cons, List.map_cons, List.sum_cons, List.sum_cons]
   have := h x
   have := sum_le h l
   omega
theorem sum_mul {α : Type} {f : α → Nat} {c : Nat} : ∀ l : List α, (l.map fun x => c * f x).sum = c * (l.map f).sum
 | [] => by simp
 | x :: l => by rw [List.map_cons, List.map_cons, List.sum_cons, List.sum_cons, sum_mul l, Nat.mul_add]
theorem ids_sum (t : Tr) : (ids t).length = (t.map fun p => p.evs.length).sum := by
 unfold ids
 rw [List.length_flatMap]
 congr 1
 refine List.ext_getElem (by simp) (fun i h1 h2 => ?_)
 rw [List.length_map, List.length_range] at h1
 rw [List.getElem_map, List.getElem_map, List.getElem_range]
 unfold idsOf evsOf
 rw [List.length_map, List.length_range, List.getD_eq_getElem?_getD, List.getElem?_eq_getElem h1]
 rfl
theorem szT_small {t : Tr} (h : szT t ≤ 1048576) : Small t ∧ (ids t).length ≤ 1000000 := by
 have hp : ∀ p ∈ t, szPr p ≤ 1048576 := fun p hp => Nat.le_trans (sum_mem (f := szPr) hp) h
 have hT := sum_len (f := szPr) (c := 2) (fun p => by unfold szPr; omega) t
 have hE : ∀ p : Pr, 5 * p.evs.length ≤ (p.evs.map szEv).sum := fun p => sum_len (f := szEv) (c := 5) (fun e => by unfold szEv; omega) p.evs
 have hI : 5 * (ids t).length ≤ szT t := by
  rw [ids_sum, ← sum_mul]
  exact sum_le (fun p => by have := hE p; unfold szPr; omega) t
 have hT' : (t.map szPr).sum = szT t := rfl
 refine ⟨⟨by omega, fun p hq => ?_, fun p hq => ?_, fun p hq e he => ?_⟩, by omega⟩
 ·have h1 := hp p hq; unfold szPr at h1; omega
 ·have h1 := hp p hq
  have := hE p
  unfold szPr at h1; omega
 ·have h1 := hp p hq
  have h2 := sum_mem (f := szEv) he
  have h3 : szEv e = 3 * e.asg.length + 5 := rfl
  unfold szPr at h1; omega
end Go.Proofs.YtnihdkfmmbpilaaDoor
