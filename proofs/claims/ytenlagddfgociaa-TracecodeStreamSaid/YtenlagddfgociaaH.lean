/- More general words: cuts of slices, each a value with its run equation. No condition. -/
import Derived.Test.YtenlagddfgociaaG
namespace Go.Proofs.Ytenlagddfgociaa
open Go.RowKit
set_option linter.unusedVariables false

section
variable {P : Program} {α : Type} {enc : α → Value} {w : World} {A : Option Addr} {n c : Nat} {xs : List α}
theorem Sl.len {v : Value} (h : Sl enc w v xs) : ∃ A c, v = .slice A xs.length c := by obtain ⟨A, c, hv, _⟩ := h.form; exact ⟨A, c, hv⟩
theorem Sl.nle (h : Sl enc w (.slice A n c) xs) : n = xs.length ∧ n ≤ c := by
  obtain ⟨_, _, hv, hl, _⟩ := h.form
  injection hv with _ h1 h2; subst h1; subst h2; exact ⟨rfl, hl⟩
/-- 's[l:h]', l ≤ h ≤ len(s): a value of its own. -/
theorem Sl.cutLH (h : Sl enc w (.slice A n c) xs) {t e : TypeId} {i : TypeInfo} (ht : P.underlying t = some (.slice e)) (hi : P.info? e = some i) (hs : i.size = 1) (l k : Nat) {lI kI : Int} (hlI : lI = l) (hkI : kI = k) (hl : l ≤ k) (hk : k ≤ n) :
    ∃ u, (∀ W, (Instr.sliceAt t (.slice A n c) (some (.int .i64 lI)) (some (.int .i64 kI)) none).run P W = .ok u W) ∧ Sl enc w u ((xs.take k).drop l) := by
  obtain ⟨hn, hc⟩ := h.nle
  subst hlI; subst hkI
  refine ⟨.slice (if c = l then A else A.map (·.add (l * 1))) (k - l) (c - l), fun W => ?_, ?_⟩
  · have b1 : ∀ (code : BoundsCode) (W : World), (Instr.sliceBound (.int .i64 (k : Int)) c code).run P W = .ok k W := fun code W => by
      rw [run_sliceBound W .i64 (k : Int) c code (by omega) (by omega)]; simp
    have b2 : ∀ (code : BoundsCode) (W : World), (Instr.sliceBound (.int .i64 (l : Int)) k code).run P W = .ok l W := fun code W => by
      rw [run_sliceBound W .i64 (l : Int) k code (by omega) (by omega)]; simp
    simp [Instr.sliceAt, Instr.slice, Instr.sliceBounds, run_underlying ht, sizeOf, typeInfo, hi, hs, b1, b2]
  · refine (h.take k hk).drop l hl (fun b off hA hlt => ?_)
    subst hA
    rw [if_neg (by omega)]
    simp [Addr.add]
/-- 's[l:]', l ≤ len(s). -/
theorem Sl.cutL (h : Sl enc w (.slice A n c) xs) {t e : TypeId} {i : TypeInfo} (ht : P.underlying t = some (.slice e)) (hi : P.info? e = some i) (hs : i.size = 1) (l : Nat) {lI : Int} (hlI : lI = l) (hl : l ≤ n) :
    ∃ u, (∀ W, (Instr.sliceAt t (.slice A n c) (some (.int .i64 lI)) none none).run P W = .ok u W) ∧ Sl enc w u (xs.drop l) := by
  obtain ⟨hn, hc⟩ := h.nle
  subst hlI
  refine ⟨.slice (if c = l then A else A.map (·.add (l * 1))) (n - l) (c - l), fun W => ?_, ?_⟩
  · have b2 : ∀ (code : BoundsCode) (W : World), (Instr.sliceBound (.int .i64 (l : Int)) n code).run P W = .ok l W := fun code W => by
      rw [run_sliceBound W .i64 (l : Int) n code (by omega) (by omega)]; simp
    simp [Instr.sliceAt, Instr.slice, Instr.sliceBounds, run_underlying ht, sizeOf, typeInfo, hi, hs, b2]
  · refine h.drop l hl (fun b off hA hlt => ?_)
    subst hA
    rw [if_neg (by omega)]
    simp [Addr.add]
end
/-- append onto a row without room: what is appended, in new memory. -/
theorem run_app0 {P : Program} {w : World} {α : Type} {enc : α → Value} {t e : TypeId} {z : Value} {bytes : Nat} (I : ElI P t e z bytes) (ty : TypeId)
    {ad : Addr} {u : Value} {ys : List α} (hu : Sl enc w u ys) (h63 : ys.length ≤ 1099511627776) (hby : bytes ≤ 24) :
    ∃ v' w', (Builtin.append_ #[t, t] ty #[.slice (some ad) 0 0, u]).run P w = .ok v' w' ∧ Sl enc w' v' ys ∧ Ext w w' := by
  obtain ⟨i, hi, hz, hs, hb⟩ := I.inf
  obtain ⟨A, c, hv, hl, hm, hc⟩ := hu.form
  have hbytes : (0 + ys.length) * bytes ≤ 140737488355328 := by
    calc (0 + ys.length) * bytes ≤ 1099511627776 * 24 := Nat.mul_le_mul (by omega) hby
      _ ≤ 140737488355328 := by decide
  subst hv
  by_cases h0 : 0 < ys.length
  · obtain ⟨b, off, hA, _, hcell⟩ := hc h0
    subst hA
    have hcells : ∀ j q, (ys.map enc)[j]? = some q → w.cell? ((⟨b, off, none⟩ : Addr).add j) = some q := by
      intro j q hq
      rw [List.getElem?_map] at hq
      cases hj : ys[j]? with
      | none => rw [hj] at hq; cases hq
      | some y =>
        rw [hj] at hq
        obtain ⟨hlt, rfl⟩ := List.getElem?_eq_some_iff.1 hj
        have e0 : (⟨b, off, none⟩ : Addr).add j = ⟨b, off + j, none⟩ := by unfold Addr.add; split <;> simp_all
        rw [e0, hcell j hlt]
        simpa using hq
    have hr := run_append_grow (P := P) w t ty e i z I.ht hi hz ad 0 0 [] (by simp) (by simp) ⟨b, off, none⟩ ys.length c (ys.map enc) (by simp [hs]) hcells (by omega) (by omega) (growslice_fits (by omega) (by rw [hb]; exact hbytes))
    refine ⟨_, _, hr, ?_, ((Ext.refl w).drew).alloc _⟩
    have hge := grownCap_ge w (0 + ys.length) 0 e
    have hcm : grownCap w (0 + ys.length) 0 e ≤ maxLen := grownCap_le_maxLen w (0 + ys.length) 0 e (by simp only [maxLen]; omega)
    refine Sl.mk (by omega) hge hcm (fun _ => ⟨w.heap.size, 0, rfl, fun j hj => ?_⟩)
    rw [World.cell?_alloc_at (w := w.drew) _ _ w.heap.size _ rfl]
    rw [Array.getElem?_append_left (by simp; omega)]
    simp [List.getElem?_eq_getElem hj]
  · have hx : ys = [] := List.eq_nil_of_length_eq_zero (by omega)
    subst hx
    refine ⟨.slice (some ad) 0 0, w, ?_, Sl.mk rfl (Nat.le_refl _) (by simp [maxLen]) (fun h => absurd h (by omega)), Ext.refl w⟩
    cases A <;> simp [Builtin.append_, run_underlying I.ht, sizeOf, typeInfo, hi, Builtin.lenOf, Builtin.firstCells, loadCells, loadCellsFrom, storeCells]
/-- The same in a region that draws. -/
theorem step_app0 {P : Program} {w : World} {ops : Array Oper} {o : Oper} {a : Act} {K : Act → World → Prop} {Q : Exit → Act → World → Prop} {E : Prop} (s x : Operand) {t : TypeId}
    {α : Type} {enc : α → Value} {e : TypeId} {z : Value} {bytes : Nat} (I : ElI P t e z bytes)
    (hgd : o.guard = none) (ho : o.op = .call { callee := .builtin .append, args := #[s, x], argTypes := #[t, t] })
    {ad : Addr} {u : Value} {ys : List α} (hs : a.eval s = .slice (some ad) 0 0) (hx : a.eval x = u) (hu : Sl enc w u ys) (h63 : ys.length ≤ 1099511627776) (hby : bytes ≤ 24)
    (h : ∀ v' w', Sl enc w' v' ys → Ext w w' → K (a.put o.dst v') w') : if Region.wanted o (yielded ops a.tmps) = true then Oper.wp P o a w K Q else E := by
  have hw : Region.wanted o (yielded ops a.tmps) = true := by simp [Region.wanted, hgd]
  rw [if_pos hw]
  obtain ⟨v', w', hrun, h2, h3⟩ := run_app0 (P := P) I o.type (ad := ad) hu h63 hby
  unfold Oper.wp execOp
  simp only [ho, resolve, invoke, builtin, Sem.run_bind, Sem.run_pure, Result.andThen_ok, List.map_toArray, List.map_cons, List.map_nil, hs, hx, hrun]
  exact h v' w' h2 h3
theorem wrap_addI (n k : Nat) (kI : Int) (hk : kI = k) (h : n + k ≤ 9223372036854775807) : IntKind.i64.wrap ((n : Int) + kI) = (n : Int) + kI ∧ ((n : Int) + kI).toNat = n + k ∧ 0 ≤ (n : Int) + kI := by
  subst hk
  refine ⟨?_, by omega, by omega⟩
  rw [IntKind.wrap_i64]; omega
end Go.Proofs.Ytenlagddfgociaa
