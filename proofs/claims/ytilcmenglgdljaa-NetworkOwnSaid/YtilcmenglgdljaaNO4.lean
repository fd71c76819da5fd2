/- Texts of one proof, laid together: N1, N2, N3, N4, N5. No condition. -/
import Derived.Test.YtilcmenglgdljaaNO2
import Derived.Test.YtilcmenglgdljaaProg
import Derived.KernelRfl
import Derived.Shelf.Spec.SlicesInsert
import Derived.Lib.AppendZerosOnto
namespace Go.Proofs.Ytilcmenglgdljaa
open Go.Lib Go.RowKit
set_option linter.unusedVariables false
set_option linter.unusedSimpArgs false
section
variable {P : Program} {w : World}
def spl (cur : Array Value) (p : Nat) (xs : List Value) : Array Value := (cur.toList.take p ++ xs ++ cur.toList.drop (p + xs.length)).toArray
theorem spl_size {cur : Array Value} {p : Nat} {xs : List Value} (h : p + xs.length ≤ cur.size) : (spl cur p xs).size = cur.size := by
 unfold spl
 simp only [List.size_toArray, List.length_append, List.length_take, List.length_drop, Array.length_toList]
 omega
theorem spl_get {cur : Array Value} {p : Nat} {xs : List Value} (h : p + xs.length ≤ cur.size) (i : Nat) : (spl cur p xs)[i]? = if p ≤ i ∧ i < p + xs.length then xs[i - p]? else cur[i]? := by
 unfold spl
 have := splice_get cur.toList xs p i (by simpa using h)
 simp only [List.getElem?_toArray]
 rw [this]
 simp
theorem run_copy_at {t u el ty : TypeId} {sz : Nat} (ht : P.underlying t = some (.slice el)) (hs : sizT P el = some sz) {blk p n c m : Nat} {vx : Value} {news cur : Array Value} {T : TypeId}
  (hl : (Builtin.lenOf vx).run P w = .ok m w) (hf : (Builtin.firstCells sz (min m n) vx).run P w = .ok news w) (hcur : w.heap[blk]? = some (.cells cur T (0, 0))) (hfit : p + news.size ≤ cur.size) (h1 : ∀ u ∈ news.toList, u.oneCell' = true) :
  (Builtin.copy_ #[t, u] ty #[.slice (some ⟨blk, p, none⟩) n c, vx]).run P w = .ok (goInt (min m n : Nat)) (w.setRow blk (spl cur p news.toList)) := by
 have hst := run_storeCells_at P blk p T news.toList 0 cur w hcur (by simpa using hfit) h1
 simp only [Nat.add_zero] at hst
 have hmin : Nat.min m n = min m n := rfl
 simp only [Builtin.copy_, run_underlying ht, run_sizeOf hs, hl, Sem.run_bind, Result.andThen_ok, hmin, hf, hst, Sem.run_pure, List.getElem?_toArray, List.getElem?_cons_zero, List.getElem?_cons_succ]
 rfl
structure InsPost (w : World) (b sz n : Nat) (N : Array Value) (e : Ending) (w' : World) : Prop where
 out : ∃ blk o cap cur T, e = .returned (.slice (some ⟨blk, o, none⟩) (n + 1) cap) ∧ w'.heap[blk]? = some (.cells cur T (0, 0)) ∧ n + 1 ≤ cap ∧ cap ≤ maxLen ∧ o + cap * sz ≤ cur.size ∧
  (∀ j v, N[j]? = some v → cur[o + j]? = some v) ∧ (blk = b ∨ w.heap.size ≤ blk) ∧ ∀ k, k < w.heap.size → k ≠ blk → w'.heap[k]? = w.heap[k]?
 os : w'.os = w.os
 tape : w'.tape = w.tape
 output : w'.output = w.output
 size : w.heap.size ≤ w'.heap.size
end
set_option maxHeartbeats 4000000 in
set_option maxRecDepth 100000 in
theorem insE1I_spec (b o n c vb vo vc : Nat) (cur X : Array Value) (T : TypeId) (w : World) (hb : w.heap[b]? = some (.cells cur T (0, 0))) (hroom : n + 1 ≤ c) (hc : c ≤ maxLen) (hfit : o + c * 1 ≤ cur.size)
  (hX : X.size = 1) (hXc : ∀ j u, X[j]? = some u → w.cell? ⟨vb, vo + j, none⟩ = some u) (hX1 : ∀ u ∈ X.toList, u.oneCell' = true) (O : Array Value) (hO : O.size = n * 1) (hOc : ∀ j u, O[j]? = some u → cur[o + j]? = some u) :
  Calls Try.prog 97 #[.slice (some ⟨b, o, none⟩) n c, .int .i64 n, .slice (some ⟨vb, vo, none⟩) 1 vc] w fun e w' => InsPost w b 1 n (O ++ X) e w' := by
 have ht := Try.underlying32
 have hs : sizT Try.prog 3 = some 1 := by kernel_rfl
 have hfc : (Builtin.firstCells 1 1 (.slice (some ⟨vb, vo, none⟩) 1 vc)).run Try.prog w = .ok X w := by
  have := firstCells_at (P := Try.prog) (w := w) (sz := 1) (n := 1) (len := 1) (cap := vc) hXc oM (w2 := w) rfl
  rwa [show 1 * 1 = X.size by omega, Array.extract_size] at this
 obtain ⟨W1, hW1⟩ : ∃ W1, w.setRow b (spl cur (o + n * 1) X.toList) = W1 := ⟨_, rfl⟩
 have hrun : ∀ ty, (Builtin.append_ #[32, 32] ty #[.slice (some ⟨b, o, none⟩) n c, .slice (some ⟨vb, vo, none⟩) 1 vc]).run Try.prog w = .ok (.slice (some ⟨b, o, none⟩) (n + 1) c) W1 := fun ty => by
  rw [← hW1]
  exact run_append_at (sz := 1) (m := 1) (vx := .slice (some ⟨vb, vo, none⟩) 1 vc) (news := X) ht ht rfl hs (by simp [Builtin.lenOf]) hfc oM hroom hb oM hX1
 go_enter Try.func97, Try.ntmps97
 go_wp2_with (at_builtin; refine Lib.wpList_append_run _ rfl _ _ _ _ rfl _ _ rfl rfl _ _ (hrun _) ?_)
 go_ret
 subst hW1
 have hsz := spl_size (cur := cur) (p := o + n * 1) (xs := X.toList) (by simp; omega)
 refine ⟨⟨b, o, c, _, T, rfl, setRow_heap w b cur _ T _ hb, hroom, hc, by rw [hsz]; exact hfit, fun j v hj => ?_, .inl rfl, fun k _ hk => setRow_other w b k _ hk⟩, rfl, rfl, rfl, by simp [World.setRow]⟩
 rw [spl_get (by simp; omega)]
 by_cases hjn : j < n * 1
 ·rw [if_neg oM]
  rw [Array.getElem?_append_left oM] at hj
  exact hOc j v hj
 ·rw [Array.getElem?_append_right oM, hO] at hj
  have hjl := (Array.getElem?_eq_some_iff.1 hj).1
  rw [if_pos (by simp; omega), show o + j - (o + n * 1) = j - n * 1 by omega]
  simpa using hj
set_option maxHeartbeats 4000000 in
set_option maxRecDepth 100000 in
theorem insE2I_spec (b n c vb vo vc : Nat) (base : Option Addr) (X : Array Value) (w : World) (hroom : c < n + 1) (hn : n ≤ 1000000) (hX : X.size = 1) (hXc : ∀ j u, X[j]? = some u → w.cell? ⟨vb, vo + j, none⟩ = some u) (hX1 : ∀ u ∈ X.toList, u.oneCell' = true)
  (O : Array Value) (hO : O.size = n * 1) (hOf : (Builtin.firstCells 1 n (.slice base n c)).run Try.prog w.drew = .ok O w.drew) :
  Calls Try.prog 97 #[.slice base n c, .int .i64 n, .slice (some ⟨vb, vo, none⟩) 1 vc] w fun e w' => InsPost w b 1 n (O ++ X) e w' := by
 have ht := Try.underlying32
 have hs : sizT Try.prog 3 = some 1 := by kernel_rfl
 have hby : bytT Try.prog 3 = some 8 := by kernel_rfl
 have hz : zeroT Try.prog 3 = some [.v (.int .i64 0)] := by kernel_rfl
 obtain ⟨i, zv, hi, hzz, hzc⟩ := zeroT_spec hz
 have hbz : i.bytes = 8 := by simp [bytT, hi] at hby; exact hby
 have hfc : (Builtin.firstCells 1 1 (.slice (some ⟨vb, vo, none⟩) 1 vc)).run Try.prog w.drew = .ok X w.drew := by
  have := firstCells_at (P := Try.prog) (w := w) (sz := 1) (n := 1) (len := 1) (cap := vc) hXc oM (w2 := w.drew) rfl
  rwa [show 1 * 1 = X.size by omega, Array.extract_size] at this
 obtain ⟨W1, hW1⟩ : ∃ W1, w.drew.alloc (.cells (O ++ X ++ Builtin.zeroCells zv.cells (grownCap w (n + 1) c 3 - (n + 1))) 3) = W1 := ⟨_, rfl⟩
 obtain ⟨G, hG⟩ : ∃ G, grownCap w (n + 1) c 3 = G := ⟨_, rfl⟩
 have hrun : ∀ ty, (Builtin.append_ #[32, 32] ty #[.slice base n c, .slice (some ⟨vb, vo, none⟩) 1 vc]).run Try.prog w = .ok (.slice (some ⟨w.heap.size, 0, none⟩) (n + 1) G) W1 := fun ty => by
  rw [← hW1, ← hG]
  exact run_append_new (sz := 1) (m := 1) (vx := .slice (some ⟨vb, vo, none⟩) 1 vc) (news := X) (olds := O) ht ht rfl hs hi hzz hbz (by simp [Builtin.lenOf]) hfc hOf hroom oM oM (by decide)
 have hge := grownCap_ge w (n + 1) c 3
 have hcm : grownCap w (n + 1) c 3 ≤ maxLen := grownCap_le_maxLen w _ c _ (by unfold maxLen; omega)
 have hzl : zv.cells.size = 1 := by
  obtain ⟨c1, c2⟩ := cvL_rep (w := w) (F := fun _ => False) (L := fun _ _ => none) hzc
  have := c1.1; simp at this; omega
 have fin : InsPost w b 1 n (O ++ X) (.returned (.slice (some ⟨w.heap.size, 0, none⟩) (n + 1) G)) W1 := by
  rw [← hW1, ← hG]
  refine ⟨⟨w.heap.size, 0, _, _, _, rfl, heap_alloc_new w.drew _, hge, hcm, ?_, fun j v hj => ?_, .inr (Nat.le_refl _), fun k hk _ => heap_alloc_old w.drew _ hk⟩, rfl, rfl, rfl, by simp⟩
  ·rw [Array.size_append, Array.size_append, size_zeroCells, hO, hX, hzl, Nat.zero_add, ← Nat.add_one_mul, ← Nat.add_mul]
   exact Nat.mul_le_mul_right _ oM
  ·rw [Nat.zero_add, Array.getElem?_append_left (Array.getElem?_eq_some_iff.1 hj).1]
   exact hj
 go_enter Try.func97, Try.ntmps97
 cases base with
 | none =>
   go_wp2_with (at_builtin; refine Lib.wpList_append_run _ rfl _ _ _ _ rfl _ _ rfl rfl _ _ (hrun _) ?_)
   all_goals (go_ret; exact fin)
 | some a =>
   obtain ⟨ab, ao, asp⟩ := a
   go_wp2_with (at_builtin; refine Lib.wpList_append_run _ rfl _ _ _ _ rfl _ _ rfl rfl _ _ (hrun _) ?_)
   all_goals (go_ret; exact fin)
set_option maxHeartbeats 4000000 in
set_option maxRecDepth 100000 in
theorem insGI_spec (b o n c i vb vo vc : Nat) (cur X : Array Value) (T : TypeId) (w : World) (hb : w.heap[b]? = some (.cells cur T (0, 0))) (hi : i < n) (hnc : n ≤ c) (hroom : c < n + 1) (hn : n ≤ 1000000) (hX : X.size = 1) (hXc : ∀ j u, X[j]? = some u → w.cell? ⟨vb, vo + j, none⟩ = some u) (hX1 : ∀ u ∈ X.toList, u.oneCell' = true)
  (O : Array Value) (hO : O.size = n * 1) (hOc : ∀ j u, O[j]? = some u → w.cell? ⟨b, o + j, none⟩ = some u) (hO1 : ∀ u ∈ O.toList, u.oneCell' = true) :
  Calls Try.prog 97 #[.slice (some ⟨b, o, none⟩) n c, .int .i64 i, .slice (some ⟨vb, vo, none⟩) 1 vc] w fun e w' => InsPost w b 1 n (O.extract 0 (i * 1) ++ X ++ O.extract (i * 1) (n * 1)) e w' := by
 have ht := Try.underlying32
 have hti := Try.underlying3
 have hs : sizT Try.prog 3 = some 1 := by kernel_rfl
 have hby : bytT Try.prog 3 = some 8 := by kernel_rfl
 have hz : zeroT Try.prog 3 = some [.v (.int .i64 0)] := by kernel_rfl
 obtain ⟨inf, zv, hinf, hzz, hzc⟩ := zeroT_spec hz
 have hbz : inf.bytes = 8 := by simp [bytT, hinf] at hby; exact hby
 have hsz : inf.size = 1 := by simp [sizT, hinf] at hs; exact hs
 have hzl : zv.cells.size = 1 := by
  obtain ⟨c1, c2⟩ := cvL_rep (w := w) (F := fun _ => False) (L := fun _ _ => none) hzc
  have := c1.1; simp at this; omega
 have hbw : b < w.heap.size := (Array.getElem?_eq_some_iff.1 hb).1
 have hx0 : X[0]? = some X[0] := Array.getElem?_eq_getElem oM
 have hvw : vb < w.heap.size := block_lt_of_cell (hXc 0 _ hx0)
 have hold : (Builtin.firstCells inf.size i (.slice (some ⟨b, o, none⟩) i c)).run Try.prog w.drew = .ok (O.extract 0 (i * 1)).toList.toArray w.drew := by
  rw [hsz, Array.toArray_toList]
  exact firstCells_at (P := Try.prog) (w := w) (sz := 1) (n := i) (len := i) (cap := c) hOc oM (w2 := w.drew) rfl
 have hge := grownCap_ge w (n + 1) c 3
 have hcm : grownCap w (n + 1) c 3 ≤ maxLen := grownCap_le_maxLen w _ c _ (by unfold maxLen; omega)
 have hG63 := hcm
 unfold maxLen at hG63
 obtain ⟨G, hG⟩ : ∃ G, grownCap w (n + 1) c 3 = G := ⟨_, rfl⟩
 obtain ⟨ROW, hROW⟩ : ∃ ROW : Array Value, (O.extract 0 (i * 1)).toList.toArray ++ Builtin.zeroCells zv.cells (n + 1 - i) ++ Builtin.zeroCells zv.cells (G - (n + 1)) = ROW := ⟨_, rfl⟩
 obtain ⟨W1, hW1⟩ : ∃ W1, w.drew.alloc (.cells ROW 3) = W1 := ⟨_, rfl⟩
 have hik : i + (n + 1 - i) = n + 1 := by omega
 have hkk : (n : Int) + 1 - (i : Int) = ((n + 1 - i : Nat) : Int) := by omega
 have hrz : ∀ ty, (Builtin.append_ #[32, 3] ty #[.slice (some ⟨b, o, none⟩) i c, .int .i64 ((n : Int) + 1 - (i : Int))]).run Try.prog w = .ok (.slice (some ⟨w.heap.size, 0, none⟩) (n + 1) G) W1 := fun ty => by
  have h := Lib.run_append_grow_zeros w 32 3 ty 3 inf zv .i64 .i64 ht hti hinf hzz (some ⟨b, o, none⟩) i c _ hold (n + 1 - i) oM oM oM oM (by rw [hbz]; omega) (by rw [hbz, hik]; exact growslice_fits hroom oM)
  rw [hik] at h
  rw [hkk, h, ← hW1, ← hROW, ← hG]
 rw [hG] at hge hcm hG63
 have hRs : ROW.size = G * 1 := by
  rw [← hROW, Array.size_append, Array.size_append, size_zeroCells, size_zeroCells, hzl, List.size_toArray, Array.length_toList, Array.size_extract, hO]
  have : min (i * 1) (n * 1) - 0 = i * 1 := by omega
  rw [this, ← Nat.add_mul, ← Nat.add_mul]
  congr 1; omega
 have hRow1 : W1.heap[w.heap.size]? = some (.cells ROW 3 (0, 0)) := by rw [← hW1]; exact heap_alloc_new w.drew _
 have hOld1 : ∀ k, k < w.heap.size → W1.heap[k]? = w.heap[k]? := fun k hk => by rw [← hW1]; exact heap_alloc_old w.drew _ hk
 have hsz1 : W1.heap.size = w.heap.size + 1 := by rw [← hW1]; simp
 have hX1c : ∀ j u, X[j]? = some u → W1.cell? ⟨vb, vo + j, none⟩ = some u := fun j u hj => by
  have := hXc j u hj
  rwa [← World.cell?_of_block (hOld1 vb hvw)] at this
 have hfx : (Builtin.firstCells 1 (min 1 (n + 1 - i)) (.slice (some ⟨vb, vo, none⟩) 1 vc)).run Try.prog W1 = .ok X W1 := by
  have h1 : min 1 (n + 1 - i) = 1 := by omega
  rw [h1]
  have := firstCells_at (P := Try.prog) (w := W1) (sz := 1) (n := 1) (len := 1) (cap := vc) hX1c oM (w2 := W1) rfl
  rwa [show 1 * 1 = X.size by omega, Array.extract_size] at this
 obtain ⟨W2, hW2⟩ : ∃ W2, W1.setRow w.heap.size (spl ROW (i) X.toList) = W2 := ⟨_, rfl⟩
 have hmn1 : min 1 (n + 1 - i) = 1 := by omega
 have hGm : (i + 1) * 1 + (n - i) * 1 ≤ G * 1 := by rw [← Nat.add_mul]; exact Nat.mul_le_mul_right _ oM
 have hXl : X.toList.length = 1 := by simpa using hX
 have hcpA : ∀ ty dc, (Builtin.copy_ #[32, 32] ty #[.slice (some ⟨w.heap.size, i, none⟩) (n + 1 - i) dc, .slice (some ⟨vb, vo, none⟩) 1 vc]).run Try.prog W1 = .ok (goInt (1 : Nat)) W2 := fun ty dc => by
  have := run_copy_at (P := Try.prog) (w := W1) (t := 32) (u := 32) (ty := ty) ht hs (blk := w.heap.size) (p := i) (n := n + 1 - i) (c := dc) (m := 1) (vx := .slice (some ⟨vb, vo, none⟩) 1 vc) (by simp [Builtin.lenOf]) hfx hRow1 (by rw [hX, hRs]; omega) hX1
  rw [hmn1, hW2] at this
  exact this
 obtain ⟨R, hR⟩ : ∃ R, O.extract (i * 1) (n * 1) = R := ⟨_, rfl⟩
 have hRl : R.size = (n - i) * 1 := by rw [← hR, Array.size_extract, hO, Nat.sub_mul]; omega
 have hR1 : ∀ u ∈ R.toList, u.oneCell' = true := fun u hu => hO1 u (by
  rw [← hR, Array.toList_extract] at hu
  exact List.mem_of_mem_drop (List.mem_of_mem_take hu))
 have hRg : ∀ j u, R[j]? = some u → O[i * 1 + j]? = some u := fun j u hj => by
  rw [← hR, Array.getElem?_extract] at hj
  split at hj
  ·exact hj
  ·cases hj
 have hcur2 : W2.heap[w.heap.size]? = some (.cells (spl ROW (i) X.toList) 3 (0, 0)) := by rw [← hW2]; exact setRow_heap W1 _ ROW _ _ _ hRow1
 have hOld2 : ∀ k, k < w.heap.size → W2.heap[k]? = w.heap[k]? := fun k hk => by rw [← hW2, setRow_other W1 _ k _ oM]; exact hOld1 k hk
 have hR2c : ∀ j u, R[j]? = some u → W2.cell? ⟨b, (o + i) + j, none⟩ = some u := fun j u hj => by
  have := hOc _ u (hRg j u hj)
  rw [← World.cell?_of_block (hOld2 b hbw)] at this
  rwa [show o + (i * 1 + j) = o + i + j by omega] at this
 have hmn2 : min (n - i) (n + 1 - (i + 1)) = n - i := by omega
 have hfr : (Builtin.firstCells 1 (min (n - i) (n + 1 - (i + 1))) (.slice (some ⟨b, o + i, none⟩) (n - i) (c - i))).run Try.prog W2.drew = .ok R W2.drew := by
  rw [hmn2]
  have := firstCells_at (P := Try.prog) (w := W2) (sz := 1) (n := n - i) (len := n - i) (cap := c - i) hR2c oM (w2 := W2.drew) rfl
  rwa [show (n - i) * 1 = R.size by omega, Array.extract_size] at this
 have hss := spl_size (cur := ROW) (p := i) (xs := X.toList) (by rw [hXl, hRs]; omega)
 obtain ⟨W3, hW3⟩ : ∃ W3, W2.drew.setRow w.heap.size (spl (spl ROW (i) X.toList) ((i + 1)) R.toList) = W3 := ⟨_, rfl⟩
 have hcpB : ∀ ty dc, (Builtin.copy_ #[32, 32] ty #[.slice (some ⟨w.heap.size, (i + 1), none⟩) (n + 1 - (i + 1)) dc, .slice (some ⟨b, o + i, none⟩) (n - i) (c - i)]).run Try.prog W2.drew = .ok (goInt (n - i : Nat)) W3 := fun ty dc => by
  have := run_copy_at (P := Try.prog) (w := W2.drew) (t := 32) (u := 32) (ty := ty) ht hs (blk := w.heap.size) (p := (i + 1)) (n := n + 1 - (i + 1)) (c := dc) (m := n - i) (vx := .slice (some ⟨b, o + i, none⟩) (n - i) (c - i)) (by simp [Builtin.lenOf]) hfr hcur2 (by rw [hRl, hss, hRs]; omega) hR1
  rw [hmn2, hW3] at this
  exact this
 have hz2 : ¬ ((i : Int) = (n : Int)) := by omega
 have hz3 : (c : Int) < (n : Int) + 1 := by omega
 have hw1 : IntKind.i64.wrap ((i : Int) + 1) = (i : Int) + 1 := by rw [IntKind.wrap_i64]; omega
 have hw2 : IntKind.i64.wrap ((n : Int) + 1) = (n : Int) + 1 := by rw [IntKind.wrap_i64]; omega
 have hb1 : (0 : Int) ≤ (i : Int) + 1 := by omega
 have hin : i ≤ n := by omega
 have htn : ((i : Int) + 1).toNat = i + 1 := by omega
 have hb3 : (i : Int) ≤ (n : Int) := by omega
 have hGi : ¬ (G = i) := by omega
 have hGim : ¬ (G = i + 1) := by omega
 have hci : ¬ (c = i) := by omega
 have hRlen : R.toList.length = (n - i) * 1 := by simpa using hRl
 have fin : InsPost w b 1 n (O.extract 0 (i * 1) ++ X ++ R) (.returned (.slice (some ⟨w.heap.size, 0, none⟩) (n + 1) G)) W3 := by
  refine ⟨⟨w.heap.size, 0, G, _, _, rfl, by rw [← hW3]; exact setRow_heap W2.drew _ _ _ _ _ hcur2, hge, hcm, ?_, fun j v hj => ?_, .inr (Nat.le_refl _), fun k hk _ => by rw [← hW3, setRow_other W2.drew _ k _ oM]; exact hOld2 k hk⟩, ?_, ?_, ?_, ?_⟩
  ·rw [spl_size (by rw [hRlen, hss, hRs]; omega), hss, hRs]; omega
  ·rw [Nat.zero_add, spl_get (by rw [hRlen, hss, hRs]; omega), hRlen]
   have hA : (O.extract 0 (i * 1)).size = i * 1 := by rw [Array.size_extract, hO]; omega
   by_cases h1 : j < i * 1
   ·rw [if_neg oM, spl_get (by rw [hXl, hRs]; omega), if_neg oM]
    rw [Array.getElem?_append_left (by rw [Array.size_append]; omega), Array.getElem?_append_left oM] at hj
    rw [← hROW, Array.getElem?_append_left (by rw [Array.size_append, List.size_toArray, Array.length_toList]; omega), Array.getElem?_append_left (by rw [List.size_toArray, Array.length_toList]; omega), Array.toArray_toList]
    exact hj
   ·by_cases h2 : j < i * 1 + 1
    ·rw [if_neg oM, spl_get (by rw [hXl, hRs]; omega), hXl, if_pos oM]
     rw [Array.getElem?_append_left (by rw [Array.size_append]; omega), Array.getElem?_append_right oM, hA] at hj
     simpa using hj
    ·rw [Array.getElem?_append_right (by rw [Array.size_append]; omega), Array.size_append, hA, hX] at hj
     have hjl := (Array.getElem?_eq_some_iff.1 hj).1
     rw [if_pos oM, show j - (i + 1) = j - (i * 1 + 1) by omega]
     simpa using hj
  ·rw [← hW3, ← hW2, ← hW1]; rfl
  ·rw [← hW3, ← hW2, ← hW1]; rfl
  ·rw [← hW3, ← hW2, ← hW1]; rfl
  ·rw [← hW3, ← hW2, ← hW1]; simp [World.setRow]
 have mixed : Try.prog.follows Departure.mixedOrders = true := by kernel_rfl
 rw [hR]
 clear hROW hG hRs hold hcur2 hRow1 hss hW1 hW2 hW3 hik hkk
 go_enter Try.func97, Try.ntmps97
 go_wp2_with (first
  | (at_builtin; refine Lib.wpList_append_run _ rfl _ _ _ _ rfl _ _ rfl rfl _ _ (hrz _) ?_)
  | (at_builtin; refine wpList_copy_runI _ rfl _ _ 32 32 rfl _ _ rfl rfl (hcpA _ _) ?_))
 go_region_law_o (refine step_copy_runI rfl _ _ 32 32 rfl (.slice (some ⟨w.heap.size, (i + 1), none⟩) (n + 1 - (i + 1)) (G - (i + 1))) (.slice (some ⟨b, o + i, none⟩) (n - i) (c - i)) (by simp [Act.eval, Act.put]) (by simp [Act.eval, Act.put]) (hcpB 3 (G - (i + 1))) ?_)
 go_wp2
 go_ret
 exact fin
set_option maxHeartbeats 4000000 in
set_option maxRecDepth 100000 in
theorem insSI_spec (b o n c i vb vo vc : Nat) (cur X curv : Array Value) (T Tv : TypeId) (w : World) (hb : w.heap[b]? = some (.cells cur T (0, 0))) (hvb : w.heap[vb]? = some (.cells curv Tv (0, 0))) (hne : vb ≠ b) (hi : i < n) (hroom : n + 1 ≤ c) (hc : c ≤ maxLen) (hfit : o + c * 1 ≤ cur.size) (hn : n ≤ 1000000) (hX : X.size = 1) (hXc : ∀ j u, X[j]? = some u → curv[vo + j]? = some u) (hX1 : ∀ u ∈ X.toList, u.oneCell' = true)
  (O : Array Value) (hO : O.size = n * 1) (hOc : ∀ j u, O[j]? = some u → cur[o + j]? = some u) (hO1 : ∀ u ∈ O.toList, u.oneCell' = true) :
  Calls Try.prog 97 #[.slice (some ⟨b, o, none⟩) n c, .int .i64 i, .slice (some ⟨vb, vo, none⟩) 1 vc] w fun e w' => InsPost w b 1 n (O.extract 0 (i * 1) ++ X ++ O.extract (i * 1) (n * 1)) e w' := by
 have ht := Try.underlying32
 have hs : sizT Try.prog 3 = some 1 := by kernel_rfl
 have hc63 := hc
 unfold maxLen at hc63
 have hcm : (n + 1) * 1 ≤ c * 1 := Nat.mul_le_mul_right _ hroom
 have hcurs : 0 < cur.size := by omega
 have hov : ∀ lb cb, (callFunc 141 #[.slice (some ⟨vb, vo, none⟩) 1 vc, .slice (some ⟨b, o + (i + 1), none⟩) lb cb]).run Try.prog w = .ok (.value (.bool false)) w := fun lb cb => by
  rw [run_callFunc_extern Try.func141 (by kernel_rfl) (by kernel_rfl) (by kernel_rfl) (e := Extern.SlicesOverlaps.overlaps #[32, 32] #[4]) (by kernel_rfl),
   Lib.run_overlaps_apart w 32 4 3 ht 1 (fun w => run_sizeOf hs) ⟨vb, vo, none⟩ ⟨b, o + (i + 1), none⟩ 1 vc lb cb hne Tv T curv.size cur.size (by simp [World.shape?, hvb]) (by simp [World.shape?, hb]) oM (by simp [World.frozen?, hvb]) (by simp [World.frozen?, hvb])]
  rfl
 obtain ⟨R, hR⟩ : ∃ R, O.extract (i * 1) (n * 1) = R := ⟨_, rfl⟩
 have hRl : R.size = (n - i) * 1 := by rw [← hR, Array.size_extract, hO, Nat.sub_mul]; omega
 have hR1 : ∀ u ∈ R.toList, u.oneCell' = true := fun u hu => hO1 u (by
  rw [← hR, Array.toList_extract] at hu
  exact List.mem_of_mem_drop (List.mem_of_mem_take hu))
 have hRg : ∀ j u, R[j]? = some u → O[i * 1 + j]? = some u := fun j u hj => by
  rw [← hR, Array.getElem?_extract] at hj
  split at hj
  ·exact hj
  ·cases hj
 have hRlen : R.toList.length = (n - i) * 1 := by simpa using hRl
 have hXl : X.toList.length = 1 := by simpa using hX
 have hmn2 : min (n + 1 - i) (n + 1 - (i + 1)) = n - i := by omega
 have hR2c : ∀ j u, R[j]? = some u → w.cell? ⟨b, (o + i) + j, none⟩ = some u := fun j u hj => by
  have := hOc _ u (hRg j u hj)
  simp only [World.cell?, hb]
  rw [show o + i + j = o + (i * 1 + j) by omega]
  exact this
 have hfr : ∀ sc, (Builtin.firstCells 1 (min (n + 1 - i) (n + 1 - (i + 1))) (.slice (some ⟨b, o + i, none⟩) (n + 1 - i) sc)).run Try.prog w.drew = .ok R w.drew := fun sc => by
  rw [hmn2]
  have := firstCells_at (P := Try.prog) (w := w) (sz := 1) (n := n - i) (len := n + 1 - i) (cap := sc) hR2c oM (w2 := w.drew) rfl
  rwa [show (n - i) * 1 = R.size by omega, Array.extract_size] at this
 have hmm : (i + 1) * 1 + (n - i) * 1 = (n + 1) * 1 := by rw [← Nat.add_mul]; congr 1; omega
 have hs1 := spl_size (cur := cur) (p := o + (i + 1)) (xs := R.toList) (by rw [hRlen]; omega)
 obtain ⟨W1, hW1⟩ : ∃ W1, w.drew.setRow b (spl cur (o + (i + 1)) R.toList) = W1 := ⟨_, rfl⟩
 have hcp1 : ∀ ty dc sc, (Builtin.copy_ #[32, 32] ty #[.slice (some ⟨b, o + (i + 1), none⟩) (n + 1 - (i + 1)) dc, .slice (some ⟨b, o + i, none⟩) (n + 1 - i) sc]).run Try.prog w.drew = .ok (goInt (n - i : Nat)) W1 := fun ty dc sc => by
  have := run_copy_at (P := Try.prog) (w := w.drew) (t := 32) (u := 32) (ty := ty) ht hs (blk := b) (p := o + (i + 1)) (n := n + 1 - (i + 1)) (c := dc) (m := n + 1 - i) (vx := .slice (some ⟨b, o + i, none⟩) (n + 1 - i) sc) (by simp [Builtin.lenOf]) (hfr sc) hb (by rw [hRl]; omega) hR1
  rw [hmn2, hW1] at this
  exact this
 have hcur1 : W1.heap[b]? = some (.cells (spl cur (o + (i + 1)) R.toList) T (0, 0)) := by rw [← hW1]; exact setRow_heap w.drew _ cur _ _ _ hb
 have hOld1 : ∀ k, k ≠ b → W1.heap[k]? = w.heap[k]? := fun k hk => by rw [← hW1, setRow_other w.drew _ k _ hk]; rfl
 have hX1c : ∀ j u, X[j]? = some u → W1.cell? ⟨vb, vo + j, none⟩ = some u := fun j u hj => by
  have := hXc j u hj
  simp only [World.cell?, hOld1 vb hne, hvb]
  exact this
 have hmn1 : min 1 (n + 1 - i) = 1 := by omega
 have hfx : (Builtin.firstCells 1 (min 1 (n + 1 - i)) (.slice (some ⟨vb, vo, none⟩) 1 vc)).run Try.prog W1 = .ok X W1 := by
  rw [hmn1]
  have := firstCells_at (P := Try.prog) (w := W1) (sz := 1) (n := 1) (len := 1) (cap := vc) hX1c oM (w2 := W1) rfl
  rwa [show 1 * 1 = X.size by omega, Array.extract_size] at this
 obtain ⟨W2, hW2⟩ : ∃ W2, W1.setRow b (spl (spl cur (o + (i + 1)) R.toList) (o + i) X.toList) = W2 := ⟨_, rfl⟩
 have hcp2 : ∀ ty dc, (Builtin.copy_ #[32, 32] ty #[.slice (some ⟨b, o + i, none⟩) (n + 1 - i) dc, .slice (some ⟨vb, vo, none⟩) 1 vc]).run Try.prog W1 = .ok (goInt (1 : Nat)) W2 := fun ty dc => by
  have := run_copy_at (P := Try.prog) (w := W1) (t := 32) (u := 32) (ty := ty) ht hs (blk := b) (p := o + i) (n := n + 1 - i) (c := dc) (m := 1) (vx := .slice (some ⟨vb, vo, none⟩) 1 vc) (by simp [Builtin.lenOf]) hfx hcur1 (by rw [hX, hs1]; omega) hX1
  rw [hmn1, hW2] at this
  exact this
 have hz2 : ¬ ((i : Int) = (n : Int)) := by omega
 have hz3 : ¬ ((c : Int) < (n : Int) + 1) := by omega
 have hw1 : IntKind.i64.wrap ((i : Int) + 1) = (i : Int) + 1 := by rw [IntKind.wrap_i64]; omega
 have hw2 : IntKind.i64.wrap ((n : Int) + 1) = (n : Int) + 1 := by rw [IntKind.wrap_i64]; omega
 have hb1 : (0 : Int) ≤ (i : Int) + 1 := by omega
 have hb0 : (0 : Int) ≤ (n : Int) + 1 := by omega
 have hin : i ≤ n := by omega
 have htn : ((i : Int) + 1).toNat = i + 1 := by omega
 have htn2 : ((n : Int) + 1).toNat = n + 1 := by omega
 have hb2 : ¬ (c = i + 1) := by omega
 have hb3 : (i : Int) ≤ (n : Int) + 1 := by omega
 have hb4 : ¬ (c = i) := by omega
 have hb5 : (i : Int) + 1 ≤ (n : Int) + 1 := by omega
 have hb6 : (n : Int) + 1 ≤ (c : Int) := by omega
 have fin : InsPost w b 1 n (O.extract 0 (i * 1) ++ X ++ R) (.returned (.slice (some ⟨b, o, none⟩) (n + 1) c)) W2 := by
  refine ⟨⟨b, o, c, _, T, rfl, by rw [← hW2]; exact setRow_heap W1 _ _ _ _ _ hcur1, hroom, hc, ?_, fun j v hj => ?_, .inl rfl, fun k _ hk => by rw [← hW2, setRow_other W1 _ k _ hk]; exact hOld1 k hk⟩, ?_, ?_, ?_, ?_⟩
  ·rw [spl_size (by rw [hXl, hs1]; omega), hs1]; exact hfit
  ·have hA : (O.extract 0 (i * 1)).size = i * 1 := by rw [Array.size_extract, hO]; omega
   rw [spl_get (by rw [hXl, hs1]; omega), hXl]
   by_cases h1 : j < i * 1
   ·rw [if_neg oM, spl_get (by rw [hRlen]; omega), if_neg oM]
    rw [Array.getElem?_append_left (by rw [Array.size_append]; omega), Array.getElem?_append_left oM, Array.getElem?_extract] at hj
    split at hj
    ·refine hOc j v ?_
     simpa using hj
    ·cases hj
   ·by_cases h2 : j < i * 1 + 1
    ·rw [if_pos oM]
     rw [Array.getElem?_append_left (by rw [Array.size_append]; omega), Array.getElem?_append_right oM, hA] at hj
     rw [show o + j - (o + i) = j - i * 1 by omega]
     simpa using hj
    ·rw [if_neg oM, spl_get (by rw [hRlen]; omega), hRlen]
     rw [Array.getElem?_append_right (by rw [Array.size_append]; omega), Array.size_append, hA, hX] at hj
     have hjl := (Array.getElem?_eq_some_iff.1 hj).1
     rw [if_pos oM, show o + j - (o + (i + 1)) = j - (i * 1 + 1) by omega]
     simpa using hj
  ·rw [← hW2, ← hW1]; rfl
  ·rw [← hW2, ← hW1]; rfl
  ·rw [← hW2, ← hW1]; rfl
  ·rw [← hW2, ← hW1]; simp [World.setRow]
 have mixed : Try.prog.follows Departure.mixedOrders = true := by kernel_rfl
 rw [hR]
 clear hcur1 hs1 hW1 hW2 hcurs hcm hmm
 go_enter Try.func97, Try.ntmps97
 go_wp2_with (simp only [hov])
 go_region_law_o (refine step_copy_runI rfl _ _ 32 32 rfl (.slice (some ⟨b, o + (i + 1), none⟩) (n + 1 - (i + 1)) (c - (i + 1))) (.slice (some ⟨b, o + i, none⟩) (n + 1 - i) (c - i)) (by simp [Act.eval, Act.put]) (by simp [Act.eval, Act.put]) (hcp1 3 (c - (i + 1)) (c - i)) ?_)
 go_wp2_with (at_builtin; refine wpList_copy_runI _ rfl _ _ 32 32 rfl _ _ rfl rfl (hcp2 _ _) ?_)
 go_ret
 exact fin
end Go.Proofs.Ytilcmenglgdljaa
namespace Go.Proofs.Ytilcmenglgdljaa
open Go.Lib Go.RowKit
set_option linter.unusedVariables false
set_option linter.unusedSimpArgs false
set_option maxHeartbeats 4000000 in
set_option maxRecDepth 100000 in
theorem insE1M_spec (b o n c vb vo vc : Nat) (cur X : Array Value) (T : TypeId) (w : World) (hb : w.heap[b]? = some (.cells cur T (0, 0))) (hroom : n + 1 ≤ c) (hc : c ≤ maxLen) (hfit : o + c * 4 ≤ cur.size)
  (hX : X.size = 4) (hXc : ∀ j u, X[j]? = some u → w.cell? ⟨vb, vo + j, none⟩ = some u) (hX1 : ∀ u ∈ X.toList, u.oneCell' = true) (O : Array Value) (hO : O.size = n * 4) (hOc : ∀ j u, O[j]? = some u → cur[o + j]? = some u) :
  Calls Try.prog 95 #[.slice (some ⟨b, o, none⟩) n c, .int .i64 n, .slice (some ⟨vb, vo, none⟩) 1 vc] w fun e w' => InsPost w b 4 n (O ++ X) e w' := by
 have ht := Try.underlying56
 have hs : sizT Try.prog 61 = some 4 := by kernel_rfl
 have hfc : (Builtin.firstCells 4 1 (.slice (some ⟨vb, vo, none⟩) 1 vc)).run Try.prog w = .ok X w := by
  have := firstCells_at (P := Try.prog) (w := w) (sz := 4) (n := 1) (len := 1) (cap := vc) hXc oM (w2 := w) rfl
  rwa [show 1 * 4 = X.size by omega, Array.extract_size] at this
 obtain ⟨W1, hW1⟩ : ∃ W1, w.setRow b (spl cur (o + n * 4) X.toList) = W1 := ⟨_, rfl⟩
 have hrun : ∀ ty, (Builtin.append_ #[56, 56] ty #[.slice (some ⟨b, o, none⟩) n c, .slice (some ⟨vb, vo, none⟩) 1 vc]).run Try.prog w = .ok (.slice (some ⟨b, o, none⟩) (n + 1) c) W1 := fun ty => by
  rw [← hW1]
  exact run_append_at (sz := 4) (m := 1) (vx := .slice (some ⟨vb, vo, none⟩) 1 vc) (news := X) ht ht rfl hs (by simp [Builtin.lenOf]) hfc oM hroom hb oM hX1
 go_enter Try.func95, Try.ntmps95
 go_wp2_with (at_builtin; refine Lib.wpList_append_run _ rfl _ _ _ _ rfl _ _ rfl rfl _ _ (hrun _) ?_)
 go_ret
 subst hW1
 have hsz := spl_size (cur := cur) (p := o + n * 4) (xs := X.toList) (by simp; omega)
 refine ⟨⟨b, o, c, _, T, rfl, setRow_heap w b cur _ T _ hb, hroom, hc, by rw [hsz]; exact hfit, fun j v hj => ?_, .inl rfl, fun k _ hk => setRow_other w b k _ hk⟩, rfl, rfl, rfl, by simp [World.setRow]⟩
 rw [spl_get (by simp; omega)]
 by_cases hjn : j < n * 4
 ·rw [if_neg oM]
  rw [Array.getElem?_append_left oM] at hj
  exact hOc j v hj
 ·rw [Array.getElem?_append_right oM, hO] at hj
  have hjl := (Array.getElem?_eq_some_iff.1 hj).1
  rw [if_pos (by simp; omega), show o + j - (o + n * 4) = j - n * 4 by omega]
  simpa using hj
set_option maxHeartbeats 4000000 in
set_option maxRecDepth 100000 in
theorem insE2M_spec (b n c vb vo vc : Nat) (base : Option Addr) (X : Array Value) (w : World) (hroom : c < n + 1) (hn : n ≤ 1000000) (hX : X.size = 4) (hXc : ∀ j u, X[j]? = some u → w.cell? ⟨vb, vo + j, none⟩ = some u) (hX1 : ∀ u ∈ X.toList, u.oneCell' = true)
  (O : Array Value) (hO : O.size = n * 4) (hOf : (Builtin.firstCells 4 n (.slice base n c)).run Try.prog w.drew = .ok O w.drew) :
  Calls Try.prog 95 #[.slice base n c, .int .i64 n, .slice (some ⟨vb, vo, none⟩) 1 vc] w fun e w' => InsPost w b 4 n (O ++ X) e w' := by
 have ht := Try.underlying56
 have hs : sizT Try.prog 61 = some 4 := by kernel_rfl
 have hby : bytT Try.prog 61 = some 48 := by kernel_rfl
 have hz : zeroT Try.prog 61 = some [.v (.int .i64 0), .v (.int .i64 0), .v (.int .i64 0), .v .zsl] := by kernel_rfl
 obtain ⟨i, zv, hi, hzz, hzc⟩ := zeroT_spec hz
 have hbz : i.bytes = 48 := by simp [bytT, hi] at hby; exact hby
 have hfc : (Builtin.firstCells 4 1 (.slice (some ⟨vb, vo, none⟩) 1 vc)).run Try.prog w.drew = .ok X w.drew := by
  have := firstCells_at (P := Try.prog) (w := w) (sz := 4) (n := 1) (len := 1) (cap := vc) hXc oM (w2 := w.drew) rfl
  rwa [show 1 * 4 = X.size by omega, Array.extract_size] at this
 obtain ⟨W1, hW1⟩ : ∃ W1, w.drew.alloc (.cells (O ++ X ++ Builtin.zeroCells zv.cells (grownCap w (n + 1) c 61 - (n + 1))) 61) = W1 := ⟨_, rfl⟩
 obtain ⟨G, hG⟩ : ∃ G, grownCap w (n + 1) c 61 = G := ⟨_, rfl⟩
 have hrun : ∀ ty, (Builtin.append_ #[56, 56] ty #[.slice base n c, .slice (some ⟨vb, vo, none⟩) 1 vc]).run Try.prog w = .ok (.slice (some ⟨w.heap.size, 0, none⟩) (n + 1) G) W1 := fun ty => by
  rw [← hW1, ← hG]
  exact run_append_new (sz := 4) (m := 1) (vx := .slice (some ⟨vb, vo, none⟩) 1 vc) (news := X) (olds := O) ht ht rfl hs hi hzz hbz (by simp [Builtin.lenOf]) hfc hOf hroom oM oM (by decide)
 have hge := grownCap_ge w (n + 1) c 61
 have hcm : grownCap w (n + 1) c 61 ≤ maxLen := grownCap_le_maxLen w _ c _ (by unfold maxLen; omega)
 have hzl : zv.cells.size = 4 := by
  obtain ⟨c1, c2⟩ := cvL_rep (w := w) (F := fun _ => False) (L := fun _ _ => none) hzc
  have := c1.1; simp at this; omega
 have fin : InsPost w b 4 n (O ++ X) (.returned (.slice (some ⟨w.heap.size, 0, none⟩) (n + 1) G)) W1 := by
  rw [← hW1, ← hG]
  refine ⟨⟨w.heap.size, 0, _, _, _, rfl, heap_alloc_new w.drew _, hge, hcm, ?_, fun j v hj => ?_, .inr (Nat.le_refl _), fun k hk _ => heap_alloc_old w.drew _ hk⟩, rfl, rfl, rfl, by simp⟩
  ·rw [Array.size_append, Array.size_append, size_zeroCells, hO, hX, hzl, Nat.zero_add, ← Nat.add_one_mul, ← Nat.add_mul]
   exact Nat.mul_le_mul_right _ oM
  ·rw [Nat.zero_add, Array.getElem?_append_left (Array.getElem?_eq_some_iff.1 hj).1]
   exact hj
 go_enter Try.func95, Try.ntmps95
 cases base with
 | none =>
   go_wp2_with (at_builtin; refine Lib.wpList_append_run _ rfl _ _ _ _ rfl _ _ rfl rfl _ _ (hrun _) ?_)
   all_goals (go_ret; exact fin)
 | some a =>
   obtain ⟨ab, ao, asp⟩ := a
   go_wp2_with (at_builtin; refine Lib.wpList_append_run _ rfl _ _ _ _ rfl _ _ rfl rfl _ _ (hrun _) ?_)
   all_goals (go_ret; exact fin)
set_option maxHeartbeats 4000000 in
set_option maxRecDepth 100000 in
theorem insGM_spec (b o n c i vb vo vc : Nat) (cur X : Array Value) (T : TypeId) (w : World) (hb : w.heap[b]? = some (.cells cur T (0, 0))) (hi : i < n) (hnc : n ≤ c) (hroom : c < n + 1) (hn : n ≤ 1000000) (hX : X.size = 4) (hXc : ∀ j u, X[j]? = some u → w.cell? ⟨vb, vo + j, none⟩ = some u) (hX1 : ∀ u ∈ X.toList, u.oneCell' = true)
  (O : Array Value) (hO : O.size = n * 4) (hOc : ∀ j u, O[j]? = some u → w.cell? ⟨b, o + j, none⟩ = some u) (hO1 : ∀ u ∈ O.toList, u.oneCell' = true) :
  Calls Try.prog 95 #[.slice (some ⟨b, o, none⟩) n c, .int .i64 i, .slice (some ⟨vb, vo, none⟩) 1 vc] w fun e w' => InsPost w b 4 n (O.extract 0 (i * 4) ++ X ++ O.extract (i * 4) (n * 4)) e w' := by
 have ht := Try.underlying56
 have hti := Try.underlying3
 have hs : sizT Try.prog 61 = some 4 := by kernel_rfl
 have hby : bytT Try.prog 61 = some 48 := by kernel_rfl
 have hz : zeroT Try.prog 61 = some [.v (.int .i64 0), .v (.int .i64 0), .v (.int .i64 0), .v .zsl] := by kernel_rfl
 obtain ⟨inf, zv, hinf, hzz, hzc⟩ := zeroT_spec hz
 have hbz : inf.bytes = 48 := by simp [bytT, hinf] at hby; exact hby
 have hsz : inf.size = 4 := by simp [sizT, hinf] at hs; exact hs
 have hzl : zv.cells.size = 4 := by
  obtain ⟨c1, c2⟩ := cvL_rep (w := w) (F := fun _ => False) (L := fun _ _ => none) hzc
  have := c1.1; simp at this; omega
 have hbw : b < w.heap.size := (Array.getElem?_eq_some_iff.1 hb).1
 have hx0 : X[0]? = some X[0] := Array.getElem?_eq_getElem oM
 have hvw : vb < w.heap.size := block_lt_of_cell (hXc 0 _ hx0)
 have hold : (Builtin.firstCells inf.size i (.slice (some ⟨b, o, none⟩) i c)).run Try.prog w.drew = .ok (O.extract 0 (i * 4)).toList.toArray w.drew := by
  rw [hsz, Array.toArray_toList]
  exact firstCells_at (P := Try.prog) (w := w) (sz := 4) (n := i) (len := i) (cap := c) hOc oM (w2 := w.drew) rfl
 have hge := grownCap_ge w (n + 1) c 61
 have hcm : grownCap w (n + 1) c 61 ≤ maxLen := grownCap_le_maxLen w _ c _ (by unfold maxLen; omega)
 have hG63 := hcm
 unfold maxLen at hG63
 obtain ⟨G, hG⟩ : ∃ G, grownCap w (n + 1) c 61 = G := ⟨_, rfl⟩
 obtain ⟨ROW, hROW⟩ : ∃ ROW : Array Value, (O.extract 0 (i * 4)).toList.toArray ++ Builtin.zeroCells zv.cells (n + 1 - i) ++ Builtin.zeroCells zv.cells (G - (n + 1)) = ROW := ⟨_, rfl⟩
 obtain ⟨W1, hW1⟩ : ∃ W1, w.drew.alloc (.cells ROW 61) = W1 := ⟨_, rfl⟩
 have hik : i + (n + 1 - i) = n + 1 := by omega
 have hkk : (n : Int) + 1 - (i : Int) = ((n + 1 - i : Nat) : Int) := by omega
 have hrz : ∀ ty, (Builtin.append_ #[56, 3] ty #[.slice (some ⟨b, o, none⟩) i c, .int .i64 ((n : Int) + 1 - (i : Int))]).run Try.prog w = .ok (.slice (some ⟨w.heap.size, 0, none⟩) (n + 1) G) W1 := fun ty => by
  have h := Lib.run_append_grow_zeros w 56 3 ty 61 inf zv .i64 .i64 ht hti hinf hzz (some ⟨b, o, none⟩) i c _ hold (n + 1 - i) oM oM oM oM (by rw [hbz]; omega) (by rw [hbz, hik]; exact growslice_fits hroom oM)
  rw [hik] at h
  rw [hkk, h, ← hW1, ← hROW, ← hG]
 rw [hG] at hge hcm hG63
 have hRs : ROW.size = G * 4 := by
  rw [← hROW, Array.size_append, Array.size_append, size_zeroCells, size_zeroCells, hzl, List.size_toArray, Array.length_toList, Array.size_extract, hO]
  have : min (i * 4) (n * 4) - 0 = i * 4 := by omega
  rw [this, ← Nat.add_mul, ← Nat.add_mul]
  congr 1; omega
 have hRow1 : W1.heap[w.heap.size]? = some (.cells ROW 61 (0, 0)) := by rw [← hW1]; exact heap_alloc_new w.drew _
 have hOld1 : ∀ k, k < w.heap.size → W1.heap[k]? = w.heap[k]? := fun k hk => by rw [← hW1]; exact heap_alloc_old w.drew _ hk
 have hsz1 : W1.heap.size = w.heap.size + 1 := by rw [← hW1]; simp
 have hX1c : ∀ j u, X[j]? = some u → W1.cell? ⟨vb, vo + j, none⟩ = some u := fun j u hj => by
  have := hXc j u hj
  rwa [← World.cell?_of_block (hOld1 vb hvw)] at this
 have hfx : (Builtin.firstCells 4 (min 1 (n + 1 - i)) (.slice (some ⟨vb, vo, none⟩) 1 vc)).run Try.prog W1 = .ok X W1 := by
  have h1 : min 1 (n + 1 - i) = 1 := by omega
  rw [h1]
  have := firstCells_at (P := Try.prog) (w := W1) (sz := 4) (n := 1) (len := 1) (cap := vc) hX1c oM (w2 := W1) rfl
  rwa [show 1 * 4 = X.size by omega, Array.extract_size] at this
 obtain ⟨W2, hW2⟩ : ∃ W2, W1.setRow w.heap.size (spl ROW ((i) * 4) X.toList) = W2 := ⟨_, rfl⟩
 have hmn1 : min 1 (n + 1 - i) = 1 := by omega
 have hGm : (i + 1) * 4 + (n - i) * 4 ≤ G * 4 := by rw [← Nat.add_mul]; exact Nat.mul_le_mul_right _ oM
 have hXl : X.toList.length = 4 := by simpa using hX
 have hcpA : ∀ ty dc, (Builtin.copy_ #[56, 56] ty #[.slice (some ⟨w.heap.size, (i) * 4, none⟩) (n + 1 - i) dc, .slice (some ⟨vb, vo, none⟩) 1 vc]).run Try.prog W1 = .ok (goInt (1 : Nat)) W2 := fun ty dc => by
  have := run_copy_at (P := Try.prog) (w := W1) (t := 56) (u := 56) (ty := ty) ht hs (blk := w.heap.size) (p := (i) * 4) (n := n + 1 - i) (c := dc) (m := 1) (vx := .slice (some ⟨vb, vo, none⟩) 1 vc) (by simp [Builtin.lenOf]) hfx hRow1 (by rw [hX, hRs]; omega) hX1
  rw [hmn1, hW2] at this
  exact this
 obtain ⟨R, hR⟩ : ∃ R, O.extract (i * 4) (n * 4) = R := ⟨_, rfl⟩
 have hRl : R.size = (n - i) * 4 := by rw [← hR, Array.size_extract, hO, Nat.sub_mul]; omega
 have hR1 : ∀ u ∈ R.toList, u.oneCell' = true := fun u hu => hO1 u (by
  rw [← hR, Array.toList_extract] at hu
  exact List.mem_of_mem_drop (List.mem_of_mem_take hu))
 have hRg : ∀ j u, R[j]? = some u → O[i * 4 + j]? = some u := fun j u hj => by
  rw [← hR, Array.getElem?_extract] at hj
  split at hj
  ·exact hj
  ·cases hj
 have hcur2 : W2.heap[w.heap.size]? = some (.cells (spl ROW ((i) * 4) X.toList) 61 (0, 0)) := by rw [← hW2]; exact setRow_heap W1 _ ROW _ _ _ hRow1
 have hOld2 : ∀ k, k < w.heap.size → W2.heap[k]? = w.heap[k]? := fun k hk => by rw [← hW2, setRow_other W1 _ k _ oM]; exact hOld1 k hk
 have hR2c : ∀ j u, R[j]? = some u → W2.cell? ⟨b, (o + (i) * 4) + j, none⟩ = some u := fun j u hj => by
  have := hOc _ u (hRg j u hj)
  rw [← World.cell?_of_block (hOld2 b hbw)] at this
  rwa [show o + (i * 4 + j) = o + (i) * 4 + j by omega] at this
 have hmn2 : min (n - i) (n + 1 - (i + 1)) = n - i := by omega
 have hfr : (Builtin.firstCells 4 (min (n - i) (n + 1 - (i + 1))) (.slice (some ⟨b, o + (i) * 4, none⟩) (n - i) (c - i))).run Try.prog W2.drew = .ok R W2.drew := by
  rw [hmn2]
  have := firstCells_at (P := Try.prog) (w := W2) (sz := 4) (n := n - i) (len := n - i) (cap := c - i) hR2c oM (w2 := W2.drew) rfl
  rwa [show (n - i) * 4 = R.size by omega, Array.extract_size] at this
 have hss := spl_size (cur := ROW) (p := (i) * 4) (xs := X.toList) (by rw [hXl, hRs]; omega)
 obtain ⟨W3, hW3⟩ : ∃ W3, W2.drew.setRow w.heap.size (spl (spl ROW ((i) * 4) X.toList) ((i + 1) * 4) R.toList) = W3 := ⟨_, rfl⟩
 have hcpB : ∀ ty dc, (Builtin.copy_ #[56, 56] ty #[.slice (some ⟨w.heap.size, (i + 1) * 4, none⟩) (n + 1 - (i + 1)) dc, .slice (some ⟨b, o + (i) * 4, none⟩) (n - i) (c - i)]).run Try.prog W2.drew = .ok (goInt (n - i : Nat)) W3 := fun ty dc => by
  have := run_copy_at (P := Try.prog) (w := W2.drew) (t := 56) (u := 56) (ty := ty) ht hs (blk := w.heap.size) (p := (i + 1) * 4) (n := n + 1 - (i + 1)) (c := dc) (m := n - i) (vx := .slice (some ⟨b, o + (i) * 4, none⟩) (n - i) (c - i)) (by simp [Builtin.lenOf]) hfr hcur2 (by rw [hRl, hss, hRs]; omega) hR1
  rw [hmn2, hW3] at this
  exact this
 have hz2 : ¬ ((i : Int) = (n : Int)) := by omega
 have hz3 : (c : Int) < (n : Int) + 1 := by omega
 have hw1 : IntKind.i64.wrap ((i : Int) + 1) = (i : Int) + 1 := by rw [IntKind.wrap_i64]; omega
 have hw2 : IntKind.i64.wrap ((n : Int) + 1) = (n : Int) + 1 := by rw [IntKind.wrap_i64]; omega
 have hb1 : (0 : Int) ≤ (i : Int) + 1 := by omega
 have hin : i ≤ n := by omega
 have htn : ((i : Int) + 1).toNat = i + 1 := by omega
 have hb3 : (i : Int) ≤ (n : Int) := by omega
 have hGi : ¬ (G = i) := by omega
 have hGim : ¬ (G = i + 1) := by omega
 have hci : ¬ (c = i) := by omega
 have hRlen : R.toList.length = (n - i) * 4 := by simpa using hRl
 have fin : InsPost w b 4 n (O.extract 0 (i * 4) ++ X ++ R) (.returned (.slice (some ⟨w.heap.size, 0, none⟩) (n + 1) G)) W3 := by
  refine ⟨⟨w.heap.size, 0, G, _, _, rfl, by rw [← hW3]; exact setRow_heap W2.drew _ _ _ _ _ hcur2, hge, hcm, ?_, fun j v hj => ?_, .inr (Nat.le_refl _), fun k hk _ => by rw [← hW3, setRow_other W2.drew _ k _ oM]; exact hOld2 k hk⟩, ?_, ?_, ?_, ?_⟩
  ·rw [spl_size (by rw [hRlen, hss, hRs]; omega), hss, hRs]; omega
  ·rw [Nat.zero_add, spl_get (by rw [hRlen, hss, hRs]; omega), hRlen]
   have hA : (O.extract 0 (i * 4)).size = i * 4 := by rw [Array.size_extract, hO]; omega
   by_cases h1 : j < i * 4
   ·rw [if_neg oM, spl_get (by rw [hXl, hRs]; omega), if_neg oM]
    rw [Array.getElem?_append_left (by rw [Array.size_append]; omega), Array.getElem?_append_left oM] at hj
    rw [← hROW, Array.getElem?_append_left (by rw [Array.size_append, List.size_toArray, Array.length_toList]; omega), Array.getElem?_append_left (by rw [List.size_toArray, Array.length_toList]; omega), Array.toArray_toList]
    exact hj
   ·by_cases h2 : j < i * 4 + 4
    ·rw [if_neg oM, spl_get (by rw [hXl, hRs]; omega), hXl, if_pos oM]
     rw [Array.getElem?_append_left (by rw [Array.size_append]; omega), Array.getElem?_append_right oM, hA] at hj
     simpa using hj
    ·rw [Array.getElem?_append_right (by rw [Array.size_append]; omega), Array.size_append, hA, hX] at hj
     have hjl := (Array.getElem?_eq_some_iff.1 hj).1
     rw [if_pos oM, show j - (i + 1) * 4 = j - (i * 4 + 4) by omega]
     simpa using hj
  ·rw [← hW3, ← hW2, ← hW1]; rfl
  ·rw [← hW3, ← hW2, ← hW1]; rfl
  ·rw [← hW3, ← hW2, ← hW1]; rfl
  ·rw [← hW3, ← hW2, ← hW1]; simp [World.setRow]
 have mixed : Try.prog.follows Departure.mixedOrders = true := by kernel_rfl
 rw [hR]
 clear hROW hG hRs hold hcur2 hRow1 hss hW1 hW2 hW3 hik hkk
 go_enter Try.func95, Try.ntmps95
 go_wp2_with (first
  | (at_builtin; refine Lib.wpList_append_run _ rfl _ _ _ _ rfl _ _ rfl rfl _ _ (hrz _) ?_)
  | (at_builtin; refine wpList_copy_runI _ rfl _ _ 56 56 rfl _ _ rfl rfl (hcpA _ _) ?_))
 go_region_law_o (refine step_copy_runI rfl _ _ 56 56 rfl (.slice (some ⟨w.heap.size, (i + 1) * 4, none⟩) (n + 1 - (i + 1)) (G - (i + 1))) (.slice (some ⟨b, o + (i) * 4, none⟩) (n - i) (c - i)) (by simp [Act.eval, Act.put]) (by simp [Act.eval, Act.put]) (hcpB 3 (G - (i + 1))) ?_)
 go_wp2
 go_ret
 exact fin
set_option maxHeartbeats 4000000 in
set_option maxRecDepth 100000 in
theorem insSM_spec (b o n c i vb vo vc : Nat) (cur X curv : Array Value) (T Tv : TypeId) (w : World) (hb : w.heap[b]? = some (.cells cur T (0, 0))) (hvb : w.heap[vb]? = some (.cells curv Tv (0, 0))) (hne : vb ≠ b) (hi : i < n) (hroom : n + 1 ≤ c) (hc : c ≤ maxLen) (hfit : o + c * 4 ≤ cur.size) (hn : n ≤ 1000000) (hX : X.size = 4) (hXc : ∀ j u, X[j]? = some u → curv[vo + j]? = some u) (hX1 : ∀ u ∈ X.toList, u.oneCell' = true)
  (O : Array Value) (hO : O.size = n * 4) (hOc : ∀ j u, O[j]? = some u → cur[o + j]? = some u) (hO1 : ∀ u ∈ O.toList, u.oneCell' = true) :
  Calls Try.prog 95 #[.slice (some ⟨b, o, none⟩) n c, .int .i64 i, .slice (some ⟨vb, vo, none⟩) 1 vc] w fun e w' => InsPost w b 4 n (O.extract 0 (i * 4) ++ X ++ O.extract (i * 4) (n * 4)) e w' := by
 have ht := Try.underlying56
 have hs : sizT Try.prog 61 = some 4 := by kernel_rfl
 have hc63 := hc
 unfold maxLen at hc63
 have hcm : (n + 1) * 4 ≤ c * 4 := Nat.mul_le_mul_right _ hroom
 have hcurs : 0 < cur.size := by omega
 have hov : ∀ lb cb, (callFunc 139 #[.slice (some ⟨vb, vo, none⟩) 1 vc, .slice (some ⟨b, o + (i + 1) * 4, none⟩) lb cb]).run Try.prog w = .ok (.value (.bool false)) w := fun lb cb => by
  rw [run_callFunc_extern Try.func139 (by kernel_rfl) (by kernel_rfl) (by kernel_rfl) (e := Extern.SlicesOverlaps.overlaps #[56, 56] #[4]) (by kernel_rfl),
   Lib.run_overlaps_apart w 56 4 61 ht 4 (fun w => run_sizeOf hs) ⟨vb, vo, none⟩ ⟨b, o + (i + 1) * 4, none⟩ 1 vc lb cb hne Tv T curv.size cur.size (by simp [World.shape?, hvb]) (by simp [World.shape?, hb]) oM (by simp [World.frozen?, hvb]) (by simp [World.frozen?, hvb])]
  rfl
 obtain ⟨R, hR⟩ : ∃ R, O.extract (i * 4) (n * 4) = R := ⟨_, rfl⟩
 have hRl : R.size = (n - i) * 4 := by rw [← hR, Array.size_extract, hO, Nat.sub_mul]; omega
 have hR1 : ∀ u ∈ R.toList, u.oneCell' = true := fun u hu => hO1 u (by
  rw [← hR, Array.toList_extract] at hu
  exact List.mem_of_mem_drop (List.mem_of_mem_take hu))
 have hRg : ∀ j u, R[j]? = some u → O[i * 4 + j]? = some u := fun j u hj => by
  rw [← hR, Array.getElem?_extract] at hj
  split at hj
  ·exact hj
  ·cases hj
 have hRlen : R.toList.length = (n - i) * 4 := by simpa using hRl
 have hXl : X.toList.length = 4 := by simpa using hX
 have hmn2 : min (n + 1 - i) (n + 1 - (i + 1)) = n - i := by omega
 have hR2c : ∀ j u, R[j]? = some u → w.cell? ⟨b, (o + (i) * 4) + j, none⟩ = some u := fun j u hj => by
  have := hOc _ u (hRg j u hj)
  simp only [World.cell?, hb]
  rw [show o + (i) * 4 + j = o + (i * 4 + j) by omega]
  exact this
 have hfr : ∀ sc, (Builtin.firstCells 4 (min (n + 1 - i) (n + 1 - (i + 1))) (.slice (some ⟨b, o + (i) * 4, none⟩) (n + 1 - i) sc)).run Try.prog w.drew = .ok R w.drew := fun sc => by
  rw [hmn2]
  have := firstCells_at (P := Try.prog) (w := w) (sz := 4) (n := n - i) (len := n + 1 - i) (cap := sc) hR2c oM (w2 := w.drew) rfl
  rwa [show (n - i) * 4 = R.size by omega, Array.extract_size] at this
 have hmm : (i + 1) * 4 + (n - i) * 4 = (n + 1) * 4 := by rw [← Nat.add_mul]; congr 1; omega
 have hs1 := spl_size (cur := cur) (p := o + (i + 1) * 4) (xs := R.toList) (by rw [hRlen]; omega)
 obtain ⟨W1, hW1⟩ : ∃ W1, w.drew.setRow b (spl cur (o + (i + 1) * 4) R.toList) = W1 := ⟨_, rfl⟩
 have hcp1 : ∀ ty dc sc, (Builtin.copy_ #[56, 56] ty #[.slice (some ⟨b, o + (i + 1) * 4, none⟩) (n + 1 - (i + 1)) dc, .slice (some ⟨b, o + (i) * 4, none⟩) (n + 1 - i) sc]).run Try.prog w.drew = .ok (goInt (n - i : Nat)) W1 := fun ty dc sc => by
  have := run_copy_at (P := Try.prog) (w := w.drew) (t := 56) (u := 56) (ty := ty) ht hs (blk := b) (p := o + (i + 1) * 4) (n := n + 1 - (i + 1)) (c := dc) (m := n + 1 - i) (vx := .slice (some ⟨b, o + (i) * 4, none⟩) (n + 1 - i) sc) (by simp [Builtin.lenOf]) (hfr sc) hb (by rw [hRl]; omega) hR1
  rw [hmn2, hW1] at this
  exact this
 have hcur1 : W1.heap[b]? = some (.cells (spl cur (o + (i + 1) * 4) R.toList) T (0, 0)) := by rw [← hW1]; exact setRow_heap w.drew _ cur _ _ _ hb
 have hOld1 : ∀ k, k ≠ b → W1.heap[k]? = w.heap[k]? := fun k hk => by rw [← hW1, setRow_other w.drew _ k _ hk]; rfl
 have hX1c : ∀ j u, X[j]? = some u → W1.cell? ⟨vb, vo + j, none⟩ = some u := fun j u hj => by
  have := hXc j u hj
  simp only [World.cell?, hOld1 vb hne, hvb]
  exact this
 have hmn1 : min 1 (n + 1 - i) = 1 := by omega
 have hfx : (Builtin.firstCells 4 (min 1 (n + 1 - i)) (.slice (some ⟨vb, vo, none⟩) 1 vc)).run Try.prog W1 = .ok X W1 := by
  rw [hmn1]
  have := firstCells_at (P := Try.prog) (w := W1) (sz := 4) (n := 1) (len := 1) (cap := vc) hX1c oM (w2 := W1) rfl
  rwa [show 1 * 4 = X.size by omega, Array.extract_size] at this
 obtain ⟨W2, hW2⟩ : ∃ W2, W1.setRow b (spl (spl cur (o + (i + 1) * 4) R.toList) (o + (i) * 4) X.toList) = W2 := ⟨_, rfl⟩
 have hcp2 : ∀ ty dc, (Builtin.copy_ #[56, 56] ty #[.slice (some ⟨b, o + (i) * 4, none⟩) (n + 1 - i) dc, .slice (some ⟨vb, vo, none⟩) 1 vc]).run Try.prog W1 = .ok (goInt (1 : Nat)) W2 := fun ty dc => by
  have := run_copy_at (P := Try.prog) (w := W1) (t := 56) (u := 56) (ty := ty) ht hs (blk := b) (p := o + (i) * 4) (n := n + 1 - i) (c := dc) (m := 1) (vx := .slice (some ⟨vb, vo, none⟩) 1 vc) (by simp [Builtin.lenOf]) hfx hcur1 (by rw [hX, hs1]; omega) hX1
  rw [hmn1, hW2] at this
  exact this
 have hz2 : ¬ ((i : Int) = (n : Int)) := by omega
 have hz3 : ¬ ((c : Int) < (n : Int) + 1) := by omega
 have hw1 : IntKind.i64.wrap ((i : Int) + 1) = (i : Int) + 1 := by rw [IntKind.wrap_i64]; omega
 have hw2 : IntKind.i64.wrap ((n : Int) + 1) = (n : Int) + 1 := by rw [IntKind.wrap_i64]; omega
 have hb1 : (0 : Int) ≤ (i : Int) + 1 := by omega
 have hb0 : (0 : Int) ≤ (n : Int) + 1 := by omega
 have hin : i ≤ n := by omega
 have htn : ((i : Int) + 1).toNat = i + 1 := by omega
 have htn2 : ((n : Int) + 1).toNat = n + 1 := by omega
 have hb2 : ¬ (c = i + 1) := by omega
 have hb3 : (i : Int) ≤ (n : Int) + 1 := by omega
 have hb4 : ¬ (c = i) := by omega
 have hb5 : (i : Int) + 1 ≤ (n : Int) + 1 := by omega
 have hb6 : (n : Int) + 1 ≤ (c : Int) := by omega
 have fin : InsPost w b 4 n (O.extract 0 (i * 4) ++ X ++ R) (.returned (.slice (some ⟨b, o, none⟩) (n + 1) c)) W2 := by
  refine ⟨⟨b, o, c, _, T, rfl, by rw [← hW2]; exact setRow_heap W1 _ _ _ _ _ hcur1, hroom, hc, ?_, fun j v hj => ?_, .inl rfl, fun k _ hk => by rw [← hW2, setRow_other W1 _ k _ hk]; exact hOld1 k hk⟩, ?_, ?_, ?_, ?_⟩
  ·rw [spl_size (by rw [hXl, hs1]; omega), hs1]; exact hfit
  ·have hA : (O.extract 0 (i * 4)).size = i * 4 := by rw [Array.size_extract, hO]; omega
   rw [spl_get (by rw [hXl, hs1]; omega), hXl]
   by_cases h1 : j < i * 4
   ·rw [if_neg oM, spl_get (by rw [hRlen]; omega), if_neg oM]
    rw [Array.getElem?_append_left (by rw [Array.size_append]; omega), Array.getElem?_append_left oM, Array.getElem?_extract] at hj
    split at hj
    ·refine hOc j v ?_
     simpa using hj
    ·cases hj
   ·by_cases h2 : j < i * 4 + 4
    ·rw [if_pos oM]
     rw [Array.getElem?_append_left (by rw [Array.size_append]; omega), Array.getElem?_append_right oM, hA] at hj
     rw [show o + j - (o + (i) * 4) = j - i * 4 by omega]
     simpa using hj
    ·rw [if_neg oM, spl_get (by rw [hRlen]; omega), hRlen]
     rw [Array.getElem?_append_right (by rw [Array.size_append]; omega), Array.size_append, hA, hX] at hj
     have hjl := (Array.getElem?_eq_some_iff.1 hj).1
     rw [if_pos oM, show o + j - (o + (i + 1) * 4) = j - (i * 4 + 4) by omega]
     simpa using hj
  ·rw [← hW2, ← hW1]; rfl
  ·rw [← hW2, ← hW1]; rfl
  ·rw [← hW2, ← hW1]; rfl
  ·rw [← hW2, ← hW1]; simp [World.setRow]
 have mixed : Try.prog.follows Departure.mixedOrders = true := by kernel_rfl
 rw [hR]
 clear hcur1 hs1 hW1 hW2 hcurs hcm hmm
 go_enter Try.func95, Try.ntmps95
 go_wp2_with (simp only [hov])
 go_region_law_o (refine step_copy_runI rfl _ _ 56 56 rfl (.slice (some ⟨b, o + (i + 1) * 4, none⟩) (n + 1 - (i + 1)) (c - (i + 1))) (.slice (some ⟨b, o + (i) * 4, none⟩) (n + 1 - i) (c - i)) (by simp [Act.eval, Act.put]) (by simp [Act.eval, Act.put]) (hcp1 3 (c - (i + 1)) (c - i)) ?_)
 go_wp2_with (at_builtin; refine wpList_copy_runI _ rfl _ _ 56 56 rfl _ _ rfl rfl (hcp2 _ _) ?_)
 go_ret
 exact fin
end Go.Proofs.Ytilcmenglgdljaa
namespace Go.Proofs.Ytilcmenglgdljaa
open Go.Lib Go.RowKit
set_option linter.unusedVariables false
set_option linter.unusedSimpArgs false
section
variable {P : Program} {w : World}
theorem run_clear_at {t el ty : TypeId} {z : Value} (ht : P.underlying t = some (.slice el)) (hv : ∀ w, (zeroValue el).run P w = .ok z w) {b p c : Nat} {cur : Array Value} {T : TypeId} {zl : List Value} (hz : (Builtin.zeroCells z.cells 1).toList = zl)
  (hcur : w.heap[b]? = some (.cells cur T (0, 0))) (hfit : p + zl.length ≤ cur.size) (h1 : ∀ u ∈ zl, u.oneCell' = true) :
  (Builtin.clear_ #[t] ty #[.slice (some ⟨b, p, none⟩) 1 c]).run P w = .ok (.tuple #[]) (w.setRow b (spl cur p zl)) := by
 have hst := run_storeCells_at P b p T zl 0 cur w hcur (by simpa using hfit) h1
 simp only [Nat.add_zero] at hst
 change _ = Result.ok () (w.setRow b (spl cur p zl)) at hst
 obtain ⟨W, hW⟩ : ∃ W, w.setRow b (spl cur p zl) = W := ⟨_, rfl⟩
 rw [hW] at hst ⊢
 simp [Builtin.clear_, run_underlying ht, hv, hz, hst]
theorem step_append_runI {ops : Array Oper} {o : Oper} {a : Act} {K : Act → World → Prop} {Q : Exit → Act → World → Prop} {E : Prop} (hg : o.guard = none) (d x : Operand) (dT sT : TypeId) (hop : o.op = Op.call { callee := Callee.builtin Builtin.append, args := #[d, x], argTypes := #[dT, sT] })
  (v u : Value) (hd : a.eval d = v) (hx : a.eval x = u) {v' : Value} {w' : World} (hr : (Builtin.append_ #[dT, sT] o.type #[v, u]).run P w = .ok v' w') (hK : K (a.put o.dst v') w') :
  if Region.wanted o (yielded ops a.tmps) = true then Oper.wp P o a w K Q else E := by
 rw [if_pos (by simp [Region.wanted, hg])]
 exact Lib.wp_append_run w d x dT sT hop v u hd hx v' w' hr hK
structure DelPost (w : World) (b o c n : Nat) (sz : Nat) (N : Array Value) (e : Ending) (w' : World) : Prop where
 out : ∃ cur T, e = .returned (.slice (some ⟨b, o, none⟩) n c) ∧ w'.heap[b]? = some (.cells cur T (0, 0)) ∧ o + c * sz ≤ cur.size ∧ (∀ j v, N[j]? = some v → cur[o + j]? = some v)
 old : ∀ k, k ≠ b → w'.heap[k]? = w.heap[k]?
 os : w'.os = w.os
 tape : w'.tape = w.tape
 output : w'.output = w.output
 size : w'.heap.size = w.heap.size
end
set_option maxHeartbeats 4000000 in
set_option maxRecDepth 100000 in
theorem delI_spec (b o n c i : Nat) (cur : Array Value) (T : TypeId) (w : World) (hb : w.heap[b]? = some (.cells cur T (0, 0))) (hi : i < n) (hnc : n ≤ c) (hc : c ≤ maxLen) (hfit : o + c * 1 ≤ cur.size)
  (O : Array Value) (hO : O.size = n * 1) (hOc : ∀ j u, O[j]? = some u → cur[o + j]? = some u) (hO1 : ∀ u ∈ O.toList, u.oneCell' = true) :
  Calls Try.prog 103 #[.slice (some ⟨b, o, none⟩) n c, .int .i64 i, .int .i64 ((i : Int) + 1)] w fun e w' => DelPost w b o c (n - 1) 1 (O.extract 0 (i * 1) ++ O.extract ((i + 1) * 1) (n * 1)) e w' := by
 have ht := Try.underlying32
 have hs : sizT Try.prog 3 = some 1 := by kernel_rfl
 have hzv : (Try.prog.info? 3).bind (·.zero) = some (.int .i64 0) := by kernel_rfl
 have hzr : ∀ w, (zeroValue 3).run Try.prog w = .ok (.int .i64 0) w := fun w => by
  cases hin : Try.prog.info? 3 with
  | none => rw [hin] at hzv; cases hzv
  | some inf => rw [hin] at hzv; simp [zeroValue, typeInfo, hin, show inf.zero = some (.int .i64 0) from hzv]
 have hc63 := hc
 unfold maxLen at hc63
 have hcm : n * 1 ≤ c * 1 := Nat.mul_le_mul_right _ hnc
 obtain ⟨R, hR⟩ : ∃ R, O.extract ((i + 1) * 1) (n * 1) = R := ⟨_, rfl⟩
 have hRl : R.size = (n - (i + 1)) * 1 := by rw [← hR, Array.size_extract, hO, Nat.sub_mul]; omega
 have hR1 : ∀ u ∈ R.toList, u.oneCell' = true := fun u hu => hO1 u (by
  rw [← hR, Array.toList_extract] at hu
  exact List.mem_of_mem_drop (List.mem_of_mem_take hu))
 have hRg : ∀ j u, R[j]? = some u → O[(i + 1) * 1 + j]? = some u := fun j u hj => by
  rw [← hR, Array.getElem?_extract] at hj
  split at hj
  ·exact hj
  ·cases hj
 have hRlen : R.toList.length = (n - (i + 1)) * 1 := by simpa using hRl
 have hmm : (i + 1) * 1 + (n - (i + 1)) * 1 = n * 1 := by rw [← Nat.add_mul]; congr 1; omega
 obtain ⟨W1, hW1⟩ : ∃ W1, w.drew.setRow b (spl cur (o + i * 1) R.toList) = W1 := ⟨_, rfl⟩
 have hs1 := spl_size (cur := cur) (p := o + i * 1) (xs := R.toList) (by rw [hRlen]; omega)
 have hcur1 : W1.heap[b]? = some (.cells (spl cur (o + i * 1) R.toList) T (0, 0)) := by rw [← hW1]; exact setRow_heap w.drew _ cur _ _ _ hb
 have hOld1 : ∀ k, k ≠ b → W1.heap[k]? = w.heap[k]? := fun k hk => by rw [← hW1, setRow_other w.drew _ k _ hk]; rfl
 have hR2c : ∀ j u, R[j]? = some u → w.cell? ⟨b, (o + (i + 1)) + j, none⟩ = some u := fun j u hj => by
  have := hOc _ u (hRg j u hj)
  simp only [World.cell?, hb]
  rw [show o + (i + 1) + j = o + ((i + 1) * 1 + j) by omega]
  exact this
 obtain ⟨A, hA, hfr⟩ : ∃ A : Addr, (if c = i + 1 then (⟨b, o, none⟩ : Addr) else ⟨b, o + (i + 1), none⟩) = A ∧ (Builtin.firstCells 1 (n - (i + 1)) (.slice (some A) (n - (i + 1)) (c - (i + 1)))).run Try.prog w.drew = .ok R w.drew := by
  refine ⟨_, rfl, ?_⟩
  by_cases h : c = i + 1
  ·have h0 : n - (i + 1) = 0 := by omega
   have hRe : R = #[] := Array.eq_empty_of_size_eq_zero (by rw [hRl, h0, Nat.zero_mul])
   rw [h0, hRe, if_pos h]
   simp [Builtin.firstCells, loadCells, loadCellsFrom]
  ·rw [if_neg h]
   have := firstCells_at (P := Try.prog) (w := w) (sz := 1) (n := n - (i + 1)) (len := n - (i + 1)) (cap := c - (i + 1)) hR2c oM (w2 := w.drew) rfl
   rwa [show (n - (i + 1)) * 1 = R.size by omega, Array.extract_size] at this
 have hap : ∀ ty, (Builtin.append_ #[32, 32] ty #[.slice (some ⟨b, o, none⟩) i c, .slice (some A) (n - (i + 1)) (c - (i + 1))]).run Try.prog w.drew = .ok (.slice (some ⟨b, o, none⟩) (n - 1) c) W1 := fun ty => by
  have := run_append_at (P := Try.prog) (w := w.drew) (t := 32) (u := 32) (ty := ty) (sz := 1) (m := n - (i + 1)) (vx := .slice (some A) (n - (i + 1)) (c - (i + 1))) (news := R) (blk := b) (p := o) (len := i) (cap := c) ht ht rfl hs (by simp [Builtin.lenOf]) hfr hRl oM hb oM hR1
  rw [show i + (n - (i + 1)) = n - 1 by omega] at this
  rw [← hW1]
  exact this
 have hzl : (Builtin.zeroCells (Value.cells (.int .i64 0)) 1).toList = [.int .i64 0] := by kernel_rfl
 have hnm : (n - 1) * 1 + 1 = n * 1 := by rw [← Nat.succ_mul]; congr 1; omega
 obtain ⟨W2, hW2⟩ : ∃ W2, W1.setRow b (spl (spl cur (o + i * 1) R.toList) (o + (n - 1)) [.int .i64 0]) = W2 := ⟨_, rfl⟩
 have hcl : ∀ ty dc, (Builtin.clear_ #[32] ty #[.slice (some ⟨b, o + (n - 1), none⟩) (n - (n - 1)) dc]).run Try.prog W1 = .ok (.tuple #[]) W2 := fun ty dc => by
  rw [← hW2, show n - (n - 1) = 1 by omega]
  exact run_clear_at ht hzr hzl hcur1 (by rw [hs1]; simp; omega) (by simp [Value.oneCell'])
 have fin : DelPost w b o c (n - 1) 1 (O.extract 0 (i * 1) ++ R) (.returned (.slice (some ⟨b, o, none⟩) (n - 1) c)) W2 := by
  have hzle : ([.int .i64 0] : List Value).length = 1 := rfl
  refine ⟨⟨_, T, rfl, by rw [← hW2]; exact setRow_heap W1 _ _ _ _ _ hcur1, ?_, fun j v hj => ?_⟩, fun k hk => by rw [← hW2, setRow_other W1 _ k _ hk]; exact hOld1 k hk, ?_, ?_, ?_, ?_⟩
  ·rw [spl_size (by rw [hs1, hzle]; omega), hs1]; exact hfit
  ·have hA2 : (O.extract 0 (i * 1)).size = i * 1 := by rw [Array.size_extract, hO]; omega
   have hjl := (Array.getElem?_eq_some_iff.1 hj).1
   rw [Array.size_append, hA2, hRl] at hjl
   rw [spl_get (by rw [hs1, hzle]; omega), if_neg oM, spl_get (by rw [hRlen]; omega), hRlen]
   by_cases h1 : j < i * 1
   ·rw [if_neg oM]
    rw [Array.getElem?_append_left oM, Array.getElem?_extract] at hj
    split at hj
    ·refine hOc j v ?_
     simpa using hj
    ·cases hj
   ·rw [Array.getElem?_append_right oM, hA2] at hj
    rw [if_pos oM, show o + j - (o + i * 1) = j - i * 1 by omega]
    simpa using hj
  ·rw [← hW2, ← hW1]; rfl
  ·rw [← hW2, ← hW1]; rfl
  ·rw [← hW2, ← hW1]; rfl
  ·rw [← hW2, ← hW1]; simp [World.setRow]
 have mixed : Try.prog.follows Departure.mixedOrders = true := by kernel_rfl
 have hic : i ≤ c := by omega
 have hjc : i + 1 ≤ c := by omega
 have hjn : i + 1 ≤ n := by omega
 have hb1 : (0 : Int) ≤ (i : Int) + 1 := by omega
 have htn : ((i : Int) + 1).toNat = i + 1 := by omega
 have hii : (i : Int) ≤ (i : Int) + 1 := by omega
 have hin : (i : Int) + 1 ≤ (n : Int) := by omega
 have hin2 : (i : Int) + 1 ≤ (c : Int) := by omega
 have hne : ¬ ((i : Int) = (i : Int) + 1) := by omega
 have hn1 : n - 1 ≤ n := by omega
 have hn2 : n - 1 ≤ c := by omega
 have hn4 : ¬ (c = n - 1) := by omega
 rw [hR]
 clear hcur1 hs1 hW1 hW2 hcm hmm hnm
 by_cases hci : c = i + 1
 ·obtain rfl : n = i + 1 := by omega
  subst hci
  rw [if_pos rfl] at hA
  subst hA
  have hone : i + 1 - i = 1 := by omega
  simp only [Nat.add_sub_cancel, hone] at fin hap hcl
  go_enter Try.func103, Try.ntmps103
  go_wp2_with fail
  go_region_law_o (refine step_append_runI rfl _ _ 32 32 rfl (.slice (some ⟨b, o, none⟩) i (i + 1)) (.slice (some ⟨b, o, none⟩) (i + 1 - (i + 1)) (i + 1 - (i + 1))) (by simp [Act.eval, Act.put]) (by simp [Act.eval, Act.put]) (hap _) ?_)
  go_wp2
  go_ret
  exact fin
 ·rw [if_neg hci] at hA
  subst hA
  go_enter Try.func103, Try.ntmps103
  go_wp2_with fail
  go_region_law_o (refine step_append_runI rfl _ _ 32 32 rfl (.slice (some ⟨b, o, none⟩) i c) (.slice (some ⟨b, o + (i + 1), none⟩) (n - (i + 1)) (c - (i + 1))) (by simp [Act.eval, Act.put]) (by simp [Act.eval, Act.put]) (hap _) ?_)
  go_wp2
  go_ret
  exact fin
end Go.Proofs.Ytilcmenglgdljaa
namespace Go.Proofs.Ytilcmenglgdljaa
open Go.Lib Go.RowKit
set_option linter.unusedVariables false
set_option linter.unusedSimpArgs false
set_option maxHeartbeats 4000000 in
set_option maxRecDepth 100000 in
theorem delM_spec (b o n c i : Nat) (cur : Array Value) (T : TypeId) (w : World) (hb : w.heap[b]? = some (.cells cur T (0, 0))) (hi : i < n) (hnc : n ≤ c) (hc : c ≤ maxLen) (hfit : o + c * 4 ≤ cur.size)
  (O : Array Value) (hO : O.size = n * 4) (hOc : ∀ j u, O[j]? = some u → cur[o + j]? = some u) (hO1 : ∀ u ∈ O.toList, u.oneCell' = true) :
  Calls Try.prog 102 #[.slice (some ⟨b, o, none⟩) n c, .int .i64 i, .int .i64 ((i : Int) + 1)] w fun e w' => DelPost w b o c (n - 1) 4 (O.extract 0 (i * 4) ++ O.extract ((i + 1) * 4) (n * 4)) e w' := by
 have ht := Try.underlying56
 have hs : sizT Try.prog 61 = some 4 := by kernel_rfl
 have hzv : (Try.prog.info? 61).bind (·.zero) = some (.agg #[.int .i64 0, .int .i64 0, .int .i64 0, .slice none 0 0]) := by kernel_rfl
 have hzr : ∀ w, (zeroValue 61).run Try.prog w = .ok (.agg #[.int .i64 0, .int .i64 0, .int .i64 0, .slice none 0 0]) w := fun w => by
  cases hin : Try.prog.info? 61 with
  | none => rw [hin] at hzv; cases hzv
  | some inf => rw [hin] at hzv; simp [zeroValue, typeInfo, hin, show inf.zero = some (.agg #[.int .i64 0, .int .i64 0, .int .i64 0, .slice none 0 0]) from hzv]
 have hc63 := hc
 unfold maxLen at hc63
 have hcm : n * 4 ≤ c * 4 := Nat.mul_le_mul_right _ hnc
 obtain ⟨R, hR⟩ : ∃ R, O.extract ((i + 1) * 4) (n * 4) = R := ⟨_, rfl⟩
 have hRl : R.size = (n - (i + 1)) * 4 := by rw [← hR, Array.size_extract, hO, Nat.sub_mul]; omega
 have hR1 : ∀ u ∈ R.toList, u.oneCell' = true := fun u hu => hO1 u (by
  rw [← hR, Array.toList_extract] at hu
  exact List.mem_of_mem_drop (List.mem_of_mem_take hu))
 have hRg : ∀ j u, R[j]? = some u → O[(i + 1) * 4 + j]? = some u := fun j u hj => by
  rw [← hR, Array.getElem?_extract] at hj
  split at hj
  ·exact hj
  ·cases hj
 have hRlen : R.toList.length = (n - (i + 1)) * 4 := by simpa using hRl
 have hmm : (i + 1) * 4 + (n - (i + 1)) * 4 = n * 4 := by rw [← Nat.add_mul]; congr 1; omega
 obtain ⟨W1, hW1⟩ : ∃ W1, w.drew.setRow b (spl cur (o + i * 4) R.toList) = W1 := ⟨_, rfl⟩
 have hs1 := spl_size (cur := cur) (p := o + i * 4) (xs := R.toList) (by rw [hRlen]; omega)
 have hcur1 : W1.heap[b]? = some (.cells (spl cur (o + i * 4) R.toList) T (0, 0)) := by rw [← hW1]; exact setRow_heap w.drew _ cur _ _ _ hb
 have hOld1 : ∀ k, k ≠ b → W1.heap[k]? = w.heap[k]? := fun k hk => by rw [← hW1, setRow_other w.drew _ k _ hk]; rfl
 have hR2c : ∀ j u, R[j]? = some u → w.cell? ⟨b, (o + (i + 1) * 4) + j, none⟩ = some u := fun j u hj => by
  have := hOc _ u (hRg j u hj)
  simp only [World.cell?, hb]
  rw [show o + (i + 1) * 4 + j = o + ((i + 1) * 4 + j) by omega]
  exact this
 obtain ⟨A, hA, hfr⟩ : ∃ A : Addr, (if c = i + 1 then (⟨b, o, none⟩ : Addr) else ⟨b, o + (i + 1) * 4, none⟩) = A ∧ (Builtin.firstCells 4 (n - (i + 1)) (.slice (some A) (n - (i + 1)) (c - (i + 1)))).run Try.prog w.drew = .ok R w.drew := by
  refine ⟨_, rfl, ?_⟩
  by_cases h : c = i + 1
  ·have h0 : n - (i + 1) = 0 := by omega
   have hRe : R = #[] := Array.eq_empty_of_size_eq_zero (by rw [hRl, h0, Nat.zero_mul])
   rw [h0, hRe, if_pos h]
   simp [Builtin.firstCells, loadCells, loadCellsFrom]
  ·rw [if_neg h]
   have := firstCells_at (P := Try.prog) (w := w) (sz := 4) (n := n - (i + 1)) (len := n - (i + 1)) (cap := c - (i + 1)) hR2c oM (w2 := w.drew) rfl
   rwa [show (n - (i + 1)) * 4 = R.size by omega, Array.extract_size] at this
 have hap : ∀ ty, (Builtin.append_ #[56, 56] ty #[.slice (some ⟨b, o, none⟩) i c, .slice (some A) (n - (i + 1)) (c - (i + 1))]).run Try.prog w.drew = .ok (.slice (some ⟨b, o, none⟩) (n - 1) c) W1 := fun ty => by
  have := run_append_at (P := Try.prog) (w := w.drew) (t := 56) (u := 56) (ty := ty) (sz := 4) (m := n - (i + 1)) (vx := .slice (some A) (n - (i + 1)) (c - (i + 1))) (news := R) (blk := b) (p := o) (len := i) (cap := c) ht ht rfl hs (by simp [Builtin.lenOf]) hfr hRl oM hb oM hR1
  rw [show i + (n - (i + 1)) = n - 1 by omega] at this
  rw [← hW1]
  exact this
 have hzl : (Builtin.zeroCells (Value.cells (.agg #[.int .i64 0, .int .i64 0, .int .i64 0, .slice none 0 0])) 1).toList = [.int .i64 0, .int .i64 0, .int .i64 0, .slice none 0 0] := by kernel_rfl
 have hnm : (n - 1) * 4 + 4 = n * 4 := by rw [← Nat.succ_mul]; congr 1; omega
 obtain ⟨W2, hW2⟩ : ∃ W2, W1.setRow b (spl (spl cur (o + i * 4) R.toList) (o + (n - 1) * 4) [.int .i64 0, .int .i64 0, .int .i64 0, .slice none 0 0]) = W2 := ⟨_, rfl⟩
 have hcl : ∀ ty dc, (Builtin.clear_ #[56] ty #[.slice (some ⟨b, o + (n - 1) * 4, none⟩) (n - (n - 1)) dc]).run Try.prog W1 = .ok (.tuple #[]) W2 := fun ty dc => by
  rw [← hW2, show n - (n - 1) = 1 by omega]
  exact run_clear_at ht hzr hzl hcur1 (by rw [hs1]; simp; omega) (by simp [Value.oneCell'])
 have fin : DelPost w b o c (n - 1) 4 (O.extract 0 (i * 4) ++ R) (.returned (.slice (some ⟨b, o, none⟩) (n - 1) c)) W2 := by
  have hzle : ([.int .i64 0, .int .i64 0, .int .i64 0, .slice none 0 0] : List Value).length = 4 := rfl
  refine ⟨⟨_, T, rfl, by rw [← hW2]; exact setRow_heap W1 _ _ _ _ _ hcur1, ?_, fun j v hj => ?_⟩, fun k hk => by rw [← hW2, setRow_other W1 _ k _ hk]; exact hOld1 k hk, ?_, ?_, ?_, ?_⟩
  ·rw [spl_size (by rw [hs1, hzle]; omega), hs1]; exact hfit
  ·have hA2 : (O.extract 0 (i * 4)).size = i * 4 := by rw [Array.size_extract, hO]; omega
   have hjl := (Array.getElem?_eq_some_iff.1 hj).1
   rw [Array.size_append, hA2, hRl] at hjl
   rw [spl_get (by rw [hs1, hzle]; omega), if_neg oM, spl_get (by rw [hRlen]; omega), hRlen]
   by_cases h1 : j < i * 4
   ·rw [if_neg oM]
    rw [Array.getElem?_append_left oM, Array.getElem?_extract] at hj
    split at hj
    ·refine hOc j v ?_
     simpa using hj
    ·cases hj
   ·rw [Array.getElem?_append_right oM, hA2] at hj
    rw [if_pos oM, show o + j - (o + i * 4) = j - i * 4 by omega]
    simpa using hj
  ·rw [← hW2, ← hW1]; rfl
  ·rw [← hW2, ← hW1]; rfl
  ·rw [← hW2, ← hW1]; rfl
  ·rw [← hW2, ← hW1]; simp [World.setRow]
 have mixed : Try.prog.follows Departure.mixedOrders = true := by kernel_rfl
 have hic : i ≤ c := by omega
 have hjc : i + 1 ≤ c := by omega
 have hjn : i + 1 ≤ n := by omega
 have hb1 : (0 : Int) ≤ (i : Int) + 1 := by omega
 have htn : ((i : Int) + 1).toNat = i + 1 := by omega
 have hii : (i : Int) ≤ (i : Int) + 1 := by omega
 have hin : (i : Int) + 1 ≤ (n : Int) := by omega
 have hin2 : (i : Int) + 1 ≤ (c : Int) := by omega
 have hne : ¬ ((i : Int) = (i : Int) + 1) := by omega
 have hn1 : n - 1 ≤ n := by omega
 have hn2 : n - 1 ≤ c := by omega
 have hn4 : ¬ (c = n - 1) := by omega
 rw [hR]
 clear hcur1 hs1 hW1 hW2 hcm hmm hnm
 by_cases hci : c = i + 1
 ·obtain rfl : n = i + 1 := by omega
  subst hci
  rw [if_pos rfl] at hA
  subst hA
  have hone : i + 1 - i = 1 := by omega
  simp only [Nat.add_sub_cancel, hone] at fin hap hcl
  go_enter Try.func102, Try.ntmps102
  go_wp2_with fail
  go_region_law_o (refine step_append_runI rfl _ _ 56 56 rfl (.slice (some ⟨b, o, none⟩) i (i + 1)) (.slice (some ⟨b, o, none⟩) (i + 1 - (i + 1)) (i + 1 - (i + 1))) (by simp [Act.eval, Act.put]) (by simp [Act.eval, Act.put]) (hap _) ?_)
  go_wp2
  go_ret
  exact fin
 ·rw [if_neg hci] at hA
  subst hA
  go_enter Try.func102, Try.ntmps102
  go_wp2_with fail
  go_region_law_o (refine step_append_runI rfl _ _ 56 56 rfl (.slice (some ⟨b, o, none⟩) i c) (.slice (some ⟨b, o + (i + 1) * 4, none⟩) (n - (i + 1)) (c - (i + 1))) (by simp [Act.eval, Act.put]) (by simp [Act.eval, Act.put]) (hap _) ?_)
  go_wp2
  go_ret
  exact fin
end Go.Proofs.Ytilcmenglgdljaa
namespace Go.Proofs.Ytilcmenglgdljaa
set_option linter.unusedVariables false
set_option linter.unusedSimpArgs false
section
variable {P : Program} {w : World} {F : Nat → Prop} {L : LMap} {b l : List Row}
theorem repl3 {x y z : AV} {vs : List Value} (h : RepL w F L [x, y, z] vs) : ∃ u v t, vs = [u, v, t] ∧ RepA w F L x u ∧ RepA w F L y v ∧ RepA w F L z t := by
 obtain ⟨h1, h2⟩ := h
 match vs, h1 with
 | [u, v, t], _ => exact ⟨u, v, t, rfl, h2 0 _ _ rfl rfl, h2 1 _ _ rfl rfl, h2 2 _ _ rfl rfl⟩
theorem getI {α : Type} {els : List α} {x : α} {i k : Nat} {row : α} (hi : i ≤ els.length) (h : (els.take i ++ [x] ++ els.drop i)[k]? = some row) :
  (k < i ∧ els[k]? = some row) ∨ (k = i ∧ row = x) ∨ (i < k ∧ els[k - 1]? = some row) := by
 have hl : (els.take i).length = i := by rw [List.length_take]; omega
 by_cases h1 : k < i
 ·rw [List.append_assoc, List.getElem?_append_left oM, List.getElem?_take, if_pos h1] at h
  exact .inl ⟨h1, h⟩
 ·by_cases h2 : k = i
  ·subst h2
   rw [List.getElem?_append_left (by rw [List.length_append]; simp; omega), List.getElem?_append_right oM, hl, Nat.sub_self] at h
   simp at h
   exact .inr (.inl ⟨rfl, h.symm⟩)
  ·rw [List.getElem?_append_right (by rw [List.length_append]; simp; omega), List.length_append, hl, List.getElem?_drop] at h
   refine .inr (.inr ⟨by omega, ?_⟩)
   rw [← h]; congr 1; simp; omega
theorem getD1 {α : Type} {els : List α} {i k : Nat} {row : α} (hi : i < els.length) (h : (els.take i ++ els.drop (i + 1))[k]? = some row) :
  (k < i ∧ els[k]? = some row) ∨ (i ≤ k ∧ els[k + 1]? = some row) := by
 have hl : (els.take i).length = i := by rw [List.length_take]; omega
 by_cases h1 : k < i
 ·rw [List.getElem?_append_left oM, List.getElem?_take, if_pos h1] at h
  exact .inl ⟨h1, h⟩
 ·rw [List.getElem?_append_right oM, hl, List.getElem?_drop] at h
  refine .inr ⟨by omega, ?_⟩
  rw [← h]; congr 1; omega
theorem ins_rows (s : Sim F L (b ++ l) w) {id ver sz i n blk : Nat} {els : List (List AV)} {x : List AV} (hsz0 : 0 < sz) (hid : (b ++ l)[id]? = some (.live ver sz els)) (hn : els.length = n) (hi : i ≤ n) {O X : Array Value} (hO : O.size = n * sz) (hX : X.size = sz) (hOr : RepE w F L sz els O) (hXr : RepE w F L sz [x] X)
  (hblk : (∃ o c, L id ver = some (.pl blk o sz c)) ∨ w.heap.size ≤ blk) {e : Ending} {w' : World} (h : InsPost w blk sz n (O.extract 0 (i * sz) ++ X ++ O.extract (i * sz) (n * sz)) e w') :
  ∃ v y b' l' F' L', e = .returned v ∧ RepA w' F' L' y v ∧ Sim F' L' (b' ++ l') w' ∧ Step (b ++ l).length F L (b ++ l) w F' L' (b' ++ l') w' ∧ b'.length = b.length ∧ (y = .sl id (ver + 1) 0 (n + 1) ∧ b' = hsetB b id (.live (ver + 1) sz (els.take i ++ [x] ++ els.drop i)) ∧ l' = hsetL b l id (.live (ver + 1) sz (els.take i ++ [x] ++ els.drop i))) := by
 obtain ⟨⟨blk', o, cap, cur, T, rfl, h2, h3, h4, h5, h6, h7, h8⟩, h9, h10, h11, h12⟩ := h
 have hidl : id < (b ++ l).length := (List.getElem?_eq_some_iff.1 hid).1
 have hA : (O.extract 0 (i * sz)).size = i * sz := by
  have := Nat.mul_le_mul_right sz hi
  rw [Array.size_extract, hO]; omega
 have hin := Nat.mul_le_mul_right sz hi
 have hlen : (els.take i ++ [x] ++ els.drop i).length = n + 1 := by simp; omega
 have hnew : w.heap.size ≤ blk' ∨ ∃ v z els0 o0 z0 cap0, (b ++ l)[id]? = some (.live v z els0) ∧ L id v = some (.pl blk' o0 z0 cap0) := by
  rcases h7 with rfl | h
  ·rcases hblk with ⟨o1, c1, hL⟩ | h0
   ·exact .inr ⟨_, _, _, _, _, _, hid, hL⟩
   ·exact .inl h0
  ·exact .inl h
 obtain ⟨L', r1, r2, r3, r4⟩ := s.putRow (h' := (b ++ l).set id (.live (ver + 1) sz (els.take i ++ [x] ++ els.drop i))) (w' := w')
  id (ver + 1) sz blk' o cap (els.take i ++ [x] ++ els.drop i) h9 h10 h11 h12 h8 hnew
  (List.getElem?_set_self hidl) (fun j hj => List.getElem?_set_ne (Ne.symm hj)) (fun r hr => by rw [hid] at hr; cases hr; exact ⟨Nat.le_succ _, _, _, _, rfl⟩) (.inl (fresh_succ s hid))
  (by rw [hlen]; exact h3) h4 cur T h2 h5
  (fun k row hk => by
   rcases getI oM hk with ⟨_, h⟩ | ⟨_, rfl⟩ | ⟨_, h⟩
   ·exact hOr.1 _ _ h
   ·exact hXr.1 0 _ rfl
   ·exact hOr.1 _ _ h)
  (fun k row j cc hk hj => by
   rcases getI oM hk with ⟨hki, h⟩ | ⟨rfl, rfl⟩ | ⟨hki, h⟩
   ·obtain ⟨q1, u, q2, q3⟩ := hOr.2 _ _ j cc h hj
    have hjl : j < sz := by rw [← hOr.1 _ _ h]; exact (List.getElem?_eq_some_iff.1 hj).1
    have := elem_le (sz := sz) (j := j) (n := 1) hki oM
    refine ⟨q1, u, ?_, q3⟩
    rw [Nat.add_assoc]
    refine h6 _ _ ?_
    rw [Array.getElem?_append_left (by rw [Array.size_append]; omega), Array.getElem?_append_left oM, Array.getElem?_extract, if_pos oM, Nat.zero_add]
    exact q2
   ·obtain ⟨q1, u, q2, q3⟩ := hXr.2 0 _ j cc rfl hj
    have hjl : j < sz := by rw [← hXr.1 0 _ rfl]; exact (List.getElem?_eq_some_iff.1 hj).1
    refine ⟨q1, u, ?_, q3⟩
    rw [Nat.add_assoc]
    refine h6 _ _ ?_
    rw [Array.getElem?_append_left (by rw [Array.size_append]; omega), Array.getElem?_append_right oM, hA, show k * sz + j - k * sz = j by omega]
    simpa using q2
   ·obtain ⟨q1, u, q2, q3⟩ := hOr.2 _ _ j cc h hj
    have hjl : j < sz := by rw [← hOr.1 _ _ h]; exact (List.getElem?_eq_some_iff.1 hj).1
    have hkn : k - 1 < n := by rw [← hn]; exact (List.getElem?_eq_some_iff.1 h).1
    have e1 : k * sz = (k - 1) * sz + sz := by rw [← Nat.succ_mul]; congr 1; omega
    have e2 := Nat.mul_le_mul_right sz (show i ≤ k - 1 by omega)
    have := elem_le (sz := sz) (j := j) (n := 1) hkn oM
    refine ⟨q1, u, ?_, q3⟩
    rw [Nat.add_assoc]
    refine h6 _ _ ?_
    rw [Array.getElem?_append_right (by rw [Array.size_append]; omega), Array.size_append, hA, hX, Array.getElem?_extract, if_pos oM, show i * sz + (k * sz + j - (i * sz + sz)) = (k - 1) * sz + j by omega]
    exact q2)
 refine ⟨_, _, _, _, F, L', rfl, ?_, by rw [hset_eq]; exact r1, by rw [hset_eq]; exact r2, hsetB_len _ _ _, rfl, rfl, rfl⟩
 have := RepA.sl (w := w') (F := F) id (ver + 1) 0 (n + 1) _ _ _ _ r3 oM h4
 simpa using this
theorem del_rows (s : Sim F L (b ++ l) w) {id ver sz i n blk o c : Nat} {els : List (List AV)} (hsz0 : 0 < sz) (hid : (b ++ l)[id]? = some (.live ver sz els)) (hn : els.length = n) (hi : i < n) {O : Array Value} (hO : O.size = n * sz) (hOr : RepE w F L sz els O)
  (hL : L id ver = some (.pl blk o sz c)) (hnc : n ≤ c) (hc : c ≤ maxLen) {e : Ending} {w' : World} (h : DelPost w blk o c (n - 1) sz (O.extract 0 (i * sz) ++ O.extract ((i + 1) * sz) (n * sz)) e w') :
  ∃ v y b' l' F' L', e = .returned v ∧ RepA w' F' L' y v ∧ Sim F' L' (b' ++ l') w' ∧ Step (b ++ l).length F L (b ++ l) w F' L' (b' ++ l') w' ∧ b'.length = b.length ∧ (y = .sl id (ver + 1) 0 (n - 1) ∧ b' = hsetB b id (.live (ver + 1) sz (els.take i ++ els.drop (i + 1))) ∧ l' = hsetL b l id (.live (ver + 1) sz (els.take i ++ els.drop (i + 1)))) := by
 obtain ⟨⟨cur, T, rfl, h2, h5, h6⟩, h8, h9, h10, h11, h12⟩ := h
 have hidl : id < (b ++ l).length := (List.getElem?_eq_some_iff.1 hid).1
 have hin := Nat.mul_le_mul_right sz (show i ≤ n by omega)
 have hin1 := Nat.mul_le_mul_right sz (show i + 1 ≤ n by omega)
 have hA : (O.extract 0 (i * sz)).size = i * sz := by rw [Array.size_extract, hO]; omega
 have hlen : (els.take i ++ els.drop (i + 1)).length = n - 1 := by simp; omega
 obtain ⟨L', r1, r2, r3, r4⟩ := s.putRow (h' := (b ++ l).set id (.live (ver + 1) sz (els.take i ++ els.drop (i + 1)))) (w' := w')
  id (ver + 1) sz blk o c (els.take i ++ els.drop (i + 1)) h9 h10 h11 oM (fun k _ hk => h8 k hk) (.inr ⟨_, _, _, _, _, _, hid, hL⟩)
  (List.getElem?_set_self hidl) (fun j hj => List.getElem?_set_ne (Ne.symm hj)) (fun r hr => by rw [hid] at hr; cases hr; exact ⟨Nat.le_succ _, _, _, _, rfl⟩) (.inl (fresh_succ s hid))
  (by rw [hlen]; omega) hc cur T h2 h5
  (fun k row hk => by
   rcases getD1 oM hk with ⟨_, h⟩ | ⟨_, h⟩
   ·exact hOr.1 _ _ h
   ·exact hOr.1 _ _ h)
  (fun k row j cc hk hj => by
   rcases getD1 oM hk with ⟨hki, h⟩ | ⟨hki, h⟩
   ·obtain ⟨q1, u, q2, q3⟩ := hOr.2 _ _ j cc h hj
    have hjl : j < sz := by rw [← hOr.1 _ _ h]; exact (List.getElem?_eq_some_iff.1 hj).1
    have := elem_le (sz := sz) (j := j) (n := 1) hki oM
    refine ⟨q1, u, ?_, q3⟩
    rw [Nat.add_assoc]
    refine h6 _ _ ?_
    rw [Array.getElem?_append_left oM, Array.getElem?_extract, if_pos oM, Nat.zero_add]
    exact q2
   ·obtain ⟨q1, u, q2, q3⟩ := hOr.2 _ _ j cc h hj
    have hjl : j < sz := by rw [← hOr.1 _ _ h]; exact (List.getElem?_eq_some_iff.1 hj).1
    have hkn : k + 1 < n := by rw [← hn]; exact (List.getElem?_eq_some_iff.1 h).1
    have e1 : (k + 1) * sz = k * sz + sz := Nat.succ_mul k sz
    have e3 : (i + 1) * sz = i * sz + sz := Nat.succ_mul i sz
    have e2 := Nat.mul_le_mul_right sz hki
    have := elem_le (sz := sz) (j := j) (n := 1) hkn oM
    refine ⟨q1, u, ?_, q3⟩
    rw [Nat.add_assoc]
    refine h6 _ _ ?_
    rw [Array.getElem?_append_right oM, hA, Array.getElem?_extract, if_pos oM, show (i + 1) * sz + (k * sz + j - i * sz) = (k + 1) * sz + j by omega]
    exact q2)
 refine ⟨_, _, _, _, F, L', rfl, ?_, by rw [hset_eq]; exact r1, by rw [hset_eq]; exact r2, hsetB_len _ _ _, rfl, rfl, rfl⟩
 have := RepA.sl (w := w') (F := F) id (ver + 1) 0 (n - 1) _ _ _ _ r3 oM hc
 simpa using this
end

theorem insI_run (id ver i idv verv : Nat) (els : List (List AV)) (x : List AV) (b l : List Row) (hid : (b ++ l)[id]? = some (.live ver 1 els)) (hv : (b ++ l)[idv]? = some (.live verv 1 [x])) (hne : idv ≠ id) (hn : els.length ≤ 1000000) (hi : i ≤ els.length) :
  ACalls Try.prog 97 [.sl id ver 0 els.length, .v (.int .i64 i), .sl idv verv 0 1] b l (fun r b' l' => r = .sl id (ver + 1) 0 (els.length + 1) ∧ b' = hsetB b id (.live (ver + 1) 1 (els.take i ++ [x] ++ els.drop i)) ∧ l' = hsetL b l id (.live (ver + 1) 1 (els.take i ++ [x] ++ els.drop i))) := by
 refine ⟨⟨_, Try.func97, by kernel_rfl, by kernel_rfl⟩, fun F L w us s hr => ?_⟩
 obtain ⟨u, v, t, hus, h1, h2, h3⟩ := repl3 hr
 obtain rfl : us = #[u, v, t] := by cases us; simp_all
 cases h2.vI
 obtain ⟨lc, k1, k2⟩ := s.row _ _ _ _ hid
 obtain ⟨lv, m1, m2⟩ := s.row _ _ _ _ hv
 obtain ⟨n, hnn⟩ : ∃ n, els.length = n := ⟨_, rfl⟩
 rw [hnn] at h1 hn hi
 rw [hnn]
 cases h3 with
 | sl _ _ _ _ bv ov zv capv hLv g1 g2 =>
   rw [m1] at hLv; cases hLv
   obtain ⟨rfl, m3, m4, curv, Tv, m5, m6, m7, m8⟩ := m2
   obtain ⟨X, x1, x2, x3, x4⟩ := news_at (w := w) (F := F) (L := L) (xs := [x]) (blk := bv) (p := ov) (by decide) m7 (fun k row j c hk hj => by
    obtain ⟨c1, u, hu, hr⟩ := m8 k row j c hk hj
    exact ⟨c1, u, by simp only [World.cell?, m5]; exact hu, hr⟩)
   have x1' : X.size = 1 := by simpa using x1
   have x4' : ∀ j u, X[j]? = some u → curv[ov + j]? = some u := fun j u hj => by
    have := x4 j u hj
    simp only [World.cell?, m5] at this
    exact this
   simp only [Nat.zero_mul, Nat.add_zero, Nat.sub_zero]
   have empty : ∀ (base : Option Addr) (blk : Nat), n = 0 → ((∃ o c, L id ver = some (.pl blk o 1 c)) ∨ w.heap.size ≤ blk) → Calls Try.prog 97 #[.slice base 0 0, .int .i64 (i : Nat), .slice (some ⟨bv, ov, none⟩) 1 capv] w fun en w' => ∃ v y b' l' F' L', en = .returned v ∧ RepA w' F' L' y v ∧ Sim F' L' (b' ++ l') w' ∧ Step (b ++ l).length F L (b ++ l) w F' L' (b' ++ l') w' ∧ b'.length = b.length ∧ (y = .sl id (ver + 1) 0 (n + 1) ∧ b' = hsetB b id (.live (ver + 1) 1 (els.take i ++ [x] ++ els.drop i)) ∧ l' = hsetL b l id (.live (ver + 1) 1 (els.take i ++ [x] ++ els.drop i))) := by
    intro base blk h0 hblk
    subst h0
    obtain rfl : i = 0 := by omega
    have hels : els = [] := List.eq_nil_of_length_eq_zero hnn
    have hOr : RepE w F L 1 els #[] := by rw [hels]; exact ⟨fun k row h => by simp at h, fun k row j c h => by simp at h⟩
    refine (insE2I_spec blk 0 0 bv ov capv base X w oM oM x1' x4 x3 #[] (by simp) (by cases base <;> simp [Builtin.firstCells, loadCells, loadCellsFrom])).mono (fun e w' h => ?_)
    have hN : (#[] : Array Value).extract 0 (0 * 1) ++ X ++ (#[] : Array Value).extract (0 * 1) (0 * 1) = #[] ++ X := by simp
    exact ins_rows s (by decide) hid hnn (Nat.le_refl _) (O := #[]) (by simp) x1' hOr x2 hblk (hN ▸ h)
   cases h1 with
   | sl _ _ _ _ b1 o1 z1 cap1 hL f1 f2 =>
     rw [k1] at hL; cases hL
     obtain ⟨rfl, k3, k4, cur, T, k5, k6, k7, k8⟩ := k2
     obtain ⟨O, p1, p2, p3, p4⟩ := news_at (w := w) (F := F) (L := L) (xs := els) (blk := b1) (p := o1) (by decide) k7 (fun k row j c hk hj => by
      obtain ⟨c1, u, hu, hr⟩ := k8 k row j c hk hj
      exact ⟨c1, u, by simp only [World.cell?, k5]; exact hu, hr⟩)
     rw [hnn] at p1
     have p4' : ∀ j u, O[j]? = some u → cur[o1 + j]? = some u := fun j u hj => by
      have := p4 j u hj
      simp only [World.cell?, k5] at this
      exact this
     simp only [Nat.zero_mul, Nat.add_zero, Nat.sub_zero]
     have hne2 : bv ≠ b1 := fun e => hne (s.apart _ _ _ _ _ _ _ _ b1 _ _ hv hid m1 k1 e rfl)
     have fin : ∀ e w', InsPost w b1 1 n (O.extract 0 (i * 1) ++ X ++ O.extract (i * 1) (n * 1)) e w' → _ := fun e w' h => ins_rows s (by decide) hid hnn hi p1 x1' p2 x2 (.inl ⟨_, _, k1⟩) h
     have hN : O.extract 0 (n * 1) ++ X ++ O.extract (n * 1) (n * 1) = O ++ X := by rw [← p1]; simp
     by_cases hin : i = n
     ·subst hin
      by_cases hroom : i + 1 ≤ cap1
      ·exact (insE1I_spec b1 o1 i cap1 bv ov capv cur X T w k5 hroom k4 k6 x1' x4 x3 O p1 p4').mono (fun e w' h => fin e w' (hN.symm ▸ h))
      ·refine (insE2I_spec b1 i cap1 bv ov capv (some ⟨b1, o1, none⟩) X w oM hn x1' x4 x3 O p1 ?_).mono (fun e w' h => fin e w' (hN.symm ▸ h))
       have := firstCells_at (P := Try.prog) (w := w) (sz := 1) (n := i) (len := i) (cap := cap1) p4 oM (w2 := w.drew) rfl
       rwa [← p1, Array.extract_size] at this
     ·by_cases hroom : n + 1 ≤ cap1
      ·exact (insSI_spec b1 o1 n cap1 i bv ov capv cur X curv T Tv w k5 m5 hne2 oM hroom k4 k6 hn x1' x4' x3 O p1 p4' p3).mono fin
      ·exact (insGI_spec b1 o1 n cap1 i bv ov capv cur X T w k5 oM oM oM hn x1' x4 x3 O p1 p4 p3).mono fin
   | slz _ _ _ b1 o1 z1 cap1 x1 hL hoff =>
     rw [k1] at hL; cases hL
     obtain ⟨rfl, _⟩ := k2
     exact empty (some ⟨b1, x1, none⟩) b1 rfl (.inl ⟨o1, cap1, k1⟩)
   | sln _ _ ad hL =>
     exact empty ad w.heap.size rfl (.inr (Nat.le_refl _))
theorem delI_run (id ver i : Nat) (els : List (List AV)) (b l : List Row) (hid : (b ++ l)[id]? = some (.live ver 1 els)) (hi : i < els.length) :
  ACalls Try.prog 103 [.sl id ver 0 els.length, .v (.int .i64 i), .v (.int .i64 ((i : Int) + 1))] b l (fun r b' l' => r = .sl id (ver + 1) 0 (els.length - 1) ∧ b' = hsetB b id (.live (ver + 1) 1 (els.take i ++ els.drop (i + 1))) ∧ l' = hsetL b l id (.live (ver + 1) 1 (els.take i ++ els.drop (i + 1)))) := by
 refine ⟨⟨_, Try.func103, by kernel_rfl, by kernel_rfl⟩, fun F L w us s hr => ?_⟩
 obtain ⟨u, v, t, hus, h1, h2, h3⟩ := repl3 hr
 obtain rfl : us = #[u, v, t] := by cases us; simp_all
 cases h2.vI
 cases h3.vI
 obtain ⟨lc, k1, k2⟩ := s.row _ _ _ _ hid
 obtain ⟨n, hnn⟩ : ∃ n, els.length = n := ⟨_, rfl⟩
 rw [hnn] at h1 hi
 rw [hnn]
 cases h1 with
 | sl _ _ _ _ b1 o1 z1 cap1 hL f1 f2 =>
   rw [k1] at hL; cases hL
   obtain ⟨rfl, k3, k4, cur, T, k5, k6, k7, k8⟩ := k2
   obtain ⟨O, p1, p2, p3, p4⟩ := news_at (w := w) (F := F) (L := L) (xs := els) (blk := b1) (p := o1) (by decide) k7 (fun k row j c hk hj => by
    obtain ⟨c1, u, hu, hr⟩ := k8 k row j c hk hj
    exact ⟨c1, u, by simp only [World.cell?, k5]; exact hu, hr⟩)
   rw [hnn] at p1
   have p4' : ∀ j u, O[j]? = some u → cur[o1 + j]? = some u := fun j u hj => by
    have := p4 j u hj
    simp only [World.cell?, k5] at this
    exact this
   simp only [Nat.zero_mul, Nat.add_zero, Nat.sub_zero]
   exact (delI_spec b1 o1 n cap1 i cur T w k5 hi oM k4 k6 O p1 p4' p3).mono (fun e w' h => del_rows s (by decide) hid hnn hi p1 p2 k1 oM k4 h)
 | slz => omega
 | sln => omega

theorem insM_run (id ver i idv verv : Nat) (els : List (List AV)) (x : List AV) (b l : List Row) (hid : (b ++ l)[id]? = some (.live ver 4 els)) (hv : (b ++ l)[idv]? = some (.live verv 4 [x])) (hne : idv ≠ id) (hn : els.length ≤ 1000000) (hi : i ≤ els.length) :
  ACalls Try.prog 95 [.sl id ver 0 els.length, .v (.int .i64 i), .sl idv verv 0 1] b l (fun r b' l' => r = .sl id (ver + 1) 0 (els.length + 1) ∧ b' = hsetB b id (.live (ver + 1) 4 (els.take i ++ [x] ++ els.drop i)) ∧ l' = hsetL b l id (.live (ver + 1) 4 (els.take i ++ [x] ++ els.drop i))) := by
 refine ⟨⟨_, Try.func95, by kernel_rfl, by kernel_rfl⟩, fun F L w us s hr => ?_⟩
 obtain ⟨u, v, t, hus, h1, h2, h3⟩ := repl3 hr
 obtain rfl : us = #[u, v, t] := by cases us; simp_all
 cases h2.vI
 obtain ⟨lc, k1, k2⟩ := s.row _ _ _ _ hid
 obtain ⟨lv, m1, m2⟩ := s.row _ _ _ _ hv
 obtain ⟨n, hnn⟩ : ∃ n, els.length = n := ⟨_, rfl⟩
 rw [hnn] at h1 hn hi
 rw [hnn]
 cases h3 with
 | sl _ _ _ _ bv ov zv capv hLv g1 g2 =>
   rw [m1] at hLv; cases hLv
   obtain ⟨rfl, m3, m4, curv, Tv, m5, m6, m7, m8⟩ := m2
   obtain ⟨X, x1, x2, x3, x4⟩ := news_at (w := w) (F := F) (L := L) (xs := [x]) (blk := bv) (p := ov) (by decide) m7 (fun k row j c hk hj => by
    obtain ⟨c1, u, hu, hr⟩ := m8 k row j c hk hj
    exact ⟨c1, u, by simp only [World.cell?, m5]; exact hu, hr⟩)
   have x1' : X.size = 4 := by simpa using x1
   have x4' : ∀ j u, X[j]? = some u → curv[ov + j]? = some u := fun j u hj => by
    have := x4 j u hj
    simp only [World.cell?, m5] at this
    exact this
   simp only [Nat.zero_mul, Nat.add_zero, Nat.sub_zero]
   have empty : ∀ (base : Option Addr) (blk : Nat), n = 0 → ((∃ o c, L id ver = some (.pl blk o 4 c)) ∨ w.heap.size ≤ blk) → Calls Try.prog 95 #[.slice base 0 0, .int .i64 (i : Nat), .slice (some ⟨bv, ov, none⟩) 1 capv] w fun en w' => ∃ v y b' l' F' L', en = .returned v ∧ RepA w' F' L' y v ∧ Sim F' L' (b' ++ l') w' ∧ Step (b ++ l).length F L (b ++ l) w F' L' (b' ++ l') w' ∧ b'.length = b.length ∧ (y = .sl id (ver + 1) 0 (n + 1) ∧ b' = hsetB b id (.live (ver + 1) 4 (els.take i ++ [x] ++ els.drop i)) ∧ l' = hsetL b l id (.live (ver + 1) 4 (els.take i ++ [x] ++ els.drop i))) := by
    intro base blk h0 hblk
    subst h0
    obtain rfl : i = 0 := by omega
    have hels : els = [] := List.eq_nil_of_length_eq_zero hnn
    have hOr : RepE w F L 4 els #[] := by rw [hels]; exact ⟨fun k row h => by simp at h, fun k row j c h => by simp at h⟩
    refine (insE2M_spec blk 0 0 bv ov capv base X w oM oM x1' x4 x3 #[] (by simp) (by cases base <;> simp [Builtin.firstCells, loadCells, loadCellsFrom])).mono (fun e w' h => ?_)
    have hN : (#[] : Array Value).extract 0 (0 * 4) ++ X ++ (#[] : Array Value).extract (0 * 4) (0 * 4) = #[] ++ X := by simp
    exact ins_rows s (by decide) hid hnn (Nat.le_refl _) (O := #[]) (by simp) x1' hOr x2 hblk (hN ▸ h)
   cases h1 with
   | sl _ _ _ _ b1 o1 z1 cap1 hL f1 f2 =>
     rw [k1] at hL; cases hL
     obtain ⟨rfl, k3, k4, cur, T, k5, k6, k7, k8⟩ := k2
     obtain ⟨O, p1, p2, p3, p4⟩ := news_at (w := w) (F := F) (L := L) (xs := els) (blk := b1) (p := o1) (by decide) k7 (fun k row j c hk hj => by
      obtain ⟨c1, u, hu, hr⟩ := k8 k row j c hk hj
      exact ⟨c1, u, by simp only [World.cell?, k5]; exact hu, hr⟩)
     rw [hnn] at p1
     have p4' : ∀ j u, O[j]? = some u → cur[o1 + j]? = some u := fun j u hj => by
      have := p4 j u hj
      simp only [World.cell?, k5] at this
      exact this
     simp only [Nat.zero_mul, Nat.add_zero, Nat.sub_zero]
     have hne2 : bv ≠ b1 := fun e => hne (s.apart _ _ _ _ _ _ _ _ b1 _ _ hv hid m1 k1 e rfl)
     have fin : ∀ e w', InsPost w b1 4 n (O.extract 0 (i * 4) ++ X ++ O.extract (i * 4) (n * 4)) e w' → _ := fun e w' h => ins_rows s (by decide) hid hnn hi p1 x1' p2 x2 (.inl ⟨_, _, k1⟩) h
     have hN : O.extract 0 (n * 4) ++ X ++ O.extract (n * 4) (n * 4) = O ++ X := by rw [← p1]; simp
     by_cases hin : i = n
     ·subst hin
      by_cases hroom : i + 1 ≤ cap1
      ·exact (insE1M_spec b1 o1 i cap1 bv ov capv cur X T w k5 hroom k4 k6 x1' x4 x3 O p1 p4').mono (fun e w' h => fin e w' (hN.symm ▸ h))
      ·refine (insE2M_spec b1 i cap1 bv ov capv (some ⟨b1, o1, none⟩) X w oM hn x1' x4 x3 O p1 ?_).mono (fun e w' h => fin e w' (hN.symm ▸ h))
       have := firstCells_at (P := Try.prog) (w := w) (sz := 4) (n := i) (len := i) (cap := cap1) p4 oM (w2 := w.drew) rfl
       rwa [← p1, Array.extract_size] at this
     ·by_cases hroom : n + 1 ≤ cap1
      ·exact (insSM_spec b1 o1 n cap1 i bv ov capv cur X curv T Tv w k5 m5 hne2 oM hroom k4 k6 hn x1' x4' x3 O p1 p4' p3).mono fin
      ·exact (insGM_spec b1 o1 n cap1 i bv ov capv cur X T w k5 oM oM oM hn x1' x4 x3 O p1 p4 p3).mono fin
   | slz _ _ _ b1 o1 z1 cap1 x1 hL hoff =>
     rw [k1] at hL; cases hL
     obtain ⟨rfl, _⟩ := k2
     exact empty (some ⟨b1, x1, none⟩) b1 rfl (.inl ⟨o1, cap1, k1⟩)
   | sln _ _ ad hL =>
     exact empty ad w.heap.size rfl (.inr (Nat.le_refl _))
theorem delM_run (id ver i : Nat) (els : List (List AV)) (b l : List Row) (hid : (b ++ l)[id]? = some (.live ver 4 els)) (hi : i < els.length) :
  ACalls Try.prog 102 [.sl id ver 0 els.length, .v (.int .i64 i), .v (.int .i64 ((i : Int) + 1))] b l (fun r b' l' => r = .sl id (ver + 1) 0 (els.length - 1) ∧ b' = hsetB b id (.live (ver + 1) 4 (els.take i ++ els.drop (i + 1))) ∧ l' = hsetL b l id (.live (ver + 1) 4 (els.take i ++ els.drop (i + 1)))) := by
 refine ⟨⟨_, Try.func102, by kernel_rfl, by kernel_rfl⟩, fun F L w us s hr => ?_⟩
 obtain ⟨u, v, t, hus, h1, h2, h3⟩ := repl3 hr
 obtain rfl : us = #[u, v, t] := by cases us; simp_all
 cases h2.vI
 cases h3.vI
 obtain ⟨lc, k1, k2⟩ := s.row _ _ _ _ hid
 obtain ⟨n, hnn⟩ : ∃ n, els.length = n := ⟨_, rfl⟩
 rw [hnn] at h1 hi
 rw [hnn]
 cases h1 with
 | sl _ _ _ _ b1 o1 z1 cap1 hL f1 f2 =>
   rw [k1] at hL; cases hL
   obtain ⟨rfl, k3, k4, cur, T, k5, k6, k7, k8⟩ := k2
   obtain ⟨O, p1, p2, p3, p4⟩ := news_at (w := w) (F := F) (L := L) (xs := els) (blk := b1) (p := o1) (by decide) k7 (fun k row j c hk hj => by
    obtain ⟨c1, u, hu, hr⟩ := k8 k row j c hk hj
    exact ⟨c1, u, by simp only [World.cell?, k5]; exact hu, hr⟩)
   rw [hnn] at p1
   have p4' : ∀ j u, O[j]? = some u → cur[o1 + j]? = some u := fun j u hj => by
    have := p4 j u hj
    simp only [World.cell?, k5] at this
    exact this
   simp only [Nat.zero_mul, Nat.add_zero, Nat.sub_zero]
   exact (delM_spec b1 o1 n cap1 i cur T w k5 hi oM k4 k6 O p1 p4' p3).mono (fun e w' h => del_rows s (by decide) hid hnn hi p1 p2 k1 oM k4 h)
 | slz => omega
 | sln => omega
end Go.Proofs.Ytilcmenglgdljaa
