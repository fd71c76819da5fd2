/- Texts of one proof, laid together: N1, N2, N3, N4, N5, NE. No condition. -/
import Derived.Test.YtpkemmchpccjdaaND2
import Derived.Test.YtpkemmchpccjdaaND7
import Derived.Test.YtpkemmchpccjdaaProg
import Derived.KernelRfl
import Derived.Shelf.Spec.SlicesInsert
import Derived.Lib.AppendZerosOnto
namespace Go.Proofs.Ytpkemmchpccjdaa
open Go.Lib Go.RowKit
set_option linter.unusedVariables false
set_option linter.unusedSimpArgs false
section
variable {P : Program} {w : World}
def spl (cur : Array Value) (p : Nat) (xs : List Value) : Array Value := (cur.toList.take p ++ xs ++ cur.toList.drop (p + xs.length)).toArray
theorem spl_size {cur : Array Value} {p : Nat} {xs : List Value} (h : p + xs.length ≤ cur.size) : (spl cur p xs).size = cur.size := by
 unfold spl
 simp only [List.size_toArray, List.length_append, List.length_take, List.length_drop, Array.length_toList]
 omega
theorem spl_get {cur : Array Value} {p : Nat} {xs : List Value} (h : p + xs.length ≤ cur.size) (i : Nat) : (spl cur p xs)[i]? = if p ≤ i ∧ i < p + xs.length then xs[i - p]? else cur[i]? := by
 unfold spl
 have := splice_get cur.toList xs p i (by simpa using h)
 simp only [List.getElem?_toArray]
 rw [this]
 simp
theorem run_copy_at {t u el ty : TypeId} {sz : Nat} (ht : P.underlying t = some (.slice el)) (hs : sizT P el = some sz) {blk p n c m : Nat} {vx : Value} {news cur : Array Value} {T : TypeId}
  (hl : (Builtin.lenOf vx).run P w = .ok m w) (hf : (Builtin.firstCells sz (min m n) vx).run P w = .ok news w) (hcur : w.heap[blk]? = some (.cells cur T (0, 0))) (hfit : p + news.size ≤ cur.size) (h1 : ∀ u ∈ news.toList, u.oneCell' = true) :
  (Builtin.copy_ #[t, u] ty #[.slice (some ⟨blk, p, none⟩) n c, vx]).run P w = .ok (goInt (min m n : Nat)) (w.setRow blk (spl cur p news.toList)) := by
 have hst := run_storeCells_at P blk p T news.toList 0 cur w hcur (by simpa using hfit) h1
 simp only [Nat.add_zero] at hst
 have hmin : Nat.min m n = min m n := rfl
 simp only [Builtin.copy_, run_underlying ht, run_sizeOf hs, hl, Sem.run_bind, Result.andThen_ok, hmin, hf, hst, Sem.run_pure, List.getElem?_toArray, List.getElem?_cons_zero, List.getElem?_cons_succ]
 rfl
structure InsPost (w : World) (b sz n : Nat) (N : Array Value) (e : Ending) (w' : World) : Prop where
 out : ∃ blk o cap cur T, e = .returned (.slice (some ⟨blk, o, none⟩) (n + 1) cap) ∧ w'.heap[blk]? = some (.cells cur T (0, 0)) ∧ n + 1 ≤ cap ∧ cap ≤ maxLen ∧ o + cap * sz ≤ cur.size ∧
  (∀ j v, N[j]? = some v → cur[o + j]? = some v) ∧ (blk = b ∨ w.heap.size ≤ blk) ∧ ∀ k, k < w.heap.size → k ≠ blk → w'.heap[k]? = w.heap[k]?
 os : w'.os = w.os
 tape : w'.tape = w.tape
 output : w'.output = w.output
 size : w.heap.size ≤ w'.heap.size
end
set_option maxHeartbeats 4000000 in
set_option maxRecDepth 100000 in
theorem insE1I_spec (b o n c vb vo vc : Nat) (cur X : Array Value) (T : TypeId) (w : World) (hb : w.heap[b]? = some (.cells cur T (0, 0))) (hroom : n + 1 ≤ c) (hc : c ≤ maxLen) (hfit : o + c * 1 ≤ cur.size)
  (hX : X.size = 1) (hXc : ∀ j u, X[j]? = some u → w.cell? ⟨vb, vo + j, none⟩ = some u) (hX1 : ∀ u ∈ X.toList, u.oneCell' = true) (O : Array Value) (hO : O.size = n * 1) (hOc : ∀ j u, O[j]? = some u → cur[o + j]? = some u) :
  Calls Try.prog 30 #[.slice (some ⟨b, o, none⟩) n c, .int .i64 n, .slice (some ⟨vb, vo, none⟩) 1 vc] w fun e w' => InsPost w b 1 n (O ++ X) e w' := by
 have ht := Try.underlying27
 have hs : sizT Try.prog 3 = some 1 := by kernel_rfl
 have hfc : (Builtin.firstCells 1 1 (.slice (some ⟨vb, vo, none⟩) 1 vc)).run Try.prog w = .ok X w := by
  have := firstCells_at (P := Try.prog) (w := w) (sz := 1) (n := 1) (len := 1) (cap := vc) hXc oM (w2 := w) rfl
  rwa [show 1 * 1 = X.size by omega, Array.extract_size] at this
 obtain ⟨W1, hW1⟩ : ∃ W1, w.setRow b (spl cur (o + n * 1) X.toList) = W1 := ⟨_, rfl⟩
 have hrun : ∀ ty, (Builtin.append_ #[27, 27] ty #[.slice (some ⟨b, o, none⟩) n c, .slice (some ⟨vb, vo, none⟩) 1 vc]).run Try.prog w = .ok (.slice (some ⟨b, o, none⟩) (n + 1) c) W1 := fun ty => by
  rw [← hW1]
  exact run_append_at (sz := 1) (m := 1) (vx := .slice (some ⟨vb, vo, none⟩) 1 vc) (news := X) ht ht rfl hs (by simp [Builtin.lenOf]) hfc oM hroom hb oM hX1
 go_enter Try.func30, Try.ntmps30
 go_wp2_with (at_builtin; refine Lib.wpList_append_run _ rfl _ _ _ _ rfl _ _ rfl rfl _ _ (hrun _) ?_)
 go_ret
 subst hW1
 have hsz := spl_size (cur := cur) (p := o + n * 1) (xs := X.toList) (by simp; omega)
 refine ⟨⟨b, o, c, _, T, rfl, setRow_heap w b cur _ T _ hb, hroom, hc, by rw [hsz]; exact hfit, fun j v hj => ?_, .inl rfl, fun k _ hk => setRow_other w b k _ hk⟩, rfl, rfl, rfl, by simp [World.setRow]⟩
 rw [spl_get (by simp; omega)]
 by_cases hjn : j < n * 1
 ·rw [if_neg oM]
  rw [Array.getElem?_append_left oM] at hj
  exact hOc j v hj
 ·rw [Array.getElem?_append_right oM, hO] at hj
  have hjl := (Array.getElem?_eq_some_iff.1 hj).1
  rw [if_pos (by simp; omega), show o + j - (o + n * 1) = j - n * 1 by omega]
  simpa using hj
set_option maxHeartbeats 4000000 in
set_option maxRecDepth 100000 in
theorem insE2I_spec (b n c vb vo vc : Nat) (base : Option Addr) (X : Array Value) (w : World) (hroom : c < n + 1) (hn : n ≤ 1000000) (hX : X.size = 1) (hXc : ∀ j u, X[j]? = some u → w.cell? ⟨vb, vo + j, none⟩ = some u) (hX1 : ∀ u ∈ X.toList, u.oneCell' = true)
  (O : Array Value) (hO : O.size = n * 1) (hOf : (Builtin.firstCells 1 n (.slice base n c)).run Try.prog w.drew = .ok O w.drew) :
  Calls Try.prog 30 #[.slice base n c, .int .i64 n, .slice (some ⟨vb, vo, none⟩) 1 vc] w fun e w' => InsPost w b 1 n (O ++ X) e w' := by
 have ht := Try.underlying27
 have hs : sizT Try.prog 3 = some 1 := by kernel_rfl
 have hby : bytT Try.prog 3 = some 8 := by kernel_rfl
 have hz : zeroT Try.prog 3 = some [.v (.int .i64 0)] := by kernel_rfl
 obtain ⟨i, zv, hi, hzz, hzc⟩ := zeroT_spec hz
 have hbz : i.bytes = 8 := by simp [bytT, hi] at hby; exact hby
 have hfc : (Builtin.firstCells 1 1 (.slice (some ⟨vb, vo, none⟩) 1 vc)).run Try.prog w.drew = .ok X w.drew := by
  have := firstCells_at (P := Try.prog) (w := w) (sz := 1) (n := 1) (len := 1) (cap := vc) hXc oM (w2 := w.drew) rfl
  rwa [show 1 * 1 = X.size by omega, Array.extract_size] at this
 obtain ⟨W1, hW1⟩ : ∃ W1, w.drew.alloc (.cells (O ++ X ++ Builtin.zeroCells zv.cells (grownCap w (n + 1) c 3 - (n + 1))) 3) = W1 := ⟨_, rfl⟩
 obtain ⟨G, hG⟩ : ∃ G, grownCap w (n + 1) c 3 = G := ⟨_, rfl⟩
 have hrun : ∀ ty, (Builtin.append_ #[27, 27] ty #[.slice base n c, .slice (some ⟨vb, vo, none⟩) 1 vc]).run Try.prog w = .ok (.slice (some ⟨w.heap.size, 0, none⟩) (n + 1) G) W1 := fun ty => by
  rw [← hW1, ← hG]
  exact run_append_new (sz := 1) (m := 1) (vx := .slice (some ⟨vb, vo, none⟩) 1 vc) (news := X) (olds := O) ht ht rfl hs hi hzz hbz (by simp [Builtin.lenOf]) hfc hOf hroom oM oM (by decide)
 have hge := grownCap_ge w (n + 1) c 3
 have hcm : grownCap w (n + 1) c 3 ≤ maxLen := grownCap_le_maxLen w _ c _ (by unfold maxLen; omega)
 have hzl : zv.cells.size = 1 := by
  obtain ⟨c1, c2⟩ := cvL_rep (w := w) (F := fun _ => False) (L := fun _ _ => none) hzc
  have := c1.1; simp at this; omega
 have fin : InsPost w b 1 n (O ++ X) (.returned (.slice (some ⟨w.heap.size, 0, none⟩) (n + 1) G)) W1 := by
  rw [← hW1, ← hG]
  refine ⟨⟨w.heap.size, 0, _, _, _, rfl, heap_alloc_new w.drew _, hge, hcm, ?_, fun j v hj => ?_, .inr (Nat.le_refl _), fun k hk _ => heap_alloc_old w.drew _ hk⟩, rfl, rfl, rfl, by simp⟩
  ·rw [Array.size_append, Array.size_append, size_zeroCells, hO, hX, hzl, Nat.zero_add, ← Nat.add_one_mul, ← Nat.add_mul]
   exact Nat.mul_le_mul_right _ oM
  ·rw [Nat.zero_add, Array.getElem?_append_left (Array.getElem?_eq_some_iff.1 hj).1]
   exact hj
 go_enter Try.func30, Try.ntmps30
 cases base with
 | none =>
   go_wp2_with (at_builtin; refine Lib.wpList_append_run _ rfl _ _ _ _ rfl _ _ rfl rfl _ _ (hrun _) ?_)
   all_goals (go_ret; exact fin)
 | some a =>
   obtain ⟨ab, ao, asp⟩ := a
   go_wp2_with (at_builtin; refine Lib.wpList_append_run _ rfl _ _ _ _ rfl _ _ rfl rfl _ _ (hrun _) ?_)
   all_goals (go_ret; exact fin)
set_option maxHeartbeats 4000000 in
set_option maxRecDepth 100000 in
theorem insGI_spec (b o n c i vb vo vc : Nat) (cur X : Array Value) (T : TypeId) (w : World) (hb : w.heap[b]? = some (.cells cur T (0, 0))) (hi : i < n) (hnc : n ≤ c) (hroom : c < n + 1) (hn : n ≤ 1000000) (hX : X.size = 1) (hXc : ∀ j u, X[j]? = some u → w.cell? ⟨vb, vo + j, none⟩ = some u) (hX1 : ∀ u ∈ X.toList, u.oneCell' = true)
  (O : Array Value) (hO : O.size = n * 1) (hOc : ∀ j u, O[j]? = some u → w.cell? ⟨b, o + j, none⟩ = some u) (hO1 : ∀ u ∈ O.toList, u.oneCell' = true) :
  Calls Try.prog 30 #[.slice (some ⟨b, o, none⟩) n c, .int .i64 i, .slice (some ⟨vb, vo, none⟩) 1 vc] w fun e w' => InsPost w b 1 n (O.extract 0 (i * 1) ++ X ++ O.extract (i * 1) (n * 1)) e w' := by
 have ht := Try.underlying27
 have hti := Try.underlying3
 have hs : sizT Try.prog 3 = some 1 := by kernel_rfl
 have hby : bytT Try.prog 3 = some 8 := by kernel_rfl
 have hz : zeroT Try.prog 3 = some [.v (.int .i64 0)] := by kernel_rfl
 obtain ⟨inf, zv, hinf, hzz, hzc⟩ := zeroT_spec hz
 have hbz : inf.bytes = 8 := by simp [bytT, hinf] at hby; exact hby
 have hsz : inf.size = 1 := by simp [sizT, hinf] at hs; exact hs
 have hzl : zv.cells.size = 1 := by
  obtain ⟨c1, c2⟩ := cvL_rep (w := w) (F := fun _ => False) (L := fun _ _ => none) hzc
  have := c1.1; simp at this; omega
 have hbw : b < w.heap.size := (Array.getElem?_eq_some_iff.1 hb).1
 have hx0 : X[0]? = some X[0] := Array.getElem?_eq_getElem oM
 have hvw : vb < w.heap.size := block_lt_of_cell (hXc 0 _ hx0)
 have hold : (Builtin.firstCells inf.size i (.slice (some ⟨b, o, none⟩) i c)).run Try.prog w.drew = .ok (O.extract 0 (i * 1)).toList.toArray w.drew := by
  rw [hsz, Array.toArray_toList]
  exact firstCells_at (P := Try.prog) (w := w) (sz := 1) (n := i) (len := i) (cap := c) hOc oM (w2 := w.drew) rfl
 have hge := grownCap_ge w (n + 1) c 3
 have hcm : grownCap w (n + 1) c 3 ≤ maxLen := grownCap_le_maxLen w _ c _ (by unfold maxLen; omega)
 have hG63 := hcm
 unfold maxLen at hG63
 obtain ⟨G, hG⟩ : ∃ G, grownCap w (n + 1) c 3 = G := ⟨_, rfl⟩
 obtain ⟨ROW, hROW⟩ : ∃ ROW : Array Value, (O.extract 0 (i * 1)).toList.toArray ++ Builtin.zeroCells zv.cells (n + 1 - i) ++ Builtin.zeroCells zv.cells (G - (n + 1)) = ROW := ⟨_, rfl⟩
 obtain ⟨W1, hW1⟩ : ∃ W1, w.drew.alloc (.cells ROW 3) = W1 := ⟨_, rfl⟩
 have hik : i + (n + 1 - i) = n + 1 := by omega
 have hkk : (n : Int) + 1 - (i : Int) = ((n + 1 - i : Nat) : Int) := by omega
 have hrz : ∀ ty, (Builtin.append_ #[27, 3] ty #[.slice (some ⟨b, o, none⟩) i c, .int .i64 ((n : Int) + 1 - (i : Int))]).run Try.prog w = .ok (.slice (some ⟨w.heap.size, 0, none⟩) (n + 1) G) W1 := fun ty => by
  have h := Lib.run_append_grow_zeros w 27 3 ty 3 inf zv .i64 .i64 ht hti hinf hzz (some ⟨b, o, none⟩) i c _ hold (n + 1 - i) oM oM oM oM (by rw [hbz]; omega) (by rw [hbz, hik]; exact growslice_fits hroom oM)
  rw [hik] at h
  rw [hkk, h, ← hW1, ← hROW, ← hG]
 rw [hG] at hge hcm hG63
 have hRs : ROW.size = G * 1 := by
  rw [← hROW, Array.size_append, Array.size_append, size_zeroCells, size_zeroCells, hzl, List.size_toArray, Array.length_toList, Array.size_extract, hO]
  have : min (i * 1) (n * 1) - 0 = i * 1 := by omega
  rw [this, ← Nat.add_mul, ← Nat.add_mul]
  congr 1; omega
 have hRow1 : W1.heap[w.heap.size]? = some (.cells ROW 3 (0, 0)) := by rw [← hW1]; exact heap_alloc_new w.drew _
 have hOld1 : ∀ k, k < w.heap.size → W1.heap[k]? = w.heap[k]? := fun k hk => by rw [← hW1]; exact heap_alloc_old w.drew _ hk
 have hsz1 : W1.heap.size = w.heap.size + 1 := by rw [← hW1]; simp
 have hX1c : ∀ j u, X[j]? = some u → W1.cell? ⟨vb, vo + j, none⟩ = some u := fun j u hj => by
  have := hXc j u hj
  rwa [← World.cell?_of_block (hOld1 vb hvw)] at this
 have hfx : (Builtin.firstCells 1 (min 1 (n + 1 - i)) (.slice (some ⟨vb, vo, none⟩) 1 vc)).run Try.prog W1 = .ok X W1 := by
  have h1 : min 1 (n + 1 - i) = 1 := by omega
  rw [h1]
  have := firstCells_at (P := Try.prog) (w := W1) (sz := 1) (n := 1) (len := 1) (cap := vc) hX1c oM (w2 := W1) rfl
  rwa [show 1 * 1 = X.size by omega, Array.extract_size] at this
 obtain ⟨W2, hW2⟩ : ∃ W2, W1.setRow w.heap.size (spl ROW (i) X.toList) = W2 := ⟨_, rfl⟩
 have hmn1 : min 1 (n + 1 - i) = 1 := by omega
 have hGm : (i + 1) * 1 + (n - i) * 1 ≤ G * 1 := by rw [← Nat.add_mul]; exact Nat.mul_le_mul_right _ oM
 have hXl : X.toList.length = 1 := by simpa using hX
 have hcpA : ∀ ty dc, (Builtin.copy_ #[27, 27] ty #[.slice (some ⟨w.heap.size, i, none⟩) (n + 1 - i) dc, .slice (some ⟨vb, vo, none⟩) 1 vc]).run Try.prog W1 = .ok (goInt (1 : Nat)) W2 := fun ty dc => by
  have := run_copy_at (P := Try.prog) (w := W1) (t := 27) (u := 27) (ty := ty) ht hs (blk := w.heap.size) (p := i) (n := n + 1 - i) (c := dc) (m := 1) (vx := .slice (some ⟨vb, vo, none⟩) 1 vc) (by simp [Builtin.lenOf]) hfx hRow1 (by rw [hX, hRs]; omega) hX1
  rw [hmn1, hW2] at this
  exact this
 obtain ⟨R, hR⟩ : ∃ R, O.extract (i * 1) (n * 1) = R := ⟨_, rfl⟩
 have hRl : R.size = (n - i) * 1 := by rw [← hR, Array.size_extract, hO, Nat.sub_mul]; omega
 have hR1 : ∀ u ∈ R.toList, u.oneCell' = true := fun u hu => hO1 u (by
  rw [← hR, Array.toList_extract] at hu
  exact List.mem_of_mem_drop (List.mem_of_mem_take hu))
 have hRg : ∀ j u, R[j]? = some u → O[i * 1 + j]? = some u := fun j u hj => by
  rw [← hR, Array.getElem?_extract] at hj
  split at hj
  ·exact hj
  ·cases hj
 have hcur2 : W2.heap[w.heap.size]? = some (.cells (spl ROW (i) X.toList) 3 (0, 0)) := by rw [← hW2]; exact setRow_heap W1 _ ROW _ _ _ hRow1
 have hOld2 : ∀ k, k < w.heap.size → W2.heap[k]? = w.heap[k]? := fun k hk => by rw [← hW2, setRow_other W1 _ k _ oM]; exact hOld1 k hk
 have hR2c : ∀ j u, R[j]? = some u → W2.cell? ⟨b, (o + i) + j, none⟩ = some u := fun j u hj => by
  have := hOc _ u (hRg j u hj)
  rw [← World.cell?_of_block (hOld2 b hbw)] at this
  rwa [show o + (i * 1 + j) = o + i + j by omega] at this
 have hmn2 : min (n - i) (n + 1 - (i + 1)) = n - i := by omega
 have hfr : (Builtin.firstCells 1 (min (n - i) (n + 1 - (i + 1))) (.slice (some ⟨b, o + i, none⟩) (n - i) (c - i))).run Try.prog W2.drew = .ok R W2.drew := by
  rw [hmn2]
  have := firstCells_at (P := Try.prog) (w := W2) (sz := 1) (n := n - i) (len := n - i) (cap := c - i) hR2c oM (w2 := W2.drew) rfl
  rwa [show (n - i) * 1 = R.size by omega, Array.extract_size] at this
 have hss := spl_size (cur := ROW) (p := i) (xs := X.toList) (by rw [hXl, hRs]; omega)
 obtain ⟨W3, hW3⟩ : ∃ W3, W2.drew.setRow w.heap.size (spl (spl ROW (i) X.toList) ((i + 1)) R.toList) = W3 := ⟨_, rfl⟩
 have hcpB : ∀ ty dc, (Builtin.copy_ #[27, 27] ty #[.slice (some ⟨w.heap.size, (i + 1), none⟩) (n + 1 - (i + 1)) dc, .slice (some ⟨b, o + i, none⟩) (n - i) (c - i)]).run Try.prog W2.drew = .ok (goInt (n - i : Nat)) W3 := fun ty dc => by
  have := run_copy_at (P := Try.prog) (w := W2.drew) (t := 27) (u := 27) (ty := ty) ht hs (blk := w.heap.size) (p := (i + 1)) (n := n + 1 - (i + 1)) (c := dc) (m := n - i) (vx := .slice (some ⟨b, o + i, none⟩) (n - i) (c - i)) (by simp [Builtin.lenOf]) hfr hcur2 (by rw [hRl, hss, hRs]; omega) hR1
  rw [hmn2, hW3] at this
  exact this
 have hz2 : ¬ ((i : Int) = (n : Int)) := by omega
 have hz3 : (c : Int) < (n : Int) + 1 := by omega
 have hw1 : IntKind.i64.wrap ((i : Int) + 1) = (i : Int) + 1 := by rw [IntKind.wrap_i64]; omega
 have hw2 : IntKind.i64.wrap ((n : Int) + 1) = (n : Int) + 1 := by rw [IntKind.wrap_i64]; omega
 have hb1 : (0 : Int) ≤ (i : Int) + 1 := by omega
 have hin : i ≤ n := by omega
 have htn : ((i : Int) + 1).toNat = i + 1 := by omega
 have hb3 : (i : Int) ≤ (n : Int) := by omega
 have hGi : ¬ (G = i) := by omega
 have hGim : ¬ (G = i + 1) := by omega
 have hci : ¬ (c = i) := by omega
 have hRlen : R.toList.length = (n - i) * 1 := by simpa using hRl
 have fin : InsPost w b 1 n (O.extract 0 (i * 1) ++ X ++ R) (.returned (.slice (some ⟨w.heap.size, 0, none⟩) (n + 1) G)) W3 := by
  refine ⟨⟨w.heap.size, 0, G, _, _, rfl, by rw [← hW3]; exact setRow_heap W2.drew _ _ _ _ _ hcur2, hge, hcm, ?_, fun j v hj => ?_, .inr (Nat.le_refl _), fun k hk _ => by rw [← hW3, setRow_other W2.drew _ k _ oM]; exact hOld2 k hk⟩, ?_, ?_, ?_, ?_⟩
  ·rw [spl_size (by rw [hRlen, hss, hRs]; omega), hss, hRs]; omega
  ·rw [Nat.zero_add, spl_get (by rw [hRlen, hss, hRs]; omega), hRlen]
   have hA : (O.extract 0 (i * 1)).size = i * 1 := by rw [Array.size_extract, hO]; omega
   by_cases h1 : j < i * 1
   ·rw [if_neg oM, spl_get (by rw [hXl, hRs]; omega), if_neg oM]
    rw [Array.getElem?_append_left (by rw [Array.size_append]; omega), Array.getElem?_append_left oM] at hj
    rw [← hROW, Array.getElem?_append_left (by rw [Array.size_append, List.size_toArray, Array.length_toList]; omega), Array.getElem?_append_left (by rw [List.size_toArray, Array.length_toList]; omega), Array.toArray_toList]
    exact hj
   ·by_cases h2 : j < i * 1 + 1
    ·rw [if_neg oM, spl_get (by rw [hXl, hRs]; omega), hXl, if_pos oM]
     rw [Array.getElem?_append_left (by rw [Array.size_append]; omega), Array.getElem?_append_right oM, hA] at hj
     simpa using hj
    ·rw [Array.getElem?_append_right (by rw [Array.size_append]; omega), Array.size_append, hA, hX] at hj
     have hjl := (Array.getElem?_eq_some_iff.1 hj).1
     rw [if_pos oM, show j - (i + 1) = j - (i * 1 + 1) by omega]
     simpa using hj
  ·rw [← hW3, ← hW2, ← hW1]; rfl
  ·rw [← hW3, ← hW2, ← hW1]; rfl
  ·rw [← hW3, ← hW2, ← hW1]; rfl
  ·rw [← hW3, ← hW2, ← hW1]; simp [World.setRow]
 have mixed : Try.prog.follows Departure.mixedOrders = true := by kernel_rfl
 rw [hR]
 clear hROW hG hRs hold hcur2 hRow1 hss hW1 hW2 hW3 hik hkk
 go_enter Try.func30, Try.ntmps30
 go_wp2_with (first
  | (at_builtin; refine Lib.wpList_append_run _ rfl _ _ _ _ rfl _ _ rfl rfl _ _ (hrz _) ?_)
  | (at_builtin; refine wpList_copy_runI _ rfl _ _ 27 27 rfl _ _ rfl rfl (hcpA _ _) ?_))
 go_region_law_o (refine step_copy_runI rfl _ _ 27 27 rfl (.slice (some ⟨w.heap.size, (i + 1), none⟩) (n + 1 - (i + 1)) (G - (i + 1))) (.slice (some ⟨b, o + i, none⟩) (n - i) (c - i)) (by simp [Act.eval, Act.put]) (by simp [Act.eval, Act.put]) (hcpB 3 (G - (i + 1))) ?_)
 go_wp2
 go_ret
 exact fin
set_option maxHeartbeats 4000000 in
set_option maxRecDepth 100000 in
theorem insSI_spec (b o n c i vb vo vc : Nat) (cur X curv : Array Value) (T Tv : TypeId) (w : World) (hb : w.heap[b]? = some (.cells cur T (0, 0))) (hvb : w.heap[vb]? = some (.cells curv Tv (0, 0))) (hne : vb ≠ b) (hi : i < n) (hroom : n + 1 ≤ c) (hc : c ≤ maxLen) (hfit : o + c * 1 ≤ cur.size) (hn : n ≤ 1000000) (hX : X.size = 1) (hXc : ∀ j u, X[j]? = some u → curv[vo + j]? = some u) (hX1 : ∀ u ∈ X.toList, u.oneCell' = true)
  (O : Array Value) (hO : O.size = n * 1) (hOc : ∀ j u, O[j]? = some u → cur[o + j]? = some u) (hO1 : ∀ u ∈ O.toList, u.oneCell' = true) :
  Calls Try.prog 30 #[.slice (some ⟨b, o, none⟩) n c, .int .i64 i, .slice (some ⟨vb, vo, none⟩) 1 vc] w fun e w' => InsPost w b 1 n (O.extract 0 (i * 1) ++ X ++ O.extract (i * 1) (n * 1)) e w' := by
 have ht := Try.underlying27
 have hs : sizT Try.prog 3 = some 1 := by kernel_rfl
 have hc63 := hc
 unfold maxLen at hc63
 have hcm : (n + 1) * 1 ≤ c * 1 := Nat.mul_le_mul_right _ hroom
 have hcurs : 0 < cur.size := by omega
 have hov : ∀ lb cb, (callFunc 42 #[.slice (some ⟨vb, vo, none⟩) 1 vc, .slice (some ⟨b, o + (i + 1), none⟩) lb cb]).run Try.prog w = .ok (.value (.bool false)) w := fun lb cb => by
  rw [run_callFunc_extern Try.func42 (by kernel_rfl) (by kernel_rfl) (by kernel_rfl) (e := Extern.SlicesOverlaps.overlaps #[27, 27] #[4]) (by kernel_rfl),
   Lib.run_overlaps_apart w 27 4 3 ht 1 (fun w => run_sizeOf hs) ⟨vb, vo, none⟩ ⟨b, o + (i + 1), none⟩ 1 vc lb cb hne Tv T curv.size cur.size (by simp [World.shape?, hvb]) (by simp [World.shape?, hb]) oM (by simp [World.frozen?, hvb]) (by simp [World.frozen?, hvb])]
  rfl
 obtain ⟨R, hR⟩ : ∃ R, O.extract (i * 1) (n * 1) = R := ⟨_, rfl⟩
 have hRl : R.size = (n - i) * 1 := by rw [← hR, Array.size_extract, hO, Nat.sub_mul]; omega
 have hR1 : ∀ u ∈ R.toList, u.oneCell' = true := fun u hu => hO1 u (by
  rw [← hR, Array.toList_extract] at hu
  exact List.mem_of_mem_drop (List.mem_of_mem_take hu))
 have hRg : ∀ j u, R[j]? = some u → O[i * 1 + j]? = some u := fun j u hj => by
  rw [← hR, Array.getElem?_extract] at hj
  split at hj
  ·exact hj
  ·cases hj
 have hRlen : R.toList.length = (n - i) * 1 := by simpa using hRl
 have hXl : X.toList.length = 1 := by simpa using hX
 have hmn2 : min (n + 1 - i) (n + 1 - (i + 1)) = n - i := by omega
 have hR2c : ∀ j u, R[j]? = some u → w.cell? ⟨b, (o + i) + j, none⟩ = some u := fun j u hj => by
  have := hOc _ u (hRg j u hj)
  simp only [World.cell?, hb]
  rw [show o + i + j = o + (i * 1 + j) by omega]
  exact this
 have hfr : ∀ sc, (Builtin.firstCells 1 (min (n + 1 - i) (n + 1 - (i + 1))) (.slice (some ⟨b, o + i, none⟩) (n + 1 - i) sc)).run Try.prog w.drew = .ok R w.drew := fun sc => by
  rw [hmn2]
  have := firstCells_at (P := Try.prog) (w := w) (sz := 1) (n := n - i) (len := n + 1 - i) (cap := sc) hR2c oM (w2 := w.drew) rfl
  rwa [show (n - i) * 1 = R.size by omega, Array.extract_size] at this
 have hmm : (i + 1) * 1 + (n - i) * 1 = (n + 1) * 1 := by rw [← Nat.add_mul]; congr 1; omega
 have hs1 := spl_size (cur := cur) (p := o + (i + 1)) (xs := R.toList) (by rw [hRlen]; omega)
 obtain ⟨W1, hW1⟩ : ∃ W1, w.drew.setRow b (spl cur (o + (i + 1)) R.toList) = W1 := ⟨_, rfl⟩
 have hcp1 : ∀ ty dc sc, (Builtin.copy_ #[27, 27] ty #[.slice (some ⟨b, o + (i + 1), none⟩) (n + 1 - (i + 1)) dc, .slice (some ⟨b, o + i, none⟩) (n + 1 - i) sc]).run Try.prog w.drew = .ok (goInt (n - i : Nat)) W1 := fun ty dc sc => by
  have := run_copy_at (P := Try.prog) (w := w.drew) (t := 27) (u := 27) (ty := ty) ht hs (blk := b) (p := o + (i + 1)) (n := n + 1 - (i + 1)) (c := dc) (m := n + 1 - i) (vx := .slice (some ⟨b, o + i, none⟩) (n + 1 - i) sc) (by simp [Builtin.lenOf]) (hfr sc) hb (by rw [hRl]; omega) hR1
  rw [hmn2, hW1] at this
  exact this
 have hcur1 : W1.heap[b]? = some (.cells (spl cur (o + (i + 1)) R.toList) T (0, 0)) := by rw [← hW1]; exact setRow_heap w.drew _ cur _ _ _ hb
 have hOld1 : ∀ k, k ≠ b → W1.heap[k]? = w.heap[k]? := fun k hk => by rw [← hW1, setRow_other w.drew _ k _ hk]; rfl
 have hX1c : ∀ j u, X[j]? = some u → W1.cell? ⟨vb, vo + j, none⟩ = some u := fun j u hj => by
  have := hXc j u hj
  simp only [World.cell?, hOld1 vb hne, hvb]
  exact this
 have hmn1 : min 1 (n + 1 - i) = 1 := by omega
 have hfx : (Builtin.firstCells 1 (min 1 (n + 1 - i)) (.slice (some ⟨vb, vo, none⟩) 1 vc)).run Try.prog W1 = .ok X W1 := by
  rw [hmn1]
  have := firstCells_at (P := Try.prog) (w := W1) (sz := 1) (n := 1) (len := 1) (cap := vc) hX1c oM (w2 := W1) rfl
  rwa [show 1 * 1 = X.size by omega, Array.extract_size] at this
 obtain ⟨W2, hW2⟩ : ∃ W2, W1.setRow b (spl (spl cur (o + (i + 1)) R.toList) (o + i) X.toList) = W2 := ⟨_, rfl⟩
 have hcp2 : ∀ ty dc, (Builtin.copy_ #[27, 27] ty #[.slice (some ⟨b, o + i, none⟩) (n + 1 - i) dc, .slice (some ⟨vb, vo, none⟩) 1 vc]).run Try.prog W1 = .ok (goInt (1 : Nat)) W2 := fun ty dc => by
  have := run_copy_at (P := Try.prog) (w := W1) (t := 27) (u := 27) (ty := ty) ht hs (blk := b) (p := o + i) (n := n + 1 - i) (c := dc) (m := 1) (vx := .slice (some ⟨vb, vo, none⟩) 1 vc) (by simp [Builtin.lenOf]) hfx hcur1 (by rw [hX, hs1]; omega) hX1
  rw [hmn1, hW2] at this
  exact this
 have hz2 : ¬ ((i : Int) = (n : Int)) := by omega
 have hz3 : ¬ ((c : Int) < (n : Int) + 1) := by omega
 have hw1 : IntKind.i64.wrap ((i : Int) + 1) = (i : Int) + 1 := by rw [IntKind.wrap_i64]; omega
 have hw2 : IntKind.i64.wrap ((n : Int) + 1) = (n : Int) + 1 := by rw [IntKind.wrap_i64]; omega
 have hb1 : (0 : Int) ≤ (i : Int) + 1 := by omega
 have hb0 : (0 : Int) ≤ (n : Int) + 1 := by omega
 have hin : i ≤ n := by omega
 have htn : ((i : Int) + 1).toNat = i + 1 := by omega
 have htn2 : ((n : Int) + 1).toNat = n + 1 := by omega
 have hb2 : ¬ (c = i + 1) := by omega
 have hb3 : (i : Int) ≤ (n : Int) + 1 := by omega
 have hb4 : ¬ (c = i) := by omega
 have hb5 : (i : Int) + 1 ≤ (n : Int) + 1 := by omega
 have hb6 : (n : Int) + 1 ≤ (c : Int) := by omega
 have fin : InsPost w b 1 n (O.extract 0 (i * 1) ++ X ++ R) (.returned (.slice (some ⟨b, o, none⟩) (n + 1) c)) W2 := by
  refine ⟨⟨b, o, c, _, T, rfl, by rw [← hW2]; exact setRow_heap W1 _ _ _ _ _ hcur1, hroom, hc, ?_, fun j v hj => ?_, .inl rfl, fun k _ hk => by rw [← hW2, setRow_other W1 _ k _ hk]; exact hOld1 k hk⟩, ?_, ?_, ?_, ?_⟩
  ·rw [spl_size (by rw [hXl, hs1]; omega), hs1]; exact hfit
  ·have hA : (O.extract 0 (i * 1)).size = i * 1 := by rw [Array.size_extract, hO]; omega
   rw [spl_get (by rw [hXl, hs1]; omega), hXl]
   by_cases h1 : j < i * 1
   ·rw [if_neg oM, spl_get (by rw [hRlen]; omega), if_neg oM]
    rw [Array.getElem?_append_left (by rw [Array.size_append]; omega), Array.getElem?_append_left oM, Array.getElem?_extract] at hj
    split at hj
    ·refine hOc j v ?_
     simpa using hj
    ·cases hj
   ·by_cases h2 : j < i * 1 + 1
    ·rw [if_pos oM]
     rw [Array.getElem?_append_left (by rw [Array.size_append]; omega), Array.getElem?_append_right oM, hA] at hj
     rw [show o + j - (o + i) = j - i * 1 by omega]
     simpa using hj
    ·rw [if_neg oM, spl_get (by rw [hRlen]; omega), hRlen]
     rw [Array.getElem?_append_right (by rw [Array.size_append]; omega), Array.size_append, hA, hX] at hj
     have hjl := (Array.getElem?_eq_some_iff.1 hj).1
     rw [if_pos oM, show o + j - (o + (i + 1)) = j - (i * 1 + 1) by omega]
     simpa using hj
  ·rw [← hW2, ← hW1]; rfl
  ·rw [← hW2, ← hW1]; rfl
  ·rw [← hW2, ← hW1]; rfl
  ·rw [← hW2, ← hW1]; simp [World.setRow]
 have mixed : Try.prog.follows Departure.mixedOrders = true := by kernel_rfl
 rw [hR]
 clear hcur1 hs1 hW1 hW2 hcurs hcm hmm
 go_enter Try.func30, Try.ntmps30
 go_wp2_with (simp only [hov])
 go_region_law_o (refine step_copy_runI rfl _ _ 27 27 rfl (.slice (some ⟨b, o + (i + 1), none⟩) (n + 1 - (i + 1)) (c - (i + 1))) (.slice (some ⟨b, o + i, none⟩) (n + 1 - i) (c - i)) (by simp [Act.eval, Act.put]) (by simp [Act.eval, Act.put]) (hcp1 3 (c - (i + 1)) (c - i)) ?_)
 go_wp2_with (at_builtin; refine wpList_copy_runI _ rfl _ _ 27 27 rfl _ _ rfl rfl (hcp2 _ _) ?_)
 go_ret
 exact fin
end Go.Proofs.Ytpkemmchpccjdaa
namespace Go.Proofs.Ytpkemmchpccjdaa
open Go.Lib Go.RowKit
set_option linter.unusedVariables false
set_option linter.unusedSimpArgs false
set_option maxHeartbeats 4000000 in
set_option maxRecDepth 100000 in
theorem insE1M_spec (b o n c vb vo vc : Nat) (cur X : Array Value) (T : TypeId) (w : World) (hb : w.heap[b]? = some (.cells cur T (0, 0))) (hroom : n + 1 ≤ c) (hc : c ≤ maxLen) (hfit : o + c * 4 ≤ cur.size)
  (hX : X.size = 4) (hXc : ∀ j u, X[j]? = some u → w.cell? ⟨vb, vo + j, none⟩ = some u) (hX1 : ∀ u ∈ X.toList, u.oneCell' = true) (O : Array Value) (hO : O.size = n * 4) (hOc : ∀ j u, O[j]? = some u → cur[o + j]? = some u) :
  Calls Try.prog 29 #[.slice (some ⟨b, o, none⟩) n c, .int .i64 n, .slice (some ⟨vb, vo, none⟩) 1 vc] w fun e w' => InsPost w b 4 n (O ++ X) e w' := by
 have ht := Try.underlying26
 have hs : sizT Try.prog 35 = some 4 := by kernel_rfl
 have hfc : (Builtin.firstCells 4 1 (.slice (some ⟨vb, vo, none⟩) 1 vc)).run Try.prog w = .ok X w := by
  have := firstCells_at (P := Try.prog) (w := w) (sz := 4) (n := 1) (len := 1) (cap := vc) hXc oM (w2 := w) rfl
  rwa [show 1 * 4 = X.size by omega, Array.extract_size] at this
 obtain ⟨W1, hW1⟩ : ∃ W1, w.setRow b (spl cur (o + n * 4) X.toList) = W1 := ⟨_, rfl⟩
 have hrun : ∀ ty, (Builtin.append_ #[26, 26] ty #[.slice (some ⟨b, o, none⟩) n c, .slice (some ⟨vb, vo, none⟩) 1 vc]).run Try.prog w = .ok (.slice (some ⟨b, o, none⟩) (n + 1) c) W1 := fun ty => by
  rw [← hW1]
  exact run_append_at (sz := 4) (m := 1) (vx := .slice (some ⟨vb, vo, none⟩) 1 vc) (news := X) ht ht rfl hs (by simp [Builtin.lenOf]) hfc oM hroom hb oM hX1
 go_enter Try.func29, Try.ntmps29
 go_wp2_with (at_builtin; refine Lib.wpList_append_run _ rfl _ _ _ _ rfl _ _ rfl rfl _ _ (hrun _) ?_)
 go_ret
 subst hW1
 have hsz := spl_size (cur := cur) (p := o + n * 4) (xs := X.toList) (by simp; omega)
 refine ⟨⟨b, o, c, _, T, rfl, setRow_heap w b cur _ T _ hb, hroom, hc, by rw [hsz]; exact hfit, fun j v hj => ?_, .inl rfl, fun k _ hk => setRow_other w b k _ hk⟩, rfl, rfl, rfl, by simp [World.setRow]⟩
 rw [spl_get (by simp; omega)]
 by_cases hjn : j < n * 4
 ·rw [if_neg oM]
  rw [Array.getElem?_append_left oM] at hj
  exact hOc j v hj
 ·rw [Array.getElem?_append_right oM, hO] at hj
  have hjl := (Array.getElem?_eq_some_iff.1 hj).1
  rw [if_pos (by simp; omega), show o + j - (o + n * 4) = j - n * 4 by omega]
  simpa using hj
set_option maxHeartbeats 4000000 in
set_option maxRecDepth 100000 in
theorem insE2M_spec (b n c vb vo vc : Nat) (base : Option Addr) (X : Array Value) (w : World) (hroom : c < n + 1) (hn : n ≤ 1000000) (hX : X.size = 4) (hXc : ∀ j u, X[j]? = some u → w.cell? ⟨vb, vo + j, none⟩ = some u) (hX1 : ∀ u ∈ X.toList, u.oneCell' = true)
  (O : Array Value) (hO : O.size = n * 4) (hOf : (Builtin.firstCells 4 n (.slice base n c)).run Try.prog w.drew = .ok O w.drew) :
  Calls Try.prog 29 #[.slice base n c, .int .i64 n, .slice (some ⟨vb, vo, none⟩) 1 vc] w fun e w' => InsPost w b 4 n (O ++ X) e w' := by
 have ht := Try.underlying26
 have hs : sizT Try.prog 35 = some 4 := by kernel_rfl
 have hby : bytT Try.prog 35 = some 48 := by kernel_rfl
 have hz : zeroT Try.prog 35 = some [.v (.int .i64 0), .v (.int .i64 0), .v (.int .i64 0), .v .zsl] := by kernel_rfl
 obtain ⟨i, zv, hi, hzz, hzc⟩ := zeroT_spec hz
 have hbz : i.bytes = 48 := by simp [bytT, hi] at hby; exact hby
 have hfc : (Builtin.firstCells 4 1 (.slice (some ⟨vb, vo, none⟩) 1 vc)).run Try.prog w.drew = .ok X w.drew := by
  have := firstCells_at (P := Try.prog) (w := w) (sz := 4) (n := 1) (len := 1) (cap := vc) hXc oM (w2 := w.drew) rfl
  rwa [show 1 * 4 = X.size by omega, Array.extract_size] at this
 obtain ⟨W1, hW1⟩ : ∃ W1, w.drew.alloc (.cells (O ++ X ++ Builtin.zeroCells zv.cells (grownCap w (n + 1) c 35 - (n + 1))) 35) = W1 := ⟨_, rfl⟩
 obtain ⟨G, hG⟩ : ∃ G, grownCap w (n + 1) c 35 = G := ⟨_, rfl⟩
 have hrun : ∀ ty, (Builtin.append_ #[26, 26] ty #[.slice base n c, .slice (some ⟨vb, vo, none⟩) 1 vc]).run Try.prog w = .ok (.slice (some ⟨w.heap.size, 0, none⟩) (n + 1) G) W1 := fun ty => by
  rw [← hW1, ← hG]
  exact run_append_new (sz := 4) (m := 1) (vx := .slice (some ⟨vb, vo, none⟩) 1 vc) (news := X) (olds := O) ht ht rfl hs hi hzz hbz (by simp [Builtin.lenOf]) hfc hOf hroom oM oM (by decide)
 have hge := grownCap_ge w (n + 1) c 35
 have hcm : grownCap w (n + 1) c 35 ≤ maxLen := grownCap_le_maxLen w _ c _ (by unfold maxLen; omega)
 have hzl : zv.cells.size = 4 := by
  obtain ⟨c1, c2⟩ := cvL_rep (w := w) (F := fun _ => False) (L := fun _ _ => none) hzc
  have := c1.1; simp at this; omega
 have fin : InsPost w b 4 n (O ++ X) (.returned (.slice (some ⟨w.heap.size, 0, none⟩) (n + 1) G)) W1 := by
  rw [← hW1, ← hG]
  refine ⟨⟨w.heap.size, 0, _, _, _, rfl, heap_alloc_new w.drew _, hge, hcm, ?_, fun j v hj => ?_, .inr (Nat.le_refl _), fun k hk _ => heap_alloc_old w.drew _ hk⟩, rfl, rfl, rfl, by simp⟩
  ·rw [Array.size_append, Array.size_append, size_zeroCells, hO, hX, hzl, Nat.zero_add, ← Nat.add_one_mul, ← Nat.add_mul]
   exact Nat.mul_le_mul_right _ oM
  ·rw [Nat.zero_add, Array.getElem?_append_left (Array.getElem?_eq_some_iff.1 hj).1]
   exact hj
 go_enter Try.func29, Try.ntmps29
 cases base with
 | none =>
   go_wp2_with (at_builtin; refine Lib.wpList_append_run _ rfl _ _ _ _ rfl _ _ rfl rfl _ _ (hrun _) ?_)
   all_goals (go_ret; exact fin)
 | some a =>
   obtain ⟨ab, ao, asp⟩ := a
   go_wp2_with (at_builtin; refine Lib.wpList_append_run _ rfl _ _ _ _ rfl _ _ rfl rfl _ _ (hrun _) ?_)
   all_goals (go_ret; exact fin)
set_option maxHeartbeats 4000000 in
set_option maxRecDepth 100000 in
theorem insGM_spec (b o n c i vb vo vc : Nat) (cur X : Array Value) (T : TypeId) (w : World) (hb : w.heap[b]? = some (.cells cur T (0, 0))) (hi : i < n) (hnc : n ≤ c) (hroom : c < n + 1) (hn : n ≤ 1000000) (hX : X.size = 4) (hXc : ∀ j u, X[j]? = some u → w.cell? ⟨vb, vo + j, none⟩ = some u) (hX1 : ∀ u ∈ X.toList, u.oneCell' = true)
  (O : Array Value) (hO : O.size = n * 4) (hOc : ∀ j u, O[j]? = some u → w.cell? ⟨b, o + j, none⟩ = some u) (hO1 : ∀ u ∈ O.toList, u.oneCell' = true) :
  Calls Try.prog 29 #[.slice (some ⟨b, o, none⟩) n c, .int .i64 i, .slice (some ⟨vb, vo, none⟩) 1 vc] w fun e w' => InsPost w b 4 n (O.extract 0 (i * 4) ++ X ++ O.extract (i * 4) (n * 4)) e w' := by
 have ht := Try.underlying26
 have hti := Try.underlying3
 have hs : sizT Try.prog 35 = some 4 := by kernel_rfl
 have hby : bytT Try.prog 35 = some 48 := by kernel_rfl
 have hz : zeroT Try.prog 35 = some [.v (.int .i64 0), .v (.int .i64 0), .v (.int .i64 0), .v .zsl] := by kernel_rfl
 obtain ⟨inf, zv, hinf, hzz, hzc⟩ := zeroT_spec hz
 have hbz : inf.bytes = 48 := by simp [bytT, hinf] at hby; exact hby
 have hsz : inf.size = 4 := by simp [sizT, hinf] at hs; exact hs
 have hzl : zv.cells.size = 4 := by
  obtain ⟨c1, c2⟩ := cvL_rep (w := w) (F := fun _ => False) (L := fun _ _ => none) hzc
  have := c1.1; simp at this; omega
 have hbw : b < w.heap.size := (Array.getElem?_eq_some_iff.1 hb).1
 have hx0 : X[0]? = some X[0] := Array.getElem?_eq_getElem oM
 have hvw : vb < w.heap.size := block_lt_of_cell (hXc 0 _ hx0)
 have hold : (Builtin.firstCells inf.size i (.slice (some ⟨b, o, none⟩) i c)).run Try.prog w.drew = .ok (O.extract 0 (i * 4)).toList.toArray w.drew := by
  rw [hsz, Array.toArray_toList]
  exact firstCells_at (P := Try.prog) (w := w) (sz := 4) (n := i) (len := i) (cap := c) hOc oM (w2 := w.drew) rfl
 have hge := grownCap_ge w (n + 1) c 35
 have hcm : grownCap w (n + 1) c 35 ≤ maxLen := grownCap_le_maxLen w _ c _ (by unfold maxLen; omega)
 have hG63 := hcm
 unfold maxLen at hG63
 obtain ⟨G, hG⟩ : ∃ G, grownCap w (n + 1) c 35 = G := ⟨_, rfl⟩
 obtain ⟨ROW, hROW⟩ : ∃ ROW : Array Value, (O.extract 0 (i * 4)).toList.toArray ++ Builtin.zeroCells zv.cells (n + 1 - i) ++ Builtin.zeroCells zv.cells (G - (n + 1)) = ROW := ⟨_, rfl⟩
 obtain ⟨W1, hW1⟩ : ∃ W1, w.drew.alloc (.cells ROW 35) = W1 := ⟨_, rfl⟩
 have hik : i + (n + 1 - i) = n + 1 := by omega
 have hkk : (n : Int) + 1 - (i : Int) = ((n + 1 - i : Nat) : Int) := by omega
 have hrz : ∀ ty, (Builtin.append_ #[26, 3] ty #[.slice (some ⟨b, o, none⟩) i c, .int .i64 ((n : Int) + 1 - (i : Int))]).run Try.prog w = .ok (.slice (some ⟨w.heap.size, 0, none⟩) (n + 1) G) W1 := fun ty => by
  have h := Lib.run_append_grow_zeros w 26 3 ty 35 inf zv .i64 .i64 ht hti hinf hzz (some ⟨b, o, none⟩) i c _ hold (n + 1 - i) oM oM oM oM (by rw [hbz]; omega) (by rw [hbz, hik]; exact growslice_fits hroom oM)
  rw [hik] at h
  rw [hkk, h, ← hW1, ← hROW, ← hG]
 rw [hG] at hge hcm hG63
 have hRs : ROW.size = G * 4 := by
  rw [← hROW, Array.size_append, Array.size_append, size_zeroCells, size_zeroCells, hzl, List.size_toArray, Array.length_toList, Array.size_extract, hO]
  have : min (i * 4) (n * 4) - 0 = i * 4 := by omega
  rw [this, ← Nat.add_mul, ← Nat.add_mul]
  congr 1; omega
 have hRow1 : W1.heap[w.heap.size]? = some (.cells ROW 35 (0, 0)) := by rw [← hW1]; exact heap_alloc_new w.drew _
 have hOld1 : ∀ k, k < w.heap.size → W1.heap[k]? = w.heap[k]? := fun k hk => by rw [← hW1]; exact heap_alloc_old w.drew _ hk
 have hsz1 : W1.heap.size = w.heap.size + 1 := by rw [← hW1]; simp
 have hX1c : ∀ j u, X[j]? = some u → W1.cell? ⟨vb, vo + j, none⟩ = some u := fun j u hj => by
  have := hXc j u hj
  rwa [← World.cell?_of_block (hOld1 vb hvw)] at this
 have hfx : (Builtin.firstCells 4 (min 1 (n + 1 - i)) (.slice (some ⟨vb, vo, none⟩) 1 vc)).run Try.prog W1 = .ok X W1 := by
  have h1 : min 1 (n + 1 - i) = 1 := by omega
  rw [h1]
  have := firstCells_at (P := Try.prog) (w := W1) (sz := 4) (n := 1) (len := 1) (cap := vc) hX1c oM (w2 := W1) rfl
  rwa [show 1 * 4 = X.size by omega, Array.extract_size] at this
 obtain ⟨W2, hW2⟩ : ∃ W2, W1.setRow w.heap.size (spl ROW ((i) * 4) X.toList) = W2 := ⟨_, rfl⟩
 have hmn1 : min 1 (n + 1 - i) = 1 := by omega
 have hGm : (i + 1) * 4 + (n - i) * 4 ≤ G * 4 := by rw [← Nat.add_mul]; exact Nat.mul_le_mul_right _ oM
 have hXl : X.toList.length = 4 := by simpa using hX
 have hcpA : ∀ ty dc, (Builtin.copy_ #[26, 26] ty #[.slice (some ⟨w.heap.size, (i) * 4, none⟩) (n + 1 - i) dc, .slice (some ⟨vb, vo, none⟩) 1 vc]).run Try.prog W1 = .ok (goInt (1 : Nat)) W2 := fun ty dc => by
  have := run_copy_at (P := Try.prog) (w := W1) (t := 26) (u := 26) (ty := ty) ht hs (blk := w.heap.size) (p := (i) * 4) (n := n + 1 - i) (c := dc) (m := 1) (vx := .slice (some ⟨vb, vo, none⟩) 1 vc) (by simp [Builtin.lenOf]) hfx hRow1 (by rw [hX, hRs]; omega) hX1
  rw [hmn1, hW2] at this
  exact this
 obtain ⟨R, hR⟩ : ∃ R, O.extract (i * 4) (n * 4) = R := ⟨_, rfl⟩
 have hRl : R.size = (n - i) * 4 := by rw [← hR, Array.size_extract, hO, Nat.sub_mul]; omega
 have hR1 : ∀ u ∈ R.toList, u.oneCell' = true := fun u hu => hO1 u (by
  rw [← hR, Array.toList_extract] at hu
  exact List.mem_of_mem_drop (List.mem_of_mem_take hu))
 have hRg : ∀ j u, R[j]? = some u → O[i * 4 + j]? = some u := fun j u hj => by
  rw [← hR, Array.getElem?_extract] at hj
  split at hj
  ·exact hj
  ·cases hj
 have hcur2 : W2.heap[w.heap.size]? = some (.cells (spl ROW ((i) * 4) X.toList) 35 (0, 0)) := by rw [← hW2]; exact setRow_heap W1 _ ROW _ _ _ hRow1
 have hOld2 : ∀ k, k < w.heap.size → W2.heap[k]? = w.heap[k]? := fun k hk => by rw [← hW2, setRow_other W1 _ k _ oM]; exact hOld1 k hk
 have hR2c : ∀ j u, R[j]? = some u → W2.cell? ⟨b, (o + (i) * 4) + j, none⟩ = some u := fun j u hj => by
  have := hOc _ u (hRg j u hj)
  rw [← World.cell?_of_block (hOld2 b hbw)] at this
  rwa [show o + (i * 4 + j) = o + (i) * 4 + j by omega] at this
 have hmn2 : min (n - i) (n + 1 - (i + 1)) = n - i := by omega
 have hfr : (Builtin.firstCells 4 (min (n - i) (n + 1 - (i + 1))) (.slice (some ⟨b, o + (i) * 4, none⟩) (n - i) (c - i))).run Try.prog W2.drew = .ok R W2.drew := by
  rw [hmn2]
  have := firstCells_at (P := Try.prog) (w := W2) (sz := 4) (n := n - i) (len := n - i) (cap := c - i) hR2c oM (w2 := W2.drew) rfl
  rwa [show (n - i) * 4 = R.size by omega, Array.extract_size] at this
 have hss := spl_size (cur := ROW) (p := (i) * 4) (xs := X.toList) (by rw [hXl, hRs]; omega)
 obtain ⟨W3, hW3⟩ : ∃ W3, W2.drew.setRow w.heap.size (spl (spl ROW ((i) * 4) X.toList) ((i + 1) * 4) R.toList) = W3 := ⟨_, rfl⟩
 have hcpB : ∀ ty dc, (Builtin.copy_ #[26, 26] ty #[.slice (some ⟨w.heap.size, (i + 1) * 4, none⟩) (n + 1 - (i + 1)) dc, .slice (some ⟨b, o + (i) * 4, none⟩) (n - i) (c - i)]).run Try.prog W2.drew = .ok (goInt (n - i : Nat)) W3 := fun ty dc => by
  have := run_copy_at (P := Try.prog) (w := W2.drew) (t := 26) (u := 26) (ty := ty) ht hs (blk := w.heap.size) (p := (i + 1) * 4) (n := n + 1 - (i + 1)) (c := dc) (m := n - i) (vx := .slice (some ⟨b, o + (i) * 4, none⟩) (n - i) (c - i)) (by simp [Builtin.lenOf]) hfr hcur2 (by rw [hRl, hss, hRs]; omega) hR1
  rw [hmn2, hW3] at this
  exact this
 have hz2 : ¬ ((i : Int) = (n : Int)) := by omega
 have hz3 : (c : Int) < (n : Int) + 1 := by omega
 have hw1 : IntKind.i64.wrap ((i : Int) + 1) = (i : Int) + 1 := by rw [IntKind.wrap_i64]; omega
 have hw2 : IntKind.i64.wrap ((n : Int) + 1) = (n : Int) + 1 := by rw [IntKind.wrap_i64]; omega
 have hb1 : (0 : Int) ≤ (i : Int) + 1 := by omega
 have hin : i ≤ n := by omega
 have htn : ((i : Int) + 1).toNat = i + 1 := by omega
 have hb3 : (i : Int) ≤ (n : Int) := by omega
 have hGi : ¬ (G = i) := by omega
 have hGim : ¬ (G = i + 1) := by omega
 have hci : ¬ (c = i) := by omega
 have hRlen : R.toList.length = (n - i) * 4 := by simpa using hRl
 have fin : InsPost w b 4 n (O.extract 0 (i * 4) ++ X ++ R) (.returned (.slice (some ⟨w.heap.size, 0, none⟩) (n + 1) G)) W3 := by
  refine ⟨⟨w.heap.size, 0, G, _, _, rfl, by rw [← hW3]; exact setRow_heap W2.drew _ _ _ _ _ hcur2, hge, hcm, ?_, fun j v hj => ?_, .inr (Nat.le_refl _), fun k hk _ => by rw [← hW3, setRow_other W2.drew _ k _ oM]; exact hOld2 k hk⟩, ?_, ?_, ?_, ?_⟩
  ·rw [spl_size (by rw [hRlen, hss, hRs]; omega), hss, hRs]; omega
  ·rw [Nat.zero_add, spl_get (by rw [hRlen, hss, hRs]; omega), hRlen]
   have hA : (O.extract 0 (i * 4)).size = i * 4 := by rw [Array.size_extract, hO]; omega
   by_cases h1 : j < i * 4
   ·rw [if_neg oM, spl_get (by rw [hXl, hRs]; omega), if_neg oM]
    rw [Array.getElem?_append_left (by rw [Array.size_append]; omega), Array.getElem?_append_left oM] at hj
    rw [← hROW, Array.getElem?_append_left (by rw [Array.size_append, List.size_toArray, Array.length_toList]; omega), Array.getElem?_append_left (by rw [List.size_toArray, Array.length_toList]; omega), Array.toArray_toList]
    exact hj
   ·by_cases h2 : j < i * 4 + 4
    ·rw [if_neg oM, spl_get (by rw [hXl, hRs]; omega), hXl, if_pos oM]
     rw [Array.getElem?_append_left (by rw [Array.size_append]; omega), Array.getElem?_append_right oM, hA] at hj
     simpa using hj
    ·rw [Array.getElem?_append_right (by rw [Array.size_append]; omega), Array.size_append, hA, hX] at hj
     have hjl := (Array.getElem?_eq_some_iff.1 hj).1
     rw [if_pos oM, show j - (i + 1) * 4 = j - (i * 4 + 4) by omega]
     simpa using hj
  ·rw [← hW3, ← hW2, ← hW1]; rfl
  ·rw [← hW3, ← hW2, ← hW1]; rfl
  ·rw [← hW3, ← hW2, ← hW1]; rfl
  ·rw [← hW3, ← hW2, ← hW1]; simp [World.setRow]
 have mixed : Try.prog.follows Departure.mixedOrders = true := by kernel_rfl
 rw [hR]
 clear hROW hG hRs hold hcur2 hRow1 hss hW1 hW2 hW3 hik hkk
 go_enter Try.func29, Try.ntmps29
 go_wp2_with (first
  | (at_builtin; refine Lib.wpList_append_run _ rfl _ _ _ _ rfl _ _ rfl rfl _ _ (hrz _) ?_)
  | (at_builtin; refine wpList_copy_runI _ rfl _ _ 26 26 rfl _ _ rfl rfl (hcpA _ _) ?_))
 go_region_law_o (refine step_copy_runI rfl _ _ 26 26 rfl (.slice (some ⟨w.heap.size, (i + 1) * 4, none⟩) (n + 1 - (i + 1)) (G - (i + 1))) (.slice (some ⟨b, o + (i) * 4, none⟩) (n - i) (c - i)) (by simp [Act.eval, Act.put]) (by simp [Act.eval, Act.put]) (hcpB 3 (G - (i + 1))) ?_)
 go_wp2
 go_ret
 exact fin
set_option maxHeartbeats 4000000 in
set_option maxRecDepth 100000 in
theorem insSM_spec (b o n c i vb vo vc : Nat) (cur X curv : Array Value) (T Tv : TypeId) (w : World) (hb : w.heap[b]? = some (.cells cur T (0, 0))) (hvb : w.heap[vb]? = some (.cells curv Tv (0, 0))) (hne : vb ≠ b) (hi : i < n) (hroom : n + 1 ≤ c) (hc : c ≤ maxLen) (hfit : o + c * 4 ≤ cur.size) (hn : n ≤ 1000000) (hX : X.size = 4) (hXc : ∀ j u, X[j]? = some u → curv[vo + j]? = some u) (hX1 : ∀ u ∈ X.toList, u.oneCell' = true)
  (O : Array Value) (hO : O.size = n * 4) (hOc : ∀ j u, O[j]? = some u → cur[o + j]? = some u) (hO1 : ∀ u ∈ O.toList, u.oneCell' = true) :
  Calls Try.prog 29 #[.slice (some ⟨b, o, none⟩) n c, .int .i64 i, .slice (some ⟨vb, vo, none⟩) 1 vc] w fun e w' => InsPost w b 4 n (O.extract 0 (i * 4) ++ X ++ O.extract (i * 4) (n * 4)) e w' := by
 have ht := Try.underlying26
 have hs : sizT Try.prog 35 = some 4 := by kernel_rfl
 have hc63 := hc
 unfold maxLen at hc63
 have hcm : (n + 1) * 4 ≤ c * 4 := Nat.mul_le_mul_right _ hroom
 have hcurs : 0 < cur.size := by omega
 have hov : ∀ lb cb, (callFunc 40 #[.slice (some ⟨vb, vo, none⟩) 1 vc, .slice (some ⟨b, o + (i + 1) * 4, none⟩) lb cb]).run Try.prog w = .ok (.value (.bool false)) w := fun lb cb => by
  rw [run_callFunc_extern Try.func40 (by kernel_rfl) (by kernel_rfl) (by kernel_rfl) (e := Extern.SlicesOverlaps.overlaps #[26, 26] #[4]) (by kernel_rfl),
   Lib.run_overlaps_apart w 26 4 35 ht 4 (fun w => run_sizeOf hs) ⟨vb, vo, none⟩ ⟨b, o + (i + 1) * 4, none⟩ 1 vc lb cb hne Tv T curv.size cur.size (by simp [World.shape?, hvb]) (by simp [World.shape?, hb]) oM (by simp [World.frozen?, hvb]) (by simp [World.frozen?, hvb])]
  rfl
 obtain ⟨R, hR⟩ : ∃ R, O.extract (i * 4) (n * 4) = R := ⟨_, rfl⟩
 have hRl : R.size = (n - i) * 4 := by rw [← hR, Array.size_extract, hO, Nat.sub_mul]; omega
 have hR1 : ∀ u ∈ R.toList, u.oneCell' = true := fun u hu => hO1 u (by
  rw [← hR, Array.toList_extract] at hu
  exact List.mem_of_mem_drop (List.mem_of_mem_take hu))
 have hRg : ∀ j u, R[j]? = some u → O[i * 4 + j]? = some u := fun j u hj => by
  rw [← hR, Array.getElem?_extract] at hj
  split at hj
  ·exact hj
  ·cases hj
 have hRlen : R.toList.length = (n - i) * 4 := by simpa using hRl
 have hXl : X.toList.length = 4 := by simpa using hX
 have hmn2 : min (n + 1 - i) (n + 1 - (i + 1)) = n - i := by omega
 have hR2c : ∀ j u, R[j]? = some u → w.cell? ⟨b, (o + (i) * 4) + j, none⟩ = some u := fun j u hj => by
  have := hOc _ u (hRg j u hj)
  simp only [World.cell?, hb]
  rw [show o + (i) * 4 + j = o + (i * 4 + j) by omega]
  exact this
 have hfr : ∀ sc, (Builtin.firstCells 4 (min (n + 1 - i) (n + 1 - (i + 1))) (.slice (some ⟨b, o + (i) * 4, none⟩) (n + 1 - i) sc)).run Try.prog w.drew = .ok R w.drew := fun sc => by
  rw [hmn2]
  have := firstCells_at (P := Try.prog) (w := w) (sz := 4) (n := n - i) (len := n + 1 - i) (cap := sc) hR2c oM (w2 := w.drew) rfl
  rwa [show (n - i) * 4 = R.size by omega, Array.extract_size] at this
 have hmm : (i + 1) * 4 + (n - i) * 4 = (n + 1) * 4 := by rw [← Nat.add_mul]; congr 1; omega
 have hs1 := spl_size (cur := cur) (p := o + (i + 1) * 4) (xs := R.toList) (by rw [hRlen]; omega)
 obtain ⟨W1, hW1⟩ : ∃ W1, w.drew.setRow b (spl cur (o + (i + 1) * 4) R.toList) = W1 := ⟨_, rfl⟩
 have hcp1 : ∀ ty dc sc, (Builtin.copy_ #[26, 26] ty #[.slice (some ⟨b, o + (i + 1) * 4, none⟩) (n + 1 - (i + 1)) dc, .slice (some ⟨b, o + (i) * 4, none⟩) (n + 1 - i) sc]).run Try.prog w.drew = .ok (goInt (n - i : Nat)) W1 := fun ty dc sc => by
  have := run_copy_at (P := Try.prog) (w := w.drew) (t := 26) (u := 26) (ty := ty) ht hs (blk := b) (p := o + (i + 1) * 4) (n := n + 1 - (i + 1)) (c := dc) (m := n + 1 - i) (vx := .slice (some ⟨b, o + (i) * 4, none⟩) (n + 1 - i) sc) (by simp [Builtin.lenOf]) (hfr sc) hb (by rw [hRl]; omega) hR1
  rw [hmn2, hW1] at this
  exact this
 have hcur1 : W1.heap[b]? = some (.cells (spl cur (o + (i + 1) * 4) R.toList) T (0, 0)) := by rw [← hW1]; exact setRow_heap w.drew _ cur _ _ _ hb
 have hOld1 : ∀ k, k ≠ b → W1.heap[k]? = w.heap[k]? := fun k hk => by rw [← hW1, setRow_other w.drew _ k _ hk]; rfl
 have hX1c : ∀ j u, X[j]? = some u → W1.cell? ⟨vb, vo + j, none⟩ = some u := fun j u hj => by
  have := hXc j u hj
  simp only [World.cell?, hOld1 vb hne, hvb]
  exact this
 have hmn1 : min 1 (n + 1 - i) = 1 := by omega
 have hfx : (Builtin.firstCells 4 (min 1 (n + 1 - i)) (.slice (some ⟨vb, vo, none⟩) 1 vc)).run Try.prog W1 = .ok X W1 := by
  rw [hmn1]
  have := firstCells_at (P := Try.prog) (w := W1) (sz := 4) (n := 1) (len := 1) (cap := vc) hX1c oM (w2 := W1) rfl
  rwa [show 1 * 4 = X.size by omega, Array.extract_size] at this
 obtain ⟨W2, hW2⟩ : ∃ W2, W1.setRow b (spl (spl cur (o + (i + 1) * 4) R.toList) (o + (i) * 4) X.toList) = W2 := ⟨_, rfl⟩
 have hcp2 : ∀ ty dc, (Builtin.copy_ #[26, 26] ty #[.slice (some ⟨b, o + (i) * 4, none⟩) (n + 1 - i) dc, .slice (some ⟨vb, vo, none⟩) 1 vc]).run Try.prog W1 = .ok (goInt (1 : Nat)) W2 := fun ty dc => by
  have := run_copy_at (P := Try.prog) (w := W1) (t := 26) (u := 26) (ty := ty) ht hs (blk := b) (p := o + (i) * 4) (n := n + 1 - i) (c := dc) (m := 1) (vx := .slice (some ⟨vb, vo, none⟩) 1 vc) (by simp [Builtin.lenOf]) hfx hcur1 (by rw [hX, hs1]; omega) hX1
  rw [hmn1, hW2] at this
  exact this
 have hz2 : ¬ ((i : Int) = (n : Int)) := by omega
 have hz3 : ¬ ((c : Int) < (n : Int) + 1) := by omega
 have hw1 : IntKind.i64.wrap ((i : Int) + 1) = (i : Int) + 1 := by rw [IntKind.wrap_i64]; omega
 have hw2 : IntKind.i64.wrap ((n : Int) + 1) = (n : Int) + 1 := by rw [IntKind.wrap_i64]; omega
 have hb1 : (0 : Int) ≤ (i : Int) + 1 := by omega
 have hb0 : (0 : Int) ≤ (n : Int) + 1 := by omega
 have hin : i ≤ n := by omega
 have htn : ((i : Int) + 1).toNat = i + 1 := by omega
 have htn2 : ((n : Int) + 1).toNat = n + 1 := by omega
 have hb2 : ¬ (c = i + 1) := by omega
 have hb3 : (i : Int) ≤ (n : Int) + 1 := by omega
 have hb4 : ¬ (c = i) := by omega
 have hb5 : (i : Int) + 1 ≤ (n : Int) + 1 := by omega
 have hb6 : (n : Int) + 1 ≤ (c : Int) := by omega
 have fin : InsPost w b 4 n (O.extract 0 (i * 4) ++ X ++ R) (.returned (.slice (some ⟨b, o, none⟩) (n + 1) c)) W2 := by
  refine ⟨⟨b, o, c, _, T, rfl, by rw [← hW2]; exact setRow_heap W1 _ _ _ _ _ hcur1, hroom, hc, ?_, fun j v hj => ?_, .inl rfl, fun k _ hk => by rw [← hW2, setRow_other W1 _ k _ hk]; exact hOld1 k hk⟩, ?_, ?_, ?_, ?_⟩
  ·rw [spl_size (by rw [hXl, hs1]; omega), hs1]; exact hfit
  ·have hA : (O.extract 0 (i * 4)).size = i * 4 := by rw [Array.size_extract, hO]; omega
   rw [spl_get (by rw [hXl, hs1]; omega), hXl]
   by_cases h1 : j < i * 4
   ·rw [if_neg oM, spl_get (by rw [hRlen]; omega), if_neg oM]
    rw [Array.getElem?_append_left (by rw [Array.size_append]; omega), Array.getElem?_append_left oM, Array.getElem?_extract] at hj
    split at hj
    ·refine hOc j v ?_
     simpa using hj
    ·cases hj
   ·by_cases h2 : j < i * 4 + 4
    ·rw [if_pos oM]
     rw [Array.getElem?_append_left (by rw [Array.size_append]; omega), Array.getElem?_append_right oM, hA] at hj
     rw [show o + j - (o + (i) * 4) = j - i * 4 by omega]
     simpa using hj
    ·rw [if_neg oM, spl_get (by rw [hRlen]; omega), hRlen]
     rw [Array.getElem?_append_right (by rw [Array.size_append]; omega), Array.size_append, hA, hX] at hj
     have hjl := (Array.getElem?_eq_some_iff.1 hj).1
     rw [if_pos oM, show o + j - (o + (i + 1) * 4) = j - (i * 4 + 4) by omega]
     simpa using hj
  ·rw [← hW2, ← hW1]; rfl
  ·rw [← hW2, ← hW1]; rfl
  ·rw [← hW2, ← hW1]; rfl
  ·rw [← hW2, ← hW1]; simp [World.setRow]
 have mixed : Try.prog.follows Departure.mixedOrders = true := by kernel_rfl
 rw [hR]
 clear hcur1 hs1 hW1 hW2 hcurs hcm hmm
 go_enter Try.func29, Try.ntmps29
 go_wp2_with (simp only [hov])
 go_region_law_o (refine step_copy_runI rfl _ _ 26 26 rfl (.slice (some ⟨b, o + (i + 1) * 4, none⟩) (n + 1 - (i + 1)) (c - (i + 1))) (.slice (some ⟨b, o + (i) * 4, none⟩) (n + 1 - i) (c - i)) (by simp [Act.eval, Act.put]) (by simp [Act.eval, Act.put]) (hcp1 3 (c - (i + 1)) (c - i)) ?_)
 go_wp2_with (at_builtin; refine wpList_copy_runI _ rfl _ _ 26 26 rfl _ _ rfl rfl (hcp2 _ _) ?_)
 go_ret
 exact fin
end Go.Proofs.Ytpkemmchpccjdaa
namespace Go.Proofs.Ytpkemmchpccjdaa
open Go.Lib Go.RowKit
set_option linter.unusedVariables false
set_option linter.unusedSimpArgs false
section
variable {P : Program} {w : World}
theorem run_clear_at {t el ty : TypeId} {z : Value} (ht : P.underlying t = some (.slice el)) (hv : ∀ w, (zeroValue el).run P w = .ok z w) {b p c : Nat} {cur : Array Value} {T : TypeId} {zl : List Value} (hz : (Builtin.zeroCells z.cells 1).toList = zl)
  (hcur : w.heap[b]? = some (.cells cur T (0, 0))) (hfit : p + zl.length ≤ cur.size) (h1 : ∀ u ∈ zl, u.oneCell' = true) :
  (Builtin.clear_ #[t] ty #[.slice (some ⟨b, p, none⟩) 1 c]).run P w = .ok (.tuple #[]) (w.setRow b (spl cur p zl)) := by
 have hst := run_storeCells_at P b p T zl 0 cur w hcur (by simpa using hfit) h1
 simp only [Nat.add_zero] at hst
 change _ = Result.ok () (w.setRow b (spl cur p zl)) at hst
 obtain ⟨W, hW⟩ : ∃ W, w.setRow b (spl cur p zl) = W := ⟨_, rfl⟩
 rw [hW] at hst ⊢
 simp [Builtin.clear_, run_underlying ht, hv, hz, hst]
theorem step_append_runI {ops : Array Oper} {o : Oper} {a : Act} {K : Act → World → Prop} {Q : Exit → Act → World → Prop} {E : Prop} (hg : o.guard = none) (d x : Operand) (dT sT : TypeId) (hop : o.op = Op.call { callee := Callee.builtin Builtin.append, args := #[d, x], argTypes := #[dT, sT] })
  (v u : Value) (hd : a.eval d = v) (hx : a.eval x = u) {v' : Value} {w' : World} (hr : (Builtin.append_ #[dT, sT] o.type #[v, u]).run P w = .ok v' w') (hK : K (a.put o.dst v') w') :
  if Region.wanted o (yielded ops a.tmps) = true then Oper.wp P o a w K Q else E := by
 rw [if_pos (by simp [Region.wanted, hg])]
 exact Lib.wp_append_run w d x dT sT hop v u hd hx v' w' hr hK
structure DelPost (w : World) (b o c n : Nat) (sz : Nat) (N : Array Value) (e : Ending) (w' : World) : Prop where
 out : ∃ cur T, e = .returned (.slice (some ⟨b, o, none⟩) n c) ∧ w'.heap[b]? = some (.cells cur T (0, 0)) ∧ o + c * sz ≤ cur.size ∧ (∀ j v, N[j]? = some v → cur[o + j]? = some v)
 old : ∀ k, k ≠ b → w'.heap[k]? = w.heap[k]?
 os : w'.os = w.os
 tape : w'.tape = w.tape
 output : w'.output = w.output
 size : w'.heap.size = w.heap.size
end
set_option maxHeartbeats 4000000 in
set_option maxRecDepth 100000 in
theorem delI_spec (b o n c i : Nat) (cur : Array Value) (T : TypeId) (w : World) (hb : w.heap[b]? = some (.cells cur T (0, 0))) (hi : i < n) (hnc : n ≤ c) (hc : c ≤ maxLen) (hfit : o + c * 1 ≤ cur.size)
  (O : Array Value) (hO : O.size = n * 1) (hOc : ∀ j u, O[j]? = some u → cur[o + j]? = some u) (hO1 : ∀ u ∈ O.toList, u.oneCell' = true) :
  Calls Try.prog 25 #[.slice (some ⟨b, o, none⟩) n c, .int .i64 i, .int .i64 ((i : Int) + 1)] w fun e w' => DelPost w b o c (n - 1) 1 (O.extract 0 (i * 1) ++ O.extract ((i + 1) * 1) (n * 1)) e w' := by
 have ht := Try.underlying27
 have hs : sizT Try.prog 3 = some 1 := by kernel_rfl
 have hzv : (Try.prog.info? 3).bind (·.zero) = some (.int .i64 0) := by kernel_rfl
 have hzr : ∀ w, (zeroValue 3).run Try.prog w = .ok (.int .i64 0) w := fun w => by
  cases hin : Try.prog.info? 3 with
  | none => rw [hin] at hzv; cases hzv
  | some inf => rw [hin] at hzv; simp [zeroValue, typeInfo, hin, show inf.zero = some (.int .i64 0) from hzv]
 have hc63 := hc
 unfold maxLen at hc63
 have hcm : n * 1 ≤ c * 1 := Nat.mul_le_mul_right _ hnc
 obtain ⟨R, hR⟩ : ∃ R, O.extract ((i + 1) * 1) (n * 1) = R := ⟨_, rfl⟩
 have hRl : R.size = (n - (i + 1)) * 1 := by rw [← hR, Array.size_extract, hO, Nat.sub_mul]; omega
 have hR1 : ∀ u ∈ R.toList, u.oneCell' = true := fun u hu => hO1 u (by
  rw [← hR, Array.toList_extract] at hu
  exact List.mem_of_mem_drop (List.mem_of_mem_take hu))
 have hRg : ∀ j u, R[j]? = some u → O[(i + 1) * 1 + j]? = some u := fun j u hj => by
  rw [← hR, Array.getElem?_extract] at hj
  split at hj
  ·exact hj
  ·cases hj
 have hRlen : R.toList.length = (n - (i + 1)) * 1 := by simpa using hRl
 have hmm : (i + 1) * 1 + (n - (i + 1)) * 1 = n * 1 := by rw [← Nat.add_mul]; congr 1; omega
 obtain ⟨W1, hW1⟩ : ∃ W1, w.drew.setRow b (spl cur (o + i * 1) R.toList) = W1 := ⟨_, rfl⟩
 have hs1 := spl_size (cur := cur) (p := o + i * 1) (xs := R.toList) (by rw [hRlen]; omega)
 have hcur1 : W1.heap[b]? = some (.cells (spl cur (o + i * 1) R.toList) T (0, 0)) := by rw [← hW1]; exact setRow_heap w.drew _ cur _ _ _ hb
 have hOld1 : ∀ k, k ≠ b → W1.heap[k]? = w.heap[k]? := fun k hk => by rw [← hW1, setRow_other w.drew _ k _ hk]; rfl
 have hR2c : ∀ j u, R[j]? = some u → w.cell? ⟨b, (o + (i + 1)) + j, none⟩ = some u := fun j u hj => by
  have := hOc _ u (hRg j u hj)
  simp only [World.cell?, hb]
  rw [show o + (i + 1) + j = o + ((i + 1) * 1 + j) by omega]
  exact this
 obtain ⟨A, hA, hfr⟩ : ∃ A : Addr, (if c = i + 1 then (⟨b, o, none⟩ : Addr) else ⟨b, o + (i + 1), none⟩) = A ∧ (Builtin.firstCells 1 (n - (i + 1)) (.slice (some A) (n - (i + 1)) (c - (i + 1)))).run Try.prog w.drew = .ok R w.drew := by
  refine ⟨_, rfl, ?_⟩
  by_cases h : c = i + 1
  ·have h0 : n - (i + 1) = 0 := by omega
   have hRe : R = #[] := Array.eq_empty_of_size_eq_zero (by rw [hRl, h0, Nat.zero_mul])
   rw [h0, hRe, if_pos h]
   simp [Builtin.firstCells, loadCells, loadCellsFrom]
  ·rw [if_neg h]
   have := firstCells_at (P := Try.prog) (w := w) (sz := 1) (n := n - (i + 1)) (len := n - (i + 1)) (cap := c - (i + 1)) hR2c oM (w2 := w.drew) rfl
   rwa [show (n - (i + 1)) * 1 = R.size by omega, Array.extract_size] at this
 have hap : ∀ ty, (Builtin.append_ #[27, 27] ty #[.slice (some ⟨b, o, none⟩) i c, .slice (some A) (n - (i + 1)) (c - (i + 1))]).run Try.prog w.drew = .ok (.slice (some ⟨b, o, none⟩) (n - 1) c) W1 := fun ty => by
  have := run_append_at (P := Try.prog) (w := w.drew) (t := 27) (u := 27) (ty := ty) (sz := 1) (m := n - (i + 1)) (vx := .slice (some A) (n - (i + 1)) (c - (i + 1))) (news := R) (blk := b) (p := o) (len := i) (cap := c) ht ht rfl hs (by simp [Builtin.lenOf]) hfr hRl oM hb oM hR1
  rw [show i + (n - (i + 1)) = n - 1 by omega] at this
  rw [← hW1]
  exact this
 have hzl : (Builtin.zeroCells (Value.cells (.int .i64 0)) 1).toList = [.int .i64 0] := by kernel_rfl
 have hnm : (n - 1) * 1 + 1 = n * 1 := by rw [← Nat.succ_mul]; congr 1; omega
 obtain ⟨W2, hW2⟩ : ∃ W2, W1.setRow b (spl (spl cur (o + i * 1) R.toList) (o + (n - 1)) [.int .i64 0]) = W2 := ⟨_, rfl⟩
 have hcl : ∀ ty dc, (Builtin.clear_ #[27] ty #[.slice (some ⟨b, o + (n - 1), none⟩) (n - (n - 1)) dc]).run Try.prog W1 = .ok (.tuple #[]) W2 := fun ty dc => by
  rw [← hW2, show n - (n - 1) = 1 by omega]
  exact run_clear_at ht hzr hzl hcur1 (by rw [hs1]; simp; omega) (by simp [Value.oneCell'])
 have fin : DelPost w b o c (n - 1) 1 (O.extract 0 (i * 1) ++ R) (.returned (.slice (some ⟨b, o, none⟩) (n - 1) c)) W2 := by
  have hzle : ([.int .i64 0] : List Value).length = 1 := rfl
  refine ⟨⟨_, T, rfl, by rw [← hW2]; exact setRow_heap W1 _ _ _ _ _ hcur1, ?_, fun j v hj => ?_⟩, fun k hk => by rw [← hW2, setRow_other W1 _ k _ hk]; exact hOld1 k hk, ?_, ?_, ?_, ?_⟩
  ·rw [spl_size (by rw [hs1, hzle]; omega), hs1]; exact hfit
  ·have hA2 : (O.extract 0 (i * 1)).size = i * 1 := by rw [Array.size_extract, hO]; omega
   have hjl := (Array.getElem?_eq_some_iff.1 hj).1
   rw [Array.size_append, hA2, hRl] at hjl
   rw [spl_get (by rw [hs1, hzle]; omega), if_neg oM, spl_get (by rw [hRlen]; omega), hRlen]
   by_cases h1 : j < i * 1
   ·rw [if_neg oM]
    rw [Array.getElem?_append_left oM, Array.getElem?_extract] at hj
    split at hj
    ·refine hOc j v ?_
     simpa using hj
    ·cases hj
   ·rw [Array.getElem?_append_right oM, hA2] at hj
    rw [if_pos oM, show o + j - (o + i * 1) = j - i * 1 by omega]
    simpa using hj
  ·rw [← hW2, ← hW1]; rfl
  ·rw [← hW2, ← hW1]; rfl
  ·rw [← hW2, ← hW1]; rfl
  ·rw [← hW2, ← hW1]; simp [World.setRow]
 have mixed : Try.prog.follows Departure.mixedOrders = true := by kernel_rfl
 have hic : i ≤ c := by omega
 have hjc : i + 1 ≤ c := by omega
 have hjn : i + 1 ≤ n := by omega
 have hb1 : (0 : Int) ≤ (i : Int) + 1 := by omega
 have htn : ((i : Int) + 1).toNat = i + 1 := by omega
 have hii : (i : Int) ≤ (i : Int) + 1 := by omega
 have hin : (i : Int) + 1 ≤ (n : Int) := by omega
 have hin2 : (i : Int) + 1 ≤ (c : Int) := by omega
 have hne : ¬ ((i : Int) = (i : Int) + 1) := by omega
 have hn1 : n - 1 ≤ n := by omega
 have hn2 : n - 1 ≤ c := by omega
 have hn4 : ¬ (c = n - 1) := by omega
 rw [hR]
 clear hcur1 hs1 hW1 hW2 hcm hmm hnm
 by_cases hci : c = i + 1
 ·obtain rfl : n = i + 1 := by omega
  subst hci
  rw [if_pos rfl] at hA
  subst hA
  have hone : i + 1 - i = 1 := by omega
  simp only [Nat.add_sub_cancel, hone] at fin hap hcl
  go_enter Try.func25, Try.ntmps25
  go_wp2_with fail
  go_region_law_o (refine step_append_runI rfl _ _ 27 27 rfl (.slice (some ⟨b, o, none⟩) i (i + 1)) (.slice (some ⟨b, o, none⟩) (i + 1 - (i + 1)) (i + 1 - (i + 1))) (by simp [Act.eval, Act.put]) (by simp [Act.eval, Act.put]) (hap _) ?_)
  go_wp2
  go_ret
  exact fin
 ·rw [if_neg hci] at hA
  subst hA
  go_enter Try.func25, Try.ntmps25
  go_wp2_with fail
  go_region_law_o (refine step_append_runI rfl _ _ 27 27 rfl (.slice (some ⟨b, o, none⟩) i c) (.slice (some ⟨b, o + (i + 1), none⟩) (n - (i + 1)) (c - (i + 1))) (by simp [Act.eval, Act.put]) (by simp [Act.eval, Act.put]) (hap _) ?_)
  go_wp2
  go_ret
  exact fin
end Go.Proofs.Ytpkemmchpccjdaa
namespace Go.Proofs.Ytpkemmchpccjdaa
open Go.Lib Go.RowKit
set_option linter.unusedVariables false
set_option linter.unusedSimpArgs false
set_option maxHeartbeats 4000000 in
set_option maxRecDepth 100000 in
theorem delM_spec (b o n c i : Nat) (cur : Array Value) (T : TypeId) (w : World) (hb : w.heap[b]? = some (.cells cur T (0, 0))) (hi : i < n) (hnc : n ≤ c) (hc : c ≤ maxLen) (hfit : o + c * 4 ≤ cur.size)
  (O : Array Value) (hO : O.size = n * 4) (hOc : ∀ j u, O[j]? = some u → cur[o + j]? = some u) (hO1 : ∀ u ∈ O.toList, u.oneCell' = true) :
  Calls Try.prog 24 #[.slice (some ⟨b, o, none⟩) n c, .int .i64 i, .int .i64 ((i : Int) + 1)] w fun e w' => DelPost w b o c (n - 1) 4 (O.extract 0 (i * 4) ++ O.extract ((i + 1) * 4) (n * 4)) e w' := by
 have ht := Try.underlying26
 have hs : sizT Try.prog 35 = some 4 := by kernel_rfl
 have hzv : (Try.prog.info? 35).bind (·.zero) = some (.agg #[.int .i64 0, .int .i64 0, .int .i64 0, .slice none 0 0]) := by kernel_rfl
 have hzr : ∀ w, (zeroValue 35).run Try.prog w = .ok (.agg #[.int .i64 0, .int .i64 0, .int .i64 0, .slice none 0 0]) w := fun w => by
  cases hin : Try.prog.info? 35 with
  | none => rw [hin] at hzv; cases hzv
  | some inf => rw [hin] at hzv; simp [zeroValue, typeInfo, hin, show inf.zero = some (.agg #[.int .i64 0, .int .i64 0, .int .i64 0, .slice none 0 0]) from hzv]
 have hc63 := hc
 unfold maxLen at hc63
 have hcm : n * 4 ≤ c * 4 := Nat.mul_le_mul_right _ hnc
 obtain ⟨R, hR⟩ : ∃ R, O.extract ((i + 1) * 4) (n * 4) = R := ⟨_, rfl⟩
 have hRl : R.size = (n - (i + 1)) * 4 := by rw [← hR, Array.size_extract, hO, Nat.sub_mul]; omega
 have hR1 : ∀ u ∈ R.toList, u.oneCell' = true := fun u hu => hO1 u (by
  rw [← hR, Array.toList_extract] at hu
  exact List.mem_of_mem_drop (List.mem_of_mem_take hu))
 have hRg : ∀ j u, R[j]? = some u → O[(i + 1) * 4 + j]? = some u := fun j u hj => by
  rw [← hR, Array.getElem?_extract] at hj
  split at hj
  ·exact hj
  ·cases hj
 have hRlen : R.toList.length = (n - (i + 1)) * 4 := by simpa using hRl
 have hmm : (i + 1) * 4 + (n - (i + 1)) * 4 = n * 4 := by rw [← Nat.add_mul]; congr 1; omega
 obtain ⟨W1, hW1⟩ : ∃ W1, w.drew.setRow b (spl cur (o + i * 4) R.toList) = W1 := ⟨_, rfl⟩
 have hs1 := spl_size (cur := cur) (p := o + i * 4) (xs := R.toList) (by rw [hRlen]; omega)
 have hcur1 : W1.heap[b]? = some (.cells (spl cur (o + i * 4) R.toList) T (0, 0)) := by rw [← hW1]; exact setRow_heap w.drew _ cur _ _ _ hb
 have hOld1 : ∀ k, k ≠ b → W1.heap[k]? = w.heap[k]? := fun k hk => by rw [← hW1, setRow_other w.drew _ k _ hk]; rfl
 have hR2c : ∀ j u, R[j]? = some u → w.cell? ⟨b, (o + (i + 1) * 4) + j, none⟩ = some u := fun j u hj => by
  have := hOc _ u (hRg j u hj)
  simp only [World.cell?, hb]
  rw [show o + (i + 1) * 4 + j = o + ((i + 1) * 4 + j) by omega]
  exact this
 obtain ⟨A, hA, hfr⟩ : ∃ A : Addr, (if c = i + 1 then (⟨b, o, none⟩ : Addr) else ⟨b, o + (i + 1) * 4, none⟩) = A ∧ (Builtin.firstCells 4 (n - (i + 1)) (.slice (some A) (n - (i + 1)) (c - (i + 1)))).run Try.prog w.drew = .ok R w.drew := by
  refine ⟨_, rfl, ?_⟩
  by_cases h : c = i + 1
  ·have h0 : n - (i + 1) = 0 := by omega
   have hRe : R = #[] := Array.eq_empty_of_size_eq_zero (by rw [hRl, h0, Nat.zero_mul])
   rw [h0, hRe, if_pos h]
   simp [Builtin.firstCells, loadCells, loadCellsFrom]
  ·rw [if_neg h]
   have := firstCells_at (P := Try.prog) (w := w) (sz := 4) (n := n - (i + 1)) (len := n - (i + 1)) (cap := c - (i + 1)) hR2c oM (w2 := w.drew) rfl
   rwa [show (n - (i + 1)) * 4 = R.size by omega, Array.extract_size] at this
 have hap : ∀ ty, (Builtin.append_ #[26, 26] ty #[.slice (some ⟨b, o, none⟩) i c, .slice (some A) (n - (i + 1)) (c - (i + 1))]).run Try.prog w.drew = .ok (.slice (some ⟨b, o, none⟩) (n - 1) c) W1 := fun ty => by
  have := run_append_at (P := Try.prog) (w := w.drew) (t := 26) (u := 26) (ty := ty) (sz := 4) (m := n - (i + 1)) (vx := .slice (some A) (n - (i + 1)) (c - (i + 1))) (news := R) (blk := b) (p := o) (len := i) (cap := c) ht ht rfl hs (by simp [Builtin.lenOf]) hfr hRl oM hb oM hR1
  rw [show i + (n - (i + 1)) = n - 1 by omega] at this
  rw [← hW1]
  exact this
 have hzl : (Builtin.zeroCells (Value.cells (.agg #[.int .i64 0, .int .i64 0, .int .i64 0, .slice none 0 0])) 1).toList = [.int .i64 0, .int .i64 0, .int .i64 0, .slice none 0 0] := by kernel_rfl
 have hnm : (n - 1) * 4 + 4 = n * 4 := by rw [← Nat.succ_mul]; congr 1; omega
 obtain ⟨W2, hW2⟩ : ∃ W2, W1.setRow b (spl (spl cur (o + i * 4) R.toList) (o + (n - 1) * 4) [.int .i64 0, .int .i64 0, .int .i64 0, .slice none 0 0]) = W2 := ⟨_, rfl⟩
 have hcl : ∀ ty dc, (Builtin.clear_ #[26] ty #[.slice (some ⟨b, o + (n - 1) * 4, none⟩) (n - (n - 1)) dc]).run Try.prog W1 = .ok (.tuple #[]) W2 := fun ty dc => by
  rw [← hW2, show n - (n - 1) = 1 by omega]
  exact run_clear_at ht hzr hzl hcur1 (by rw [hs1]; simp; omega) (by simp [Value.oneCell'])
 have fin : DelPost w b o c (n - 1) 4 (O.extract 0 (i * 4) ++ R) (.returned (.slice (some ⟨b, o, none⟩) (n - 1) c)) W2 := by
  have hzle : ([.int .i64 0, .int .i64 0, .int .i64 0, .slice none 0 0] : List Value).length = 4 := rfl
  refine ⟨⟨_, T, rfl, by rw [← hW2]; exact setRow_heap W1 _ _ _ _ _ hcur1, ?_, fun j v hj => ?_⟩, fun k hk => by rw [← hW2, setRow_other W1 _ k _ hk]; exact hOld1 k hk, ?_, ?_, ?_, ?_⟩
  ·rw [spl_size (by rw [hs1, hzle]; omega), hs1]; exact hfit
  ·have hA2 : (O.extract 0 (i * 4)).size = i * 4 := by rw [Array.size_extract, hO]; omega
   have hjl := (Array.getElem?_eq_some_iff.1 hj).1
   rw [Array.size_append, hA2, hRl] at hjl
   rw [spl_get (by rw [hs1, hzle]; omega), if_neg oM, spl_get (by rw [hRlen]; omega), hRlen]
   by_cases h1 : j < i * 4
   ·rw [if_neg oM]
    rw [Array.getElem?_append_left oM, Array.getElem?_extract] at hj
    split at hj
    ·refine hOc j v ?_
     simpa using hj
    ·cases hj
   ·rw [Array.getElem?_append_right oM, hA2] at hj
    rw [if_pos oM, show o + j - (o + i * 4) = j - i * 4 by omega]
    simpa using hj
  ·rw [← hW2, ← hW1]; rfl
  ·rw [← hW2, ← hW1]; rfl
  ·rw [← hW2, ← hW1]; rfl
  ·rw [← hW2, ← hW1]; simp [World.setRow]
 have mixed : Try.prog.follows Departure.mixedOrders = true := by kernel_rfl
 have hic : i ≤ c := by omega
 have hjc : i + 1 ≤ c := by omega
 have hjn : i + 1 ≤ n := by omega
 have hb1 : (0 : Int) ≤ (i : Int) + 1 := by omega
 have htn : ((i : Int) + 1).toNat = i + 1 := by omega
 have hii : (i : Int) ≤ (i : Int) + 1 := by omega
 have hin : (i : Int) + 1 ≤ (n : Int) := by omega
 have hin2 : (i : Int) + 1 ≤ (c : Int) := by omega
 have hne : ¬ ((i : Int) = (i : Int) + 1) := by omega
 have hn1 : n - 1 ≤ n := by omega
 have hn2 : n - 1 ≤ c := by omega
 have hn4 : ¬ (c = n - 1) := by omega
 rw [hR]
 clear hcur1 hs1 hW1 hW2 hcm hmm hnm
 by_cases hci : c = i + 1
 ·obtain rfl : n = i + 1 := by omega
  subst hci
  rw [if_pos rfl] at hA
  subst hA
  have hone : i + 1 - i = 1 := by omega
  simp only [Nat.add_sub_cancel, hone] at fin hap hcl
  go_enter Try.func24, Try.ntmps24
  go_wp2_with fail
  go_region_law_o (refine step_append_runI rfl _ _ 26 26 rfl (.slice (some ⟨b, o, none⟩) i (i + 1)) (.slice (some ⟨b, o, none⟩) (i + 1 - (i + 1)) (i + 1 - (i + 1))) (by simp [Act.eval, Act.put]) (by simp [Act.eval, Act.put]) (hap _) ?_)
  go_wp2
  go_ret
  exact fin
 ·rw [if_neg hci] at hA
  subst hA
  go_enter Try.func24, Try.ntmps24
  go_wp2_with fail
  go_region_law_o (refine step_append_runI rfl _ _ 26 26 rfl (.slice (some ⟨b, o, none⟩) i c) (.slice (some ⟨b, o + (i + 1) * 4, none⟩) (n - (i + 1)) (c - (i + 1))) (by simp [Act.eval, Act.put]) (by simp [Act.eval, Act.put]) (hap _) ?_)
  go_wp2
  go_ret
  exact fin
end Go.Proofs.Ytpkemmchpccjdaa
namespace Go.Proofs.Ytpkemmchpccjdaa
set_option linter.unusedVariables false
set_option linter.unusedSimpArgs false
section
variable {P : Program} {w : World} {F : Nat → Prop} {L : LMap} {b l : List Row}
theorem repl3 {x y z : AV} {vs : List Value} (h : RepL w F L [x, y, z] vs) : ∃ u v t, vs = [u, v, t] ∧ RepA w F L x u ∧ RepA w F L y v ∧ RepA w F L z t := by
 obtain ⟨h1, h2⟩ := h
 match vs, h1 with
 | [u, v, t], _ => exact ⟨u, v, t, rfl, h2 0 _ _ rfl rfl, h2 1 _ _ rfl rfl, h2 2 _ _ rfl rfl⟩
theorem getI {α : Type} {els : List α} {x : α} {i k : Nat} {row : α} (hi : i ≤ els.length) (h : (els.take i ++ [x] ++ els.drop i)[k]? = some row) :
  (k < i ∧ els[k]? = some row) ∨ (k = i ∧ row = x) ∨ (i < k ∧ els[k - 1]? = some row) := by
 have hl : (els.take i).length = i := by rw [List.length_take]; omega
 by_cases h1 : k < i
 ·rw [List.append_assoc, List.getElem?_append_left oM, List.getElem?_take, if_pos h1] at h
  exact .inl ⟨h1, h⟩
 ·by_cases h2 : k = i
  ·subst h2
   rw [List.getElem?_append_left (by rw [List.length_append]; simp; omega), List.getElem?_append_right oM, hl, Nat.sub_self] at h
   simp at h
   exact .inr (.inl ⟨rfl, h.symm⟩)
  ·rw [List.getElem?_append_right (by rw [List.length_append]; simp; omega), List.length_append, hl, List.getElem?_drop] at h
   refine .inr (.inr ⟨by omega, ?_⟩)
   rw [← h]; congr 1; simp; omega
theorem getD1 {α : Type} {els : List α} {i k : Nat} {row : α} (hi : i < els.length) (h : (els.take i ++ els.drop (i + 1))[k]? = some row) :
  (k < i ∧ els[k]? = some row) ∨ (i ≤ k ∧ els[k + 1]? = some row) := by
 have hl : (els.take i).length = i := by rw [List.length_take]; omega
 by_cases h1 : k < i
 ·rw [List.getElem?_append_left oM, List.getElem?_take, if_pos h1] at h
  exact .inl ⟨h1, h⟩
 ·rw [List.getElem?_append_right oM, hl, List.getElem?_drop] at h
  refine .inr ⟨by omega, ?_⟩
  rw [← h]; congr 1; omega
theorem ins_rows (s : Sim F L (b ++ l) w) {id ver sz i n blk : Nat} {els : List (List AV)} {x : List AV} (hsz0 : 0 < sz) (hid : (b ++ l)[id]? = some (.live ver sz els)) (hn : els.length = n) (hi : i ≤ n) {O X : Array Value} (hO : O.size = n * sz) (hX : X.size = sz) (hOr : RepE w F L sz els O) (hXr : RepE w F L sz [x] X)
  (hblk : (∃ o c, L id ver = some (.pl blk o sz c)) ∨ w.heap.size ≤ blk) {e : Ending} {w' : World} (h : InsPost w blk sz n (O.extract 0 (i * sz) ++ X ++ O.extract (i * sz) (n * sz)) e w') :
  ∃ v y b' l' F' L', e = .returned v ∧ RepA w' F' L' y v ∧ Sim F' L' (b' ++ l') w' ∧ Step (b ++ l).length F L (b ++ l) w F' L' (b' ++ l') w' ∧ b'.length = b.length ∧ (y = .sl id (ver + 1) 0 (n + 1) ∧ b' = hsetB b id (.live (ver + 1) sz (els.take i ++ [x] ++ els.drop i)) ∧ l' = hsetL b l id (.live (ver + 1) sz (els.take i ++ [x] ++ els.drop i))) := by
 obtain ⟨⟨blk', o, cap, cur, T, rfl, h2, h3, h4, h5, h6, h7, h8⟩, h9, h10, h11, h12⟩ := h
 have hidl : id < (b ++ l).length := (List.getElem?_eq_some_iff.1 hid).1
 have hA : (O.extract 0 (i * sz)).size = i * sz := by
  have := Nat.mul_le_mul_right sz hi
  rw [Array.size_extract, hO]; omega
 have hin := Nat.mul_le_mul_right sz hi
 have hlen : (els.take i ++ [x] ++ els.drop i).length = n + 1 := by simp; omega
 have hnew : w.heap.size ≤ blk' ∨ ∃ v z els0 o0 z0 cap0, (b ++ l)[id]? = some (.live v z els0) ∧ L id v = some (.pl blk' o0 z0 cap0) := by
  rcases h7 with rfl | h
  ·rcases hblk with ⟨o1, c1, hL⟩ | h0
   ·exact .inr ⟨_, _, _, _, _, _, hid, hL⟩
   ·exact .inl h0
  ·exact .inl h
 obtain ⟨L', r1, r2, r3, r4⟩ := s.putRow (h' := (b ++ l).set id (.live (ver + 1) sz (els.take i ++ [x] ++ els.drop i))) (w' := w')
  id (ver + 1) sz blk' o cap (els.take i ++ [x] ++ els.drop i) h9 h10 h11 h12 h8 hnew
  (List.getElem?_set_self hidl) (fun j hj => List.getElem?_set_ne (Ne.symm hj)) (fun r hr => by rw [hid] at hr; cases hr; exact ⟨Nat.le_succ _, _, _, _, rfl⟩) (.inl (fresh_succ s hid))
  (by rw [hlen]; exact h3) h4 cur T h2 h5
  (fun k row hk => by
   rcases getI oM hk with ⟨_, h⟩ | ⟨_, rfl⟩ | ⟨_, h⟩
   ·exact hOr.1 _ _ h
   ·exact hXr.1 0 _ rfl
   ·exact hOr.1 _ _ h)
  (fun k row j cc hk hj => by
   rcases getI oM hk with ⟨hki, h⟩ | ⟨rfl, rfl⟩ | ⟨hki, h⟩
   ·obtain ⟨q1, u, q2, q3⟩ := hOr.2 _ _ j cc h hj
    have hjl : j < sz := by rw [← hOr.1 _ _ h]; exact (List.getElem?_eq_some_iff.1 hj).1
    have := elem_le (sz := sz) (j := j) (n := 1) hki oM
    refine ⟨q1, u, ?_, q3⟩
    rw [Nat.add_assoc]
    refine h6 _ _ ?_
    rw [Array.getElem?_append_left (by rw [Array.size_append]; omega), Array.getElem?_append_left oM, Array.getElem?_extract, if_pos oM, Nat.zero_add]
    exact q2
   ·obtain ⟨q1, u, q2, q3⟩ := hXr.2 0 _ j cc rfl hj
    have hjl : j < sz := by rw [← hXr.1 0 _ rfl]; exact (List.getElem?_eq_some_iff.1 hj).1
    refine ⟨q1, u, ?_, q3⟩
    rw [Nat.add_assoc]
    refine h6 _ _ ?_
    rw [Array.getElem?_append_left (by rw [Array.size_append]; omega), Array.getElem?_append_right oM, hA, show k * sz + j - k * sz = j by omega]
    simpa using q2
   ·obtain ⟨q1, u, q2, q3⟩ := hOr.2 _ _ j cc h hj
    have hjl : j < sz := by rw [← hOr.1 _ _ h]; exact (List.getElem?_eq_some_iff.1 hj).1
    have hkn : k - 1 < n := by rw [← hn]; exact (List.getElem?_eq_some_iff.1 h).1
    have e1 : k * sz = (k - 1) * sz + sz := by rw [← Nat.succ_mul]; congr 1; omega
    have e2 := Nat.mul_le_mul_right sz (show i ≤ k - 1 by omega)
    have := elem_le (sz := sz) (j := j) (n := 1) hkn oM
    refine ⟨q1, u, ?_, q3⟩
    rw [Nat.add_assoc]
    refine h6 _ _ ?_
    rw [Array.getElem?_append_right (by rw [Array.size_append]; omega), Array.size_append, hA, hX, Array.getElem?_extract, if_pos oM, show i * sz + (k * sz + j - (i * sz + sz)) = (k - 1) * sz + j by omega]
    exact q2)
 refine ⟨_, _, _, _, F, L', rfl, ?_, by rw [hset_eq]; exact r1, by rw [hset_eq]; exact r2, hsetB_len _ _ _, rfl, rfl, rfl⟩
 have := RepA.sl (w := w') (F := F) id (ver + 1) 0 (n + 1) _ _ _ _ r3 oM h4
 simpa using this
theorem del_rows (s : Sim F L (b ++ l) w) {id ver sz i n blk o c : Nat} {els : List (List AV)} (hsz0 : 0 < sz) (hid : (b ++ l)[id]? = some (.live ver sz els)) (hn : els.length = n) (hi : i < n) {O : Array Value} (hO : O.size = n * sz) (hOr : RepE w F L sz els O)
  (hL : L id ver = some (.pl blk o sz c)) (hnc : n ≤ c) (hc : c ≤ maxLen) {e : Ending} {w' : World} (h : DelPost w blk o c (n - 1) sz (O.extract 0 (i * sz) ++ O.extract ((i + 1) * sz) (n * sz)) e w') :
  ∃ v y b' l' F' L', e = .returned v ∧ RepA w' F' L' y v ∧ Sim F' L' (b' ++ l') w' ∧ Step (b ++ l).length F L (b ++ l) w F' L' (b' ++ l') w' ∧ b'.length = b.length ∧ (y = .sl id (ver + 1) 0 (n - 1) ∧ b' = hsetB b id (.live (ver + 1) sz (els.take i ++ els.drop (i + 1))) ∧ l' = hsetL b l id (.live (ver + 1) sz (els.take i ++ els.drop (i + 1)))) := by
 obtain ⟨⟨cur, T, rfl, h2, h5, h6⟩, h8, h9, h10, h11, h12⟩ := h
 have hidl : id < (b ++ l).length := (List.getElem?_eq_some_iff.1 hid).1
 have hin := Nat.mul_le_mul_right sz (show i ≤ n by omega)
 have hin1 := Nat.mul_le_mul_right sz (show i + 1 ≤ n by omega)
 have hA : (O.extract 0 (i * sz)).size = i * sz := by rw [Array.size_extract, hO]; omega
 have hlen : (els.take i ++ els.drop (i + 1)).length = n - 1 := by simp; omega
 obtain ⟨L', r1, r2, r3, r4⟩ := s.putRow (h' := (b ++ l).set id (.live (ver + 1) sz (els.take i ++ els.drop (i + 1)))) (w' := w')
  id (ver + 1) sz blk o c (els.take i ++ els.drop (i + 1)) h9 h10 h11 oM (fun k _ hk => h8 k hk) (.inr ⟨_, _, _, _, _, _, hid, hL⟩)
  (List.getElem?_set_self hidl) (fun j hj => List.getElem?_set_ne (Ne.symm hj)) (fun r hr => by rw [hid] at hr; cases hr; exact ⟨Nat.le_succ _, _, _, _, rfl⟩) (.inl (fresh_succ s hid))
  (by rw [hlen]; omega) hc cur T h2 h5
  (fun k row hk => by
   rcases getD1 oM hk with ⟨_, h⟩ | ⟨_, h⟩
   ·exact hOr.1 _ _ h
   ·exact hOr.1 _ _ h)
  (fun k row j cc hk hj => by
   rcases getD1 oM hk with ⟨hki, h⟩ | ⟨hki, h⟩
   ·obtain ⟨q1, u, q2, q3⟩ := hOr.2 _ _ j cc h hj
    have hjl : j < sz := by rw [← hOr.1 _ _ h]; exact (List.getElem?_eq_some_iff.1 hj).1
    have := elem_le (sz := sz) (j := j) (n := 1) hki oM
    refine ⟨q1, u, ?_, q3⟩
    rw [Nat.add_assoc]
    refine h6 _ _ ?_
    rw [Array.getElem?_append_left oM, Array.getElem?_extract, if_pos oM, Nat.zero_add]
    exact q2
   ·obtain ⟨q1, u, q2, q3⟩ := hOr.2 _ _ j cc h hj
    have hjl : j < sz := by rw [← hOr.1 _ _ h]; exact (List.getElem?_eq_some_iff.1 hj).1
    have hkn : k + 1 < n := by rw [← hn]; exact (List.getElem?_eq_some_iff.1 h).1
    have e1 : (k + 1) * sz = k * sz + sz := Nat.succ_mul k sz
    have e3 : (i + 1) * sz = i * sz + sz := Nat.succ_mul i sz
    have e2 := Nat.mul_le_mul_right sz hki
    have := elem_le (sz := sz) (j := j) (n := 1) hkn oM
    refine ⟨q1, u, ?_, q3⟩
    rw [Nat.add_assoc]
    refine h6 _ _ ?_
    rw [Array.getElem?_append_right oM, hA, Array.getElem?_extract, if_pos oM, show (i + 1) * sz + (k * sz + j - i * sz) = (k + 1) * sz + j by omega]
    exact q2)
 refine ⟨_, _, _, _, F, L', rfl, ?_, by rw [hset_eq]; exact r1, by rw [hset_eq]; exact r2, hsetB_len _ _ _, rfl, rfl, rfl⟩
 have := RepA.sl (w := w') (F := F) id (ver + 1) 0 (n - 1) _ _ _ _ r3 oM hc
 simpa using this
end

theorem insI_run (id ver i idv verv : Nat) (els : List (List AV)) (x : List AV) (b l : List Row) (hid : (b ++ l)[id]? = some (.live ver 1 els)) (hv : (b ++ l)[idv]? = some (.live verv 1 [x])) (hne : idv ≠ id) (hn : els.length ≤ 1000000) (hi : i ≤ els.length) :
  ACalls Try.prog 30 [.sl id ver 0 els.length, .v (.int .i64 i), .sl idv verv 0 1] b l (fun r b' l' => r = .sl id (ver + 1) 0 (els.length + 1) ∧ b' = hsetB b id (.live (ver + 1) 1 (els.take i ++ [x] ++ els.drop i)) ∧ l' = hsetL b l id (.live (ver + 1) 1 (els.take i ++ [x] ++ els.drop i))) := by
 refine ⟨⟨_, Try.func30, by kernel_rfl, by kernel_rfl⟩, fun F L w us s hr => ?_⟩
 obtain ⟨u, v, t, hus, h1, h2, h3⟩ := repl3 hr
 obtain rfl : us = #[u, v, t] := by cases us; simp_all
 cases h2.vI
 obtain ⟨lc, k1, k2⟩ := s.row _ _ _ _ hid
 obtain ⟨lv, m1, m2⟩ := s.row _ _ _ _ hv
 obtain ⟨n, hnn⟩ : ∃ n, els.length = n := ⟨_, rfl⟩
 rw [hnn] at h1 hn hi
 rw [hnn]
 cases h3 with
 | sl _ _ _ _ bv ov zv capv hLv g1 g2 =>
   rw [m1] at hLv; cases hLv
   obtain ⟨rfl, m3, m4, curv, Tv, m5, m6, m7, m8⟩ := m2
   obtain ⟨X, x1, x2, x3, x4⟩ := news_at (w := w) (F := F) (L := L) (xs := [x]) (blk := bv) (p := ov) (by decide) m7 (fun k row j c hk hj => by
    obtain ⟨c1, u, hu, hr⟩ := m8 k row j c hk hj
    exact ⟨c1, u, by simp only [World.cell?, m5]; exact hu, hr⟩)
   have x1' : X.size = 1 := by simpa using x1
   have x4' : ∀ j u, X[j]? = some u → curv[ov + j]? = some u := fun j u hj => by
    have := x4 j u hj
    simp only [World.cell?, m5] at this
    exact this
   simp only [Nat.zero_mul, Nat.add_zero, Nat.sub_zero]
   have empty : ∀ (base : Option Addr) (blk : Nat), n = 0 → ((∃ o c, L id ver = some (.pl blk o 1 c)) ∨ w.heap.size ≤ blk) → Calls Try.prog 30 #[.slice base 0 0, .int .i64 (i : Nat), .slice (some ⟨bv, ov, none⟩) 1 capv] w fun en w' => ∃ v y b' l' F' L', en = .returned v ∧ RepA w' F' L' y v ∧ Sim F' L' (b' ++ l') w' ∧ Step (b ++ l).length F L (b ++ l) w F' L' (b' ++ l') w' ∧ b'.length = b.length ∧ (y = .sl id (ver + 1) 0 (n + 1) ∧ b' = hsetB b id (.live (ver + 1) 1 (els.take i ++ [x] ++ els.drop i)) ∧ l' = hsetL b l id (.live (ver + 1) 1 (els.take i ++ [x] ++ els.drop i))) := by
    intro base blk h0 hblk
    subst h0
    obtain rfl : i = 0 := by omega
    have hels : els = [] := List.eq_nil_of_length_eq_zero hnn
    have hOr : RepE w F L 1 els #[] := by rw [hels]; exact ⟨fun k row h => by simp at h, fun k row j c h => by simp at h⟩
    refine (insE2I_spec blk 0 0 bv ov capv base X w oM oM x1' x4 x3 #[] (by simp) (by cases base <;> simp [Builtin.firstCells, loadCells, loadCellsFrom])).mono (fun e w' h => ?_)
    have hN : (#[] : Array Value).extract 0 (0 * 1) ++ X ++ (#[] : Array Value).extract (0 * 1) (0 * 1) = #[] ++ X := by simp
    exact ins_rows s (by decide) hid hnn (Nat.le_refl _) (O := #[]) (by simp) x1' hOr x2 hblk (hN ▸ h)
   cases h1 with
   | sl _ _ _ _ b1 o1 z1 cap1 hL f1 f2 =>
     rw [k1] at hL; cases hL
     obtain ⟨rfl, k3, k4, cur, T, k5, k6, k7, k8⟩ := k2
     obtain ⟨O, p1, p2, p3, p4⟩ := news_at (w := w) (F := F) (L := L) (xs := els) (blk := b1) (p := o1) (by decide) k7 (fun k row j c hk hj => by
      obtain ⟨c1, u, hu, hr⟩ := k8 k row j c hk hj
      exact ⟨c1, u, by simp only [World.cell?, k5]; exact hu, hr⟩)
     rw [hnn] at p1
     have p4' : ∀ j u, O[j]? = some u → cur[o1 + j]? = some u := fun j u hj => by
      have := p4 j u hj
      simp only [World.cell?, k5] at this
      exact this
     simp only [Nat.zero_mul, Nat.add_zero, Nat.sub_zero]
     have hne2 : bv ≠ b1 := fun e => hne (s.apart _ _ _ _ _ _ _ _ b1 _ _ hv hid m1 k1 e rfl)
     have fin : ∀ e w', InsPost w b1 1 n (O.extract 0 (i * 1) ++ X ++ O.extract (i * 1) (n * 1)) e w' → _ := fun e w' h => ins_rows s (by decide) hid hnn hi p1 x1' p2 x2 (.inl ⟨_, _, k1⟩) h
     have hN : O.extract 0 (n * 1) ++ X ++ O.extract (n * 1) (n * 1) = O ++ X := by rw [← p1]; simp
     by_cases hin : i = n
     ·subst hin
      by_cases hroom : i + 1 ≤ cap1
      ·exact (insE1I_spec b1 o1 i cap1 bv ov capv cur X T w k5 hroom k4 k6 x1' x4 x3 O p1 p4').mono (fun e w' h => fin e w' (hN.symm ▸ h))
      ·refine (insE2I_spec b1 i cap1 bv ov capv (some ⟨b1, o1, none⟩) X w oM hn x1' x4 x3 O p1 ?_).mono (fun e w' h => fin e w' (hN.symm ▸ h))
       have := firstCells_at (P := Try.prog) (w := w) (sz := 1) (n := i) (len := i) (cap := cap1) p4 oM (w2 := w.drew) rfl
       rwa [← p1, Array.extract_size] at this
     ·by_cases hroom : n + 1 ≤ cap1
      ·exact (insSI_spec b1 o1 n cap1 i bv ov capv cur X curv T Tv w k5 m5 hne2 oM hroom k4 k6 hn x1' x4' x3 O p1 p4' p3).mono fin
      ·exact (insGI_spec b1 o1 n cap1 i bv ov capv cur X T w k5 oM oM oM hn x1' x4 x3 O p1 p4 p3).mono fin
   | slz _ _ _ b1 o1 z1 cap1 x1 hL hoff =>
     rw [k1] at hL; cases hL
     obtain ⟨rfl, _⟩ := k2
     exact empty (some ⟨b1, x1, none⟩) b1 rfl (.inl ⟨o1, cap1, k1⟩)
   | sln _ _ ad hL =>
     exact empty ad w.heap.size rfl (.inr (Nat.le_refl _))
theorem delI_run (id ver i : Nat) (els : List (List AV)) (b l : List Row) (hid : (b ++ l)[id]? = some (.live ver 1 els)) (hi : i < els.length) :
  ACalls Try.prog 25 [.sl id ver 0 els.length, .v (.int .i64 i), .v (.int .i64 ((i : Int) + 1))] b l (fun r b' l' => r = .sl id (ver + 1) 0 (els.length - 1) ∧ b' = hsetB b id (.live (ver + 1) 1 (els.take i ++ els.drop (i + 1))) ∧ l' = hsetL b l id (.live (ver + 1) 1 (els.take i ++ els.drop (i + 1)))) := by
 refine ⟨⟨_, Try.func25, by kernel_rfl, by kernel_rfl⟩, fun F L w us s hr => ?_⟩
 obtain ⟨u, v, t, hus, h1, h2, h3⟩ := repl3 hr
 obtain rfl : us = #[u, v, t] := by cases us; simp_all
 cases h2.vI
 cases h3.vI
 obtain ⟨lc, k1, k2⟩ := s.row _ _ _ _ hid
 obtain ⟨n, hnn⟩ : ∃ n, els.length = n := ⟨_, rfl⟩
 rw [hnn] at h1 hi
 rw [hnn]
 cases h1 with
 | sl _ _ _ _ b1 o1 z1 cap1 hL f1 f2 =>
   rw [k1] at hL; cases hL
   obtain ⟨rfl, k3, k4, cur, T, k5, k6, k7, k8⟩ := k2
   obtain ⟨O, p1, p2, p3, p4⟩ := news_at (w := w) (F := F) (L := L) (xs := els) (blk := b1) (p := o1) (by decide) k7 (fun k row j c hk hj => by
    obtain ⟨c1, u, hu, hr⟩ := k8 k row j c hk hj
    exact ⟨c1, u, by simp only [World.cell?, k5]; exact hu, hr⟩)
   rw [hnn] at p1
   have p4' : ∀ j u, O[j]? = some u → cur[o1 + j]? = some u := fun j u hj => by
    have := p4 j u hj
    simp only [World.cell?, k5] at this
    exact this
   simp only [Nat.zero_mul, Nat.add_zero, Nat.sub_zero]
   exact (delI_spec b1 o1 n cap1 i cur T w k5 hi oM k4 k6 O p1 p4' p3).mono (fun e w' h => del_rows s (by decide) hid hnn hi p1 p2 k1 oM k4 h)
 | slz => omega
 | sln => omega

theorem insM_run (id ver i idv verv : Nat) (els : List (List AV)) (x : List AV) (b l : List Row) (hid : (b ++ l)[id]? = some (.live ver 4 els)) (hv : (b ++ l)[idv]? = some (.live verv 4 [x])) (hne : idv ≠ id) (hn : els.length ≤ 1000000) (hi : i ≤ els.length) :
  ACalls Try.prog 29 [.sl id ver 0 els.length, .v (.int .i64 i), .sl idv verv 0 1] b l (fun r b' l' => r = .sl id (ver + 1) 0 (els.length + 1) ∧ b' = hsetB b id (.live (ver + 1) 4 (els.take i ++ [x] ++ els.drop i)) ∧ l' = hsetL b l id (.live (ver + 1) 4 (els.take i ++ [x] ++ els.drop i))) := by
 refine ⟨⟨_, Try.func29, by kernel_rfl, by kernel_rfl⟩, fun F L w us s hr => ?_⟩
 obtain ⟨u, v, t, hus, h1, h2, h3⟩ := repl3 hr
 obtain rfl : us = #[u, v, t] := by cases us; simp_all
 cases h2.vI
 obtain ⟨lc, k1, k2⟩ := s.row _ _ _ _ hid
 obtain ⟨lv, m1, m2⟩ := s.row _ _ _ _ hv
 obtain ⟨n, hnn⟩ : ∃ n, els.length = n := ⟨_, rfl⟩
 rw [hnn] at h1 hn hi
 rw [hnn]
 cases h3 with
 | sl _ _ _ _ bv ov zv capv hLv g1 g2 =>
   rw [m1] at hLv; cases hLv
   obtain ⟨rfl, m3, m4, curv, Tv, m5, m6, m7, m8⟩ := m2
   obtain ⟨X, x1, x2, x3, x4⟩ := news_at (w := w) (F := F) (L := L) (xs := [x]) (blk := bv) (p := ov) (by decide) m7 (fun k row j c hk hj => by
    obtain ⟨c1, u, hu, hr⟩ := m8 k row j c hk hj
    exact ⟨c1, u, by simp only [World.cell?, m5]; exact hu, hr⟩)
   have x1' : X.size = 4 := by simpa using x1
   have x4' : ∀ j u, X[j]? = some u → curv[ov + j]? = some u := fun j u hj => by
    have := x4 j u hj
    simp only [World.cell?, m5] at this
    exact this
   simp only [Nat.zero_mul, Nat.add_zero, Nat.sub_zero]
   have empty : ∀ (base : Option Addr) (blk : Nat), n = 0 → ((∃ o c, L id ver = some (.pl blk o 4 c)) ∨ w.heap.size ≤ blk) → Calls Try.prog 29 #[.slice base 0 0, .int .i64 (i : Nat), .slice (some ⟨bv, ov, none⟩) 1 capv] w fun en w' => ∃ v y b' l' F' L', en = .returned v ∧ RepA w' F' L' y v ∧ Sim F' L' (b' ++ l') w' ∧ Step (b ++ l).length F L (b ++ l) w F' L' (b' ++ l') w' ∧ b'.length = b.length ∧ (y = .sl id (ver + 1) 0 (n + 1) ∧ b' = hsetB b id (.live (ver + 1) 4 (els.take i ++ [x] ++ els.drop i)) ∧ l' = hsetL b l id (.live (ver + 1) 4 (els.take i ++ [x] ++ els.drop i))) := by
    intro base blk h0 hblk
    subst h0
    obtain rfl : i = 0 := by omega
    have hels : els = [] := List.eq_nil_of_length_eq_zero hnn
    have hOr : RepE w F L 4 els #[] := by rw [hels]; exact ⟨fun k row h => by simp at h, fun k row j c h => by simp at h⟩
    refine (insE2M_spec blk 0 0 bv ov capv base X w oM oM x1' x4 x3 #[] (by simp) (by cases base <;> simp [Builtin.firstCells, loadCells, loadCellsFrom])).mono (fun e w' h => ?_)
    have hN : (#[] : Array Value).extract 0 (0 * 4) ++ X ++ (#[] : Array Value).extract (0 * 4) (0 * 4) = #[] ++ X := by simp
    exact ins_rows s (by decide) hid hnn (Nat.le_refl _) (O := #[]) (by simp) x1' hOr x2 hblk (hN ▸ h)
   cases h1 with
   | sl _ _ _ _ b1 o1 z1 cap1 hL f1 f2 =>
     rw [k1] at hL; cases hL
     obtain ⟨rfl, k3, k4, cur, T, k5, k6, k7, k8⟩ := k2
     obtain ⟨O, p1, p2, p3, p4⟩ := news_at (w := w) (F := F) (L := L) (xs := els) (blk := b1) (p := o1) (by decide) k7 (fun k row j c hk hj => by
      obtain ⟨c1, u, hu, hr⟩ := k8 k row j c hk hj
      exact ⟨c1, u, by simp only [World.cell?, k5]; exact hu, hr⟩)
     rw [hnn] at p1
     have p4' : ∀ j u, O[j]? = some u → cur[o1 + j]? = some u := fun j u hj => by
      have := p4 j u hj
      simp only [World.cell?, k5] at this
      exact this
     simp only [Nat.zero_mul, Nat.add_zero, Nat.sub_zero]
     have hne2 : bv ≠ b1 := fun e => hne (s.apart _ _ _ _ _ _ _ _ b1 _ _ hv hid m1 k1 e rfl)
     have fin : ∀ e w', InsPost w b1 4 n (O.extract 0 (i * 4) ++ X ++ O.extract (i * 4) (n * 4)) e w' → _ := fun e w' h => ins_rows s (by decide) hid hnn hi p1 x1' p2 x2 (.inl ⟨_, _, k1⟩) h
     have hN : O.extract 0 (n * 4) ++ X ++ O.extract (n * 4) (n * 4) = O ++ X := by rw [← p1]; simp
     by_cases hin : i = n
     ·subst hin
      by_cases hroom : i + 1 ≤ cap1
      ·exact (insE1M_spec b1 o1 i cap1 bv ov capv cur X T w k5 hroom k4 k6 x1' x4 x3 O p1 p4').mono (fun e w' h => fin e w' (hN.symm ▸ h))
      ·refine (insE2M_spec b1 i cap1 bv ov capv (some ⟨b1, o1, none⟩) X w oM hn x1' x4 x3 O p1 ?_).mono (fun e w' h => fin e w' (hN.symm ▸ h))
       have := firstCells_at (P := Try.prog) (w := w) (sz := 4) (n := i) (len := i) (cap := cap1) p4 oM (w2 := w.drew) rfl
       rwa [← p1, Array.extract_size] at this
     ·by_cases hroom : n + 1 ≤ cap1
      ·exact (insSM_spec b1 o1 n cap1 i bv ov capv cur X curv T Tv w k5 m5 hne2 oM hroom k4 k6 hn x1' x4' x3 O p1 p4' p3).mono fin
      ·exact (insGM_spec b1 o1 n cap1 i bv ov capv cur X T w k5 oM oM oM hn x1' x4 x3 O p1 p4 p3).mono fin
   | slz _ _ _ b1 o1 z1 cap1 x1 hL hoff =>
     rw [k1] at hL; cases hL
     obtain ⟨rfl, _⟩ := k2
     exact empty (some ⟨b1, x1, none⟩) b1 rfl (.inl ⟨o1, cap1, k1⟩)
   | sln _ _ ad hL =>
     exact empty ad w.heap.size rfl (.inr (Nat.le_refl _))
theorem delM_run (id ver i : Nat) (els : List (List AV)) (b l : List Row) (hid : (b ++ l)[id]? = some (.live ver 4 els)) (hi : i < els.length) :
  ACalls Try.prog 24 [.sl id ver 0 els.length, .v (.int .i64 i), .v (.int .i64 ((i : Int) + 1))] b l (fun r b' l' => r = .sl id (ver + 1) 0 (els.length - 1) ∧ b' = hsetB b id (.live (ver + 1) 4 (els.take i ++ els.drop (i + 1))) ∧ l' = hsetL b l id (.live (ver + 1) 4 (els.take i ++ els.drop (i + 1)))) := by
 refine ⟨⟨_, Try.func24, by kernel_rfl, by kernel_rfl⟩, fun F L w us s hr => ?_⟩
 obtain ⟨u, v, t, hus, h1, h2, h3⟩ := repl3 hr
 obtain rfl : us = #[u, v, t] := by cases us; simp_all
 cases h2.vI
 cases h3.vI
 obtain ⟨lc, k1, k2⟩ := s.row _ _ _ _ hid
 obtain ⟨n, hnn⟩ : ∃ n, els.length = n := ⟨_, rfl⟩
 rw [hnn] at h1 hi
 rw [hnn]
 cases h1 with
 | sl _ _ _ _ b1 o1 z1 cap1 hL f1 f2 =>
   rw [k1] at hL; cases hL
   obtain ⟨rfl, k3, k4, cur, T, k5, k6, k7, k8⟩ := k2
   obtain ⟨O, p1, p2, p3, p4⟩ := news_at (w := w) (F := F) (L := L) (xs := els) (blk := b1) (p := o1) (by decide) k7 (fun k row j c hk hj => by
    obtain ⟨c1, u, hu, hr⟩ := k8 k row j c hk hj
    exact ⟨c1, u, by simp only [World.cell?, k5]; exact hu, hr⟩)
   rw [hnn] at p1
   have p4' : ∀ j u, O[j]? = some u → cur[o1 + j]? = some u := fun j u hj => by
    have := p4 j u hj
    simp only [World.cell?, k5] at this
    exact this
   simp only [Nat.zero_mul, Nat.add_zero, Nat.sub_zero]
   exact (delM_spec b1 o1 n cap1 i cur T w k5 hi oM k4 k6 O p1 p4' p3).mono (fun e w' h => del_rows s (by decide) hid hnn hi p1 p2 k1 oM k4 h)
 | slz => omega
 | sln => omega
end Go.Proofs.Ytpkemmchpccjdaa
namespace Go.Proofs.Ytpkemmchpccjdaa
set_option linter.unusedVariables false
set_option linter.unusedSimpArgs false
attribute [local go_sem ↓] run_skip run_region run_draw run_both run_seq run_block run_exit run_ret run_cond atN_app seqC_normal seqC_exit seqC_ret seqQ_normal seqQ_exit seqQ_ret blkQ_normal blkQ_exit blkQ_ret runOps_nil runOps_cons runD_nil runD_cons grdO_true grdO_false grdD_true grdD_false ifC_true ifC_false opS_val opS_call opS_two opK_app dS_val dS_call dS_two dK_app kUp_same kUp_ne
attribute [local go_sem] rechks_nil rechks_cons rechk gcase_true gcase_false ex_val ex_val0 gd_none gd_some ev_t ev_c evs_nil evs_cons evo_some evo_none hget_at hget_first hsetB_at hsetB_first hsetL_at hsetL_first ofOpt_some aop aload astore aslice aappend aiaddr aiaddrA afaddr alen alenS acopy amm acall alookup amupdate alenM atostr aappz comma keyEq apick binV binVB binVS isSh intOp strOp boolOp shOp eqC eqF and2 cellsOf setFrom fillA fillS rowsI rowI rd rdI elems mk bounds AV.cell List.all_cons List.all_nil Bool.and_true Bool.true_and Bool.and_self List.length_cons List.length_nil List.length_append Nat.reduceAdd Nat.reduceSub Nat.reduceMul Nat.zero_add Nat.add_zero List.cons_append List.nil_append List.append_assoc List.append_nil List.getElem?_cons_zero List.getElem?_cons_succ List.getElem?_nil List.set_cons_zero List.set_cons_succ List.drop_zero List.drop_succ_cons List.take_zero List.take_succ_cons List.take_nil List.drop_nil List.map_cons List.map_nil Option.map_some if_true if_false Bool.false_eq_true and_self true_and and_true Nat.reduceLeDiff Nat.reduceLT Nat.le_refl Nat.reduceEqDiff ite_true ite_false beq_self_eq_true beq_true beq_false Bool.not_true Bool.not_false Bool.true_beq Bool.false_beq map_vs vs_len vs_get vs_take vs_drop vs_snoc1 vs_snoc2 vs_snoc3 vs_snoc5 vs_set1 vs_set2 vs_rep wrap_id le_T lt_T le_F lt_F leI_T ltI_T leI_F ltI_F geI gtI get_T decide_true decide_false room List.getElem?_map List.length_map List.length_take Int.toNat_natCast Nat.min_def Nat.min_self nth_kOf put_kOf put_kNo kOv_cons kOv_nil KHas KArgs List.getElem_cons_zero List.getElem_cons_succ
def a_nSend : AFunc := ⟨2,115,[.cell 4 (some 5),.tmp 5],(.seq (.region [⟨some 2,.box (.t 0),none⟩,⟨some 3,.box (.t 1),none⟩,⟨some 4,.alloc [(.v (.int .i64 0)),(.v (.bool false)),(.v .zsl),(.v .zsl),(.v .zsl)],none⟩,⟨some 5,.mv (.c (.v (.int .i64 0))),none⟩]) (.seq (.seq (.region [⟨some 12,.load (some 5) (.t 2),none⟩,⟨some 13,.call (.c (.fn 13 [])) [(.t 12)],none⟩,⟨some 14,.not (.t 13),none⟩,⟨some 15,.mv (.t 14),none⟩,⟨some 16,.load (some 4) (.t 3),some (15,false)⟩,⟨some 17,.call (.c (.fn 26 [])) [(.t 16)],some (15,false)⟩,⟨some 18,.not (.t 17),some (15,false)⟩,⟨some 19,.pick (.t 15) (.c (.v (.bool true))) (.t 18),none⟩]) (.cond (.t 19) (.seq (.region [⟨some 20,.build [(.v (.int .i64 0)),(.v (.bool false)),(.v .zsl),(.v .zsl),(.v .zsl)] [],none⟩,⟨none,.store 5 (.t 4) (.t 20),none⟩,⟨some 5,.mv (.c (.v (.int .i64 1))),none⟩]) .ret) .skip)) (.seq (.region [⟨some 21,.load (some 5) (.t 2),none⟩,⟨some 22,.call (.c (.fn 23 [])) [(.t 21)],none⟩,⟨none,.store 5 (.t 2) (.t 22),none⟩]) (.seq (.region [⟨some 23,.build [(.v (.int .i64 0)),(.v (.int .i64 0))] [(0,1,(.c (.v (.int .i64 1))))],none⟩,⟨some 6,.alloc [(.v (.int .i64 0)),(.v (.int .i64 0))],none⟩,⟨none,.store 2 (.t 6) (.t 23),none⟩]) (.seq (.seq (.region [⟨some 24,.faddr 4 (.t 2),none⟩,⟨some 25,.load none (.t 24),none⟩,⟨some 26,.len (.t 25),none⟩,⟨some 27,.bin .gtr (.t 26) (.c (.v (.int .i64 0))),none⟩]) (.cond (.t 27) (.draw [⟨0,⟨some 28,.faddr 4 (.t 2),none⟩,[]⟩,⟨1,⟨some 29,.load none (.t 28),none⟩,[]⟩,⟨2,⟨some 30,.iaddr 2 (.t 29) (.c (.v (.int .i64 0))),none⟩,[]⟩,⟨3,⟨some 31,.load (some 2) (.t 30),none⟩,[]⟩,⟨4,⟨some 32,.faddr 4 (.t 2),none⟩,[]⟩,⟨5,⟨some 33,.load none (.t 32),none⟩,[]⟩,⟨6,⟨some 34,.slice 2 (.t 33) (some (.c (.v (.int .i64 1)))) none,none⟩,[]⟩,⟨7,⟨none,.store 2 (.t 6) (.t 31),none⟩,[⟨some 32,.faddr 4 (.t 2),none⟩,⟨some 33,.load none (.t 32),none⟩,⟨some 34,.slice 2 (.t 33) (some (.c (.v (.int .i64 1)))) none,none⟩]⟩,⟨8,⟨some 35,.faddr 4 (.t 2),none⟩,[]⟩,⟨9,⟨none,.store 1 (.t 35) (.t 34),none⟩,[]⟩]) .skip)) (.seq (.region [⟨some 36,.faddr 0 (.t 2),none⟩,⟨some 37,.load none (.t 36),none⟩,⟨some 38,.faddr 1 (.t 6),none⟩,⟨some 39,.load none (.t 38),none⟩,⟨some 40,.bin .add (.t 37) (.t 39),none⟩,⟨some 7,.mv (.t 40),none⟩]) (.seq (.seq (.region [⟨some 41,.faddr 2 (.t 2),none⟩,⟨some 42,.load none (.t 41),none⟩,⟨some 43,.len (.t 42),none⟩,⟨some 44,.mv (.c (.v (.int .i64 0))),none⟩]) (.block 0 (.loop (.seq (.region [⟨some 45,.bin .lss (.t 44) (.t 43),none⟩]) (.seq (.cond (.t 45) .skip (.exit 0)) (.seq (.block 1 (.seq (.region [⟨some 46,.mv (.t 44),none⟩,⟨some 47,.iaddr 4 (.t 42) (.t 44),none⟩,⟨some 48,.load (some 4) (.t 47),none⟩,⟨some 9,.alloc [(.v (.int .i64 0)),(.v (.int .i64 0)),(.v (.int .i64 0)),(.v .zsl)],none⟩,⟨some 8,.mv (.t 46),none⟩,⟨none,.store 4 (.t 9) (.t 48),none⟩]) (.seq (.region [⟨some 49,.faddr 1 (.t 2),none⟩,⟨some 50,.load none (.t 49),none⟩,⟨some 51,.mv (.t 50),none⟩,⟨some 52,.faddr 0 (.t 9),some (51,true)⟩,⟨some 53,.load none (.t 52),some (51,true)⟩,⟨some 54,.faddr 0 (.t 3),some (51,true)⟩,⟨some 55,.load none (.t 54),some (51,true)⟩,⟨some 56,.bin .eql (.t 53) (.t 55),some (51,true)⟩,⟨some 57,.pick (.t 51) (.t 56) (.c (.v (.bool false))),none⟩,⟨some 58,.mv (.t 57),none⟩,⟨some 59,.faddr 1 (.t 9),some (58,true)⟩,⟨some 60,.load none (.t 59),some (58,true)⟩,⟨some 61,.faddr 1 (.t 3),some (58,true)⟩,⟨some 62,.load none (.t 61),some (58,true)⟩,⟨some 63,.bin .eql (.t 60) (.t 62),some (58,true)⟩,⟨some 64,.pick (.t 58) (.t 63) (.c (.v (.bool false))),none⟩]) (.cond (.t 64) (.region [⟨some 65,.mv (.t 7),none⟩,⟨some 66,.faddr 3 (.t 2),none⟩,⟨some 67,.load none (.t 66),none⟩,⟨some 68,.mv (.t 8),none⟩,⟨some 69,.iaddr 1 (.t 67) (.t 68),none⟩,⟨some 70,.load none (.t 69),none⟩,⟨some 71,.mm true (.t 65) (.t 70),none⟩,⟨some 7,.mv (.t 71),none⟩]) .skip)))) (.region [⟨some 72,.bin .add (.t 44) (.c (.v (.int .i64 1))),none⟩,⟨some 44,.mv (.t 72),none⟩]))))))) (.seq (.block 2 (.seq (.region [⟨some 74,.mv (.t 7),none⟩,⟨some 75,.bin .gtr (.t 74) (.c (.v (.int .i64 1099512627776))),none⟩,⟨some 73,.mv (.t 75),none⟩]) (.cond (.t 73) (.seq (.region [⟨some 76,.build [(.v (.int .i64 0)),(.v (.bool false)),(.v .zsl),(.v .zsl),(.v .zsl)] [],none⟩,⟨none,.store 5 (.t 4) (.t 76),none⟩,⟨some 5,.mv (.c (.v (.int .i64 9))),none⟩]) .ret) (.seq (.region [⟨some 78,.faddr 2 (.t 2),none⟩,⟨some 79,.load none (.t 78),none⟩,⟨some 80,.len (.t 79),none⟩,⟨some 81,.faddr 0 (.t 6),none⟩,⟨some 82,.load none (.t 81),none⟩,⟨some 83,.bin .add (.t 80) (.t 82),none⟩,⟨some 84,.bin .gtr (.t 83) (.c (.v (.int .i64 1000))),none⟩,⟨some 77,.mv (.t 84),none⟩]) (.cond (.t 77) (.seq (.region [⟨some 85,.build [(.v (.int .i64 0)),(.v (.bool false)),(.v .zsl),(.v .zsl),(.v .zsl)] [],none⟩,⟨none,.store 5 (.t 4) (.t 85),none⟩,⟨some 5,.mv (.c (.v (.int .i64 5))),none⟩]) .ret) .skip))))) (.seq (.region [⟨some 87,.faddr 3 (.t 2),none⟩,⟨some 88,.load none (.t 87),none⟩,⟨some 89,.mv (.t 7),none⟩,⟨some 90,.bin .add (.t 89) (.c (.v (.int .i64 1))),none⟩,⟨some 91,.call (.c (.fn 27 [])) [(.t 88),(.t 90),(.c (.fn 28 []))],none⟩,⟨some 86,.mv (.t 91),none⟩,⟨some 92,.extract 0 (.t 86),none⟩,⟨some 93,.extract 1 (.t 86),none⟩,⟨some 10,.mv (.t 92),none⟩,⟨some 11,.mv (.t 93),none⟩]) (.seq (.seq (.region [⟨some 94,.faddr 0 (.t 6),none⟩,⟨some 95,.load none (.t 94),none⟩,⟨some 96,.mv (.c (.v (.int .i64 0))),none⟩]) (.block 3 (.loop (.seq (.region [⟨some 97,.bin .lss (.t 96) (.t 95),none⟩]) (.seq (.cond (.t 97) .skip (.exit 3)) (.seq (.block 4 (.seq (.draw [⟨0,⟨some 98,.faddr 2 (.t 2),none⟩,[]⟩,⟨1,⟨some 99,.load none (.t 98),none⟩,[]⟩,⟨2,⟨some 100,.mv (.t 10),none⟩,[]⟩,⟨3,⟨some 101,.load (some 4) (.t 3),none⟩,[]⟩,⟨4,⟨some 102,.call (.c (.fn 22 [])) [(.t 101)],none⟩,[⟨some 98,.faddr 2 (.t 2),none⟩,⟨some 99,.load none (.t 98),none⟩,⟨some 100,.mv (.t 10),none⟩]⟩,⟨5,⟨some 103,.bslice 4 [(.v (.int .i64 0)),(.v (.int .i64 0)),(.v (.int .i64 0)),(.v .zsl)] 1 [(0,(.t 102))],none⟩,[⟨some 98,.faddr 2 (.t 2),none⟩,⟨some 99,.load none (.t 98),none⟩,⟨some 100,.mv (.t 10),none⟩]⟩,⟨6,⟨some 104,.call (.c (.fn 29 [])) [(.t 99),(.t 100),(.t 103)],none⟩,[]⟩,⟨7,⟨some 105,.faddr 2 (.t 2),none⟩,[]⟩,⟨8,⟨none,.store 1 (.t 105) (.t 104),none⟩,[]⟩]) (.region [⟨some 106,.faddr 3 (.t 2),none⟩,⟨some 107,.load none (.t 106),none⟩,⟨some 108,.mv (.t 10),none⟩,⟨some 109,.mv (.t 7),none⟩,⟨some 110,.bslice 1 [(.v (.int .i64 0))] 1 [(0,(.t 109))],none⟩,⟨some 111,.call (.c (.fn 30 [])) [(.t 107),(.t 108),(.t 110)],none⟩,⟨some 112,.faddr 3 (.t 2),none⟩,⟨none,.store 1 (.t 112) (.t 111),none⟩]))) (.region [⟨some 113,.bin .add (.t 96) (.c (.v (.int .i64 1))),none⟩,⟨some 96,.mv (.t 113),none⟩]))))))) (.seq (.region [⟨some 114,.load (some 5) (.t 2),none⟩,⟨none,.store 5 (.t 4) (.t 114),none⟩,⟨some 5,.mv (.c (.v (.int .i64 0))),none⟩]) .ret)))))))))))⟩
theorem a_nSend_ok : cFunc Try.prog 11 = some a_nSend := by kernel_rfl
def r_nSend0 : List (Nat × Nat) := [(7, 9), (44, 72)]
def r_nSend1 : List (Nat × Nat) := [(96, 113)]

theorem Weak.namedAll {N : Nat} {f : Nat → AV} {b l : List Row} (ov : List (Nat × AV)) (h : KHas f ov) : Weak (kOf N f) b l (kOf N (kOv ov (fun _ => .any))) b l := by
 intro F L w a s he
 refine ⟨F, L, s, ⟨he.1, by rw [he.2.1, kOf_len, kOf_len], fun i x v hx hv => ?_⟩, Step.refl _ _ _ _ _, rfl⟩
 rw [kOf_get] at hx
 split at hx
 ·rename_i hi
  cases hx
  rcases kOv_get (ov := ov) (f := fun _ => AV.any) (i := i) with hg | hg
  ·rw [hg]; exact .any v
  ·rw [← h.mem hg]
   exact he.2.2 i _ v (by rw [kOf_get, if_pos hi]) hv
 ·cases hx
def hdF (n : Nw) : Int × Int := n.fates.headD (1, 0)
def offF (n : Nw) : Nat := if n.fates = [] then 0 else 1
def sdX (n : Nw) (m : Ms) (k : Nat) : Nat → List (Ms × Nat)
 | 0 => (clone0 n).xs
 | c + 1 => (sdX n m k c).take k ++ [(m, n.l.length + c)] ++ (sdX n m k c).drop k
def sdT (n : Nw) (a : Int) (k : Nat) : Nat → List Int
 | 0 => n.tm
 | c + 1 => (sdT n a k c).take k ++ [a] ++ (sdT n a k c).drop k
theorem ins_len {α : Type} {l : List α} {x : α} {k : Nat} : (l.take k ++ [x] ++ l.drop k).length = l.length + 1 := by
 simp only [List.length_append, List.length_take, List.length_drop, List.length_cons, List.length_nil]; omega
theorem sdX_len {n : Nw} {m : Ms} {k : Nat} : ∀ c, (sdX n m k c).length = n.l.length + c
 | 0 => fl_len
 | c + 1 => by rw [sdX, ins_len, sdX_len c]; omega
theorem sdT_len {n : Nw} {a : Int} {k : Nat} : ∀ c, (sdT n a k c).length = n.tm.length + c
 | 0 => rfl
 | c + 1 => by rw [sdT, ins_len, sdT_len c]; omega
theorem ins_rep {α : Type} {l : List α} {x : α} {k c : Nat} (hk : k ≤ l.length) : (l.take k ++ List.replicate c x ++ l.drop k).take k ++ [x] ++ (l.take k ++ List.replicate c x ++ l.drop k).drop k = l.take k ++ List.replicate (c + 1) x ++ l.drop k := by
 have hl : (l.take k).length = k := by rw [List.length_take]; omega
 rw [List.append_assoc (l.take k), List.take_append_of_le_length oM, List.drop_append_of_le_length oM, List.take_of_length_le (l := l.take k) oM, List.drop_of_length_le (l := l.take k) oM, List.replicate_succ]
 simp
theorem sdX_fst {n : Nw} {m : Ms} {k : Nat} (hk : k ≤ n.l.length) : ∀ c, (sdX n m k c).map (·.1) = n.l.take k ++ List.replicate c m ++ n.l.drop k
 | 0 => by
   have : (clone0 n).xs.map (·.1) = n.l := congrArg Nw.l (clone0_nw n)
   rw [sdX, this, List.replicate_zero, List.append_nil, List.take_append_drop]
 | c + 1 => by
   rw [sdX, List.map_append, List.map_append, List.map_take, List.map_drop, sdX_fst hk c]
   exact ins_rep hk
theorem sdT_eq {n : Nw} {a : Int} {k : Nat} (hk : k ≤ n.tm.length) : ∀ c, sdT n a k c = n.tm.take k ++ List.replicate c a ++ n.tm.drop k
 | 0 => by simp [sdT]
 | c + 1 => by rw [sdT, sdT_eq hk c, ins_rep hk]
def sdB (n : Nw) (m : Ms) (j : Nat) : List Int := if j < n.l.length then (n.l.getD j dfMs).body else m.body
def sdLv (n : Nw) (m : Ms) (c : Nat) : Lv := ⟨n.now, n.fifo, 1 + c, 1 + c, offF n, sdX n m (leN n.tm (timN n m)) c, sdT n (timN n m) (leN n.tm (timN n m)) c, n.fates, fl (n.l.length + c) (sdB n m)⟩
theorem sdX_in {n : Nw} {m : Ms} {k : Nat} : ∀ c, ∀ x ∈ sdX n m k c, x.2 < n.l.length + c ∧ sdB n m x.2 = x.1.body
 | 0, x, hx => by
   obtain ⟨i, hi, rfl⟩ := List.mem_map.1 hx
   have hi := List.mem_range.1 hi
   refine ⟨hi, ?_⟩
   unfold sdB; rw [if_pos hi]
 | c + 1, x, hx => by
   rw [sdX] at hx
   simp only [List.mem_append, List.mem_singleton] at hx
   have ih := sdX_in (n := n) (m := m) (k := k) c
   rcases hx with (hx | rfl) | hx
   ·have := ih x (List.mem_of_mem_take hx); exact ⟨by omega, this.2⟩
   ·refine ⟨by simp only; omega, ?_⟩
    unfold sdB; rw [if_neg (by simp only; omega)]
   ·have := ih x (List.mem_of_mem_drop hx); exact ⟨by omega, this.2⟩
theorem offF_le {n : Nw} : offF n ≤ n.fates.length := by
 unfold offF
 split
 ·exact Nat.zero_le _
 ·rename_i h
  cases hf : n.fates with
  | nil => exact absurd hf h
  | cons x r => simp
theorem sdLv_ok {n : Nw} {m : Ms} {c : Nat} : (sdLv n m c).ok := by
 refine ⟨offF_le, fun x hx => ?_⟩
 obtain ⟨h1, h2⟩ := sdX_in c x hx
 show (fl (n.l.length + c) (sdB n m))[x.2]? = _
 rw [fl_get h1, h2]
def sndE (n : Nw) (m : Ms) : Int := if nwB n = true then (if msB m = true then sdE n m else 1) else 1
def sndZ (n : Nw) (m : Ms) : Option Lv := if sndE n m = 0 then some (sdLv n m (copN n).toNat) else none
def sndN (n : Nw) (m : Ms) : Nw := if sndE n m = 0 then insN n m (timN n m) (copN n).toNat else nw0
theorem sndZ_ok {n : Nw} {m : Ms} : ∀ y, sndZ n m = some y → y.ok := by
 intro y h
 unfold sndZ at h
 split at h
 ·cases h; exact sdLv_ok
 ·cases h
theorem offF_drop {n : Nw} : n.fates.drop (offF n) = n.fates.drop 1 := by
 unfold offF
 split
 ·rename_i h; rw [h]; rfl
 ·rfl
theorem sndZ_nw {n : Nw} {m : Ms} : ownN (sndZ n m) = sndN n m := by
 unfold sndZ sndN
 split
 ·rename_i h
  have hv : NwV n := by
   unfold sndE at h
   split at h
   ·rename_i h1; exact nwB_iff.1 h1
   ·cases h
  have hl := hv.len
  have hle := leN_le (l := n.tm) (a := timN n m)
  unfold ownN Lv.nw sdLv insN
  simp only
  rw [sdX_fst oM, sdT_eq hle, offF_drop]
 ·rfl
theorem clone0_rows {n : Nw} {base : Nat} : (clone0 n).rows base = .live 1 4 ((clone0 n).xs.map (lvE base)) :: .live 1 1 (vs (n.tm.map eI)) :: .live 1 2 (vs (n.fates.map eFt)) :: fl n.l.length (clB n) := by
 have h : (n.l.map (·.body)).map bdR = fl n.l.length (clB n) := by
  apply List.ext_getElem?
  intro j
  by_cases hj : j < n.l.length
  ·rw [fl_get hj, List.map_map, List.getElem?_map, List.getElem?_eq_getElem hj]
   unfold clB; rw [getD_at hj]; rfl
  ·rw [fl_none oM, List.getElem?_eq_none (by simp; omega)]
 unfold Lv.rows
 show _ :: _ :: _ :: (n.l.map (·.body)).map bdR = _
 rw [h]; rfl
theorem cloX_get {n : Nw} {base i : Nat} (h : i < n.l.length) : ((clone0 n).xs.map (lvE base))[i]? = some [.v (.int .i64 n.l[i].fr), .v (.int .i64 n.l[i].to), .v (.int .i64 n.l[i].nu), .sl (base + (3 + i)) 1 0 n.l[i].body.length] := by
 have hx : (clone0 n).xs = fl n.l.length (fun i => (n.l.getD i dfMs, i)) := rfl
 rw [hx, List.getElem?_map, fl_get h, getD_at h]; rfl
def sdN (n : Nw) (B : Nat) (vL vA kL kA : Nat) : Row := .live 0 5 [[.v (.int .i64 n.now), .v (.bool n.fifo), .sl (B + 3) vL 0 kL, .sl (B + 4) vA 0 kA, .sl (B + 5) 1 (offF n) (n.fates.length - offF n)]]
def sdM (m : Ms) : Row := .live 0 4 [[.v (.int .i64 m.fr), .v (.int .i64 m.to), .v (.int .i64 m.nu), .v (.isl 1 (m.body.map eI))]]
def sdO : Row := .live 0 5 [[.v (.int .i64 0), .v (.bool false), .v .zsl, .v .zsl, .v .zsl]]
def sdF (n : Nw) : Row := .live 0 2 [[.v (.int .i64 (hdF n).1), .v (.int .i64 (hdF n).2)]]
theorem Weak.ktrim {N : Nat} {f : Nat → AV} {b l l1 junk : List Row} (ov : List (Nat × AV)) (h : KHas f ov) (hl : l = l1 ++ junk) (ho : KOvLt (b.length + l1.length) ov) (hb : RowsLt b.length b) (h1 : RowsLt (b.length + l1.length) l1) :
  Weak (kOf N f) b l (kOf N (kOv ov (fun _ => .any))) b l1 := by
 have hE : KLt (b.length + l1.length) (fun _ => AV.any) := fun _ => .any
 exact (Weak.namedAll ov h).trans (Weak.trim hl ((hE.ov ho).env) (hb.mono oM) h1)
theorem lvE_lt {xs : List (Ms × Nat)} {c base M : Nat} (h : ∀ x ∈ xs, x.2 < c) (hM : base + (3 + c) ≤ M) : ∀ row ∈ xs.map (lvE base), ∀ a ∈ row, AVlt M a := by
 intro row hr a ha
 obtain ⟨x, hx, rfl⟩ := List.mem_map.1 hr
 have := h x hx
 unfold lvE at ha
 simp only [List.mem_cons, List.not_mem_nil, or_false] at ha
 rcases ha with rfl | rfl | rfl | rfl
 ·exact .v _
 ·exact .v _
 ·exact .v _
 ·exact .sl _ _ _ _ oM
theorem sdRows_lt {n : Nw} {m : Ms} {B vL vA kL kA M wL wA : Nat} {X : List (List AV)} {tv fv : List (List IV)} {T : List Row} (hM : B + 6 ≤ M) (hX : ∀ row ∈ X, ∀ c ∈ row, AVlt M c) (hT : RowsLt M T) :
  RowsLt M (sdN n B vL vA kL kA :: sdM m :: sdO :: .live wL 4 X :: .live wA 1 (vs tv) :: .live 1 2 (vs fv) :: T) := by
 unfold sdN sdM sdO
 refine RowsLt_live.2 ⟨by simp (disch := omega) only [lts.down, Nat.reduceLT, Nat.reduceAdd], RowsLt_live.2 ⟨by simp (disch := omega) only [lts.down, Nat.reduceLT, Nat.reduceAdd], RowsLt_live.2 ⟨by simp (disch := omega) only [lts.down, Nat.reduceLT, Nat.reduceAdd], RowsLt_live.2 ⟨hX, RowsLt_live.2 ⟨vs_lt.2 trivial, RowsLt_live.2 ⟨vs_lt.2 trivial, hT⟩⟩⟩⟩⟩⟩
theorem RowsLt.app {M : Nat} {a c : List Row} (h1 : RowsLt M a) (h2 : RowsLt M c) : RowsLt M (a ++ c) := by
 intro id ver sz els h
 by_cases hid : id < a.length
 ·rw [List.getElem?_append_left hid] at h; exact h1 id ver sz els h
 ·rw [List.getElem?_append_right oM] at h; exact h2 _ ver sz els h
theorem RowsLt.flB {M k : Nat} {g : Nat → List Int} : RowsLt M (fl k fun j => bdR (g j)) := by
 intro id ver sz els h row hr c hc
 by_cases hid : id < k
 ·rw [fl_get hid] at h
  cases h
  obtain ⟨r0, _, rfl⟩ := List.mem_map.1 hr
  obtain ⟨x0, _, rfl⟩ := List.mem_map.1 hc
  exact .v _
 ·rw [fl_none oM] at h; cases h
theorem cloX_in {n : Nw} : ∀ x ∈ (clone0 n).xs, x.2 < n.l.length := fun x hx => (sdX_in (n := n) (m := dfMs) (k := 0) 0 x hx).1
def sdRows (n : Nw) (m : Ms) (B c : Nat) : List Row := sdN n B (1 + c) (1 + c) (n.l.length + c) (n.tm.length + c) :: sdM m :: sdO :: .live (1 + c) 4 ((sdX n m (leN n.tm (timN n m)) c).map (lvE (B + 3))) :: .live (1 + c) 1 (vs ((sdT n (timN n m) (leN n.tm (timN n m)) c).map eI)) :: .live 1 2 (vs (n.fates.map eFt)) :: fl (n.l.length + c) (fun j => bdR (sdB n m j))
theorem sdRows_len {n : Nw} {m : Ms} {B c : Nat} : (sdRows n m B c).length = n.l.length + c + 6 := by unfold sdRows; simp [fl_len]
theorem sdRows_ok {n : Nw} {m : Ms} {B c : Nat} : RowsLt (B + (sdRows n m B c).length) (sdRows n m B c) := by
 rw [sdRows_len]
 exact sdRows_lt oM (lvE_lt (fun x hx => (sdX_in c x hx).1) oM) RowsLt.flB
theorem sdRows_zero {n : Nw} {m : Ms} {B : Nat} : sdRows n m B 0 = sdN n B 1 1 n.l.length n.tm.length :: sdM m :: sdO :: .live 1 4 ((clone0 n).xs.map (lvE (B + 3))) :: .live 1 1 (vs (n.tm.map eI)) :: .live 1 2 (vs (n.fates.map eFt)) :: fl n.l.length (clB n) := by
 have h : fl (n.l.length + 0) (fun j => bdR (sdB n m j)) = fl n.l.length (clB n) := by
  refine fl_congr (fun i hi => ?_)
  unfold clB sdB
  rw [if_pos oM]
 unfold sdRows
 rw [h]
 rfl
theorem sdRows_next {n : Nw} {m : Ms} {B c K : Nat} (hK : leN n.tm (timN n m) = K) : sdRows n m B (c + 1) = sdN n B (1 + c + 1) (1 + c + 1) (n.l.length + c + 1) (n.tm.length + c + 1) :: sdM m :: sdO ::
  .live (1 + c + 1) 4 (((sdX n m K c).map (lvE (B + 3))).take K ++ [.v (.int .i64 m.fr), .v (.int .i64 m.to), .v (.int .i64 m.nu), .sl (B + (n.l.length + c + 1 + 1 + 1 + 1 + 1 + 1)) 1 0 m.body.length] :: ((sdX n m K c).map (lvE (B + 3))).drop K) ::
  .live (1 + c + 1) 1 (vs (((sdT n (timN n m) K c).map eI).take K ++ [[.int .i64 (timN n m)]]) ++ vs (((sdT n (timN n m) K c).map eI).drop K)) :: .live 1 2 (vs (n.fates.map eFt)) :: (fl (n.l.length + c) (fun j => bdR (sdB n m j)) ++ [.live 1 1 (vs (m.body.map eI))]) := by
 have h1 : fl (n.l.length + (c + 1)) (fun j => bdR (sdB n m j)) = fl (n.l.length + c) (fun j => bdR (sdB n m j)) ++ [.live 1 1 (vs (m.body.map eI))] := by
  unfold fl
  rw [← Nat.add_assoc, List.range_succ, List.map_append]
  simp only [List.map_cons, List.map_nil]
  have : sdB n m (n.l.length + c) = m.body := if_neg oM
  rw [this]; rfl
 have h2 : (sdX n m K (c + 1)).map (lvE (B + 3)) = ((sdX n m K c).map (lvE (B + 3))).take K ++ [.v (.int .i64 m.fr), .v (.int .i64 m.to), .v (.int .i64 m.nu), .sl (B + (n.l.length + c + 1 + 1 + 1 + 1 + 1 + 1)) 1 0 m.body.length] :: ((sdX n m K c).map (lvE (B + 3))).drop K := by
  rw [sdX, List.map_append, List.map_append, List.map_take, List.map_drop]
  have : lvE (B + 3) (m, n.l.length + c) = [.v (.int .i64 m.fr), .v (.int .i64 m.to), .v (.int .i64 m.nu), .sl (B + (n.l.length + c + 1 + 1 + 1 + 1 + 1 + 1)) 1 0 m.body.length] := by
   unfold lvE
   rw [show B + 3 + (3 + (m, n.l.length + c).2) = B + (n.l.length + c + 1 + 1 + 1 + 1 + 1 + 1) by simp only; omega]
  simp only [List.map_cons, List.map_nil, this, List.append_assoc, List.cons_append, List.nil_append]
 have h3 : vs ((sdT n (timN n m) K (c + 1)).map eI) = vs (((sdT n (timN n m) K c).map eI).take K ++ [[.int .i64 (timN n m)]]) ++ vs (((sdT n (timN n m) K c).map eI).drop K) := by
  rw [sdT, List.map_append, List.map_append, List.map_take, List.map_drop, vs_app]
  rfl
 unfold sdRows
 rw [hK, h1, h2, h3]
 rfl
set_option maxRecDepth 20000 in
set_option maxHeartbeats 8000000 in
theorem nSend_own (n : Nw) (m : Ms) (b l : List Row) : ACalls Try.prog 11 [.agg ((eNw n).map .v), .agg [.v (.int .i64 m.fr), .v (.int .i64 m.to), .v (.int .i64 m.nu), .v (.isl 1 (m.body.map eI))]] b l
  (fun r b' l' => r = .tup [ownA (b.length + l.length) (sndZ n m), .v (.int .i64 (sndE n m))] ∧ b' = b ∧ l' = l ++ ownR (b.length + l.length) (sndZ n m)) := by
 refine calls_kept a_nSend_ok rfl (by decide) ?_
 intro B g hB hR hE hA; simp only [KArgs] at hA
 have hV := nValid_spec n
 have hC := nclone_spec n
 unfold eNw at hV hC
 simp only [List.map_cons, List.map_nil] at hV hC
 have bad : sndE n m ≠ 0 → sndZ n m = none := fun h => if_neg h
 simp (disch := (first | decide | omega)) only [a_nSend, hA, eNw, go_sem]
 refine ACalls.nxt (hV _ _) ?_
 cases h1 : nwB n
 ·have he : sndE n m = 1 := by unfold sndE; rw [h1]; rfl
  rw [bad (by rw [he]; decide), he]
  simp (disch := (first | decide | omega)) only [hA, setFrom, cellsOf, go_sem]
  exact leave_pure (.inr rfl) (xs := [zNw, .v (.int .i64 1)]) (by simp (disch := (first | decide | omega)) only [resVs, resV, hA, zNw, go_sem]) (by simp only [one, zNw, lts.down, Nat.reduceLT, Nat.reduceAdd]) hR hB ⟨rfl, rfl, by simp [ownR]⟩
 simp (disch := (first | decide | omega)) only [hA, go_sem]
 refine ACalls.nxt (nmsg_spec m _ _) ?_
 cases h2 : msB m
 ·have he : sndE n m = 1 := by unfold sndE; rw [if_pos h1, h2]; rfl
  rw [bad (by rw [he]; decide), he]
  simp (disch := (first | decide | omega)) only [hA, setFrom, cellsOf, go_sem]
  exact leave_pure (.inr rfl) (xs := [zNw, .v (.int .i64 1)]) (by simp (disch := (first | decide | omega)) only [resVs, resV, hA, zNw, go_sem]) (by simp only [one, zNw, lts.down, Nat.reduceLT, Nat.reduceAdd]) hR hB ⟨rfl, rfl, by simp [ownR]⟩
 have hes : sndE n m = sdE n m := by unfold sndE; rw [if_pos h1, if_pos h2]
 rw [hes] at bad ⊢
 have hv := nwB_iff.1 h1
 have hnow := hv.now
 have htl := hv.l
 have hlen := hv.len
 have hfl := hv.fl
 have hhd := head_ok hv
 have hbl := msB_body h2
 simp (disch := (first | decide | omega)) only [hA, go_sem]
 refine ACalls.nxt (hC hv.s _ _) ?_
 have hxl : (clone0 n).xs.length = n.l.length := fl_len
 have hav : ∀ base, (clone0 n).av base = .agg [.v (.int .i64 n.now), .v (.bool n.fifo), .sl base 1 0 n.l.length, .sl (base + 1) 1 0 n.tm.length, .sl (base + 2) 1 0 n.fates.length] := fun base => by
  unfold Lv.av; rw [hxl]; rfl
 have e1 : B.length + 3 + 1 = B.length + 4 := rfl
 have e2 : B.length + 3 + 2 = B.length + 5 := rfl
 have hrw := clone0_rows (n := n) (base := B.length + 3)
 have ha0 : arAt n m 0 = n.now + (hdF n).2 := rfl
 have hdc : 0 ≤ (hdF n).1 ∧ (hdF n).1 ≤ 3 := hhd.1
 have hda : 0 ≤ (hdF n).2 ∧ (hdF n).2 ≤ 1000000 := hhd.2
 by_cases hf : n.fates = []
 case' pos =>
  have d1 : decide ((0 : Int) < (n.fates.length : Int)) = false := by rw [hf]; rfl
  have h1f : (hdF n).1 = 1 := by unfold hdF; rw [hf]; rfl
  have h2f : (hdF n).2 = 0 := by unfold hdF; rw [hf]; rfl
  have ho : offF n = 0 := if_pos hf
  have hff : Row.live 0 2 [[.v (.int .i64 1), .v (.int .i64 0)]] = sdF n := by unfold sdF; rw [h1f, h2f]
  have hat : n.now + 0 = arAt n m 0 := by rw [ha0, h2f]
  have hn0 : Row.live 0 5 [[.v (.int .i64 n.now), .v (.bool n.fifo), .sl (B.length + 3) 1 0 n.l.length, .sl (B.length + 4) 1 0 n.tm.length, .sl (B.length + 5) 1 0 n.fates.length]] = sdN n B.length 1 1 n.l.length n.tm.length := by unfold sdN; rw [ho]; rfl
  simp (disch := (first | decide | omega)) only [hA, hav, hrw, e1, e2, fl_len, fz_tail0, fz_tail, fz_settail0, fz_settail, d1, setFrom, cellsOf, go_sem]
 case' neg =>
  have hpos : 0 < n.fates.length := by
   cases hq : n.fates with
   | nil => exact absurd hq hf
   | cons x r => simp
  have d1 : decide ((0 : Int) < (n.fates.length : Int)) = true := decide_eq_true oM
  have ho : offF n = 1 := if_neg hf
  have hg0 : (n.fates.map eFt)[Int.toNat 0]? = some [.int .i64 (hdF n).1, .int .i64 (hdF n).2] := by
   show (n.fates.map eFt)[0]? = _
   unfold hdF
   cases hq : n.fates with
   | nil => exact absurd hq hf
   | cons x r => rfl
  have hff : Row.live 0 2 [[.v (.int .i64 (hdF n).1), .v (.int .i64 (hdF n).2)]] = sdF n := rfl
  have hn0 : Row.live 0 5 [[.v (.int .i64 n.now), .v (.bool n.fifo), .sl (B.length + 3) 1 0 n.l.length, .sl (B.length + 4) 1 0 n.tm.length, .sl (B.length + 5) 1 (Int.toNat 1) (n.fates.length - Int.toNat 1)]] = sdN n B.length 1 1 n.l.length n.tm.length := by unfold sdN; rw [ho]; rfl
  have hat : n.now + (hdF n).2 = arAt n m 0 := rfl
  simp (disch := (first | decide | omega)) only [hA, hav, hrw, e1, e2, fl_len, fz_tail0, fz_tail, fz_settail0, fz_settail, d1, hg0, vs_get, setFrom, cellsOf, go_sem]
 all_goals
  refine loop_kept (ι := Nat) r_nSend0 (fun i => [(7, .v (.int .i64 (arAt n m i))), (44, .v (.int .i64 i))]) (n.l.length + 7) (fun _ => sdN n B.length 1 1 n.l.length n.tm.length :: sdM m :: sdO :: .live 1 4 ((clone0 n).xs.map (lvE (B.length + 3))) :: .live 1 1 (vs (n.tm.map eI)) :: .live 1 2 (vs (n.fates.map eFt)) :: (fl n.l.length (clB n) ++ [sdF n]))
   (fun i => i ≤ n.l.length) (fun i => n.l.length - i) 0 (Nat.zero_le _) (by (repeat (first | exact hE.mono oM | refine KLt.up ?_ kL))) (by ((try simp (disch := decide) only [hA, hat, go_sem]) <;> exact kH)) (fun e => by rw [hn0, hff]; exact Weak.refl _ _ _) ?_
  intro g1 hE1 hEE1 hg1 i hi
  have hrl : RowsLt (B.length + (sdN n B.length 1 1 n.l.length n.tm.length :: sdM m :: sdO :: .live 1 4 ((clone0 n).xs.map (lvE (B.length + 3))) :: .live 1 1 (vs (n.tm.map eI)) :: .live 1 2 (vs (n.fates.map eFt)) :: (fl n.l.length (clB n) ++ [sdF n])).length) (sdN n B.length 1 1 n.l.length n.tm.length :: sdM m :: sdO :: .live 1 4 ((clone0 n).xs.map (lvE (B.length + 3))) :: .live 1 1 (vs (n.tm.map eI)) :: .live 1 2 (vs (n.fates.map eFt)) :: (fl n.l.length (clB n) ++ [sdF n])) := by
   refine sdRows_lt (by simp) (lvE_lt cloX_in (by simp [fl_len]; omega)) (RowsLt.app RowsLt.flB ?_)
   unfold sdF
   simp (disch := omega) only [lts.down, Nat.reduceLT, Nat.reduceAdd]
  by_cases hlt : i < n.l.length
  ·have hxg := cloX_get (n := n) (base := B.length + 3) hlt
   have htg := eI_get (l := n.tm) (i := i) oM
   have hbd := arAt_in hv (m := m) i oM
   cases hfi : (n.fifo == true)
   case false =>
    have hfb : (n.fifo = true) = False := by simpa using hfi
    have hst : arAt n m (i + 1) = arAt n m i := by simp only [arAt]; rw [if_neg (fun h => by rw [hfb] at h; exact h.1)]
    simp (disch := (first | decide | omega)) only [hA, hg1, hxg, htg, hfi, hfb, fl_len, fz_tail0, fz_tail, fz_settail0, fz_settail, vs_get, sdN, sdM, sdO, sdF, setFrom, cellsOf, go_sem]
    refine ⟨i + 1, hlt, by simp only; omega, ?_⟩
    exact Weak.kround (p := r_nSend0) (k := n.l.length + 7) (l1 := sdN n B.length 1 1 n.l.length n.tm.length :: sdM m :: sdO :: .live 1 4 ((clone0 n).xs.map (lvE (B.length + 3))) :: .live 1 1 (vs (n.tm.map eI)) :: .live 1 2 (vs (n.fates.map eFt)) :: (fl n.l.length (clB n) ++ [sdF n])) (junk := [_]) (by ((repeat refine (kAny_up rfl).trans ?_); exact hEE1)) (by ((try simp (disch := decide) only [hst, hA, go_sem]) <;> exact kH)) (by simp only [sdN, sdM, sdO, sdF, List.cons_append, List.append_assoc, List.nil_append]; rfl) hE1 (by simp [fl_len]) kV hR hrl
   case true =>
    have hfb : (n.fifo = true) = True := by simpa using hfi
    by_cases hfr : n.l[i].fr = m.fr
    case neg =>
     have d1 : (n.l[i].fr == m.fr) = false := beq_eq_false_iff_ne.2 hfr
     have hst : arAt n m (i + 1) = arAt n m i := by simp only [arAt]; rw [if_neg (fun h => hfr (by have := h.2.1; rwa [getD_at hlt] at this))]
     simp (disch := (first | decide | omega)) only [hA, hg1, hxg, htg, hfi, hfb, d1, fl_len, fz_tail0, fz_tail, fz_settail0, fz_settail, vs_get, sdN, sdM, sdO, sdF, setFrom, cellsOf, go_sem]
     refine ⟨i + 1, hlt, by simp only; omega, ?_⟩
     exact Weak.kround (p := r_nSend0) (k := n.l.length + 7) (l1 := sdN n B.length 1 1 n.l.length n.tm.length :: sdM m :: sdO :: .live 1 4 ((clone0 n).xs.map (lvE (B.length + 3))) :: .live 1 1 (vs (n.tm.map eI)) :: .live 1 2 (vs (n.fates.map eFt)) :: (fl n.l.length (clB n) ++ [sdF n])) (junk := [_]) (by ((repeat refine (kAny_up rfl).trans ?_); exact hEE1)) (by ((try simp (disch := decide) only [hst, hA, go_sem]) <;> exact kH)) (by simp only [sdN, sdM, sdO, sdF, List.cons_append, List.append_assoc, List.nil_append]; rfl) hE1 (by simp [fl_len]) kV hR hrl
    have d1 : (n.l[i].fr == m.fr) = true := by rw [hfr]; simp
    by_cases hto : n.l[i].to = m.to
    case neg =>
     have d2 : (n.l[i].to == m.to) = false := beq_eq_false_iff_ne.2 hto
     have hst : arAt n m (i + 1) = arAt n m i := by simp only [arAt]; rw [if_neg (fun h => hto (by have := h.2.2; rwa [getD_at hlt] at this))]
     simp (disch := (first | decide | omega)) only [hA, hg1, hxg, htg, hfi, hfb, d1, d2, fl_len, fz_tail0, fz_tail, fz_settail0, fz_settail, vs_get, sdN, sdM, sdO, sdF, setFrom, cellsOf, go_sem]
     refine ⟨i + 1, hlt, by simp only; omega, ?_⟩
     exact Weak.kround (p := r_nSend0) (k := n.l.length + 7) (l1 := sdN n B.length 1 1 n.l.length n.tm.length :: sdM m :: sdO :: .live 1 4 ((clone0 n).xs.map (lvE (B.length + 3))) :: .live 1 1 (vs (n.tm.map eI)) :: .live 1 2 (vs (n.fates.map eFt)) :: (fl n.l.length (clB n) ++ [sdF n])) (junk := [_]) (by ((repeat refine (kAny_up rfl).trans ?_); exact hEE1)) (by ((try simp (disch := decide) only [hst, hA, go_sem]) <;> exact kH)) (by simp only [sdN, sdM, sdO, sdF, List.cons_append, List.append_assoc, List.nil_append]; rfl) hE1 (by simp [fl_len]) kV hR hrl
    have d2 : (n.l[i].to == m.to) = true := by rw [hto]; simp
    have hst : (if arAt n m i < n.tm.getD i 0 then n.tm.getD i 0 else arAt n m i) = arAt n m (i + 1) := by
     simp only [arAt]
     rw [if_pos (show n.fifo = true ∧ _ from ⟨by rw [hfb]; trivial, by rw [getD_at hlt]; exact hfr, by rw [getD_at hlt]; exact hto⟩)]
     split <;> omega
    simp (disch := (first | decide | omega)) only [hA, hg1, hxg, htg, hfi, hfb, d1, d2, fl_len, fz_tail0, fz_tail, fz_settail0, fz_settail, vs_get, sdN, sdM, sdO, sdF, setFrom, cellsOf, go_sem]
    refine ⟨i + 1, hlt, by simp only; omega, ?_⟩
    exact Weak.kround (p := r_nSend0) (k := n.l.length + 7) (l1 := sdN n B.length 1 1 n.l.length n.tm.length :: sdM m :: sdO :: .live 1 4 ((clone0 n).xs.map (lvE (B.length + 3))) :: .live 1 1 (vs (n.tm.map eI)) :: .live 1 2 (vs (n.fates.map eFt)) :: (fl n.l.length (clB n) ++ [sdF n])) (junk := [_]) (by ((repeat refine (kAny_up rfl).trans ?_); exact hEE1)) (by ((try simp (disch := decide) only [hst, hA, go_sem]) <;> exact kH)) (by simp only [sdN, sdM, sdO, sdF, List.cons_append, List.append_assoc, List.nil_append]; rfl) hE1 (by simp [fl_len]) kV hR hrl
  ·obtain rfl : i = n.l.length := by omega
   have htim : arAt n m n.l.length = timN n m := rfl
   have hbd := arAt_in hv (m := m) n.l.length (Nat.le_refl _)
   rw [htim] at hbd
   have d1 : decide (1099512627776 < timN n m) = false := decide_eq_false oM
   by_cases hfull : 1000 < (n.l.length : Int) + (hdF n).1
   ·have d2 := decide_eq_true hfull
    have he : sdE n m = 5 := by unfold sdE; rw [if_neg oM, if_pos (show (n.l.length : Int) + copN n > 1000 from hfull)]
    rw [bad (by rw [he]; decide), he]
    simp (disch := (first | decide | omega)) only [hA, hg1, htim, d1, d2, fl_len, fz_tail0, fz_tail, fz_settail0, fz_settail, vs_get, sdN, sdM, sdO, sdF, setFrom, cellsOf, go_sem]
    exact leave_pure (.inr rfl) (xs := [zNw, .v (.int .i64 5)]) (by simp (disch := (first | decide | omega)) only [resVs, resV, hA, hg1, zNw, go_sem]) (by simp only [one, zNw, lts.down, Nat.reduceLT, Nat.reduceAdd]) hR hB ⟨rfl, rfl, by simp [ownR]⟩
   have d2 := decide_eq_false hfull
   have he : sdE n m = 0 := by unfold sdE; rw [if_neg oM, if_neg (show ¬ (n.l.length : Int) + copN n > 1000 from hfull)]
   have hZ : sndZ n m = some (sdLv n m (copN n).toNat) := if_pos (by rw [hes, he])
   rw [hZ, he]
   simp (disch := (first | decide | omega)) only [hA, hg1, htim, d1, d2, fl_len, fz_tail0, fz_tail, fz_settail0, fz_settail, vs_get, sdN, sdM, sdO, sdF, setFrom, cellsOf, go_sem]
   refine ACalls.nxt (bsfS_spec n.tm oM hv.sorted (timN n m) (B.length + 4) 1 _ _ (by rw [List.getElem?_append_right oM, Nat.add_sub_cancel_left]; rfl)) ?_
   simp (disch := (first | decide | omega)) only [hA, hg1, htim, d1, d2, fl_len, fz_tail0, fz_tail, fz_settail0, fz_settail, vs_get, setFrom, cellsOf, go_sem]
   have hleB := leN_le (l := n.tm) (a := timN n m)
   obtain ⟨C, hC1⟩ : ∃ C : Nat, (hdF n).1 = (C : Int) := ⟨(hdF n).1.toNat, by omega⟩
   have hCc : (copN n).toNat = C := by show (hdF n).1.toNat = C; omega
   rw [hC1]
   refine loop_kept_from (f' := kOv [(2, .ptr B.length 0 0 0), (3, .ptr (B.length + 1) 0 0 0), (4, .ptr (B.length + 2) 0 0 0), (5, .v (.int .i64 0)), (7, .v (.int .i64 (timN n m))), (10, .v (.int .i64 (leN n.tm (timN n m)))), (95, .v (.int .i64 C)), (96, .v (.int .i64 0))] (fun _ => .any)) (l' := sdRows n m B.length 0)
    (ι := Nat) r_nSend1 (fun c => [(96, .v (.int .i64 c))]) 6 (fun c => sdRows n m B.length c) (fun c => c ≤ C) (fun c => C - c) 0 (Nat.zero_le _)
    (Weak.ktrim (junk := [sdF n]) _ (by ((try simp (disch := decide) only [hA, hg1, go_sem]) <;> exact kH)) (by rw [sdRows_zero, hC1.symm]; rfl) (by rw [sdRows_len]; simp (disch := omega) only [KOvLt, lts.down, Nat.reduceLT, Nat.reduceAdd]) hR sdRows_ok) (KLt.ov (fun _ => .any) kV) (by ((try simp (disch := decide) only [hA, go_sem]) <;> exact kH)) (fun e => Weak.refl _ _ _) ?_
   intro g2 hE2 hEE2 hg2 c hc
   by_cases hlc : c < C
   ·simp (disch := (first | decide | omega)) only [hA, hg2, fl_len, fz_tail0, fz_tail, fz_settail0, fz_settail, vs_get, sdRows, sdN, sdM, sdO, setFrom, cellsOf, go_sem]
    refine ACalls.nxt (ncop_spec m oM _ _) ?_
    simp (disch := (first | decide | omega)) only [hA, hg2, fl_len, fz_tail0, fz_tail, fz_settail0, fz_settail, vs_get, setFrom, cellsOf, List.replicate_succ, List.replicate_zero, go_sem]
    obtain ⟨K, hK⟩ : ∃ K, K = leN n.tm (timN n m) := ⟨_, rfl⟩
    have hK2 : leN n.tm (timN n m) = K := hK.symm
    rw [← hK] at hleB ⊢
    have hM := fun b l hid hv => insM_run (B.length + 3) (1 + c) K (B.length + (n.l.length + c + 1 + 1 + 1 + 1 + 1 + 1 + 1)) 0 ((sdX n m K c).map (lvE (B.length + 3))) [.v (.int .i64 m.fr), .v (.int .i64 m.to), .v (.int .i64 m.nu), .sl (B.length + (n.l.length + c + 1 + 1 + 1 + 1 + 1 + 1)) 1 0 m.body.length] b l hid hv oM (by rw [List.length_map, sdX_len]; omega) (by rw [List.length_map, sdX_len]; omega)
    simp only [List.length_map, sdX_len] at hM
    refine ACalls.nxt (hM _ _ (by rw [List.getElem?_append_right oM, Nat.add_sub_cancel_left]; rfl) (by rw [List.getElem?_append_right oM, Nat.add_sub_cancel_left]; simp only [List.getElem?_cons_succ]; rw [fz_tail]; rfl)) ?_
    simp (disch := (first | decide | omega)) only [hA, hg2, fl_len, fz_tail0, fz_tail, fz_settail0, fz_settail, vs_get, setFrom, cellsOf, List.replicate_succ, List.replicate_zero, go_sem]
    have hI := fun b l hid hv => insI_run (B.length + 4) (1 + c) K (B.length + (n.l.length + c + 2 + 1 + 1 + 1 + 1 + 1 + 1)) 0 (vs ((sdT n (timN n m) K c).map eI)) [.v (.int .i64 (timN n m))] b l hid hv oM (by rw [vs_len, List.length_map, sdT_len]; omega) (by rw [vs_len, List.length_map, sdT_len]; omega)
    simp only [vs_len, List.length_map, sdT_len] at hI
    rw [hK2]
    refine ACalls.nxt (hI _ _ (by rw [List.getElem?_append_right oM, Nat.add_sub_cancel_left]; rfl) (by rw [List.getElem?_append_right oM, Nat.add_sub_cancel_left]; simp only [List.getElem?_cons_succ]; rw [fz_tail]; rfl)) ?_
    simp (disch := (first | decide | omega)) only [hA, hg2, fl_len, fz_tail0, fz_tail, fz_settail0, fz_settail, vs_get, setFrom, cellsOf, List.replicate_succ, List.replicate_zero, go_sem]
    subst hK
    refine ⟨c + 1, hlc, by simp only; omega, ?_⟩
    show Weak _ B _ (kOf 115 (kOv [(96, .v (.int .i64 ((c + 1 : Nat) : Int)))] g2)) B (sdRows n m B.length (c + 1))
    exact Weak.kround (p := r_nSend1) (k := 6) (l1 := sdRows n m B.length (c + 1)) (junk := [_, _]) (by ((repeat refine (kAny_up rfl).trans ?_); exact hEE2)) (by ((try simp (disch := decide) only [hA, go_sem]) <;> exact kH)) (by rw [sdRows_next hK2]; simp only [sdN, sdM, sdO, List.cons_append, List.append_assoc, List.nil_append]; rfl) hE2 (by rw [sdRows_len]; omega) (by rw [sdRows_len]; simp (disch := omega) only [KOvLt, lts.down, Nat.reduceLT, Nat.reduceAdd]) hR sdRows_ok
   ·obtain rfl : c = C := by omega
    simp (disch := (first | decide | omega)) only [hA, hg2, fl_len, fz_tail0, fz_tail, fz_settail0, fz_settail, vs_get, sdRows, sdN, sdM, sdO, setFrom, cellsOf, go_sem]
    rw [hCc]
    have hzx : (sdLv n m c).xs.length = n.l.length + c := sdX_len c
    have hzt : (sdLv n m c).tm.length = n.tm.length + c := sdT_len c
    refine leave_lv (.inr rfl) (z := sdLv n m c) sdLv_ok (s := 3) (c := .int .i64 0) (junk := []) (by simp (disch := (first | decide | omega)) only [resVs, resV, hA, hg2, Lv.av, hzx, hzt, go_sem]; rfl) ?_ hR hB ⟨by rw [hB, List.length_append]; rfl, rfl, by rw [hB, List.length_append]; rfl⟩
    rw [List.append_nil]
    unfold Lv.rows
    rw [show (sdLv n m c).bd.map bdR = fl (n.l.length + c) (fun j => bdR (sdB n m j)) from fl_map]
    rfl
theorem nSend_spec (n : Nw) (m : Ms) (b l : List Row) : ACalls Try.prog 11 [.agg ((eNw n).map .v), .agg [.v (.int .i64 m.fr), .v (.int .i64 m.to), .v (.int .i64 m.nu), .v (.isl 1 (m.body.map eI))]] b l
  (fun r b' l' => r = .tup [nwA (sndN n m), .v (.int .i64 (sndE n m))] ∧ b' = b ∧ l' = l) := by
 rw [← sndZ_nw]
 exact ACalls.ownV sndZ_ok (nSend_own n m b l)
end Go.Proofs.Ytpkemmchpccjdaa
