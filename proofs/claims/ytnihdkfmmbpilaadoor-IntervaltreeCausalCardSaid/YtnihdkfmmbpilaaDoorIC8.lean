/- Texts of one proof, laid together: GM, GN. No condition. -/
import Derived.Test.YtnihdkfmmbpilaaDoorIC5
import Derived.Test.YtnihdkfmmbpilaaDoorIC6
import Derived.Test.YtnihdkfmmbpilaaDoorIC4
import Derived.WalkKit
namespace Go.Proofs.YtnihdkfmmbpilaaDoor
set_option linter.unusedVariables false
set_option maxRecDepth 100000
open Go.RowKit Go.Extern.Stop Go.Stop Go.Extern
def idL : ITI → List UInt8
 | .leaf b => [if b = true then 49 else 48]
 | .node l r => 40 :: (idL l ++ 44 :: (idL r ++ [41]))
abbrev IsB (B b : Nat) (bs : List UInt8) (w : World) : Prop := Lib.IsBuilderF 158 5 B b (Lib.byteCells bs) w
abbrev Kp (B b : Nat) (w w' : World) : Prop := Below B w w' ∧ Lib.OthersKept 5 (some b) w w'
theorem IsB.of {B b : Nat} {cs : List UInt8} {x : List Value} {w : World} (h : Lib.BuilderAtF 158 5 B b (.pointer (some ⟨b, 0, none⟩)) x w) (e : x = Lib.byteCells cs) : IsB B b cs w := by subst e; exact .inr h
theorem bc_snoc (bs : List UInt8) (c : UInt8) : Lib.byteCells bs ++ [.int .u8 c.toNat] = Lib.byteCells (bs ++ [c]) := by simp [Lib.byteCells]
theorem bc_str (bs : List UInt8) (s : ByteArray) : Lib.byteCells bs ++ Lib.strCells s = Lib.byteCells (bs ++ s.data.toList) := by rw [Lib.strCells_eq]; simp [Lib.byteCells]
theorem bc_len (bs : List UInt8) : (Lib.byteCells bs).length = bs.length := by simp [Lib.byteCells]
theorem cell_below {B : Nat} {w w' : World} (h : Below B w w') {blk : Nat} (hb : blk < B) (j : Nat) : w'.cell? ⟨blk, j, none⟩ = w.cell? ⟨blk, j, none⟩ := World.cell?_of_block (h.block blk hb)
theorem rep_below {B : Nat} {w w' : World} (h : Below B w w') {x : IV} {v : Value} (r : RepI w (· < B) x v) : RepI w' (· < B) x v := r.mono (fun _ h => h) (fun k hk => h.block k hk)
structure NodeAt (B b k : Nat) (O : Array Value) (T : TypeId) (w : World) : Prop where
 box : w.heap[k]? = some (.cells O T (0, 0))
theorem NodeAt.step {B b k : Nat} {O : Array Value} {T : TypeId} {w w' : World} (h : NodeAt B b k O T w) (hk : k ≠ b) (hT : T ≠ 5) (h' : Lib.OthersKept 5 (some b) w w') : NodeAt B b k O T w' :=
 ⟨h' k _ h.box (fun e => hk (Option.some.inj e)) (fun c fz e => hT (by injection e))⟩
theorem NodeAt.cell {B b k : Nat} {O : Array Value} {T : TypeId} {w : World} (h : NodeAt B b k O T w) (j : Nat) : w.cell? ⟨k, j, none⟩ = O[j]? := Lib.cell_of_heap h.box j
set_option maxHeartbeats 8000000 in
theorem wid_spec : ∀ (i : ITI) (vl : Value) (B b : Nat) (bs : List UInt8) (w : World), RepI w (· < B) (iLs i) vl → IsB B b bs w → B ≤ w.heap.size → bs.length + (idL i).length ≤ 100000 →
  Calls Tryd.prog 90 #[.pointer (some ⟨b, 0, none⟩), .agg #[.int .i64 (iLf i), vl]] w fun e w' => e = .returned (.tuple #[]) ∧ IsB B b (bs ++ idL i) w' ∧ Kp B b w w'
 | .leaf a, vl, B, b, bs, w, hv, hb, hB, hl => by
   obtain ⟨ad, rfl⟩ : ∃ ad, vl = .slice ad 0 0 := by cases hv; exact ⟨_, rfl⟩
   obtain ⟨n, hn, hi⟩ : ∃ n : Nat, n ≤ 1 ∧ bI a = n ∧ idL (.leaf a) = (dig n).data.toList := by cases a; exact ⟨0, by omega, rfl, rfl⟩; exact ⟨1, by omega, rfl, rfl⟩
   obtain ⟨hn1, hi⟩ := hi
   simp only [idL, List.length_singleton] at hl
   simp only [iLf, hn1]
   have hbA := Lib.IsBuilderF.alloc hb (.cells #[.int .i64 n, .slice ad 0 0] 38)
   go_enter Tryd.func90, Tryd.ntmps90
   go_wp2_with (go_at_call 121; refine (itoa01 n hn _).mono ?_; rintro e w' ⟨rfl, rfl⟩)
   have hsz : B ≤ (w.alloc (.cells #[.int .i64 n, .slice ad 0 0] 38)).heap.size := by simp; omega
   have hdl : (dig n).size = 1 := rfl
   go_wp2_with (go_at_call 120; refine (bws B b _ (dig n) _ hbA (by rw [bc_len, hdl]; omega) hsz).mono ?_; rintro e w1 ⟨rfl, h1, h2, h3⟩)
   refine bodyPost_ret (results_none rfl _ _ _) rfl ?_
   refine ⟨rfl, IsB.of h1 (by rw [bc_str, hi]), ((Below.refl B w).alloc hB _).trans h2, ((Lib.OthersKept.refl _ _ w).alloc _).trans h3⟩
 | .node x y, vl, B, b, bs, w, hv, hb, hB, hl => by
   simp only [iLs] at hv
   obtain ⟨blk, off, c, u, v, rfl, hF, hc, hm, c0, c1, c2, c3, hu, hv⟩ : ∃ blk off c u v, vl = .slice (some ⟨blk, off, none⟩) 2 c ∧ blk < B ∧ 2 ≤ c ∧ c ≤ maxLen ∧ w.cell? ⟨blk, off, none⟩ = some (.int .i64 (iLf x)) ∧ w.cell? ⟨blk, off + 1, none⟩ = some u ∧ w.cell? ⟨blk, off + 2, none⟩ = some (.int .i64 (iLf y)) ∧ w.cell? ⟨blk, off + 3, none⟩ = some v ∧ RepI w (· < B) (iLs x) u ∧ RepI w (· < B) (iLs y) v := by
    cases hv with
    | isl rows blk off sz c val hF hc hm hsz hcell hrep =>
      have a0 := hcell 0 _ 0 _ rfl rfl
      have a1 := hcell 0 _ 1 _ rfl rfl
      have a2 := hcell 1 _ 0 _ rfl rfl
      have a3 := hcell 1 _ 1 _ rfl rfl
      have r0 := hrep 0 _ 0 _ rfl rfl
      have r1 := hrep 0 _ 1 _ rfl rfl
      have r2 := hrep 1 _ 0 _ rfl rfl
      have r3 := hrep 1 _ 1 _ rfl rfl
      obtain ⟨t0, e0⟩ : ∃ t, val 0 0 = t := ⟨_, rfl⟩
      obtain ⟨t2, e2⟩ : ∃ t, val 1 0 = t := ⟨_, rfl⟩
      rw [e0] at a0 r0
      rw [e2] at a2 r2
      cases r0
      cases r2
      exact ⟨blk, off, c, _, _, rfl, hF, hc, hm, a0, a1, a2, a3, r1, r3⟩
   simp only [idL, List.length_cons, List.length_append, List.length_nil] at hl
   obtain ⟨O, hO⟩ : ∃ O : Obj, O = .cells #[.int .i64 0, .slice (some ⟨blk, off, none⟩) 2 c] 38 := ⟨_, rfl⟩
   have hbA := Lib.IsBuilderF.alloc hb O
   have hsz : B ≤ (w.alloc O).heap.size := by simp; omega
   have k0 : Kp B b w (w.alloc O) := ⟨(Below.refl B w).alloc hB _, (Lib.OthersKept.refl _ _ w).alloc _⟩
   have N0 : NodeAt B b w.heap.size #[.int .i64 0, .slice (some ⟨blk, off, none⟩) 2 c] 38 (w.alloc O) := ⟨by rw [hO]; exact Array.getElem?_push_size⟩
   have hbl : b < w.heap.size := by rcases hb with h | h <;> exact h.lt
   have hkb : w.heap.size ≠ b := by omega
   have hT : 38 ≠ 5 := by decide
   subst hO
   go_enter Tryd.func90, Tryd.ntmps90
   go_wp2_with (go_at_call 89; refine (bwb B b _ 40 _ hbA (by rw [bc_len]; omega) hsz).mono ?_; rintro e w1 ⟨rfl, h1, h2, h3⟩; have N1 := N0.step hkb hT h3; have x1 := N1.cell 1; have e0 := (cell_below (k0.1.trans h2) hF off).trans c0; have e1 := (cell_below (k0.1.trans h2) hF (off + 1)).trans c1; simp at x1)
   have i1 : IsB B b (bs ++ [40]) w1 := IsB.of h1 (bc_snoc bs 40)
   have s1 : B ≤ w1.heap.size := Nat.le_trans hsz h2.size
   have k1 : Kp B b w w1 := ⟨k0.1.trans h2, k0.2.trans h3⟩
   clear h1 h2 h3
   go_at_call 90
   refine (wid_spec x u B b (bs ++ [40]) w1 (rep_below k1.1 hu) i1 s1 (by rw [List.length_append, List.length_singleton]; omega)).mono ?_
   rintro e w2 ⟨rfl, i2, h2, h3⟩
   have k2 : Kp B b w w2 := ⟨k1.1.trans h2, k1.2.trans h3⟩
   have s2 : B ≤ w2.heap.size := Nat.le_trans s1 h2.size
   have N2 := N1.step hkb hT h3
   clear h2 h3
   go_wp2_with (go_at_call 89; refine (bwb B b _ 44 _ i2 (by rw [bc_len]; simp only [List.length_append, List.length_singleton]; omega) s2).mono ?_; rintro e w3 ⟨rfl, h1, h2, h3⟩; have N3 := N2.step hkb hT h3; have x3 := N3.cell 1; have e2 := (cell_below (k2.1.trans h2) hF (off + 2)).trans c2; have e3 := (cell_below (k2.1.trans h2) hF (off + 3)).trans c3; simp at x3)
   have i3 : IsB B b (bs ++ [40] ++ idL x ++ [44]) w3 := IsB.of h1 (bc_snoc _ 44)
   have s3 : B ≤ w3.heap.size := Nat.le_trans s2 h2.size
   have k3 : Kp B b w w3 := ⟨k2.1.trans h2, k2.2.trans h3⟩
   clear h1 h2 h3
   go_at_call 90
   refine (wid_spec y v B b (bs ++ [40] ++ idL x ++ [44]) w3 (rep_below k3.1 hv) i3 s3 (by simp only [List.length_append, List.length_singleton]; omega)).mono ?_
   rintro e w4 ⟨rfl, i4, h2, h3⟩
   have k4 : Kp B b w w4 := ⟨k3.1.trans h2, k3.2.trans h3⟩
   have s4 : B ≤ w4.heap.size := Nat.le_trans s3 h2.size
   clear h2 h3
   go_wp2_with (go_at_call 89; refine (bwb B b _ 41 _ i4 (by rw [bc_len]; simp only [List.length_append, List.length_singleton]; omega) s4).mono ?_; rintro e w5 ⟨rfl, h1, h2, h3⟩)
   refine bodyPost_end (results_none rfl _ _ _) rfl ?_
   refine ⟨rfl, IsB.of h1 ((bc_snoc _ 41).trans (by congr 1; simp [idL])), k4.1.trans h2, k4.2.trans h3⟩
def trL : ITT → List UInt8
 | .leaf n => (dig n).data.toList
 | .node n x y => 40 :: ((dig n).data.toList ++ 44 :: (trL x ++ 44 :: (trL y ++ [41])))
theorem sn_data (n : Nat) : ((⟨#[40]⟩ : ByteArray) ++ dig n ++ ⟨#[44]⟩).data.toList = 40 :: ((dig n).data.toList ++ [44]) := by
 simp
theorem sn_size (n : Nat) : ((⟨#[40]⟩ : ByteArray) ++ dig n ++ ⟨#[44]⟩).size = 3 := by
 rw [ByteArray.size_append, ByteArray.size_append]; rfl
set_option maxHeartbeats 8000000 in
theorem wtr_spec : ∀ (i : ITT) (vl : Value) (B b : Nat) (bs : List UInt8) (w : World), tMax i ≤ 1 → RepI w (· < B) (tLs i) vl → IsB B b bs w → B ≤ w.heap.size → bs.length + (trL i).length ≤ 100000 →
  Calls Tryd.prog 91 #[.pointer (some ⟨b, 0, none⟩), .agg #[.int .i64 (tN i), vl]] w fun e w' => e = .returned (.tuple #[]) ∧ IsB B b (bs ++ trL i) w' ∧ Kp B b w w'
 | .leaf n, vl, B, b, bs, w, hn, hv, hb, hB, hl => by
   obtain ⟨ad, rfl⟩ : ∃ ad, vl = .slice ad 0 0 := by cases hv; exact ⟨_, rfl⟩
   simp only [tMax] at hn
   have hdl : (dig n).size = 1 := rfl
   have hdl2 : (dig n).data.toList.length = 1 := rfl
   simp only [trL, hdl2] at hl
   simp only [tN_l]
   have hbA := Lib.IsBuilderF.alloc hb (.cells #[.int .i64 n, .slice ad 0 0] 41)
   have hsz : B ≤ (w.alloc (.cells #[.int .i64 n, .slice ad 0 0] 41)).heap.size := by simp; omega
   go_enter Tryd.func91, Tryd.ntmps91
   go_wp2_with (go_at_call 121; refine (itoa01 n hn _).mono ?_; rintro e w' ⟨rfl, rfl⟩)
   go_wp2_with (go_at_call 120; refine (bws B b _ (dig n) _ hbA (by rw [bc_len, hdl]; omega) hsz).mono ?_; rintro e w1 ⟨rfl, h1, h2, h3⟩)
   refine bodyPost_ret (results_none rfl _ _ _) rfl ?_
   refine ⟨rfl, IsB.of h1 (bc_str _ _), ((Below.refl B w).alloc hB _).trans h2, ((Lib.OthersKept.refl _ _ w).alloc _).trans h3⟩
 | .node n x y, vl, B, b, bs, w, hn, hv, hb, hB, hl => by
   simp only [tMax] at hn
   simp only [tLs] at hv
   obtain ⟨blk, off, c, u, v, rfl, hF, hc, hm, c0, c1, c2, c3, hu, hv⟩ : ∃ blk off c u v, vl = .slice (some ⟨blk, off, none⟩) 2 c ∧ blk < B ∧ 2 ≤ c ∧ c ≤ maxLen ∧ w.cell? ⟨blk, off, none⟩ = some (.int .i64 (tN x)) ∧ w.cell? ⟨blk, off + 1, none⟩ = some u ∧ w.cell? ⟨blk, off + 2, none⟩ = some (.int .i64 (tN y)) ∧ w.cell? ⟨blk, off + 3, none⟩ = some v ∧ RepI w (· < B) (tLs x) u ∧ RepI w (· < B) (tLs y) v := by
    cases hv with
    | isl rows blk off sz c val hF hc hm hsz hcell hrep =>
      have a0 := hcell 0 _ 0 _ rfl rfl
      have a1 := hcell 0 _ 1 _ rfl rfl
      have a2 := hcell 1 _ 0 _ rfl rfl
      have a3 := hcell 1 _ 1 _ rfl rfl
      have r0 := hrep 0 _ 0 _ rfl rfl
      have r1 := hrep 0 _ 1 _ rfl rfl
      have r2 := hrep 1 _ 0 _ rfl rfl
      have r3 := hrep 1 _ 1 _ rfl rfl
      obtain ⟨t0, e0⟩ : ∃ t, val 0 0 = t := ⟨_, rfl⟩
      obtain ⟨t2, e2⟩ : ∃ t, val 1 0 = t := ⟨_, rfl⟩
      rw [e0] at a0 r0
      rw [e2] at a2 r2
      cases r0
      cases r2
      exact ⟨blk, off, c, _, _, rfl, hF, hc, hm, a0, a1, a2, a3, r1, r3⟩
   have hdl2 : (dig n).data.toList.length = 1 := rfl
   simp only [trL, List.length_cons, List.length_append, List.length_nil, hdl2] at hl
   obtain ⟨O, hO⟩ : ∃ O : Obj, O = .cells #[.int .i64 n, .slice (some ⟨blk, off, none⟩) 2 c] 41 := ⟨_, rfl⟩
   have hbA := Lib.IsBuilderF.alloc hb O
   have hsz : B ≤ (w.alloc O).heap.size := by simp; omega
   have k0 : Kp B b w (w.alloc O) := ⟨(Below.refl B w).alloc hB _, (Lib.OthersKept.refl _ _ w).alloc _⟩
   have N0 : NodeAt B b w.heap.size #[.int .i64 n, .slice (some ⟨blk, off, none⟩) 2 c] 41 (w.alloc O) := ⟨by rw [hO]; exact Array.getElem?_push_size⟩
   have hbl : b < w.heap.size := by rcases hb with h | h <;> exact h.lt
   have hkb : w.heap.size ≠ b := by omega
   have hT : 41 ≠ 5 := by decide
   subst hO
   simp only [tN_n]
   go_enter Tryd.func91, Tryd.ntmps91
   go_wp2_with (go_at_call 121; refine (itoa01 n oM _).mono ?_; rintro e w' ⟨rfl, rfl⟩)
   go_at_call 120
   refine (bws B b _ _ _ hbA (by rw [bc_len, sn_size]; omega) hsz).mono ?_
   rintro e w1 ⟨rfl, h1, h2, h3⟩
   have N1 := N0.step hkb hT h3
   have x1 := N1.cell 1
   have e0 := (cell_below (k0.1.trans h2) hF off).trans c0
   have e1 := (cell_below (k0.1.trans h2) hF (off + 1)).trans c1
   simp at x1
   have i1 : IsB B b (bs ++ 40 :: ((dig n).data.toList ++ [44])) w1 := IsB.of h1 ((bc_str _ _).trans (by rw [sn_data]))
   have s1 : B ≤ w1.heap.size := Nat.le_trans hsz h2.size
   have k1 : Kp B b w w1 := ⟨k0.1.trans h2, k0.2.trans h3⟩
   clear h1 h2 h3
   go_wp2_with fail
   go_at_call 91
   refine (wtr_spec x u B b _ w1 oM (rep_below k1.1 hu) i1 s1 (by simp only [List.length_append, List.length_nil, List.length_cons, hdl2]; omega)).mono ?_
   rintro e w2 ⟨rfl, i2, h2, h3⟩
   have k2 : Kp B b w w2 := ⟨k1.1.trans h2, k1.2.trans h3⟩
   have s2 : B ≤ w2.heap.size := Nat.le_trans s1 h2.size
   have N2 := N1.step hkb hT h3
   clear h2 h3
   go_wp2_with (go_at_call 89; refine (bwb B b _ 44 _ i2 (by rw [bc_len]; simp only [List.length_append, List.length_nil, List.length_cons, hdl2]; omega) s2).mono ?_; rintro e w3 ⟨rfl, h1, h2, h3⟩; have N3 := N2.step hkb hT h3; have x3 := N3.cell 1; have e2 := (cell_below (k2.1.trans h2) hF (off + 2)).trans c2; have e3 := (cell_below (k2.1.trans h2) hF (off + 3)).trans c3; simp at x3)
   have i3 : IsB B b (bs ++ 40 :: ((dig n).data.toList ++ [44]) ++ trL x ++ [44]) w3 := IsB.of h1 (bc_snoc _ 44)
   have s3 : B ≤ w3.heap.size := Nat.le_trans s2 h2.size
   have k3 : Kp B b w w3 := ⟨k2.1.trans h2, k2.2.trans h3⟩
   clear h1 h2 h3
   go_at_call 91
   refine (wtr_spec y v B b _ w3 oM (rep_below k3.1 hv) i3 s3 (by simp only [List.length_append, List.length_nil, List.length_cons, hdl2]; omega)).mono ?_
   rintro e w4 ⟨rfl, i4, h2, h3⟩
   have k4 : Kp B b w w4 := ⟨k3.1.trans h2, k3.2.trans h3⟩
   have s4 : B ≤ w4.heap.size := Nat.le_trans s3 h2.size
   clear h2 h3
   go_wp2_with (go_at_call 89; refine (bwb B b _ 41 _ i4 (by rw [bc_len]; simp only [List.length_append, List.length_nil, List.length_cons, hdl2]; omega) s4).mono ?_; rintro e w5 ⟨rfl, h1, h2, h3⟩)
   refine bodyPost_end (results_none rfl _ _ _) rfl ?_
   refine ⟨rfl, IsB.of h1 ((bc_snoc _ 41).trans (by congr 1; simp [trL])), k4.1.trans h2, k4.2.trans h3⟩
theorem ACalls.of_extI {P : Program} {f : Nat} {args : List AV} {b l : List Row} {Q : AV → List Row → List Row → Prop} (hf : ∃ fn, P.funcs[f]? = some fn ∧ (fn.name == "runtime.NumGoroutine") = false ∧ fn.body.isSome = true)
  (h : ∀ F L w (vs : Array Value), (∀ k, F k → k < w.heap.size) → Glob w F → RepL w F L args vs.toList → Calls P f vs w fun en w' => Ext w w' ∧ ∃ v x, en = .returned v ∧ RepA w' F L x v ∧ Q x b l) : ACalls P f args b l Q := by
 refine ⟨hf, fun F L w vs s hr => Calls.mono (h F L w vs (fun k hk => (s.imm k hk).1) s.glob hr) ?_⟩
 rintro en w' ⟨he, v, x, h1, h2, h3⟩
 have hblk : ∀ k, k < w.heap.size → w'.heap[k]? = w.heap[k]? := he.block
 refine ⟨v, x, b, l, F, L, h1, h2, ⟨fun i v z els hi => ?_, s.born, s.apart, fun k hk => ⟨Nat.lt_of_lt_of_le (s.imm k hk).1 he.size, (s.imm k hk).2⟩, s.glob.mono (fun _ h => h) (fun k hk => hblk k (s.imm k hk).1)⟩,
  ⟨fun _ h => h, fun _ _ _ _ h => h, he.os, he.tape, he.output, he.size, fun k hk _ => hblk k hk, fun _ _ h => h, fun _ _ _ h => h, fun _ _ h => .inl h⟩, rfl, h3⟩
 obtain ⟨q, g1, g2⟩ := s.row i v z els hi
 exact ⟨q, g1, g2.mono (fun k hk => hblk k (g2.lt hk)) (fun _ _ hx => hx.mono (fun _ h => h) (fun k hk => hblk k (s.imm k hk).1) (fun _ _ _ h => h))⟩
def txL (i : ITI) (x : ITT) : List UInt8 := [40] ++ idL i ++ [59] ++ trL x ++ [41]
theorem valid_walk {i : ITI} {x : ITT} (h : GoodS i x) {w w' : World} {u v : Value} (hG : Glob w (· < w.heap.size)) (hu : RepI w (· < w.heap.size) (iLs i) u) (hv : RepI w (· < w.heap.size) (tLs x) v) (hb : Below w.heap.size w w') :
  Calls Tryd.prog 50 #[.agg #[.int .i64 (iLf i), u, .int .i64 (tN x), v]] w' fun e w'' => e = .returned (.bool true) ∧ Ext w' w'' := by
 have hF : ∀ k, k < w.heap.size → k < w'.heap.size := fun k hk => Nat.lt_of_lt_of_le hk hb.size
 have hk : ∀ k, k < w.heap.size → w'.heap[k]? = w.heap[k]? := hb.block
 have r : RepA w' (fun k => k < w'.heap.size) (fun _ _ => none) (sA i x) (.agg #[.int .i64 (iLf i), u, .int .i64 (tN x), v]) := by
  refine RepA.agg _ _ rfl ?_
  intro j a y ha hy
  match j, ha, hy with
  | 0, ha, hy => cases ha; cases hy; exact .v _ _ (.int _ _)
  | 1, ha, hy => cases ha; cases hy; exact .v _ _ (hu.mono hF hk)
  | 2, ha, hy => cases ha; cases hy; exact .v _ _ (.int _ _)
  | 3, ha, hy => cases ha; cases hy; exact .v _ _ (hv.mono hF hk)
 refine (ACalls.calls (validI_spec h [] []) (vs := #[.agg #[.int .i64 (iLf i), u, .int .i64 (tN x), v]]) ⟨rfl, ?_⟩ (hG.mono hF hk)).mono ?_
 ·intro j a y ha hy
  match j, ha, hy with
  | 0, ha, hy => cases ha; cases hy; exact r
 ·rintro en w2 ⟨y, z, b', l', F', L', rfl, h2, h3, rfl, _, _⟩
  cases h2 with
  | v _ _ h2 => cases h2; exact ⟨rfl, h3⟩
theorem text_walk (i : ITI) (x : ITT) (h : GoodS i x) (h1 : tMax x ≤ 1) (hl : (idL i).length + (trL x).length ≤ 90000) (w : World) (u v : Value) (hG : Glob w (· < w.heap.size)) (hu : RepI w (· < w.heap.size) (iLs i) u) (hv : RepI w (· < w.heap.size) (tLs x) v) :
  Calls Tryd.prog 47 #[.agg #[.int .i64 (iLf i), u, .int .i64 (tN x), v]] w fun e w' => e = .returned (.tuple #[.string ⟨(txL i x).toArray⟩, .int .i64 0]) ∧ Below w.heap.size w w' := by
 obtain ⟨O, hO⟩ : ∃ O : Obj, O = .cells #[.int .i64 (iLf i), u, .int .i64 (tN x), v] 43 := ⟨_, rfl⟩
 have b0 : Below w.heap.size w (w.alloc O) := (Below.refl _ w).alloc (Nat.le_refl _) _
 have hV := valid_walk h hG hu hv b0
 have N0 : (w.alloc O).heap[w.heap.size]? = some (.cells #[.int .i64 (iLf i), u, .int .i64 (tN x), v] 43 (0, 0)) := by rw [hO]; exact Array.getElem?_push_size
 subst hO
 go_enter Tryd.func47, Tryd.ntmps47
 go_wp2_with fail
 go_at_call 50
 refine hV.mono ?_
 rintro e w1 ⟨rfl, h2⟩
 have hs1 : w.heap.size < w1.heap.size := by have := h2.size; simp at this; omega
 have k1 : ∀ k, k < w.heap.size → w1.heap[k]? = w.heap[k]? := fun k hk => (h2.block k (by simp; omega)).trans (b0.block k hk)
 have N1 : w1.heap[w.heap.size]? = some (.cells #[.int .i64 (iLf i), u, .int .i64 (tN x), v] 43 (0, 0)) := (h2.block _ (by simp)).trans N0
 have y0 : w1.cell? ⟨w.heap.size, 0, none⟩ = some (.int .i64 (iLf i)) := Lib.cell_of_heap N1 0
 have y1 : w1.cell? ⟨w.heap.size, 1, none⟩ = some u := Lib.cell_of_heap N1 1
 have y2 : w1.cell? ⟨w.heap.size, 2, none⟩ = some (.int .i64 (tN x)) := Lib.cell_of_heap N1 2
 have y3 : w1.cell? ⟨w.heap.size, 3, none⟩ = some v := Lib.cell_of_heap N1 3
 have ru : RepI w1 (· < w1.heap.size) (iLs i) u := hu.mono (fun k (hk : k < w.heap.size) => Nat.lt_trans hk hs1) k1
 have rv : RepI w1 (· < w1.heap.size) (tLs x) v := hv.mono (fun k (hk : k < w.heap.size) => Nat.lt_trans hk hs1) k1
 have bw : Below w.heap.size w w1 := ⟨h2.os.trans b0.os, h2.tape.trans b0.tape, h2.output.trans b0.output, Nat.le_of_lt hs1, k1⟩
 clear N0 N1 hV b0 h2 k1 hG hu hv
 have i1 : IsB w1.heap.size w1.heap.size [] (w1.alloc (.cells #[.pointer none, .slice none 0 0] 158)) := Lib.IsBuilderF.of (Lib.fresh_isBuilder 158 5 w1)
 have c1 : Below w1.heap.size w1 (w1.alloc (.cells #[.pointer none, .slice none 0 0] 158)) := (Below.refl _ w1).alloc (Nat.le_refl _) _
 have s1 : w1.heap.size ≤ (w1.alloc (.cells #[.pointer none, .slice none 0 0] 158)).heap.size := c1.size
 go_wp2_with fail
 go_at_call 89
 refine (bwb _ _ _ 40 _ i1 (by rw [bc_len]; decide) s1).mono ?_
 rintro e w2 ⟨rfl, h1', h2, _⟩
 have i2 : IsB w1.heap.size w1.heap.size [40] w2 := IsB.of h1' (bc_snoc [] 40)
 have c2 := c1.trans h2
 have s2 := Nat.le_trans s1 h2.size
 have z0 := (cell_below c2 hs1 0).trans y0
 have z1 := (cell_below c2 hs1 1).trans y1
 clear h1' h2 i1 c1 s1
 go_wp2_with fail
 go_at_call 90
 refine (wid_spec i u _ _ _ _ (rep_below c2 ru) i2 s2 (by simp only [List.length_singleton]; omega)).mono ?_
 rintro e w3 ⟨rfl, i3, h2, _⟩
 have c3 := c2.trans h2
 have s3 := Nat.le_trans s2 h2.size
 clear h2 i2 c2 s2 z0 z1
 go_wp2_with fail
 go_at_call 89
 refine (bwb _ _ _ 59 _ i3 (by rw [bc_len]; simp only [List.length_append, List.length_singleton]; omega) s3).mono ?_
 rintro e w4 ⟨rfl, h1', h2, _⟩
 have i4 : IsB w1.heap.size w1.heap.size ([40] ++ idL i ++ [59]) w4 := IsB.of h1' (bc_snoc _ 59)
 have c4 := c3.trans h2
 have s4 := Nat.le_trans s3 h2.size
 have z2 := (cell_below c4 hs1 2).trans y2
 have z3 := (cell_below c4 hs1 3).trans y3
 clear h1' h2 i3 c3 s3
 go_wp2_with fail
 go_at_call 91
 refine (wtr_spec x v _ _ _ _ h1 (rep_below c4 rv) i4 s4 (by simp only [List.length_append, List.length_singleton]; omega)).mono ?_
 rintro e w5 ⟨rfl, i5, h2, _⟩
 have c5 := c4.trans h2
 have s5 := Nat.le_trans s4 h2.size
 clear h2 i4 c4 s4 z2 z3
 go_wp2_with fail
 go_at_call 89
 refine (bwb _ _ _ 41 _ i5 (by rw [bc_len]; simp only [List.length_append, List.length_singleton]; omega) s5).mono ?_
 rintro e w6 ⟨rfl, h1', h2, _⟩
 have i6 : IsB w1.heap.size w1.heap.size (txL i x) w6 := IsB.of h1' (bc_snoc _ 41)
 have c6 := c5.trans h2
 have s6 := Nat.le_trans s5 h2.size
 clear h1' h2 i5 c5 s5
 go_wp2_with fail
 go_at_call 92
 refine (bst _ _ _ _ i6 s6).mono ?_
 rintro e w7 ⟨rfl, _, h2, _⟩
 have c7 := c6.trans h2
 go_wp2
 go_ret2
 exact ⟨rfl, bw.trans (Below.mono c7 (Nat.le_of_lt hs1))⟩
end Go.Proofs.YtnihdkfmmbpilaaDoor
namespace Go.Proofs.YtnihdkfmmbpilaaDoor
set_option linter.unusedVariables false
set_option linter.unusedSimpArgs false
set_option maxRecDepth 100000
attribute [local go_sem ↓] run_skip run_region run_draw run_both run_seq run_block run_exit run_ret run_cond atN_app seqC_normal seqC_exit seqC_ret seqQ_normal seqQ_exit seqQ_ret blkQ_normal blkQ_exit blkQ_ret runOps_nil runOps_cons runD_nil runD_cons grdO_true grdO_false grdD_true grdD_false ifC_true ifC_false opS_val opS_call opS_two opK_app dS_val dS_call dS_two dK_app kUp_same kUp_ne
attribute [local go_sem] rechks_nil rechks_cons rechk gcase_true gcase_false ex_val ex_val0 gd_none gd_some ev_t ev_c evs_nil evs_cons evo_some evo_none hget_at hget_first hsetB_at hsetB_first hsetL_at hsetL_first ofOpt_some aop aload astore aslice aappend aiaddr aiaddrA afaddr alen alenS acopy amm acall alookup amupdate alenM atostr aappz comma keyEq apick binV binVB binVS isSh intOp strOp boolOp shOp eqC eqF and2 cellsOf setFrom fillA fillS rd rdI elems mk bounds AV.cell List.all_cons List.all_nil Bool.and_true Bool.true_and Bool.and_self List.length_cons List.length_nil List.length_append Nat.reduceAdd Nat.reduceSub Nat.reduceMul Nat.zero_add Nat.add_zero List.cons_append List.nil_append List.append_assoc List.append_nil List.getElem?_cons_zero List.getElem?_cons_succ List.getElem?_nil List.set_cons_zero List.set_cons_succ List.drop_zero List.drop_succ_cons List.take_zero List.take_succ_cons List.take_nil List.drop_nil List.map_cons List.map_nil Option.map_some if_true if_false Bool.false_eq_true and_self true_and and_true Nat.reduceLeDiff Nat.reduceLT Nat.le_refl Nat.reduceEqDiff ite_true ite_false beq_self_eq_true beq_true beq_false Bool.not_true Bool.not_false Bool.true_beq Bool.false_beq map_vs vs_len vs_get vs_take vs_drop vs_snoc1 vs_snoc2 vs_snoc3 vs_snoc5 vs_set1 vs_set2 vs_rep wrap_id le_T lt_T le_F lt_F leI_T ltI_T leI_F ltI_F geI gtI get_T decide_true decide_false room List.getElem?_map List.length_map List.length_take Int.toNat_natCast Nat.min_def Nat.min_self nth_kOf put_kOf put_kNo kOv_cons kOv_nil KHas KArgs List.getElem_cons_zero List.getElem_cons_succ
def a_awake17 : AFunc := ⟨0,74,[.tmp 0],(.seq (.region [⟨some 0,.mv (.c (.v (.bool false))),none⟩]) (.seq (.region [⟨some 13,.call (.c (.fn 15 [])) [],none⟩,⟨some 14,.call (.c (.fn 16 [])) [(.t 13)],none⟩,⟨some 12,.mv (.t 14),none⟩,⟨some 15,.extract 0 (.t 12),none⟩,⟨some 16,.extract 1 (.t 12),none⟩,⟨some 17,.extract 2 (.t 12),none⟩,⟨some 1,.alloc [(.v (.int .i64 0)),(.v .zsl),(.v (.int .i64 0)),(.v .zsl)],none⟩,⟨some 2,.alloc [(.v (.int .i64 0)),(.v .zsl),(.v (.int .i64 0)),(.v .zsl)],none⟩,⟨none,.store 4 (.t 1) (.t 15),none⟩,⟨none,.store 4 (.t 2) (.t 16),none⟩,⟨some 3,.mv (.t 17),none⟩]) (.seq (.region [⟨some 19,.load (some 4) (.t 1),none⟩,⟨some 20,.call (.c (.fn 18 [])) [(.t 19)],none⟩,⟨some 18,.mv (.t 20),none⟩,⟨some 21,.extract 0 (.t 18),none⟩,⟨some 22,.extract 1 (.t 18),none⟩,⟨none,.store 4 (.t 1) (.t 21),none⟩,⟨some 4,.mv (.t 22),none⟩]) (.seq (.region [⟨some 24,.load (some 4) (.t 2),none⟩,⟨some 25,.call (.c (.fn 18 [])) [(.t 24)],none⟩,⟨some 23,.mv (.t 25),none⟩,⟨some 26,.extract 0 (.t 23),none⟩,⟨some 27,.extract 1 (.t 23),none⟩,⟨none,.store 4 (.t 2) (.t 26),none⟩,⟨some 5,.mv (.t 27),none⟩]) (.seq (.region [⟨some 29,.load (some 4) (.t 1),none⟩,⟨some 30,.load (some 4) (.t 2),none⟩,⟨some 31,.call (.c (.fn 17 [])) [(.t 29),(.t 30)],none⟩,⟨some 28,.mv (.t 31),none⟩,⟨some 32,.extract 0 (.t 28),none⟩,⟨some 33,.extract 1 (.t 28),none⟩,⟨some 6,.alloc [(.v (.int .i64 0)),(.v .zsl),(.v (.int .i64 0)),(.v .zsl)],none⟩,⟨none,.store 4 (.t 6) (.t 32),none⟩,⟨some 7,.mv (.t 33),none⟩]) (.seq (.region [⟨some 35,.load (some 4) (.t 1),none⟩,⟨some 36,.call (.c (.fn 47 [])) [(.t 35)],none⟩,⟨some 34,.mv (.t 36),none⟩,⟨some 37,.extract 0 (.t 34),none⟩,⟨some 38,.extract 1 (.t 34),none⟩,⟨some 8,.mv (.t 37),none⟩,⟨some 9,.mv (.t 38),none⟩]) (.seq (.region [⟨some 40,.load (some 4) (.t 6),none⟩,⟨some 41,.call (.c (.fn 47 [])) [(.t 40)],none⟩,⟨some 39,.mv (.t 41),none⟩,⟨some 42,.extract 0 (.t 39),none⟩,⟨some 43,.extract 1 (.t 39),none⟩,⟨some 10,.mv (.t 42),none⟩,⟨some 11,.mv (.t 43),none⟩]) (.seq (.region [⟨some 44,.mv (.t 3),none⟩,⟨some 45,.bin .eql (.t 44) (.c (.v (.int .i64 0))),none⟩,⟨some 46,.mv (.t 45),none⟩,⟨some 47,.mv (.t 4),some (46,true)⟩,⟨some 48,.bin .eql (.t 47) (.c (.v (.int .i64 0))),some (46,true)⟩,⟨some 49,.pick (.t 46) (.t 48) (.c (.v (.bool false))),none⟩,⟨some 50,.mv (.t 49),none⟩,⟨some 51,.mv (.t 5),some (50,true)⟩,⟨some 52,.bin .eql (.t 51) (.c (.v (.int .i64 0))),some (50,true)⟩,⟨some 53,.pick (.t 50) (.t 52) (.c (.v (.bool false))),none⟩,⟨some 54,.mv (.t 53),none⟩,⟨some 55,.mv (.t 7),some (54,true)⟩,⟨some 56,.bin .eql (.t 55) (.c (.v (.int .i64 0))),some (54,true)⟩,⟨some 57,.pick (.t 54) (.t 56) (.c (.v (.bool false))),none⟩,⟨some 58,.mv (.t 57),none⟩,⟨some 59,.mv (.t 9),some (58,true)⟩,⟨some 60,.bin .eql (.t 59) (.c (.v (.int .i64 0))),some (58,true)⟩,⟨some 61,.pick (.t 58) (.t 60) (.c (.v (.bool false))),none⟩,⟨some 62,.mv (.t 61),none⟩,⟨some 63,.mv (.t 8),some (62,true)⟩,⟨some 64,.binS .eql (.t 63) (.c (.v (.str ⟨#[40,40,49,44,48,41,59,40,48,44,49,44,48,41,41]⟩))),some (62,true)⟩,⟨some 65,.pick (.t 62) (.t 64) (.c (.v (.bool false))),none⟩,⟨some 66,.mv (.t 65),none⟩,⟨some 67,.mv (.t 11),some (66,true)⟩,⟨some 68,.bin .eql (.t 67) (.c (.v (.int .i64 0))),some (66,true)⟩,⟨some 69,.pick (.t 66) (.t 68) (.c (.v (.bool false))),none⟩,⟨some 70,.mv (.t 69),none⟩,⟨some 71,.mv (.t 10),some (70,true)⟩,⟨some 72,.binS .eql (.t 71) (.c (.v (.str ⟨#[40,49,59,49,41]⟩))),some (70,true)⟩,⟨some 73,.pick (.t 70) (.t 72) (.c (.v (.bool false))),none⟩,⟨some 0,.mv (.t 73),none⟩]) .ret))))))))⟩
theorem a_awake17_ok : cFunc Tryd.prog 14 = some a_awake17 := by kernel_rfl

theorem text_spec {i : ITI} {x : ITT} (h : GoodS i x) (h1 : tMax x ≤ 1) (hl : (idL i).length + (trL x).length ≤ 90000) (b l : List Row) : ACalls Tryd.prog 47 [sA i x] b l (fun r b' l' =>
  r = .tup [.v (.str ⟨(txL i x).toArray⟩), .v (.int .i64 0)] ∧ b' = b ∧ l' = l) := by
 refine ACalls.of_extI ⟨_, Tryd.func47, by kernel_rfl, by kernel_rfl⟩ (fun F L w us hF hG hr => ?_)
 have h2 : us.size = 1 := by simpa using hr.1.symm
 obtain ⟨u, rfl⟩ : ∃ u, us = #[u] := by
  cases us with
  | mk l => match l, h2 with
    | [u], _ => exact ⟨u, rfl⟩
 have hu := hr.2 0 _ u rfl rfl
 unfold sA at hu
 cases hu with
 | agg cs vs hlen hh =>
   have h4 : vs.size = 4 := by simpa using hlen.symm
   obtain ⟨p, q, r, s, rfl⟩ : ∃ p q r s, vs = #[p, q, r, s] := by
    cases vs with
    | mk l => match l, h4 with
      | [p, q, r, s], _ => exact ⟨p, q, r, s, rfl⟩
   have a0 := hh 0 _ p rfl rfl
   have a1 := hh 1 _ q rfl rfl
   have a2 := hh 2 _ r rfl rfl
   have a3 := hh 3 _ s rfl rfl
   cases a0 with | v _ _ a0 => ?_
   cases a0
   cases a1 with | v _ _ a1 => ?_
   cases a2 with | v _ _ a2 => ?_
   cases a2
   cases a3 with | v _ _ a3 => ?_
   refine (text_walk i x h h1 hl w q s (hG.mono hF (fun _ _ => rfl)) (a1.mono hF (fun _ _ => rfl)) (a3.mono hF (fun _ _ => rfl))).mono ?_
   rintro en w' ⟨rfl, hb⟩
   refine ⟨⟨hb.os, hb.tape, hb.output, hb.size, hb.block⟩, _, _, rfl, RepA.tup _ _ rfl ?_, rfl, rfl, rfl⟩
   intro j a y ha hy
   match j, ha, hy with
   | 0, ha, hy => cases ha; cases hy; exact .v _ _ (.str _)
   | 1, ha, hy => cases ha; cases hy; exact .v _ _ (.int _ _)
theorem y00x : ((0 : Int) == 0) = true := rfl
def ia : ITI := .node (.leaf true) (.leaf false)
def ib : ITI := .node (.leaf false) (.leaf true)
def xa : ITT := .node 0 (.leaf 1) (.leaf 0)
def xb : ITT := .node 0 (.leaf 0) (.leaf 1)
theorem g_seed : GoodS (.leaf true) (.leaf 0) := ⟨trivial, by simp [iDep], trivial, by simp [tDep], by simp [tMax]⟩
theorem g_ia0 : GoodS ia (.leaf 0) := ⟨by simp [ia, INm], by simp [ia, iDep], trivial, by simp [tDep], by simp [tMax]⟩
theorem g_ib0 : GoodS ib (.leaf 0) := ⟨by simp [ib, INm], by simp [ib, iDep], trivial, by simp [tDep], by simp [tMax]⟩
theorem g_ia : GoodS ia xa := ⟨by simp [ia, INm], by simp [ia, iDep], by simp [xa, TNm, tN], by simp [xa, tDep], by simp [xa, tMax]⟩
theorem g_ib : GoodS ib xb := ⟨by simp [ib, INm], by simp [ib, iDep], by simp [xb, TNm, tN], by simp [xb, tDep], by simp [xb, tMax]⟩
theorem g_c : GoodS (.leaf true) (.leaf 1) := ⟨trivial, by simp [iDep], trivial, by simp [tDep], by simp [tMax]⟩
theorem e_split : iSplit (.leaf true) = (ia, ib) := rfl
theorem e_sa : tStep ia (.leaf 0) = xa := by simp [tStep, tFill, tGrow, ia, xa, tL, tR, tLf, tN, tMax]
theorem e_sb : tStep ib (.leaf 0) = xb := by simp [tStep, tFill, tGrow, ib, xb, tL, tR, tLf, tN, tMax]
theorem e_sum : iSum ia ib = (.leaf true, true) := by simp [iSum, ia, ib, nId]
theorem e_mrg : tMrg (tSz xa + tSz xb) xa xb = .leaf 1 := by decide
theorem t_a : (⟨(txL ia xa).toArray⟩ : ByteArray) = ⟨#[40, 40, 49, 44, 48, 41, 59, 40, 48, 44, 49, 44, 48, 41, 41]⟩ := rfl
theorem t_c : (⟨(txL (.leaf true) (.leaf 1)).toArray⟩ : ByteArray) = ⟨#[40, 49, 59, 49, 41]⟩ := rfl
set_option maxHeartbeats 8000000 in
theorem awake17_spec (b l : List Row) : ACalls Tryd.prog 14 [] b l (fun r b' l' => r = .v (.bool true) ∧ b' = b ∧ l' = l) := by
 refine calls_kept a_awake17_ok rfl (by decide) ?_
 intro B g hB hR hE hA; simp only [KArgs] at hA
 have cs := fun b l => seed_spec b l
 have cf := fun b l => fork_spec g_seed (by simp) b l
 rw [e_split] at cf
 rw [if_pos (show iDep ia ≤ 16 ∧ iDep ib ≤ 16 from ⟨g_ia.di, g_ib.di⟩)] at cf
 have c1 := fun b l => step_spec g_ia0 (by simp [ia]) b l
 rw [e_sa] at c1
 have c2 := fun b l => step_spec g_ib0 (by simp [ib]) b l
 rw [e_sb] at c2
 have c3 := fun b l => join_spec g_ia g_ib (by rw [e_sum]) b l
 rw [e_sum, e_mrg] at c3
 have c4 := fun b l => text_spec g_ia (by simp [xa, tMax]) (by decide) b l
 have c5 := fun b l => text_spec g_c (by simp [tMax]) (by decide) b l
 rw [t_a] at c4
 rw [t_c] at c5
 obtain ⟨SA, hSA⟩ : ∃ s, s = ByteArray.mk #[40, 40, 49, 44, 48, 41, 59, 40, 48, 44, 49, 44, 48, 41, 41] := ⟨_, rfl⟩
 obtain ⟨SC, hSC⟩ : ∃ s, s = ByteArray.mk #[40, 49, 59, 49, 41] := ⟨_, rfl⟩
 rw [← hSA] at c4
 rw [← hSC] at c5
 have qa : (SA == SA) = true := by rw [hSA]; rfl
 have qc : (SC == SC) = true := by rw [hSC]; rfl
 have e0 : ((0 : Nat) : Int) = 0 := rfl
 have e1 : ((1 : Nat) : Int) = 1 := rfl
 simp only [sA, iLf_l, iLs, tN_l, tLs, bI_t, e0, e1] at cs cf c1 c2 c3 c4 c5
 have cut : a_awake17 = ⟨0, 74, a_awake17.res, a_awake17.body⟩ := rfl
 simp (disch := (first | decide | omega)) only [a_awake17, hA, setFrom, cellsOf, ← hSA, ← hSC, List.replicate_succ, List.replicate_zero, go_sem]
 refine ACalls.nxt (cs _ _) ?_
 simp (disch := (first | decide | omega)) only [hA, setFrom, cellsOf, List.replicate_succ, List.replicate_zero, go_sem]
 refine ACalls.nxt (cf _ _) ?_
 simp (disch := (first | decide | omega)) only [hA, setFrom, cellsOf, List.replicate_succ, List.replicate_zero, go_sem]
 refine ACalls.nxt (c1 _ _) ?_
 simp (disch := (first | decide | omega)) only [hA, setFrom, cellsOf, List.replicate_succ, List.replicate_zero, go_sem]
 refine ACalls.nxt (c2 _ _) ?_
 simp (disch := (first | decide | omega)) only [hA, setFrom, cellsOf, List.replicate_succ, List.replicate_zero, go_sem]
 refine ACalls.nxt (c3 _ _) ?_
 simp (disch := (first | decide | omega)) only [hA, setFrom, cellsOf, List.replicate_succ, List.replicate_zero, go_sem]
 refine ACalls.nxt (c4 _ _) ?_
 simp (disch := (first | decide | omega)) only [hA, setFrom, cellsOf, List.replicate_succ, List.replicate_zero, go_sem]
 refine ACalls.nxt (c5 _ _) ?_
 simp (disch := (first | decide | omega)) only [hA, setFrom, cellsOf, qa, qc, y00x, go_sem]
 exact leave_pure (xs := [.v (.bool true)]) (.inr rfl) (by simp (disch := (first | decide | omega)) only [resVs, resV, go_sem, hA]) kO hR hB ⟨rfl, rfl, rfl⟩
end Go.Proofs.YtnihdkfmmbpilaaDoor
