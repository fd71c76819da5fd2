/- The walk of 'awake': it answers true. No condition. -/
import Derived.Test.YtenlagddfgociaaCZ
import Derived.Lib.SlBytesConst
namespace Go.Proofs.Ytenlagddfgociaa
open Go.RowKit
set_option linter.unusedVariables false

theorem madeAt {α : Type} {enc : α → Value} (e : TypeId) (w : World) {cs : Array Value} {n g : Nat} (xs : List α) (hg : g = w.heap.size) (hn : n = xs.length) (hm : n ≤ maxLen) (hc : cs = (xs.map enc).toArray) :
    Sl enc (w.alloc (.cells cs e)) (.slice (some ⟨g, 0, none⟩) n n) xs := by
  subst hg
  exact Sl.made e w xs hn hm hc
theorem madeAtF {α : Type} {enc : α → Value} (e : TypeId) (w : World) (fr : Nat × Nat) {cs : Array Value} {n g : Nat} (xs : List α) (hg : g = w.heap.size) (hn : n = xs.length) (hm : n ≤ maxLen) (hc : cs = (xs.map enc).toArray) :
    Sl enc (w.alloc (.cells cs e fr)) (.slice (some ⟨g, 0, none⟩) n n) xs := by
  subst hg
  refine Sl.mk hn (Nat.le_refl _) hm (fun _ => ⟨_, 0, rfl, fun j hj => ?_⟩)
  have h0 : (w.alloc (.cells cs e fr)).heap[w.heap.size]? = some (.cells cs e fr) := heap_alloc_new w _
  unfold World.cell?
  rw [h0]
  subst hc
  simp [List.getElem?_eq_getElem hj]
theorem conv_const {P : Program} (w : World) (g : Nat) (t e : TypeId) (C : Array Value) (n c : Nat) (ht : P.underlying t = some (.slice e)) (he : P.underlying e = some (.int .u8)) (hg : g = w.heap.size) :
    (convert t t (.slice (some ⟨g, 0, none⟩) n c)).run P (w.alloc (.cells C e)) = .ok (.slice (some ⟨g, 0, none⟩) n c) (w.alloc (.cells C e (C.size, C.size + 1))) := by
  subst hg
  exact Lib.run_convert_bytes_const w t e C n c ht he
theorem put_m64 : putL (-64) = [127] := by decide +kernel
theorem put_64 : putL 64 = [128, 1] := by decide +kernel
theorem get_3 : getL [128, 1, 5] = (64, 2, 0) := by decide +kernel
theorem crc_nil : crc [] = 65535 := by decide +kernel
theorem crc_9 : crc [49, 50, 51, 52, 53, 54, 55, 56, 57] = 10673 := by decide +kernel

set_option maxRecDepth 100000 in
set_option maxHeartbeats 4000000 in
theorem awake_any (w : World) : Calls Try.prog 9 #[] w fun e w' => e = .returned (.bool true) ∧ Ext w w' := by
  have kc := fun (w : World) (g : Nat) (C : Array Value) (n c : Nat) (hg : g = w.heap.size) => conv_const (P := Try.prog) w g 22 5 C n c Try.underlying22 Try.underlying5 hg
  have P1 := hide (fun w => Put_near (-64) w (by decide))
  have P2 := hide (fun w => Put_near 64 w (by decide))
  have S0 := hide (fun w => sum_any (.slice none 0 0) [] w (by simp) (Sl.nil _ _))
  go_enter Try.func9, Try.ntmps9
  go_wp2_with fail
  refine (P1.out _).mono ?_
  rintro e w1 ⟨v1, rfl, hown1, he1⟩
  rw [put_m64] at hown1
  go_wp2_with fail
  refine (P2.out _).mono ?_
  rintro e w2 ⟨v2, rfl, hown2, he2⟩
  rw [put_64] at hown2
  go_wp2_with fail
  refine (get_any _ [128, 1, 5] _ (by simp) (Sl.made _ _ [128, 1, 5] rfl (by simp [maxLen]) rfl)).mono ?_
  rintro e w3 ⟨rfl, rfl⟩
  rw [get_3]
  go_wp2_with fail
  refine (equal_any _ _ [127] [127] _ (hown1.sl.ext ((he2.alloc _).alloc _)) (madeAt _ _ [127] (by simp) rfl (by simp [maxLen]) rfl)).mono ?_
  rintro e w3 ⟨rfl, rfl⟩
  rw [show (([127] : List UInt8) == [127]) = true from rfl]
  go_wp2_with fail
  refine (equal_any _ _ [128, 1] [128, 1] _ (hown2.sl.ext ((((Ext.refl _).alloc _).alloc _).alloc _)) (madeAt _ _ [128, 1] (by simp) rfl (by simp [maxLen]) rfl)).mono ?_
  rintro e w3 ⟨rfl, rfl⟩
  rw [show (([128, 1] : List UInt8) == [128, 1]) = true from rfl]
  go_wp2_with fail
  refine (S0.out _).mono ?_
  rintro e w3 ⟨rfl, rfl⟩
  rw [crc_nil]
  go_wp2_with fail
  refine (sum_any _ [49, 50, 51, 52, 53, 54, 55, 56, 57] _ (by simp) (madeAtF _ _ _ [49, 50, 51, 52, 53, 54, 55, 56, 57] (by simp) rfl (by simp [maxLen]) rfl)).mono ?_
  rintro e w3 ⟨rfl, rfl⟩
  rw [crc_9]
  go_wp2_with fail
  go_ret
  refine ⟨rfl, he1.trans (he2.trans ?_)⟩
  exact (((((Ext.refl _).alloc _).alloc _).alloc _).alloc _)
end Go.Proofs.Ytenlagddfgociaa
