/- Texts of one proof, laid together: GK, GL. No condition. -/
import Derived.Test.YtnihdkfmmbpilaaDoorProg
import Derived.Shelf.Strings.Builder1
import Derived.Shelf.Strings.BuilderF
import Derived.Shelf.Strings.BuilderK
import Derived.KernelRfl
import Derived.WalkKit
namespace Go.Proofs.YtnihdkfmmbpilaaDoor
set_option linter.unusedVariables false
open Go.Shelf Go.Proofs Go.RowKit
def bl_ren : Go.Shelf.Ren := ⟨fun | 166 => 120 | 167 => 89 | 169 => 92 | 240 => 119 | 276 => 135 | n => n, fun | 0 => 0 | 3 => 3 | 4 => 4 | 5 => 5 | 9 => 9 | 20 => 20 | 37 => 156 | 70 => 155 | 72 => 158 | 75 => 160 | 80 => 164 | 127 => 193 | 164 => 209 | n => n, fun n => n⟩
theorem bl_lay166 : Lays.n166 Tryd.prog bl_ren := {
 mixed := by kernel_rfl
 f166 := Tryd.func120.trans (congrArg some (by kernel_rfl))
 f240 := Tryd.func119.trans (congrArg some (by kernel_rfl))
 f276 := Tryd.func135.trans (congrArg some (by kernel_rfl))
 t0 := Tryd.underlying0
 a0 := Tryd.isAgg0
 z0 := Tryd.sizeOf0
 v0 := Tryd.zeroValue0
 t3 := Tryd.underlying3
 a3 := Tryd.isAgg3
 z3 := Tryd.sizeOf3
 v3 := Tryd.zeroValue3
 t4 := Tryd.underlying4
 a4 := Tryd.isAgg4
 z4 := Tryd.sizeOf4
 v4 := Tryd.zeroValue4
 t9 := Tryd.underlying9
 a9 := Tryd.isAgg9
 z9 := Tryd.sizeOf9
 v9 := Tryd.zeroValue9
 t20 := Tryd.underlying20
 a20 := Tryd.isAgg20
 z20 := Tryd.sizeOf20
 v20 := Tryd.zeroValue20
 t37 := Tryd.underlying156
 a37 := Tryd.isAgg156
 z37 := Tryd.sizeOf156
 v37 := Tryd.zeroValue156
 t70 := Tryd.underlying155
 a70 := Tryd.isAgg155
 z70 := Tryd.sizeOf155
 v70 := Tryd.zeroValue155
 t72 := Tryd.underlying158
 a72 := Tryd.isAgg158
 z72 := Tryd.sizeOf158
 v72 := Tryd.zeroValue158
 t75 := Tryd.underlying160
 a75 := Tryd.isAgg160
 z75 := Tryd.sizeOf160
 v75 := Tryd.zeroValue160
 t164 := Tryd.underlying209
 a164 := Tryd.isAgg209
 z164 := Tryd.sizeOf209
 v164 := Tryd.zeroValue209 }
theorem bl_lay167 : Lays.n167 Tryd.prog bl_ren := {
 mixed := by kernel_rfl
 f167 := Tryd.func89.trans (congrArg some (by kernel_rfl))
 f240 := Tryd.func119.trans (congrArg some (by kernel_rfl))
 f276 := Tryd.func135.trans (congrArg some (by kernel_rfl))
 t0 := Tryd.underlying0
 a0 := Tryd.isAgg0
 z0 := Tryd.sizeOf0
 v0 := Tryd.zeroValue0
 t4 := Tryd.underlying4
 a4 := Tryd.isAgg4
 z4 := Tryd.sizeOf4
 v4 := Tryd.zeroValue4
 t5 := Tryd.underlying5
 a5 := Tryd.isAgg5
 z5 := Tryd.sizeOf5
 v5 := Tryd.zeroValue5
 t9 := Tryd.underlying9
 a9 := Tryd.isAgg9
 z9 := Tryd.sizeOf9
 v9 := Tryd.zeroValue9
 t20 := Tryd.underlying20
 a20 := Tryd.isAgg20
 z20 := Tryd.sizeOf20
 v20 := Tryd.zeroValue20
 t37 := Tryd.underlying156
 a37 := Tryd.isAgg156
 z37 := Tryd.sizeOf156
 v37 := Tryd.zeroValue156
 t70 := Tryd.underlying155
 a70 := Tryd.isAgg155
 z70 := Tryd.sizeOf155
 v70 := Tryd.zeroValue155
 t72 := Tryd.underlying158
 a72 := Tryd.isAgg158
 z72 := Tryd.sizeOf158
 v72 := Tryd.zeroValue158
 t75 := Tryd.underlying160
 a75 := Tryd.isAgg160
 z75 := Tryd.sizeOf160
 v75 := Tryd.zeroValue160
 t164 := Tryd.underlying209
 a164 := Tryd.isAgg209
 z164 := Tryd.sizeOf209
 v164 := Tryd.zeroValue209 }
theorem bl_lay169 : Lays.n169 Tryd.prog bl_ren := {
 mixed := by kernel_rfl
 f169 := Tryd.func92.trans (congrArg some (by kernel_rfl))
 t0 := Tryd.underlying0
 a0 := Tryd.isAgg0
 z0 := Tryd.sizeOf0
 v0 := Tryd.zeroValue0
 t3 := Tryd.underlying3
 a3 := Tryd.isAgg3
 z3 := Tryd.sizeOf3
 v3 := Tryd.zeroValue3
 t9 := Tryd.underlying9
 a9 := Tryd.isAgg9
 z9 := Tryd.sizeOf9
 v9 := Tryd.zeroValue9
 t37 := Tryd.underlying156
 a37 := Tryd.isAgg156
 z37 := Tryd.sizeOf156
 v37 := Tryd.zeroValue156
 t70 := Tryd.underlying155
 a70 := Tryd.isAgg155
 z70 := Tryd.sizeOf155
 v70 := Tryd.zeroValue155
 t72 := Tryd.underlying158
 a72 := Tryd.isAgg158
 z72 := Tryd.sizeOf158
 v72 := Tryd.zeroValue158
 t127 := Tryd.underlying193
 a127 := Tryd.isAgg193
 z127 := Tryd.sizeOf193
 v127 := Tryd.zeroValue193 }
theorem bl_ex : Builder.Extra Tryd.prog bl_ren where
 sizeBuilder := by kernel_rfl
 liesBuilder := by kernel_rfl
 t5 := Tryd.underlying5
 a5 := Tryd.isAgg5
 z5 := Tryd.sizeOf5
 v5 := Tryd.zeroValue5
 infoByte := by kernel_rfl
 cellsByte := by kernel_rfl
 sizeByte := by kernel_rfl
 neB5 := by decide
theorem bwb (B b : Nat) (bs : List Value) (c : Int) (w : World) (h : Lib.IsBuilderF 158 5 B b bs w) (hlen : bs.length + 1 ≤ 140737488355328) (hBw : B ≤ w.heap.size) :
  Calls Tryd.prog 89 #[.pointer (some ⟨b, 0, none⟩), .int .u8 c] w fun e w' => e = .returned .nilIface ∧ (Lib.BuilderAtF 158 5 B b (.pointer (some ⟨b, 0, none⟩)) (bs ++ [.int .u8 c]) w' ∧ Below B w w' ∧ Lib.OthersKept 5 (some b) w w') := Any.Builder_WriteByte_k bl_lay167 bl_ex B b bs c w h hlen hBw
theorem bws (B b : Nat) (bs : List Value) (s : ByteArray) (w : World) (h : Lib.IsBuilderF 158 5 B b bs w) (hlen : bs.length + s.size ≤ 140737488355328) (hBw : B ≤ w.heap.size) :
  Calls Tryd.prog 120 #[.pointer (some ⟨b, 0, none⟩), .string s] w fun e w' => e = .returned (.tuple #[.int .i64 s.size, .nilIface]) ∧ (Lib.BuilderAtF 158 5 B b (.pointer (some ⟨b, 0, none⟩)) (bs ++ Lib.strCells s) w' ∧ Below B w w' ∧ Lib.OthersKept 5 (some b) w w') := Any.Builder_WriteString_k bl_lay166 bl_ex B b bs s w h hlen hBw
theorem bst (B b : Nat) (l : List UInt8) (w : World) (h : Lib.IsBuilderF 158 5 B b (Lib.byteCells l) w) (hBw : B ≤ w.heap.size) :
  Calls Tryd.prog 92 #[.pointer (some ⟨b, 0, none⟩)] w fun e w' => e = .returned (.string ⟨l.toArray⟩) ∧ (Lib.IsBuilderF 158 5 B b (Lib.byteCells l) w' ∧ Below B w w' ∧ Lib.OthersKept 5 (some b) w w') := Any.Builder_String_any_k bl_lay169 bl_ex B b l w h hBw
end Go.Proofs.YtnihdkfmmbpilaaDoor
namespace Go.Proofs.YtnihdkfmmbpilaaDoor
set_option linter.unusedVariables false
open Go.RowKit Go.Extern.Stop Go.Stop Go.Extern
def dig (n : Nat) : ByteArray := ⟨#[if n = 0 then 48 else 49]⟩
theorem small01 (n : Nat) (hn : n ≤ 1) (w : World) : Calls Tryd.prog 155 #[.int .i64 n] w fun e w' => e = .returned (.string (dig n)) ∧ w' = w := by
 obtain rfl | rfl : n = 0 ∨ n = 1 := by omega
 ·go_enter Tryd.func155, Tryd.ntmps155
  go_wp2
  go_ret
  exact ⟨rfl, rfl⟩
 ·go_enter Tryd.func155, Tryd.ntmps155
  go_wp2
  go_ret
  exact ⟨rfl, rfl⟩
theorem format01 (n : Nat) (hn : n ≤ 1) (w : World) : Calls Tryd.prog 149 #[.int .i64 n, .int .i64 10] w fun e w' => e = .returned (.string (dig n)) ∧ w' = w := by
 have S := small01 n hn w
 obtain rfl | rfl : n = 0 ∨ n = 1 := by omega
 ·go_enter Tryd.func149, Tryd.ntmps149
  go_wp2_with (go_at_call 155; refine S.mono ?_; rintro e w' ⟨rfl, rfl⟩)
  go_ret
  exact ⟨rfl, rfl⟩
 ·go_enter Tryd.func149, Tryd.ntmps149
  go_wp2_with (go_at_call 155; refine S.mono ?_; rintro e w' ⟨rfl, rfl⟩)
  go_ret
  exact ⟨rfl, rfl⟩
theorem iitoa01 (n : Nat) (hn : n ≤ 1) (w : World) : Calls Tryd.prog 136 #[.int .i64 n] w fun e w' => e = .returned (.string (dig n)) ∧ w' = w := by
 have S := format01 n hn w
 go_enter Tryd.func136, Tryd.ntmps136
 go_wp2_with (go_at_call 149; refine S.mono ?_; rintro e w' ⟨rfl, rfl⟩)
 go_ret
 exact ⟨rfl, rfl⟩
theorem itoa01 (n : Nat) (hn : n ≤ 1) (w : World) : Calls Tryd.prog 121 #[.int .i64 n] w fun e w' => e = .returned (.string (dig n)) ∧ w' = w := by
 have S := iitoa01 n hn w
 go_enter Tryd.func121, Tryd.ntmps121
 go_wp2_with (go_at_call 136; refine S.mono ?_; rintro e w' ⟨rfl, rfl⟩)
 go_ret
 exact ⟨rfl, rfl⟩
end Go.Proofs.YtnihdkfmmbpilaaDoor
