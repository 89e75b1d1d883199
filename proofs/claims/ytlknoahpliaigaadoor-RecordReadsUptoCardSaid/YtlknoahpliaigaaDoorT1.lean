/-
 The program functions of this seat in the shadow machine form: printed by shc.py, checked by the kernel.
-/
import Derived.Test.YtlknoahpliaigaaDoorShY
import Derived.Test.YtlknoahpliaigaaDoorProg
import Derived.KernelRfl
namespace Go.Sh.F
def sf4 : SF := ⟨(.seq (.reg [⟨some 2, .give, [.lit (.bool false)], none⟩])
 (.seq (.reg [⟨some 8, .call 10, [], none⟩,⟨some 3, .give, [.slot 8], none⟩])
 (.seq (.seq (.reg [⟨some 9, .mv, [.slot 0], none⟩,⟨some 10, .lenS, [.slot 0], none⟩,⟨some 11, .bin .gtr, [.slot 10, .lit (.int .i64 6000)], none⟩])
 (.cond (.slot 11) (.seq (.reg [⟨some 12, .mv, [.slot 3], none⟩,⟨some 2, .give, [.slot 3], none⟩])
 (.ret))
 (.skip)))
 (.seq (.reg [⟨some 14, .mv, [.slot 0], none⟩,⟨some 15, .call 22, [.slot 0], none⟩,⟨some 13, .mv, [.slot 15], none⟩,⟨some 16, .ext 0, [.slot 15], none⟩,⟨some 17, .ext 1, [.slot 15], none⟩,⟨some 4, .alloc [.int .i64 0, .int .i64 0, .int .i64 0, .int .i64 0, .int .i64 0, .int .i64 0, .int .i64 0, .nilS], [], none⟩,⟨none, .store 8 true, [.slot 4, .slot 16], none⟩,⟨some 5, .give, [.slot 17], none⟩])
 (.seq (.reg [⟨some 19, .mv, [.slot 0], none⟩,⟨some 20, .call 23, [.slot 0], none⟩,⟨some 18, .mv, [.slot 20], none⟩,⟨some 21, .ext 0, [.slot 20], none⟩,⟨some 22, .ext 1, [.slot 20], none⟩,⟨some 6, .alloc [.int .i64 0, .int .i64 0, .int .i64 0, .int .i64 0, .int .i64 0, .int .i64 0, .int .i64 0, .nilS], [], none⟩,⟨none, .store 8 true, [.slot 6, .slot 21], none⟩,⟨some 7, .give, [.slot 22], none⟩])
 (.seq (.reg [⟨some 23, .mv, [.slot 3], none⟩,⟨some 24, .mv, [.slot 3], none⟩,⟨some 25, .load 8 true, [.slot 4], some (24, true)⟩,⟨some 26, .load 8 true, [.slot 6], some (24, true)⟩,⟨some 27, .call 13, [.slot 25, .slot 26], some (24, true)⟩,⟨some 28, .pick, [.slot 3, .slot 27, .lit (.bool false)], none⟩,⟨some 29, .mv, [.slot 28], none⟩,⟨some 30, .take, [.slot 5], some (29, true)⟩,⟨some 31, .take, [.slot 7], some (29, true)⟩,⟨some 32, .bin .eql, [.slot 30, .slot 31], some (29, true)⟩,⟨some 33, .pick, [.slot 28, .slot 32, .lit (.bool false)], none⟩,⟨some 2, .give, [.slot 33], none⟩])
 (.ret))))))),
 34, [.tmp 2]⟩
theorem c4 : cFunc Proofs.Tryd.prog 4 = some sf4 := by kernel_rfl
def sf10 : SF := ⟨(.seq (.reg [⟨some 0, .give, [.lit (.bool false)], none⟩])
 (.seq (.reg [⟨some 12, .call 26, [], none⟩,⟨some 1, .alloc [.int .i64 0, .int .i64 0, .int .i64 0, .int .i64 0, .int .i64 0, .int .i64 0, .int .i64 0, .nilS], [], none⟩,⟨none, .store 8 true, [.slot 1, .slot 12], none⟩])
 (.seq (.reg [⟨some 13, .load 8 true, [.slot 1], none⟩,⟨some 14, .call 20, [.slot 13], none⟩,⟨some 2, .give, [.slot 14], none⟩])
 (.seq (.reg [⟨some 16, .mv, [.slot 2], none⟩,⟨some 17, .call 22, [.slot 2], none⟩,⟨some 15, .mv, [.slot 17], none⟩,⟨some 18, .ext 0, [.slot 17], none⟩,⟨some 19, .ext 1, [.slot 17], none⟩,⟨some 3, .alloc [.int .i64 0, .int .i64 0, .int .i64 0, .int .i64 0, .int .i64 0, .int .i64 0, .int .i64 0, .nilS], [], none⟩,⟨none, .store 8 true, [.slot 3, .slot 18], none⟩,⟨some 4, .give, [.slot 19], none⟩])
 (.seq (.reg [⟨some 21, .mv, [.slot 2], none⟩,⟨some 22, .bin .add, [.slot 2, .lit (.str [0])], none⟩,⟨some 23, .call 22, [.slot 22], none⟩,⟨some 20, .mv, [.slot 23], none⟩,⟨some 24, .ext 0, [.slot 23], none⟩,⟨some 25, .ext 1, [.slot 23], none⟩,⟨some 5, .alloc [.int .i64 0, .int .i64 0, .int .i64 0, .int .i64 0, .int .i64 0, .int .i64 0, .int .i64 0, .nilS], [], none⟩,⟨none, .store 8 true, [.slot 5, .slot 24], none⟩,⟨some 6, .give, [.slot 25], none⟩])
 (.seq (.reg [⟨some 27, .mv, [.slot 2], none⟩,⟨some 28, .mv, [.slot 2], none⟩,⟨some 29, .lenS, [.slot 2], none⟩,⟨some 30, .bin .and, [.slot 29, .lit (.int .i64 63)], none⟩,⟨some 31, .slcS false true, [.slot 2, .slot 30], none⟩,⟨some 32, .call 22, [.slot 31], none⟩,⟨some 26, .mv, [.slot 32], none⟩,⟨some 33, .ext 0, [.slot 32], none⟩,⟨some 34, .ext 1, [.slot 32], none⟩,⟨some 7, .alloc [.int .i64 0, .int .i64 0, .int .i64 0, .int .i64 0, .int .i64 0, .int .i64 0, .int .i64 0, .nilS], [], none⟩,⟨none, .store 8 true, [.slot 7, .slot 33], none⟩,⟨some 8, .give, [.slot 34], none⟩])
 (.seq (.reg [⟨some 35, .load 8 true, [.slot 1], none⟩,⟨some 36, .call 12, [.slot 35], none⟩,⟨some 9, .alloc [.int .i64 0, .int .i64 0, .int .i64 0, .int .i64 0, .int .i64 0, .int .i64 0, .int .i64 0, .nilS], [], none⟩,⟨none, .store 8 true, [.slot 9, .slot 36], none⟩])
 (.seq (.reg [⟨some 37, .load 8 true, [.slot 1], none⟩,⟨some 38, .call 16, [.slot 37], none⟩,⟨some 10, .give, [.slot 38], none⟩])
 (.seq (.reg [⟨some 39, .call 26, [], none⟩,⟨some 11, .alloc [.int .i64 0, .int .i64 0, .int .i64 0, .int .i64 0, .int .i64 0, .int .i64 0, .int .i64 0, .nilS], [], none⟩,⟨none, .store 8 true, [.slot 11, .slot 39], none⟩])
 (.seq (.reg [⟨some 40, .fld 7, [.slot 11], none⟩,⟨some 41, .load 1 false, [.slot 40], none⟩,⟨some 42, .idxB 7, [.slot 41, .lit (.int .i64 0)], none⟩,⟨some 43, .fld 2, [.slot 42], none⟩,⟨none, .store 1 false, [.slot 43, .lit (.int .i64 64)], none⟩])
 (.seq (.reg [⟨some 44, .load 8 true, [.slot 1], none⟩,⟨some 45, .call 18, [.slot 44], none⟩,⟨some 46, .mv, [.slot 45], none⟩,⟨some 47, .take, [.slot 4], some (46, true)⟩,⟨some 48, .bin .eql, [.slot 47, .lit (.int .i64 0)], some (46, true)⟩,⟨some 49, .pick, [.slot 45, .slot 48, .lit (.bool false)], none⟩,⟨some 50, .mv, [.slot 49], none⟩,⟨some 51, .load 8 true, [.slot 3], some (50, true)⟩,⟨some 52, .load 8 true, [.slot 1], some (50, true)⟩,⟨some 53, .call 14, [.slot 51, .slot 52], some (50, true)⟩,⟨some 54, .pick, [.slot 49, .slot 53, .lit (.bool false)], none⟩,⟨some 55, .mv, [.slot 54], none⟩,⟨some 56, .take, [.slot 6], some (55, true)⟩,⟨some 57, .bin .eql, [.slot 56, .lit (.int .i64 4)], some (55, true)⟩,⟨some 58, .pick, [.slot 54, .slot 57, .lit (.bool false)], none⟩,⟨some 59, .mv, [.slot 58], none⟩,⟨some 60, .take, [.slot 8], some (59, true)⟩,⟨some 61, .bin .eql, [.slot 60, .lit (.int .i64 4)], some (59, true)⟩,⟨some 62, .pick, [.slot 58, .slot 61, .lit (.bool false)], none⟩,⟨some 63, .mv, [.slot 62], none⟩,⟨some 64, .load 8 true, [.slot 9], some (63, true)⟩,⟨some 65, .load 8 true, [.slot 1], some (63, true)⟩,⟨some 66, .call 14, [.slot 64, .slot 65], some (63, true)⟩,⟨some 67, .pick, [.slot 62, .slot 66, .lit (.bool false)], none⟩,⟨some 68, .mv, [.slot 67], none⟩,⟨some 69, .take, [.slot 10], some (68, true)⟩,⟨some 70, .lenL, [.slot 69], some (68, true)⟩,⟨some 71, .bin .eql, [.slot 70, .lit (.int .i64 2)], some (68, true)⟩,⟨some 72, .pick, [.slot 67, .slot 71, .lit (.bool false)], none⟩,⟨some 73, .mv, [.slot 72], none⟩,⟨some 74, .take, [.slot 10], some (73, true)⟩,⟨some 75, .idxB 1, [.slot 74, .lit (.int .i64 1)], some (73, true)⟩,⟨some 76, .load 1 false, [.slot 75], some (73, true)⟩,⟨some 77, .bin .eql, [.slot 76, .lit (.int .i64 9)], some (73, true)⟩,⟨some 78, .pick, [.slot 72, .slot 77, .lit (.bool false)], none⟩,⟨some 79, .mv, [.slot 78], none⟩,⟨some 80, .load 8 true, [.slot 11], some (79, true)⟩,⟨some 81, .call 18, [.slot 80], some (79, true)⟩,⟨some 82, .un .not, [.slot 81], some (79, true)⟩,⟨some 83, .pick, [.slot 78, .slot 82, .lit (.bool false)], none⟩,⟨some 84, .mv, [.slot 83], none⟩,⟨some 85, .bld [.int .i64 0, .int .i64 0, .int .i64 0, .int .i64 0, .int .i64 0, .int .i64 0, .int .i64 0, .nilS] [], [], some (84, true)⟩,⟨some 86, .call 18, [.slot 85], some (84, true)⟩,⟨some 87, .un .not, [.slot 86], some (84, true)⟩,⟨some 88, .pick, [.slot 83, .slot 87, .lit (.bool false)], none⟩,⟨some 89, .mv, [.slot 88], none⟩,⟨some 90, .load 8 true, [.slot 1], some (89, true)⟩,⟨some 91, .load 8 true, [.slot 11], some (89, true)⟩,⟨some 92, .call 14, [.slot 90, .slot 91], some (89, true)⟩,⟨some 93, .un .not, [.slot 92], some (89, true)⟩,⟨some 94, .pick, [.slot 88, .slot 93, .lit (.bool false)], none⟩,⟨some 95, .mv, [.slot 94], none⟩,⟨some 96, .bld [.int .i64 0, .int .i64 0, .int .i64 0, .int .i64 0, .int .i64 0, .int .i64 0, .int .i64 0, .nilS] [(0, 1), (1, 1)], [.lit (.int .i64 1), .lit (.int .i64 2)], some (95, true)⟩,⟨some 97, .call 20, [.slot 96], some (95, true)⟩,⟨some 98, .lenS, [.slot 97], some (95, true)⟩,⟨some 99, .bin .eql, [.slot 98, .lit (.int .i64 32)], some (95, true)⟩,⟨some 100, .pick, [.slot 94, .slot 99, .lit (.bool false)], none⟩,⟨some 0, .give, [.slot 100], none⟩])
 (.ret)))))))))))),
 101, [.tmp 0]⟩
theorem c10 : cFunc Proofs.Tryd.prog 10 = some sf10 := by kernel_rfl
def sf12 : SF := ⟨(.seq (.reg [⟨some 1, .box, [.slot 0], none⟩,⟨some 2, .alloc [.int .i64 0, .int .i64 0, .int .i64 0, .int .i64 0, .int .i64 0, .int .i64 0, .int .i64 0, .nilS], [], none⟩])
 (.seq (.reg [⟨some 5, .fld 7, [.slot 1], none⟩,⟨some 6, .load 1 false, [.slot 5], none⟩,⟨some 7, .call 27, [.slot 6], none⟩,⟨some 8, .fld 7, [.slot 1], none⟩,⟨none, .storeO, [.slot 8, .slot 7], none⟩])
 (.seq (.seq (.reg [⟨some 9, .fld 7, [.slot 1], none⟩,⟨some 10, .load 1 false, [.slot 9], none⟩,⟨some 11, .lenL, [.slot 10], none⟩,⟨some 12, .mv, [.lit (.int .i64 0)], none⟩])
 (.block 0 (.loop (.seq (.reg [⟨some 13, .bin .lss, [.slot 12, .slot 11], none⟩])
 (.seq (.cond (.slot 13) (.skip)
 (.exit 0))
 (.seq (.block 1 (.seq (.reg [⟨some 14, .mv, [.slot 12], none⟩,⟨some 15, .idxB 7, [.slot 10, .slot 12], none⟩,⟨some 16, .load 7 true, [.slot 15], none⟩,⟨some 4, .alloc [.str [], .bool false, .int .i64 0, .nilS, .int .i64 0, .int .i64 0, .int .i64 0], [], none⟩,⟨some 3, .take, [.slot 12], none⟩,⟨none, .store 7 true, [.slot 4, .slot 16], none⟩])
 (.seq (.reg [⟨some 17, .fld 7, [.slot 1], none⟩,⟨some 19, .mv, [.slot 3], none⟩,⟨some 20, .fld 3, [.slot 4], none⟩,⟨some 21, .load 1 false, [.slot 20], none⟩])
 (.both (.reg [⟨some 18, .load 1 false, [.slot 17], none⟩,⟨some 22, .call 28, [.slot 21], none⟩,⟨some 23, .idxA 7, [.slot 18, .slot 3], none⟩,⟨some 24, .fld 3, [.slot 23], none⟩,⟨none, .storeO, [.slot 24, .slot 22], none⟩])
 (.both (.reg [⟨some 22, .call 28, [.slot 21], none⟩,⟨some 18, .load 1 false, [.slot 17], none⟩,⟨some 23, .idxA 7, [.slot 18, .slot 3], none⟩,⟨some 24, .fld 3, [.slot 23], none⟩,⟨none, .storeO, [.slot 24, .slot 22], none⟩])
 (.tt))))))
 (.reg [⟨some 25, .bin .add, [.slot 12, .lit (.int .i64 1)], none⟩,⟨some 12, .mv, [.slot 25], none⟩])))))))
 (.seq (.reg [⟨some 26, .load 8 true, [.slot 1], none⟩,⟨none, .store 8 true, [.slot 2, .slot 26], none⟩])
 (.ret))))),
 27, [.cell 2 8 true]⟩
theorem c12 : cFunc Proofs.Tryd.prog 12 = some sf12 := by kernel_rfl
def sf13 : SF := ⟨(.seq (.reg [⟨some 2, .box, [.slot 0], none⟩,⟨some 3, .box, [.slot 1], none⟩,⟨some 4, .give, [.lit (.bool false)], none⟩])
 (.seq (.seq (.reg [⟨some 8, .fld 0, [.slot 2], none⟩,⟨some 9, .load 1 false, [.slot 8], none⟩,⟨some 10, .fld 0, [.slot 3], none⟩,⟨some 11, .load 1 false, [.slot 10], none⟩,⟨some 12, .bin .neq, [.slot 9, .slot 11], none⟩,⟨some 13, .mv, [.slot 12], none⟩,⟨some 14, .fld 1, [.slot 2], some (13, false)⟩,⟨some 15, .load 1 false, [.slot 14], some (13, false)⟩,⟨some 16, .fld 1, [.slot 3], some (13, false)⟩,⟨some 17, .load 1 false, [.slot 16], some (13, false)⟩,⟨some 18, .bin .neq, [.slot 15, .slot 17], some (13, false)⟩,⟨some 19, .pick, [.slot 12, .lit (.bool true), .slot 18], none⟩,⟨some 20, .mv, [.slot 19], none⟩,⟨some 21, .fld 2, [.slot 2], some (20, false)⟩,⟨some 22, .load 1 false, [.slot 21], some (20, false)⟩,⟨some 23, .fld 2, [.slot 3], some (20, false)⟩,⟨some 24, .load 1 false, [.slot 23], some (20, false)⟩,⟨some 25, .bin .neq, [.slot 22, .slot 24], some (20, false)⟩,⟨some 26, .pick, [.slot 19, .lit (.bool true), .slot 25], none⟩,⟨some 27, .mv, [.slot 26], none⟩,⟨some 28, .fld 3, [.slot 2], some (27, false)⟩,⟨some 29, .load 1 false, [.slot 28], some (27, false)⟩,⟨some 30, .fld 3, [.slot 3], some (27, false)⟩,⟨some 31, .load 1 false, [.slot 30], some (27, false)⟩,⟨some 32, .bin .neq, [.slot 29, .slot 31], some (27, false)⟩,⟨some 33, .pick, [.slot 26, .lit (.bool true), .slot 32], none⟩,⟨some 34, .mv, [.slot 33], none⟩,⟨some 35, .fld 4, [.slot 2], some (34, false)⟩,⟨some 36, .load 1 false, [.slot 35], some (34, false)⟩,⟨some 37, .fld 4, [.slot 3], some (34, false)⟩,⟨some 38, .load 1 false, [.slot 37], some (34, false)⟩,⟨some 39, .bin .neq, [.slot 36, .slot 38], some (34, false)⟩,⟨some 40, .pick, [.slot 33, .lit (.bool true), .slot 39], none⟩,⟨some 41, .mv, [.slot 40], none⟩,⟨some 42, .fld 5, [.slot 2], some (41, false)⟩,⟨some 43, .load 1 false, [.slot 42], some (41, false)⟩,⟨some 44, .fld 5, [.slot 3], some (41, false)⟩,⟨some 45, .load 1 false, [.slot 44], some (41, false)⟩,⟨some 46, .bin .neq, [.slot 43, .slot 45], some (41, false)⟩,⟨some 47, .pick, [.slot 40, .lit (.bool true), .slot 46], none⟩,⟨some 48, .mv, [.slot 47], none⟩,⟨some 49, .fld 6, [.slot 2], some (48, false)⟩,⟨some 50, .load 1 false, [.slot 49], some (48, false)⟩,⟨some 51, .fld 6, [.slot 3], some (48, false)⟩,⟨some 52, .load 1 false, [.slot 51], some (48, false)⟩,⟨some 53, .bin .neq, [.slot 50, .slot 52], some (48, false)⟩,⟨some 54, .pick, [.slot 47, .lit (.bool true), .slot 53], none⟩,⟨some 55, .mv, [.slot 54], none⟩,⟨some 56, .fld 7, [.slot 2], some (55, false)⟩,⟨some 57, .load 1 false, [.slot 56], some (55, false)⟩,⟨some 58, .lenL, [.slot 57], some (55, false)⟩,⟨some 59, .fld 7, [.slot 3], some (55, false)⟩,⟨some 60, .load 1 false, [.slot 59], some (55, false)⟩,⟨some 61, .lenL, [.slot 60], some (55, false)⟩,⟨some 62, .bin .neq, [.slot 58, .slot 61], some (55, false)⟩,⟨some 63, .pick, [.slot 54, .lit (.bool true), .slot 62], none⟩])
 (.cond (.slot 63) (.seq (.reg [⟨some 4, .give, [.lit (.bool false)], none⟩])
 (.ret))
 (.skip)))
 (.seq (.seq (.reg [⟨some 5, .take, [.lit (.int .i64 0)], none⟩])
 (.block 0 (.loop (.seq (.seq (.reg [⟨some 64, .mv, [.slot 5], none⟩,⟨some 65, .fld 7, [.slot 2], none⟩,⟨some 66, .load 1 false, [.slot 65], none⟩,⟨some 67, .lenL, [.slot 66], none⟩,⟨some 68, .bin .lss, [.slot 5, .slot 67], none⟩])
 (.cond (.slot 68) (.skip)
 (.exit 0)))
 (.seq (.block 1 (.seq (.reg [⟨some 71, .fld 7, [.slot 2], none⟩,⟨some 72, .load 1 false, [.slot 71], none⟩,⟨some 73, .mv, [.slot 5], none⟩,⟨some 74, .idxB 7, [.slot 72, .slot 5], none⟩,⟨some 75, .load 7 true, [.slot 74], none⟩,⟨some 6, .alloc [.str [], .bool false, .int .i64 0, .nilS, .int .i64 0, .int .i64 0, .int .i64 0], [], none⟩,⟨none, .store 7 true, [.slot 6, .slot 75], none⟩])
 (.seq (.reg [⟨some 76, .fld 7, [.slot 3], none⟩,⟨some 77, .load 1 false, [.slot 76], none⟩,⟨some 78, .mv, [.slot 5], none⟩,⟨some 79, .idxB 7, [.slot 77, .slot 5], none⟩,⟨some 80, .load 7 true, [.slot 79], none⟩,⟨some 7, .alloc [.str [], .bool false, .int .i64 0, .nilS, .int .i64 0, .int .i64 0, .int .i64 0], [], none⟩,⟨none, .store 7 true, [.slot 7, .slot 80], none⟩])
 (.seq (.reg [⟨some 81, .fld 0, [.slot 6], none⟩,⟨some 82, .load 1 false, [.slot 81], none⟩,⟨some 83, .fld 0, [.slot 7], none⟩,⟨some 84, .load 1 false, [.slot 83], none⟩,⟨some 85, .bin .neq, [.slot 82, .slot 84], none⟩,⟨some 86, .mv, [.slot 85], none⟩,⟨some 87, .fld 1, [.slot 6], some (86, false)⟩,⟨some 88, .load 1 false, [.slot 87], some (86, false)⟩,⟨some 89, .fld 1, [.slot 7], some (86, false)⟩,⟨some 90, .load 1 false, [.slot 89], some (86, false)⟩,⟨some 91, .eqB true, [.slot 88, .slot 90], some (86, false)⟩,⟨some 92, .pick, [.slot 85, .lit (.bool true), .slot 91], none⟩,⟨some 93, .mv, [.slot 92], none⟩,⟨some 94, .fld 2, [.slot 6], some (93, false)⟩,⟨some 95, .load 1 false, [.slot 94], some (93, false)⟩,⟨some 96, .fld 2, [.slot 7], some (93, false)⟩,⟨some 97, .load 1 false, [.slot 96], some (93, false)⟩,⟨some 98, .bin .neq, [.slot 95, .slot 97], some (93, false)⟩,⟨some 99, .pick, [.slot 92, .lit (.bool true), .slot 98], none⟩,⟨some 100, .mv, [.slot 99], none⟩,⟨some 101, .fld 4, [.slot 6], some (100, false)⟩,⟨some 102, .load 1 false, [.slot 101], some (100, false)⟩,⟨some 103, .fld 4, [.slot 7], some (100, false)⟩,⟨some 104, .load 1 false, [.slot 103], some (100, false)⟩,⟨some 105, .bin .neq, [.slot 102, .slot 104], some (100, false)⟩,⟨some 106, .pick, [.slot 99, .lit (.bool true), .slot 105], none⟩,⟨some 107, .mv, [.slot 106], none⟩,⟨some 108, .fld 5, [.slot 6], some (107, false)⟩,⟨some 109, .load 2 true, [.slot 108], some (107, false)⟩,⟨some 110, .fld 5, [.slot 7], some (107, false)⟩,⟨some 111, .load 2 true, [.slot 110], some (107, false)⟩,⟨some 112, .eqA true [.i, .i], [.slot 109, .slot 111], some (107, false)⟩,⟨some 113, .pick, [.slot 106, .lit (.bool true), .slot 112], none⟩,⟨some 114, .mv, [.slot 113], none⟩,⟨some 115, .fld 3, [.slot 6], some (114, false)⟩,⟨some 116, .load 1 false, [.slot 115], some (114, false)⟩,⟨some 117, .fld 3, [.slot 7], some (114, false)⟩,⟨some 118, .load 1 false, [.slot 117], some (114, false)⟩,⟨some 119, .call 15, [.slot 116, .slot 118], some (114, false)⟩,⟨some 120, .un .not, [.slot 119], some (114, false)⟩,⟨some 121, .pick, [.slot 113, .lit (.bool true), .slot 120], none⟩])
 (.cond (.slot 121) (.seq (.reg [⟨some 4, .give, [.lit (.bool false)], none⟩])
 (.ret))
 (.skip))))))
 (.reg [⟨some 69, .mv, [.slot 5], none⟩,⟨some 70, .bin .add, [.slot 5, .lit (.int .i64 1)], none⟩,⟨some 5, .give, [.slot 70], none⟩]))))))
 (.seq (.reg [⟨some 4, .give, [.lit (.bool true)], none⟩])
 (.ret))))),
 122, [.tmp 4]⟩
theorem c13 : cFunc Proofs.Tryd.prog 13 = some sf13 := by kernel_rfl
def sf14 : SF := ⟨(.seq (.reg [⟨some 2, .box, [.slot 0], none⟩,⟨some 3, .box, [.slot 1], none⟩,⟨some 4, .give, [.lit (.bool false)], none⟩])
 (.seq (.reg [⟨some 5, .take, [.lit (.fn 29 [] [])], none⟩])
 (.seq (.reg [⟨some 6, .fld 0, [.slot 2], none⟩,⟨some 7, .load 1 false, [.slot 6], none⟩,⟨some 8, .fld 0, [.slot 3], none⟩,⟨some 9, .load 1 false, [.slot 8], none⟩,⟨some 10, .bin .eql, [.slot 7, .slot 9], none⟩,⟨some 11, .mv, [.slot 10], none⟩,⟨some 12, .fld 1, [.slot 2], some (11, true)⟩,⟨some 13, .load 1 false, [.slot 12], some (11, true)⟩,⟨some 14, .fld 1, [.slot 3], some (11, true)⟩,⟨some 15, .load 1 false, [.slot 14], some (11, true)⟩,⟨some 16, .bin .eql, [.slot 13, .slot 15], some (11, true)⟩,⟨some 17, .pick, [.slot 10, .slot 16, .lit (.bool false)], none⟩,⟨some 18, .mv, [.slot 17], none⟩,⟨some 19, .fld 2, [.slot 2], some (18, true)⟩,⟨some 20, .load 1 false, [.slot 19], some (18, true)⟩,⟨some 21, .fld 2, [.slot 3], some (18, true)⟩,⟨some 22, .load 1 false, [.slot 21], some (18, true)⟩,⟨some 23, .bin .eql, [.slot 20, .slot 22], some (18, true)⟩,⟨some 24, .pick, [.slot 17, .slot 23, .lit (.bool false)], none⟩,⟨some 25, .mv, [.slot 24], none⟩,⟨some 26, .fld 3, [.slot 2], some (25, true)⟩,⟨some 27, .load 1 false, [.slot 26], some (25, true)⟩,⟨some 28, .fld 3, [.slot 3], some (25, true)⟩,⟨some 29, .load 1 false, [.slot 28], some (25, true)⟩,⟨some 30, .bin .eql, [.slot 27, .slot 29], some (25, true)⟩,⟨some 31, .pick, [.slot 24, .slot 30, .lit (.bool false)], none⟩,⟨some 32, .mv, [.slot 31], none⟩,⟨some 33, .fld 4, [.slot 2], some (32, true)⟩,⟨some 34, .load 1 false, [.slot 33], some (32, true)⟩,⟨some 35, .fld 4, [.slot 3], some (32, true)⟩,⟨some 36, .load 1 false, [.slot 35], some (32, true)⟩,⟨some 37, .bin .eql, [.slot 34, .slot 36], some (32, true)⟩,⟨some 38, .pick, [.slot 31, .slot 37, .lit (.bool false)], none⟩,⟨some 39, .mv, [.slot 38], none⟩,⟨some 40, .fld 5, [.slot 2], some (39, true)⟩,⟨some 41, .load 1 false, [.slot 40], some (39, true)⟩,⟨some 42, .fld 5, [.slot 3], some (39, true)⟩,⟨some 43, .load 1 false, [.slot 42], some (39, true)⟩,⟨some 44, .bin .eql, [.slot 41, .slot 43], some (39, true)⟩,⟨some 45, .pick, [.slot 38, .slot 44, .lit (.bool false)], none⟩,⟨some 46, .mv, [.slot 45], none⟩,⟨some 47, .fld 6, [.slot 2], some (46, true)⟩,⟨some 48, .load 1 false, [.slot 47], some (46, true)⟩,⟨some 49, .fld 6, [.slot 3], some (46, true)⟩,⟨some 50, .load 1 false, [.slot 49], some (46, true)⟩,⟨some 51, .bin .eql, [.slot 48, .slot 50], some (46, true)⟩,⟨some 52, .pick, [.slot 45, .slot 51, .lit (.bool false)], none⟩,⟨some 53, .mv, [.slot 52], none⟩,⟨some 54, .fld 7, [.slot 2], some (53, true)⟩,⟨some 55, .load 1 false, [.slot 54], some (53, true)⟩,⟨some 56, .fld 7, [.slot 3], some (53, true)⟩,⟨some 57, .load 1 false, [.slot 56], some (53, true)⟩,⟨some 58, .take, [.slot 5], some (53, true)⟩,⟨some 59, .call 31, [.slot 55, .slot 57, .slot 58], some (53, true)⟩,⟨some 60, .pick, [.slot 52, .slot 59, .lit (.bool false)], none⟩,⟨some 4, .give, [.slot 60], none⟩])
 (.ret)))),
 61, [.tmp 4]⟩
theorem c14 : cFunc Proofs.Tryd.prog 14 = some sf14 := by kernel_rfl
def sf15 : SF := ⟨(.seq (.reg [⟨some 4, .give, [.lit (.bool false)], none⟩])
 (.seq (.seq (.reg [⟨some 6, .mv, [.slot 0], none⟩,⟨some 7, .lenL, [.slot 0], none⟩,⟨some 8, .mv, [.slot 1], none⟩,⟨some 9, .lenL, [.slot 1], none⟩,⟨some 10, .bin .neq, [.slot 7, .slot 9], none⟩])
 (.cond (.slot 10) (.seq (.reg [⟨some 4, .give, [.lit (.bool false)], none⟩])
 (.ret))
 (.skip)))
 (.seq (.seq (.reg [⟨some 5, .take, [.lit (.int .i64 0)], none⟩])
 (.block 0 (.loop (.seq (.seq (.reg [⟨some 11, .mv, [.slot 5], none⟩,⟨some 12, .mv, [.slot 0], none⟩,⟨some 13, .lenL, [.slot 0], none⟩,⟨some 14, .bin .lss, [.slot 5, .slot 13], none⟩])
 (.cond (.slot 14) (.skip)
 (.exit 0)))
 (.seq (.block 1 (.seq (.reg [⟨some 17, .mv, [.slot 0], none⟩,⟨some 18, .mv, [.slot 5], none⟩,⟨some 19, .idxA 1, [.slot 0, .slot 5], none⟩,⟨some 20, .load 1 false, [.slot 19], none⟩,⟨some 21, .mv, [.slot 1], none⟩,⟨some 22, .mv, [.slot 5], none⟩,⟨some 23, .idxA 1, [.slot 1, .slot 5], none⟩,⟨some 24, .load 1 false, [.slot 23], none⟩,⟨some 25, .bin .neq, [.slot 20, .slot 24], none⟩])
 (.cond (.slot 25) (.seq (.reg [⟨some 4, .give, [.lit (.bool false)], none⟩])
 (.ret))
 (.skip))))
 (.reg [⟨some 15, .mv, [.slot 5], none⟩,⟨some 16, .bin .add, [.slot 5, .lit (.int .i64 1)], none⟩,⟨some 5, .give, [.slot 16], none⟩]))))))
 (.seq (.reg [⟨some 4, .give, [.lit (.bool true)], none⟩])
 (.ret))))),
 26, [.tmp 4]⟩
theorem c15 : cFunc Proofs.Tryd.prog 15 = some sf15 := by kernel_rfl
def sf16 : SF := ⟨(.seq (.reg [⟨some 1, .box, [.slot 0], none⟩,⟨some 2, .give, [.lit (.nilS)], none⟩])
 (.seq (.reg [⟨some 3, .take, [.lit (.nilS)], none⟩])
 (.seq (.seq (.reg [⟨some 6, .fld 7, [.slot 1], none⟩,⟨some 7, .load 1 false, [.slot 6], none⟩,⟨some 8, .lenL, [.slot 7], none⟩,⟨some 9, .mv, [.lit (.int .i64 0)], none⟩])
 (.block 0 (.loop (.seq (.reg [⟨some 10, .bin .lss, [.slot 9, .slot 8], none⟩])
 (.seq (.cond (.slot 10) (.skip)
 (.exit 0))
 (.seq (.block 1 (.seq (.reg [⟨some 11, .idxB 7, [.slot 7, .slot 9], none⟩,⟨some 12, .load 7 true, [.slot 11], none⟩,⟨some 5, .alloc [.str [], .bool false, .int .i64 0, .nilS, .int .i64 0, .int .i64 0, .int .i64 0], [], none⟩,⟨none, .store 7 true, [.slot 5, .slot 12], none⟩])
 (.reg [⟨some 13, .mv, [.slot 3], none⟩,⟨some 14, .fld 3, [.slot 5], none⟩,⟨some 15, .load 1 false, [.slot 14], none⟩,⟨some 16, .app 1 8 [.int .i64 0], [.slot 3, .slot 15], none⟩,⟨some 3, .give, [.slot 16], none⟩])))
 (.reg [⟨some 17, .bin .add, [.slot 9, .lit (.int .i64 1)], none⟩,⟨some 9, .mv, [.slot 17], none⟩])))))))
 (.seq (.reg [⟨some 18, .mv, [.slot 3], none⟩,⟨some 2, .give, [.slot 3], none⟩])
 (.ret))))),
 19, [.tmp 2]⟩
theorem c16 : cFunc Proofs.Tryd.prog 16 = some sf16 := by kernel_rfl
def sf18 : SF := ⟨(.seq (.reg [⟨some 1, .box, [.slot 0], none⟩,⟨some 2, .give, [.lit (.bool false)], none⟩])
 (.seq (.seq (.reg [⟨some 5, .fld 0, [.slot 1], none⟩,⟨some 6, .load 1 false, [.slot 5], none⟩,⟨some 7, .bsl 1 1 [.int .i64 0] [0], [.slot 6], none⟩,⟨some 8, .call 32, [.lit (.int .i64 1), .slot 7], none⟩,⟨some 9, .un .not, [.slot 8], none⟩,⟨some 10, .mv, [.slot 9], none⟩,⟨some 11, .fld 1, [.slot 1], some (10, false)⟩,⟨some 12, .load 1 false, [.slot 11], some (10, false)⟩,⟨some 13, .bin .sub, [.slot 12, .lit (.int .i64 1)], some (10, false)⟩,⟨some 14, .bsl 1 1 [.int .i64 0] [0], [.slot 13], some (10, false)⟩,⟨some 15, .call 32, [.lit (.int .i64 199), .slot 14], some (10, false)⟩,⟨some 16, .un .not, [.slot 15], some (10, false)⟩,⟨some 17, .pick, [.slot 9, .lit (.bool true), .slot 16], none⟩,⟨some 18, .mv, [.slot 17], none⟩,⟨some 19, .fld 2, [.slot 1], some (18, false)⟩,⟨some 20, .load 1 false, [.slot 19], some (18, false)⟩,⟨some 21, .fld 5, [.slot 1], some (18, false)⟩,⟨some 22, .load 1 false, [.slot 21], some (18, false)⟩,⟨some 23, .fld 6, [.slot 1], some (18, false)⟩,⟨some 24, .load 1 false, [.slot 23], some (18, false)⟩,⟨some 25, .bsl 1 3 [.int .i64 0] [0, 1, 2], [.slot 20, .slot 22, .slot 24], some (18, false)⟩,⟨some 26, .call 32, [.lit (.int .i64 4294967295), .slot 25], some (18, false)⟩,⟨some 27, .un .not, [.slot 26], some (18, false)⟩,⟨some 28, .pick, [.slot 17, .lit (.bool true), .slot 27], none⟩,⟨some 29, .mv, [.slot 28], none⟩,⟨some 30, .fld 3, [.slot 1], some (29, false)⟩,⟨some 31, .load 1 false, [.slot 30], some (29, false)⟩,⟨some 32, .fld 4, [.slot 1], some (29, false)⟩,⟨some 33, .load 1 false, [.slot 32], some (29, false)⟩,⟨some 34, .bsl 1 2 [.int .i64 0] [0, 1], [.slot 31, .slot 33], some (29, false)⟩,⟨some 35, .call 32, [.lit (.int .i64 100), .slot 34], some (29, false)⟩,⟨some 36, .un .not, [.slot 35], some (29, false)⟩,⟨some 37, .pick, [.slot 28, .lit (.bool true), .slot 36], none⟩,⟨some 38, .mv, [.slot 37], none⟩,⟨some 39, .fld 4, [.slot 1], some (38, false)⟩,⟨some 40, .load 1 false, [.slot 39], some (38, false)⟩,⟨some 41, .fld 3, [.slot 1], some (38, false)⟩,⟨some 42, .load 1 false, [.slot 41], some (38, false)⟩,⟨some 43, .bin .sub, [.slot 40, .slot 42], some (38, false)⟩,⟨some 44, .bsl 1 1 [.int .i64 0] [0], [.slot 43], some (38, false)⟩,⟨some 45, .call 32, [.lit (.int .i64 1), .slot 44], some (38, false)⟩,⟨some 46, .un .not, [.slot 45], some (38, false)⟩,⟨some 47, .pick, [.slot 37, .lit (.bool true), .slot 46], none⟩])
 (.cond (.slot 47) (.seq (.reg [⟨some 2, .give, [.lit (.bool false)], none⟩])
 (.ret))
 (.skip)))
 (.seq (.seq (.reg [⟨some 48, .fld 7, [.slot 1], none⟩,⟨some 49, .load 1 false, [.slot 48], none⟩,⟨some 50, .lenL, [.slot 49], none⟩,⟨some 51, .mv, [.lit (.int .i64 0)], none⟩])
 (.block 0 (.loop (.seq (.reg [⟨some 52, .bin .lss, [.slot 51, .slot 50], none⟩])
 (.seq (.cond (.slot 52) (.skip)
 (.exit 0))
 (.seq (.block 1 (.seq (.reg [⟨some 53, .mv, [.slot 51], none⟩,⟨some 54, .idxB 7, [.slot 49, .slot 51], none⟩,⟨some 55, .load 7 true, [.slot 54], none⟩,⟨some 4, .alloc [.str [], .bool false, .int .i64 0, .nilS, .int .i64 0, .int .i64 0, .int .i64 0], [], none⟩,⟨some 3, .take, [.slot 51], none⟩,⟨none, .store 7 true, [.slot 4, .slot 55], none⟩])
 (.seq (.reg [⟨some 56, .load 7 true, [.slot 4], none⟩,⟨some 57, .call 33, [.slot 56], none⟩,⟨some 58, .un .not, [.slot 57], none⟩,⟨some 59, .mv, [.slot 58], none⟩,⟨some 60, .mv, [.slot 3], some (59, false)⟩,⟨some 61, .bin .gtr, [.slot 60, .lit (.int .i64 0)], some (59, false)⟩,⟨some 62, .mv, [.slot 61], some (59, false)⟩,⟨some 63, .fld 0, [.slot 4], some (62, true)⟩,⟨some 64, .load 1 false, [.slot 63], some (62, true)⟩,⟨some 65, .fld 7, [.slot 1], some (62, true)⟩,⟨some 66, .load 1 false, [.slot 65], some (62, true)⟩,⟨some 67, .mv, [.slot 3], some (62, true)⟩,⟨some 68, .bin .sub, [.slot 67, .lit (.int .i64 1)], some (62, true)⟩,⟨some 69, .idxA 7, [.slot 66, .slot 68], some (62, true)⟩,⟨some 70, .fld 0, [.slot 69], some (62, true)⟩,⟨some 71, .load 1 false, [.slot 70], some (62, true)⟩,⟨some 72, .bin .leq, [.slot 64, .slot 71], some (62, true)⟩,⟨some 73, .pick, [.slot 62, .slot 72, .lit (.bool false)], some (59, false)⟩,⟨some 74, .pick, [.slot 58, .lit (.bool true), .slot 73], none⟩])
 (.cond (.slot 74) (.seq (.reg [⟨some 2, .give, [.lit (.bool false)], none⟩])
 (.ret))
 (.skip)))))
 (.reg [⟨some 75, .bin .add, [.slot 51, .lit (.int .i64 1)], none⟩,⟨some 51, .mv, [.slot 75], none⟩])))))))
 (.seq (.reg [⟨some 76, .fld 7, [.slot 1], none⟩,⟨some 77, .load 1 false, [.slot 76], none⟩,⟨some 78, .lenL, [.slot 77], none⟩,⟨some 79, .bin .leq, [.slot 78, .lit (.int .i64 32)], none⟩,⟨some 2, .give, [.slot 79], none⟩])
 (.ret))))),
 80, [.tmp 2]⟩
theorem c18 : cFunc Proofs.Tryd.prog 18 = some sf18 := by kernel_rfl
def sf19 : SF := ⟨(.seq (.reg [⟨some 1, .box, [.slot 0], none⟩,⟨some 2, .give, [.lit (.bool false)], none⟩])
 (.seq (.seq (.reg [⟨some 4, .fld 0, [.slot 1], none⟩,⟨some 5, .load 1 false, [.slot 4], none⟩,⟨some 6, .call 34, [.slot 5, .lit (.int .i64 1)], none⟩,⟨some 7, .un .not, [.slot 6], none⟩,⟨some 8, .mv, [.slot 7], none⟩,⟨some 9, .fld 1, [.slot 1], some (8, false)⟩,⟨some 10, .load 1 false, [.slot 9], some (8, false)⟩,⟨some 11, .bin .lss, [.slot 10, .lit (.int .i64 1)], some (8, false)⟩,⟨some 12, .pick, [.slot 7, .lit (.bool true), .slot 11], none⟩,⟨some 13, .mv, [.slot 12], none⟩,⟨some 14, .fld 1, [.slot 1], some (13, false)⟩,⟨some 15, .load 1 false, [.slot 14], some (13, false)⟩,⟨some 16, .bin .gtr, [.slot 15, .lit (.int .i64 200)], some (13, false)⟩,⟨some 17, .pick, [.slot 12, .lit (.bool true), .slot 16], none⟩,⟨some 18, .mv, [.slot 17], none⟩,⟨some 19, .fld 2, [.slot 1], some (18, false)⟩,⟨some 20, .load 1 false, [.slot 19], some (18, false)⟩,⟨some 21, .call 34, [.slot 20, .lit (.int .i64 4294967295)], some (18, false)⟩,⟨some 22, .un .not, [.slot 21], some (18, false)⟩,⟨some 23, .pick, [.slot 17, .lit (.bool true), .slot 22], none⟩,⟨some 24, .mv, [.slot 23], none⟩,⟨some 25, .fld 5, [.slot 1], some (24, false)⟩,⟨some 26, .load 1 false, [.slot 25], some (24, false)⟩,⟨some 27, .call 34, [.slot 26, .lit (.int .i64 4294967295)], some (24, false)⟩,⟨some 28, .un .not, [.slot 27], some (24, false)⟩,⟨some 29, .pick, [.slot 23, .lit (.bool true), .slot 28], none⟩,⟨some 30, .mv, [.slot 29], none⟩,⟨some 31, .fld 6, [.slot 1], some (30, false)⟩,⟨some 32, .load 1 false, [.slot 31], some (30, false)⟩,⟨some 33, .call 34, [.slot 32, .lit (.int .i64 4294967295)], some (30, false)⟩,⟨some 34, .un .not, [.slot 33], some (30, false)⟩,⟨some 35, .pick, [.slot 29, .lit (.bool true), .slot 34], none⟩,⟨some 36, .mv, [.slot 35], none⟩,⟨some 37, .fld 3, [.slot 1], some (36, false)⟩,⟨some 38, .load 1 false, [.slot 37], some (36, false)⟩,⟨some 39, .call 34, [.slot 38, .lit (.int .i64 100)], some (36, false)⟩,⟨some 40, .un .not, [.slot 39], some (36, false)⟩,⟨some 41, .pick, [.slot 35, .lit (.bool true), .slot 40], none⟩,⟨some 42, .mv, [.slot 41], none⟩,⟨some 43, .fld 4, [.slot 1], some (42, false)⟩,⟨some 44, .load 1 false, [.slot 43], some (42, false)⟩,⟨some 45, .call 34, [.slot 44, .lit (.int .i64 100)], some (42, false)⟩,⟨some 46, .un .not, [.slot 45], some (42, false)⟩,⟨some 47, .pick, [.slot 41, .lit (.bool true), .slot 46], none⟩,⟨some 48, .mv, [.slot 47], none⟩,⟨some 49, .fld 4, [.slot 1], some (48, false)⟩,⟨some 50, .load 1 false, [.slot 49], some (48, false)⟩,⟨some 51, .fld 3, [.slot 1], some (48, false)⟩,⟨some 52, .load 1 false, [.slot 51], some (48, false)⟩,⟨some 53, .bin .neq, [.slot 50, .slot 52], some (48, false)⟩,⟨some 54, .take, [.slot 53], some (48, false)⟩,⟨some 55, .fld 4, [.slot 1], some (54, true)⟩,⟨some 56, .load 1 false, [.slot 55], some (54, true)⟩,⟨some 57, .fld 3, [.slot 1], some (54, true)⟩,⟨some 58, .load 1 false, [.slot 57], some (54, true)⟩,⟨some 59, .bin .add, [.slot 58, .lit (.int .i64 1)], some (54, true)⟩,⟨some 60, .bin .neq, [.slot 56, .slot 59], some (54, true)⟩,⟨some 61, .pick, [.slot 54, .slot 60, .lit (.bool false)], some (48, false)⟩,⟨some 62, .pick, [.slot 47, .lit (.bool true), .slot 61], none⟩,⟨some 63, .mv, [.slot 62], none⟩,⟨some 64, .fld 7, [.slot 1], some (63, false)⟩,⟨some 65, .load 1 false, [.slot 64], some (63, false)⟩,⟨some 66, .lenL, [.slot 65], some (63, false)⟩,⟨some 67, .bin .gtr, [.slot 66, .lit (.int .i64 32)], some (63, false)⟩,⟨some 68, .pick, [.slot 62, .lit (.bool true), .slot 67], none⟩])
 (.cond (.slot 68) (.seq (.reg [⟨some 2, .give, [.lit (.bool false)], none⟩])
 (.ret))
 (.skip)))
 (.seq (.seq (.reg [⟨some 3, .take, [.lit (.int .i64 0)], none⟩])
 (.block 0 (.loop (.seq (.seq (.reg [⟨some 69, .mv, [.slot 3], none⟩,⟨some 70, .fld 7, [.slot 1], none⟩,⟨some 71, .load 1 false, [.slot 70], none⟩,⟨some 72, .lenL, [.slot 71], none⟩,⟨some 73, .bin .lss, [.slot 3, .slot 72], none⟩])
 (.cond (.slot 73) (.skip)
 (.exit 0)))
 (.seq (.block 1 (.seq (.reg [⟨some 76, .fld 7, [.slot 1], none⟩,⟨some 77, .load 1 false, [.slot 76], none⟩,⟨some 78, .mv, [.slot 3], none⟩,⟨some 79, .idxA 7, [.slot 77, .slot 3], none⟩,⟨some 80, .load 7 true, [.slot 79], none⟩,⟨some 81, .call 35, [.slot 80], none⟩,⟨some 82, .un .not, [.slot 81], none⟩,⟨some 83, .mv, [.slot 82], none⟩,⟨some 84, .mv, [.slot 3], some (83, false)⟩,⟨some 85, .bin .gtr, [.slot 84, .lit (.int .i64 0)], some (83, false)⟩,⟨some 86, .mv, [.slot 85], some (83, false)⟩,⟨some 87, .fld 7, [.slot 1], some (86, true)⟩,⟨some 88, .load 1 false, [.slot 87], some (86, true)⟩,⟨some 89, .mv, [.slot 3], some (86, true)⟩,⟨some 90, .idxA 7, [.slot 88, .slot 89], some (86, true)⟩,⟨some 91, .fld 0, [.slot 90], some (86, true)⟩,⟨some 92, .load 1 false, [.slot 91], some (86, true)⟩,⟨some 93, .fld 7, [.slot 1], some (86, true)⟩,⟨some 94, .load 1 false, [.slot 93], some (86, true)⟩,⟨some 95, .mv, [.slot 3], some (86, true)⟩,⟨some 96, .bin .sub, [.slot 95, .lit (.int .i64 1)], some (86, true)⟩,⟨some 97, .idxA 7, [.slot 94, .slot 96], some (86, true)⟩,⟨some 98, .fld 0, [.slot 97], some (86, true)⟩,⟨some 99, .load 1 false, [.slot 98], some (86, true)⟩,⟨some 100, .bin .leq, [.slot 92, .slot 99], some (86, true)⟩,⟨some 101, .pick, [.slot 86, .slot 100, .lit (.bool false)], some (83, false)⟩,⟨some 102, .pick, [.slot 82, .lit (.bool true), .slot 101], none⟩])
 (.cond (.slot 102) (.seq (.reg [⟨some 2, .give, [.lit (.bool false)], none⟩])
 (.ret))
 (.skip))))
 (.reg [⟨some 74, .mv, [.slot 3], none⟩,⟨some 75, .bin .add, [.slot 3, .lit (.int .i64 1)], none⟩,⟨some 3, .give, [.slot 75], none⟩]))))))
 (.seq (.reg [⟨some 2, .give, [.lit (.bool true)], none⟩])
 (.ret))))),
 103, [.tmp 2]⟩
theorem c19 : cFunc Proofs.Tryd.prog 19 = some sf19 := by kernel_rfl
def sf20 : SF := ⟨(.seq (.reg [⟨some 1, .box, [.slot 0], none⟩,⟨some 2, .give, [.lit (.str [])], none⟩])
 (.seq (.reg [⟨some 7, .fld 0, [.slot 1], none⟩,⟨some 8, .load 1 false, [.slot 7], none⟩,⟨some 9, .fld 1, [.slot 1], none⟩,⟨some 10, .load 1 false, [.slot 9], none⟩,⟨some 11, .fld 2, [.slot 1], none⟩,⟨some 12, .load 1 false, [.slot 11], none⟩,⟨some 13, .fld 3, [.slot 1], none⟩,⟨some 14, .load 1 false, [.slot 13], none⟩,⟨some 15, .fld 4, [.slot 1], none⟩,⟨some 16, .load 1 false, [.slot 15], none⟩,⟨some 17, .fld 5, [.slot 1], none⟩,⟨some 18, .load 1 false, [.slot 17], none⟩,⟨some 19, .fld 6, [.slot 1], none⟩,⟨some 20, .load 1 false, [.slot 19], none⟩,⟨some 21, .fld 7, [.slot 1], none⟩,⟨some 22, .load 1 false, [.slot 21], none⟩,⟨some 23, .lenL, [.slot 22], none⟩,⟨some 24, .bsl 1 8 [.int .i64 0] [0, 1, 2, 3, 4, 5, 6, 7], [.slot 8, .slot 10, .slot 12, .slot 14, .slot 16, .slot 18, .slot 20, .slot 23], none⟩,⟨some 25, .call 36, [.lit (.nilS), .slot 24], none⟩,⟨some 3, .giveP, [.slot 25], none⟩])
 (.seq (.seq (.reg [⟨some 26, .fld 7, [.slot 1], none⟩,⟨some 27, .load 1 false, [.slot 26], none⟩,⟨some 28, .lenL, [.slot 27], none⟩,⟨some 29, .mv, [.lit (.int .i64 0)], none⟩])
 (.block 0 (.loop (.seq (.reg [⟨some 30, .bin .lss, [.slot 29, .slot 28], none⟩])
 (.seq (.cond (.slot 30) (.skip)
 (.exit 0))
 (.seq (.block 1 (.seq (.reg [⟨some 31, .idxB 7, [.slot 27, .slot 29], none⟩,⟨some 32, .load 7 true, [.slot 31], none⟩,⟨some 5, .alloc [.str [], .bool false, .int .i64 0, .nilS, .int .i64 0, .int .i64 0, .int .i64 0], [], none⟩,⟨none, .store 7 true, [.slot 5, .slot 32], none⟩])
 (.seq (.reg [⟨some 6, .take, [.lit (.int .i64 0)], none⟩])
 (.seq (.seq (.reg [⟨some 33, .fld 1, [.slot 5], none⟩,⟨some 34, .load 1 false, [.slot 33], none⟩])
 (.cond (.slot 34) (.reg [⟨some 6, .take, [.lit (.int .i64 1)], none⟩])
 (.skip)))
 (.seq (planD 21 [⟨0, ⟨some 35, .mv, [.slot 3], none⟩, []⟩,⟨1, ⟨some 36, .fld 0, [.slot 5], none⟩, []⟩,⟨2, ⟨some 37, .load 1 false, [.slot 36], none⟩, [1]⟩,⟨3, ⟨some 38, .call 37, [.slot 35, .slot 37], none⟩, [0, 2]⟩,⟨4, ⟨some 39, .mv, [.slot 6], none⟩, []⟩,⟨5, ⟨some 40, .fld 2, [.slot 5], none⟩, []⟩,⟨6, ⟨some 41, .load 1 false, [.slot 40], none⟩, [5]⟩,⟨7, ⟨some 42, .fld 4, [.slot 5], none⟩, []⟩,⟨8, ⟨some 43, .load 1 false, [.slot 42], none⟩, [7]⟩,⟨9, ⟨some 44, .fld 5, [.slot 5], none⟩, []⟩,⟨10, ⟨some 45, .fld 0, [.slot 44], none⟩, [9]⟩,⟨11, ⟨some 46, .load 1 false, [.slot 45], none⟩, [10]⟩,⟨12, ⟨some 47, .fld 5, [.slot 5], none⟩, []⟩,⟨13, ⟨some 48, .fld 1, [.slot 47], none⟩, [12]⟩,⟨14, ⟨some 49, .load 1 false, [.slot 48], none⟩, [13]⟩,⟨15, ⟨some 50, .fld 3, [.slot 5], none⟩, []⟩,⟨16, ⟨some 51, .load 1 false, [.slot 50], none⟩, [15]⟩,⟨17, ⟨some 52, .lenL, [.slot 51], none⟩, [16]⟩,⟨18, ⟨some 53, .bsl 1 6 [.int .i64 0] [0, 1, 2, 3, 4, 5], [.slot 39, .slot 41, .slot 43, .slot 46, .slot 49, .slot 52], none⟩, [4, 6, 8, 11, 14, 17]⟩,⟨19, ⟨some 54, .call 36, [.slot 38, .slot 53], none⟩, [3, 18, 3]⟩,⟨20, ⟨some 3, .giveP, [.slot 54], none⟩, [19, 19, 0, 1, 2, 3, 4, 5, 6, 7, 8, 9, 10, 11, 12, 13, 14, 15, 16, 17, 18, 19]⟩])
 (.reg [⟨some 55, .mv, [.slot 3], none⟩,⟨some 56, .fld 3, [.slot 5], none⟩,⟨some 57, .load 1 false, [.slot 56], none⟩,⟨some 58, .call 36, [.slot 3, .slot 57], none⟩,⟨some 3, .giveP, [.slot 58], none⟩]))))))
 (.reg [⟨some 59, .bin .add, [.slot 29, .lit (.int .i64 1)], none⟩,⟨some 29, .mv, [.slot 59], none⟩])))))))
 (.seq (.reg [⟨some 60, .mv, [.slot 3], none⟩,⟨some 61, .b2s, [.slot 3], none⟩,⟨some 2, .give, [.slot 61], none⟩])
 (.ret))))),
 62, [.tmp 2]⟩
theorem c20 : cFunc Proofs.Tryd.prog 20 = some sf20 := by kernel_rfl
def sf22 : SF := ⟨(.seq (.reg [⟨some 2, .alloc [.int .i64 0, .int .i64 0, .int .i64 0, .int .i64 0, .int .i64 0, .int .i64 0, .int .i64 0, .nilS], [], none⟩,⟨some 3, .give, [.lit (.int .i64 0)], none⟩])
 (.scope (.seq (.reg [⟨some 4, .alloc [.int .i64 0, .int .i64 0, .int .i64 0, .int .i64 0, .int .i64 0, .int .i64 0, .int .i64 0, .nilS], [], none⟩])
 (.seq (.reg [⟨some 5, .take, [.lit (.int .i64 0)], none⟩])
 (.seq (.reg [⟨some 7, .mv, [.slot 0], none⟩,⟨some 8, .s2b, [.slot 0], none⟩,⟨some 9, .call 40, [.slot 8], none⟩,⟨some 6, .give, [.slot 9], none⟩])
 (.seq (.reg [⟨some 10, .mv, [.slot 6], none⟩,⟨some 11, .fld 0, [.slot 4], none⟩,⟨some 12, .fld 1, [.slot 4], none⟩,⟨some 13, .fld 2, [.slot 4], none⟩,⟨some 14, .fld 3, [.slot 4], none⟩,⟨some 15, .fld 4, [.slot 4], none⟩,⟨some 16, .fld 5, [.slot 4], none⟩,⟨some 17, .fld 6, [.slot 4], none⟩,⟨some 18, .bsl 1 7 [.nilP] [0, 1, 2, 3, 4, 5, 6], [.slot 11, .slot 12, .slot 13, .slot 14, .slot 15, .slot 16, .slot 17], none⟩,⟨some 19, .call 41, [.slot 6, .slot 18], none⟩])
 (.seq (.reg [⟨some 20, .mv, [.slot 6], none⟩,⟨some 21, .call 42, [.slot 6, .lit (.int .i64 32)], none⟩,⟨some 5, .give, [.slot 21], none⟩])
 (.seq (.seq (.reg [⟨some 22, .mv, [.slot 5], none⟩,⟨some 23, .mv, [.lit (.int .i64 0)], none⟩])
 (.block 0 (.loop (.seq (.reg [⟨some 24, .bin .lss, [.slot 23, .slot 22], none⟩])
 (.seq (.cond (.slot 24) (.skip)
 (.exit 0))
 (.seq (.block 1 (.seq (.seq (.reg [⟨some 25, .fld 7, [.slot 4], none⟩,⟨some 27, .mv, [.slot 6], none⟩])
 (.both (.reg [⟨some 26, .loadG, [.slot 25], none⟩,⟨some 28, .call 43, [.slot 27], none⟩,⟨some 29, .bsl 7 1 [.str [], .bool false, .int .i64 0, .nilS, .int .i64 0, .int .i64 0, .int .i64 0] [0], [.slot 28], none⟩,⟨some 30, .app 7 80 [.str [], .bool false, .int .i64 0, .nilS, .int .i64 0, .int .i64 0, .int .i64 0], [.slot 26, .slot 29], none⟩,⟨some 31, .fld 7, [.slot 4], none⟩,⟨none, .store 1 true, [.slot 31, .slot 30], none⟩])
 (.both (.reg [⟨some 28, .call 43, [.slot 27], none⟩,⟨some 26, .loadG, [.slot 25], none⟩,⟨some 29, .bsl 7 1 [.str [], .bool false, .int .i64 0, .nilS, .int .i64 0, .int .i64 0, .int .i64 0] [0], [.slot 28], none⟩,⟨some 30, .app 7 80 [.str [], .bool false, .int .i64 0, .nilS, .int .i64 0, .int .i64 0, .int .i64 0], [.slot 26, .slot 29], none⟩,⟨some 31, .fld 7, [.slot 4], none⟩,⟨none, .store 1 true, [.slot 31, .slot 30], none⟩])
 (.tt))))
 (.seq (.reg [⟨some 32, .mv, [.slot 6], none⟩,⟨some 33, .call 44, [.slot 6], none⟩,⟨some 34, .bin .neq, [.slot 33, .lit (.int .i64 0)], none⟩])
 (.cond (.slot 34) (.goto 0)
 (.skip)))))
 (.reg [⟨some 35, .bin .add, [.slot 23, .lit (.int .i64 1)], none⟩,⟨some 23, .mv, [.slot 35], none⟩])))))))
 (.seq (.seq (.reg [⟨some 36, .mv, [.slot 6], none⟩,⟨some 37, .call 45, [.slot 6], none⟩,⟨some 38, .bin .neq, [.slot 37, .lit (.int .i64 0)], none⟩,⟨some 39, .mv, [.slot 38], none⟩,⟨some 40, .load 8 true, [.slot 4], some (39, false)⟩,⟨some 41, .call 18, [.slot 40], some (39, false)⟩,⟨some 42, .un .not, [.slot 41], some (39, false)⟩,⟨some 43, .pick, [.slot 38, .lit (.bool true), .slot 42], none⟩])
 (.cond (.slot 43) (.goto 0)
 (.skip)))
 (.seq (.seq (.reg [⟨some 44, .load 8 true, [.slot 4], none⟩,⟨none, .store 8 true, [.slot 2, .slot 44], none⟩,⟨some 3, .give, [.lit (.int .i64 0)], none⟩])
 (.ret))
 (.seq (.label 0)
 (.seq (.reg [⟨some 45, .bld [.int .i64 0, .int .i64 0, .int .i64 0, .int .i64 0, .int .i64 0, .int .i64 0, .int .i64 0, .nilS] [], [], none⟩,⟨none, .store 8 true, [.slot 2, .slot 45], none⟩,⟨some 3, .give, [.lit (.int .i64 4)], none⟩])
 (.ret)))))))))))
 0
 (.seq (.skip)
 (.seq (.reg [⟨some 45, .bld [.int .i64 0, .int .i64 0, .int .i64 0, .int .i64 0, .int .i64 0, .int .i64 0, .int .i64 0, .nilS] [], [], none⟩,⟨none, .store 8 true, [.slot 2, .slot 45], none⟩,⟨some 3, .give, [.lit (.int .i64 4)], none⟩])
 (.ret))))),
 46, [.cell 2 8 true, .tmp 3]⟩
theorem c22 : cFunc Proofs.Tryd.prog 22 = some sf22 := by kernel_rfl
def sf23 : SF := ⟨(.seq (.reg [⟨some 2, .alloc [.int .i64 0, .int .i64 0, .int .i64 0, .int .i64 0, .int .i64 0, .int .i64 0, .int .i64 0, .nilS], [], none⟩,⟨some 3, .give, [.lit (.int .i64 0)], none⟩])
 (.seq (.reg [⟨some 12, .mv, [.slot 0], none⟩,⟨some 13, .s2b, [.slot 0], none⟩,⟨some 14, .bld [.nilS, .int .i64 0, .int .i64 0] [(0, 1)], [.slot 13], none⟩,⟨some 15, .box, [.slot 14], none⟩,⟨some 4, .give, [.slot 15], none⟩])
 (.seq (.reg [⟨some 5, .take, [.lit (.int .i64 4294967295)], none⟩])
 (.seq (.reg [⟨some 16, .mv, [.slot 4], none⟩,⟨some 17, .mv, [.slot 5], none⟩,⟨some 18, .call 46, [.slot 4, .slot 5], none⟩,⟨some 19, .bld [.int .i64 0, .int .i64 0, .int .i64 0, .int .i64 0, .int .i64 0, .int .i64 0, .int .i64 0, .nilS] [(0, 1)], [.slot 18], none⟩,⟨some 6, .alloc [.int .i64 0, .int .i64 0, .int .i64 0, .int .i64 0, .int .i64 0, .int .i64 0, .int .i64 0, .nilS], [], none⟩,⟨none, .store 8 true, [.slot 6, .slot 19], none⟩])
 (.seq (.reg [⟨some 20, .mv, [.slot 4], none⟩,⟨some 21, .mv, [.slot 5], none⟩,⟨some 22, .call 46, [.slot 4, .slot 5], none⟩,⟨some 23, .fld 1, [.slot 6], none⟩,⟨none, .store 1 true, [.slot 23, .slot 22], none⟩])
 (.seq (.reg [⟨some 24, .mv, [.slot 4], none⟩,⟨some 25, .mv, [.slot 5], none⟩,⟨some 26, .call 46, [.slot 4, .slot 5], none⟩,⟨some 27, .fld 2, [.slot 6], none⟩,⟨none, .store 1 true, [.slot 27, .slot 26], none⟩])
 (.seq (.reg [⟨some 28, .mv, [.slot 4], none⟩,⟨some 29, .mv, [.slot 5], none⟩,⟨some 30, .call 46, [.slot 4, .slot 5], none⟩,⟨some 31, .fld 3, [.slot 6], none⟩,⟨none, .store 1 true, [.slot 31, .slot 30], none⟩])
 (.seq (.reg [⟨some 32, .mv, [.slot 4], none⟩,⟨some 33, .mv, [.slot 5], none⟩,⟨some 34, .call 46, [.slot 4, .slot 5], none⟩,⟨some 35, .fld 4, [.slot 6], none⟩,⟨none, .store 1 true, [.slot 35, .slot 34], none⟩])
 (.seq (.reg [⟨some 36, .mv, [.slot 4], none⟩,⟨some 37, .mv, [.slot 5], none⟩,⟨some 38, .call 46, [.slot 4, .slot 5], none⟩,⟨some 39, .fld 5, [.slot 6], none⟩,⟨none, .store 1 true, [.slot 39, .slot 38], none⟩])
 (.seq (.reg [⟨some 40, .mv, [.slot 4], none⟩,⟨some 41, .mv, [.slot 5], none⟩,⟨some 42, .call 46, [.slot 4, .slot 5], none⟩,⟨some 43, .fld 6, [.slot 6], none⟩,⟨none, .store 1 true, [.slot 43, .slot 42], none⟩])
 (.seq (.reg [⟨some 44, .mv, [.slot 4], none⟩,⟨some 45, .call 46, [.slot 4, .lit (.int .i64 32)], none⟩,⟨some 7, .give, [.slot 45], none⟩])
 (.seq (.seq (.reg [⟨some 8, .take, [.lit (.int .i64 0)], none⟩])
 (.block 0 (.loop (.seq (.seq (.reg [⟨some 46, .mv, [.slot 8], none⟩,⟨some 47, .mv, [.slot 7], none⟩,⟨some 48, .bin .lss, [.slot 8, .slot 7], none⟩])
 (.cond (.slot 48) (.skip)
 (.exit 0)))
 (.seq (.block 1 (.seq (.reg [⟨some 51, .mv, [.slot 4], none⟩,⟨some 52, .call 47, [.slot 4, .lit (.int .i64 100)], none⟩,⟨some 53, .bld [.str [], .bool false, .int .i64 0, .nilS, .int .i64 0, .int .i64 0, .int .i64 0] [(0, 1)], [.slot 52], none⟩,⟨some 9, .alloc [.str [], .bool false, .int .i64 0, .nilS, .int .i64 0, .int .i64 0, .int .i64 0], [], none⟩,⟨none, .store 7 true, [.slot 9, .slot 53], none⟩])
 (.seq (.reg [⟨some 54, .mv, [.slot 4], none⟩,⟨some 55, .call 46, [.slot 4, .lit (.int .i64 1)], none⟩,⟨some 56, .bin .eql, [.slot 55, .lit (.int .i64 1)], none⟩,⟨some 57, .fld 1, [.slot 9], none⟩,⟨none, .store 1 true, [.slot 57, .slot 56], none⟩])
 (.seq (.reg [⟨some 58, .mv, [.slot 4], none⟩,⟨some 59, .mv, [.slot 5], none⟩,⟨some 60, .call 46, [.slot 4, .slot 5], none⟩,⟨some 61, .fld 2, [.slot 9], none⟩,⟨none, .store 1 true, [.slot 61, .slot 60], none⟩])
 (.seq (.reg [⟨some 62, .mv, [.slot 4], none⟩,⟨some 63, .mv, [.slot 5], none⟩,⟨some 64, .call 46, [.slot 4, .slot 5], none⟩,⟨some 65, .fld 4, [.slot 9], none⟩,⟨none, .store 1 true, [.slot 65, .slot 64], none⟩])
 (.seq (.reg [⟨some 66, .mv, [.slot 4], none⟩,⟨some 67, .mv, [.slot 5], none⟩,⟨some 68, .call 46, [.slot 4, .slot 5], none⟩,⟨some 69, .fld 5, [.slot 9], none⟩,⟨some 70, .fld 0, [.slot 69], none⟩,⟨none, .store 1 true, [.slot 70, .slot 68], none⟩])
 (.seq (.reg [⟨some 71, .mv, [.slot 4], none⟩,⟨some 72, .mv, [.slot 5], none⟩,⟨some 73, .call 46, [.slot 4, .slot 5], none⟩,⟨some 74, .fld 5, [.slot 9], none⟩,⟨some 75, .fld 1, [.slot 74], none⟩,⟨none, .store 1 true, [.slot 75, .slot 73], none⟩])
 (.seq (.reg [⟨some 76, .mv, [.slot 4], none⟩,⟨some 77, .call 46, [.slot 4, .lit (.int .i64 10)], none⟩,⟨some 10, .give, [.slot 77], none⟩])
 (.seq (.seq (.reg [⟨some 11, .take, [.lit (.int .i64 0)], none⟩])
 (.block 2 (.loop (.seq (.seq (.reg [⟨some 78, .mv, [.slot 11], none⟩,⟨some 79, .mv, [.slot 10], none⟩,⟨some 80, .bin .lss, [.slot 11, .slot 10], none⟩])
 (.cond (.slot 80) (.skip)
 (.exit 2)))
 (.seq (.block 3 (.seq (.reg [⟨some 83, .fld 3, [.slot 9], none⟩,⟨some 85, .mv, [.slot 4], none⟩,⟨some 86, .mv, [.slot 5], none⟩])
 (.both (.reg [⟨some 84, .loadG, [.slot 83], none⟩,⟨some 87, .call 46, [.slot 85, .slot 86], none⟩,⟨some 88, .bsl 1 1 [.int .i64 0] [0], [.slot 87], none⟩,⟨some 89, .app 1 8 [.int .i64 0], [.slot 84, .slot 88], none⟩,⟨some 90, .fld 3, [.slot 9], none⟩,⟨none, .store 1 true, [.slot 90, .slot 89], none⟩])
 (.both (.reg [⟨some 87, .call 46, [.slot 85, .slot 86], none⟩,⟨some 84, .loadG, [.slot 83], none⟩,⟨some 88, .bsl 1 1 [.int .i64 0] [0], [.slot 87], none⟩,⟨some 89, .app 1 8 [.int .i64 0], [.slot 84, .slot 88], none⟩,⟨some 90, .fld 3, [.slot 9], none⟩,⟨none, .store 1 true, [.slot 90, .slot 89], none⟩])
 (.tt)))))
 (.reg [⟨some 81, .mv, [.slot 11], none⟩,⟨some 82, .bin .add, [.slot 11, .lit (.int .i64 1)], none⟩,⟨some 11, .give, [.slot 82], none⟩]))))))
 (.reg [⟨some 91, .fld 7, [.slot 6], none⟩,⟨some 92, .loadG, [.slot 91], none⟩,⟨some 93, .load 7 true, [.slot 9], none⟩,⟨some 94, .bsl 7 1 [.str [], .bool false, .int .i64 0, .nilS, .int .i64 0, .int .i64 0, .int .i64 0] [0], [.slot 93], none⟩,⟨some 95, .app 7 80 [.str [], .bool false, .int .i64 0, .nilS, .int .i64 0, .int .i64 0, .int .i64 0], [.slot 92, .slot 94], none⟩,⟨some 96, .fld 7, [.slot 6], none⟩,⟨none, .store 1 true, [.slot 96, .slot 95], none⟩]))))))))))
 (.reg [⟨some 49, .mv, [.slot 8], none⟩,⟨some 50, .bin .add, [.slot 8, .lit (.int .i64 1)], none⟩,⟨some 8, .give, [.slot 50], none⟩]))))))
 (.seq (.seq (.reg [⟨some 97, .mv, [.slot 4], none⟩,⟨some 98, .call 48, [.slot 4], none⟩,⟨some 99, .bin .neq, [.slot 98, .lit (.int .i64 0)], none⟩,⟨some 100, .mv, [.slot 99], none⟩,⟨some 101, .load 8 true, [.slot 6], some (100, false)⟩,⟨some 102, .call 19, [.slot 101], some (100, false)⟩,⟨some 103, .un .not, [.slot 102], some (100, false)⟩,⟨some 104, .pick, [.slot 99, .lit (.bool true), .slot 103], none⟩])
 (.cond (.slot 104) (.seq (.reg [⟨some 105, .bld [.int .i64 0, .int .i64 0, .int .i64 0, .int .i64 0, .int .i64 0, .int .i64 0, .int .i64 0, .nilS] [], [], none⟩,⟨none, .store 8 true, [.slot 2, .slot 105], none⟩,⟨some 3, .give, [.lit (.int .i64 4)], none⟩])
 (.ret))
 (.skip)))
 (.seq (.reg [⟨some 106, .load 8 true, [.slot 6], none⟩,⟨none, .store 8 true, [.slot 2, .slot 106], none⟩,⟨some 3, .give, [.lit (.int .i64 0)], none⟩])
 (.ret))))))))))))))),
 107, [.cell 2 8 true, .tmp 3]⟩
theorem c23 : cFunc Proofs.Tryd.prog 23 = some sf23 := by kernel_rfl
def sf24 : SF := ⟨(.seq (.reg [⟨some 2, .give, [.lit (.int .i64 0)], none⟩])
 (.seq (.seq (.reg [⟨some 3, .mv, [.slot 0], none⟩,⟨some 4, .bin .lss, [.slot 0, .lit (.int .i64 1)], none⟩])
 (.cond (.slot 4) (.seq (.reg [⟨some 2, .give, [.lit (.int .i64 0)], none⟩])
 (.ret))
 (.skip)))
 (.seq (.reg [⟨some 5, .mv, [.slot 0], none⟩,⟨some 6, .bin .sub, [.slot 0, .lit (.int .i64 1)], none⟩,⟨some 7, .bin .quo, [.slot 6, .lit (.int .i64 64)], none⟩,⟨some 8, .bin .add, [.slot 7, .lit (.int .i64 1)], none⟩,⟨some 2, .give, [.slot 8], none⟩])
 (.ret)))),
 9, [.tmp 2]⟩
theorem c24 : cFunc Proofs.Tryd.prog 24 = some sf24 := by kernel_rfl
def sf26 : SF := ⟨(.seq (.reg [⟨some 0, .alloc [.int .i64 0, .int .i64 0, .int .i64 0, .int .i64 0, .int .i64 0, .int .i64 0, .int .i64 0, .nilS], [], none⟩])
 (.seq (.reg [⟨some 1, .bsl 1 2 [.int .i64 0] [0, 1], [.lit (.int .i64 8), .lit (.int .i64 9)], none⟩,⟨some 2, .bld [.int .i64 0, .int .i64 0] [(1, 1)], [.lit (.int .i64 1)], none⟩,⟨some 3, .bld [.str [], .bool false, .int .i64 0, .nilS, .int .i64 0, .int .i64 0, .int .i64 0] [(0, 1), (1, 1), (2, 1), (3, 1), (4, 1), (5, 2)], [.lit (.str [97, 47, 98]), .lit (.bool true), .lit (.int .i64 65), .slot 1, .lit (.int .i64 5), .slot 2], none⟩,⟨some 4, .bld [.int .i64 0, .int .i64 0] [(0, 1)], [.lit (.int .i64 1)], none⟩,⟨some 5, .bld [.str [], .bool false, .int .i64 0, .nilS, .int .i64 0, .int .i64 0, .int .i64 0] [(0, 1), (5, 2)], [.lit (.str [99]), .slot 4], none⟩,⟨some 6, .bslO 7 2 [.str [], .bool false, .int .i64 0, .nilS, .int .i64 0, .int .i64 0, .int .i64 0] [0, 1], [.slot 3, .slot 5], none⟩,⟨some 7, .bld [.int .i64 0, .int .i64 0, .int .i64 0, .int .i64 0, .int .i64 0, .int .i64 0, .int .i64 0, .nilS] [(0, 1), (1, 1), (2, 1), (3, 1), (4, 1), (7, 1)], [.lit (.int .i64 1), .lit (.int .i64 2), .lit (.int .i64 7), .lit (.int .i64 3), .lit (.int .i64 4), .slot 6], none⟩,⟨none, .store 8 true, [.slot 0, .slot 7], none⟩])
 (.ret))),
 8, [.cell 0 8 true]⟩
theorem c26 : cFunc Proofs.Tryd.prog 26 = some sf26 := by kernel_rfl
def sf27 : SF := ⟨(.seq (.reg [⟨some 2, .give, [.lit (.nilS)], none⟩])
 (.seq (.seq (.reg [⟨some 3, .mv, [.slot 0], none⟩,⟨some 4, .eqN .s false, [.slot 0, .lit (.nilS)], none⟩])
 (.cond (.slot 4) (.seq (.reg [⟨some 2, .give, [.lit (.nilS)], none⟩])
 (.ret))
 (.skip)))
 (.seq (.reg [⟨some 5, .bsl 7 0 [.str [], .bool false, .int .i64 0, .nilS, .int .i64 0, .int .i64 0, .int .i64 0] [], [], none⟩,⟨some 6, .mv, [.slot 0], none⟩,⟨some 7, .app 7 80 [.str [], .bool false, .int .i64 0, .nilS, .int .i64 0, .int .i64 0, .int .i64 0], [.slot 5, .slot 0], none⟩,⟨some 2, .give, [.slot 7], none⟩])
 (.ret)))),
 8, [.tmp 2]⟩
theorem c27 : cFunc Proofs.Tryd.prog 27 = some sf27 := by kernel_rfl
def sf28 : SF := ⟨(.seq (.reg [⟨some 2, .give, [.lit (.nilS)], none⟩])
 (.seq (.seq (.reg [⟨some 3, .mv, [.slot 0], none⟩,⟨some 4, .eqN .s false, [.slot 0, .lit (.nilS)], none⟩])
 (.cond (.slot 4) (.seq (.reg [⟨some 2, .give, [.lit (.nilS)], none⟩])
 (.ret))
 (.skip)))
 (.seq (.reg [⟨some 5, .bsl 1 0 [.int .i64 0] [], [], none⟩,⟨some 6, .mv, [.slot 0], none⟩,⟨some 7, .app 1 8 [.int .i64 0], [.slot 5, .slot 0], none⟩,⟨some 2, .give, [.slot 7], none⟩])
 (.ret)))),
 8, [.tmp 2]⟩
theorem c28 : cFunc Proofs.Tryd.prog 28 = some sf28 := by kernel_rfl
def sf29 : SF := ⟨(.seq (.reg [⟨some 2, .box, [.slot 0], none⟩,⟨some 3, .box, [.slot 1], none⟩,⟨some 4, .give, [.lit (.bool false)], none⟩])
 (.seq (.reg [⟨some 5, .fld 0, [.slot 2], none⟩,⟨some 6, .load 1 false, [.slot 5], none⟩,⟨some 7, .fld 0, [.slot 3], none⟩,⟨some 8, .load 1 false, [.slot 7], none⟩,⟨some 9, .bin .eql, [.slot 6, .slot 8], none⟩,⟨some 10, .mv, [.slot 9], none⟩,⟨some 11, .fld 1, [.slot 2], some (10, true)⟩,⟨some 12, .load 1 false, [.slot 11], some (10, true)⟩,⟨some 13, .fld 1, [.slot 3], some (10, true)⟩,⟨some 14, .load 1 false, [.slot 13], some (10, true)⟩,⟨some 15, .eqB false, [.slot 12, .slot 14], some (10, true)⟩,⟨some 16, .pick, [.slot 9, .slot 15, .lit (.bool false)], none⟩,⟨some 17, .mv, [.slot 16], none⟩,⟨some 18, .fld 2, [.slot 2], some (17, true)⟩,⟨some 19, .load 1 false, [.slot 18], some (17, true)⟩,⟨some 20, .fld 2, [.slot 3], some (17, true)⟩,⟨some 21, .load 1 false, [.slot 20], some (17, true)⟩,⟨some 22, .bin .eql, [.slot 19, .slot 21], some (17, true)⟩,⟨some 23, .pick, [.slot 16, .slot 22, .lit (.bool false)], none⟩,⟨some 24, .mv, [.slot 23], none⟩,⟨some 25, .fld 4, [.slot 2], some (24, true)⟩,⟨some 26, .load 1 false, [.slot 25], some (24, true)⟩,⟨some 27, .fld 4, [.slot 3], some (24, true)⟩,⟨some 28, .load 1 false, [.slot 27], some (24, true)⟩,⟨some 29, .bin .eql, [.slot 26, .slot 28], some (24, true)⟩,⟨some 30, .pick, [.slot 23, .slot 29, .lit (.bool false)], none⟩,⟨some 31, .mv, [.slot 30], none⟩,⟨some 32, .fld 5, [.slot 2], some (31, true)⟩,⟨some 33, .load 2 true, [.slot 32], some (31, true)⟩,⟨some 34, .fld 5, [.slot 3], some (31, true)⟩,⟨some 35, .load 2 true, [.slot 34], some (31, true)⟩,⟨some 36, .eqA false [.i, .i], [.slot 33, .slot 35], some (31, true)⟩,⟨some 37, .pick, [.slot 30, .slot 36, .lit (.bool false)], none⟩,⟨some 38, .mv, [.slot 37], none⟩,⟨some 39, .fld 3, [.slot 2], some (38, true)⟩,⟨some 40, .load 1 false, [.slot 39], some (38, true)⟩,⟨some 41, .fld 3, [.slot 3], some (38, true)⟩,⟨some 42, .load 1 false, [.slot 41], some (38, true)⟩,⟨some 43, .call 30, [.slot 40, .slot 42], some (38, true)⟩,⟨some 44, .pick, [.slot 37, .slot 43, .lit (.bool false)], none⟩,⟨some 4, .give, [.slot 44], none⟩])
 (.ret))),
 45, [.tmp 4]⟩
theorem c29 : cFunc Proofs.Tryd.prog 29 = some sf29 := by kernel_rfl
def sf30 : SF := ⟨(.seq (.reg [⟨some 4, .give, [.lit (.bool false)], none⟩])
 (.seq (.seq (.reg [⟨some 6, .mv, [.slot 0], none⟩,⟨some 7, .lenL, [.slot 0], none⟩,⟨some 8, .mv, [.slot 1], none⟩,⟨some 9, .lenL, [.slot 1], none⟩,⟨some 10, .bin .neq, [.slot 7, .slot 9], none⟩])
 (.cond (.slot 10) (.seq (.reg [⟨some 4, .give, [.lit (.bool false)], none⟩])
 (.ret))
 (.skip)))
 (.seq (.seq (.reg [⟨some 11, .mv, [.slot 0], none⟩,⟨some 12, .lenL, [.slot 0], none⟩,⟨some 13, .mv, [.lit (.int .i64 0)], none⟩])
 (.block 0 (.loop (.seq (.reg [⟨some 14, .bin .lss, [.slot 13, .slot 12], none⟩])
 (.seq (.cond (.slot 14) (.skip)
 (.exit 0))
 (.seq (.block 1 (.seq (.reg [⟨some 15, .mv, [.slot 13], none⟩,⟨some 5, .take, [.slot 13], none⟩])
 (.seq (.reg [⟨some 16, .mv, [.slot 0], none⟩,⟨some 17, .mv, [.slot 5], none⟩,⟨some 18, .idxA 1, [.slot 0, .slot 5], none⟩,⟨some 19, .load 1 false, [.slot 18], none⟩,⟨some 20, .mv, [.slot 1], none⟩,⟨some 21, .mv, [.slot 5], none⟩,⟨some 22, .idxA 1, [.slot 1, .slot 5], none⟩,⟨some 23, .load 1 false, [.slot 22], none⟩,⟨some 24, .bin .neq, [.slot 19, .slot 23], none⟩])
 (.cond (.slot 24) (.seq (.reg [⟨some 4, .give, [.lit (.bool false)], none⟩])
 (.ret))
 (.skip)))))
 (.reg [⟨some 25, .bin .add, [.slot 13, .lit (.int .i64 1)], none⟩,⟨some 13, .mv, [.slot 25], none⟩])))))))
 (.seq (.reg [⟨some 4, .give, [.lit (.bool true)], none⟩])
 (.ret))))),
 26, [.tmp 4]⟩
theorem c30 : cFunc Proofs.Tryd.prog 30 = some sf30 := by kernel_rfl
def sf31 : SF := ⟨(.seq (.reg [⟨some 6, .give, [.lit (.bool false)], none⟩])
 (.seq (.seq (.reg [⟨some 10, .mv, [.slot 0], none⟩,⟨some 11, .lenL, [.slot 0], none⟩,⟨some 12, .mv, [.slot 1], none⟩,⟨some 13, .lenL, [.slot 1], none⟩,⟨some 14, .bin .neq, [.slot 11, .slot 13], none⟩])
 (.cond (.slot 14) (.seq (.reg [⟨some 6, .give, [.lit (.bool false)], none⟩])
 (.ret))
 (.skip)))
 (.seq (.seq (.reg [⟨some 15, .mv, [.slot 0], none⟩,⟨some 16, .lenL, [.slot 0], none⟩,⟨some 17, .mv, [.lit (.int .i64 0)], none⟩])
 (.block 0 (.loop (.seq (.reg [⟨some 18, .bin .lss, [.slot 17, .slot 16], none⟩])
 (.seq (.cond (.slot 18) (.skip)
 (.exit 0))
 (.seq (.block 1 (.seq (.reg [⟨some 19, .mv, [.slot 17], none⟩,⟨some 20, .idxB 7, [.slot 15, .slot 17], none⟩,⟨some 21, .load 7 true, [.slot 20], none⟩,⟨some 8, .alloc [.str [], .bool false, .int .i64 0, .nilS, .int .i64 0, .int .i64 0, .int .i64 0], [], none⟩,⟨some 7, .take, [.slot 17], none⟩,⟨none, .store 7 true, [.slot 8, .slot 21], none⟩])
 (.seq (.reg [⟨some 22, .mv, [.slot 1], none⟩,⟨some 23, .mv, [.slot 7], none⟩,⟨some 24, .idxB 7, [.slot 1, .slot 7], none⟩,⟨some 25, .load 7 true, [.slot 24], none⟩,⟨some 9, .alloc [.str [], .bool false, .int .i64 0, .nilS, .int .i64 0, .int .i64 0, .int .i64 0], [], none⟩,⟨none, .store 7 true, [.slot 9, .slot 25], none⟩])
 (.seq (.reg [⟨some 26, .mv, [.slot 2], none⟩,⟨some 27, .load 7 true, [.slot 8], none⟩,⟨some 28, .load 7 true, [.slot 9], none⟩,⟨some 29, .callv, [.slot 2, .slot 27, .slot 28], none⟩,⟨some 30, .un .not, [.slot 29], none⟩])
 (.cond (.slot 30) (.seq (.reg [⟨some 6, .give, [.lit (.bool false)], none⟩])
 (.ret))
 (.skip))))))
 (.reg [⟨some 31, .bin .add, [.slot 17, .lit (.int .i64 1)], none⟩,⟨some 17, .mv, [.slot 31], none⟩])))))))
 (.seq (.reg [⟨some 6, .give, [.lit (.bool true)], none⟩])
 (.ret))))),
 32, [.tmp 6]⟩
theorem c31 : cFunc Proofs.Tryd.prog 31 = some sf31 := by kernel_rfl
def sf32 : SF := ⟨(.seq (.reg [⟨some 2, .box, [.slot 0], none⟩,⟨some 4, .give, [.lit (.bool false)], none⟩])
 (.seq (.reg [⟨some 5, .mv, [.slot 1], none⟩,⟨some 6, .mfn 53 0 1, [.slot 2], none⟩,⟨some 7, .call 52, [.slot 1, .slot 6], none⟩,⟨some 8, .un .not, [.slot 7], none⟩,⟨some 4, .give, [.slot 8], none⟩])
 (.ret))),
 9, [.tmp 4]⟩
theorem c32 : cFunc Proofs.Tryd.prog 32 = some sf32 := by kernel_rfl
def sf33 : SF := ⟨(.seq (.reg [⟨some 1, .box, [.slot 0], none⟩,⟨some 2, .give, [.lit (.bool false)], none⟩])
 (.seq (.block 0 (.seq (.reg [⟨some 4, .fld 0, [.slot 1], none⟩,⟨some 5, .load 1 false, [.slot 4], none⟩,⟨some 6, .call 54, [.slot 5], none⟩,⟨some 7, .un .not, [.slot 6], none⟩,⟨some 8, .mv, [.slot 7], none⟩,⟨some 9, .fld 5, [.slot 1], some (8, false)⟩,⟨some 10, .load 2 true, [.slot 9], some (8, false)⟩,⟨some 11, .call 55, [.slot 10], some (8, false)⟩,⟨some 12, .un .not, [.slot 11], some (8, false)⟩,⟨some 13, .pick, [.slot 7, .lit (.bool true), .slot 12], none⟩,⟨some 14, .mv, [.slot 13], none⟩,⟨some 15, .fld 5, [.slot 1], some (14, false)⟩,⟨some 16, .load 2 true, [.slot 15], some (14, false)⟩,⟨some 17, .bld [.int .i64 0, .int .i64 0] [], [], some (14, false)⟩,⟨some 18, .eqA false [.i, .i], [.slot 16, .slot 17], some (14, false)⟩,⟨some 19, .pick, [.slot 13, .lit (.bool true), .slot 18], none⟩,⟨some 3, .give, [.slot 19], none⟩])
 (.cond (.slot 3) (.seq (.reg [⟨some 2, .give, [.lit (.bool false)], none⟩])
 (.ret))
 (.seq (.reg [⟨some 21, .fld 1, [.slot 1], none⟩,⟨some 22, .load 1 false, [.slot 21], none⟩,⟨some 23, .un .not, [.slot 22], none⟩,⟨some 20, .give, [.slot 23], none⟩])
 (.cond (.slot 20) (.seq (.reg [⟨some 24, .fld 2, [.slot 1], none⟩,⟨some 25, .load 1 false, [.slot 24], none⟩,⟨some 26, .bin .eql, [.slot 25, .lit (.int .i64 0)], none⟩,⟨some 27, .mv, [.slot 26], none⟩,⟨some 28, .fld 4, [.slot 1], some (27, true)⟩,⟨some 29, .load 1 false, [.slot 28], some (27, true)⟩,⟨some 30, .bin .eql, [.slot 29, .lit (.int .i64 0)], some (27, true)⟩,⟨some 31, .pick, [.slot 26, .slot 30, .lit (.bool false)], none⟩,⟨some 32, .mv, [.slot 31], none⟩,⟨some 33, .fld 3, [.slot 1], some (32, true)⟩,⟨some 34, .load 1 false, [.slot 33], some (32, true)⟩,⟨some 35, .lenL, [.slot 34], some (32, true)⟩,⟨some 36, .bin .eql, [.slot 35, .lit (.int .i64 0)], some (32, true)⟩,⟨some 37, .pick, [.slot 31, .slot 36, .lit (.bool false)], none⟩,⟨some 2, .give, [.slot 37], none⟩])
 (.ret))
 (.skip))))))
 (.seq (.reg [⟨some 38, .fld 2, [.slot 1], none⟩,⟨some 39, .load 1 false, [.slot 38], none⟩,⟨some 40, .bsl 1 1 [.int .i64 0] [0], [.slot 39], none⟩,⟨some 41, .call 32, [.lit (.int .i64 600), .slot 40], none⟩,⟨some 42, .mv, [.slot 41], none⟩,⟨some 43, .fld 3, [.slot 1], some (42, true)⟩,⟨some 44, .load 1 false, [.slot 43], some (42, true)⟩,⟨some 45, .lenL, [.slot 44], some (42, true)⟩,⟨some 46, .fld 2, [.slot 1], some (42, true)⟩,⟨some 47, .load 1 false, [.slot 46], some (42, true)⟩,⟨some 48, .callp 24, [.slot 47], some (42, true)⟩,⟨some 49, .bin .eql, [.slot 45, .slot 48], some (42, true)⟩,⟨some 50, .pick, [.slot 41, .slot 49, .lit (.bool false)], none⟩,⟨some 51, .mv, [.slot 50], none⟩,⟨some 52, .fld 4, [.slot 1], some (51, true)⟩,⟨some 53, .load 1 false, [.slot 52], some (51, true)⟩,⟨some 54, .bsl 1 1 [.int .i64 0] [0], [.slot 53], some (51, true)⟩,⟨some 55, .call 32, [.lit (.int .i64 4294967295), .slot 54], some (51, true)⟩,⟨some 56, .pick, [.slot 50, .slot 55, .lit (.bool false)], none⟩,⟨some 57, .mv, [.slot 56], none⟩,⟨some 58, .fld 3, [.slot 1], some (57, true)⟩,⟨some 59, .load 1 false, [.slot 58], some (57, true)⟩,⟨some 60, .call 32, [.lit (.int .i64 4294967295), .slot 59], some (57, true)⟩,⟨some 61, .pick, [.slot 56, .slot 60, .lit (.bool false)], none⟩,⟨some 2, .give, [.slot 61], none⟩])
 (.ret)))),
 62, [.tmp 2]⟩
theorem c33 : cFunc Proofs.Tryd.prog 33 = some sf33 := by kernel_rfl
def sf34 : SF := ⟨(.seq (.reg [⟨some 4, .give, [.lit (.bool false)], none⟩])
 (.seq (.reg [⟨some 5, .mv, [.slot 0], none⟩,⟨some 6, .bin .geq, [.slot 0, .lit (.int .i64 0)], none⟩,⟨some 7, .mv, [.slot 6], none⟩,⟨some 8, .take, [.slot 0], some (7, true)⟩,⟨some 9, .take, [.slot 1], some (7, true)⟩,⟨some 10, .bin .leq, [.slot 8, .slot 9], some (7, true)⟩,⟨some 11, .pick, [.slot 6, .slot 10, .lit (.bool false)], none⟩,⟨some 4, .give, [.slot 11], none⟩])
 (.ret))),
 12, [.tmp 4]⟩
theorem c34 : cFunc Proofs.Tryd.prog 34 = some sf34 := by kernel_rfl
def sf35 : SF := ⟨(.seq (.reg [⟨some 1, .box, [.slot 0], none⟩,⟨some 2, .give, [.lit (.bool false)], none⟩])
 (.seq (.reg [⟨some 6, .fld 0, [.slot 1], none⟩,⟨some 7, .load 1 false, [.slot 6], none⟩,⟨some 8, .call 56, [.slot 7], none⟩,⟨some 3, .give, [.slot 8], none⟩])
 (.seq (.reg [⟨some 9, .fld 5, [.slot 1], none⟩,⟨some 10, .load 2 true, [.slot 9], none⟩,⟨some 11, .call 57, [.slot 10], none⟩,⟨some 4, .give, [.slot 11], none⟩])
 (.seq (.seq (.reg [⟨some 12, .mv, [.slot 3], none⟩,⟨some 13, .un .not, [.slot 3], none⟩,⟨some 14, .mv, [.slot 13], none⟩,⟨some 15, .take, [.slot 4], some (14, false)⟩,⟨some 16, .un .not, [.slot 15], some (14, false)⟩,⟨some 17, .pick, [.slot 13, .lit (.bool true), .slot 16], none⟩,⟨some 18, .mv, [.slot 17], none⟩,⟨some 19, .fld 5, [.slot 1], some (18, false)⟩,⟨some 20, .fld 0, [.slot 19], some (18, false)⟩,⟨some 21, .load 1 false, [.slot 20], some (18, false)⟩,⟨some 22, .bin .eql, [.slot 21, .lit (.int .i64 0)], some (18, false)⟩,⟨some 23, .take, [.slot 22], some (18, false)⟩,⟨some 24, .fld 5, [.slot 1], some (23, true)⟩,⟨some 25, .fld 1, [.slot 24], some (23, true)⟩,⟨some 26, .load 1 false, [.slot 25], some (23, true)⟩,⟨some 27, .bin .eql, [.slot 26, .lit (.int .i64 0)], some (23, true)⟩,⟨some 28, .pick, [.slot 23, .slot 27, .lit (.bool false)], some (18, false)⟩,⟨some 29, .pick, [.slot 17, .lit (.bool true), .slot 28], none⟩])
 (.cond (.slot 29) (.seq (.reg [⟨some 2, .give, [.lit (.bool false)], none⟩])
 (.ret))
 (.skip)))
 (.seq (.seq (.reg [⟨some 30, .fld 1, [.slot 1], none⟩,⟨some 31, .load 1 false, [.slot 30], none⟩,⟨some 32, .un .not, [.slot 31], none⟩])
 (.cond (.slot 32) (.seq (.reg [⟨some 33, .fld 2, [.slot 1], none⟩,⟨some 34, .load 1 false, [.slot 33], none⟩,⟨some 35, .bin .eql, [.slot 34, .lit (.int .i64 0)], none⟩,⟨some 36, .mv, [.slot 35], none⟩,⟨some 37, .fld 4, [.slot 1], some (36, true)⟩,⟨some 38, .load 1 false, [.slot 37], some (36, true)⟩,⟨some 39, .bin .eql, [.slot 38, .lit (.int .i64 0)], some (36, true)⟩,⟨some 40, .pick, [.slot 35, .slot 39, .lit (.bool false)], none⟩,⟨some 41, .mv, [.slot 40], none⟩,⟨some 42, .fld 3, [.slot 1], some (41, true)⟩,⟨some 43, .load 1 false, [.slot 42], some (41, true)⟩,⟨some 44, .lenL, [.slot 43], some (41, true)⟩,⟨some 45, .bin .eql, [.slot 44, .lit (.int .i64 0)], some (41, true)⟩,⟨some 46, .pick, [.slot 40, .slot 45, .lit (.bool false)], none⟩,⟨some 2, .give, [.slot 46], none⟩])
 (.ret))
 (.skip)))
 (.seq (.seq (.reg [⟨some 47, .fld 2, [.slot 1], none⟩,⟨some 48, .load 1 false, [.slot 47], none⟩,⟨some 49, .callp 34, [.slot 48, .lit (.int .i64 600)], none⟩,⟨some 50, .un .not, [.slot 49], none⟩,⟨some 51, .mv, [.slot 50], none⟩,⟨some 52, .fld 4, [.slot 1], some (51, false)⟩,⟨some 53, .load 1 false, [.slot 52], some (51, false)⟩,⟨some 54, .callp 34, [.slot 53, .lit (.int .i64 4294967295)], some (51, false)⟩,⟨some 55, .un .not, [.slot 54], some (51, false)⟩,⟨some 56, .pick, [.slot 50, .lit (.bool true), .slot 55], none⟩,⟨some 57, .mv, [.slot 56], none⟩,⟨some 58, .fld 3, [.slot 1], some (57, false)⟩,⟨some 59, .load 1 false, [.slot 58], some (57, false)⟩,⟨some 60, .lenL, [.slot 59], some (57, false)⟩,⟨some 61, .fld 2, [.slot 1], some (57, false)⟩,⟨some 62, .load 1 false, [.slot 61], some (57, false)⟩,⟨some 63, .callp 58, [.slot 62], some (57, false)⟩,⟨some 64, .bin .neq, [.slot 60, .slot 63], some (57, false)⟩,⟨some 65, .pick, [.slot 56, .lit (.bool true), .slot 64], none⟩])
 (.cond (.slot 65) (.seq (.reg [⟨some 2, .give, [.lit (.bool false)], none⟩])
 (.ret))
 (.skip)))
 (.seq (.seq (.reg [⟨some 5, .take, [.lit (.int .i64 0)], none⟩])
 (.block 0 (.loop (.seq (.seq (.reg [⟨some 66, .mv, [.slot 5], none⟩,⟨some 67, .fld 3, [.slot 1], none⟩,⟨some 68, .load 1 false, [.slot 67], none⟩,⟨some 69, .lenL, [.slot 68], none⟩,⟨some 70, .bin .lss, [.slot 5, .slot 69], none⟩])
 (.cond (.slot 70) (.skip)
 (.exit 0)))
 (.seq (.block 1 (.seq (.reg [⟨some 73, .fld 3, [.slot 1], none⟩,⟨some 74, .load 1 false, [.slot 73], none⟩,⟨some 75, .mv, [.slot 5], none⟩,⟨some 76, .idxB 1, [.slot 74, .slot 5], none⟩,⟨some 77, .load 1 false, [.slot 76], none⟩,⟨some 78, .call 34, [.slot 77, .lit (.int .i64 4294967295)], none⟩,⟨some 79, .un .not, [.slot 78], none⟩])
 (.cond (.slot 79) (.seq (.reg [⟨some 2, .give, [.lit (.bool false)], none⟩])
 (.ret))
 (.skip))))
 (.reg [⟨some 71, .mv, [.slot 5], none⟩,⟨some 72, .bin .add, [.slot 5, .lit (.int .i64 1)], none⟩,⟨some 5, .give, [.slot 72], none⟩]))))))
 (.seq (.reg [⟨some 2, .give, [.lit (.bool true)], none⟩])
 (.ret))))))))),
 80, [.tmp 2]⟩
theorem c35 : cFunc Proofs.Tryd.prog 35 = some sf35 := by kernel_rfl
def sf36 : SF := ⟨(.seq (.reg [⟨some 4, .give, [.lit (.nilS)], none⟩])
 (.seq (.seq (.reg [⟨some 7, .mv, [.slot 1], none⟩,⟨some 8, .lenL, [.slot 1], none⟩,⟨some 9, .mv, [.lit (.int .i64 0)], none⟩])
 (.block 0 (.loop (.seq (.reg [⟨some 10, .bin .lss, [.slot 9, .slot 8], none⟩])
 (.seq (.cond (.slot 10) (.skip)
 (.exit 0))
 (.seq (.block 1 (.seq (.reg [⟨some 11, .idxB 1, [.slot 7, .slot 9], none⟩,⟨some 12, .load 1 false, [.slot 11], none⟩,⟨some 6, .give, [.slot 12], none⟩])
 (.reg [⟨some 13, .mv, [.slot 0], none⟩,⟨some 14, .mv, [.slot 6], none⟩,⟨some 15, .call 59, [.slot 0, .slot 6], none⟩,⟨some 0, .give, [.slot 15], none⟩])))
 (.reg [⟨some 16, .bin .add, [.slot 9, .lit (.int .i64 1)], none⟩,⟨some 9, .mv, [.slot 16], none⟩])))))))
 (.seq (.reg [⟨some 17, .mv, [.slot 0], none⟩,⟨some 4, .give, [.slot 0], none⟩])
 (.ret)))),
 18, [.tmp 4]⟩
theorem c36 : cFunc Proofs.Tryd.prog 36 = some sf36 := by kernel_rfl
def sf37 : SF := ⟨(.seq (.reg [⟨some 4, .give, [.lit (.nilS)], none⟩])
 (.seq (.reg [⟨some 5, .mv, [.slot 1], none⟩,⟨some 6, .mv, [.slot 1], none⟩,⟨some 7, .lenS, [.slot 1], none⟩,⟨some 8, .min, [.slot 7, .lit (.int .i64 16384)], none⟩,⟨some 9, .slcS false true, [.slot 1, .slot 8], none⟩,⟨some 1, .give, [.slot 9], none⟩])
 (.seq (.reg [⟨some 10, .mv, [.slot 0], none⟩,⟨some 11, .mv, [.slot 1], none⟩,⟨some 12, .lenS, [.slot 1], none⟩,⟨some 13, .call 59, [.slot 0, .slot 12], none⟩,⟨some 14, .mv, [.slot 1], none⟩,⟨some 15, .app 1 1 [.int .u8 0], [.slot 13, .slot 1], none⟩,⟨some 4, .give, [.slot 15], none⟩])
 (.ret)))),
 16, [.tmp 4]⟩
theorem c37 : cFunc Proofs.Tryd.prog 37 = some sf37 := by kernel_rfl
def sf40 : SF := ⟨(.seq (.reg [⟨some 2, .give, [.lit (.nilP)], none⟩])
 (.seq (.reg [⟨some 3, .mv, [.slot 0], none⟩,⟨some 4, .call 61, [.slot 0], none⟩,⟨some 5, .bld [.nilS, .int .i64 0, .int .i64 0] [(0, 1)], [.slot 4], none⟩,⟨some 6, .box, [.slot 5], none⟩,⟨some 2, .give, [.slot 6], none⟩])
 (.ret))),
 7, [.tmp 2]⟩
theorem c40 : cFunc Proofs.Tryd.prog 40 = some sf40 := by kernel_rfl
def sf41 : SF := ⟨(.seq (.reg [⟨some 6, .mv, [.slot 1], none⟩,⟨some 7, .lenL, [.slot 1], none⟩,⟨some 8, .mv, [.lit (.int .i64 0)], none⟩])
 (.block 0 (.loop (.seq (.reg [⟨some 9, .bin .lss, [.slot 8, .slot 7], none⟩])
 (.seq (.cond (.slot 9) (.skip)
 (.exit 0))
 (.seq (.block 1 (.seq (.reg [⟨some 10, .idxB 1, [.slot 6, .slot 8], none⟩,⟨some 11, .load 1 false, [.slot 10], none⟩,⟨some 5, .give, [.slot 11], none⟩])
 (.reg [⟨some 12, .mv, [.slot 5], none⟩,⟨some 13, .mv, [.slot 0], none⟩,⟨some 14, .call 42, [.slot 0, .lit (.int .i64 4294967295)], none⟩,⟨some 15, .nilc, [.slot 5], none⟩,⟨none, .store 1 true, [.slot 15, .slot 14], none⟩])))
 (.reg [⟨some 16, .bin .add, [.slot 8, .lit (.int .i64 1)], none⟩,⟨some 8, .mv, [.slot 16], none⟩]))))))),
 17, []⟩
theorem c41 : cFunc Proofs.Tryd.prog 41 = some sf41 := by kernel_rfl
def sf42 : SF := ⟨(.seq (.reg [⟨some 4, .give, [.lit (.int .i64 0)], none⟩])
 (.seq (.seq (.reg [⟨some 8, .mv, [.slot 0], none⟩,⟨some 9, .nilc, [.slot 0], none⟩,⟨some 10, .fld 2, [.slot 9], none⟩,⟨some 11, .load 1 false, [.slot 10], none⟩,⟨some 12, .bin .neq, [.slot 11, .lit (.int .i64 0)], none⟩])
 (.cond (.slot 12) (.seq (.reg [⟨some 4, .give, [.lit (.int .i64 0)], none⟩])
 (.ret))
 (.skip)))
 (.seq (.seq (.reg [⟨some 13, .mv, [.slot 0], none⟩,⟨some 14, .nilc, [.slot 0], none⟩,⟨some 15, .fld 0, [.slot 14], none⟩,⟨some 16, .load 1 false, [.slot 15], none⟩,⟨some 17, .lenL, [.slot 16], none⟩,⟨some 18, .mv, [.slot 0], none⟩,⟨some 19, .nilc, [.slot 0], none⟩,⟨some 20, .fld 1, [.slot 19], none⟩,⟨some 21, .load 1 false, [.slot 20], none⟩,⟨some 22, .bin .sub, [.slot 17, .slot 21], none⟩,⟨some 23, .bin .lss, [.slot 22, .lit (.int .i64 4)], none⟩])
 (.cond (.slot 23) (.seq (.reg [⟨some 24, .mv, [.slot 0], none⟩,⟨some 25, .mv, [.slot 0], none⟩,⟨some 26, .nilc, [.slot 0], none⟩,⟨some 27, .fld 1, [.slot 26], none⟩,⟨some 28, .load 1 false, [.slot 27], none⟩,⟨some 29, .call 62, [.slot 0, .lit (.int .i64 4), .slot 28], none⟩])
 (.seq (.reg [⟨some 4, .give, [.lit (.int .i64 0)], none⟩])
 (.ret)))
 (.skip)))
 (.seq (.reg [⟨some 5, .take, [.lit (.int .i64 0)], none⟩])
 (.seq (.seq (.reg [⟨some 30, .mv, [.slot 0], none⟩,⟨some 31, .nilc, [.slot 0], none⟩,⟨some 32, .fld 0, [.slot 31], none⟩,⟨some 33, .load 1 false, [.slot 32], none⟩,⟨some 34, .mv, [.slot 0], none⟩,⟨some 35, .nilc, [.slot 0], none⟩,⟨some 36, .fld 1, [.slot 35], none⟩,⟨some 37, .load 1 false, [.slot 36], none⟩,⟨some 38, .mv, [.slot 0], none⟩,⟨some 39, .nilc, [.slot 0], none⟩,⟨some 40, .fld 1, [.slot 39], none⟩,⟨some 41, .load 1 false, [.slot 40], none⟩,⟨some 42, .bin .add, [.slot 41, .lit (.int .i64 4)], none⟩,⟨some 43, .slcL 1 true true false, [.slot 33, .slot 37, .slot 42], none⟩,⟨some 44, .lenL, [.slot 43], none⟩,⟨some 45, .mv, [.lit (.int .i64 0)], none⟩])
 (.block 0 (.loop (.seq (.reg [⟨some 46, .bin .lss, [.slot 45, .slot 44], none⟩])
 (.seq (.cond (.slot 46) (.skip)
 (.exit 0))
 (.seq (.block 1 (.seq (.reg [⟨some 47, .idxB 1, [.slot 43, .slot 45], none⟩,⟨some 48, .load 1 false, [.slot 47], none⟩,⟨some 7, .give, [.slot 48], none⟩])
 (.reg [⟨some 49, .mv, [.slot 5], none⟩,⟨some 50, .bin .shl, [.slot 5, .lit (.int .u64 8)], none⟩,⟨some 51, .mv, [.slot 7], none⟩,⟨some 52, .cvI .i64, [.slot 7], none⟩,⟨some 53, .bin .or, [.slot 50, .slot 52], none⟩,⟨some 5, .give, [.slot 53], none⟩])))
 (.reg [⟨some 54, .bin .add, [.slot 45, .lit (.int .i64 1)], none⟩,⟨some 45, .mv, [.slot 54], none⟩])))))))
 (.seq (.seq (.reg [⟨some 55, .mv, [.slot 5], none⟩,⟨some 56, .mv, [.slot 1], none⟩,⟨some 57, .bin .gtr, [.slot 5, .slot 1], none⟩])
 (.cond (.slot 57) (.seq (.reg [⟨some 58, .mv, [.slot 0], none⟩,⟨some 59, .mv, [.slot 0], none⟩,⟨some 60, .nilc, [.slot 0], none⟩,⟨some 61, .fld 1, [.slot 60], none⟩,⟨some 62, .load 1 false, [.slot 61], none⟩,⟨some 63, .call 62, [.slot 0, .lit (.int .i64 5), .slot 62], none⟩])
 (.seq (.reg [⟨some 4, .give, [.lit (.int .i64 0)], none⟩])
 (.ret)))
 (.skip)))
 (.seq (.reg [⟨some 64, .mv, [.slot 0], none⟩,⟨some 65, .nilc, [.slot 0], none⟩,⟨some 66, .fld 1, [.slot 65], none⟩,⟨some 67, .load 1 false, [.slot 66], none⟩,⟨some 68, .bin .add, [.slot 67, .lit (.int .i64 4)], none⟩,⟨some 69, .nilc, [.slot 0], none⟩,⟨some 70, .fld 1, [.slot 69], none⟩,⟨none, .store 1 true, [.slot 70, .slot 68], none⟩])
 (.seq (.reg [⟨some 71, .mv, [.slot 5], none⟩,⟨some 4, .give, [.slot 5], none⟩])
 (.ret))))))))),
 72, [.tmp 4]⟩
theorem c42 : cFunc Proofs.Tryd.prog 42 = some sf42 := by kernel_rfl
def sf43 : SF := ⟨(.seq (.reg [⟨some 2, .alloc [.str [], .bool false, .int .i64 0, .nilS, .int .i64 0, .int .i64 0, .int .i64 0], [], none⟩])
 (.seq (.reg [⟨some 5, .mv, [.slot 0], none⟩,⟨some 6, .call 63, [.slot 0, .lit (.int .i64 52)], none⟩,⟨some 7, .bld [.str [], .bool false, .int .i64 0, .nilS, .int .i64 0, .int .i64 0, .int .i64 0] [(0, 1)], [.slot 6], none⟩,⟨some 3, .alloc [.str [], .bool false, .int .i64 0, .nilS, .int .i64 0, .int .i64 0, .int .i64 0], [], none⟩,⟨none, .store 7 true, [.slot 3, .slot 7], none⟩])
 (.seq (.reg [⟨some 8, .mv, [.slot 0], none⟩,⟨some 9, .call 42, [.slot 0, .lit (.int .i64 1)], none⟩,⟨some 10, .bin .eql, [.slot 9, .lit (.int .i64 1)], none⟩,⟨some 11, .fld 1, [.slot 3], none⟩,⟨none, .store 1 true, [.slot 11, .slot 10], none⟩])
 (.seq (.reg [⟨some 12, .mv, [.slot 0], none⟩,⟨some 13, .fld 2, [.slot 3], none⟩,⟨some 14, .fld 4, [.slot 3], none⟩,⟨some 15, .fld 5, [.slot 3], none⟩,⟨some 16, .fld 0, [.slot 15], none⟩,⟨some 17, .fld 5, [.slot 3], none⟩,⟨some 18, .fld 1, [.slot 17], none⟩,⟨some 19, .bsl 1 4 [.nilP] [0, 1, 2, 3], [.slot 13, .slot 14, .slot 16, .slot 18], none⟩,⟨some 20, .call 41, [.slot 0, .slot 19], none⟩])
 (.seq (.reg [⟨some 21, .mv, [.slot 0], none⟩,⟨some 22, .call 42, [.slot 0, .lit (.int .i64 10)], none⟩,⟨some 23, .mkS 1 8 [.int .i64 0], [.slot 22, .slot 22], none⟩,⟨some 24, .fld 3, [.slot 3], none⟩,⟨none, .storeO, [.slot 24, .slot 23], none⟩])
 (.seq (.seq (.reg [⟨some 25, .fld 3, [.slot 3], none⟩,⟨some 26, .load 1 false, [.slot 25], none⟩,⟨some 27, .lenL, [.slot 26], none⟩,⟨some 28, .mv, [.lit (.int .i64 0)], none⟩])
 (.block 0 (.loop (.seq (.reg [⟨some 29, .bin .lss, [.slot 28, .slot 27], none⟩])
 (.seq (.cond (.slot 29) (.skip)
 (.exit 0))
 (.seq (.block 1 (.seq (.reg [⟨some 30, .mv, [.slot 28], none⟩,⟨some 4, .take, [.slot 28], none⟩])
 (.reg [⟨some 31, .mv, [.slot 0], none⟩,⟨some 32, .fld 3, [.slot 3], none⟩,⟨some 33, .load 1 false, [.slot 32], none⟩,⟨some 34, .mv, [.slot 4], none⟩,⟨some 35, .idxB 1, [.slot 33, .slot 4], none⟩,⟨some 36, .bsl 1 1 [.nilP] [0], [.slot 35], none⟩,⟨some 37, .call 41, [.slot 0, .slot 36], none⟩])))
 (.reg [⟨some 38, .bin .add, [.slot 28, .lit (.int .i64 1)], none⟩,⟨some 28, .mv, [.slot 38], none⟩])))))))
 (.seq (.reg [⟨some 39, .load 7 true, [.slot 3], none⟩,⟨none, .store 7 true, [.slot 2, .slot 39], none⟩])
 (.ret)))))))),
 40, [.cell 2 7 true]⟩
theorem c43 : cFunc Proofs.Tryd.prog 43 = some sf43 := by kernel_rfl
def sf44 : SF := ⟨(.seq (.reg [⟨some 2, .give, [.lit (.int .i64 0)], none⟩])
 (.seq (.reg [⟨some 3, .mv, [.slot 0], none⟩,⟨some 4, .nilc, [.slot 0], none⟩,⟨some 5, .fld 2, [.slot 4], none⟩,⟨some 6, .load 1 false, [.slot 5], none⟩,⟨some 2, .give, [.slot 6], none⟩])
 (.ret))),
 7, [.tmp 2]⟩
theorem c44 : cFunc Proofs.Tryd.prog 44 = some sf44 := by kernel_rfl
def sf45 : SF := ⟨(.seq (.reg [⟨some 2, .give, [.lit (.int .i64 0)], none⟩])
 (.seq (.seq (.reg [⟨some 3, .mv, [.slot 0], none⟩,⟨some 4, .nilc, [.slot 0], none⟩,⟨some 5, .fld 1, [.slot 4], none⟩,⟨some 6, .load 1 false, [.slot 5], none⟩,⟨some 7, .mv, [.slot 0], none⟩,⟨some 8, .nilc, [.slot 0], none⟩,⟨some 9, .fld 0, [.slot 8], none⟩,⟨some 10, .load 1 false, [.slot 9], none⟩,⟨some 11, .lenL, [.slot 10], none⟩,⟨some 12, .bin .lss, [.slot 6, .slot 11], none⟩])
 (.cond (.slot 12) (.reg [⟨some 13, .mv, [.slot 0], none⟩,⟨some 14, .mv, [.slot 0], none⟩,⟨some 15, .nilc, [.slot 0], none⟩,⟨some 16, .fld 1, [.slot 15], none⟩,⟨some 17, .load 1 false, [.slot 16], none⟩,⟨some 18, .call 62, [.slot 0, .lit (.int .i64 4), .slot 17], none⟩])
 (.skip)))
 (.seq (.reg [⟨some 19, .mv, [.slot 0], none⟩,⟨some 20, .nilc, [.slot 0], none⟩,⟨some 21, .fld 2, [.slot 20], none⟩,⟨some 22, .load 1 false, [.slot 21], none⟩,⟨some 2, .give, [.slot 22], none⟩])
 (.ret)))),
 23, [.tmp 2]⟩
theorem c45 : cFunc Proofs.Tryd.prog 45 = some sf45 := by kernel_rfl
def sf46 : SF := ⟨(.seq (.reg [⟨some 4, .give, [.lit (.int .i64 0)], none⟩])
 (.seq (.seq (.reg [⟨some 8, .mv, [.slot 0], none⟩,⟨some 9, .nilc, [.slot 0], none⟩,⟨some 10, .fld 2, [.slot 9], none⟩,⟨some 11, .load 1 false, [.slot 10], none⟩,⟨some 12, .bin .neq, [.slot 11, .lit (.int .i64 0)], none⟩])
 (.cond (.slot 12) (.seq (.reg [⟨some 4, .give, [.lit (.int .i64 0)], none⟩])
 (.ret))
 (.skip)))
 (.seq (.seq (.reg [⟨some 14, .mv, [.slot 0], none⟩,⟨some 15, .nilc, [.slot 0], none⟩,⟨some 16, .fld 0, [.slot 15], none⟩,⟨some 17, .load 1 false, [.slot 16], none⟩,⟨some 18, .mv, [.slot 0], none⟩,⟨some 19, .nilc, [.slot 0], none⟩,⟨some 20, .fld 1, [.slot 19], none⟩,⟨some 21, .load 1 false, [.slot 20], none⟩,⟨some 22, .mv, [.slot 1], none⟩,⟨some 23, .call 64, [.slot 17, .slot 21, .slot 22], none⟩,⟨some 13, .mv, [.slot 23], none⟩])
 (.both (.seq (.reg [⟨some 24, .ext 0, [.slot 13], none⟩,⟨some 5, .give, [.slot 24], none⟩])
 (.both (.reg [⟨some 25, .ext 1, [.slot 13], none⟩,⟨some 26, .ext 2, [.slot 13], none⟩,⟨some 6, .give, [.slot 25], none⟩,⟨some 7, .give, [.slot 26], none⟩])
 (.both (.reg [⟨some 26, .ext 2, [.slot 13], none⟩,⟨some 25, .ext 1, [.slot 13], none⟩,⟨some 6, .give, [.slot 25], none⟩,⟨some 7, .give, [.slot 26], none⟩])
 (.tt))))
 (.both (.seq (.reg [⟨some 25, .ext 1, [.slot 13], none⟩])
 (.both (.reg [⟨some 24, .ext 0, [.slot 13], none⟩,⟨some 26, .ext 2, [.slot 13], none⟩,⟨some 5, .give, [.slot 24], none⟩,⟨some 6, .give, [.slot 25], none⟩,⟨some 7, .give, [.slot 26], none⟩])
 (.both (.reg [⟨some 26, .ext 2, [.slot 13], none⟩,⟨some 24, .ext 0, [.slot 13], none⟩,⟨some 5, .give, [.slot 24], none⟩,⟨some 6, .give, [.slot 25], none⟩,⟨some 7, .give, [.slot 26], none⟩])
 (.tt))))
 (.both (.seq (.reg [⟨some 26, .ext 2, [.slot 13], none⟩])
 (.both (.reg [⟨some 24, .ext 0, [.slot 13], none⟩,⟨some 25, .ext 1, [.slot 13], none⟩,⟨some 5, .give, [.slot 24], none⟩,⟨some 6, .give, [.slot 25], none⟩,⟨some 7, .give, [.slot 26], none⟩])
 (.both (.reg [⟨some 25, .ext 1, [.slot 13], none⟩,⟨some 24, .ext 0, [.slot 13], none⟩,⟨some 5, .give, [.slot 24], none⟩,⟨some 6, .give, [.slot 25], none⟩,⟨some 7, .give, [.slot 26], none⟩])
 (.tt))))
 (.tt)))))
 (.seq (.reg [⟨some 27, .mv, [.slot 0], none⟩,⟨some 28, .mv, [.slot 6], none⟩,⟨some 29, .nilc, [.slot 0], none⟩,⟨some 30, .fld 1, [.slot 29], none⟩,⟨none, .store 1 false, [.slot 30, .slot 6], none⟩])
 (.seq (.reg [⟨some 31, .mv, [.slot 0], none⟩,⟨some 32, .mv, [.slot 7], none⟩,⟨some 33, .nilc, [.slot 0], none⟩,⟨some 34, .fld 2, [.slot 33], none⟩,⟨none, .store 1 false, [.slot 34, .slot 7], none⟩])
 (.seq (.reg [⟨some 35, .mv, [.slot 5], none⟩,⟨some 4, .give, [.slot 5], none⟩])
 (.ret))))))),
 36, [.tmp 4]⟩
theorem c46 : cFunc Proofs.Tryd.prog 46 = some sf46 := by kernel_rfl
def sf47 : SF := ⟨(.seq (.reg [⟨some 4, .give, [.lit (.str [])], none⟩])
 (.seq (.seq (.reg [⟨some 8, .mv, [.slot 0], none⟩,⟨some 9, .nilc, [.slot 0], none⟩,⟨some 10, .fld 2, [.slot 9], none⟩,⟨some 11, .load 1 false, [.slot 10], none⟩,⟨some 12, .bin .neq, [.slot 11, .lit (.int .i64 0)], none⟩])
 (.cond (.slot 12) (.seq (.reg [⟨some 4, .give, [.lit (.str [])], none⟩])
 (.ret))
 (.skip)))
 (.seq (.seq (.reg [⟨some 14, .mv, [.slot 0], none⟩,⟨some 15, .nilc, [.slot 0], none⟩,⟨some 16, .fld 0, [.slot 15], none⟩,⟨some 17, .load 1 false, [.slot 16], none⟩,⟨some 18, .mv, [.slot 0], none⟩,⟨some 19, .nilc, [.slot 0], none⟩,⟨some 20, .fld 1, [.slot 19], none⟩,⟨some 21, .load 1 false, [.slot 20], none⟩,⟨some 22, .mv, [.slot 1], none⟩,⟨some 23, .call 65, [.slot 17, .slot 21, .slot 22], none⟩,⟨some 13, .mv, [.slot 23], none⟩])
 (.both (.seq (.reg [⟨some 24, .ext 0, [.slot 13], none⟩,⟨some 5, .give, [.slot 24], none⟩])
 (.both (.reg [⟨some 25, .ext 1, [.slot 13], none⟩,⟨some 26, .ext 2, [.slot 13], none⟩,⟨some 6, .give, [.slot 25], none⟩,⟨some 7, .give, [.slot 26], none⟩])
 (.both (.reg [⟨some 26, .ext 2, [.slot 13], none⟩,⟨some 25, .ext 1, [.slot 13], none⟩,⟨some 6, .give, [.slot 25], none⟩,⟨some 7, .give, [.slot 26], none⟩])
 (.tt))))
 (.both (.seq (.reg [⟨some 25, .ext 1, [.slot 13], none⟩])
 (.both (.reg [⟨some 24, .ext 0, [.slot 13], none⟩,⟨some 26, .ext 2, [.slot 13], none⟩,⟨some 5, .give, [.slot 24], none⟩,⟨some 6, .give, [.slot 25], none⟩,⟨some 7, .give, [.slot 26], none⟩])
 (.both (.reg [⟨some 26, .ext 2, [.slot 13], none⟩,⟨some 24, .ext 0, [.slot 13], none⟩,⟨some 5, .give, [.slot 24], none⟩,⟨some 6, .give, [.slot 25], none⟩,⟨some 7, .give, [.slot 26], none⟩])
 (.tt))))
 (.both (.seq (.reg [⟨some 26, .ext 2, [.slot 13], none⟩])
 (.both (.reg [⟨some 24, .ext 0, [.slot 13], none⟩,⟨some 25, .ext 1, [.slot 13], none⟩,⟨some 5, .give, [.slot 24], none⟩,⟨some 6, .give, [.slot 25], none⟩,⟨some 7, .give, [.slot 26], none⟩])
 (.both (.reg [⟨some 25, .ext 1, [.slot 13], none⟩,⟨some 24, .ext 0, [.slot 13], none⟩,⟨some 5, .give, [.slot 24], none⟩,⟨some 6, .give, [.slot 25], none⟩,⟨some 7, .give, [.slot 26], none⟩])
 (.tt))))
 (.tt)))))
 (.seq (.reg [⟨some 27, .mv, [.slot 0], none⟩,⟨some 28, .mv, [.slot 6], none⟩,⟨some 29, .nilc, [.slot 0], none⟩,⟨some 30, .fld 1, [.slot 29], none⟩,⟨none, .store 1 false, [.slot 30, .slot 6], none⟩])
 (.seq (.reg [⟨some 31, .mv, [.slot 0], none⟩,⟨some 32, .mv, [.slot 7], none⟩,⟨some 33, .nilc, [.slot 0], none⟩,⟨some 34, .fld 2, [.slot 33], none⟩,⟨none, .store 1 false, [.slot 34, .slot 7], none⟩])
 (.seq (.reg [⟨some 35, .mv, [.slot 5], none⟩,⟨some 4, .give, [.slot 5], none⟩])
 (.ret))))))),
 36, [.tmp 4]⟩
theorem c47 : cFunc Proofs.Tryd.prog 47 = some sf47 := by kernel_rfl
def sf48 : SF := ⟨(.seq (.reg [⟨some 2, .give, [.lit (.int .i64 0)], none⟩])
 (.seq (.seq (.reg [⟨some 3, .mv, [.slot 0], none⟩,⟨some 4, .nilc, [.slot 0], none⟩,⟨some 5, .fld 2, [.slot 4], none⟩,⟨some 6, .load 1 false, [.slot 5], none⟩,⟨some 7, .bin .eql, [.slot 6, .lit (.int .i64 0)], none⟩,⟨some 8, .mv, [.slot 7], none⟩,⟨some 9, .mv, [.slot 0], some (8, true)⟩,⟨some 10, .nilc, [.slot 9], some (8, true)⟩,⟨some 11, .fld 1, [.slot 10], some (8, true)⟩,⟨some 12, .load 1 false, [.slot 11], some (8, true)⟩,⟨some 13, .mv, [.slot 0], some (8, true)⟩,⟨some 14, .nilc, [.slot 13], some (8, true)⟩,⟨some 15, .fld 0, [.slot 14], some (8, true)⟩,⟨some 16, .load 1 false, [.slot 15], some (8, true)⟩,⟨some 17, .lenL, [.slot 16], some (8, true)⟩,⟨some 18, .bin .lss, [.slot 12, .slot 17], some (8, true)⟩,⟨some 19, .pick, [.slot 7, .slot 18, .lit (.bool false)], none⟩])
 (.cond (.slot 19) (.reg [⟨some 20, .mv, [.slot 0], none⟩,⟨some 21, .nilc, [.slot 0], none⟩,⟨some 22, .fld 2, [.slot 21], none⟩,⟨none, .store 1 false, [.slot 22, .lit (.int .i64 4)], none⟩])
 (.skip)))
 (.seq (.reg [⟨some 23, .mv, [.slot 0], none⟩,⟨some 24, .nilc, [.slot 0], none⟩,⟨some 25, .fld 2, [.slot 24], none⟩,⟨some 26, .load 1 false, [.slot 25], none⟩,⟨some 2, .give, [.slot 26], none⟩])
 (.ret)))),
 27, [.tmp 2]⟩
theorem c48 : cFunc Proofs.Tryd.prog 48 = some sf48 := by kernel_rfl
def sf49 : SF := ⟨(.seq (.reg [⟨some 4, .give, [.lit (.int .i64 0)], none⟩])
 (.seq (.seq (.reg [⟨some 6, .mv, [.slot 0], none⟩,⟨some 7, .lenL, [.slot 0], none⟩,⟨some 8, .mv, [.lit (.int .i64 0)], none⟩])
 (.block 0 (.loop (.seq (.reg [⟨some 9, .bin .lss, [.slot 8, .slot 7], none⟩])
 (.seq (.cond (.slot 9) (.skip)
 (.exit 0))
 (.seq (.block 1 (.seq (.reg [⟨some 10, .mv, [.slot 8], none⟩,⟨some 5, .take, [.slot 8], none⟩])
 (.seq (.reg [⟨some 11, .mv, [.slot 1], none⟩,⟨some 12, .mv, [.slot 0], none⟩,⟨some 13, .mv, [.slot 5], none⟩,⟨some 14, .idxB 1, [.slot 0, .slot 5], none⟩,⟨some 15, .load 1 false, [.slot 14], none⟩,⟨some 16, .callv, [.slot 1, .slot 15], none⟩])
 (.cond (.slot 16) (.seq (.reg [⟨some 17, .mv, [.slot 5], none⟩,⟨some 4, .give, [.slot 5], none⟩])
 (.ret))
 (.skip)))))
 (.reg [⟨some 18, .bin .add, [.slot 8, .lit (.int .i64 1)], none⟩,⟨some 8, .mv, [.slot 18], none⟩])))))))
 (.seq (.reg [⟨some 4, .give, [.lit (.int .i64 (-1))], none⟩])
 (.ret)))),
 19, [.tmp 4]⟩
theorem c49 : cFunc Proofs.Tryd.prog 49 = some sf49 := by kernel_rfl
def sf52 : SF := ⟨(.seq (.reg [⟨some 4, .give, [.lit (.bool false)], none⟩])
 (.seq (.reg [⟨some 5, .mv, [.slot 0], none⟩,⟨some 6, .mv, [.slot 1], none⟩,⟨some 7, .call 49, [.slot 0, .slot 1], none⟩,⟨some 8, .bin .geq, [.slot 7, .lit (.int .i64 0)], none⟩,⟨some 4, .give, [.slot 8], none⟩])
 (.ret))),
 9, [.tmp 4]⟩
theorem c52 : cFunc Proofs.Tryd.prog 52 = some sf52 := by kernel_rfl
def sf53 : SF := ⟨(.seq (.reg [⟨some 3, .give, [.lit (.bool false)], none⟩])
 (.seq (.reg [⟨some 4, .mv, [.slot 0], none⟩,⟨some 5, .bin .lss, [.slot 0, .lit (.int .i64 0)], none⟩,⟨some 6, .mv, [.slot 5], none⟩,⟨some 7, .take, [.slot 0], some (6, false)⟩,⟨some 8, .load 1 false, [.slot 1], some (6, false)⟩,⟨some 9, .bin .gtr, [.slot 7, .slot 8], some (6, false)⟩,⟨some 10, .pick, [.slot 5, .lit (.bool true), .slot 9], none⟩,⟨some 3, .give, [.slot 10], none⟩])
 (.ret))),
 11, [.tmp 3]⟩
theorem c53 : cFunc Proofs.Tryd.prog 53 = some sf53 := by kernel_rfl
def sf54 : SF := ⟨(.seq (.reg [⟨some 2, .give, [.lit (.bool false)], none⟩])
 (.seq (.reg [⟨some 3, .mv, [.slot 0], none⟩,⟨some 4, .call 67, [.slot 0], none⟩,⟨some 5, .lenL, [.slot 4], none⟩,⟨some 6, .bin .gtr, [.slot 5, .lit (.int .i64 0)], none⟩,⟨some 2, .give, [.slot 6], none⟩])
 (.ret))),
 7, [.tmp 2]⟩
theorem c54 : cFunc Proofs.Tryd.prog 54 = some sf54 := by kernel_rfl
def sf55 : SF := ⟨(.seq (.reg [⟨some 1, .box, [.slot 0], none⟩,⟨some 2, .give, [.lit (.bool false)], none⟩])
 (.seq (.reg [⟨some 3, .fld 0, [.slot 1], none⟩,⟨some 4, .load 1 false, [.slot 3], none⟩,⟨some 5, .fld 1, [.slot 1], none⟩,⟨some 6, .load 1 false, [.slot 5], none⟩,⟨some 7, .min, [.slot 4, .slot 6], none⟩,⟨some 8, .bin .geq, [.slot 7, .lit (.int .i64 0)], none⟩,⟨some 9, .mv, [.slot 8], none⟩,⟨some 10, .fld 0, [.slot 1], some (9, true)⟩,⟨some 11, .load 1 false, [.slot 10], some (9, true)⟩,⟨some 12, .fld 1, [.slot 1], some (9, true)⟩,⟨some 13, .load 1 false, [.slot 12], some (9, true)⟩,⟨some 14, .max, [.slot 11, .slot 13], some (9, true)⟩,⟨some 15, .bin .leq, [.slot 14, .lit (.int .i64 1073741824)], some (9, true)⟩,⟨some 16, .pick, [.slot 8, .slot 15, .lit (.bool false)], none⟩,⟨some 2, .give, [.slot 16], none⟩])
 (.ret))),
 17, [.tmp 2]⟩
theorem c55 : cFunc Proofs.Tryd.prog 55 = some sf55 := by kernel_rfl
def sf56 : SF := ⟨(.seq (.reg [⟨some 2, .give, [.lit (.bool false)], none⟩])
 (.seq (.reg [⟨some 5, .mv, [.slot 0], none⟩,⟨some 6, .call 68, [.slot 0], none⟩,⟨some 3, .give, [.slot 6], none⟩])
 (.seq (.seq (.reg [⟨some 7, .mv, [.slot 3], none⟩,⟨some 8, .lenL, [.slot 3], none⟩,⟨some 9, .bin .gtr, [.slot 8, .lit (.int .i64 4)], none⟩])
 (.cond (.slot 9) (.seq (.reg [⟨some 2, .give, [.lit (.bool false)], none⟩])
 (.ret))
 (.skip)))
 (.seq (.seq (.reg [⟨some 4, .take, [.lit (.int .i64 0)], none⟩])
 (.block 0 (.loop (.seq (.seq (.reg [⟨some 10, .mv, [.slot 4], none⟩,⟨some 11, .mv, [.slot 3], none⟩,⟨some 12, .lenL, [.slot 3], none⟩,⟨some 13, .bin .lss, [.slot 4, .slot 12], none⟩])
 (.cond (.slot 13) (.skip)
 (.exit 0)))
 (.seq (.block 1 (.seq (.reg [⟨some 16, .mv, [.slot 3], none⟩,⟨some 17, .mv, [.slot 4], none⟩,⟨some 18, .idxB 1, [.slot 3, .slot 4], none⟩,⟨some 19, .load 1 false, [.slot 18], none⟩,⟨some 20, .call 69, [.slot 19], none⟩,⟨some 21, .un .not, [.slot 20], none⟩])
 (.cond (.slot 21) (.seq (.reg [⟨some 2, .give, [.lit (.bool false)], none⟩])
 (.ret))
 (.skip))))
 (.reg [⟨some 14, .mv, [.slot 4], none⟩,⟨some 15, .bin .add, [.slot 4, .lit (.int .i64 1)], none⟩,⟨some 4, .give, [.slot 15], none⟩]))))))
 (.seq (.reg [⟨some 2, .give, [.lit (.bool true)], none⟩])
 (.ret)))))),
 22, [.tmp 2]⟩
theorem c56 : cFunc Proofs.Tryd.prog 56 = some sf56 := by kernel_rfl
def sf57 : SF := ⟨(.seq (.reg [⟨some 1, .box, [.slot 0], none⟩,⟨some 2, .give, [.lit (.bool false)], none⟩])
 (.seq (.reg [⟨some 3, .fld 0, [.slot 1], none⟩,⟨some 4, .load 1 false, [.slot 3], none⟩,⟨some 5, .bin .geq, [.slot 4, .lit (.int .i64 0)], none⟩,⟨some 6, .mv, [.slot 5], none⟩,⟨some 7, .fld 0, [.slot 1], some (6, true)⟩,⟨some 8, .load 1 false, [.slot 7], some (6, true)⟩,⟨some 9, .bin .leq, [.slot 8, .lit (.int .i64 1073741824)], some (6, true)⟩,⟨some 10, .pick, [.slot 5, .slot 9, .lit (.bool false)], none⟩,⟨some 11, .mv, [.slot 10], none⟩,⟨some 12, .fld 1, [.slot 1], some (11, true)⟩,⟨some 13, .load 1 false, [.slot 12], some (11, true)⟩,⟨some 14, .bin .geq, [.slot 13, .lit (.int .i64 0)], some (11, true)⟩,⟨some 15, .pick, [.slot 10, .slot 14, .lit (.bool false)], none⟩,⟨some 16, .mv, [.slot 15], none⟩,⟨some 17, .fld 1, [.slot 1], some (16, true)⟩,⟨some 18, .load 1 false, [.slot 17], some (16, true)⟩,⟨some 19, .bin .leq, [.slot 18, .lit (.int .i64 1073741824)], some (16, true)⟩,⟨some 20, .pick, [.slot 15, .slot 19, .lit (.bool false)], none⟩,⟨some 2, .give, [.slot 20], none⟩])
 (.ret))),
 21, [.tmp 2]⟩
theorem c57 : cFunc Proofs.Tryd.prog 57 = some sf57 := by kernel_rfl
def sf58 : SF := ⟨(.seq (.reg [⟨some 2, .give, [.lit (.int .i64 0)], none⟩])
 (.seq (.seq (.reg [⟨some 3, .mv, [.slot 0], none⟩,⟨some 4, .bin .lss, [.slot 0, .lit (.int .i64 1)], none⟩])
 (.cond (.slot 4) (.seq (.reg [⟨some 2, .give, [.lit (.int .i64 0)], none⟩])
 (.ret))
 (.skip)))
 (.seq (.reg [⟨some 5, .mv, [.slot 0], none⟩,⟨some 6, .bin .sub, [.slot 0, .lit (.int .i64 1)], none⟩,⟨some 7, .bin .quo, [.slot 6, .lit (.int .i64 64)], none⟩,⟨some 8, .bin .add, [.slot 7, .lit (.int .i64 1)], none⟩,⟨some 2, .give, [.slot 8], none⟩])
 (.ret)))),
 9, [.tmp 2]⟩
theorem c58 : cFunc Proofs.Tryd.prog 58 = some sf58 := by kernel_rfl
def sf59 : SF := ⟨(.seq (.reg [⟨some 4, .give, [.lit (.nilS)], none⟩])
 (.seq (.reg [⟨some 7, .mv, [.slot 1], none⟩,⟨some 8, .min, [.slot 1, .lit (.int .i64 4294967295)], none⟩,⟨some 9, .max, [.lit (.int .i64 0), .slot 8], none⟩,⟨some 1, .give, [.slot 9], none⟩])
 (.seq (.reg [⟨some 10, .mv, [.slot 0], none⟩,⟨some 11, .call 61, [.slot 0], none⟩,⟨some 5, .give, [.slot 11], none⟩])
 (.seq (.seq (.reg [⟨some 6, .take, [.lit (.int .i64 3)], none⟩])
 (.block 0 (.loop (.seq (.seq (.reg [⟨some 12, .mv, [.slot 6], none⟩,⟨some 13, .bin .geq, [.slot 6, .lit (.int .i64 0)], none⟩])
 (.cond (.slot 13) (.skip)
 (.exit 0)))
 (.seq (.block 1 (.reg [⟨some 16, .mv, [.slot 5], none⟩,⟨some 17, .mv, [.slot 1], none⟩,⟨some 18, .mv, [.slot 6], none⟩,⟨some 19, .bin .mul, [.lit (.int .i64 8), .slot 6], none⟩,⟨some 20, .bin .shr, [.slot 1, .slot 19], none⟩,⟨some 21, .cvI .u8, [.slot 20], none⟩,⟨some 22, .bsl 1 1 [.int .u8 0] [0], [.slot 21], none⟩,⟨some 23, .app 1 1 [.int .u8 0], [.slot 5, .slot 22], none⟩,⟨some 5, .give, [.slot 23], none⟩]))
 (.reg [⟨some 14, .mv, [.slot 6], none⟩,⟨some 15, .bin .sub, [.slot 6, .lit (.int .i64 1)], none⟩,⟨some 6, .give, [.slot 15], none⟩]))))))
 (.seq (.reg [⟨some 24, .mv, [.slot 5], none⟩,⟨some 4, .give, [.slot 5], none⟩])
 (.ret)))))),
 25, [.tmp 4]⟩
theorem c59 : cFunc Proofs.Tryd.prog 59 = some sf59 := by kernel_rfl
def sf61 : SF := ⟨(.seq (.reg [⟨some 2, .give, [.lit (.nilS)], none⟩])
 (.seq (.seq (.reg [⟨some 3, .mv, [.slot 0], none⟩,⟨some 4, .eqN .s false, [.slot 0, .lit (.nilS)], none⟩])
 (.cond (.slot 4) (.seq (.reg [⟨some 2, .give, [.lit (.nilS)], none⟩])
 (.ret))
 (.skip)))
 (.seq (.reg [⟨some 5, .bsl 1 0 [.int .u8 0] [], [], none⟩,⟨some 6, .mv, [.slot 0], none⟩,⟨some 7, .app 1 1 [.int .u8 0], [.slot 5, .slot 0], none⟩,⟨some 2, .give, [.slot 7], none⟩])
 (.ret)))),
 8, [.tmp 2]⟩
theorem c61 : cFunc Proofs.Tryd.prog 61 = some sf61 := by kernel_rfl
def sf62 : SF := ⟨(.seq (.reg [⟨some 6, .mv, [.slot 0], none⟩,⟨some 7, .nilc, [.slot 0], none⟩,⟨some 8, .fld 2, [.slot 7], none⟩,⟨some 9, .load 1 false, [.slot 8], none⟩,⟨some 10, .bin .eql, [.slot 9, .lit (.int .i64 0)], none⟩])
 (.cond (.slot 10) (.reg [⟨some 11, .mv, [.slot 0], none⟩,⟨some 12, .mv, [.slot 0], none⟩,⟨some 13, .mv, [.slot 1], none⟩,⟨some 14, .mv, [.slot 2], none⟩,⟨some 15, .nilc, [.slot 0], none⟩,⟨some 16, .fld 2, [.slot 15], none⟩,⟨none, .store 1 false, [.slot 16, .slot 1], none⟩,⟨some 17, .nilc, [.slot 0], none⟩,⟨some 18, .fld 1, [.slot 17], none⟩,⟨none, .store 1 false, [.slot 18, .slot 2], none⟩])
 (.skip))),
 19, []⟩
theorem c62 : cFunc Proofs.Tryd.prog 62 = some sf62 := by kernel_rfl
def sf63 : SF := ⟨(.seq (.reg [⟨some 4, .give, [.lit (.str [])], none⟩])
 (.seq (.reg [⟨some 7, .mv, [.slot 0], none⟩,⟨some 8, .nilc, [.slot 0], none⟩,⟨some 9, .fld 1, [.slot 8], none⟩,⟨some 10, .load 1 false, [.slot 9], none⟩,⟨some 5, .give, [.slot 10], none⟩])
 (.seq (.reg [⟨some 11, .mv, [.slot 0], none⟩,⟨some 12, .mv, [.slot 1], none⟩,⟨some 13, .min, [.slot 1, .lit (.int .i64 16384)], none⟩,⟨some 14, .call 42, [.slot 0, .slot 13], none⟩,⟨some 6, .give, [.slot 14], none⟩])
 (.seq (.seq (.reg [⟨some 15, .mv, [.slot 0], none⟩,⟨some 16, .nilc, [.slot 0], none⟩,⟨some 17, .fld 2, [.slot 16], none⟩,⟨some 18, .load 1 false, [.slot 17], none⟩,⟨some 19, .bin .eql, [.slot 18, .lit (.int .i64 0)], none⟩,⟨some 20, .mv, [.slot 19], none⟩,⟨some 21, .mv, [.slot 0], some (20, true)⟩,⟨some 22, .nilc, [.slot 21], some (20, true)⟩,⟨some 23, .fld 0, [.slot 22], some (20, true)⟩,⟨some 24, .load 1 false, [.slot 23], some (20, true)⟩,⟨some 25, .lenL, [.slot 24], some (20, true)⟩,⟨some 26, .mv, [.slot 0], some (20, true)⟩,⟨some 27, .nilc, [.slot 26], some (20, true)⟩,⟨some 28, .fld 1, [.slot 27], some (20, true)⟩,⟨some 29, .load 1 false, [.slot 28], some (20, true)⟩,⟨some 30, .bin .sub, [.slot 25, .slot 29], some (20, true)⟩,⟨some 31, .mv, [.slot 6], some (20, true)⟩,⟨some 32, .bin .lss, [.slot 30, .slot 31], some (20, true)⟩,⟨some 33, .pick, [.slot 19, .slot 32, .lit (.bool false)], none⟩])
 (.cond (.slot 33) (.reg [⟨some 34, .mv, [.slot 0], none⟩,⟨some 35, .mv, [.slot 5], none⟩,⟨some 36, .call 62, [.slot 0, .lit (.int .i64 4), .slot 5], none⟩])
 (.skip)))
 (.seq (.seq (.reg [⟨some 37, .mv, [.slot 0], none⟩,⟨some 38, .nilc, [.slot 0], none⟩,⟨some 39, .fld 2, [.slot 38], none⟩,⟨some 40, .load 1 false, [.slot 39], none⟩,⟨some 41, .bin .neq, [.slot 40, .lit (.int .i64 0)], none⟩])
 (.cond (.slot 41) (.seq (.reg [⟨some 4, .give, [.lit (.str [])], none⟩])
 (.ret))
 (.skip)))
 (.seq (.reg [⟨some 42, .mv, [.slot 0], none⟩,⟨some 43, .nilc, [.slot 0], none⟩,⟨some 44, .fld 1, [.slot 43], none⟩,⟨some 45, .load 1 false, [.slot 44], none⟩,⟨some 46, .mv, [.slot 6], none⟩,⟨some 47, .bin .add, [.slot 45, .slot 6], none⟩,⟨some 48, .nilc, [.slot 0], none⟩,⟨some 49, .fld 1, [.slot 48], none⟩,⟨none, .store 1 true, [.slot 49, .slot 47], none⟩])
 (.seq (.reg [⟨some 50, .mv, [.slot 0], none⟩,⟨some 51, .nilc, [.slot 0], none⟩,⟨some 52, .fld 0, [.slot 51], none⟩,⟨some 53, .load 1 false, [.slot 52], none⟩,⟨some 54, .mv, [.slot 0], none⟩,⟨some 55, .nilc, [.slot 0], none⟩,⟨some 56, .fld 1, [.slot 55], none⟩,⟨some 57, .load 1 false, [.slot 56], none⟩,⟨some 58, .mv, [.slot 6], none⟩,⟨some 59, .bin .sub, [.slot 57, .slot 6], none⟩,⟨some 60, .mv, [.slot 0], none⟩,⟨some 61, .nilc, [.slot 0], none⟩,⟨some 62, .fld 1, [.slot 61], none⟩,⟨some 63, .load 1 false, [.slot 62], none⟩,⟨some 64, .slcL 1 true true false, [.slot 53, .slot 59, .slot 63], none⟩,⟨some 65, .b2s, [.slot 64], none⟩,⟨some 4, .give, [.slot 65], none⟩])
 (.ret)))))))),
 66, [.tmp 4]⟩
theorem c63 : cFunc Proofs.Tryd.prog 63 = some sf63 := by kernel_rfl
def sf64 : SF := ⟨(.seq (.reg [⟨some 6, .give, [.lit (.int .i64 0)], none⟩,⟨some 7, .give, [.lit (.int .i64 0)], none⟩,⟨some 8, .give, [.lit (.int .i64 0)], none⟩])
 (.seq (.seq (.reg [⟨some 11, .mv, [.slot 0], none⟩,⟨some 12, .lenL, [.slot 0], none⟩,⟨some 13, .mv, [.slot 1], none⟩,⟨some 14, .bin .sub, [.slot 12, .slot 1], none⟩,⟨some 15, .bin .lss, [.slot 14, .lit (.int .i64 4)], none⟩])
 (.cond (.slot 15) (.seq (.reg [⟨some 16, .mv, [.slot 1], none⟩,⟨some 6, .give, [.lit (.int .i64 0)], none⟩,⟨some 7, .give, [.slot 1], none⟩,⟨some 8, .give, [.lit (.int .i64 4)], none⟩])
 (.ret))
 (.skip)))
 (.seq (.reg [⟨some 9, .take, [.lit (.int .i64 0)], none⟩])
 (.seq (.seq (.reg [⟨some 10, .take, [.lit (.int .i64 0)], none⟩])
 (.block 0 (.loop (.seq (.seq (.reg [⟨some 17, .mv, [.slot 10], none⟩,⟨some 18, .bin .lss, [.slot 10, .lit (.int .i64 4)], none⟩])
 (.cond (.slot 18) (.skip)
 (.exit 0)))
 (.seq (.block 1 (.reg [⟨some 21, .mv, [.slot 9], none⟩,⟨some 22, .bin .mul, [.slot 9, .lit (.int .i64 256)], none⟩,⟨some 23, .mv, [.slot 0], none⟩,⟨some 24, .mv, [.slot 1], none⟩,⟨some 25, .mv, [.slot 10], none⟩,⟨some 26, .bin .add, [.slot 1, .slot 10], none⟩,⟨some 27, .idxB 1, [.slot 0, .slot 26], none⟩,⟨some 28, .load 1 false, [.slot 27], none⟩,⟨some 29, .cvI .i64, [.slot 28], none⟩,⟨some 30, .bin .add, [.slot 22, .slot 29], none⟩,⟨some 9, .give, [.slot 30], none⟩]))
 (.reg [⟨some 19, .mv, [.slot 10], none⟩,⟨some 20, .bin .add, [.slot 10, .lit (.int .i64 1)], none⟩,⟨some 10, .give, [.slot 20], none⟩]))))))
 (.seq (.seq (.reg [⟨some 31, .mv, [.slot 9], none⟩,⟨some 32, .mv, [.slot 2], none⟩,⟨some 33, .bin .gtr, [.slot 9, .slot 2], none⟩])
 (.cond (.slot 33) (.seq (.reg [⟨some 34, .mv, [.slot 1], none⟩,⟨some 6, .give, [.lit (.int .i64 0)], none⟩,⟨some 7, .give, [.slot 1], none⟩,⟨some 8, .give, [.lit (.int .i64 5)], none⟩])
 (.ret))
 (.skip)))
 (.seq (.reg [⟨some 35, .mv, [.slot 9], none⟩,⟨some 36, .mv, [.slot 1], none⟩,⟨some 37, .bin .add, [.slot 1, .lit (.int .i64 4)], none⟩,⟨some 6, .give, [.slot 9], none⟩,⟨some 7, .give, [.slot 37], none⟩,⟨some 8, .give, [.lit (.int .i64 0)], none⟩])
 (.ret))))))),
 38, [.tmp 6, .tmp 7, .tmp 8]⟩
theorem c64 : cFunc Proofs.Tryd.prog 64 = some sf64 := by kernel_rfl
def sf65 : SF := ⟨(.seq (.reg [⟨some 6, .give, [.lit (.str [])], none⟩,⟨some 7, .give, [.lit (.int .i64 0)], none⟩,⟨some 8, .give, [.lit (.int .i64 0)], none⟩])
 (.seq (.reg [⟨some 13, .mv, [.slot 0], none⟩,⟨some 14, .mv, [.slot 1], none⟩,⟨some 15, .mv, [.slot 2], none⟩,⟨some 16, .min, [.slot 2, .lit (.int .i64 16384)], none⟩,⟨some 17, .call 64, [.slot 0, .slot 1, .slot 16], none⟩,⟨some 12, .mv, [.slot 17], none⟩,⟨some 18, .ext 0, [.slot 17], none⟩,⟨some 19, .ext 1, [.slot 17], none⟩,⟨some 20, .ext 2, [.slot 17], none⟩,⟨some 9, .give, [.slot 18], none⟩,⟨some 10, .give, [.slot 19], none⟩,⟨some 11, .give, [.slot 20], none⟩])
 (.seq (.seq (.reg [⟨some 21, .mv, [.slot 11], none⟩,⟨some 22, .bin .neq, [.slot 11, .lit (.int .i64 0)], none⟩])
 (.cond (.slot 22) (.seq (.reg [⟨some 23, .mv, [.slot 1], none⟩,⟨some 24, .mv, [.slot 11], none⟩,⟨some 6, .give, [.lit (.str [])], none⟩,⟨some 7, .give, [.slot 1], none⟩,⟨some 8, .give, [.slot 11], none⟩])
 (.ret))
 (.skip)))
 (.seq (.seq (.reg [⟨some 25, .mv, [.slot 0], none⟩,⟨some 26, .lenL, [.slot 0], none⟩,⟨some 27, .mv, [.slot 10], none⟩,⟨some 28, .bin .sub, [.slot 26, .slot 10], none⟩,⟨some 29, .mv, [.slot 9], none⟩,⟨some 30, .bin .lss, [.slot 28, .slot 9], none⟩])
 (.cond (.slot 30) (.seq (.reg [⟨some 31, .mv, [.slot 1], none⟩,⟨some 6, .give, [.lit (.str [])], none⟩,⟨some 7, .give, [.slot 1], none⟩,⟨some 8, .give, [.lit (.int .i64 4)], none⟩])
 (.ret))
 (.skip)))
 (.seq (.reg [⟨some 32, .mv, [.slot 0], none⟩,⟨some 33, .mv, [.slot 10], none⟩,⟨some 34, .mv, [.slot 10], none⟩,⟨some 35, .mv, [.slot 9], none⟩,⟨some 36, .bin .add, [.slot 10, .slot 9], none⟩,⟨some 37, .slcL 1 true true false, [.slot 0, .slot 10, .slot 36], none⟩,⟨some 38, .b2s, [.slot 37], none⟩,⟨some 39, .mv, [.slot 10], none⟩,⟨some 40, .mv, [.slot 9], none⟩,⟨some 41, .bin .add, [.slot 10, .slot 9], none⟩,⟨some 6, .give, [.slot 38], none⟩,⟨some 7, .give, [.slot 41], none⟩,⟨some 8, .give, [.lit (.int .i64 0)], none⟩])
 (.ret)))))),
 42, [.tmp 6, .tmp 7, .tmp 8]⟩
theorem c65 : cFunc Proofs.Tryd.prog 65 = some sf65 := by kernel_rfl
def sf67 : SF := ⟨(.seq (.reg [⟨some 2, .give, [.lit (.nilS)], none⟩])
 (.seq (.reg [⟨some 6, .mv, [.slot 0], none⟩,⟨some 7, .call 70, [.slot 0, .lit (.str [47])], none⟩,⟨some 3, .give, [.slot 7], none⟩])
 (.seq (.seq (.reg [⟨some 8, .mv, [.slot 3], none⟩,⟨some 9, .lenL, [.slot 3], none⟩,⟨some 10, .bin .gtr, [.slot 9, .lit (.int .i64 4)], none⟩])
 (.cond (.slot 10) (.seq (.reg [⟨some 2, .give, [.lit (.nilS)], none⟩])
 (.ret))
 (.skip)))
 (.seq (.seq (.reg [⟨some 11, .mv, [.slot 3], none⟩,⟨some 12, .lenL, [.slot 3], none⟩,⟨some 13, .mv, [.lit (.int .i64 0)], none⟩])
 (.block 0 (.loop (.seq (.reg [⟨some 14, .bin .lss, [.slot 13, .slot 12], none⟩])
 (.seq (.cond (.slot 14) (.skip)
 (.exit 0))
 (.seq (.block 1 (.seq (.reg [⟨some 15, .idxB 1, [.slot 11, .slot 13], none⟩,⟨some 16, .load 1 false, [.slot 15], none⟩,⟨some 5, .give, [.slot 16], none⟩])
 (.seq (.reg [⟨some 17, .mv, [.slot 5], none⟩,⟨some 18, .call 71, [.slot 5], none⟩,⟨some 19, .un .not, [.slot 18], none⟩])
 (.cond (.slot 19) (.seq (.reg [⟨some 2, .give, [.lit (.nilS)], none⟩])
 (.ret))
 (.skip)))))
 (.reg [⟨some 20, .bin .add, [.slot 13, .lit (.int .i64 1)], none⟩,⟨some 13, .mv, [.slot 20], none⟩])))))))
 (.seq (.reg [⟨some 21, .mv, [.slot 3], none⟩,⟨some 2, .give, [.slot 3], none⟩])
 (.ret)))))),
 22, [.tmp 2]⟩
theorem c67 : cFunc Proofs.Tryd.prog 67 = some sf67 := by kernel_rfl
def sf68 : SF := ⟨(.seq (.reg [⟨some 2, .give, [.lit (.nilS)], none⟩])
 (.seq (.reg [⟨some 3, .take, [.lit (.nilS)], none⟩])
 (.seq (.reg [⟨some 4, .take, [.lit (.int .i64 0)], none⟩])
 (.seq (.seq (.reg [⟨some 5, .take, [.lit (.int .i64 0)], none⟩])
 (.block 0 (.loop (.seq (.seq (.reg [⟨some 6, .mv, [.slot 5], none⟩,⟨some 7, .mv, [.slot 0], none⟩,⟨some 8, .lenS, [.slot 0], none⟩,⟨some 9, .bin .leq, [.slot 5, .slot 8], none⟩])
 (.cond (.slot 9) (.skip)
 (.exit 0)))
 (.seq (.block 1 (.seq (.reg [⟨some 12, .mv, [.slot 5], none⟩,⟨some 13, .mv, [.slot 0], none⟩,⟨some 14, .lenS, [.slot 0], none⟩,⟨some 15, .bin .eql, [.slot 5, .slot 14], none⟩,⟨some 16, .mv, [.slot 15], none⟩,⟨some 17, .take, [.slot 0], some (16, false)⟩,⟨some 18, .take, [.slot 5], some (16, false)⟩,⟨some 19, .idxS, [.slot 17, .slot 18], some (16, false)⟩,⟨some 20, .bin .eql, [.slot 19, .lit (.int .u8 47)], some (16, false)⟩,⟨some 21, .pick, [.slot 15, .lit (.bool true), .slot 20], none⟩])
 (.cond (.slot 21) (.seq (.reg [⟨some 22, .mv, [.slot 3], none⟩,⟨some 23, .mv, [.slot 0], none⟩,⟨some 24, .mv, [.slot 4], none⟩,⟨some 25, .mv, [.slot 5], none⟩,⟨some 26, .slcS true true, [.slot 0, .slot 4, .slot 5], none⟩,⟨some 27, .bsl 1 1 [.str []] [0], [.slot 26], none⟩,⟨some 28, .app 1 16 [.str []], [.slot 3, .slot 27], none⟩,⟨some 3, .give, [.slot 28], none⟩])
 (.reg [⟨some 29, .mv, [.slot 5], none⟩,⟨some 30, .bin .add, [.slot 5, .lit (.int .i64 1)], none⟩,⟨some 4, .give, [.slot 30], none⟩]))
 (.skip))))
 (.reg [⟨some 10, .mv, [.slot 5], none⟩,⟨some 11, .bin .add, [.slot 5, .lit (.int .i64 1)], none⟩,⟨some 5, .give, [.slot 11], none⟩]))))))
 (.seq (.reg [⟨some 31, .mv, [.slot 3], none⟩,⟨some 2, .give, [.slot 3], none⟩])
 (.ret)))))),
 32, [.tmp 2]⟩
theorem c68 : cFunc Proofs.Tryd.prog 68 = some sf68 := by kernel_rfl
def sf69 : SF := ⟨(.seq (.reg [⟨some 2, .give, [.lit (.bool false)], none⟩])
 (.seq (.seq (.reg [⟨some 5, .mv, [.slot 0], none⟩,⟨some 6, .lenS, [.slot 0], none⟩,⟨some 7, .bin .lss, [.slot 6, .lit (.int .i64 1)], none⟩,⟨some 8, .mv, [.slot 7], none⟩,⟨some 9, .take, [.slot 0], some (8, false)⟩,⟨some 10, .lenS, [.slot 9], some (8, false)⟩,⟨some 11, .bin .gtr, [.slot 10, .lit (.int .i64 12)], some (8, false)⟩,⟨some 12, .pick, [.slot 7, .lit (.bool true), .slot 11], none⟩,⟨some 13, .mv, [.slot 12], none⟩,⟨some 14, .take, [.slot 0], some (13, false)⟩,⟨some 15, .bin .eql, [.slot 14, .lit (.str [46])], some (13, false)⟩,⟨some 16, .pick, [.slot 12, .lit (.bool true), .slot 15], none⟩,⟨some 17, .mv, [.slot 16], none⟩,⟨some 18, .take, [.slot 0], some (17, false)⟩,⟨some 19, .bin .eql, [.slot 18, .lit (.str [46, 46])], some (17, false)⟩,⟨some 20, .pick, [.slot 16, .lit (.bool true), .slot 19], none⟩])
 (.cond (.slot 20) (.seq (.reg [⟨some 2, .give, [.lit (.bool false)], none⟩])
 (.ret))
 (.skip)))
 (.seq (.seq (.reg [⟨some 3, .take, [.lit (.int .i64 0)], none⟩])
 (.block 0 (.loop (.seq (.seq (.reg [⟨some 21, .mv, [.slot 3], none⟩,⟨some 22, .mv, [.slot 0], none⟩,⟨some 23, .lenS, [.slot 0], none⟩,⟨some 24, .bin .lss, [.slot 3, .slot 23], none⟩])
 (.cond (.slot 24) (.skip)
 (.exit 0)))
 (.seq (.block 1 (.seq (.reg [⟨some 27, .mv, [.slot 0], none⟩,⟨some 28, .mv, [.slot 3], none⟩,⟨some 29, .idxS, [.slot 0, .slot 3], none⟩,⟨some 4, .give, [.slot 29], none⟩])
 (.seq (.reg [⟨some 30, .mv, [.slot 4], none⟩,⟨some 31, .bin .geq, [.slot 4, .lit (.int .u8 97)], none⟩,⟨some 32, .mv, [.slot 31], none⟩,⟨some 33, .take, [.slot 4], some (32, true)⟩,⟨some 34, .bin .leq, [.slot 33, .lit (.int .u8 122)], some (32, true)⟩,⟨some 35, .pick, [.slot 31, .slot 34, .lit (.bool false)], none⟩,⟨some 36, .mv, [.slot 35], none⟩,⟨some 37, .take, [.slot 4], some (36, false)⟩,⟨some 38, .bin .geq, [.slot 37, .lit (.int .u8 48)], some (36, false)⟩,⟨some 39, .take, [.slot 38], some (36, false)⟩,⟨some 40, .take, [.slot 4], some (39, true)⟩,⟨some 41, .bin .leq, [.slot 40, .lit (.int .u8 57)], some (39, true)⟩,⟨some 42, .pick, [.slot 39, .slot 41, .lit (.bool false)], some (36, false)⟩,⟨some 43, .pick, [.slot 35, .lit (.bool true), .slot 42], none⟩,⟨some 44, .mv, [.slot 43], none⟩,⟨some 45, .take, [.slot 4], some (44, false)⟩,⟨some 46, .bin .eql, [.slot 45, .lit (.int .u8 46)], some (44, false)⟩,⟨some 47, .pick, [.slot 43, .lit (.bool true), .slot 46], none⟩,⟨some 48, .mv, [.slot 47], none⟩,⟨some 49, .take, [.slot 4], some (48, false)⟩,⟨some 50, .bin .eql, [.slot 49, .lit (.int .u8 45)], some (48, false)⟩,⟨some 51, .pick, [.slot 47, .lit (.bool true), .slot 50], none⟩,⟨some 52, .un .not, [.slot 51], none⟩])
 (.cond (.slot 52) (.seq (.reg [⟨some 2, .give, [.lit (.bool false)], none⟩])
 (.ret))
 (.skip)))))
 (.reg [⟨some 25, .mv, [.slot 3], none⟩,⟨some 26, .bin .add, [.slot 3, .lit (.int .i64 1)], none⟩,⟨some 3, .give, [.slot 26], none⟩]))))))
 (.seq (.reg [⟨some 2, .give, [.lit (.bool true)], none⟩])
 (.ret))))),
 53, [.tmp 2]⟩
theorem c69 : cFunc Proofs.Tryd.prog 69 = some sf69 := by kernel_rfl
def sf71 : SF := ⟨(.seq (.reg [⟨some 2, .give, [.lit (.bool false)], none⟩])
 (.seq (.seq (.reg [⟨some 6, .mv, [.slot 0], none⟩,⟨some 7, .s2b, [.slot 0], none⟩,⟨some 8, .lenL, [.slot 7], none⟩,⟨some 9, .mv, [.lit (.int .i64 0)], none⟩])
 (.block 0 (.loop (.seq (.reg [⟨some 10, .bin .lss, [.slot 9, .slot 8], none⟩])
 (.seq (.cond (.slot 10) (.skip)
 (.exit 0))
 (.seq (.block 1 (.seq (.reg [⟨some 11, .idxB 1, [.slot 7, .slot 9], none⟩,⟨some 12, .load 1 false, [.slot 11], none⟩,⟨some 4, .give, [.slot 12], none⟩])
 (.seq (.reg [⟨some 13, .mv, [.slot 4], none⟩,⟨some 14, .bin .geq, [.slot 4, .lit (.int .u8 97)], none⟩,⟨some 15, .mv, [.slot 14], none⟩,⟨some 16, .take, [.slot 4], some (15, true)⟩,⟨some 17, .bin .leq, [.slot 16, .lit (.int .u8 122)], some (15, true)⟩,⟨some 18, .pick, [.slot 14, .slot 17, .lit (.bool false)], none⟩,⟨some 19, .mv, [.slot 18], none⟩,⟨some 20, .take, [.slot 4], some (19, false)⟩,⟨some 21, .bin .geq, [.slot 20, .lit (.int .u8 48)], some (19, false)⟩,⟨some 22, .take, [.slot 21], some (19, false)⟩,⟨some 23, .take, [.slot 4], some (22, true)⟩,⟨some 24, .bin .leq, [.slot 23, .lit (.int .u8 57)], some (22, true)⟩,⟨some 25, .pick, [.slot 22, .slot 24, .lit (.bool false)], some (19, false)⟩,⟨some 26, .pick, [.slot 18, .lit (.bool true), .slot 25], none⟩,⟨some 5, .give, [.slot 26], none⟩])
 (.seq (.reg [⟨some 27, .mv, [.slot 5], none⟩,⟨some 28, .un .not, [.slot 5], none⟩,⟨some 29, .mv, [.slot 28], none⟩,⟨some 30, .take, [.slot 4], some (29, true)⟩,⟨some 31, .call 73, [.lit (.str [46, 45]), .slot 30], some (29, true)⟩,⟨some 32, .bin .lss, [.slot 31, .lit (.int .i64 0)], some (29, true)⟩,⟨some 33, .pick, [.slot 28, .slot 32, .lit (.bool false)], none⟩])
 (.cond (.slot 33) (.seq (.reg [⟨some 2, .give, [.lit (.bool false)], none⟩])
 (.ret))
 (.skip))))))
 (.reg [⟨some 34, .bin .add, [.slot 9, .lit (.int .i64 1)], none⟩,⟨some 9, .mv, [.slot 34], none⟩])))))))
 (.seq (.reg [⟨some 35, .mv, [.slot 0], none⟩,⟨some 36, .lenS, [.slot 0], none⟩,⟨some 37, .bin .gtr, [.slot 36, .lit (.int .i64 0)], none⟩,⟨some 38, .mv, [.slot 37], none⟩,⟨some 39, .take, [.slot 0], some (38, true)⟩,⟨some 40, .lenS, [.slot 39], some (38, true)⟩,⟨some 41, .bin .leq, [.slot 40, .lit (.int .i64 12)], some (38, true)⟩,⟨some 42, .pick, [.slot 37, .slot 41, .lit (.bool false)], none⟩,⟨some 43, .mv, [.slot 42], none⟩,⟨some 44, .take, [.slot 0], some (43, true)⟩,⟨some 45, .bin .neq, [.slot 44, .lit (.str [46])], some (43, true)⟩,⟨some 46, .pick, [.slot 42, .slot 45, .lit (.bool false)], none⟩,⟨some 47, .mv, [.slot 46], none⟩,⟨some 48, .take, [.slot 0], some (47, true)⟩,⟨some 49, .bin .neq, [.slot 48, .lit (.str [46, 46])], some (47, true)⟩,⟨some 50, .pick, [.slot 46, .slot 49, .lit (.bool false)], none⟩,⟨some 2, .give, [.slot 50], none⟩])
 (.ret)))),
 51, [.tmp 2]⟩
theorem c71 : cFunc Proofs.Tryd.prog 71 = some sf71 := by kernel_rfl
end Go.Sh.F
