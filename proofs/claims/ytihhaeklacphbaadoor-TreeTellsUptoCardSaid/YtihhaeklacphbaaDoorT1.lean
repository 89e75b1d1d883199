/-
 The program functions of this seat in the shadow machine form: printed by shc.py, checked by the kernel.
-/
import Derived.Test.YtihhaeklacphbaaDoorShY
import Derived.Test.YtihhaeklacphbaaDoorProg
import Derived.KernelRfl
namespace Go.Sh.F
/-- carpetbag/carpetbaglaw04.TreeTells -/
def sf3 : SF := ⟨(.seq (.reg [⟨some 8, .give, [.lit (.bool false)], none⟩])
 (.seq (.reg [⟨some 28, .call 10, [], none⟩,
 ⟨some 9, .give, [.slot 28], none⟩])
 (.seq (.reg [⟨some 29, .mv, [.slot 0], none⟩,
 ⟨some 30, .call 11, [.slot 0], none⟩,
 ⟨some 10, .give, [.slot 30], none⟩])
 (.seq (.reg [⟨some 31, .mv, [.slot 1], none⟩,
 ⟨some 32, .call 11, [.slot 1], none⟩,
 ⟨some 11, .give, [.slot 32], none⟩])
 (.seq (.seq (.reg [⟨some 33, .mv, [.slot 10], none⟩,
 ⟨some 34, .un .not, [.slot 10], none⟩,
 ⟨some 35, .mv, [.slot 34], none⟩,
 ⟨some 36, .take, [.slot 11], some (35, false)⟩,
 ⟨some 37, .un .not, [.slot 36], some (35, false)⟩,
 ⟨some 38, .pick, [.slot 34, .lit (.bool true), .slot 37], none⟩,
 ⟨some 39, .mv, [.slot 38], none⟩,
 ⟨some 40, .take, [.slot 2], some (39, false)⟩,
 ⟨some 41, .lenS, [.slot 40], some (39, false)⟩,
 ⟨some 42, .bin .gtr, [.slot 41, .lit (.int .i64 100)], some (39, false)⟩,
 ⟨some 43, .pick, [.slot 38, .lit (.bool true), .slot 42], none⟩,
 ⟨some 44, .mv, [.slot 43], none⟩,
 ⟨some 45, .take, [.slot 3], some (44, false)⟩,
 ⟨some 46, .lenS, [.slot 45], some (44, false)⟩,
 ⟨some 47, .bin .gtr, [.slot 46, .lit (.int .i64 1000)], some (44, false)⟩,
 ⟨some 48, .pick, [.slot 43, .lit (.bool true), .slot 47], none⟩])
 (.cond (.slot 48) (.seq (.reg [⟨some 49, .mv, [.slot 9], none⟩,
 ⟨some 8, .give, [.slot 9], none⟩])
 (.ret))
 (.skip)))
 (.seq (.reg [⟨some 50, .bsl 2 0 [.str [], .str []] [], [], none⟩,
 ⟨some 51, .mv, [.slot 0], none⟩,
 ⟨some 52, .app 2 32 [.str [], .str []], [.slot 50, .slot 0], none⟩,
 ⟨some 12, .give, [.slot 52], none⟩])
 (.seq (.reg [⟨some 54, .mv, [.slot 12], none⟩,
 ⟨some 55, .mv, [.slot 2], none⟩,
 ⟨some 56, .mv, [.slot 3], none⟩,
 ⟨some 57, .call 12, [.slot 12, .slot 2, .slot 3], none⟩,
 ⟨some 53, .mv, [.slot 57], none⟩,
 ⟨some 58, .ext 0, [.slot 57], none⟩,
 ⟨some 59, .ext 1, [.slot 57], none⟩,
 ⟨some 13, .giveO, [.slot 58], none⟩,
 ⟨some 14, .give, [.slot 59], none⟩])
 (.seq (.reg [⟨some 61, .mv, [.slot 0], none⟩,
 ⟨some 62, .mv, [.slot 2], none⟩,
 ⟨some 63, .mv, [.slot 3], none⟩,
 ⟨some 64, .call 13, [.slot 0, .slot 2, .slot 3], none⟩,
 ⟨some 60, .mv, [.slot 64], none⟩,
 ⟨some 65, .ext 0, [.slot 64], none⟩,
 ⟨some 66, .ext 1, [.slot 64], none⟩,
 ⟨some 15, .give, [.slot 65], none⟩,
 ⟨some 16, .give, [.slot 66], none⟩])
 (.seq (.reg [⟨some 68, .mv, [.slot 12], none⟩,
 ⟨some 69, .mv, [.slot 2], none⟩,
 ⟨some 70, .call 14, [.slot 12, .slot 2], none⟩,
 ⟨some 67, .mv, [.slot 70], none⟩,
 ⟨some 71, .ext 0, [.slot 70], none⟩,
 ⟨some 72, .ext 1, [.slot 70], none⟩,
 ⟨some 17, .giveO, [.slot 71], none⟩,
 ⟨some 18, .give, [.slot 72], none⟩])
 (.seq (.reg [⟨some 74, .mv, [.slot 0], none⟩,
 ⟨some 75, .mv, [.slot 2], none⟩,
 ⟨some 76, .call 15, [.slot 0, .slot 2], none⟩,
 ⟨some 73, .mv, [.slot 76], none⟩,
 ⟨some 77, .ext 0, [.slot 76], none⟩,
 ⟨some 78, .ext 1, [.slot 76], none⟩,
 ⟨some 19, .give, [.slot 77], none⟩,
 ⟨some 20, .give, [.slot 78], none⟩])
 (.seq (.reg [⟨some 80, .mv, [.slot 0], none⟩,
 ⟨some 81, .mv, [.slot 2], none⟩,
 ⟨some 82, .call 16, [.slot 0, .slot 2], none⟩,
 ⟨some 79, .mv, [.slot 82], none⟩,
 ⟨some 83, .ext 0, [.slot 82], none⟩,
 ⟨some 84, .ext 1, [.slot 82], none⟩,
 ⟨some 21, .give, [.slot 83], none⟩,
 ⟨some 22, .give, [.slot 84], none⟩])
 (.seq (.reg [⟨some 86, .mv, [.slot 0], none⟩,
 ⟨some 87, .mv, [.slot 2], none⟩,
 ⟨some 88, .call 17, [.slot 0, .slot 2], none⟩,
 ⟨some 85, .mv, [.slot 88], none⟩,
 ⟨some 89, .ext 0, [.slot 88], none⟩,
 ⟨some 90, .ext 1, [.slot 88], none⟩,
 ⟨some 23, .give, [.slot 89], none⟩,
 ⟨some 24, .give, [.slot 90], none⟩])
 (.seq (.reg [⟨some 91, .mv, [.slot 13], none⟩,
 ⟨some 92, .mv, [.slot 15], none⟩,
 ⟨some 93, .call 18, [.slot 13, .slot 15], none⟩,
 ⟨some 94, .mv, [.slot 93], none⟩,
 ⟨some 95, .take, [.slot 14], some (94, true)⟩,
 ⟨some 96, .take, [.slot 16], some (94, true)⟩,
 ⟨some 97, .bin .eql, [.slot 95, .slot 96], some (94, true)⟩,
 ⟨some 98, .pick, [.slot 93, .slot 97, .lit (.bool false)], none⟩,
 ⟨some 99, .mv, [.slot 98], none⟩,
 ⟨some 100, .take, [.slot 17], some (99, true)⟩,
 ⟨some 101, .take, [.slot 19], some (99, true)⟩,
 ⟨some 102, .call 18, [.slot 100, .slot 101], some (99, true)⟩,
 ⟨some 103, .pick, [.slot 98, .slot 102, .lit (.bool false)], none⟩,
 ⟨some 104, .mv, [.slot 103], none⟩,
 ⟨some 105, .take, [.slot 18], some (104, true)⟩,
 ⟨some 106, .take, [.slot 20], some (104, true)⟩,
 ⟨some 107, .bin .eql, [.slot 105, .slot 106], some (104, true)⟩,
 ⟨some 108, .pick, [.slot 103, .slot 107, .lit (.bool false)], none⟩,
 ⟨some 109, .mv, [.slot 108], none⟩,
 ⟨some 110, .take, [.slot 21], some (109, true)⟩,
 ⟨some 111, .take, [.slot 23], some (109, true)⟩,
 ⟨some 112, .bin .eql, [.slot 110, .slot 111], some (109, true)⟩,
 ⟨some 113, .pick, [.slot 108, .slot 112, .lit (.bool false)], none⟩,
 ⟨some 114, .mv, [.slot 113], none⟩,
 ⟨some 115, .take, [.slot 22], some (114, true)⟩,
 ⟨some 116, .take, [.slot 24], some (114, true)⟩,
 ⟨some 117, .eqB false, [.slot 115, .slot 116], some (114, true)⟩,
 ⟨some 118, .pick, [.slot 113, .slot 117, .lit (.bool false)], none⟩,
 ⟨some 25, .give, [.slot 118], none⟩])
 (.seq (.seq (.reg [⟨some 26, .take, [.lit (.int .i64 0)], none⟩])
 (.block 0 (.loop (.seq (.seq (.reg [⟨some 119, .mv, [.slot 26], none⟩,
 ⟨some 120, .mv, [.slot 13], none⟩,
 ⟨some 121, .lenL, [.slot 13], none⟩,
 ⟨some 122, .bin .lss, [.slot 26, .slot 121], none⟩])
 (.cond (.slot 122) (.skip)
 (.exit 0)))
 (.seq (.block 1 (.reg [⟨some 125, .mv, [.slot 13], none⟩,
 ⟨some 126, .mv, [.slot 26], none⟩,
 ⟨some 127, .idxB 2, [.slot 13, .slot 26], none⟩,
 ⟨some 128, .fld 0, [.slot 127], none⟩,
 ⟨none, .store 1 false, [.slot 128, .lit (.str [115, 112, 111, 105, 108, 116])], none⟩]))
 (.reg [⟨some 123, .mv, [.slot 26], none⟩,
 ⟨some 124, .bin .add, [.slot 26, .lit (.int .i64 1)], none⟩,
 ⟨some 26, .give, [.slot 124], none⟩]))))))
 (.seq (.seq (.reg [⟨some 27, .take, [.lit (.int .i64 0)], none⟩])
 (.block 2 (.loop (.seq (.seq (.reg [⟨some 129, .mv, [.slot 27], none⟩,
 ⟨some 130, .mv, [.slot 17], none⟩,
 ⟨some 131, .lenL, [.slot 17], none⟩,
 ⟨some 132, .bin .lss, [.slot 27, .slot 131], none⟩])
 (.cond (.slot 132) (.skip)
 (.exit 2)))
 (.seq (.block 3 (.reg [⟨some 135, .mv, [.slot 17], none⟩,
 ⟨some 136, .mv, [.slot 27], none⟩,
 ⟨some 137, .idxB 2, [.slot 17, .slot 27], none⟩,
 ⟨some 138, .fld 0, [.slot 137], none⟩,
 ⟨none, .store 1 false, [.slot 138, .lit (.str [115, 112, 111, 105, 108, 116])], none⟩]))
 (.reg [⟨some 133, .mv, [.slot 27], none⟩,
 ⟨some 134, .bin .add, [.slot 27, .lit (.int .i64 1)], none⟩,
 ⟨some 27, .give, [.slot 134], none⟩]))))))
 (.seq (.reg [⟨some 139, .mv, [.slot 9], none⟩,
 ⟨some 140, .mv, [.slot 9], none⟩,
 ⟨some 141, .take, [.slot 25], some (140, true)⟩,
 ⟨some 142, .pick, [.slot 9, .slot 141, .lit (.bool false)], none⟩,
 ⟨some 143, .mv, [.slot 142], none⟩,
 ⟨some 144, .take, [.slot 12], some (143, true)⟩,
 ⟨some 145, .take, [.slot 0], some (143, true)⟩,
 ⟨some 146, .call 18, [.slot 144, .slot 145], some (143, true)⟩,
 ⟨some 147, .pick, [.slot 142, .slot 146, .lit (.bool false)], none⟩,
 ⟨some 148, .mv, [.slot 147], none⟩,
 ⟨some 149, .take, [.slot 0], some (148, true)⟩,
 ⟨some 150, .call 19, [.slot 149], some (148, true)⟩,
 ⟨some 151, .take, [.slot 0], some (148, true)⟩,
 ⟨some 152, .call 20, [.slot 151], some (148, true)⟩,
 ⟨some 153, .eqB false, [.slot 150, .slot 152], some (148, true)⟩,
 ⟨some 154, .pick, [.slot 147, .slot 153, .lit (.bool false)], none⟩,
 ⟨some 155, .mv, [.slot 154], none⟩,
 ⟨some 156, .take, [.slot 0], some (155, true)⟩,
 ⟨some 157, .take, [.slot 2], some (155, true)⟩,
 ⟨some 158, .call 21, [.slot 156, .slot 157], some (155, true)⟩,
 ⟨some 159, .take, [.slot 0], some (155, true)⟩,
 ⟨some 160, .take, [.slot 2], some (155, true)⟩,
 ⟨some 161, .call 22, [.slot 159, .slot 160], some (155, true)⟩,
 ⟨some 162, .bin .eql, [.slot 158, .slot 161], some (155, true)⟩,
 ⟨some 163, .pick, [.slot 154, .slot 162, .lit (.bool false)], none⟩,
 ⟨some 164, .mv, [.slot 163], none⟩,
 ⟨some 165, .take, [.slot 0], some (164, true)⟩,
 ⟨some 166, .take, [.slot 1], some (164, true)⟩,
 ⟨some 167, .call 23, [.slot 165, .slot 166], some (164, true)⟩,
 ⟨some 168, .take, [.slot 0], some (164, true)⟩,
 ⟨some 169, .take, [.slot 1], some (164, true)⟩,
 ⟨some 170, .call 18, [.slot 168, .slot 169], some (164, true)⟩,
 ⟨some 171, .eqB false, [.slot 167, .slot 170], some (164, true)⟩,
 ⟨some 172, .pick, [.slot 163, .slot 171, .lit (.bool false)], none⟩,
 ⟨some 173, .mv, [.slot 172], none⟩,
 ⟨some 174, .take, [.slot 0], some (173, true)⟩,
 ⟨some 175, .call 24, [.slot 174], some (173, true)⟩,
 ⟨some 176, .take, [.slot 0], some (173, true)⟩,
 ⟨some 177, .call 25, [.slot 176], some (173, true)⟩,
 ⟨some 178, .bin .eql, [.slot 175, .slot 177], some (173, true)⟩,
 ⟨some 179, .pick, [.slot 172, .slot 178, .lit (.bool false)], none⟩,
 ⟨some 180, .mv, [.slot 179], none⟩,
 ⟨some 181, .take, [.slot 0], some (180, true)⟩,
 ⟨some 182, .take, [.slot 2], some (180, true)⟩,
 ⟨some 183, .call 27, [.slot 181, .slot 182], some (180, true)⟩,
 ⟨some 184, .take, [.slot 0], some (180, true)⟩,
 ⟨some 185, .take, [.slot 2], some (180, true)⟩,
 ⟨some 186, .call 28, [.slot 184, .slot 185], some (180, true)⟩,
 ⟨some 187, .call 26, [.slot 183, .slot 186], some (180, true)⟩,
 ⟨some 188, .pick, [.slot 179, .slot 187, .lit (.bool false)], none⟩,
 ⟨some 8, .give, [.slot 188], none⟩])
 (.ret))))))))))))))))),
 189, [.tmp 8]⟩
theorem c3 : cFunc Proofs.Tryd.prog 3 = some sf3 := by kernel_rfl
/-- carpetbag/carpetbaglaw04.TreeKeeps -/
def sf4 : SF := ⟨(.seq (.reg [⟨some 8, .give, [.lit (.bool false)], none⟩])
 (.seq (.reg [⟨some 23, .call 10, [], none⟩,
 ⟨some 9, .give, [.slot 23], none⟩])
 (.seq (.reg [⟨some 24, .mv, [.slot 0], none⟩,
 ⟨some 25, .call 11, [.slot 0], none⟩,
 ⟨some 10, .give, [.slot 25], none⟩])
 (.seq (.seq (.reg [⟨some 26, .mv, [.slot 10], none⟩,
 ⟨some 27, .un .not, [.slot 10], none⟩,
 ⟨some 28, .mv, [.slot 27], none⟩,
 ⟨some 29, .take, [.slot 0], some (28, false)⟩,
 ⟨some 30, .call 19, [.slot 29], some (28, false)⟩,
 ⟨some 31, .un .not, [.slot 30], some (28, false)⟩,
 ⟨some 32, .pick, [.slot 27, .lit (.bool true), .slot 31], none⟩,
 ⟨some 33, .mv, [.slot 32], none⟩,
 ⟨some 34, .take, [.slot 1], some (33, false)⟩,
 ⟨some 35, .lenS, [.slot 34], some (33, false)⟩,
 ⟨some 36, .bin .gtr, [.slot 35, .lit (.int .i64 100)], some (33, false)⟩,
 ⟨some 37, .pick, [.slot 32, .lit (.bool true), .slot 36], none⟩,
 ⟨some 38, .mv, [.slot 37], none⟩,
 ⟨some 39, .take, [.slot 2], some (38, false)⟩,
 ⟨some 40, .lenS, [.slot 39], some (38, false)⟩,
 ⟨some 41, .bin .gtr, [.slot 40, .lit (.int .i64 1000)], some (38, false)⟩,
 ⟨some 42, .pick, [.slot 37, .lit (.bool true), .slot 41], none⟩,
 ⟨some 43, .mv, [.slot 42], none⟩,
 ⟨some 44, .take, [.slot 3], some (43, false)⟩,
 ⟨some 45, .lenS, [.slot 44], some (43, false)⟩,
 ⟨some 46, .bin .gtr, [.slot 45, .lit (.int .i64 100)], some (43, false)⟩,
 ⟨some 47, .pick, [.slot 42, .lit (.bool true), .slot 46], none⟩])
 (.cond (.slot 47) (.seq (.reg [⟨some 48, .mv, [.slot 9], none⟩,
 ⟨some 8, .give, [.slot 9], none⟩])
 (.ret))
 (.skip)))
 (.seq (.reg [⟨some 50, .mv, [.slot 0], none⟩,
 ⟨some 51, .mv, [.slot 1], none⟩,
 ⟨some 52, .mv, [.slot 2], none⟩,
 ⟨some 53, .call 12, [.slot 0, .slot 1, .slot 2], none⟩,
 ⟨some 49, .mv, [.slot 53], none⟩,
 ⟨some 54, .ext 0, [.slot 53], none⟩,
 ⟨some 55, .ext 1, [.slot 53], none⟩,
 ⟨some 11, .give, [.slot 54], none⟩,
 ⟨some 12, .give, [.slot 55], none⟩])
 (.seq (.seq (.reg [⟨some 56, .mv, [.slot 12], none⟩,
 ⟨some 57, .bin .neq, [.slot 12, .lit (.int .i64 0)], none⟩])
 (.cond (.slot 57) (.seq (.reg [⟨some 58, .mv, [.slot 9], none⟩,
 ⟨some 59, .mv, [.slot 9], none⟩,
 ⟨some 60, .take, [.slot 11], some (59, true)⟩,
 ⟨some 61, .lenL, [.slot 60], some (59, true)⟩,
 ⟨some 62, .bin .eql, [.slot 61, .lit (.int .i64 0)], some (59, true)⟩,
 ⟨some 63, .pick, [.slot 9, .slot 62, .lit (.bool false)], none⟩,
 ⟨some 8, .give, [.slot 63], none⟩])
 (.ret))
 (.skip)))
 (.seq (.reg [⟨some 65, .mv, [.slot 11], none⟩,
 ⟨some 66, .mv, [.slot 1], none⟩,
 ⟨some 67, .call 16, [.slot 11, .slot 1], none⟩,
 ⟨some 64, .mv, [.slot 67], none⟩,
 ⟨some 68, .ext 0, [.slot 67], none⟩,
 ⟨some 69, .ext 1, [.slot 67], none⟩,
 ⟨some 13, .give, [.slot 68], none⟩,
 ⟨some 14, .give, [.slot 69], none⟩])
 (.seq (.seq (.reg [⟨some 70, .mv, [.slot 13], none⟩,
 ⟨some 71, .mv, [.slot 2], none⟩,
 ⟨some 72, .bin .neq, [.slot 13, .slot 2], none⟩,
 ⟨some 73, .mv, [.slot 72], none⟩,
 ⟨some 74, .take, [.slot 14], some (73, false)⟩,
 ⟨some 75, .un .not, [.slot 74], some (73, false)⟩,
 ⟨some 76, .pick, [.slot 72, .lit (.bool true), .slot 75], none⟩,
 ⟨some 77, .mv, [.slot 76], none⟩,
 ⟨some 78, .take, [.slot 11], some (77, false)⟩,
 ⟨some 79, .call 19, [.slot 78], some (77, false)⟩,
 ⟨some 80, .un .not, [.slot 79], some (77, false)⟩,
 ⟨some 81, .pick, [.slot 76, .lit (.bool true), .slot 80], none⟩])
 (.cond (.slot 81) (.seq (.reg [⟨some 8, .give, [.lit (.bool false)], none⟩])
 (.ret))
 (.skip)))
 (.seq (.reg [⟨some 83, .mv, [.slot 0], none⟩,
 ⟨some 84, .mv, [.slot 3], none⟩,
 ⟨some 85, .call 16, [.slot 0, .slot 3], none⟩,
 ⟨some 82, .mv, [.slot 85], none⟩,
 ⟨some 86, .ext 0, [.slot 85], none⟩,
 ⟨some 87, .ext 1, [.slot 85], none⟩,
 ⟨some 15, .give, [.slot 86], none⟩,
 ⟨some 16, .give, [.slot 87], none⟩])
 (.seq (.reg [⟨some 89, .mv, [.slot 11], none⟩,
 ⟨some 90, .mv, [.slot 3], none⟩,
 ⟨some 91, .call 16, [.slot 11, .slot 3], none⟩,
 ⟨some 88, .mv, [.slot 91], none⟩,
 ⟨some 92, .ext 0, [.slot 91], none⟩,
 ⟨some 93, .ext 1, [.slot 91], none⟩,
 ⟨some 17, .give, [.slot 92], none⟩,
 ⟨some 18, .give, [.slot 93], none⟩])
 (.seq (.seq (.reg [⟨some 94, .mv, [.slot 3], none⟩,
 ⟨some 95, .mv, [.slot 1], none⟩,
 ⟨some 96, .bin .neq, [.slot 3, .slot 1], none⟩,
 ⟨some 97, .mv, [.slot 96], none⟩,
 ⟨some 98, .take, [.slot 15], some (97, true)⟩,
 ⟨some 99, .take, [.slot 17], some (97, true)⟩,
 ⟨some 100, .bin .neq, [.slot 98, .slot 99], some (97, true)⟩,
 ⟨some 101, .take, [.slot 100], some (97, true)⟩,
 ⟨some 102, .take, [.slot 16], some (101, false)⟩,
 ⟨some 103, .take, [.slot 18], some (101, false)⟩,
 ⟨some 104, .eqB true, [.slot 102, .slot 103], some (101, false)⟩,
 ⟨some 105, .pick, [.slot 101, .lit (.bool true), .slot 104], some (97, true)⟩,
 ⟨some 106, .pick, [.slot 96, .slot 105, .lit (.bool false)], none⟩])
 (.cond (.slot 106) (.seq (.reg [⟨some 8, .give, [.lit (.bool false)], none⟩])
 (.ret))
 (.skip)))
 (.seq (.reg [⟨some 108, .mv, [.slot 11], none⟩,
 ⟨some 109, .mv, [.slot 1], none⟩,
 ⟨some 110, .call 14, [.slot 11, .slot 1], none⟩,
 ⟨some 107, .mv, [.slot 110], none⟩,
 ⟨some 111, .ext 0, [.slot 110], none⟩,
 ⟨some 112, .ext 1, [.slot 110], none⟩,
 ⟨some 19, .give, [.slot 111], none⟩,
 ⟨some 20, .give, [.slot 112], none⟩])
 (.seq (.reg [⟨some 114, .mv, [.slot 0], none⟩,
 ⟨some 115, .mv, [.slot 1], none⟩,
 ⟨some 116, .call 16, [.slot 0, .slot 1], none⟩,
 ⟨some 113, .mv, [.slot 116], none⟩,
 ⟨some 117, .ext 0, [.slot 116], none⟩,
 ⟨some 118, .ext 1, [.slot 116], none⟩,
 ⟨some 21, .give, [.slot 117], none⟩,
 ⟨some 22, .give, [.slot 118], none⟩])
 (.seq (.seq (.reg [⟨some 119, .mv, [.slot 20], none⟩,
 ⟨some 120, .bin .neq, [.slot 20, .lit (.int .i64 0)], none⟩,
 ⟨some 121, .mv, [.slot 120], none⟩,
 ⟨some 122, .take, [.slot 19], some (121, false)⟩,
 ⟨some 123, .call 19, [.slot 122], some (121, false)⟩,
 ⟨some 124, .un .not, [.slot 123], some (121, false)⟩,
 ⟨some 125, .pick, [.slot 120, .lit (.bool true), .slot 124], none⟩,
 ⟨some 126, .mv, [.slot 125], none⟩,
 ⟨some 127, .take, [.slot 19], some (126, false)⟩,
 ⟨some 128, .take, [.slot 1], some (126, false)⟩,
 ⟨some 129, .call 21, [.slot 127, .slot 128], some (126, false)⟩,
 ⟨some 130, .bin .geq, [.slot 129, .lit (.int .i64 0)], some (126, false)⟩,
 ⟨some 131, .pick, [.slot 125, .lit (.bool true), .slot 130], none⟩])
 (.cond (.slot 131) (.seq (.reg [⟨some 8, .give, [.lit (.bool false)], none⟩])
 (.ret))
 (.skip)))
 (.seq (.reg [⟨some 132, .mv, [.slot 9], none⟩,
 ⟨some 133, .mv, [.slot 9], none⟩,
 ⟨some 134, .take, [.slot 22], some (133, true)⟩,
 ⟨some 135, .take, [.slot 134], some (133, true)⟩,
 ⟨some 136, .take, [.slot 19], some (135, false)⟩,
 ⟨some 137, .take, [.slot 0], some (135, false)⟩,
 ⟨some 138, .call 23, [.slot 136, .slot 137], some (135, false)⟩,
 ⟨some 139, .pick, [.slot 135, .lit (.bool true), .slot 138], some (133, true)⟩,
 ⟨some 140, .pick, [.slot 9, .slot 139, .lit (.bool false)], none⟩,
 ⟨some 8, .give, [.slot 140], none⟩])
 (.ret)))))))))))))))),
 141, [.tmp 8]⟩
theorem c4 : cFunc Proofs.Tryd.prog 4 = some sf4 := by kernel_rfl
/-- carpetbag/carpetbaglaw04.TreeOrder -/
def sf5 : SF := ⟨(.seq (.reg [⟨some 10, .give, [.lit (.bool false)], none⟩])
 (.seq (.reg [⟨some 21, .call 10, [], none⟩,
 ⟨some 11, .give, [.slot 21], none⟩])
 (.seq (.reg [⟨some 22, .mv, [.slot 0], none⟩,
 ⟨some 23, .call 11, [.slot 0], none⟩,
 ⟨some 12, .give, [.slot 23], none⟩])
 (.seq (.seq (.reg [⟨some 24, .mv, [.slot 12], none⟩,
 ⟨some 25, .un .not, [.slot 12], none⟩,
 ⟨some 26, .mv, [.slot 25], none⟩,
 ⟨some 27, .take, [.slot 0], some (26, false)⟩,
 ⟨some 28, .call 19, [.slot 27], some (26, false)⟩,
 ⟨some 29, .un .not, [.slot 28], some (26, false)⟩,
 ⟨some 30, .pick, [.slot 25, .lit (.bool true), .slot 29], none⟩,
 ⟨some 31, .mv, [.slot 30], none⟩,
 ⟨some 32, .take, [.slot 1], some (31, false)⟩,
 ⟨some 33, .take, [.slot 2], some (31, false)⟩,
 ⟨some 34, .bin .eql, [.slot 32, .slot 33], some (31, false)⟩,
 ⟨some 35, .pick, [.slot 30, .lit (.bool true), .slot 34], none⟩,
 ⟨some 36, .mv, [.slot 35], none⟩,
 ⟨some 37, .take, [.slot 1], some (36, false)⟩,
 ⟨some 38, .lenS, [.slot 37], some (36, false)⟩,
 ⟨some 39, .bin .gtr, [.slot 38, .lit (.int .i64 100)], some (36, false)⟩,
 ⟨some 40, .pick, [.slot 35, .lit (.bool true), .slot 39], none⟩,
 ⟨some 41, .mv, [.slot 40], none⟩,
 ⟨some 42, .take, [.slot 2], some (41, false)⟩,
 ⟨some 43, .lenS, [.slot 42], some (41, false)⟩,
 ⟨some 44, .bin .gtr, [.slot 43, .lit (.int .i64 100)], some (41, false)⟩,
 ⟨some 45, .pick, [.slot 40, .lit (.bool true), .slot 44], none⟩,
 ⟨some 46, .mv, [.slot 45], none⟩,
 ⟨some 47, .take, [.slot 3], some (46, false)⟩,
 ⟨some 48, .lenS, [.slot 47], some (46, false)⟩,
 ⟨some 49, .bin .gtr, [.slot 48, .lit (.int .i64 1000)], some (46, false)⟩,
 ⟨some 50, .pick, [.slot 45, .lit (.bool true), .slot 49], none⟩,
 ⟨some 51, .mv, [.slot 50], none⟩,
 ⟨some 52, .take, [.slot 4], some (51, false)⟩,
 ⟨some 53, .lenS, [.slot 52], some (51, false)⟩,
 ⟨some 54, .bin .gtr, [.slot 53, .lit (.int .i64 1000)], some (51, false)⟩,
 ⟨some 55, .pick, [.slot 50, .lit (.bool true), .slot 54], none⟩])
 (.cond (.slot 55) (.seq (.reg [⟨some 56, .mv, [.slot 11], none⟩,
 ⟨some 10, .give, [.slot 11], none⟩])
 (.ret))
 (.skip)))
 (.seq (.reg [⟨some 58, .mv, [.slot 0], none⟩,
 ⟨some 59, .mv, [.slot 1], none⟩,
 ⟨some 60, .mv, [.slot 3], none⟩,
 ⟨some 61, .call 12, [.slot 0, .slot 1, .slot 3], none⟩,
 ⟨some 57, .mv, [.slot 61], none⟩,
 ⟨some 62, .ext 0, [.slot 61], none⟩,
 ⟨some 63, .ext 1, [.slot 61], none⟩,
 ⟨some 13, .give, [.slot 62], none⟩,
 ⟨some 14, .give, [.slot 63], none⟩])
 (.seq (.reg [⟨some 65, .mv, [.slot 0], none⟩,
 ⟨some 66, .mv, [.slot 2], none⟩,
 ⟨some 67, .mv, [.slot 4], none⟩,
 ⟨some 68, .call 12, [.slot 0, .slot 2, .slot 4], none⟩,
 ⟨some 64, .mv, [.slot 68], none⟩,
 ⟨some 69, .ext 0, [.slot 68], none⟩,
 ⟨some 70, .ext 1, [.slot 68], none⟩,
 ⟨some 15, .give, [.slot 69], none⟩,
 ⟨some 16, .give, [.slot 70], none⟩])
 (.seq (.seq (.reg [⟨some 71, .mv, [.slot 14], none⟩,
 ⟨some 72, .bin .neq, [.slot 14, .lit (.int .i64 0)], none⟩,
 ⟨some 73, .mv, [.slot 72], none⟩,
 ⟨some 74, .take, [.slot 16], some (73, false)⟩,
 ⟨some 75, .bin .neq, [.slot 74, .lit (.int .i64 0)], some (73, false)⟩,
 ⟨some 76, .pick, [.slot 72, .lit (.bool true), .slot 75], none⟩])
 (.cond (.slot 76) (.seq (.reg [⟨some 77, .mv, [.slot 11], none⟩,
 ⟨some 10, .give, [.slot 11], none⟩])
 (.ret))
 (.skip)))
 (.seq (.reg [⟨some 79, .mv, [.slot 13], none⟩,
 ⟨some 80, .mv, [.slot 2], none⟩,
 ⟨some 81, .mv, [.slot 4], none⟩,
 ⟨some 82, .call 12, [.slot 13, .slot 2, .slot 4], none⟩,
 ⟨some 78, .mv, [.slot 82], none⟩,
 ⟨some 83, .ext 0, [.slot 82], none⟩,
 ⟨some 84, .ext 1, [.slot 82], none⟩,
 ⟨some 17, .give, [.slot 83], none⟩,
 ⟨some 18, .give, [.slot 84], none⟩])
 (.seq (.reg [⟨some 86, .mv, [.slot 15], none⟩,
 ⟨some 87, .mv, [.slot 1], none⟩,
 ⟨some 88, .mv, [.slot 3], none⟩,
 ⟨some 89, .call 12, [.slot 15, .slot 1, .slot 3], none⟩,
 ⟨some 85, .mv, [.slot 89], none⟩,
 ⟨some 90, .ext 0, [.slot 89], none⟩,
 ⟨some 91, .ext 1, [.slot 89], none⟩,
 ⟨some 19, .give, [.slot 90], none⟩,
 ⟨some 20, .give, [.slot 91], none⟩])
 (.seq (.reg [⟨some 92, .mv, [.slot 11], none⟩,
 ⟨some 93, .mv, [.slot 11], none⟩,
 ⟨some 94, .take, [.slot 18], some (93, true)⟩,
 ⟨some 95, .bin .eql, [.slot 94, .lit (.int .i64 0)], some (93, true)⟩,
 ⟨some 96, .take, [.slot 20], some (93, true)⟩,
 ⟨some 97, .bin .eql, [.slot 96, .lit (.int .i64 0)], some (93, true)⟩,
 ⟨some 98, .eqB false, [.slot 95, .slot 97], some (93, true)⟩,
 ⟨some 99, .pick, [.slot 11, .slot 98, .lit (.bool false)], none⟩,
 ⟨some 100, .mv, [.slot 99], none⟩,
 ⟨some 101, .take, [.slot 17], some (100, true)⟩,
 ⟨some 102, .take, [.slot 19], some (100, true)⟩,
 ⟨some 103, .call 23, [.slot 101, .slot 102], some (100, true)⟩,
 ⟨some 104, .pick, [.slot 99, .slot 103, .lit (.bool false)], none⟩,
 ⟨some 10, .give, [.slot 104], none⟩])
 (.ret))))))))))),
 105, [.tmp 10]⟩
theorem c5 : cFunc Proofs.Tryd.prog 5 = some sf5 := by kernel_rfl
/-- carpetbag/carpetbaglaw04.TreeAgain -/
def sf6 : SF := ⟨(.seq (.reg [⟨some 4, .give, [.lit (.bool false)], none⟩])
 (.seq (.reg [⟨some 14, .call 10, [], none⟩,
 ⟨some 5, .give, [.slot 14], none⟩])
 (.seq (.reg [⟨some 15, .mv, [.slot 0], none⟩,
 ⟨some 16, .call 11, [.slot 0], none⟩,
 ⟨some 6, .give, [.slot 16], none⟩])
 (.seq (.seq (.reg [⟨some 17, .mv, [.slot 6], none⟩,
 ⟨some 18, .un .not, [.slot 6], none⟩,
 ⟨some 19, .mv, [.slot 18], none⟩,
 ⟨some 20, .take, [.slot 0], some (19, false)⟩,
 ⟨some 21, .call 19, [.slot 20], some (19, false)⟩,
 ⟨some 22, .un .not, [.slot 21], some (19, false)⟩,
 ⟨some 23, .pick, [.slot 18, .lit (.bool true), .slot 22], none⟩,
 ⟨some 24, .mv, [.slot 23], none⟩,
 ⟨some 25, .take, [.slot 1], some (24, false)⟩,
 ⟨some 26, .bin .lss, [.slot 25, .lit (.int .i64 0)], some (24, false)⟩,
 ⟨some 27, .pick, [.slot 23, .lit (.bool true), .slot 26], none⟩,
 ⟨some 28, .mv, [.slot 27], none⟩,
 ⟨some 29, .take, [.slot 1], some (28, false)⟩,
 ⟨some 30, .take, [.slot 0], some (28, false)⟩,
 ⟨some 31, .lenL, [.slot 30], some (28, false)⟩,
 ⟨some 32, .bin .geq, [.slot 29, .slot 31], some (28, false)⟩,
 ⟨some 33, .pick, [.slot 27, .lit (.bool true), .slot 32], none⟩])
 (.cond (.slot 33) (.seq (.reg [⟨some 34, .mv, [.slot 5], none⟩,
 ⟨some 4, .give, [.slot 5], none⟩])
 (.ret))
 (.skip)))
 (.seq (.reg [⟨some 35, .mv, [.slot 0], none⟩,
 ⟨some 36, .mv, [.slot 1], none⟩,
 ⟨some 37, .idxB 2, [.slot 0, .slot 1], none⟩,
 ⟨some 38, .load 2 true, [.slot 37], none⟩,
 ⟨some 7, .alloc [.str [], .str []], [], none⟩,
 ⟨none, .store 2 true, [.slot 7, .slot 38], none⟩])
 (.seq (.reg [⟨some 40, .mv, [.slot 0], none⟩,
 ⟨some 41, .fld 0, [.slot 7], none⟩,
 ⟨some 42, .load 1 false, [.slot 41], none⟩,
 ⟨some 43, .fld 1, [.slot 7], none⟩,
 ⟨some 44, .load 1 false, [.slot 43], none⟩,
 ⟨some 45, .call 12, [.slot 0, .slot 42, .slot 44], none⟩,
 ⟨some 39, .mv, [.slot 45], none⟩,
 ⟨some 46, .ext 0, [.slot 45], none⟩,
 ⟨some 47, .ext 1, [.slot 45], none⟩,
 ⟨some 8, .giveP, [.slot 46], none⟩,
 ⟨some 9, .give, [.slot 47], none⟩])
 (.seq (.reg [⟨some 49, .mv, [.slot 0], none⟩,
 ⟨some 50, .fld 0, [.slot 7], none⟩,
 ⟨some 51, .load 1 false, [.slot 50], none⟩,
 ⟨some 52, .call 14, [.slot 0, .slot 51], none⟩,
 ⟨some 48, .mv, [.slot 52], none⟩,
 ⟨some 53, .ext 0, [.slot 52], none⟩,
 ⟨some 54, .ext 1, [.slot 52], none⟩,
 ⟨some 10, .giveP, [.slot 53], none⟩,
 ⟨some 11, .give, [.slot 54], none⟩])
 (.seq (.reg [⟨some 56, .mv, [.slot 10], none⟩,
 ⟨some 57, .fld 0, [.slot 7], none⟩,
 ⟨some 58, .load 1 false, [.slot 57], none⟩,
 ⟨some 59, .fld 1, [.slot 7], none⟩,
 ⟨some 60, .load 1 false, [.slot 59], none⟩,
 ⟨some 61, .call 12, [.slot 10, .slot 58, .slot 60], none⟩,
 ⟨some 55, .mv, [.slot 61], none⟩,
 ⟨some 62, .ext 0, [.slot 61], none⟩,
 ⟨some 63, .ext 1, [.slot 61], none⟩,
 ⟨some 12, .giveP, [.slot 62], none⟩,
 ⟨some 13, .give, [.slot 63], none⟩])
 (.seq (.seq (.reg [⟨some 64, .mv, [.slot 5], none⟩,
 ⟨some 65, .mv, [.slot 5], none⟩,
 ⟨some 66, .mv, [.slot 9], some (65, true)⟩,
 ⟨some 67, .bin .eql, [.slot 66, .lit (.int .i64 0)], some (65, true)⟩,
 ⟨some 68, .pick, [.slot 64, .slot 67, .lit (.bool false)], none⟩,
 ⟨some 69, .mv, [.slot 68], none⟩,
 ⟨some 70, .mv, [.slot 8], some (69, true)⟩,
 ⟨some 71, .mv, [.slot 0], some (69, true)⟩,
 ⟨some 72, .call 23, [.slot 70, .slot 71], some (69, true)⟩,
 ⟨some 73, .pick, [.slot 68, .slot 72, .lit (.bool false)], none⟩,
 ⟨some 74, .mv, [.slot 73], none⟩,
 ⟨some 75, .mv, [.slot 11], some (74, true)⟩,
 ⟨some 76, .bin .eql, [.slot 75, .lit (.int .i64 0)], some (74, true)⟩,
 ⟨some 77, .pick, [.slot 73, .slot 76, .lit (.bool false)], none⟩,
 ⟨some 78, .mv, [.slot 77], none⟩,
 ⟨some 79, .mv, [.slot 0], some (78, true)⟩,
 ⟨some 80, .fld 0, [.slot 7], some (78, true)⟩,
 ⟨some 81, .load 1 false, [.slot 80], some (78, true)⟩,
 ⟨some 82, .call 21, [.slot 79, .slot 81], some (78, true)⟩,
 ⟨some 83, .mv, [.slot 1], some (78, true)⟩,
 ⟨some 84, .bin .eql, [.slot 82, .slot 83], some (78, true)⟩,
 ⟨some 85, .pick, [.slot 77, .slot 84, .lit (.bool false)], none⟩,
 ⟨some 86, .mv, [.slot 85], none⟩,
 ⟨some 87, .mv, [.slot 13], some (86, true)⟩,
 ⟨some 88, .bin .eql, [.slot 87, .lit (.int .i64 0)], some (86, true)⟩,
 ⟨some 89, .pick, [.slot 85, .slot 88, .lit (.bool false)], none⟩,
 ⟨some 90, .mv, [.slot 89], none⟩,
 ⟨some 91, .mv, [.slot 12], some (90, true)⟩,
 ⟨some 92, .mv, [.slot 0], some (90, true)⟩,
 ⟨some 93, .call 23, [.slot 91, .slot 92], some (90, true)⟩,
 ⟨some 94, .pick, [.slot 89, .slot 93, .lit (.bool false)], none⟩,
 ⟨some 95, .mv, [.slot 94], none⟩,
 ⟨some 96, .mv, [.slot 10], some (95, true)⟩,
 ⟨some 98, .mv, [.slot 0], some (95, true)⟩,
 ⟨some 100, .fld 1, [.slot 7], some (95, true)⟩])
 (.both (.seq (.reg [⟨some 97, .call 24, [.slot 96], some (95, true)⟩])
 (.both (.reg [⟨some 99, .call 24, [.slot 98], some (95, true)⟩,
 ⟨some 101, .load 1 false, [.slot 100], some (95, true)⟩,
 ⟨some 102, .lenS, [.slot 101], some (95, true)⟩,
 ⟨some 103, .bin .sub, [.slot 99, .slot 102], some (95, true)⟩,
 ⟨some 104, .bin .eql, [.slot 97, .slot 103], some (95, true)⟩,
 ⟨some 105, .pick, [.slot 94, .slot 104, .lit (.bool false)], none⟩,
 ⟨some 4, .give, [.slot 105], none⟩])
 (.both (.reg [⟨some 101, .load 1 false, [.slot 100], some (95, true)⟩,
 ⟨some 99, .call 24, [.slot 98], some (95, true)⟩,
 ⟨some 102, .lenS, [.slot 101], some (95, true)⟩,
 ⟨some 103, .bin .sub, [.slot 99, .slot 102], some (95, true)⟩,
 ⟨some 104, .bin .eql, [.slot 97, .slot 103], some (95, true)⟩,
 ⟨some 105, .pick, [.slot 94, .slot 104, .lit (.bool false)], none⟩,
 ⟨some 4, .give, [.slot 105], none⟩])
 (.tt))))
 (.both (.reg [⟨some 101, .load 1 false, [.slot 100], some (95, true)⟩,
 ⟨some 97, .call 24, [.slot 96], some (95, true)⟩,
 ⟨some 99, .call 24, [.slot 98], some (95, true)⟩,
 ⟨some 102, .lenS, [.slot 101], some (95, true)⟩,
 ⟨some 103, .bin .sub, [.slot 99, .slot 102], some (95, true)⟩,
 ⟨some 104, .bin .eql, [.slot 97, .slot 103], some (95, true)⟩,
 ⟨some 105, .pick, [.slot 94, .slot 104, .lit (.bool false)], none⟩,
 ⟨some 4, .give, [.slot 105], none⟩])
 (.tt))))
 (.ret)))))))))),
 106, [.tmp 4]⟩
theorem c6 : cFunc Proofs.Tryd.prog 6 = some sf6 := by kernel_rfl
/-- carpetbag/carpetbaglaw04.TreeEmpties -/
def sf7 : SF := ⟨(.seq (.reg [⟨some 4, .give, [.lit (.bool false)], none⟩])
 (.seq (.reg [⟨some 13, .call 10, [], none⟩,
 ⟨some 5, .give, [.slot 13], none⟩])
 (.seq (.reg [⟨some 14, .mv, [.slot 0], none⟩,
 ⟨some 15, .call 11, [.slot 0], none⟩,
 ⟨some 6, .give, [.slot 15], none⟩])
 (.seq (.seq (.reg [⟨some 16, .mv, [.slot 6], none⟩,
 ⟨some 17, .un .not, [.slot 6], none⟩,
 ⟨some 18, .mv, [.slot 17], none⟩,
 ⟨some 19, .take, [.slot 0], some (18, false)⟩,
 ⟨some 20, .call 19, [.slot 19], some (18, false)⟩,
 ⟨some 21, .un .not, [.slot 20], some (18, false)⟩,
 ⟨some 22, .pick, [.slot 17, .lit (.bool true), .slot 21], none⟩])
 (.cond (.slot 22) (.seq (.reg [⟨some 23, .mv, [.slot 5], none⟩,
 ⟨some 4, .give, [.slot 5], none⟩])
 (.ret))
 (.skip)))
 (.seq (.reg [⟨some 24, .mv, [.slot 0], none⟩,
 ⟨some 25, .lenL, [.slot 0], none⟩,
 ⟨some 7, .give, [.slot 25], none⟩])
 (.seq (.reg [⟨some 26, .mv, [.slot 0], none⟩,
 ⟨some 8, .take, [.slot 0], none⟩])
 (.seq (.seq (.reg [⟨some 9, .take, [.lit (.int .i64 0)], none⟩])
 (.block 0 (.loop (.seq (.seq (.reg [⟨some 27, .mv, [.slot 9], none⟩,
 ⟨some 28, .mv, [.slot 7], none⟩,
 ⟨some 29, .bin .lss, [.slot 9, .slot 7], none⟩])
 (.cond (.slot 29) (.skip)
 (.exit 0)))
 (.seq (.block 1 (.seq (.reg [⟨some 10, .take, [.lit (.int .i64 0)], none⟩])
 (.seq (.seq (.reg [⟨some 32, .mv, [.slot 9], none⟩,
 ⟨some 33, .mv, [.slot 1], none⟩,
 ⟨some 34, .lenL, [.slot 1], none⟩,
 ⟨some 35, .bin .lss, [.slot 9, .slot 34], none⟩,
 ⟨some 36, .mv, [.slot 35], none⟩,
 ⟨some 37, .take, [.slot 1], some (36, true)⟩,
 ⟨some 38, .take, [.slot 9], some (36, true)⟩,
 ⟨some 39, .idxB 1, [.slot 37, .slot 38], some (36, true)⟩,
 ⟨some 40, .load 1 false, [.slot 39], some (36, true)⟩,
 ⟨some 41, .bin .gtr, [.slot 40, .lit (.int .i64 0)], some (36, true)⟩,
 ⟨some 42, .pick, [.slot 35, .slot 41, .lit (.bool false)], none⟩])
 (.cond (.slot 42) (.reg [⟨some 43, .mv, [.slot 1], none⟩,
 ⟨some 44, .mv, [.slot 9], none⟩,
 ⟨some 45, .idxB 1, [.slot 1, .slot 9], none⟩,
 ⟨some 46, .load 1 false, [.slot 45], none⟩,
 ⟨some 47, .mv, [.slot 8], none⟩,
 ⟨some 48, .lenL, [.slot 8], none⟩,
 ⟨some 49, .bin .rem, [.slot 46, .slot 48], none⟩,
 ⟨some 10, .give, [.slot 49], none⟩])
 (.skip)))
 (.seq (.reg [⟨some 51, .mv, [.slot 8], none⟩,
 ⟨some 52, .mv, [.slot 8], none⟩,
 ⟨some 53, .mv, [.slot 10], none⟩,
 ⟨some 54, .idxB 2, [.slot 8, .slot 10], none⟩,
 ⟨some 55, .fld 0, [.slot 54], none⟩,
 ⟨some 56, .load 1 false, [.slot 55], none⟩,
 ⟨some 57, .call 14, [.slot 8, .slot 56], none⟩,
 ⟨some 50, .mv, [.slot 57], none⟩,
 ⟨some 58, .ext 0, [.slot 57], none⟩,
 ⟨some 59, .ext 1, [.slot 57], none⟩,
 ⟨some 11, .give, [.slot 58], none⟩,
 ⟨some 12, .give, [.slot 59], none⟩])
 (.seq (.seq (.reg [⟨some 60, .mv, [.slot 12], none⟩,
 ⟨some 61, .bin .neq, [.slot 12, .lit (.int .i64 0)], none⟩,
 ⟨some 62, .mv, [.slot 61], none⟩,
 ⟨some 63, .take, [.slot 11], some (62, false)⟩,
 ⟨some 64, .lenL, [.slot 63], some (62, false)⟩,
 ⟨some 65, .take, [.slot 8], some (62, false)⟩,
 ⟨some 66, .lenL, [.slot 65], some (62, false)⟩,
 ⟨some 67, .bin .sub, [.slot 66, .lit (.int .i64 1)], some (62, false)⟩,
 ⟨some 68, .bin .neq, [.slot 64, .slot 67], some (62, false)⟩,
 ⟨some 69, .pick, [.slot 61, .lit (.bool true), .slot 68], none⟩,
 ⟨some 70, .mv, [.slot 69], none⟩,
 ⟨some 71, .take, [.slot 11], some (70, false)⟩,
 ⟨some 72, .call 19, [.slot 71], some (70, false)⟩,
 ⟨some 73, .un .not, [.slot 72], some (70, false)⟩,
 ⟨some 74, .pick, [.slot 69, .lit (.bool true), .slot 73], none⟩])
 (.cond (.slot 74) (.seq (.reg [⟨some 4, .give, [.lit (.bool false)], none⟩])
 (.ret))
 (.skip)))
 (.reg [⟨some 75, .mv, [.slot 11], none⟩,
 ⟨some 8, .take, [.slot 11], none⟩]))))))
 (.reg [⟨some 30, .mv, [.slot 9], none⟩,
 ⟨some 31, .bin .add, [.slot 9, .lit (.int .i64 1)], none⟩,
 ⟨some 9, .give, [.slot 31], none⟩]))))))
 (.seq (.reg [⟨some 76, .mv, [.slot 5], none⟩,
 ⟨some 77, .mv, [.slot 5], none⟩,
 ⟨some 78, .take, [.slot 8], some (77, true)⟩,
 ⟨some 79, .lenL, [.slot 78], some (77, true)⟩,
 ⟨some 80, .bin .eql, [.slot 79, .lit (.int .i64 0)], some (77, true)⟩,
 ⟨some 81, .pick, [.slot 5, .slot 80, .lit (.bool false)], none⟩,
 ⟨some 82, .mv, [.slot 81], none⟩,
 ⟨some 83, .take, [.slot 8], some (82, true)⟩,
 ⟨some 84, .call 24, [.slot 83], some (82, true)⟩,
 ⟨some 85, .bin .eql, [.slot 84, .lit (.int .i64 0)], some (82, true)⟩,
 ⟨some 86, .pick, [.slot 81, .slot 85, .lit (.bool false)], none⟩,
 ⟨some 4, .give, [.slot 86], none⟩])
 (.ret))))))))),
 87, [.tmp 4]⟩
theorem c7 : cFunc Proofs.Tryd.prog 7 = some sf7 := by kernel_rfl
/-- carpetbag/carpetbaglaw04.TreeFull -/
def sf8 : SF := ⟨(.seq (.reg [⟨some 4, .give, [.lit (.bool false)], none⟩])
 (.seq (.reg [⟨some 12, .call 10, [], none⟩,
 ⟨some 5, .give, [.slot 12], none⟩])
 (.seq (.seq (.reg [⟨some 13, .mv, [.slot 0], none⟩,
 ⟨some 14, .bin .lss, [.slot 0, .lit (.int .i64 0)], none⟩,
 ⟨some 15, .mv, [.slot 14], none⟩,
 ⟨some 16, .take, [.slot 0], some (15, false)⟩,
 ⟨some 17, .bin .gtr, [.slot 16, .lit (.int .i64 40)], some (15, false)⟩,
 ⟨some 18, .pick, [.slot 14, .lit (.bool true), .slot 17], none⟩,
 ⟨some 19, .mv, [.slot 18], none⟩,
 ⟨some 20, .take, [.slot 1], some (19, false)⟩,
 ⟨some 21, .bin .lss, [.slot 20, .lit (.int .i64 0)], some (19, false)⟩,
 ⟨some 22, .pick, [.slot 18, .lit (.bool true), .slot 21], none⟩,
 ⟨some 23, .mv, [.slot 22], none⟩,
 ⟨some 24, .take, [.slot 1], some (23, false)⟩,
 ⟨some 25, .bin .gtr, [.slot 24, .lit (.int .i64 700)], some (23, false)⟩,
 ⟨some 26, .pick, [.slot 22, .lit (.bool true), .slot 25], none⟩])
 (.cond (.slot 26) (.seq (.reg [⟨some 27, .mv, [.slot 5], none⟩,
 ⟨some 4, .give, [.slot 5], none⟩])
 (.ret))
 (.skip)))
 (.seq (.reg [⟨some 6, .take, [.lit (.nilS)], none⟩])
 (.seq (.reg [⟨some 28, .mv, [.slot 1], none⟩,
 ⟨some 29, .mkS 1 1 [.int .u8 0], [.slot 1, .slot 1], none⟩,
 ⟨some 30, .b2s, [.slot 29], none⟩,
 ⟨some 7, .give, [.slot 30], none⟩])
 (.seq (.seq (.reg [⟨some 8, .take, [.lit (.int .i64 0)], none⟩])
 (.block 0 (.loop (.seq (.seq (.reg [⟨some 31, .mv, [.slot 8], none⟩,
 ⟨some 32, .mv, [.slot 0], none⟩,
 ⟨some 33, .bin .lss, [.slot 8, .slot 0], none⟩])
 (.cond (.slot 33) (.skip)
 (.exit 0)))
 (.seq (.block 1 (.seq (.reg [⟨some 36, .mv, [.slot 8], none⟩,
 ⟨some 37, .cvI .u8, [.slot 8], none⟩,
 ⟨some 38, .bin .rem, [.slot 37, .lit (.int .u8 26)], none⟩,
 ⟨some 39, .bin .add, [.lit (.int .u8 97), .slot 38], none⟩,
 ⟨some 40, .bsl 1 1 [.int .u8 0] [0], [.slot 39], none⟩,
 ⟨some 41, .b2s, [.slot 40], none⟩,
 ⟨some 42, .bin .add, [.lit (.str [102]), .slot 41], none⟩,
 ⟨some 43, .mv, [.slot 8], none⟩,
 ⟨some 44, .bin .quo, [.slot 8, .lit (.int .i64 26)], none⟩,
 ⟨some 45, .cvI .u8, [.slot 44], none⟩,
 ⟨some 46, .bin .add, [.lit (.int .u8 97), .slot 45], none⟩,
 ⟨some 47, .bsl 1 1 [.int .u8 0] [0], [.slot 46], none⟩,
 ⟨some 48, .b2s, [.slot 47], none⟩,
 ⟨some 49, .bin .add, [.slot 42, .slot 48], none⟩,
 ⟨some 9, .give, [.slot 49], none⟩])
 (.seq (.reg [⟨some 51, .mv, [.slot 6], none⟩,
 ⟨some 52, .mv, [.slot 9], none⟩,
 ⟨some 53, .mv, [.slot 7], none⟩,
 ⟨some 54, .call 12, [.slot 6, .slot 9, .slot 7], none⟩,
 ⟨some 50, .mv, [.slot 54], none⟩,
 ⟨some 55, .ext 0, [.slot 54], none⟩,
 ⟨some 56, .ext 1, [.slot 54], none⟩,
 ⟨some 10, .give, [.slot 55], none⟩,
 ⟨some 11, .give, [.slot 56], none⟩])
 (.seq (.seq (.reg [⟨some 57, .mv, [.slot 11], none⟩,
 ⟨some 58, .bin .eql, [.slot 11, .lit (.int .i64 0)], none⟩,
 ⟨some 59, .mv, [.slot 1], none⟩,
 ⟨some 60, .bin .leq, [.slot 1, .lit (.int .i64 600)], none⟩,
 ⟨some 61, .mv, [.slot 60], none⟩,
 ⟨some 62, .take, [.slot 6], some (61, true)⟩,
 ⟨some 63, .lenL, [.slot 62], some (61, true)⟩,
 ⟨some 64, .bin .lss, [.slot 63, .lit (.int .i64 16)], some (61, true)⟩,
 ⟨some 65, .pick, [.slot 60, .slot 64, .lit (.bool false)], none⟩,
 ⟨some 66, .eqB true, [.slot 58, .slot 65], none⟩,
 ⟨some 67, .mv, [.slot 66], none⟩,
 ⟨some 68, .take, [.slot 11], some (67, false)⟩,
 ⟨some 69, .bin .neq, [.slot 68, .lit (.int .i64 0)], some (67, false)⟩,
 ⟨some 70, .take, [.slot 69], some (67, false)⟩,
 ⟨some 71, .take, [.slot 11], some (70, true)⟩,
 ⟨some 72, .bin .neq, [.slot 71, .lit (.int .i64 2)], some (70, true)⟩,
 ⟨some 73, .pick, [.slot 70, .slot 72, .lit (.bool false)], some (67, false)⟩,
 ⟨some 74, .pick, [.slot 66, .lit (.bool true), .slot 73], none⟩])
 (.cond (.slot 74) (.seq (.reg [⟨some 4, .give, [.lit (.bool false)], none⟩])
 (.ret))
 (.skip)))
 (.seq (.reg [⟨some 75, .mv, [.slot 11], none⟩,
 ⟨some 76, .bin .eql, [.slot 11, .lit (.int .i64 0)], none⟩])
 (.cond (.slot 76) (.reg [⟨some 77, .mv, [.slot 10], none⟩,
 ⟨some 6, .take, [.slot 10], none⟩])
 (.skip)))))))
 (.reg [⟨some 34, .mv, [.slot 8], none⟩,
 ⟨some 35, .bin .add, [.slot 8, .lit (.int .i64 1)], none⟩,
 ⟨some 8, .give, [.slot 35], none⟩]))))))
 (.seq (.seq (.reg [⟨some 78, .mv, [.slot 1], none⟩,
 ⟨some 79, .bin .gtr, [.slot 1, .lit (.int .i64 600)], none⟩])
 (.cond (.slot 79) (.seq (.reg [⟨some 80, .mv, [.slot 5], none⟩,
 ⟨some 81, .mv, [.slot 5], none⟩,
 ⟨some 82, .take, [.slot 6], some (81, true)⟩,
 ⟨some 83, .lenL, [.slot 82], some (81, true)⟩,
 ⟨some 84, .bin .eql, [.slot 83, .lit (.int .i64 0)], some (81, true)⟩,
 ⟨some 85, .pick, [.slot 5, .slot 84, .lit (.bool false)], none⟩,
 ⟨some 4, .give, [.slot 85], none⟩])
 (.ret))
 (.skip)))
 (.seq (.reg [⟨some 86, .mv, [.slot 5], none⟩,
 ⟨some 87, .mv, [.slot 5], none⟩,
 ⟨some 88, .take, [.slot 6], some (87, true)⟩,
 ⟨some 89, .lenL, [.slot 88], some (87, true)⟩,
 ⟨some 90, .take, [.slot 0], some (87, true)⟩,
 ⟨some 91, .min, [.slot 90, .lit (.int .i64 16)], some (87, true)⟩,
 ⟨some 92, .bin .eql, [.slot 89, .slot 91], some (87, true)⟩,
 ⟨some 93, .pick, [.slot 5, .slot 92, .lit (.bool false)], none⟩,
 ⟨some 94, .mv, [.slot 93], none⟩,
 ⟨some 95, .take, [.slot 6], some (94, true)⟩,
 ⟨some 96, .call 24, [.slot 95], some (94, true)⟩,
 ⟨some 97, .take, [.slot 6], some (94, true)⟩,
 ⟨some 98, .lenL, [.slot 97], some (94, true)⟩,
 ⟨some 99, .take, [.slot 1], some (94, true)⟩,
 ⟨some 100, .bin .mul, [.slot 98, .slot 99], some (94, true)⟩,
 ⟨some 101, .bin .eql, [.slot 96, .slot 100], some (94, true)⟩,
 ⟨some 102, .pick, [.slot 93, .slot 101, .lit (.bool false)], none⟩,
 ⟨some 4, .give, [.slot 102], none⟩])
 (.ret))))))))),
 103, [.tmp 4]⟩
theorem c8 : cFunc Proofs.Tryd.prog 8 = some sf8 := by kernel_rfl
/-- carpetbag/carpetbaglaw04.TreeIn -/
def sf9 : SF := ⟨(.seq (.reg [⟨some 4, .give, [.lit (.bool false)], none⟩])
 (.seq (.reg [⟨some 11, .call 10, [], none⟩,
 ⟨some 5, .give, [.slot 11], none⟩])
 (.seq (.reg [⟨some 12, .mv, [.slot 0], none⟩,
 ⟨some 13, .call 11, [.slot 0], none⟩,
 ⟨some 6, .give, [.slot 13], none⟩])
 (.seq (.seq (.reg [⟨some 14, .mv, [.slot 6], none⟩,
 ⟨some 15, .un .not, [.slot 6], none⟩,
 ⟨some 16, .mv, [.slot 15], none⟩,
 ⟨some 17, .take, [.slot 0], some (16, false)⟩,
 ⟨some 18, .call 19, [.slot 17], some (16, false)⟩,
 ⟨some 19, .un .not, [.slot 18], some (16, false)⟩,
 ⟨some 20, .pick, [.slot 15, .lit (.bool true), .slot 19], none⟩,
 ⟨some 21, .mv, [.slot 20], none⟩,
 ⟨some 22, .take, [.slot 1], some (21, false)⟩,
 ⟨some 23, .lenS, [.slot 22], some (21, false)⟩,
 ⟨some 24, .bin .gtr, [.slot 23, .lit (.int .i64 100)], some (21, false)⟩,
 ⟨some 25, .pick, [.slot 20, .lit (.bool true), .slot 24], none⟩])
 (.cond (.slot 25) (.seq (.reg [⟨some 26, .mv, [.slot 5], none⟩,
 ⟨some 4, .give, [.slot 5], none⟩])
 (.ret))
 (.skip)))
 (.seq (.reg [⟨some 27, .mv, [.slot 0], none⟩,
 ⟨some 28, .mv, [.slot 1], none⟩,
 ⟨some 29, .call 27, [.slot 0, .slot 1], none⟩,
 ⟨some 7, .give, [.slot 29], none⟩])
 (.seq (.seq (.reg [⟨some 30, .mv, [.slot 7], none⟩,
 ⟨some 31, .call 29, [.slot 7], none⟩,
 ⟨some 32, .un .not, [.slot 31], none⟩,
 ⟨some 33, .mv, [.slot 32], none⟩,
 ⟨some 34, .take, [.slot 7], some (33, false)⟩,
 ⟨some 35, .lenL, [.slot 34], some (33, false)⟩,
 ⟨some 36, .bin .gtr, [.slot 35, .lit (.int .i64 0)], some (33, false)⟩,
 ⟨some 37, .take, [.slot 36], some (33, false)⟩,
 ⟨some 38, .take, [.slot 0], some (37, true)⟩,
 ⟨some 39, .take, [.slot 1], some (37, true)⟩,
 ⟨some 40, .call 21, [.slot 38, .slot 39], some (37, true)⟩,
 ⟨some 41, .bin .geq, [.slot 40, .lit (.int .i64 0)], some (37, true)⟩,
 ⟨some 42, .pick, [.slot 37, .slot 41, .lit (.bool false)], some (33, false)⟩,
 ⟨some 43, .pick, [.slot 32, .lit (.bool true), .slot 42], none⟩])
 (.cond (.slot 43) (.seq (.reg [⟨some 4, .give, [.lit (.bool false)], none⟩])
 (.ret))
 (.skip)))
 (.seq (.reg [⟨some 8, .take, [.lit (.int .i64 0)], none⟩])
 (.seq (.seq (.reg [⟨some 9, .take, [.lit (.int .i64 0)], none⟩])
 (.block 0 (.loop (.seq (.seq (.reg [⟨some 44, .mv, [.slot 9], none⟩,
 ⟨some 45, .mv, [.slot 0], none⟩,
 ⟨some 46, .lenL, [.slot 0], none⟩,
 ⟨some 47, .bin .lss, [.slot 9, .slot 46], none⟩])
 (.cond (.slot 47) (.skip)
 (.exit 0)))
 (.seq (.block 1 (.seq (.seq (.reg [⟨some 50, .mv, [.slot 0], none⟩,
 ⟨some 51, .mv, [.slot 9], none⟩,
 ⟨some 52, .idxB 2, [.slot 0, .slot 9], none⟩,
 ⟨some 53, .fld 0, [.slot 52], none⟩,
 ⟨some 54, .load 1 false, [.slot 53], none⟩,
 ⟨some 55, .mv, [.slot 1], none⟩,
 ⟨some 56, .call 30, [.slot 54, .slot 1], none⟩])
 (.cond (.slot 56) (.reg [⟨some 57, .mv, [.slot 8], none⟩,
 ⟨some 58, .bin .add, [.slot 8, .lit (.int .i64 1)], none⟩,
 ⟨some 8, .give, [.slot 58], none⟩])
 (.skip)))
 (.seq (.reg [⟨some 59, .mv, [.slot 0], none⟩,
 ⟨some 60, .mv, [.slot 9], none⟩,
 ⟨some 61, .idxB 2, [.slot 0, .slot 9], none⟩,
 ⟨some 62, .fld 0, [.slot 61], none⟩,
 ⟨some 63, .load 1 false, [.slot 62], none⟩,
 ⟨some 64, .call 31, [.slot 63], none⟩,
 ⟨some 10, .give, [.slot 64], none⟩])
 (.seq (.reg [⟨some 65, .mv, [.slot 10], none⟩,
 ⟨some 66, .bin .neq, [.slot 10, .lit (.str [])], none⟩,
 ⟨some 67, .mv, [.slot 66], none⟩,
 ⟨some 68, .take, [.slot 0], some (67, true)⟩,
 ⟨some 69, .take, [.slot 10], some (67, true)⟩,
 ⟨some 70, .call 27, [.slot 68, .slot 69], some (67, true)⟩,
 ⟨some 71, .lenL, [.slot 70], some (67, true)⟩,
 ⟨some 72, .bin .eql, [.slot 71, .lit (.int .i64 0)], some (67, true)⟩,
 ⟨some 73, .pick, [.slot 66, .slot 72, .lit (.bool false)], none⟩,
 ⟨some 74, .mv, [.slot 73], none⟩,
 ⟨some 75, .take, [.slot 0], some (74, false)⟩,
 ⟨some 76, .take, [.slot 0], some (74, false)⟩,
 ⟨some 77, .take, [.slot 9], some (74, false)⟩,
 ⟨some 78, .idxB 2, [.slot 76, .slot 77], some (74, false)⟩,
 ⟨some 79, .fld 0, [.slot 78], some (74, false)⟩,
 ⟨some 80, .load 1 false, [.slot 79], some (74, false)⟩,
 ⟨some 81, .call 27, [.slot 75, .slot 80], some (74, false)⟩,
 ⟨some 82, .lenL, [.slot 81], some (74, false)⟩,
 ⟨some 83, .bin .neq, [.slot 82, .lit (.int .i64 0)], some (74, false)⟩,
 ⟨some 84, .pick, [.slot 73, .lit (.bool true), .slot 83], none⟩])
 (.cond (.slot 84) (.seq (.reg [⟨some 4, .give, [.lit (.bool false)], none⟩])
 (.ret))
 (.skip))))))
 (.reg [⟨some 48, .mv, [.slot 9], none⟩,
 ⟨some 49, .bin .add, [.slot 9, .lit (.int .i64 1)], none⟩,
 ⟨some 9, .give, [.slot 49], none⟩]))))))
 (.seq (.reg [⟨some 85, .mv, [.slot 5], none⟩,
 ⟨some 86, .mv, [.slot 5], none⟩,
 ⟨some 87, .take, [.slot 8], some (86, true)⟩,
 ⟨some 88, .take, [.slot 7], some (86, true)⟩,
 ⟨some 89, .lenL, [.slot 88], some (86, true)⟩,
 ⟨some 90, .bin .eql, [.slot 87, .slot 89], some (86, true)⟩,
 ⟨some 91, .pick, [.slot 5, .slot 90, .lit (.bool false)], none⟩,
 ⟨some 4, .give, [.slot 91], none⟩])
 (.ret)))))))))),
 92, [.tmp 4]⟩
theorem c9 : cFunc Proofs.Tryd.prog 9 = some sf9 := by kernel_rfl
/-- carpetbag/carpetbaglaw04.small -/
def sf10 : SF := ⟨(.seq (.reg [⟨some 0, .give, [.lit (.bool false)], none⟩])
 (.seq (.reg [⟨some 18, .call 12, [.lit (.nilS), .lit (.str [98]), .lit (.str [49])], none⟩,
 ⟨some 17, .mv, [.slot 18], none⟩,
 ⟨some 19, .ext 0, [.slot 18], none⟩,
 ⟨some 20, .ext 1, [.slot 18], none⟩,
 ⟨some 1, .give, [.slot 19], none⟩,
 ⟨some 2, .give, [.slot 20], none⟩])
 (.seq (.reg [⟨some 22, .mv, [.slot 1], none⟩,
 ⟨some 23, .call 12, [.slot 1, .lit (.str [97, 47, 120]), .lit (.str [50, 50])], none⟩,
 ⟨some 21, .mv, [.slot 23], none⟩,
 ⟨some 24, .ext 0, [.slot 23], none⟩,
 ⟨some 25, .ext 1, [.slot 23], none⟩,
 ⟨some 1, .give, [.slot 24], none⟩,
 ⟨some 3, .give, [.slot 25], none⟩])
 (.seq (.reg [⟨some 27, .mv, [.slot 1], none⟩,
 ⟨some 28, .call 12, [.slot 1, .lit (.str [97]), .lit (.str [51])], none⟩,
 ⟨some 26, .mv, [.slot 28], none⟩,
 ⟨some 29, .ext 0, [.slot 28], none⟩,
 ⟨some 30, .ext 1, [.slot 28], none⟩,
 ⟨some 4, .give, [.slot 29], none⟩,
 ⟨some 5, .give, [.slot 30], none⟩])
 (.seq (.reg [⟨some 32, .mv, [.slot 1], none⟩,
 ⟨some 33, .call 12, [.slot 1, .lit (.str [66]), .lit (.str [51])], none⟩,
 ⟨some 31, .mv, [.slot 33], none⟩,
 ⟨some 34, .ext 0, [.slot 33], none⟩,
 ⟨some 35, .ext 1, [.slot 33], none⟩,
 ⟨some 6, .give, [.slot 34], none⟩,
 ⟨some 7, .give, [.slot 35], none⟩])
 (.seq (.reg [⟨some 37, .mv, [.slot 1], none⟩,
 ⟨some 38, .call 12, [.slot 1, .lit (.str [98]), .lit (.str [52])], none⟩,
 ⟨some 36, .mv, [.slot 38], none⟩,
 ⟨some 39, .ext 0, [.slot 38], none⟩,
 ⟨some 40, .ext 1, [.slot 38], none⟩,
 ⟨some 8, .give, [.slot 39], none⟩,
 ⟨some 9, .give, [.slot 40], none⟩])
 (.seq (.reg [⟨some 42, .mv, [.slot 8], none⟩,
 ⟨some 43, .call 14, [.slot 8, .lit (.str [97, 47, 120])], none⟩,
 ⟨some 41, .mv, [.slot 43], none⟩,
 ⟨some 44, .ext 0, [.slot 43], none⟩,
 ⟨some 45, .ext 1, [.slot 43], none⟩,
 ⟨some 10, .give, [.slot 44], none⟩,
 ⟨some 11, .give, [.slot 45], none⟩])
 (.seq (.reg [⟨some 47, .mv, [.slot 10], none⟩,
 ⟨some 48, .call 14, [.slot 10, .lit (.str [97, 47, 120])], none⟩,
 ⟨some 46, .mv, [.slot 48], none⟩,
 ⟨some 49, .ext 0, [.slot 48], none⟩,
 ⟨some 50, .ext 1, [.slot 48], none⟩,
 ⟨some 12, .give, [.slot 49], none⟩,
 ⟨some 13, .give, [.slot 50], none⟩])
 (.seq (.reg [⟨some 52, .mv, [.slot 8], none⟩,
 ⟨some 53, .call 16, [.slot 8, .lit (.str [98])], none⟩,
 ⟨some 51, .mv, [.slot 53], none⟩,
 ⟨some 54, .ext 0, [.slot 53], none⟩,
 ⟨some 55, .ext 1, [.slot 53], none⟩,
 ⟨some 14, .give, [.slot 54], none⟩,
 ⟨some 15, .give, [.slot 55], none⟩])
 (.seq (.reg [⟨some 56, .mv, [.slot 1], none⟩,
 ⟨some 57, .call 27, [.slot 1, .lit (.str [97])], none⟩,
 ⟨some 16, .give, [.slot 57], none⟩])
 (.seq (.seq (.reg [⟨some 58, .mv, [.slot 1], none⟩,
 ⟨some 59, .lenL, [.slot 1], none⟩,
 ⟨some 60, .bin .neq, [.slot 59, .lit (.int .i64 2)], none⟩,
 ⟨some 61, .mv, [.slot 60], none⟩,
 ⟨some 62, .take, [.slot 10], some (61, false)⟩,
 ⟨some 63, .lenL, [.slot 62], some (61, false)⟩,
 ⟨some 64, .bin .neq, [.slot 63, .lit (.int .i64 1)], some (61, false)⟩,
 ⟨some 65, .pick, [.slot 60, .lit (.bool true), .slot 64], none⟩,
 ⟨some 66, .mv, [.slot 65], none⟩,
 ⟨some 67, .take, [.slot 16], some (66, false)⟩,
 ⟨some 68, .lenL, [.slot 67], some (66, false)⟩,
 ⟨some 69, .bin .neq, [.slot 68, .lit (.int .i64 1)], some (66, false)⟩,
 ⟨some 70, .pick, [.slot 65, .lit (.bool true), .slot 69], none⟩])
 (.cond (.slot 70) (.seq (.reg [⟨some 0, .give, [.lit (.bool false)], none⟩])
 (.ret))
 (.skip)))
 (.seq (.reg [⟨some 71, .mv, [.slot 2], none⟩,
 ⟨some 72, .bin .eql, [.slot 2, .lit (.int .i64 0)], none⟩,
 ⟨some 73, .mv, [.slot 72], none⟩,
 ⟨some 74, .take, [.slot 3], some (73, true)⟩,
 ⟨some 75, .bin .eql, [.slot 74, .lit (.int .i64 0)], some (73, true)⟩,
 ⟨some 76, .pick, [.slot 72, .slot 75, .lit (.bool false)], none⟩,
 ⟨some 77, .mv, [.slot 76], none⟩,
 ⟨some 78, .take, [.slot 5], some (77, true)⟩,
 ⟨some 79, .bin .eql, [.slot 78, .lit (.int .i64 6)], some (77, true)⟩,
 ⟨some 80, .pick, [.slot 76, .slot 79, .lit (.bool false)], none⟩,
 ⟨some 81, .mv, [.slot 80], none⟩,
 ⟨some 82, .take, [.slot 7], some (81, true)⟩,
 ⟨some 83, .bin .eql, [.slot 82, .lit (.int .i64 6)], some (81, true)⟩,
 ⟨some 84, .pick, [.slot 80, .slot 83, .lit (.bool false)], none⟩,
 ⟨some 85, .mv, [.slot 84], none⟩,
 ⟨some 86, .take, [.slot 9], some (85, true)⟩,
 ⟨some 87, .bin .eql, [.slot 86, .lit (.int .i64 0)], some (85, true)⟩,
 ⟨some 88, .pick, [.slot 84, .slot 87, .lit (.bool false)], none⟩,
 ⟨some 89, .mv, [.slot 88], none⟩,
 ⟨some 90, .take, [.slot 11], some (89, true)⟩,
 ⟨some 91, .bin .eql, [.slot 90, .lit (.int .i64 0)], some (89, true)⟩,
 ⟨some 92, .pick, [.slot 88, .slot 91, .lit (.bool false)], none⟩,
 ⟨some 93, .mv, [.slot 92], none⟩,
 ⟨some 94, .take, [.slot 13], some (93, true)⟩,
 ⟨some 95, .bin .eql, [.slot 94, .lit (.int .i64 3)], some (93, true)⟩,
 ⟨some 96, .pick, [.slot 92, .slot 95, .lit (.bool false)], none⟩,
 ⟨some 97, .mv, [.slot 96], none⟩,
 ⟨some 98, .take, [.slot 14], some (97, true)⟩,
 ⟨some 99, .bin .eql, [.slot 98, .lit (.str [52])], some (97, true)⟩,
 ⟨some 100, .pick, [.slot 96, .slot 99, .lit (.bool false)], none⟩,
 ⟨some 101, .mv, [.slot 100], none⟩,
 ⟨some 102, .take, [.slot 15], some (101, true)⟩,
 ⟨some 103, .pick, [.slot 100, .slot 102, .lit (.bool false)], none⟩,
 ⟨some 104, .mv, [.slot 103], none⟩,
 ⟨some 105, .take, [.slot 1], some (104, true)⟩,
 ⟨some 106, .idxB 2, [.slot 105, .lit (.int .i64 0)], some (104, true)⟩,
 ⟨some 107, .fld 0, [.slot 106], some (104, true)⟩,
 ⟨some 108, .load 1 false, [.slot 107], some (104, true)⟩,
 ⟨some 109, .bin .eql, [.slot 108, .lit (.str [97, 47, 120])], some (104, true)⟩,
 ⟨some 110, .pick, [.slot 103, .slot 109, .lit (.bool false)], none⟩,
 ⟨some 111, .mv, [.slot 110], none⟩,
 ⟨some 112, .take, [.slot 1], some (111, true)⟩,
 ⟨some 113, .call 24, [.slot 112], some (111, true)⟩,
 ⟨some 114, .bin .eql, [.slot 113, .lit (.int .i64 3)], some (111, true)⟩,
 ⟨some 115, .pick, [.slot 110, .slot 114, .lit (.bool false)], none⟩,
 ⟨some 116, .mv, [.slot 115], none⟩,
 ⟨some 117, .take, [.slot 1], some (116, true)⟩,
 ⟨some 118, .take, [.slot 1], some (116, true)⟩,
 ⟨some 119, .call 23, [.slot 117, .slot 118], some (116, true)⟩,
 ⟨some 120, .pick, [.slot 115, .slot 119, .lit (.bool false)], none⟩,
 ⟨some 121, .mv, [.slot 120], none⟩,
 ⟨some 122, .take, [.slot 1], some (121, true)⟩,
 ⟨some 123, .take, [.slot 8], some (121, true)⟩,
 ⟨some 124, .call 23, [.slot 122, .slot 123], some (121, true)⟩,
 ⟨some 125, .un .not, [.slot 124], some (121, true)⟩,
 ⟨some 126, .pick, [.slot 120, .slot 125, .lit (.bool false)], none⟩,
 ⟨some 127, .mv, [.slot 126], none⟩,
 ⟨some 128, .take, [.slot 16], some (127, true)⟩,
 ⟨some 129, .idxB 1, [.slot 128, .lit (.int .i64 0)], some (127, true)⟩,
 ⟨some 130, .load 1 false, [.slot 129], some (127, true)⟩,
 ⟨some 131, .bin .eql, [.slot 130, .lit (.str [97, 47, 120])], some (127, true)⟩,
 ⟨some 132, .pick, [.slot 126, .slot 131, .lit (.bool false)], none⟩,
 ⟨some 133, .mv, [.slot 132], none⟩,
 ⟨some 134, .take, [.slot 1], some (133, true)⟩,
 ⟨some 135, .call 21, [.slot 134, .lit (.str [98])], some (133, true)⟩,
 ⟨some 136, .bin .eql, [.slot 135, .lit (.int .i64 1)], some (133, true)⟩,
 ⟨some 137, .pick, [.slot 132, .slot 136, .lit (.bool false)], none⟩,
 ⟨some 138, .mv, [.slot 137], none⟩,
 ⟨some 139, .take, [.slot 1], some (138, true)⟩,
 ⟨some 140, .call 19, [.slot 139], some (138, true)⟩,
 ⟨some 141, .pick, [.slot 137, .slot 140, .lit (.bool false)], none⟩,
 ⟨some 142, .mv, [.slot 141], none⟩,
 ⟨some 143, .bld [.str [], .str []] [(0, 1)], [.lit (.str [98])], some (142, true)⟩,
 ⟨some 144, .bld [.str [], .str []] [(0, 1)], [.lit (.str [97])], some (142, true)⟩,
 ⟨some 145, .bsl 2 2 [.str [], .str []] [0, 1], [.slot 143, .slot 144], some (142, true)⟩,
 ⟨some 146, .call 19, [.slot 145], some (142, true)⟩,
 ⟨some 147, .un .not, [.slot 146], some (142, true)⟩,
 ⟨some 148, .pick, [.slot 141, .slot 147, .lit (.bool false)], none⟩,
 ⟨some 0, .give, [.slot 148], none⟩])
 (.ret))))))))))))),
 149, [.tmp 0]⟩
theorem c10 : cFunc Proofs.Tryd.prog 10 = some sf10 := by kernel_rfl
/-- carpetbag/carpetbaglaw04.Few -/
def sf11 : SF := ⟨(.seq (.reg [⟨some 2, .give, [.lit (.bool false)], none⟩])
 (.seq (.seq (.reg [⟨some 4, .mv, [.slot 0], none⟩,
 ⟨some 5, .lenL, [.slot 0], none⟩,
 ⟨some 6, .bin .gtr, [.slot 5, .lit (.int .i64 40)], none⟩])
 (.cond (.slot 6) (.seq (.reg [⟨some 2, .give, [.lit (.bool false)], none⟩])
 (.ret))
 (.skip)))
 (.seq (.seq (.reg [⟨some 3, .take, [.lit (.int .i64 0)], none⟩])
 (.block 0 (.loop (.seq (.seq (.reg [⟨some 7, .mv, [.slot 3], none⟩,
 ⟨some 8, .mv, [.slot 0], none⟩,
 ⟨some 9, .lenL, [.slot 0], none⟩,
 ⟨some 10, .bin .lss, [.slot 3, .slot 9], none⟩])
 (.cond (.slot 10) (.skip)
 (.exit 0)))
 (.seq (.block 1 (.seq (.reg [⟨some 13, .mv, [.slot 0], none⟩,
 ⟨some 14, .mv, [.slot 3], none⟩,
 ⟨some 15, .idxB 2, [.slot 0, .slot 3], none⟩,
 ⟨some 16, .fld 0, [.slot 15], none⟩,
 ⟨some 17, .load 1 false, [.slot 16], none⟩,
 ⟨some 18, .lenS, [.slot 17], none⟩,
 ⟨some 19, .bin .gtr, [.slot 18, .lit (.int .i64 100)], none⟩,
 ⟨some 20, .mv, [.slot 19], none⟩,
 ⟨some 21, .take, [.slot 0], some (20, false)⟩,
 ⟨some 22, .take, [.slot 3], some (20, false)⟩,
 ⟨some 23, .idxB 2, [.slot 21, .slot 22], some (20, false)⟩,
 ⟨some 24, .fld 1, [.slot 23], some (20, false)⟩,
 ⟨some 25, .load 1 false, [.slot 24], some (20, false)⟩,
 ⟨some 26, .lenS, [.slot 25], some (20, false)⟩,
 ⟨some 27, .bin .gtr, [.slot 26, .lit (.int .i64 1000)], some (20, false)⟩,
 ⟨some 28, .pick, [.slot 19, .lit (.bool true), .slot 27], none⟩])
 (.cond (.slot 28) (.seq (.reg [⟨some 2, .give, [.lit (.bool false)], none⟩])
 (.ret))
 (.skip))))
 (.reg [⟨some 11, .mv, [.slot 3], none⟩,
 ⟨some 12, .bin .add, [.slot 3, .lit (.int .i64 1)], none⟩,
 ⟨some 3, .give, [.slot 12], none⟩]))))))
 (.seq (.reg [⟨some 2, .give, [.lit (.bool true)], none⟩])
 (.ret))))),
 29, [.tmp 2]⟩
theorem c11 : cFunc Proofs.Tryd.prog 11 = some sf11 := by kernel_rfl
/-- carpetbag/tree.Put -/
def sf12 : SF := ⟨(.seq (.reg [⟨some 4, .box, [.slot 1], none⟩,
 ⟨some 6, .give, [.lit (.nilS)], none⟩,
 ⟨some 7, .give, [.lit (.int .i64 0)], none⟩])
 (.seq (.seq (.reg [⟨some 13, .mv, [.slot 0], none⟩,
 ⟨some 14, .call 19, [.slot 0], none⟩,
 ⟨some 15, .un .not, [.slot 14], none⟩])
 (.cond (.slot 15) (.seq (.reg [⟨some 6, .give, [.lit (.nilS)], none⟩,
 ⟨some 7, .give, [.lit (.int .i64 1)], none⟩])
 (.ret))
 (.skip)))
 (.seq (.reg [⟨some 16, .mfn 32 0 1, [.slot 4], none⟩,
 ⟨some 8, .give, [.slot 16], none⟩])
 (.seq (.reg [⟨some 18, .mv, [.slot 0], none⟩,
 ⟨some 19, .load 1 false, [.slot 4], none⟩,
 ⟨some 20, .call 34, [.slot 0, .slot 19], none⟩,
 ⟨some 17, .mv, [.slot 20], none⟩,
 ⟨some 21, .ext 0, [.slot 20], none⟩,
 ⟨some 22, .ext 1, [.slot 20], none⟩,
 ⟨some 9, .give, [.slot 21], none⟩,
 ⟨some 10, .give, [.slot 22], none⟩])
 (.seq (.block 0 (.seq (.reg [⟨some 24, .load 1 false, [.slot 4], none⟩,
 ⟨some 25, .call 35, [.slot 24], none⟩,
 ⟨some 26, .un .not, [.slot 25], none⟩,
 ⟨some 27, .mv, [.slot 26], none⟩,
 ⟨some 28, .take, [.slot 0], some (27, false)⟩,
 ⟨some 29, .take, [.slot 8], some (27, false)⟩,
 ⟨some 30, .call 36, [.slot 28, .slot 29], some (27, false)⟩,
 ⟨some 31, .pick, [.slot 26, .lit (.bool true), .slot 30], none⟩,
 ⟨some 23, .give, [.slot 31], none⟩])
 (.cond (.slot 23) (.seq (.reg [⟨some 6, .give, [.lit (.nilS)], none⟩,
 ⟨some 7, .give, [.lit (.int .i64 6)], none⟩])
 (.ret))
 (.seq (.reg [⟨some 33, .mv, [.slot 2], none⟩,
 ⟨some 34, .lenS, [.slot 2], none⟩,
 ⟨some 35, .bin .gtr, [.slot 34, .lit (.int .i64 600)], none⟩,
 ⟨some 36, .mv, [.slot 35], none⟩,
 ⟨some 37, .take, [.slot 10], some (36, false)⟩,
 ⟨some 38, .un .not, [.slot 37], some (36, false)⟩,
 ⟨some 39, .take, [.slot 38], some (36, false)⟩,
 ⟨some 40, .take, [.slot 0], some (39, true)⟩,
 ⟨some 41, .lenL, [.slot 40], some (39, true)⟩,
 ⟨some 42, .bin .geq, [.slot 41, .lit (.int .i64 16)], some (39, true)⟩,
 ⟨some 43, .pick, [.slot 39, .slot 42, .lit (.bool false)], some (36, false)⟩,
 ⟨some 44, .pick, [.slot 35, .lit (.bool true), .slot 43], none⟩,
 ⟨some 32, .give, [.slot 44], none⟩])
 (.cond (.slot 32) (.seq (.reg [⟨some 6, .give, [.lit (.nilS)], none⟩,
 ⟨some 7, .give, [.lit (.int .i64 2)], none⟩])
 (.ret))
 (.skip))))))
 (.seq (.reg [⟨some 45, .load 1 false, [.slot 4], none⟩,
 ⟨some 46, .mv, [.slot 2], none⟩,
 ⟨some 47, .bld [.str [], .str []] [(0, 1), (1, 1)], [.slot 45, .slot 2], none⟩,
 ⟨some 11, .alloc [.str [], .str []], [], none⟩,
 ⟨none, .store 2 true, [.slot 11, .slot 47], none⟩])
 (.seq (.reg [⟨some 48, .mv, [.slot 0], none⟩,
 ⟨some 49, .call 37, [.slot 0], none⟩,
 ⟨some 12, .give, [.slot 49], none⟩])
 (.seq (.seq (.reg [⟨some 50, .mv, [.slot 10], none⟩])
 (.cond (.slot 50) (.seq (.reg [⟨some 51, .mv, [.slot 12], none⟩,
 ⟨some 52, .mv, [.slot 9], none⟩,
 ⟨some 53, .load 2 true, [.slot 11], none⟩,
 ⟨some 54, .idxO 2, [.slot 12, .slot 9], none⟩,
 ⟨none, .store 2 true, [.slot 54, .slot 53], none⟩])
 (.seq (.reg [⟨some 55, .mv, [.slot 12], none⟩,
 ⟨some 6, .give, [.slot 12], none⟩,
 ⟨some 7, .give, [.lit (.int .i64 0)], none⟩])
 (.ret)))
 (.skip)))
 (.seq (.reg [⟨some 56, .mv, [.slot 12], none⟩,
 ⟨some 57, .mv, [.slot 9], none⟩,
 ⟨some 58, .load 2 true, [.slot 11], none⟩,
 ⟨some 59, .bsl 2 1 [.str [], .str []] [0], [.slot 58], none⟩,
 ⟨some 60, .callx 38, [.slot 12, .slot 9, .slot 59], none⟩,
 ⟨some 6, .give, [.slot 60], none⟩,
 ⟨some 7, .give, [.lit (.int .i64 0)], none⟩])
 (.ret)))))))))),
 61, [.tmp 6, .tmp 7]⟩
theorem c12 : cFunc Proofs.Tryd.prog 12 = some sf12 := by kernel_rfl
/-- carpetbag/carpetbagref04.Put -/
def sf13 : SF := ⟨(.seq (.reg [⟨some 6, .give, [.lit (.nilS)], none⟩,
 ⟨some 7, .give, [.lit (.int .i64 0)], none⟩])
 (.seq (.seq (.reg [⟨some 13, .mv, [.slot 0], none⟩,
 ⟨some 14, .call 20, [.slot 0], none⟩,
 ⟨some 15, .un .not, [.slot 14], none⟩])
 (.cond (.slot 15) (.seq (.reg [⟨some 6, .give, [.lit (.nilS)], none⟩,
 ⟨some 7, .give, [.lit (.int .i64 1)], none⟩])
 (.ret))
 (.skip)))
 (.seq (.reg [⟨some 16, .mv, [.slot 1], none⟩,
 ⟨some 17, .call 39, [.slot 1], none⟩,
 ⟨some 8, .give, [.slot 17], none⟩])
 (.seq (.seq (.reg [⟨some 18, .mv, [.slot 8], none⟩,
 ⟨some 19, .un .not, [.slot 8], none⟩])
 (.cond (.slot 19) (.seq (.reg [⟨some 6, .give, [.lit (.nilS)], none⟩,
 ⟨some 7, .give, [.lit (.int .i64 6)], none⟩])
 (.ret))
 (.skip)))
 (.seq (.seq (.reg [⟨some 9, .take, [.lit (.int .i64 0)], none⟩])
 (.block 0 (.loop (.seq (.seq (.reg [⟨some 20, .mv, [.slot 9], none⟩,
 ⟨some 21, .mv, [.slot 0], none⟩,
 ⟨some 22, .lenL, [.slot 0], none⟩,
 ⟨some 23, .bin .lss, [.slot 9, .slot 22], none⟩])
 (.cond (.slot 23) (.skip)
 (.exit 0)))
 (.seq (.block 1 (.seq (.reg [⟨some 26, .mv, [.slot 1], none⟩,
 ⟨some 27, .mv, [.slot 0], none⟩,
 ⟨some 28, .mv, [.slot 9], none⟩,
 ⟨some 29, .idxB 2, [.slot 0, .slot 9], none⟩,
 ⟨some 30, .fld 0, [.slot 29], none⟩,
 ⟨some 31, .load 1 false, [.slot 30], none⟩,
 ⟨some 32, .call 40, [.slot 1, .slot 31], none⟩,
 ⟨some 33, .mv, [.slot 32], none⟩,
 ⟨some 34, .take, [.slot 0], some (33, false)⟩,
 ⟨some 35, .take, [.slot 9], some (33, false)⟩,
 ⟨some 36, .idxB 2, [.slot 34, .slot 35], some (33, false)⟩,
 ⟨some 37, .fld 0, [.slot 36], some (33, false)⟩,
 ⟨some 38, .load 1 false, [.slot 37], some (33, false)⟩,
 ⟨some 39, .take, [.slot 1], some (33, false)⟩,
 ⟨some 40, .call 40, [.slot 38, .slot 39], some (33, false)⟩,
 ⟨some 41, .pick, [.slot 32, .lit (.bool true), .slot 40], none⟩])
 (.cond (.slot 41) (.seq (.reg [⟨some 6, .give, [.lit (.nilS)], none⟩,
 ⟨some 7, .give, [.lit (.int .i64 6)], none⟩])
 (.ret))
 (.skip))))
 (.reg [⟨some 24, .mv, [.slot 9], none⟩,
 ⟨some 25, .bin .add, [.slot 9, .lit (.int .i64 1)], none⟩,
 ⟨some 9, .give, [.slot 25], none⟩]))))))
 (.seq (.reg [⟨some 42, .mv, [.slot 0], none⟩,
 ⟨some 43, .mv, [.slot 1], none⟩,
 ⟨some 44, .call 41, [.slot 0, .slot 1], none⟩,
 ⟨some 10, .give, [.slot 44], none⟩])
 (.seq (.seq (.reg [⟨some 45, .mv, [.slot 2], none⟩,
 ⟨some 46, .lenS, [.slot 2], none⟩,
 ⟨some 47, .bin .gtr, [.slot 46, .lit (.int .i64 600)], none⟩,
 ⟨some 48, .mv, [.slot 47], none⟩,
 ⟨some 49, .take, [.slot 10], some (48, false)⟩,
 ⟨some 50, .bin .lss, [.slot 49, .lit (.int .i64 0)], some (48, false)⟩,
 ⟨some 51, .take, [.slot 50], some (48, false)⟩,
 ⟨some 52, .take, [.slot 0], some (51, true)⟩,
 ⟨some 53, .lenL, [.slot 52], some (51, true)⟩,
 ⟨some 54, .bin .geq, [.slot 53, .lit (.int .i64 16)], some (51, true)⟩,
 ⟨some 55, .pick, [.slot 51, .slot 54, .lit (.bool false)], some (48, false)⟩,
 ⟨some 56, .pick, [.slot 47, .lit (.bool true), .slot 55], none⟩])
 (.cond (.slot 56) (.seq (.reg [⟨some 6, .give, [.lit (.nilS)], none⟩,
 ⟨some 7, .give, [.lit (.int .i64 2)], none⟩])
 (.ret))
 (.skip)))
 (.seq (.reg [⟨some 57, .bsl 2 0 [.str [], .str []] [], [], none⟩,
 ⟨some 58, .mv, [.slot 0], none⟩,
 ⟨some 59, .app 2 32 [.str [], .str []], [.slot 57, .slot 0], none⟩,
 ⟨some 11, .giveO, [.slot 59], none⟩])
 (.seq (.seq (.reg [⟨some 60, .mv, [.slot 10], none⟩,
 ⟨some 61, .bin .geq, [.slot 10, .lit (.int .i64 0)], none⟩])
 (.cond (.slot 61) (.seq (.reg [⟨some 62, .mv, [.slot 11], none⟩,
 ⟨some 63, .mv, [.slot 10], none⟩,
 ⟨some 64, .mv, [.slot 2], none⟩,
 ⟨some 65, .idxB 2, [.slot 11, .slot 10], none⟩,
 ⟨some 66, .fld 1, [.slot 65], none⟩,
 ⟨none, .store 1 false, [.slot 66, .slot 2], none⟩])
 (.seq (.reg [⟨some 67, .mv, [.slot 11], none⟩,
 ⟨some 6, .give, [.slot 11], none⟩,
 ⟨some 7, .give, [.lit (.int .i64 0)], none⟩])
 (.ret)))
 (.skip)))
 (.seq (.reg [⟨some 12, .take, [.lit (.int .i64 0)], none⟩])
 (.seq (.block 2 (.loop (.seq (.seq (.reg [⟨some 68, .mv, [.slot 12], none⟩,
 ⟨some 69, .mv, [.slot 0], none⟩,
 ⟨some 70, .lenL, [.slot 0], none⟩,
 ⟨some 71, .bin .lss, [.slot 12, .slot 70], none⟩,
 ⟨some 72, .mv, [.slot 71], none⟩,
 ⟨some 73, .take, [.slot 0], some (72, true)⟩,
 ⟨some 74, .take, [.slot 12], some (72, true)⟩,
 ⟨some 75, .idxB 2, [.slot 73, .slot 74], some (72, true)⟩,
 ⟨some 76, .fld 0, [.slot 75], some (72, true)⟩,
 ⟨some 77, .load 1 false, [.slot 76], some (72, true)⟩,
 ⟨some 78, .take, [.slot 1], some (72, true)⟩,
 ⟨some 79, .bin .lss, [.slot 77, .slot 78], some (72, true)⟩,
 ⟨some 80, .pick, [.slot 71, .slot 79, .lit (.bool false)], none⟩])
 (.cond (.slot 80) (.skip)
 (.exit 2)))
 (.block 3 (.reg [⟨some 81, .mv, [.slot 12], none⟩,
 ⟨some 82, .bin .add, [.slot 12, .lit (.int .i64 1)], none⟩,
 ⟨some 12, .give, [.slot 82], none⟩])))))
 (.seq (.reg [⟨some 83, .bsl 2 0 [.str [], .str []] [], [], none⟩,
 ⟨some 84, .mv, [.slot 0], none⟩,
 ⟨some 85, .mv, [.slot 12], none⟩,
 ⟨some 86, .slcL 2 false true false, [.slot 84, .slot 85], none⟩,
 ⟨some 87, .app 2 32 [.str [], .str []], [.slot 83, .slot 86], none⟩,
 ⟨some 88, .mv, [.slot 1], none⟩,
 ⟨some 89, .mv, [.slot 2], none⟩,
 ⟨some 90, .bld [.str [], .str []] [(0, 1), (1, 1)], [.slot 88, .slot 89], none⟩,
 ⟨some 91, .bsl 2 1 [.str [], .str []] [0], [.slot 90], none⟩,
 ⟨some 92, .app 2 32 [.str [], .str []], [.slot 87, .slot 91], none⟩,
 ⟨some 93, .mv, [.slot 0], none⟩,
 ⟨some 94, .mv, [.slot 12], none⟩,
 ⟨some 95, .slcL 2 true false false, [.slot 93, .slot 94], none⟩,
 ⟨some 96, .app 2 32 [.str [], .str []], [.slot 92, .slot 95], none⟩,
 ⟨some 6, .give, [.slot 96], none⟩,
 ⟨some 7, .give, [.lit (.int .i64 0)], none⟩])
 (.ret))))))))))))),
 97, [.tmp 6, .tmp 7]⟩
theorem c13 : cFunc Proofs.Tryd.prog 13 = some sf13 := by kernel_rfl
/-- carpetbag/tree.Drop -/
def sf14 : SF := ⟨(.seq (.reg [⟨some 4, .give, [.lit (.nilS)], none⟩,
 ⟨some 5, .give, [.lit (.int .i64 0)], none⟩])
 (.seq (.seq (.reg [⟨some 8, .mv, [.slot 0], none⟩,
 ⟨some 9, .call 19, [.slot 0], none⟩,
 ⟨some 10, .un .not, [.slot 9], none⟩])
 (.cond (.slot 10) (.seq (.reg [⟨some 4, .give, [.lit (.nilS)], none⟩,
 ⟨some 5, .give, [.lit (.int .i64 1)], none⟩])
 (.ret))
 (.skip)))
 (.seq (.reg [⟨some 12, .mv, [.slot 0], none⟩,
 ⟨some 13, .mv, [.slot 1], none⟩,
 ⟨some 14, .call 34, [.slot 0, .slot 1], none⟩,
 ⟨some 11, .mv, [.slot 14], none⟩,
 ⟨some 15, .ext 0, [.slot 14], none⟩,
 ⟨some 16, .ext 1, [.slot 14], none⟩,
 ⟨some 6, .give, [.slot 15], none⟩,
 ⟨some 7, .give, [.slot 16], none⟩])
 (.seq (.seq (.reg [⟨some 17, .mv, [.slot 7], none⟩,
 ⟨some 18, .un .not, [.slot 7], none⟩])
 (.cond (.slot 18) (.seq (.reg [⟨some 4, .give, [.lit (.nilS)], none⟩,
 ⟨some 5, .give, [.lit (.int .i64 3)], none⟩])
 (.ret))
 (.skip)))
 (.seq (.reg [⟨some 19, .mv, [.slot 0], none⟩,
 ⟨some 20, .call 37, [.slot 0], none⟩,
 ⟨some 21, .mv, [.slot 6], none⟩,
 ⟨some 22, .mv, [.slot 6], none⟩,
 ⟨some 23, .bin .add, [.slot 6, .lit (.int .i64 1)], none⟩,
 ⟨some 24, .callx 42, [.slot 20, .slot 6, .slot 23], none⟩,
 ⟨some 4, .give, [.slot 24], none⟩,
 ⟨some 5, .give, [.lit (.int .i64 0)], none⟩])
 (.ret)))))),
 25, [.tmp 4, .tmp 5]⟩
theorem c14 : cFunc Proofs.Tryd.prog 14 = some sf14 := by kernel_rfl
/-- carpetbag/carpetbagref04.Drop -/
def sf15 : SF := ⟨(.seq (.reg [⟨some 4, .give, [.lit (.nilS)], none⟩,
 ⟨some 5, .give, [.lit (.int .i64 0)], none⟩])
 (.seq (.seq (.reg [⟨some 7, .mv, [.slot 0], none⟩,
 ⟨some 8, .call 20, [.slot 0], none⟩,
 ⟨some 9, .un .not, [.slot 8], none⟩])
 (.cond (.slot 9) (.seq (.reg [⟨some 4, .give, [.lit (.nilS)], none⟩,
 ⟨some 5, .give, [.lit (.int .i64 1)], none⟩])
 (.ret))
 (.skip)))
 (.seq (.reg [⟨some 10, .mv, [.slot 0], none⟩,
 ⟨some 11, .mv, [.slot 1], none⟩,
 ⟨some 12, .call 41, [.slot 0, .slot 1], none⟩,
 ⟨some 6, .give, [.slot 12], none⟩])
 (.seq (.seq (.reg [⟨some 13, .mv, [.slot 6], none⟩,
 ⟨some 14, .bin .lss, [.slot 6, .lit (.int .i64 0)], none⟩])
 (.cond (.slot 14) (.seq (.reg [⟨some 4, .give, [.lit (.nilS)], none⟩,
 ⟨some 5, .give, [.lit (.int .i64 3)], none⟩])
 (.ret))
 (.skip)))
 (.seq (.reg [⟨some 15, .bsl 2 0 [.str [], .str []] [], [], none⟩,
 ⟨some 16, .mv, [.slot 0], none⟩,
 ⟨some 17, .mv, [.slot 6], none⟩,
 ⟨some 18, .slcL 2 false true false, [.slot 16, .slot 17], none⟩,
 ⟨some 19, .app 2 32 [.str [], .str []], [.slot 15, .slot 18], none⟩,
 ⟨some 20, .mv, [.slot 0], none⟩,
 ⟨some 21, .mv, [.slot 6], none⟩,
 ⟨some 22, .bin .add, [.slot 6, .lit (.int .i64 1)], none⟩,
 ⟨some 23, .slcL 2 true false false, [.slot 20, .slot 22], none⟩,
 ⟨some 24, .app 2 32 [.str [], .str []], [.slot 19, .slot 23], none⟩,
 ⟨some 4, .give, [.slot 24], none⟩,
 ⟨some 5, .give, [.lit (.int .i64 0)], none⟩])
 (.ret)))))),
 25, [.tmp 4, .tmp 5]⟩
theorem c15 : cFunc Proofs.Tryd.prog 15 = some sf15 := by kernel_rfl
/-- carpetbag/tree.Get -/
def sf16 : SF := ⟨(.seq (.reg [⟨some 4, .give, [.lit (.str [])], none⟩,
 ⟨some 5, .give, [.lit (.bool false)], none⟩])
 (.seq (.reg [⟨some 7, .mv, [.slot 0], none⟩,
 ⟨some 8, .mv, [.slot 1], none⟩,
 ⟨some 9, .call 21, [.slot 0, .slot 1], none⟩,
 ⟨some 6, .give, [.slot 9], none⟩])
 (.seq (.seq (.reg [⟨some 10, .mv, [.slot 6], none⟩,
 ⟨some 11, .bin .lss, [.slot 6, .lit (.int .i64 0)], none⟩])
 (.cond (.slot 11) (.seq (.reg [⟨some 4, .give, [.lit (.str [])], none⟩,
 ⟨some 5, .give, [.lit (.bool false)], none⟩])
 (.ret))
 (.skip)))
 (.seq (.reg [⟨some 12, .mv, [.slot 0], none⟩,
 ⟨some 13, .mv, [.slot 6], none⟩,
 ⟨some 14, .idxB 2, [.slot 0, .slot 6], none⟩,
 ⟨some 15, .fld 1, [.slot 14], none⟩,
 ⟨some 16, .load 1 false, [.slot 15], none⟩,
 ⟨some 4, .give, [.slot 16], none⟩,
 ⟨some 5, .give, [.lit (.bool true)], none⟩])
 (.ret))))),
 17, [.tmp 4, .tmp 5]⟩
theorem c16 : cFunc Proofs.Tryd.prog 16 = some sf16 := by kernel_rfl
/-- carpetbag/carpetbagref04.Get -/
def sf17 : SF := ⟨(.seq (.reg [⟨some 4, .give, [.lit (.str [])], none⟩,
 ⟨some 5, .give, [.lit (.bool false)], none⟩])
 (.seq (.reg [⟨some 7, .mv, [.slot 0], none⟩,
 ⟨some 8, .mv, [.slot 1], none⟩,
 ⟨some 9, .call 22, [.slot 0, .slot 1], none⟩,
 ⟨some 6, .give, [.slot 9], none⟩])
 (.seq (.seq (.reg [⟨some 10, .mv, [.slot 6], none⟩,
 ⟨some 11, .bin .lss, [.slot 6, .lit (.int .i64 0)], none⟩])
 (.cond (.slot 11) (.seq (.reg [⟨some 4, .give, [.lit (.str [])], none⟩,
 ⟨some 5, .give, [.lit (.bool false)], none⟩])
 (.ret))
 (.skip)))
 (.seq (.reg [⟨some 12, .mv, [.slot 0], none⟩,
 ⟨some 13, .mv, [.slot 6], none⟩,
 ⟨some 14, .idxB 2, [.slot 0, .slot 6], none⟩,
 ⟨some 15, .fld 1, [.slot 14], none⟩,
 ⟨some 16, .load 1 false, [.slot 15], none⟩,
 ⟨some 4, .give, [.slot 16], none⟩,
 ⟨some 5, .give, [.lit (.bool true)], none⟩])
 (.ret))))),
 17, [.tmp 4, .tmp 5]⟩
theorem c17 : cFunc Proofs.Tryd.prog 17 = some sf17 := by kernel_rfl
/-- carpetbag/carpetbagref04.Same -/
def sf18 : SF := ⟨(.seq (.reg [⟨some 4, .give, [.lit (.bool false)], none⟩])
 (.seq (.seq (.reg [⟨some 6, .mv, [.slot 0], none⟩,
 ⟨some 7, .lenL, [.slot 0], none⟩,
 ⟨some 8, .mv, [.slot 1], none⟩,
 ⟨some 9, .lenL, [.slot 1], none⟩,
 ⟨some 10, .bin .neq, [.slot 7, .slot 9], none⟩])
 (.cond (.slot 10) (.seq (.reg [⟨some 4, .give, [.lit (.bool false)], none⟩])
 (.ret))
 (.skip)))
 (.seq (.seq (.reg [⟨some 5, .take, [.lit (.int .i64 0)], none⟩])
 (.block 0 (.loop (.seq (.seq (.reg [⟨some 11, .mv, [.slot 5], none⟩,
 ⟨some 12, .mv, [.slot 0], none⟩,
 ⟨some 13, .lenL, [.slot 0], none⟩,
 ⟨some 14, .bin .lss, [.slot 5, .slot 13], none⟩])
 (.cond (.slot 14) (.skip)
 (.exit 0)))
 (.seq (.block 1 (.seq (.reg [⟨some 17, .mv, [.slot 0], none⟩,
 ⟨some 18, .mv, [.slot 5], none⟩,
 ⟨some 19, .idxA 2, [.slot 0, .slot 5], none⟩,
 ⟨some 20, .load 2 true, [.slot 19], none⟩,
 ⟨some 21, .mv, [.slot 1], none⟩,
 ⟨some 22, .mv, [.slot 5], none⟩,
 ⟨some 23, .idxA 2, [.slot 1, .slot 5], none⟩,
 ⟨some 24, .load 2 true, [.slot 23], none⟩,
 ⟨some 25, .eqA true [.s, .s], [.slot 20, .slot 24], none⟩])
 (.cond (.slot 25) (.seq (.reg [⟨some 4, .give, [.lit (.bool false)], none⟩])
 (.ret))
 (.skip))))
 (.reg [⟨some 15, .mv, [.slot 5], none⟩,
 ⟨some 16, .bin .add, [.slot 5, .lit (.int .i64 1)], none⟩,
 ⟨some 5, .give, [.slot 16], none⟩]))))))
 (.seq (.reg [⟨some 4, .give, [.lit (.bool true)], none⟩])
 (.ret))))),
 26, [.tmp 4]⟩
theorem c18 : cFunc Proofs.Tryd.prog 18 = some sf18 := by kernel_rfl
/-- carpetbag/tree.Right -/
def sf19 : SF := ⟨(.seq (.reg [⟨some 2, .give, [.lit (.bool false)], none⟩])
 (.seq (.seq (.reg [⟨some 6, .mv, [.slot 0], none⟩,
 ⟨some 7, .lenL, [.slot 0], none⟩,
 ⟨some 8, .bin .gtr, [.slot 7, .lit (.int .i64 16)], none⟩])
 (.cond (.slot 8) (.seq (.reg [⟨some 2, .give, [.lit (.bool false)], none⟩])
 (.ret))
 (.skip)))
 (.seq (.seq (.reg [⟨some 9, .mv, [.slot 0], none⟩,
 ⟨some 10, .lenL, [.slot 0], none⟩,
 ⟨some 11, .mv, [.lit (.int .i64 0)], none⟩])
 (.block 0 (.loop (.seq (.reg [⟨some 12, .bin .lss, [.slot 11, .slot 10], none⟩])
 (.seq (.cond (.slot 12) (.skip)
 (.exit 0))
 (.seq (.block 1 (.seq (.reg [⟨some 13, .mv, [.slot 11], none⟩,
 ⟨some 14, .idxB 2, [.slot 9, .slot 11], none⟩,
 ⟨some 15, .load 2 true, [.slot 14], none⟩,
 ⟨some 4, .alloc [.str [], .str []], [], none⟩,
 ⟨some 3, .take, [.slot 11], none⟩,
 ⟨none, .store 2 true, [.slot 4, .slot 15], none⟩])
 (.seq (.reg [⟨some 16, .mfn 43 0 1, [.slot 4], none⟩,
 ⟨some 5, .give, [.slot 16], none⟩])
 (.seq (.reg [⟨some 17, .fld 0, [.slot 4], none⟩,
 ⟨some 18, .load 1 false, [.slot 17], none⟩,
 ⟨some 19, .callp 35, [.slot 18], none⟩,
 ⟨some 20, .un .not, [.slot 19], none⟩,
 ⟨some 21, .mv, [.slot 20], none⟩,
 ⟨some 22, .fld 1, [.slot 4], some (21, false)⟩,
 ⟨some 23, .load 1 false, [.slot 22], some (21, false)⟩,
 ⟨some 24, .lenS, [.slot 23], some (21, false)⟩,
 ⟨some 25, .bin .gtr, [.slot 24, .lit (.int .i64 600)], some (21, false)⟩,
 ⟨some 26, .pick, [.slot 20, .lit (.bool true), .slot 25], none⟩,
 ⟨some 27, .mv, [.slot 26], none⟩,
 ⟨some 28, .mv, [.slot 3], some (27, false)⟩,
 ⟨some 29, .bin .gtr, [.slot 28, .lit (.int .i64 0)], some (27, false)⟩,
 ⟨some 30, .mv, [.slot 29], some (27, false)⟩,
 ⟨some 31, .fld 0, [.slot 4], some (30, true)⟩,
 ⟨some 32, .load 1 false, [.slot 31], some (30, true)⟩,
 ⟨some 33, .mv, [.slot 0], some (30, true)⟩,
 ⟨some 34, .mv, [.slot 3], some (30, true)⟩,
 ⟨some 35, .bin .sub, [.slot 34, .lit (.int .i64 1)], some (30, true)⟩,
 ⟨some 36, .idxA 2, [.slot 33, .slot 35], some (30, true)⟩,
 ⟨some 37, .fld 0, [.slot 36], some (30, true)⟩,
 ⟨some 38, .load 1 false, [.slot 37], some (30, true)⟩,
 ⟨some 39, .bin .leq, [.slot 32, .slot 38], some (30, true)⟩,
 ⟨some 40, .pick, [.slot 30, .slot 39, .lit (.bool false)], some (27, false)⟩,
 ⟨some 41, .pick, [.slot 26, .lit (.bool true), .slot 40], none⟩,
 ⟨some 42, .mv, [.slot 41], none⟩,
 ⟨some 43, .mv, [.slot 0], some (42, false)⟩,
 ⟨some 44, .mv, [.slot 5], some (42, false)⟩,
 ⟨some 45, .call 36, [.slot 43, .slot 44], some (42, false)⟩,
 ⟨some 46, .pick, [.slot 41, .lit (.bool true), .slot 45], none⟩])
 (.cond (.slot 46) (.seq (.reg [⟨some 2, .give, [.lit (.bool false)], none⟩])
 (.ret))
 (.skip))))))
 (.reg [⟨some 47, .bin .add, [.slot 11, .lit (.int .i64 1)], none⟩,
 ⟨some 11, .mv, [.slot 47], none⟩])))))))
 (.seq (.reg [⟨some 2, .give, [.lit (.bool true)], none⟩])
 (.ret))))),
 48, [.tmp 2]⟩
theorem c19 : cFunc Proofs.Tryd.prog 19 = some sf19 := by kernel_rfl
/-- carpetbag/carpetbagref04.Right -/
def sf20 : SF := ⟨(.seq (.reg [⟨some 2, .give, [.lit (.bool false)], none⟩])
 (.seq (.seq (.reg [⟨some 6, .mv, [.slot 0], none⟩,
 ⟨some 7, .lenL, [.slot 0], none⟩,
 ⟨some 8, .bin .gtr, [.slot 7, .lit (.int .i64 16)], none⟩])
 (.cond (.slot 8) (.seq (.reg [⟨some 2, .give, [.lit (.bool false)], none⟩])
 (.ret))
 (.skip)))
 (.seq (.seq (.reg [⟨some 3, .take, [.lit (.int .i64 0)], none⟩])
 (.block 0 (.loop (.seq (.seq (.reg [⟨some 9, .mv, [.slot 3], none⟩,
 ⟨some 10, .mv, [.slot 0], none⟩,
 ⟨some 11, .lenL, [.slot 0], none⟩,
 ⟨some 12, .bin .lss, [.slot 3, .slot 11], none⟩])
 (.cond (.slot 12) (.skip)
 (.exit 0)))
 (.seq (.block 1 (.seq (.reg [⟨some 15, .mv, [.slot 0], none⟩,
 ⟨some 16, .mv, [.slot 3], none⟩,
 ⟨some 17, .idxB 2, [.slot 0, .slot 3], none⟩,
 ⟨some 18, .fld 0, [.slot 17], none⟩,
 ⟨some 19, .load 1 false, [.slot 18], none⟩,
 ⟨some 20, .call 39, [.slot 19], none⟩,
 ⟨some 4, .give, [.slot 20], none⟩])
 (.seq (.seq (.reg [⟨some 21, .mv, [.slot 4], none⟩,
 ⟨some 22, .un .not, [.slot 4], none⟩,
 ⟨some 23, .mv, [.slot 22], none⟩,
 ⟨some 24, .mv, [.slot 0], some (23, false)⟩,
 ⟨some 25, .mv, [.slot 3], some (23, false)⟩,
 ⟨some 26, .idxA 2, [.slot 24, .slot 25], some (23, false)⟩,
 ⟨some 27, .fld 1, [.slot 26], some (23, false)⟩,
 ⟨some 28, .load 1 false, [.slot 27], some (23, false)⟩,
 ⟨some 29, .lenS, [.slot 28], some (23, false)⟩,
 ⟨some 30, .bin .gtr, [.slot 29, .lit (.int .i64 600)], some (23, false)⟩,
 ⟨some 31, .pick, [.slot 22, .lit (.bool true), .slot 30], none⟩,
 ⟨some 32, .mv, [.slot 31], none⟩,
 ⟨some 33, .mv, [.slot 3], some (32, false)⟩,
 ⟨some 34, .bin .gtr, [.slot 33, .lit (.int .i64 0)], some (32, false)⟩,
 ⟨some 35, .mv, [.slot 34], some (32, false)⟩,
 ⟨some 36, .mv, [.slot 0], some (35, true)⟩,
 ⟨some 37, .mv, [.slot 3], some (35, true)⟩,
 ⟨some 38, .idxA 2, [.slot 36, .slot 37], some (35, true)⟩,
 ⟨some 39, .fld 0, [.slot 38], some (35, true)⟩,
 ⟨some 40, .load 1 false, [.slot 39], some (35, true)⟩,
 ⟨some 41, .mv, [.slot 0], some (35, true)⟩,
 ⟨some 42, .mv, [.slot 3], some (35, true)⟩,
 ⟨some 43, .bin .sub, [.slot 42, .lit (.int .i64 1)], some (35, true)⟩,
 ⟨some 44, .idxA 2, [.slot 41, .slot 43], some (35, true)⟩,
 ⟨some 45, .fld 0, [.slot 44], some (35, true)⟩,
 ⟨some 46, .load 1 false, [.slot 45], some (35, true)⟩,
 ⟨some 47, .bin .leq, [.slot 40, .slot 46], some (35, true)⟩,
 ⟨some 48, .pick, [.slot 35, .slot 47, .lit (.bool false)], some (32, false)⟩,
 ⟨some 49, .pick, [.slot 31, .lit (.bool true), .slot 48], none⟩])
 (.cond (.slot 49) (.seq (.reg [⟨some 2, .give, [.lit (.bool false)], none⟩])
 (.ret))
 (.skip)))
 (.seq (.reg [⟨some 5, .take, [.lit (.int .i64 0)], none⟩])
 (.block 2 (.loop (.seq (.seq (.reg [⟨some 50, .mv, [.slot 5], none⟩,
 ⟨some 51, .mv, [.slot 3], none⟩,
 ⟨some 52, .bin .lss, [.slot 5, .slot 3], none⟩])
 (.cond (.slot 52) (.skip)
 (.exit 2)))
 (.seq (.block 3 (.seq (.reg [⟨some 55, .mv, [.slot 0], none⟩,
 ⟨some 56, .mv, [.slot 3], none⟩,
 ⟨some 57, .idxA 2, [.slot 0, .slot 3], none⟩,
 ⟨some 58, .fld 0, [.slot 57], none⟩,
 ⟨some 59, .load 1 false, [.slot 58], none⟩,
 ⟨some 60, .mv, [.slot 0], none⟩,
 ⟨some 61, .mv, [.slot 5], none⟩,
 ⟨some 62, .idxA 2, [.slot 0, .slot 5], none⟩,
 ⟨some 63, .fld 0, [.slot 62], none⟩,
 ⟨some 64, .load 1 false, [.slot 63], none⟩,
 ⟨some 65, .callp 40, [.slot 59, .slot 64], none⟩])
 (.cond (.slot 65) (.seq (.reg [⟨some 2, .give, [.lit (.bool false)], none⟩])
 (.ret))
 (.skip))))
 (.reg [⟨some 53, .mv, [.slot 5], none⟩,
 ⟨some 54, .bin .add, [.slot 5, .lit (.int .i64 1)], none⟩,
 ⟨some 5, .give, [.slot 54], none⟩])))))))))
 (.reg [⟨some 13, .mv, [.slot 3], none⟩,
 ⟨some 14, .bin .add, [.slot 3, .lit (.int .i64 1)], none⟩,
 ⟨some 3, .give, [.slot 14], none⟩]))))))
 (.seq (.reg [⟨some 2, .give, [.lit (.bool true)], none⟩])
 (.ret))))),
 66, [.tmp 2]⟩
theorem c20 : cFunc Proofs.Tryd.prog 20 = some sf20 := by kernel_rfl
/-- carpetbag/tree.Find -/
def sf21 : SF := ⟨(.seq (.reg [⟨some 4, .give, [.lit (.int .i64 0)], none⟩])
 (.seq (.seq (.reg [⟨some 8, .mv, [.slot 0], none⟩,
 ⟨some 9, .mv, [.slot 1], none⟩,
 ⟨some 10, .call 34, [.slot 0, .slot 1], none⟩,
 ⟨some 7, .mv, [.slot 10], none⟩,
 ⟨some 11, .ext 0, [.slot 10], none⟩,
 ⟨some 12, .ext 1, [.slot 10], none⟩,
 ⟨some 5, .give, [.slot 11], none⟩,
 ⟨some 6, .give, [.slot 12], none⟩])
 (.seq (.reg [⟨some 13, .mv, [.slot 6], none⟩,
 ⟨some 14, .mv, [.slot 6], none⟩,
 ⟨some 15, .take, [.slot 0], some (14, true)⟩,
 ⟨some 16, .call 19, [.slot 15], some (14, true)⟩,
 ⟨some 17, .pick, [.slot 6, .slot 16, .lit (.bool false)], none⟩])
 (.cond (.slot 17) (.seq (.reg [⟨some 18, .mv, [.slot 5], none⟩,
 ⟨some 4, .give, [.slot 5], none⟩])
 (.ret))
 (.skip))))
 (.seq (.reg [⟨some 4, .give, [.lit (.int .i64 (-1))], none⟩])
 (.ret)))),
 19, [.tmp 4]⟩
theorem c21 : cFunc Proofs.Tryd.prog 21 = some sf21 := by kernel_rfl
/-- carpetbag/carpetbagref04.Find -/
def sf22 : SF := ⟨(.seq (.reg [⟨some 4, .give, [.lit (.int .i64 0)], none⟩])
 (.seq (.seq (.reg [⟨some 5, .mv, [.slot 0], none⟩,
 ⟨some 6, .call 20, [.slot 0], none⟩,
 ⟨some 7, .un .not, [.slot 6], none⟩])
 (.cond (.slot 7) (.seq (.reg [⟨some 4, .give, [.lit (.int .i64 (-1))], none⟩])
 (.ret))
 (.skip)))
 (.seq (.reg [⟨some 8, .mv, [.slot 0], none⟩,
 ⟨some 9, .mv, [.slot 1], none⟩,
 ⟨some 10, .call 41, [.slot 0, .slot 1], none⟩,
 ⟨some 4, .give, [.slot 10], none⟩])
 (.ret)))),
 11, [.tmp 4]⟩
theorem c22 : cFunc Proofs.Tryd.prog 22 = some sf22 := by kernel_rfl
/-- carpetbag/tree.Same -/
def sf23 : SF := ⟨(.seq (.reg [⟨some 4, .give, [.lit (.bool false)], none⟩])
 (.seq (.reg [⟨some 5, .mv, [.slot 0], none⟩,
 ⟨some 6, .mv, [.slot 1], none⟩,
 ⟨some 7, .call 44, [.slot 0, .slot 1], none⟩,
 ⟨some 4, .give, [.slot 7], none⟩])
 (.ret))),
 8, [.tmp 4]⟩
theorem c23 : cFunc Proofs.Tryd.prog 23 = some sf23 := by kernel_rfl
/-- carpetbag/tree.Size -/
def sf24 : SF := ⟨(.seq (.reg [⟨some 2, .give, [.lit (.int .i64 0)], none⟩])
 (.seq (.reg [⟨some 3, .take, [.lit (.int .i64 0)], none⟩])
 (.seq (.seq (.reg [⟨some 6, .mv, [.slot 0], none⟩,
 ⟨some 7, .lenL, [.slot 0], none⟩,
 ⟨some 8, .mv, [.lit (.int .i64 0)], none⟩])
 (.block 0 (.loop (.seq (.reg [⟨some 9, .bin .lss, [.slot 8, .slot 7], none⟩])
 (.seq (.cond (.slot 9) (.skip)
 (.exit 0))
 (.seq (.block 1 (.seq (.reg [⟨some 10, .idxB 2, [.slot 6, .slot 8], none⟩,
 ⟨some 11, .load 2 true, [.slot 10], none⟩,
 ⟨some 5, .alloc [.str [], .str []], [], none⟩,
 ⟨none, .store 2 true, [.slot 5, .slot 11], none⟩])
 (.reg [⟨some 12, .mv, [.slot 3], none⟩,
 ⟨some 13, .fld 1, [.slot 5], none⟩,
 ⟨some 14, .load 1 false, [.slot 13], none⟩,
 ⟨some 15, .lenS, [.slot 14], none⟩,
 ⟨some 16, .bin .add, [.slot 3, .slot 15], none⟩,
 ⟨some 3, .give, [.slot 16], none⟩])))
 (.reg [⟨some 17, .bin .add, [.slot 8, .lit (.int .i64 1)], none⟩,
 ⟨some 8, .mv, [.slot 17], none⟩])))))))
 (.seq (.reg [⟨some 18, .mv, [.slot 3], none⟩,
 ⟨some 2, .give, [.slot 3], none⟩])
 (.ret))))),
 19, [.tmp 2]⟩
theorem c24 : cFunc Proofs.Tryd.prog 24 = some sf24 := by kernel_rfl
/-- carpetbag/carpetbagref04.Size -/
def sf25 : SF := ⟨(.seq (.reg [⟨some 2, .give, [.lit (.int .i64 0)], none⟩])
 (.seq (.reg [⟨some 3, .take, [.lit (.int .i64 0)], none⟩])
 (.seq (.seq (.reg [⟨some 4, .take, [.lit (.int .i64 0)], none⟩])
 (.block 0 (.loop (.seq (.seq (.reg [⟨some 5, .mv, [.slot 4], none⟩,
 ⟨some 6, .mv, [.slot 0], none⟩,
 ⟨some 7, .lenL, [.slot 0], none⟩,
 ⟨some 8, .bin .lss, [.slot 4, .slot 7], none⟩])
 (.cond (.slot 8) (.skip)
 (.exit 0)))
 (.seq (.block 1 (.reg [⟨some 11, .mv, [.slot 3], none⟩,
 ⟨some 12, .mv, [.slot 0], none⟩,
 ⟨some 13, .mv, [.slot 4], none⟩,
 ⟨some 14, .idxB 2, [.slot 0, .slot 4], none⟩,
 ⟨some 15, .fld 1, [.slot 14], none⟩,
 ⟨some 16, .load 1 false, [.slot 15], none⟩,
 ⟨some 17, .lenS, [.slot 16], none⟩,
 ⟨some 18, .bin .add, [.slot 3, .slot 17], none⟩,
 ⟨some 3, .give, [.slot 18], none⟩]))
 (.reg [⟨some 9, .mv, [.slot 4], none⟩,
 ⟨some 10, .bin .add, [.slot 4, .lit (.int .i64 1)], none⟩,
 ⟨some 4, .give, [.slot 10], none⟩]))))))
 (.seq (.reg [⟨some 19, .mv, [.slot 3], none⟩,
 ⟨some 2, .give, [.slot 3], none⟩])
 (.ret))))),
 20, [.tmp 2]⟩
theorem c25 : cFunc Proofs.Tryd.prog 25 = some sf25 := by kernel_rfl
/-- carpetbag/carpetbagref01.Rows -/
def sf26 : SF := ⟨(.seq (.reg [⟨some 4, .give, [.lit (.bool false)], none⟩])
 (.seq (.seq (.reg [⟨some 6, .mv, [.slot 0], none⟩,
 ⟨some 7, .lenL, [.slot 0], none⟩,
 ⟨some 8, .mv, [.slot 1], none⟩,
 ⟨some 9, .lenL, [.slot 1], none⟩,
 ⟨some 10, .bin .neq, [.slot 7, .slot 9], none⟩])
 (.cond (.slot 10) (.seq (.reg [⟨some 4, .give, [.lit (.bool false)], none⟩])
 (.ret))
 (.skip)))
 (.seq (.seq (.reg [⟨some 5, .take, [.lit (.int .i64 0)], none⟩])
 (.block 0 (.loop (.seq (.seq (.reg [⟨some 11, .mv, [.slot 5], none⟩,
 ⟨some 12, .mv, [.slot 0], none⟩,
 ⟨some 13, .lenL, [.slot 0], none⟩,
 ⟨some 14, .bin .lss, [.slot 5, .slot 13], none⟩])
 (.cond (.slot 14) (.skip)
 (.exit 0)))
 (.seq (.block 1 (.seq (.reg [⟨some 17, .mv, [.slot 0], none⟩,
 ⟨some 18, .mv, [.slot 5], none⟩,
 ⟨some 19, .idxA 1, [.slot 0, .slot 5], none⟩,
 ⟨some 20, .load 1 false, [.slot 19], none⟩,
 ⟨some 21, .mv, [.slot 1], none⟩,
 ⟨some 22, .mv, [.slot 5], none⟩,
 ⟨some 23, .idxA 1, [.slot 1, .slot 5], none⟩,
 ⟨some 24, .load 1 false, [.slot 23], none⟩,
 ⟨some 25, .bin .neq, [.slot 20, .slot 24], none⟩])
 (.cond (.slot 25) (.seq (.reg [⟨some 4, .give, [.lit (.bool false)], none⟩])
 (.ret))
 (.skip))))
 (.reg [⟨some 15, .mv, [.slot 5], none⟩,
 ⟨some 16, .bin .add, [.slot 5, .lit (.int .i64 1)], none⟩,
 ⟨some 5, .give, [.slot 16], none⟩]))))))
 (.seq (.reg [⟨some 4, .give, [.lit (.bool true)], none⟩])
 (.ret))))),
 26, [.tmp 4]⟩
theorem c26 : cFunc Proofs.Tryd.prog 26 = some sf26 := by kernel_rfl
/-- carpetbag/tree.In -/
def sf27 : SF := ⟨(.seq (.reg [⟨some 4, .give, [.lit (.nilS)], none⟩])
 (.seq (.seq (.reg [⟨some 8, .mv, [.slot 0], none⟩,
 ⟨some 9, .call 19, [.slot 0], none⟩,
 ⟨some 10, .un .not, [.slot 9], none⟩])
 (.cond (.slot 10) (.seq (.reg [⟨some 4, .give, [.lit (.nilS)], none⟩])
 (.ret))
 (.skip)))
 (.seq (.reg [⟨some 5, .take, [.lit (.nilS)], none⟩])
 (.seq (.seq (.reg [⟨some 11, .mv, [.slot 0], none⟩,
 ⟨some 12, .lenL, [.slot 0], none⟩,
 ⟨some 13, .mv, [.lit (.int .i64 0)], none⟩])
 (.block 0 (.loop (.seq (.reg [⟨some 14, .bin .lss, [.slot 13, .slot 12], none⟩])
 (.seq (.cond (.slot 14) (.skip)
 (.exit 0))
 (.seq (.block 1 (.seq (.reg [⟨some 15, .idxB 2, [.slot 11, .slot 13], none⟩,
 ⟨some 16, .load 2 true, [.slot 15], none⟩,
 ⟨some 7, .alloc [.str [], .str []], [], none⟩,
 ⟨none, .store 2 true, [.slot 7, .slot 16], none⟩])
 (.seq (.reg [⟨some 17, .fld 0, [.slot 7], none⟩,
 ⟨some 18, .load 1 false, [.slot 17], none⟩,
 ⟨some 19, .mv, [.slot 1], none⟩,
 ⟨some 20, .call 30, [.slot 18, .slot 1], none⟩])
 (.cond (.slot 20) (.reg [⟨some 21, .mv, [.slot 5], none⟩,
 ⟨some 22, .fld 0, [.slot 7], none⟩,
 ⟨some 23, .load 1 false, [.slot 22], none⟩,
 ⟨some 24, .bsl 1 1 [.str []] [0], [.slot 23], none⟩,
 ⟨some 25, .app 1 16 [.str []], [.slot 5, .slot 24], none⟩,
 ⟨some 5, .give, [.slot 25], none⟩])
 (.skip)))))
 (.reg [⟨some 26, .bin .add, [.slot 13, .lit (.int .i64 1)], none⟩,
 ⟨some 13, .mv, [.slot 26], none⟩])))))))
 (.seq (.reg [⟨some 27, .mv, [.slot 5], none⟩,
 ⟨some 4, .give, [.slot 5], none⟩])
 (.ret)))))),
 28, [.tmp 4]⟩
theorem c27 : cFunc Proofs.Tryd.prog 27 = some sf27 := by kernel_rfl
/-- carpetbag/carpetbagref04.In -/
def sf28 : SF := ⟨(.seq (.reg [⟨some 4, .give, [.lit (.nilS)], none⟩])
 (.seq (.reg [⟨some 5, .take, [.lit (.nilS)], none⟩])
 (.seq (.reg [⟨some 8, .mv, [.slot 0], none⟩,
 ⟨some 9, .call 20, [.slot 0], none⟩,
 ⟨some 6, .give, [.slot 9], none⟩])
 (.seq (.seq (.reg [⟨some 7, .take, [.lit (.int .i64 0)], none⟩])
 (.block 0 (.loop (.seq (.seq (.reg [⟨some 10, .mv, [.slot 7], none⟩,
 ⟨some 11, .mv, [.slot 0], none⟩,
 ⟨some 12, .lenL, [.slot 0], none⟩,
 ⟨some 13, .bin .lss, [.slot 7, .slot 12], none⟩,
 ⟨some 14, .mv, [.slot 13], none⟩,
 ⟨some 15, .take, [.slot 6], some (14, true)⟩,
 ⟨some 16, .pick, [.slot 13, .slot 15, .lit (.bool false)], none⟩])
 (.cond (.slot 16) (.skip)
 (.exit 0)))
 (.seq (.block 1 (.seq (.reg [⟨some 19, .mv, [.slot 0], none⟩,
 ⟨some 20, .mv, [.slot 7], none⟩,
 ⟨some 21, .idxB 2, [.slot 0, .slot 7], none⟩,
 ⟨some 22, .fld 0, [.slot 21], none⟩,
 ⟨some 23, .load 1 false, [.slot 22], none⟩,
 ⟨some 24, .mv, [.slot 1], none⟩,
 ⟨some 25, .call 40, [.slot 23, .slot 1], none⟩])
 (.cond (.slot 25) (.reg [⟨some 26, .mv, [.slot 5], none⟩,
 ⟨some 27, .mv, [.slot 0], none⟩,
 ⟨some 28, .mv, [.slot 7], none⟩,
 ⟨some 29, .idxB 2, [.slot 0, .slot 7], none⟩,
 ⟨some 30, .fld 0, [.slot 29], none⟩,
 ⟨some 31, .load 1 false, [.slot 30], none⟩,
 ⟨some 32, .bsl 1 1 [.str []] [0], [.slot 31], none⟩,
 ⟨some 33, .app 1 16 [.str []], [.slot 5, .slot 32], none⟩,
 ⟨some 5, .give, [.slot 33], none⟩])
 (.skip))))
 (.reg [⟨some 17, .mv, [.slot 7], none⟩,
 ⟨some 18, .bin .add, [.slot 7, .lit (.int .i64 1)], none⟩,
 ⟨some 7, .give, [.slot 18], none⟩]))))))
 (.seq (.reg [⟨some 34, .mv, [.slot 5], none⟩,
 ⟨some 4, .give, [.slot 5], none⟩])
 (.ret)))))),
 35, [.tmp 4]⟩
theorem c28 : cFunc Proofs.Tryd.prog 28 = some sf28 := by kernel_rfl
/-- carpetbag/path.Sorted -/
def sf29 : SF := ⟨(.seq (.reg [⟨some 2, .give, [.lit (.bool false)], none⟩])
 (.seq (.seq (.reg [⟨some 5, .mv, [.slot 0], none⟩,
 ⟨some 6, .lenL, [.slot 0], none⟩,
 ⟨some 7, .mv, [.lit (.int .i64 0)], none⟩])
 (.block 0 (.loop (.seq (.reg [⟨some 8, .bin .lss, [.slot 7, .slot 6], none⟩])
 (.seq (.cond (.slot 8) (.skip)
 (.exit 0))
 (.seq (.block 1 (.seq (.reg [⟨some 9, .mv, [.slot 7], none⟩,
 ⟨some 10, .idxB 1, [.slot 5, .slot 7], none⟩,
 ⟨some 11, .load 1 false, [.slot 10], none⟩,
 ⟨some 3, .take, [.slot 7], none⟩,
 ⟨some 4, .give, [.slot 11], none⟩])
 (.seq (.reg [⟨some 12, .mv, [.slot 4], none⟩,
 ⟨some 13, .call 35, [.slot 4], none⟩,
 ⟨some 14, .un .not, [.slot 13], none⟩,
 ⟨some 15, .mv, [.slot 14], none⟩,
 ⟨some 16, .take, [.slot 3], some (15, false)⟩,
 ⟨some 17, .bin .gtr, [.slot 16, .lit (.int .i64 0)], some (15, false)⟩,
 ⟨some 18, .take, [.slot 17], some (15, false)⟩,
 ⟨some 19, .take, [.slot 4], some (18, true)⟩,
 ⟨some 20, .take, [.slot 0], some (18, true)⟩,
 ⟨some 21, .take, [.slot 3], some (18, true)⟩,
 ⟨some 22, .bin .sub, [.slot 21, .lit (.int .i64 1)], some (18, true)⟩,
 ⟨some 23, .idxB 1, [.slot 20, .slot 22], some (18, true)⟩,
 ⟨some 24, .load 1 false, [.slot 23], some (18, true)⟩,
 ⟨some 25, .bin .leq, [.slot 19, .slot 24], some (18, true)⟩,
 ⟨some 26, .pick, [.slot 18, .slot 25, .lit (.bool false)], some (15, false)⟩,
 ⟨some 27, .pick, [.slot 14, .lit (.bool true), .slot 26], none⟩])
 (.cond (.slot 27) (.seq (.reg [⟨some 2, .give, [.lit (.bool false)], none⟩])
 (.ret))
 (.skip)))))
 (.reg [⟨some 28, .bin .add, [.slot 7, .lit (.int .i64 1)], none⟩,
 ⟨some 7, .mv, [.slot 28], none⟩])))))))
 (.seq (.reg [⟨some 2, .give, [.lit (.bool true)], none⟩])
 (.ret)))),
 29, [.tmp 2]⟩
theorem c29 : cFunc Proofs.Tryd.prog 29 = some sf29 := by kernel_rfl
/-- carpetbag/path.Under -/
def sf30 : SF := ⟨(.seq (.reg [⟨some 4, .give, [.lit (.bool false)], none⟩])
 (.seq (.reg [⟨some 5, .mv, [.slot 0], none⟩,
 ⟨some 6, .call 35, [.slot 0], none⟩,
 ⟨some 7, .mv, [.slot 6], none⟩,
 ⟨some 8, .take, [.slot 1], some (7, true)⟩,
 ⟨some 9, .call 35, [.slot 8], some (7, true)⟩,
 ⟨some 10, .pick, [.slot 6, .slot 9, .lit (.bool false)], none⟩,
 ⟨some 11, .mv, [.slot 10], none⟩,
 ⟨some 12, .take, [.slot 0], some (11, true)⟩,
 ⟨some 13, .take, [.slot 1], some (11, true)⟩,
 ⟨some 14, .bin .add, [.slot 13, .lit (.str [47])], some (11, true)⟩,
 ⟨some 15, .call 45, [.slot 12, .slot 14], some (11, true)⟩,
 ⟨some 16, .pick, [.slot 10, .slot 15, .lit (.bool false)], none⟩,
 ⟨some 4, .give, [.slot 16], none⟩])
 (.ret))),
 17, [.tmp 4]⟩
theorem c30 : cFunc Proofs.Tryd.prog 30 = some sf30 := by kernel_rfl
/-- carpetbag/path.Parent -/
def sf31 : SF := ⟨(.seq (.reg [⟨some 2, .give, [.lit (.str [])], none⟩])
 (.seq (.reg [⟨some 4, .mv, [.slot 0], none⟩,
 ⟨some 5, .call 46, [.slot 0], none⟩,
 ⟨some 3, .give, [.slot 5], none⟩])
 (.seq (.reg [⟨some 6, .mv, [.slot 3], none⟩,
 ⟨some 7, .mv, [.slot 3], none⟩,
 ⟨some 8, .lenL, [.slot 3], none⟩,
 ⟨some 9, .bin .sub, [.slot 8, .lit (.int .i64 1)], none⟩,
 ⟨some 10, .max, [.lit (.int .i64 0), .slot 9], none⟩,
 ⟨some 11, .slcL 1 false true false, [.slot 3, .slot 10], none⟩,
 ⟨some 12, .call 47, [.slot 11], none⟩,
 ⟨some 2, .give, [.slot 12], none⟩])
 (.ret)))),
 13, [.tmp 2]⟩
theorem c31 : cFunc Proofs.Tryd.prog 31 = some sf31 := by kernel_rfl
/-- carpetbag/tree.Put$1 -/
def sf32 : SF := ⟨(.seq (.reg [⟨some 2, .box, [.slot 0], none⟩,
 ⟨some 3, .give, [.lit (.bool false)], none⟩])
 (.seq (.reg [⟨some 4, .fld 0, [.slot 2], none⟩,
 ⟨some 5, .load 1 false, [.slot 4], none⟩,
 ⟨some 6, .load 1 false, [.slot 1], none⟩,
 ⟨some 7, .call 33, [.slot 5, .slot 6], none⟩,
 ⟨some 3, .give, [.slot 7], none⟩])
 (.ret))),
 8, [.tmp 3]⟩
theorem c32 : cFunc Proofs.Tryd.prog 32 = some sf32 := by kernel_rfl
/-- carpetbag/path.Clash -/
def sf33 : SF := ⟨(.seq (.reg [⟨some 4, .give, [.lit (.bool false)], none⟩])
 (.seq (.reg [⟨some 5, .mv, [.slot 0], none⟩,
 ⟨some 6, .mv, [.slot 1], none⟩,
 ⟨some 7, .call 30, [.slot 0, .slot 1], none⟩,
 ⟨some 8, .mv, [.slot 7], none⟩,
 ⟨some 9, .take, [.slot 1], some (8, false)⟩,
 ⟨some 10, .take, [.slot 0], some (8, false)⟩,
 ⟨some 11, .call 30, [.slot 9, .slot 10], some (8, false)⟩,
 ⟨some 12, .pick, [.slot 7, .lit (.bool true), .slot 11], none⟩,
 ⟨some 4, .give, [.slot 12], none⟩])
 (.ret))),
 13, [.tmp 4]⟩
theorem c33 : cFunc Proofs.Tryd.prog 33 = some sf33 := by kernel_rfl
/-- carpetbag/tree.place -/
def sf34 : SF := ⟨(.seq (.reg [⟨some 4, .give, [.lit (.int .i64 0)], none⟩,
 ⟨some 5, .give, [.lit (.bool false)], none⟩])
 (.seq (.reg [⟨some 6, .mv, [.slot 0], none⟩,
 ⟨some 7, .mv, [.slot 1], none⟩,
 ⟨some 8, .call 48, [.slot 0, .slot 1, .lit (.fn 49 [] [])], none⟩,
 ⟨some 9, .ext 0, [.slot 8], none⟩,
 ⟨some 10, .ext 1, [.slot 8], none⟩,
 ⟨some 4, .give, [.slot 9], none⟩,
 ⟨some 5, .give, [.slot 10], none⟩])
 (.ret))),
 11, [.tmp 4, .tmp 5]⟩
theorem c34 : cFunc Proofs.Tryd.prog 34 = some sf34 := by kernel_rfl
/-- carpetbag/path.Right -/
def sf35 : SF := ⟨(.seq (.reg [⟨some 2, .give, [.lit (.bool false)], none⟩])
 (.seq (.reg [⟨some 3, .mv, [.slot 0], none⟩,
 ⟨some 4, .call 46, [.slot 0], none⟩,
 ⟨some 5, .lenL, [.slot 4], none⟩,
 ⟨some 6, .bin .gtr, [.slot 5, .lit (.int .i64 0)], none⟩,
 ⟨some 2, .give, [.slot 6], none⟩])
 (.ret))),
 7, [.tmp 2]⟩
theorem c35 : cFunc Proofs.Tryd.prog 35 = some sf35 := by kernel_rfl
/-- slices.ContainsFunc[[]carpetbag/api.File,carpetbag/api.File] -/
def sf36 : SF := ⟨(.seq (.reg [⟨some 4, .give, [.lit (.bool false)], none⟩])
 (.seq (.reg [⟨some 5, .mv, [.slot 0], none⟩,
 ⟨some 6, .mv, [.slot 1], none⟩,
 ⟨some 7, .call 51, [.slot 0, .slot 1], none⟩,
 ⟨some 8, .bin .geq, [.slot 7, .lit (.int .i64 0)], none⟩,
 ⟨some 4, .give, [.slot 8], none⟩])
 (.ret))),
 9, [.tmp 4]⟩
theorem c36 : cFunc Proofs.Tryd.prog 36 = some sf36 := by kernel_rfl
/-- slices.Clone[[]carpetbag/api.File,carpetbag/api.File] -/
def sf37 : SF := ⟨(.seq (.reg [⟨some 2, .give, [.lit (.nilS)], none⟩])
 (.seq (.seq (.reg [⟨some 3, .mv, [.slot 0], none⟩,
 ⟨some 4, .eqN .s false, [.slot 0, .lit (.nilS)], none⟩])
 (.cond (.slot 4) (.seq (.reg [⟨some 2, .give, [.lit (.nilS)], none⟩])
 (.ret))
 (.skip)))
 (.seq (.reg [⟨some 5, .bsl 2 0 [.str [], .str []] [], [], none⟩,
 ⟨some 6, .mv, [.slot 0], none⟩,
 ⟨some 7, .app 2 32 [.str [], .str []], [.slot 5, .slot 0], none⟩,
 ⟨some 2, .give, [.slot 7], none⟩])
 (.ret)))),
 8, [.tmp 2]⟩
theorem c37 : cFunc Proofs.Tryd.prog 37 = some sf37 := by kernel_rfl
/-- carpetbag/carpetbagref03.Right -/
def sf39 : SF := ⟨(.seq (.reg [⟨some 2, .give, [.lit (.bool false)], none⟩])
 (.seq (.reg [⟨some 5, .mv, [.slot 0], none⟩,
 ⟨some 6, .call 54, [.slot 0], none⟩,
 ⟨some 3, .give, [.slot 6], none⟩])
 (.seq (.seq (.reg [⟨some 7, .mv, [.slot 3], none⟩,
 ⟨some 8, .lenL, [.slot 3], none⟩,
 ⟨some 9, .bin .gtr, [.slot 8, .lit (.int .i64 4)], none⟩])
 (.cond (.slot 9) (.seq (.reg [⟨some 2, .give, [.lit (.bool false)], none⟩])
 (.ret))
 (.skip)))
 (.seq (.seq (.reg [⟨some 4, .take, [.lit (.int .i64 0)], none⟩])
 (.block 0 (.loop (.seq (.seq (.reg [⟨some 10, .mv, [.slot 4], none⟩,
 ⟨some 11, .mv, [.slot 3], none⟩,
 ⟨some 12, .lenL, [.slot 3], none⟩,
 ⟨some 13, .bin .lss, [.slot 4, .slot 12], none⟩])
 (.cond (.slot 13) (.skip)
 (.exit 0)))
 (.seq (.block 1 (.seq (.reg [⟨some 16, .mv, [.slot 3], none⟩,
 ⟨some 17, .mv, [.slot 4], none⟩,
 ⟨some 18, .idxB 1, [.slot 3, .slot 4], none⟩,
 ⟨some 19, .load 1 false, [.slot 18], none⟩,
 ⟨some 20, .call 55, [.slot 19], none⟩,
 ⟨some 21, .un .not, [.slot 20], none⟩])
 (.cond (.slot 21) (.seq (.reg [⟨some 2, .give, [.lit (.bool false)], none⟩])
 (.ret))
 (.skip))))
 (.reg [⟨some 14, .mv, [.slot 4], none⟩,
 ⟨some 15, .bin .add, [.slot 4, .lit (.int .i64 1)], none⟩,
 ⟨some 4, .give, [.slot 15], none⟩]))))))
 (.seq (.reg [⟨some 2, .give, [.lit (.bool true)], none⟩])
 (.ret)))))),
 22, [.tmp 2]⟩
theorem c39 : cFunc Proofs.Tryd.prog 39 = some sf39 := by kernel_rfl
/-- carpetbag/carpetbagref03.Under -/
def sf40 : SF := ⟨(.seq (.reg [⟨some 4, .give, [.lit (.bool false)], none⟩])
 (.seq (.seq (.reg [⟨some 5, .mv, [.slot 0], none⟩,
 ⟨some 6, .call 39, [.slot 0], none⟩,
 ⟨some 7, .un .not, [.slot 6], none⟩,
 ⟨some 8, .mv, [.slot 7], none⟩,
 ⟨some 9, .take, [.slot 1], some (8, false)⟩,
 ⟨some 10, .call 39, [.slot 9], some (8, false)⟩,
 ⟨some 11, .un .not, [.slot 10], some (8, false)⟩,
 ⟨some 12, .pick, [.slot 7, .lit (.bool true), .slot 11], none⟩,
 ⟨some 13, .mv, [.slot 12], none⟩,
 ⟨some 14, .take, [.slot 0], some (13, false)⟩,
 ⟨some 15, .lenS, [.slot 14], some (13, false)⟩,
 ⟨some 16, .take, [.slot 1], some (13, false)⟩,
 ⟨some 17, .lenS, [.slot 16], some (13, false)⟩,
 ⟨some 18, .bin .leq, [.slot 15, .slot 17], some (13, false)⟩,
 ⟨some 19, .pick, [.slot 12, .lit (.bool true), .slot 18], none⟩])
 (.cond (.slot 19) (.seq (.reg [⟨some 4, .give, [.lit (.bool false)], none⟩])
 (.ret))
 (.skip)))
 (.seq (.reg [⟨some 20, .mv, [.slot 0], none⟩,
 ⟨some 21, .mv, [.slot 1], none⟩,
 ⟨some 22, .lenS, [.slot 1], none⟩,
 ⟨some 23, .slcS false true, [.slot 0, .slot 22], none⟩,
 ⟨some 24, .mv, [.slot 1], none⟩,
 ⟨some 25, .bin .eql, [.slot 23, .slot 1], none⟩,
 ⟨some 26, .mv, [.slot 25], none⟩,
 ⟨some 27, .take, [.slot 0], some (26, true)⟩,
 ⟨some 28, .take, [.slot 1], some (26, true)⟩,
 ⟨some 29, .lenS, [.slot 28], some (26, true)⟩,
 ⟨some 30, .idxS, [.slot 27, .slot 29], some (26, true)⟩,
 ⟨some 31, .bin .eql, [.slot 30, .lit (.int .u8 47)], some (26, true)⟩,
 ⟨some 32, .pick, [.slot 25, .slot 31, .lit (.bool false)], none⟩,
 ⟨some 4, .give, [.slot 32], none⟩])
 (.ret)))),
 33, [.tmp 4]⟩
theorem c40 : cFunc Proofs.Tryd.prog 40 = some sf40 := by kernel_rfl
/-- carpetbag/carpetbagref04.find -/
def sf41 : SF := ⟨(.seq (.reg [⟨some 4, .give, [.lit (.int .i64 0)], none⟩])
 (.seq (.seq (.reg [⟨some 5, .take, [.lit (.int .i64 0)], none⟩])
 (.block 0 (.loop (.seq (.seq (.reg [⟨some 6, .mv, [.slot 5], none⟩,
 ⟨some 7, .mv, [.slot 0], none⟩,
 ⟨some 8, .lenL, [.slot 0], none⟩,
 ⟨some 9, .bin .lss, [.slot 5, .slot 8], none⟩])
 (.cond (.slot 9) (.skip)
 (.exit 0)))
 (.seq (.block 1 (.seq (.reg [⟨some 12, .mv, [.slot 0], none⟩,
 ⟨some 13, .mv, [.slot 5], none⟩,
 ⟨some 14, .idxB 2, [.slot 0, .slot 5], none⟩,
 ⟨some 15, .fld 0, [.slot 14], none⟩,
 ⟨some 16, .load 1 false, [.slot 15], none⟩,
 ⟨some 17, .mv, [.slot 1], none⟩,
 ⟨some 18, .bin .eql, [.slot 16, .slot 1], none⟩])
 (.cond (.slot 18) (.seq (.reg [⟨some 19, .mv, [.slot 5], none⟩,
 ⟨some 4, .give, [.slot 5], none⟩])
 (.ret))
 (.skip))))
 (.reg [⟨some 10, .mv, [.slot 5], none⟩,
 ⟨some 11, .bin .add, [.slot 5, .lit (.int .i64 1)], none⟩,
 ⟨some 5, .give, [.slot 11], none⟩]))))))
 (.seq (.reg [⟨some 4, .give, [.lit (.int .i64 (-1))], none⟩])
 (.ret)))),
 20, [.tmp 4]⟩
theorem c41 : cFunc Proofs.Tryd.prog 41 = some sf41 := by kernel_rfl
/-- carpetbag/tree.Right$1 -/
def sf43 : SF := ⟨(.seq (.reg [⟨some 2, .box, [.slot 0], none⟩,
 ⟨some 3, .give, [.lit (.bool false)], none⟩])
 (.seq (.reg [⟨some 4, .fld 0, [.slot 1], none⟩,
 ⟨some 5, .load 1 false, [.slot 4], none⟩,
 ⟨some 6, .fld 0, [.slot 2], none⟩,
 ⟨some 7, .load 1 false, [.slot 6], none⟩,
 ⟨some 8, .call 30, [.slot 5, .slot 7], none⟩,
 ⟨some 3, .give, [.slot 8], none⟩])
 (.ret))),
 9, [.tmp 3]⟩
theorem c43 : cFunc Proofs.Tryd.prog 43 = some sf43 := by kernel_rfl
/-- slices.Equal[[]carpetbag/api.File,carpetbag/api.File] -/
def sf44 : SF := ⟨(.seq (.reg [⟨some 4, .give, [.lit (.bool false)], none⟩])
 (.seq (.seq (.reg [⟨some 6, .mv, [.slot 0], none⟩,
 ⟨some 7, .lenL, [.slot 0], none⟩,
 ⟨some 8, .mv, [.slot 1], none⟩,
 ⟨some 9, .lenL, [.slot 1], none⟩,
 ⟨some 10, .bin .neq, [.slot 7, .slot 9], none⟩])
 (.cond (.slot 10) (.seq (.reg [⟨some 4, .give, [.lit (.bool false)], none⟩])
 (.ret))
 (.skip)))
 (.seq (.seq (.reg [⟨some 11, .mv, [.slot 0], none⟩,
 ⟨some 12, .lenL, [.slot 0], none⟩,
 ⟨some 13, .mv, [.lit (.int .i64 0)], none⟩])
 (.block 0 (.loop (.seq (.reg [⟨some 14, .bin .lss, [.slot 13, .slot 12], none⟩])
 (.seq (.cond (.slot 14) (.skip)
 (.exit 0))
 (.seq (.block 1 (.seq (.reg [⟨some 15, .mv, [.slot 13], none⟩,
 ⟨some 5, .take, [.slot 13], none⟩])
 (.seq (.reg [⟨some 16, .mv, [.slot 0], none⟩,
 ⟨some 17, .mv, [.slot 5], none⟩,
 ⟨some 18, .idxA 2, [.slot 0, .slot 5], none⟩,
 ⟨some 19, .load 2 true, [.slot 18], none⟩,
 ⟨some 20, .mv, [.slot 1], none⟩,
 ⟨some 21, .mv, [.slot 5], none⟩,
 ⟨some 22, .idxA 2, [.slot 1, .slot 5], none⟩,
 ⟨some 23, .load 2 true, [.slot 22], none⟩,
 ⟨some 24, .eqA true [.s, .s], [.slot 19, .slot 23], none⟩])
 (.cond (.slot 24) (.seq (.reg [⟨some 4, .give, [.lit (.bool false)], none⟩])
 (.ret))
 (.skip)))))
 (.reg [⟨some 25, .bin .add, [.slot 13, .lit (.int .i64 1)], none⟩,
 ⟨some 13, .mv, [.slot 25], none⟩])))))))
 (.seq (.reg [⟨some 4, .give, [.lit (.bool true)], none⟩])
 (.ret))))),
 26, [.tmp 4]⟩
theorem c44 : cFunc Proofs.Tryd.prog 44 = some sf44 := by kernel_rfl
/-- strings.HasPrefix -/
def sf45 : SF := ⟨(.seq (.reg [⟨some 4, .give, [.lit (.bool false)], none⟩])
 (.seq (.reg [⟨some 5, .mv, [.slot 0], none⟩,
 ⟨some 6, .mv, [.slot 1], none⟩,
 ⟨some 7, .call 56, [.slot 0, .slot 1], none⟩,
 ⟨some 4, .give, [.slot 7], none⟩])
 (.ret))),
 8, [.tmp 4]⟩
theorem c45 : cFunc Proofs.Tryd.prog 45 = some sf45 := by kernel_rfl
/-- carpetbag/path.Names -/
def sf46 : SF := ⟨(.seq (.reg [⟨some 2, .give, [.lit (.nilS)], none⟩])
 (.seq (.reg [⟨some 6, .mv, [.slot 0], none⟩,
 ⟨some 7, .call 57, [.slot 0, .lit (.str [47])], none⟩,
 ⟨some 3, .give, [.slot 7], none⟩])
 (.seq (.seq (.reg [⟨some 8, .mv, [.slot 3], none⟩,
 ⟨some 9, .lenL, [.slot 3], none⟩,
 ⟨some 10, .bin .gtr, [.slot 9, .lit (.int .i64 4)], none⟩])
 (.cond (.slot 10) (.seq (.reg [⟨some 2, .give, [.lit (.nilS)], none⟩])
 (.ret))
 (.skip)))
 (.seq (.seq (.reg [⟨some 11, .mv, [.slot 3], none⟩,
 ⟨some 12, .lenL, [.slot 3], none⟩,
 ⟨some 13, .mv, [.lit (.int .i64 0)], none⟩])
 (.block 0 (.loop (.seq (.reg [⟨some 14, .bin .lss, [.slot 13, .slot 12], none⟩])
 (.seq (.cond (.slot 14) (.skip)
 (.exit 0))
 (.seq (.block 1 (.seq (.reg [⟨some 15, .idxB 1, [.slot 11, .slot 13], none⟩,
 ⟨some 16, .load 1 false, [.slot 15], none⟩,
 ⟨some 5, .give, [.slot 16], none⟩])
 (.seq (.reg [⟨some 17, .mv, [.slot 5], none⟩,
 ⟨some 18, .call 58, [.slot 5], none⟩,
 ⟨some 19, .un .not, [.slot 18], none⟩])
 (.cond (.slot 19) (.seq (.reg [⟨some 2, .give, [.lit (.nilS)], none⟩])
 (.ret))
 (.skip)))))
 (.reg [⟨some 20, .bin .add, [.slot 13, .lit (.int .i64 1)], none⟩,
 ⟨some 13, .mv, [.slot 20], none⟩])))))))
 (.seq (.reg [⟨some 21, .mv, [.slot 3], none⟩,
 ⟨some 2, .give, [.slot 3], none⟩])
 (.ret)))))),
 22, [.tmp 2]⟩
theorem c46 : cFunc Proofs.Tryd.prog 46 = some sf46 := by kernel_rfl
/-- carpetbag/path.Join -/
def sf47 : SF := ⟨(.seq (.reg [⟨some 2, .give, [.lit (.str [])], none⟩])
 (.seq (.reg [⟨some 4, .mv, [.slot 0], none⟩,
 ⟨some 5, .call 59, [.slot 0, .lit (.str [47])], none⟩,
 ⟨some 3, .give, [.slot 5], none⟩])
 (.seq (.seq (.reg [⟨some 6, .mv, [.slot 3], none⟩,
 ⟨some 7, .call 46, [.slot 3], none⟩,
 ⟨some 8, .lenL, [.slot 7], none⟩,
 ⟨some 9, .mv, [.slot 0], none⟩,
 ⟨some 10, .lenL, [.slot 0], none⟩,
 ⟨some 11, .bin .neq, [.slot 8, .slot 10], none⟩])
 (.cond (.slot 11) (.seq (.reg [⟨some 2, .give, [.lit (.str [])], none⟩])
 (.ret))
 (.skip)))
 (.seq (.reg [⟨some 12, .mv, [.slot 3], none⟩,
 ⟨some 2, .give, [.slot 3], none⟩])
 (.ret))))),
 13, [.tmp 2]⟩
theorem c47 : cFunc Proofs.Tryd.prog 47 = some sf47 := by kernel_rfl
/-- slices.BinarySearchFunc[[]carpetbag/api.File,carpetbag/api.File,string] -/
def sf48 : SF := ⟨(.seq (.reg [⟨some 6, .give, [.lit (.int .i64 0)], none⟩,
 ⟨some 7, .give, [.lit (.bool false)], none⟩])
 (.seq (.reg [⟨some 12, .mv, [.slot 0], none⟩,
 ⟨some 13, .lenL, [.slot 0], none⟩,
 ⟨some 8, .give, [.slot 13], none⟩])
 (.seq (.reg [⟨some 14, .mv, [.slot 8], none⟩,
 ⟨some 9, .take, [.lit (.int .i64 0)], none⟩,
 ⟨some 10, .take, [.slot 8], none⟩])
 (.seq (.block 0 (.loop (.seq (.seq (.reg [⟨some 15, .mv, [.slot 9], none⟩,
 ⟨some 16, .mv, [.slot 10], none⟩,
 ⟨some 17, .bin .lss, [.slot 9, .slot 10], none⟩])
 (.cond (.slot 17) (.skip)
 (.exit 0)))
 (.block 1 (.seq (.reg [⟨some 18, .mv, [.slot 9], none⟩,
 ⟨some 19, .mv, [.slot 10], none⟩,
 ⟨some 20, .bin .add, [.slot 9, .slot 10], none⟩,
 ⟨some 21, .cvI .u64, [.slot 20], none⟩,
 ⟨some 22, .bin .shr, [.slot 21, .lit (.int .u64 1)], none⟩,
 ⟨some 23, .cvI .i64, [.slot 22], none⟩,
 ⟨some 11, .give, [.slot 23], none⟩])
 (.seq (.reg [⟨some 24, .mv, [.slot 2], none⟩,
 ⟨some 25, .mv, [.slot 0], none⟩,
 ⟨some 26, .mv, [.slot 11], none⟩,
 ⟨some 27, .idxB 2, [.slot 0, .slot 11], none⟩,
 ⟨some 28, .load 2 true, [.slot 27], none⟩,
 ⟨some 29, .mv, [.slot 1], none⟩,
 ⟨some 30, .callv, [.slot 2, .slot 28, .slot 1], none⟩,
 ⟨some 31, .bin .lss, [.slot 30, .lit (.int .i64 0)], none⟩])
 (.cond (.slot 31) (.reg [⟨some 32, .mv, [.slot 11], none⟩,
 ⟨some 33, .bin .add, [.slot 11, .lit (.int .i64 1)], none⟩,
 ⟨some 9, .give, [.slot 33], none⟩])
 (.reg [⟨some 34, .mv, [.slot 11], none⟩,
 ⟨some 10, .take, [.slot 11], none⟩]))))))))
 (.seq (.reg [⟨some 35, .mv, [.slot 9], none⟩,
 ⟨some 36, .mv, [.slot 9], none⟩,
 ⟨some 37, .mv, [.slot 8], none⟩,
 ⟨some 38, .bin .lss, [.slot 9, .slot 8], none⟩,
 ⟨some 39, .mv, [.slot 38], none⟩,
 ⟨some 40, .take, [.slot 2], some (39, true)⟩,
 ⟨some 41, .take, [.slot 0], some (39, true)⟩,
 ⟨some 42, .take, [.slot 9], some (39, true)⟩,
 ⟨some 43, .idxB 2, [.slot 41, .slot 42], some (39, true)⟩,
 ⟨some 44, .load 2 true, [.slot 43], some (39, true)⟩,
 ⟨some 45, .take, [.slot 1], some (39, true)⟩,
 ⟨some 46, .callv, [.slot 40, .slot 44, .slot 45], some (39, true)⟩,
 ⟨some 47, .bin .eql, [.slot 46, .lit (.int .i64 0)], some (39, true)⟩,
 ⟨some 48, .pick, [.slot 38, .slot 47, .lit (.bool false)], none⟩,
 ⟨some 6, .give, [.slot 9], none⟩,
 ⟨some 7, .give, [.slot 48], none⟩])
 (.ret)))))),
 49, [.tmp 6, .tmp 7]⟩
theorem c48 : cFunc Proofs.Tryd.prog 48 = some sf48 := by kernel_rfl
/-- carpetbag/tree.place$1 -/
def sf49 : SF := ⟨(.seq (.reg [⟨some 2, .box, [.slot 0], none⟩,
 ⟨some 4, .give, [.lit (.int .i64 0)], none⟩])
 (.seq (.reg [⟨some 5, .fld 0, [.slot 2], none⟩,
 ⟨some 6, .load 1 false, [.slot 5], none⟩,
 ⟨some 7, .mv, [.slot 1], none⟩,
 ⟨some 8, .call 50, [.slot 6, .slot 1], none⟩,
 ⟨some 4, .give, [.slot 8], none⟩])
 (.ret))),
 9, [.tmp 4]⟩
theorem c49 : cFunc Proofs.Tryd.prog 49 = some sf49 := by kernel_rfl
/-- strings.Compare -/
def sf50 : SF := ⟨(.seq (.reg [⟨some 4, .give, [.lit (.int .i64 0)], none⟩])
 (.seq (.reg [⟨some 5, .mv, [.slot 0], none⟩,
 ⟨some 6, .mv, [.slot 1], none⟩,
 ⟨some 7, .call 60, [.slot 0, .slot 1], none⟩,
 ⟨some 4, .give, [.slot 7], none⟩])
 (.ret))),
 8, [.tmp 4]⟩
theorem c50 : cFunc Proofs.Tryd.prog 50 = some sf50 := by kernel_rfl
/-- slices.IndexFunc[[]carpetbag/api.File,carpetbag/api.File] -/
def sf51 : SF := ⟨(.seq (.reg [⟨some 4, .give, [.lit (.int .i64 0)], none⟩])
 (.seq (.seq (.reg [⟨some 6, .mv, [.slot 0], none⟩,
 ⟨some 7, .lenL, [.slot 0], none⟩,
 ⟨some 8, .mv, [.lit (.int .i64 0)], none⟩])
 (.block 0 (.loop (.seq (.reg [⟨some 9, .bin .lss, [.slot 8, .slot 7], none⟩])
 (.seq (.cond (.slot 9) (.skip)
 (.exit 0))
 (.seq (.block 1 (.seq (.reg [⟨some 10, .mv, [.slot 8], none⟩,
 ⟨some 5, .take, [.slot 8], none⟩])
 (.seq (.reg [⟨some 11, .mv, [.slot 1], none⟩,
 ⟨some 12, .mv, [.slot 0], none⟩,
 ⟨some 13, .mv, [.slot 5], none⟩,
 ⟨some 14, .idxB 2, [.slot 0, .slot 5], none⟩,
 ⟨some 15, .load 2 true, [.slot 14], none⟩,
 ⟨some 16, .callv, [.slot 1, .slot 15], none⟩])
 (.cond (.slot 16) (.seq (.reg [⟨some 17, .mv, [.slot 5], none⟩,
 ⟨some 4, .give, [.slot 5], none⟩])
 (.ret))
 (.skip)))))
 (.reg [⟨some 18, .bin .add, [.slot 8, .lit (.int .i64 1)], none⟩,
 ⟨some 8, .mv, [.slot 18], none⟩])))))))
 (.seq (.reg [⟨some 4, .give, [.lit (.int .i64 (-1))], none⟩])
 (.ret)))),
 19, [.tmp 4]⟩
theorem c51 : cFunc Proofs.Tryd.prog 51 = some sf51 := by kernel_rfl
/-- slices.rotateRight[carpetbag/api.File] -/
def sf53 : SF := ⟨(.reg [⟨some 4, .mv, [.slot 0], none⟩,
 ⟨some 5, .mv, [.slot 0], none⟩,
 ⟨some 6, .lenL, [.slot 0], none⟩,
 ⟨some 7, .mv, [.slot 1], none⟩,
 ⟨some 8, .bin .sub, [.slot 6, .slot 1], none⟩,
 ⟨some 9, .call 61, [.slot 0, .slot 8], none⟩]),
 10, []⟩
theorem c53 : cFunc Proofs.Tryd.prog 53 = some sf53 := by kernel_rfl
/-- carpetbag/carpetbagref03.cut -/
def sf54 : SF := ⟨(.seq (.reg [⟨some 2, .give, [.lit (.nilS)], none⟩])
 (.seq (.reg [⟨some 3, .take, [.lit (.nilS)], none⟩])
 (.seq (.reg [⟨some 4, .take, [.lit (.int .i64 0)], none⟩])
 (.seq (.seq (.reg [⟨some 5, .take, [.lit (.int .i64 0)], none⟩])
 (.block 0 (.loop (.seq (.seq (.reg [⟨some 6, .mv, [.slot 5], none⟩,
 ⟨some 7, .mv, [.slot 0], none⟩,
 ⟨some 8, .lenS, [.slot 0], none⟩,
 ⟨some 9, .bin .leq, [.slot 5, .slot 8], none⟩])
 (.cond (.slot 9) (.skip)
 (.exit 0)))
 (.seq (.block 1 (.seq (.reg [⟨some 12, .mv, [.slot 5], none⟩,
 ⟨some 13, .mv, [.slot 0], none⟩,
 ⟨some 14, .lenS, [.slot 0], none⟩,
 ⟨some 15, .bin .eql, [.slot 5, .slot 14], none⟩,
 ⟨some 16, .mv, [.slot 15], none⟩,
 ⟨some 17, .take, [.slot 0], some (16, false)⟩,
 ⟨some 18, .take, [.slot 5], some (16, false)⟩,
 ⟨some 19, .idxS, [.slot 17, .slot 18], some (16, false)⟩,
 ⟨some 20, .bin .eql, [.slot 19, .lit (.int .u8 47)], some (16, false)⟩,
 ⟨some 21, .pick, [.slot 15, .lit (.bool true), .slot 20], none⟩])
 (.cond (.slot 21) (.seq (.reg [⟨some 22, .mv, [.slot 3], none⟩,
 ⟨some 23, .mv, [.slot 0], none⟩,
 ⟨some 24, .mv, [.slot 4], none⟩,
 ⟨some 25, .mv, [.slot 5], none⟩,
 ⟨some 26, .slcS true true, [.slot 0, .slot 4, .slot 5], none⟩,
 ⟨some 27, .bsl 1 1 [.str []] [0], [.slot 26], none⟩,
 ⟨some 28, .app 1 16 [.str []], [.slot 3, .slot 27], none⟩,
 ⟨some 3, .give, [.slot 28], none⟩])
 (.reg [⟨some 29, .mv, [.slot 5], none⟩,
 ⟨some 30, .bin .add, [.slot 5, .lit (.int .i64 1)], none⟩,
 ⟨some 4, .give, [.slot 30], none⟩]))
 (.skip))))
 (.reg [⟨some 10, .mv, [.slot 5], none⟩,
 ⟨some 11, .bin .add, [.slot 5, .lit (.int .i64 1)], none⟩,
 ⟨some 5, .give, [.slot 11], none⟩]))))))
 (.seq (.reg [⟨some 31, .mv, [.slot 3], none⟩,
 ⟨some 2, .give, [.slot 3], none⟩])
 (.ret)))))),
 32, [.tmp 2]⟩
theorem c54 : cFunc Proofs.Tryd.prog 54 = some sf54 := by kernel_rfl
/-- carpetbag/carpetbagref03.Name -/
def sf55 : SF := ⟨(.seq (.reg [⟨some 2, .give, [.lit (.bool false)], none⟩])
 (.seq (.seq (.reg [⟨some 5, .mv, [.slot 0], none⟩,
 ⟨some 6, .lenS, [.slot 0], none⟩,
 ⟨some 7, .bin .lss, [.slot 6, .lit (.int .i64 1)], none⟩,
 ⟨some 8, .mv, [.slot 7], none⟩,
 ⟨some 9, .take, [.slot 0], some (8, false)⟩,
 ⟨some 10, .lenS, [.slot 9], some (8, false)⟩,
 ⟨some 11, .bin .gtr, [.slot 10, .lit (.int .i64 12)], some (8, false)⟩,
 ⟨some 12, .pick, [.slot 7, .lit (.bool true), .slot 11], none⟩,
 ⟨some 13, .mv, [.slot 12], none⟩,
 ⟨some 14, .take, [.slot 0], some (13, false)⟩,
 ⟨some 15, .bin .eql, [.slot 14, .lit (.str [46])], some (13, false)⟩,
 ⟨some 16, .pick, [.slot 12, .lit (.bool true), .slot 15], none⟩,
 ⟨some 17, .mv, [.slot 16], none⟩,
 ⟨some 18, .take, [.slot 0], some (17, false)⟩,
 ⟨some 19, .bin .eql, [.slot 18, .lit (.str [46, 46])], some (17, false)⟩,
 ⟨some 20, .pick, [.slot 16, .lit (.bool true), .slot 19], none⟩])
 (.cond (.slot 20) (.seq (.reg [⟨some 2, .give, [.lit (.bool false)], none⟩])
 (.ret))
 (.skip)))
 (.seq (.seq (.reg [⟨some 3, .take, [.lit (.int .i64 0)], none⟩])
 (.block 0 (.loop (.seq (.seq (.reg [⟨some 21, .mv, [.slot 3], none⟩,
 ⟨some 22, .mv, [.slot 0], none⟩,
 ⟨some 23, .lenS, [.slot 0], none⟩,
 ⟨some 24, .bin .lss, [.slot 3, .slot 23], none⟩])
 (.cond (.slot 24) (.skip)
 (.exit 0)))
 (.seq (.block 1 (.seq (.reg [⟨some 27, .mv, [.slot 0], none⟩,
 ⟨some 28, .mv, [.slot 3], none⟩,
 ⟨some 29, .idxS, [.slot 0, .slot 3], none⟩,
 ⟨some 4, .give, [.slot 29], none⟩])
 (.seq (.reg [⟨some 30, .mv, [.slot 4], none⟩,
 ⟨some 31, .bin .geq, [.slot 4, .lit (.int .u8 97)], none⟩,
 ⟨some 32, .mv, [.slot 31], none⟩,
 ⟨some 33, .take, [.slot 4], some (32, true)⟩,
 ⟨some 34, .bin .leq, [.slot 33, .lit (.int .u8 122)], some (32, true)⟩,
 ⟨some 35, .pick, [.slot 31, .slot 34, .lit (.bool false)], none⟩,
 ⟨some 36, .mv, [.slot 35], none⟩,
 ⟨some 37, .take, [.slot 4], some (36, false)⟩,
 ⟨some 38, .bin .geq, [.slot 37, .lit (.int .u8 48)], some (36, false)⟩,
 ⟨some 39, .take, [.slot 38], some (36, false)⟩,
 ⟨some 40, .take, [.slot 4], some (39, true)⟩,
 ⟨some 41, .bin .leq, [.slot 40, .lit (.int .u8 57)], some (39, true)⟩,
 ⟨some 42, .pick, [.slot 39, .slot 41, .lit (.bool false)], some (36, false)⟩,
 ⟨some 43, .pick, [.slot 35, .lit (.bool true), .slot 42], none⟩,
 ⟨some 44, .mv, [.slot 43], none⟩,
 ⟨some 45, .take, [.slot 4], some (44, false)⟩,
 ⟨some 46, .bin .eql, [.slot 45, .lit (.int .u8 46)], some (44, false)⟩,
 ⟨some 47, .pick, [.slot 43, .lit (.bool true), .slot 46], none⟩,
 ⟨some 48, .mv, [.slot 47], none⟩,
 ⟨some 49, .take, [.slot 4], some (48, false)⟩,
 ⟨some 50, .bin .eql, [.slot 49, .lit (.int .u8 45)], some (48, false)⟩,
 ⟨some 51, .pick, [.slot 47, .lit (.bool true), .slot 50], none⟩,
 ⟨some 52, .un .not, [.slot 51], none⟩])
 (.cond (.slot 52) (.seq (.reg [⟨some 2, .give, [.lit (.bool false)], none⟩])
 (.ret))
 (.skip)))))
 (.reg [⟨some 25, .mv, [.slot 3], none⟩,
 ⟨some 26, .bin .add, [.slot 3, .lit (.int .i64 1)], none⟩,
 ⟨some 3, .give, [.slot 26], none⟩]))))))
 (.seq (.reg [⟨some 2, .give, [.lit (.bool true)], none⟩])
 (.ret))))),
 53, [.tmp 2]⟩
theorem c55 : cFunc Proofs.Tryd.prog 55 = some sf55 := by kernel_rfl
/-- internal/stringslite.HasPrefix -/
def sf56 : SF := ⟨(.seq (.reg [⟨some 4, .give, [.lit (.bool false)], none⟩])
 (.seq (.reg [⟨some 5, .mv, [.slot 0], none⟩,
 ⟨some 6, .lenS, [.slot 0], none⟩,
 ⟨some 7, .mv, [.slot 1], none⟩,
 ⟨some 8, .lenS, [.slot 1], none⟩,
 ⟨some 9, .bin .geq, [.slot 6, .slot 8], none⟩,
 ⟨some 10, .mv, [.slot 9], none⟩,
 ⟨some 11, .take, [.slot 0], some (10, true)⟩,
 ⟨some 12, .take, [.slot 1], some (10, true)⟩,
 ⟨some 13, .lenS, [.slot 12], some (10, true)⟩,
 ⟨some 14, .slcS false true, [.slot 11, .slot 13], some (10, true)⟩,
 ⟨some 15, .take, [.slot 1], some (10, true)⟩,
 ⟨some 16, .bin .eql, [.slot 14, .slot 15], some (10, true)⟩,
 ⟨some 17, .pick, [.slot 9, .slot 16, .lit (.bool false)], none⟩,
 ⟨some 4, .give, [.slot 17], none⟩])
 (.ret))),
 18, [.tmp 4]⟩
theorem c56 : cFunc Proofs.Tryd.prog 56 = some sf56 := by kernel_rfl
/-- strings.Split -/
def sf57 : SF := ⟨(.seq (.reg [⟨some 4, .give, [.lit (.nilS)], none⟩])
 (.seq (.reg [⟨some 5, .mv, [.slot 0], none⟩,
 ⟨some 6, .mv, [.slot 1], none⟩,
 ⟨some 7, .call 62, [.slot 0, .slot 1, .lit (.int .i64 0), .lit (.int .i64 (-1))], none⟩,
 ⟨some 4, .give, [.slot 7], none⟩])
 (.ret))),
 8, [.tmp 4]⟩
theorem c57 : cFunc Proofs.Tryd.prog 57 = some sf57 := by kernel_rfl
/-- carpetbag/path.Name -/
def sf58 : SF := ⟨(.seq (.reg [⟨some 2, .give, [.lit (.bool false)], none⟩])
 (.seq (.seq (.reg [⟨some 6, .mv, [.slot 0], none⟩,
 ⟨some 7, .s2b, [.slot 0], none⟩,
 ⟨some 8, .lenL, [.slot 7], none⟩,
 ⟨some 9, .mv, [.lit (.int .i64 0)], none⟩])
 (.block 0 (.loop (.seq (.reg [⟨some 10, .bin .lss, [.slot 9, .slot 8], none⟩])
 (.seq (.cond (.slot 10) (.skip)
 (.exit 0))
 (.seq (.block 1 (.seq (.reg [⟨some 11, .idxB 1, [.slot 7, .slot 9], none⟩,
 ⟨some 12, .load 1 false, [.slot 11], none⟩,
 ⟨some 4, .give, [.slot 12], none⟩])
 (.seq (.reg [⟨some 13, .mv, [.slot 4], none⟩,
 ⟨some 14, .bin .geq, [.slot 4, .lit (.int .u8 97)], none⟩,
 ⟨some 15, .mv, [.slot 14], none⟩,
 ⟨some 16, .take, [.slot 4], some (15, true)⟩,
 ⟨some 17, .bin .leq, [.slot 16, .lit (.int .u8 122)], some (15, true)⟩,
 ⟨some 18, .pick, [.slot 14, .slot 17, .lit (.bool false)], none⟩,
 ⟨some 19, .mv, [.slot 18], none⟩,
 ⟨some 20, .take, [.slot 4], some (19, false)⟩,
 ⟨some 21, .bin .geq, [.slot 20, .lit (.int .u8 48)], some (19, false)⟩,
 ⟨some 22, .take, [.slot 21], some (19, false)⟩,
 ⟨some 23, .take, [.slot 4], some (22, true)⟩,
 ⟨some 24, .bin .leq, [.slot 23, .lit (.int .u8 57)], some (22, true)⟩,
 ⟨some 25, .pick, [.slot 22, .slot 24, .lit (.bool false)], some (19, false)⟩,
 ⟨some 26, .pick, [.slot 18, .lit (.bool true), .slot 25], none⟩,
 ⟨some 5, .give, [.slot 26], none⟩])
 (.seq (.reg [⟨some 27, .mv, [.slot 5], none⟩,
 ⟨some 28, .un .not, [.slot 5], none⟩,
 ⟨some 29, .mv, [.slot 28], none⟩,
 ⟨some 30, .take, [.slot 4], some (29, true)⟩,
 ⟨some 31, .call 63, [.lit (.str [46, 45]), .slot 30], some (29, true)⟩,
 ⟨some 32, .bin .lss, [.slot 31, .lit (.int .i64 0)], some (29, true)⟩,
 ⟨some 33, .pick, [.slot 28, .slot 32, .lit (.bool false)], none⟩])
 (.cond (.slot 33) (.seq (.reg [⟨some 2, .give, [.lit (.bool false)], none⟩])
 (.ret))
 (.skip))))))
 (.reg [⟨some 34, .bin .add, [.slot 9, .lit (.int .i64 1)], none⟩,
 ⟨some 9, .mv, [.slot 34], none⟩])))))))
 (.seq (.reg [⟨some 35, .mv, [.slot 0], none⟩,
 ⟨some 36, .lenS, [.slot 0], none⟩,
 ⟨some 37, .bin .gtr, [.slot 36, .lit (.int .i64 0)], none⟩,
 ⟨some 38, .mv, [.slot 37], none⟩,
 ⟨some 39, .take, [.slot 0], some (38, true)⟩,
 ⟨some 40, .lenS, [.slot 39], some (38, true)⟩,
 ⟨some 41, .bin .leq, [.slot 40, .lit (.int .i64 12)], some (38, true)⟩,
 ⟨some 42, .pick, [.slot 37, .slot 41, .lit (.bool false)], none⟩,
 ⟨some 43, .mv, [.slot 42], none⟩,
 ⟨some 44, .take, [.slot 0], some (43, true)⟩,
 ⟨some 45, .bin .neq, [.slot 44, .lit (.str [46])], some (43, true)⟩,
 ⟨some 46, .pick, [.slot 42, .slot 45, .lit (.bool false)], none⟩,
 ⟨some 47, .mv, [.slot 46], none⟩,
 ⟨some 48, .take, [.slot 0], some (47, true)⟩,
 ⟨some 49, .bin .neq, [.slot 48, .lit (.str [46, 46])], some (47, true)⟩,
 ⟨some 50, .pick, [.slot 46, .slot 49, .lit (.bool false)], none⟩,
 ⟨some 2, .give, [.slot 50], none⟩])
 (.ret)))),
 51, [.tmp 2]⟩
theorem c58 : cFunc Proofs.Tryd.prog 58 = some sf58 := by kernel_rfl
/-- slices.rotateLeft[carpetbag/api.File] -/
def sf61 : SF := ⟨(.seq (.reg [⟨some 4, .mv, [.slot 0], none⟩,
 ⟨some 5, .mv, [.slot 1], none⟩,
 ⟨some 6, .slcL 2 false true false, [.slot 0, .slot 1], none⟩,
 ⟨some 7, .call 68, [.slot 6], none⟩])
 (.seq (.reg [⟨some 8, .mv, [.slot 0], none⟩,
 ⟨some 9, .mv, [.slot 1], none⟩,
 ⟨some 10, .slcL 2 true false false, [.slot 0, .slot 1], none⟩,
 ⟨some 11, .call 68, [.slot 10], none⟩])
 (.reg [⟨some 12, .mv, [.slot 0], none⟩,
 ⟨some 13, .call 68, [.slot 0], none⟩]))),
 14, []⟩
theorem c61 : cFunc Proofs.Tryd.prog 61 = some sf61 := by kernel_rfl
/-- strings.genSplit -/
def sf62 : SF := ⟨(.seq (.reg [⟨some 8, .give, [.lit (.nilS)], none⟩])
 (.seq (.seq (.reg [⟨some 12, .mv, [.slot 3], none⟩,
 ⟨some 13, .bin .eql, [.slot 3, .lit (.int .i64 0)], none⟩])
 (.cond (.slot 13) (.seq (.reg [⟨some 8, .give, [.lit (.nilS)], none⟩])
 (.ret))
 (.skip)))
 (.seq (.seq (.reg [⟨some 14, .mv, [.slot 1], none⟩,
 ⟨some 15, .bin .eql, [.slot 1, .lit (.str [])], none⟩])
 (.cond (.slot 15) (.seq (.reg [⟨some 16, .mv, [.slot 0], none⟩,
 ⟨some 17, .mv, [.slot 3], none⟩,
 ⟨some 18, .call 69, [.slot 0, .slot 3], none⟩,
 ⟨some 8, .give, [.slot 18], none⟩])
 (.ret))
 (.skip)))
 (.seq (.seq (.reg [⟨some 19, .mv, [.slot 3], none⟩,
 ⟨some 20, .bin .lss, [.slot 3, .lit (.int .i64 0)], none⟩])
 (.cond (.slot 20) (.reg [⟨some 21, .mv, [.slot 0], none⟩,
 ⟨some 22, .mv, [.slot 1], none⟩,
 ⟨some 23, .call 70, [.slot 0, .slot 1], none⟩,
 ⟨some 24, .bin .add, [.slot 23, .lit (.int .i64 1)], none⟩,
 ⟨some 3, .give, [.slot 24], none⟩])
 (.skip)))
 (.seq (.reg [⟨some 25, .mv, [.slot 3], none⟩,
 ⟨some 26, .mv, [.slot 0], none⟩,
 ⟨some 27, .lenS, [.slot 0], none⟩,
 ⟨some 28, .bin .add, [.slot 27, .lit (.int .i64 1)], none⟩,
 ⟨some 29, .min, [.slot 3, .slot 28], none⟩,
 ⟨some 3, .give, [.slot 29], none⟩])
 (.seq (.reg [⟨some 30, .mv, [.slot 3], none⟩,
 ⟨some 31, .mkS 1 16 [.str []], [.slot 3, .slot 3], none⟩,
 ⟨some 9, .giveO, [.slot 31], none⟩])
 (.seq (.reg [⟨some 32, .mv, [.slot 3], none⟩,
 ⟨some 33, .bin .sub, [.slot 3, .lit (.int .i64 1)], none⟩,
 ⟨some 3, .give, [.slot 33], none⟩])
 (.seq (.reg [⟨some 10, .take, [.lit (.int .i64 0)], none⟩])
 (.seq (.block 0 (.loop (.seq (.seq (.reg [⟨some 34, .mv, [.slot 10], none⟩,
 ⟨some 35, .mv, [.slot 3], none⟩,
 ⟨some 36, .bin .lss, [.slot 10, .slot 3], none⟩])
 (.cond (.slot 36) (.skip)
 (.exit 0)))
 (.block 1 (.seq (.reg [⟨some 37, .mv, [.slot 0], none⟩,
 ⟨some 38, .mv, [.slot 1], none⟩,
 ⟨some 39, .call 71, [.slot 0, .slot 1], none⟩,
 ⟨some 11, .give, [.slot 39], none⟩])
 (.seq (.seq (.reg [⟨some 40, .mv, [.slot 11], none⟩,
 ⟨some 41, .bin .lss, [.slot 11, .lit (.int .i64 0)], none⟩])
 (.cond (.slot 41) (.exit 0)
 (.skip)))
 (.seq (.reg [⟨some 42, .mv, [.slot 9], none⟩,
 ⟨some 43, .mv, [.slot 10], none⟩,
 ⟨some 44, .mv, [.slot 0], none⟩,
 ⟨some 45, .mv, [.slot 11], none⟩,
 ⟨some 46, .mv, [.slot 2], none⟩,
 ⟨some 47, .bin .add, [.slot 11, .slot 2], none⟩,
 ⟨some 48, .slcS false true, [.slot 0, .slot 47], none⟩,
 ⟨some 49, .idxB 1, [.slot 9, .slot 10], none⟩,
 ⟨none, .store 1 true, [.slot 49, .slot 48], none⟩])
 (.seq (.reg [⟨some 50, .mv, [.slot 0], none⟩,
 ⟨some 51, .mv, [.slot 11], none⟩,
 ⟨some 52, .mv, [.slot 1], none⟩,
 ⟨some 53, .lenS, [.slot 1], none⟩,
 ⟨some 54, .bin .add, [.slot 11, .slot 53], none⟩,
 ⟨some 55, .slcS true false, [.slot 0, .slot 54], none⟩,
 ⟨some 0, .give, [.slot 55], none⟩])
 (.reg [⟨some 56, .mv, [.slot 10], none⟩,
 ⟨some 57, .bin .add, [.slot 10, .lit (.int .i64 1)], none⟩,
 ⟨some 10, .give, [.slot 57], none⟩])))))))))
 (.seq (.reg [⟨some 58, .mv, [.slot 9], none⟩,
 ⟨some 59, .mv, [.slot 10], none⟩,
 ⟨some 60, .mv, [.slot 0], none⟩,
 ⟨some 61, .idxB 1, [.slot 9, .slot 10], none⟩,
 ⟨none, .store 1 false, [.slot 61, .slot 0], none⟩])
 (.seq (.reg [⟨some 62, .mv, [.slot 9], none⟩,
 ⟨some 63, .mv, [.slot 10], none⟩,
 ⟨some 64, .bin .add, [.slot 10, .lit (.int .i64 1)], none⟩,
 ⟨some 65, .slcL 1 false true false, [.slot 9, .slot 64], none⟩,
 ⟨some 8, .give, [.slot 65], none⟩])
 (.ret)))))))))))),
 66, [.tmp 8]⟩
theorem c62 : cFunc Proofs.Tryd.prog 62 = some sf62 := by kernel_rfl
/-- strings.IndexByte -/
def sf63 : SF := ⟨(.seq (.reg [⟨some 4, .give, [.lit (.int .i64 0)], none⟩])
 (.seq (.reg [⟨some 5, .mv, [.slot 0], none⟩,
 ⟨some 6, .mv, [.slot 1], none⟩,
 ⟨some 7, .call 72, [.slot 0, .slot 1], none⟩,
 ⟨some 4, .give, [.slot 7], none⟩])
 (.ret))),
 8, [.tmp 4]⟩
theorem c63 : cFunc Proofs.Tryd.prog 63 = some sf63 := by kernel_rfl
/-- slices.Reverse[[]carpetbag/api.File,carpetbag/api.File] -/
def sf68 : SF := ⟨(.seq (.reg [⟨some 4, .mv, [.slot 0], none⟩,
 ⟨some 5, .lenL, [.slot 0], none⟩,
 ⟨some 6, .bin .sub, [.slot 5, .lit (.int .i64 1)], none⟩,
 ⟨some 2, .take, [.lit (.int .i64 0)], none⟩,
 ⟨some 3, .give, [.slot 6], none⟩])
 (.block 0 (.loop (.seq (.seq (.reg [⟨some 7, .mv, [.slot 2], none⟩,
 ⟨some 8, .mv, [.slot 3], none⟩,
 ⟨some 9, .bin .lss, [.slot 2, .slot 3], none⟩])
 (.cond (.slot 9) (.skip)
 (.exit 0)))
 (.seq (.block 1 (.reg [⟨some 14, .mv, [.slot 0], none⟩,
 ⟨some 15, .mv, [.slot 2], none⟩,
 ⟨some 16, .mv, [.slot 0], none⟩,
 ⟨some 17, .mv, [.slot 3], none⟩,
 ⟨some 18, .mv, [.slot 0], none⟩,
 ⟨some 19, .mv, [.slot 3], none⟩,
 ⟨some 20, .idxA 2, [.slot 0, .slot 3], none⟩,
 ⟨some 21, .load 2 true, [.slot 20], none⟩,
 ⟨some 22, .mv, [.slot 0], none⟩,
 ⟨some 23, .mv, [.slot 2], none⟩,
 ⟨some 24, .idxA 2, [.slot 0, .slot 2], none⟩,
 ⟨some 25, .load 2 true, [.slot 24], none⟩,
 ⟨some 26, .idxA 2, [.slot 0, .slot 2], none⟩,
 ⟨none, .store 2 true, [.slot 26, .slot 21], none⟩,
 ⟨some 27, .idxA 2, [.slot 0, .slot 3], none⟩,
 ⟨none, .store 2 true, [.slot 27, .slot 25], none⟩]))
 (.reg [⟨some 10, .mv, [.slot 2], none⟩,
 ⟨some 11, .bin .add, [.slot 2, .lit (.int .i64 1)], none⟩,
 ⟨some 12, .mv, [.slot 3], none⟩,
 ⟨some 13, .bin .sub, [.slot 3, .lit (.int .i64 1)], none⟩,
 ⟨some 2, .give, [.slot 11], none⟩,
 ⟨some 3, .give, [.slot 13], none⟩])))))),
 28, []⟩
theorem c68 : cFunc Proofs.Tryd.prog 68 = some sf68 := by kernel_rfl
/-- strings.explode -/
def sf69 : SF := ⟨(.seq (.reg [⟨some 4, .give, [.lit (.nilS)], none⟩])
 (.seq (.reg [⟨some 10, .mv, [.slot 0], none⟩,
 ⟨some 11, .call 75, [.slot 0], none⟩,
 ⟨some 5, .give, [.slot 11], none⟩])
 (.seq (.seq (.reg [⟨some 12, .mv, [.slot 1], none⟩,
 ⟨some 13, .bin .lss, [.slot 1, .lit (.int .i64 0)], none⟩,
 ⟨some 14, .mv, [.slot 13], none⟩,
 ⟨some 15, .take, [.slot 1], some (14, false)⟩,
 ⟨some 16, .take, [.slot 5], some (14, false)⟩,
 ⟨some 17, .bin .gtr, [.slot 15, .slot 16], some (14, false)⟩,
 ⟨some 18, .pick, [.slot 13, .lit (.bool true), .slot 17], none⟩])
 (.cond (.slot 18) (.reg [⟨some 19, .mv, [.slot 5], none⟩,
 ⟨some 1, .take, [.slot 5], none⟩])
 (.skip)))
 (.seq (.reg [⟨some 20, .mv, [.slot 1], none⟩,
 ⟨some 21, .mkS 1 16 [.str []], [.slot 1, .slot 1], none⟩,
 ⟨some 6, .giveO, [.slot 21], none⟩])
 (.seq (.seq (.reg [⟨some 7, .take, [.lit (.int .i64 0)], none⟩])
 (.block 0 (.loop (.seq (.seq (.reg [⟨some 22, .mv, [.slot 7], none⟩,
 ⟨some 23, .mv, [.slot 1], none⟩,
 ⟨some 24, .bin .sub, [.slot 1, .lit (.int .i64 1)], none⟩,
 ⟨some 25, .bin .lss, [.slot 7, .slot 24], none⟩])
 (.cond (.slot 25) (.skip)
 (.exit 0)))
 (.seq (.block 1 (.seq (.reg [⟨some 29, .mv, [.slot 0], none⟩,
 ⟨some 30, .call 76, [.slot 0], none⟩,
 ⟨some 28, .mv, [.slot 30], none⟩,
 ⟨some 31, .ext 0, [.slot 30], none⟩,
 ⟨some 32, .ext 1, [.slot 30], none⟩,
 ⟨some 8, .give, [.slot 31], none⟩,
 ⟨some 9, .give, [.slot 32], none⟩])
 (.seq (.reg [⟨some 33, .mv, [.slot 6], none⟩,
 ⟨some 34, .mv, [.slot 7], none⟩,
 ⟨some 35, .mv, [.slot 0], none⟩,
 ⟨some 36, .mv, [.slot 9], none⟩,
 ⟨some 37, .slcS false true, [.slot 0, .slot 9], none⟩,
 ⟨some 38, .idxB 1, [.slot 6, .slot 7], none⟩,
 ⟨none, .store 1 true, [.slot 38, .slot 37], none⟩])
 (.reg [⟨some 39, .mv, [.slot 0], none⟩,
 ⟨some 40, .mv, [.slot 9], none⟩,
 ⟨some 41, .slcS true false, [.slot 0, .slot 9], none⟩,
 ⟨some 0, .give, [.slot 41], none⟩]))))
 (.reg [⟨some 26, .mv, [.slot 7], none⟩,
 ⟨some 27, .bin .add, [.slot 7, .lit (.int .i64 1)], none⟩,
 ⟨some 7, .give, [.slot 27], none⟩]))))))
 (.seq (.seq (.reg [⟨some 42, .mv, [.slot 1], none⟩,
 ⟨some 43, .bin .gtr, [.slot 1, .lit (.int .i64 0)], none⟩])
 (.cond (.slot 43) (.reg [⟨some 44, .mv, [.slot 6], none⟩,
 ⟨some 45, .mv, [.slot 1], none⟩,
 ⟨some 46, .bin .sub, [.slot 1, .lit (.int .i64 1)], none⟩,
 ⟨some 47, .mv, [.slot 0], none⟩,
 ⟨some 48, .idxB 1, [.slot 6, .slot 46], none⟩,
 ⟨none, .store 1 false, [.slot 48, .slot 0], none⟩])
 (.skip)))
 (.seq (.reg [⟨some 49, .mv, [.slot 6], none⟩,
 ⟨some 4, .give, [.slot 6], none⟩])
 (.ret)))))))),
 50, [.tmp 4]⟩
theorem c69 : cFunc Proofs.Tryd.prog 69 = some sf69 := by kernel_rfl
/-- strings.Index -/
def sf71 : SF := ⟨(.seq (.reg [⟨some 4, .give, [.lit (.int .i64 0)], none⟩])
 (.seq (.reg [⟨some 5, .mv, [.slot 0], none⟩,
 ⟨some 6, .mv, [.slot 1], none⟩,
 ⟨some 7, .call 78, [.slot 0, .slot 1], none⟩,
 ⟨some 4, .give, [.slot 7], none⟩])
 (.ret))),
 8, [.tmp 4]⟩
theorem c71 : cFunc Proofs.Tryd.prog 71 = some sf71 := by kernel_rfl
/-- unicode/utf8.DecodeRuneInString -/
def sf76 : SF := ⟨(.seq (.reg [⟨some 2, .give, [.lit (.int .i32 0)], none⟩,
 ⟨some 3, .give, [.lit (.int .i64 0)], none⟩])
 (.seq (.seq (.reg [⟨some 4, .mv, [.slot 0], none⟩,
 ⟨some 5, .bin .neq, [.slot 0, .lit (.str [])], none⟩,
 ⟨some 6, .mv, [.slot 5], none⟩,
 ⟨some 7, .take, [.slot 0], some (6, true)⟩,
 ⟨some 8, .idxS, [.slot 7, .lit (.int .i64 0)], some (6, true)⟩,
 ⟨some 9, .bin .lss, [.slot 8, .lit (.int .u8 128)], some (6, true)⟩,
 ⟨some 10, .pick, [.slot 5, .slot 9, .lit (.bool false)], none⟩])
 (.cond (.slot 10) (.seq (.reg [⟨some 11, .mv, [.slot 0], none⟩,
 ⟨some 12, .idxS, [.slot 0, .lit (.int .i64 0)], none⟩,
 ⟨some 13, .cvI .i32, [.slot 12], none⟩,
 ⟨some 2, .give, [.slot 13], none⟩,
 ⟨some 3, .give, [.lit (.int .i64 1)], none⟩])
 (.ret))
 (.reg [⟨some 15, .mv, [.slot 0], none⟩,
 ⟨some 16, .call 82, [.slot 0], none⟩,
 ⟨some 14, .mv, [.slot 16], none⟩,
 ⟨some 17, .ext 0, [.slot 16], none⟩,
 ⟨some 18, .ext 1, [.slot 16], none⟩,
 ⟨some 2, .give, [.slot 17], none⟩,
 ⟨some 3, .give, [.slot 18], none⟩])))
 (.ret))),
 19, [.tmp 2, .tmp 3]⟩
theorem c76 : cFunc Proofs.Tryd.prog 76 = some sf76 := by kernel_rfl
/-- internal/bytealg.Cutover -/
def sf84 : SF := ⟨(.seq (.reg [⟨some 2, .give, [.lit (.int .i64 0)], none⟩])
 (.seq (.reg [⟨some 3, .mv, [.slot 0], none⟩,
 ⟨some 4, .bin .add, [.slot 0, .lit (.int .i64 16)], none⟩,
 ⟨some 5, .bin .quo, [.slot 4, .lit (.int .i64 8)], none⟩,
 ⟨some 2, .give, [.slot 5], none⟩])
 (.ret))),
 6, [.tmp 2]⟩
theorem c84 : cFunc Proofs.Tryd.prog 84 = some sf84 := by kernel_rfl
/-- internal/bytealg.IndexRabinKarp[string] -/
def sf85 : SF := ⟨(.seq (.reg [⟨some 4, .give, [.lit (.int .i64 0)], none⟩])
 (.seq (.reg [⟨some 12, .mv, [.slot 1], none⟩,
 ⟨some 13, .call 86, [.slot 1], none⟩,
 ⟨some 11, .mv, [.slot 13], none⟩,
 ⟨some 14, .ext 0, [.slot 13], none⟩,
 ⟨some 15, .ext 1, [.slot 13], none⟩,
 ⟨some 5, .give, [.slot 14], none⟩,
 ⟨some 6, .give, [.slot 15], none⟩])
 (.seq (.reg [⟨some 16, .mv, [.slot 1], none⟩,
 ⟨some 17, .lenS, [.slot 1], none⟩,
 ⟨some 7, .give, [.slot 17], none⟩])
 (.seq (.reg [⟨some 8, .take, [.lit (.int .u32 0)], none⟩])
 (.seq (.seq (.reg [⟨some 9, .take, [.lit (.int .i64 0)], none⟩])
 (.block 0 (.loop (.seq (.seq (.reg [⟨some 18, .mv, [.slot 9], none⟩,
 ⟨some 19, .mv, [.slot 7], none⟩,
 ⟨some 20, .bin .lss, [.slot 9, .slot 7], none⟩])
 (.cond (.slot 20) (.skip)
 (.exit 0)))
 (.seq (.block 1 (.reg [⟨some 23, .mv, [.slot 8], none⟩,
 ⟨some 24, .bin .mul, [.slot 8, .lit (.int .u32 16777619)], none⟩,
 ⟨some 25, .mv, [.slot 0], none⟩,
 ⟨some 26, .mv, [.slot 9], none⟩,
 ⟨some 27, .idxS, [.slot 0, .slot 9], none⟩,
 ⟨some 28, .cvI .u32, [.slot 27], none⟩,
 ⟨some 29, .bin .add, [.slot 24, .slot 28], none⟩,
 ⟨some 8, .give, [.slot 29], none⟩]))
 (.reg [⟨some 21, .mv, [.slot 9], none⟩,
 ⟨some 22, .bin .add, [.slot 9, .lit (.int .i64 1)], none⟩,
 ⟨some 9, .give, [.slot 22], none⟩]))))))
 (.seq (.seq (.reg [⟨some 30, .mv, [.slot 8], none⟩,
 ⟨some 31, .mv, [.slot 5], none⟩,
 ⟨some 32, .bin .eql, [.slot 8, .slot 5], none⟩,
 ⟨some 33, .mv, [.slot 32], none⟩,
 ⟨some 34, .take, [.slot 0], some (33, true)⟩,
 ⟨some 35, .take, [.slot 7], some (33, true)⟩,
 ⟨some 36, .slcS false true, [.slot 34, .slot 35], some (33, true)⟩,
 ⟨some 37, .take, [.slot 1], some (33, true)⟩,
 ⟨some 38, .bin .eql, [.slot 36, .slot 37], some (33, true)⟩,
 ⟨some 39, .pick, [.slot 32, .slot 38, .lit (.bool false)], none⟩])
 (.cond (.slot 39) (.seq (.reg [⟨some 4, .give, [.lit (.int .i64 0)], none⟩])
 (.ret))
 (.skip)))
 (.seq (.seq (.reg [⟨some 40, .mv, [.slot 7], none⟩,
 ⟨some 10, .take, [.slot 7], none⟩])
 (.block 2 (.loop (.seq (.seq (.reg [⟨some 41, .mv, [.slot 10], none⟩,
 ⟨some 42, .mv, [.slot 0], none⟩,
 ⟨some 43, .lenS, [.slot 0], none⟩,
 ⟨some 44, .bin .lss, [.slot 10, .slot 43], none⟩])
 (.cond (.slot 44) (.skip)
 (.exit 2)))
 (.block 3 (.seq (.reg [⟨some 45, .mv, [.slot 8], none⟩,
 ⟨some 46, .bin .mul, [.slot 8, .lit (.int .u32 16777619)], none⟩,
 ⟨some 8, .give, [.slot 46], none⟩])
 (.seq (.reg [⟨some 47, .mv, [.slot 8], none⟩,
 ⟨some 48, .mv, [.slot 0], none⟩,
 ⟨some 49, .mv, [.slot 10], none⟩,
 ⟨some 50, .idxS, [.slot 0, .slot 10], none⟩,
 ⟨some 51, .cvI .u32, [.slot 50], none⟩,
 ⟨some 52, .bin .add, [.slot 8, .slot 51], none⟩,
 ⟨some 8, .give, [.slot 52], none⟩])
 (.seq (.reg [⟨some 53, .mv, [.slot 8], none⟩,
 ⟨some 54, .mv, [.slot 6], none⟩,
 ⟨some 55, .mv, [.slot 0], none⟩,
 ⟨some 56, .mv, [.slot 10], none⟩,
 ⟨some 57, .mv, [.slot 7], none⟩,
 ⟨some 58, .bin .sub, [.slot 10, .slot 7], none⟩,
 ⟨some 59, .idxS, [.slot 0, .slot 58], none⟩,
 ⟨some 60, .cvI .u32, [.slot 59], none⟩,
 ⟨some 61, .bin .mul, [.slot 6, .slot 60], none⟩,
 ⟨some 62, .bin .sub, [.slot 8, .slot 61], none⟩,
 ⟨some 8, .give, [.slot 62], none⟩])
 (.seq (.reg [⟨some 63, .mv, [.slot 10], none⟩,
 ⟨some 64, .bin .add, [.slot 10, .lit (.int .i64 1)], none⟩,
 ⟨some 10, .give, [.slot 64], none⟩])
 (.seq (.reg [⟨some 65, .mv, [.slot 8], none⟩,
 ⟨some 66, .mv, [.slot 5], none⟩,
 ⟨some 67, .bin .eql, [.slot 8, .slot 5], none⟩,
 ⟨some 68, .mv, [.slot 67], none⟩,
 ⟨some 69, .take, [.slot 0], some (68, true)⟩,
 ⟨some 70, .take, [.slot 10], some (68, true)⟩,
 ⟨some 71, .take, [.slot 7], some (68, true)⟩,
 ⟨some 72, .bin .sub, [.slot 70, .slot 71], some (68, true)⟩,
 ⟨some 73, .take, [.slot 10], some (68, true)⟩,
 ⟨some 74, .slcS true true, [.slot 69, .slot 72, .slot 73], some (68, true)⟩,
 ⟨some 75, .take, [.slot 1], some (68, true)⟩,
 ⟨some 76, .bin .eql, [.slot 74, .slot 75], some (68, true)⟩,
 ⟨some 77, .pick, [.slot 67, .slot 76, .lit (.bool false)], none⟩])
 (.cond (.slot 77) (.seq (.reg [⟨some 78, .mv, [.slot 10], none⟩,
 ⟨some 79, .mv, [.slot 7], none⟩,
 ⟨some 80, .bin .sub, [.slot 10, .slot 7], none⟩,
 ⟨some 4, .give, [.slot 80], none⟩])
 (.ret))
 (.skip))))))))))))
 (.seq (.reg [⟨some 4, .give, [.lit (.int .i64 (-1))], none⟩])
 (.ret))))))))),
 81, [.tmp 4]⟩
theorem c85 : cFunc Proofs.Tryd.prog 85 = some sf85 := by kernel_rfl
/-- internal/bytealg.hashStr[string] -/
def sf86 : SF := ⟨(.seq (.reg [⟨some 2, .give, [.lit (.int .u32 0)], none⟩,
 ⟨some 3, .give, [.lit (.int .u32 0)], none⟩])
 (.seq (.reg [⟨some 4, .take, [.lit (.int .u32 0)], none⟩])
 (.seq (.seq (.reg [⟨some 5, .take, [.lit (.int .i64 0)], none⟩])
 (.block 0 (.loop (.seq (.seq (.reg [⟨some 9, .mv, [.slot 5], none⟩,
 ⟨some 10, .mv, [.slot 0], none⟩,
 ⟨some 11, .lenS, [.slot 0], none⟩,
 ⟨some 12, .bin .lss, [.slot 5, .slot 11], none⟩])
 (.cond (.slot 12) (.skip)
 (.exit 0)))
 (.seq (.block 1 (.reg [⟨some 15, .mv, [.slot 4], none⟩,
 ⟨some 16, .bin .mul, [.slot 4, .lit (.int .u32 16777619)], none⟩,
 ⟨some 17, .mv, [.slot 0], none⟩,
 ⟨some 18, .mv, [.slot 5], none⟩,
 ⟨some 19, .idxS, [.slot 0, .slot 5], none⟩,
 ⟨some 20, .cvI .u32, [.slot 19], none⟩,
 ⟨some 21, .bin .add, [.slot 16, .slot 20], none⟩,
 ⟨some 4, .give, [.slot 21], none⟩]))
 (.reg [⟨some 13, .mv, [.slot 5], none⟩,
 ⟨some 14, .bin .add, [.slot 5, .lit (.int .i64 1)], none⟩,
 ⟨some 5, .give, [.slot 14], none⟩]))))))
 (.seq (.reg [⟨some 6, .take, [.lit (.int .u32 1)], none⟩,
 ⟨some 7, .take, [.lit (.int .u32 16777619)], none⟩])
 (.seq (.seq (.reg [⟨some 22, .mv, [.slot 0], none⟩,
 ⟨some 23, .lenS, [.slot 0], none⟩,
 ⟨some 8, .give, [.slot 23], none⟩])
 (.block 2 (.loop (.seq (.seq (.reg [⟨some 24, .mv, [.slot 8], none⟩,
 ⟨some 25, .bin .gtr, [.slot 8, .lit (.int .i64 0)], none⟩])
 (.cond (.slot 25) (.skip)
 (.exit 2)))
 (.seq (.block 3 (.seq (.seq (.reg [⟨some 28, .mv, [.slot 8], none⟩,
 ⟨some 29, .bin .and, [.slot 8, .lit (.int .i64 1)], none⟩,
 ⟨some 30, .bin .neq, [.slot 29, .lit (.int .i64 0)], none⟩])
 (.cond (.slot 30) (.reg [⟨some 31, .mv, [.slot 6], none⟩,
 ⟨some 32, .mv, [.slot 7], none⟩,
 ⟨some 33, .bin .mul, [.slot 6, .slot 7], none⟩,
 ⟨some 6, .give, [.slot 33], none⟩])
 (.skip)))
 (.reg [⟨some 34, .mv, [.slot 7], none⟩,
 ⟨some 35, .mv, [.slot 7], none⟩,
 ⟨some 36, .bin .mul, [.slot 7, .slot 7], none⟩,
 ⟨some 7, .give, [.slot 36], none⟩])))
 (.reg [⟨some 26, .mv, [.slot 8], none⟩,
 ⟨some 27, .bin .shr, [.slot 8, .lit (.int .u64 1)], none⟩,
 ⟨some 8, .give, [.slot 27], none⟩]))))))
 (.seq (.reg [⟨some 37, .mv, [.slot 4], none⟩,
 ⟨some 38, .mv, [.slot 6], none⟩,
 ⟨some 2, .give, [.slot 4], none⟩,
 ⟨some 3, .give, [.slot 6], none⟩])
 (.ret))))))),
 39, [.tmp 2, .tmp 3]⟩
theorem c86 : cFunc Proofs.Tryd.prog 86 = some sf86 := by kernel_rfl
end Go.Sh.F
