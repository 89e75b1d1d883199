/-
  The program functions of this seat in the shadow machine form: printed by shc.py, checked by the kernel.
-/
import Derived.Test.YtkdemcappkpibaaShY
import Derived.Test.YtkdemcappkpibaaProg
import Derived.KernelRfl
namespace Go.Sh.F
/-- carpetbag/carpetbaglaw08.ChunkTells -/
def sf3 : SF := ⟨(.seq (.reg [⟨some 10, .give, [.lit (.bool false)], none⟩])
   (.seq (.reg [⟨some 17, .call 9, [], none⟩,
     ⟨some 11, .give, [.slot 17], none⟩])
   (.seq (.reg [⟨some 18, .mv, [.slot 1], none⟩,
     ⟨some 19, .call 10, [.slot 1], none⟩,
     ⟨some 12, .give, [.slot 19], none⟩])
   (.seq (.seq (.reg [⟨some 20, .mv, [.slot 12], none⟩,
      ⟨some 21, .un .not, [.slot 12], none⟩,
      ⟨some 22, .mv, [.slot 21], none⟩,
      ⟨some 23, .take, [.slot 0], some (22, false)⟩,
      ⟨some 24, .lenS, [.slot 23], some (22, false)⟩,
      ⟨some 25, .bin .gtr, [.slot 24, .lit (.int .i64 5000)], some (22, false)⟩,
      ⟨some 26, .pick, [.slot 21, .lit (.bool true), .slot 25], none⟩])
    (.cond (.slot 26) (.seq (.reg [⟨some 27, .mv, [.slot 11], none⟩,
       ⟨some 10, .give, [.slot 11], none⟩])
     (.ret))
    (.skip)))
   (.seq (.reg [⟨some 29, .mv, [.slot 1], none⟩,
     ⟨some 30, .call 11, [.slot 1], none⟩,
     ⟨some 28, .mv, [.slot 30], none⟩,
     ⟨some 31, .ext 0, [.slot 30], none⟩,
     ⟨some 32, .ext 1, [.slot 30], none⟩,
     ⟨some 13, .give, [.slot 31], none⟩,
     ⟨some 14, .give, [.slot 32], none⟩])
   (.seq (.reg [⟨some 34, .mv, [.slot 1], none⟩,
     ⟨some 35, .call 12, [.slot 1], none⟩,
     ⟨some 33, .mv, [.slot 35], none⟩,
     ⟨some 36, .ext 0, [.slot 35], none⟩,
     ⟨some 37, .ext 1, [.slot 35], none⟩,
     ⟨some 15, .give, [.slot 36], none⟩,
     ⟨some 16, .give, [.slot 37], none⟩])
   (.seq (.reg [⟨some 38, .mv, [.slot 11], none⟩,
     ⟨some 39, .mv, [.slot 11], none⟩,
     ⟨some 40, .take, [.slot 0], some (39, true)⟩,
     ⟨some 41, .call 14, [.slot 40], some (39, true)⟩,
     ⟨some 42, .take, [.slot 0], some (39, true)⟩,
     ⟨some 43, .call 15, [.slot 42], some (39, true)⟩,
     ⟨some 44, .call 13, [.slot 41, .slot 43], some (39, true)⟩,
     ⟨some 45, .pick, [.slot 11, .slot 44, .lit (.bool false)], none⟩,
     ⟨some 46, .mv, [.slot 45], none⟩,
     ⟨some 47, .take, [.slot 13], some (46, true)⟩,
     ⟨some 48, .take, [.slot 15], some (46, true)⟩,
     ⟨some 49, .bin .eql, [.slot 47, .slot 48], some (46, true)⟩,
     ⟨some 50, .pick, [.slot 45, .slot 49, .lit (.bool false)], none⟩,
     ⟨some 51, .mv, [.slot 50], none⟩,
     ⟨some 52, .take, [.slot 14], some (51, true)⟩,
     ⟨some 53, .take, [.slot 16], some (51, true)⟩,
     ⟨some 54, .eqB false, [.slot 52, .slot 53], some (51, true)⟩,
     ⟨some 55, .pick, [.slot 50, .slot 54, .lit (.bool false)], none⟩,
     ⟨some 56, .mv, [.slot 55], none⟩,
     ⟨some 57, .take, [.slot 2], some (56, true)⟩,
     ⟨some 58, .call 16, [.slot 57], some (56, true)⟩,
     ⟨some 59, .take, [.slot 2], some (56, true)⟩,
     ⟨some 60, .call 17, [.slot 59], some (56, true)⟩,
     ⟨some 61, .bin .eql, [.slot 58, .slot 60], some (56, true)⟩,
     ⟨some 62, .pick, [.slot 55, .slot 61, .lit (.bool false)], none⟩,
     ⟨some 63, .mv, [.slot 62], none⟩,
     ⟨some 64, .take, [.slot 2], some (63, true)⟩,
     ⟨some 65, .take, [.slot 3], some (63, true)⟩,
     ⟨some 66, .take, [.slot 4], some (63, true)⟩,
     ⟨some 67, .call 18, [.slot 64, .slot 65, .slot 66], some (63, true)⟩,
     ⟨some 68, .take, [.slot 2], some (63, true)⟩,
     ⟨some 69, .take, [.slot 3], some (63, true)⟩,
     ⟨some 70, .take, [.slot 4], some (63, true)⟩,
     ⟨some 71, .call 19, [.slot 68, .slot 69, .slot 70], some (63, true)⟩,
     ⟨some 72, .bin .eql, [.slot 67, .slot 71], some (63, true)⟩,
     ⟨some 73, .pick, [.slot 62, .slot 72, .lit (.bool false)], none⟩,
     ⟨some 10, .give, [.slot 73], none⟩])
   (.ret)))))))),
  74, [.tmp 10]⟩
theorem c3 : cFunc Proofs.Try.prog 3 = some sf3 := by kernel_rfl
/-- carpetbag/carpetbaglaw08.ChunkBack -/
def sf4 : SF := ⟨(.seq (.reg [⟨some 4, .give, [.lit (.bool false)], none⟩])
   (.seq (.reg [⟨some 12, .call 9, [], none⟩,
     ⟨some 5, .give, [.slot 12], none⟩])
   (.seq (.reg [⟨some 13, .mv, [.slot 1], none⟩,
     ⟨some 14, .call 10, [.slot 1], none⟩,
     ⟨some 6, .give, [.slot 14], none⟩])
   (.seq (.seq (.reg [⟨some 15, .mv, [.slot 6], none⟩,
      ⟨some 16, .un .not, [.slot 6], none⟩,
      ⟨some 17, .mv, [.slot 16], none⟩,
      ⟨some 18, .take, [.slot 0], some (17, false)⟩,
      ⟨some 19, .lenS, [.slot 18], some (17, false)⟩,
      ⟨some 20, .bin .gtr, [.slot 19, .lit (.int .i64 5000)], some (17, false)⟩,
      ⟨some 21, .pick, [.slot 16, .lit (.bool true), .slot 20], none⟩])
    (.cond (.slot 21) (.seq (.reg [⟨some 22, .mv, [.slot 5], none⟩,
       ⟨some 4, .give, [.slot 5], none⟩])
     (.ret))
    (.skip)))
   (.seq (.reg [⟨some 23, .mv, [.slot 0], none⟩,
     ⟨some 24, .call 14, [.slot 0], none⟩,
     ⟨some 7, .give, [.slot 24], none⟩])
   (.seq (.reg [⟨some 26, .mv, [.slot 7], none⟩,
     ⟨some 27, .call 11, [.slot 7], none⟩,
     ⟨some 25, .mv, [.slot 27], none⟩,
     ⟨some 28, .ext 0, [.slot 27], none⟩,
     ⟨some 29, .ext 1, [.slot 27], none⟩,
     ⟨some 8, .give, [.slot 28], none⟩,
     ⟨some 9, .give, [.slot 29], none⟩])
   (.seq (.seq (.reg [⟨some 30, .mv, [.slot 9], none⟩,
      ⟨some 31, .un .not, [.slot 9], none⟩,
      ⟨some 32, .mv, [.slot 31], none⟩,
      ⟨some 33, .take, [.slot 8], some (32, false)⟩,
      ⟨some 34, .take, [.slot 0], some (32, false)⟩,
      ⟨some 35, .bin .neq, [.slot 33, .slot 34], some (32, false)⟩,
      ⟨some 36, .pick, [.slot 31, .lit (.bool true), .slot 35], none⟩,
      ⟨some 37, .mv, [.slot 36], none⟩,
      ⟨some 38, .take, [.slot 7], some (37, false)⟩,
      ⟨some 39, .lenL, [.slot 38], some (37, false)⟩,
      ⟨some 40, .take, [.slot 0], some (37, false)⟩,
      ⟨some 41, .lenS, [.slot 40], some (37, false)⟩,
      ⟨some 42, .call 16, [.slot 41], some (37, false)⟩,
      ⟨some 43, .bin .neq, [.slot 39, .slot 42], some (37, false)⟩,
      ⟨some 44, .pick, [.slot 36, .lit (.bool true), .slot 43], none⟩])
    (.cond (.slot 44) (.seq (.reg [⟨some 4, .give, [.lit (.bool false)], none⟩])
     (.ret))
    (.skip)))
   (.seq (.reg [⟨some 46, .mv, [.slot 1], none⟩,
     ⟨some 47, .call 11, [.slot 1], none⟩,
     ⟨some 45, .mv, [.slot 47], none⟩,
     ⟨some 48, .ext 0, [.slot 47], none⟩,
     ⟨some 49, .ext 1, [.slot 47], none⟩,
     ⟨some 10, .give, [.slot 48], none⟩,
     ⟨some 11, .give, [.slot 49], none⟩])
   (.seq (.reg [⟨some 50, .mv, [.slot 5], none⟩,
     ⟨some 51, .mv, [.slot 5], none⟩,
     ⟨some 52, .take, [.slot 11], some (51, true)⟩,
     ⟨some 53, .take, [.slot 52], some (51, true)⟩,
     ⟨some 54, .take, [.slot 10], some (53, true)⟩,
     ⟨some 55, .call 14, [.slot 54], some (53, true)⟩,
     ⟨some 56, .take, [.slot 1], some (53, true)⟩,
     ⟨some 57, .call 13, [.slot 55, .slot 56], some (53, true)⟩,
     ⟨some 58, .pick, [.slot 53, .slot 57, .lit (.bool false)], some (51, true)⟩,
     ⟨some 59, .take, [.slot 58], some (51, true)⟩,
     ⟨some 60, .take, [.slot 11], some (59, false)⟩,
     ⟨some 61, .un .not, [.slot 60], some (59, false)⟩,
     ⟨some 62, .take, [.slot 61], some (59, false)⟩,
     ⟨some 63, .take, [.slot 10], some (62, true)⟩,
     ⟨some 64, .bin .eql, [.slot 63, .lit (.str [])], some (62, true)⟩,
     ⟨some 65, .pick, [.slot 62, .slot 64, .lit (.bool false)], some (59, false)⟩,
     ⟨some 66, .pick, [.slot 59, .lit (.bool true), .slot 65], some (51, true)⟩,
     ⟨some 67, .pick, [.slot 5, .slot 66, .lit (.bool false)], none⟩,
     ⟨some 4, .give, [.slot 67], none⟩])
   (.ret)))))))))),
  68, [.tmp 4]⟩
theorem c4 : cFunc Proofs.Try.prog 4 = some sf4 := by kernel_rfl
/-- carpetbag/carpetbaglaw08.ChunkLabels -/
def sf5 : SF := ⟨(.seq (.reg [⟨some 2, .box, [.slot 0], none⟩,
     ⟨some 3, .box, [.slot 1], none⟩,
     ⟨some 4, .give, [.lit (.bool false)], none⟩])
   (.seq (.reg [⟨some 7, .call 9, [], none⟩,
     ⟨some 5, .give, [.slot 7], none⟩])
   (.seq (.seq (.reg [⟨some 6, .take, [.lit (.int .i64 0)], none⟩])
    (.block 0 (.loop (.seq (.seq (.reg [⟨some 8, .mv, [.slot 6], none⟩,
         ⟨some 9, .bin .lss, [.slot 6, .lit (.int .i64 3)], none⟩])
       (.cond (.slot 9) (.skip)
       (.exit 0)))
      (.seq (.block 1 (.seq (.reg [⟨some 12, .mv, [.slot 6], none⟩,
          ⟨some 13, .idxP 1 3, [.slot 2, .slot 6], none⟩,
          ⟨some 14, .load 1 false, [.slot 13], none⟩,
          ⟨some 15, .bin .lss, [.slot 14, .lit (.int .i64 0)], none⟩,
          ⟨some 16, .mv, [.slot 15], none⟩,
          ⟨some 17, .take, [.slot 6], some (16, false)⟩,
          ⟨some 18, .idxP 1 3, [.slot 3, .slot 17], some (16, false)⟩,
          ⟨some 19, .load 1 false, [.slot 18], some (16, false)⟩,
          ⟨some 20, .bin .lss, [.slot 19, .lit (.int .i64 0)], some (16, false)⟩,
          ⟨some 21, .pick, [.slot 15, .lit (.bool true), .slot 20], none⟩,
          ⟨some 22, .mv, [.slot 21], none⟩,
          ⟨some 23, .take, [.slot 6], some (22, false)⟩,
          ⟨some 24, .idxP 1 3, [.slot 2, .slot 23], some (22, false)⟩,
          ⟨some 25, .load 1 false, [.slot 24], some (22, false)⟩,
          ⟨some 26, .bin .gtr, [.slot 25, .lit (.int .i64 4294967295)], some (22, false)⟩,
          ⟨some 27, .pick, [.slot 21, .lit (.bool true), .slot 26], none⟩,
          ⟨some 28, .mv, [.slot 27], none⟩,
          ⟨some 29, .take, [.slot 6], some (28, false)⟩,
          ⟨some 30, .idxP 1 3, [.slot 3, .slot 29], some (28, false)⟩,
          ⟨some 31, .load 1 false, [.slot 30], some (28, false)⟩,
          ⟨some 32, .bin .gtr, [.slot 31, .lit (.int .i64 4294967295)], some (28, false)⟩,
          ⟨some 33, .pick, [.slot 27, .lit (.bool true), .slot 32], none⟩])
        (.cond (.slot 33) (.seq (.reg [⟨some 34, .mv, [.slot 5], none⟩,
           ⟨some 4, .give, [.slot 5], none⟩])
         (.ret))
        (.skip))))
      (.reg [⟨some 10, .mv, [.slot 6], none⟩,
       ⟨some 11, .bin .add, [.slot 6, .lit (.int .i64 1)], none⟩,
       ⟨some 6, .give, [.slot 11], none⟩]))))))
   (.seq (.reg [⟨some 35, .mv, [.slot 5], none⟩,
       ⟨some 36, .mv, [.slot 5], none⟩,
       ⟨some 37, .idxP 1 3, [.slot 2, .lit (.int .i64 0)], some (36, true)⟩,
       ⟨some 38, .load 1 false, [.slot 37], some (36, true)⟩,
       ⟨some 39, .idxP 1 3, [.slot 2, .lit (.int .i64 1)], some (36, true)⟩,
       ⟨some 40, .load 1 false, [.slot 39], some (36, true)⟩,
       ⟨some 41, .idxP 1 3, [.slot 2, .lit (.int .i64 2)], some (36, true)⟩,
       ⟨some 42, .load 1 false, [.slot 41], some (36, true)⟩,
       ⟨some 43, .callp 18, [.slot 38, .slot 40, .slot 42], some (36, true)⟩,
       ⟨some 44, .idxP 1 3, [.slot 3, .lit (.int .i64 0)], some (36, true)⟩,
       ⟨some 45, .load 1 false, [.slot 44], some (36, true)⟩,
       ⟨some 46, .idxP 1 3, [.slot 3, .lit (.int .i64 1)], some (36, true)⟩,
       ⟨some 47, .load 1 false, [.slot 46], some (36, true)⟩,
       ⟨some 48, .idxP 1 3, [.slot 3, .lit (.int .i64 2)], some (36, true)⟩,
       ⟨some 49, .load 1 false, [.slot 48], some (36, true)⟩,
       ⟨some 50, .callp 18, [.slot 45, .slot 47, .slot 49], some (36, true)⟩,
       ⟨some 51, .bin .eql, [.slot 43, .slot 50], some (36, true)⟩,
       ⟨some 52, .load 3 true, [.slot 2], some (36, true)⟩,
       ⟨some 53, .load 3 true, [.slot 3], some (36, true)⟩,
       ⟨some 54, .eqA false [.i, .i, .i], [.slot 52, .slot 53], some (36, true)⟩,
       ⟨some 55, .eqB false, [.slot 51, .slot 54], some (36, true)⟩,
       ⟨some 56, .pick, [.slot 35, .slot 55, .lit (.bool false)], none⟩,
       ⟨some 4, .give, [.slot 56], none⟩])
   (.ret))))),
  57, [.tmp 4]⟩
theorem c5 : cFunc Proofs.Try.prog 5 = some sf5 := by kernel_rfl
/-- carpetbag/carpetbaglaw08.ChunkMore -/
def sf6 : SF := ⟨(.seq (.reg [⟨some 4, .give, [.lit (.bool false)], none⟩])
   (.seq (.reg [⟨some 10, .call 9, [], none⟩,
     ⟨some 5, .give, [.slot 10], none⟩])
   (.seq (.seq (.reg [⟨some 11, .mv, [.slot 0], none⟩,
      ⟨some 12, .lenS, [.slot 0], none⟩,
      ⟨some 13, .bin .gtr, [.slot 12, .lit (.int .i64 3000)], none⟩,
      ⟨some 14, .mv, [.slot 13], none⟩,
      ⟨some 15, .take, [.slot 1], some (14, false)⟩,
      ⟨some 16, .lenS, [.slot 15], some (14, false)⟩,
      ⟨some 17, .bin .gtr, [.slot 16, .lit (.int .i64 3000)], some (14, false)⟩,
      ⟨some 18, .pick, [.slot 13, .lit (.bool true), .slot 17], none⟩])
    (.cond (.slot 18) (.seq (.reg [⟨some 19, .mv, [.slot 5], none⟩,
       ⟨some 4, .give, [.slot 5], none⟩])
     (.ret))
    (.skip)))
   (.seq (.reg [⟨some 20, .mv, [.slot 0], none⟩,
     ⟨some 21, .lenS, [.slot 0], none⟩,
     ⟨some 22, .bin .quo, [.slot 21, .lit (.int .i64 64)], none⟩,
     ⟨some 23, .bin .mul, [.slot 22, .lit (.int .i64 64)], none⟩,
     ⟨some 6, .give, [.slot 23], none⟩])
   (.seq (.reg [⟨some 24, .mv, [.slot 0], none⟩,
     ⟨some 25, .mv, [.slot 6], none⟩,
     ⟨some 26, .slcS false true, [.slot 0, .slot 6], none⟩,
     ⟨some 27, .call 14, [.slot 26], none⟩,
     ⟨some 7, .give, [.slot 27], none⟩])
   (.seq (.reg [⟨some 28, .mv, [.slot 1], none⟩,
     ⟨some 29, .call 14, [.slot 1], none⟩,
     ⟨some 8, .give, [.slot 29], none⟩])
   (.seq (.reg [⟨some 30, .mv, [.slot 0], none⟩,
     ⟨some 31, .mv, [.slot 6], none⟩,
     ⟨some 32, .slcS false true, [.slot 0, .slot 6], none⟩,
     ⟨some 33, .mv, [.slot 1], none⟩,
     ⟨some 34, .bin .add, [.slot 32, .slot 1], none⟩,
     ⟨some 35, .call 14, [.slot 34], none⟩,
     ⟨some 9, .give, [.slot 35], none⟩])
   (.seq (.reg [⟨some 36, .mv, [.slot 5], none⟩,
     ⟨some 37, .mv, [.slot 5], none⟩,
     ⟨some 38, .take, [.slot 9], some (37, true)⟩,
     ⟨some 39, .bsl 1 0 [.str []] [], [], some (37, true)⟩,
     ⟨some 40, .take, [.slot 7], some (37, true)⟩,
     ⟨some 41, .app 1 16 [.str []], [.slot 39, .slot 40], some (37, true)⟩,
     ⟨some 42, .take, [.slot 8], some (37, true)⟩,
     ⟨some 43, .app 1 16 [.str []], [.slot 41, .slot 42], some (37, true)⟩,
     ⟨some 44, .call 13, [.slot 38, .slot 43], some (37, true)⟩,
     ⟨some 45, .pick, [.slot 5, .slot 44, .lit (.bool false)], none⟩,
     ⟨some 46, .mv, [.slot 45], none⟩,
     ⟨some 47, .take, [.slot 7], some (46, true)⟩,
     ⟨some 48, .lenL, [.slot 47], some (46, true)⟩,
     ⟨some 49, .take, [.slot 6], some (46, true)⟩,
     ⟨some 50, .bin .quo, [.slot 49, .lit (.int .i64 64)], some (46, true)⟩,
     ⟨some 51, .bin .eql, [.slot 48, .slot 50], some (46, true)⟩,
     ⟨some 52, .pick, [.slot 45, .slot 51, .lit (.bool false)], none⟩,
     ⟨some 53, .mv, [.slot 52], none⟩,
     ⟨some 54, .take, [.slot 6], some (53, true)⟩,
     ⟨some 55, .take, [.slot 1], some (53, true)⟩,
     ⟨some 56, .lenS, [.slot 55], some (53, true)⟩,
     ⟨some 57, .bin .add, [.slot 54, .slot 56], some (53, true)⟩,
     ⟨some 58, .call 16, [.slot 57], some (53, true)⟩,
     ⟨some 59, .take, [.slot 6], some (53, true)⟩,
     ⟨some 60, .call 16, [.slot 59], some (53, true)⟩,
     ⟨some 61, .take, [.slot 1], some (53, true)⟩,
     ⟨some 62, .lenS, [.slot 61], some (53, true)⟩,
     ⟨some 63, .call 16, [.slot 62], some (53, true)⟩,
     ⟨some 64, .bin .add, [.slot 60, .slot 63], some (53, true)⟩,
     ⟨some 65, .bin .eql, [.slot 58, .slot 64], some (53, true)⟩,
     ⟨some 66, .pick, [.slot 52, .slot 65, .lit (.bool false)], none⟩,
     ⟨some 4, .give, [.slot 66], none⟩])
   (.ret))))))))),
  67, [.tmp 4]⟩
theorem c6 : cFunc Proofs.Try.prog 6 = some sf6 := by kernel_rfl
/-- carpetbag/carpetbaglaw08.ChunkSizes -/
def sf7 : SF := ⟨(.seq (.reg [⟨some 2, .give, [.lit (.bool false)], none⟩])
   (.seq (.reg [⟨some 7, .call 9, [], none⟩,
     ⟨some 3, .give, [.slot 7], none⟩])
   (.seq (.seq (.reg [⟨some 8, .mv, [.slot 0], none⟩,
      ⟨some 9, .lenS, [.slot 0], none⟩,
      ⟨some 10, .bin .gtr, [.slot 9, .lit (.int .i64 5000)], none⟩])
    (.cond (.slot 10) (.seq (.reg [⟨some 11, .mv, [.slot 3], none⟩,
       ⟨some 2, .give, [.slot 3], none⟩])
     (.ret))
    (.skip)))
   (.seq (.reg [⟨some 12, .mv, [.slot 0], none⟩,
     ⟨some 13, .call 14, [.slot 0], none⟩,
     ⟨some 4, .give, [.slot 13], none⟩])
   (.seq (.reg [⟨some 5, .take, [.lit (.int .i64 0)], none⟩])
   (.seq (.seq (.reg [⟨some 6, .take, [.lit (.int .i64 0)], none⟩])
    (.block 0 (.loop (.seq (.seq (.reg [⟨some 14, .mv, [.slot 6], none⟩,
         ⟨some 15, .mv, [.slot 4], none⟩,
         ⟨some 16, .lenL, [.slot 4], none⟩,
         ⟨some 17, .bin .lss, [.slot 6, .slot 16], none⟩])
       (.cond (.slot 17) (.skip)
       (.exit 0)))
      (.seq (.block 1 (.seq (.seq (.reg [⟨some 20, .mv, [.slot 4], none⟩,
           ⟨some 21, .mv, [.slot 6], none⟩,
           ⟨some 22, .idxB 1, [.slot 4, .slot 6], none⟩,
           ⟨some 23, .load 1 false, [.slot 22], none⟩,
           ⟨some 24, .lenS, [.slot 23], none⟩,
           ⟨some 25, .bin .lss, [.slot 24, .lit (.int .i64 1)], none⟩,
           ⟨some 26, .mv, [.slot 25], none⟩,
           ⟨some 27, .take, [.slot 4], some (26, false)⟩,
           ⟨some 28, .take, [.slot 6], some (26, false)⟩,
           ⟨some 29, .idxB 1, [.slot 27, .slot 28], some (26, false)⟩,
           ⟨some 30, .load 1 false, [.slot 29], some (26, false)⟩,
           ⟨some 31, .lenS, [.slot 30], some (26, false)⟩,
           ⟨some 32, .bin .gtr, [.slot 31, .lit (.int .i64 64)], some (26, false)⟩,
           ⟨some 33, .pick, [.slot 25, .lit (.bool true), .slot 32], none⟩,
           ⟨some 34, .mv, [.slot 33], none⟩,
           ⟨some 35, .take, [.slot 6], some (34, false)⟩,
           ⟨some 36, .take, [.slot 4], some (34, false)⟩,
           ⟨some 37, .lenL, [.slot 36], some (34, false)⟩,
           ⟨some 38, .bin .sub, [.slot 37, .lit (.int .i64 1)], some (34, false)⟩,
           ⟨some 39, .bin .lss, [.slot 35, .slot 38], some (34, false)⟩,
           ⟨some 40, .take, [.slot 39], some (34, false)⟩,
           ⟨some 41, .take, [.slot 4], some (40, true)⟩,
           ⟨some 42, .take, [.slot 6], some (40, true)⟩,
           ⟨some 43, .idxB 1, [.slot 41, .slot 42], some (40, true)⟩,
           ⟨some 44, .load 1 false, [.slot 43], some (40, true)⟩,
           ⟨some 45, .lenS, [.slot 44], some (40, true)⟩,
           ⟨some 46, .bin .neq, [.slot 45, .lit (.int .i64 64)], some (40, true)⟩,
           ⟨some 47, .pick, [.slot 40, .slot 46, .lit (.bool false)], some (34, false)⟩,
           ⟨some 48, .pick, [.slot 33, .lit (.bool true), .slot 47], none⟩])
         (.cond (.slot 48) (.seq (.reg [⟨some 2, .give, [.lit (.bool false)], none⟩])
          (.ret))
         (.skip)))
        (.reg [⟨some 49, .mv, [.slot 5], none⟩,
         ⟨some 50, .mv, [.slot 4], none⟩,
         ⟨some 51, .mv, [.slot 6], none⟩,
         ⟨some 52, .idxB 1, [.slot 4, .slot 6], none⟩,
         ⟨some 53, .load 1 false, [.slot 52], none⟩,
         ⟨some 54, .lenS, [.slot 53], none⟩,
         ⟨some 55, .bin .add, [.slot 5, .slot 54], none⟩,
         ⟨some 5, .give, [.slot 55], none⟩])))
      (.reg [⟨some 18, .mv, [.slot 6], none⟩,
       ⟨some 19, .bin .add, [.slot 6, .lit (.int .i64 1)], none⟩,
       ⟨some 6, .give, [.slot 19], none⟩]))))))
   (.seq (.reg [⟨some 56, .mv, [.slot 3], none⟩,
     ⟨some 57, .mv, [.slot 3], none⟩,
     ⟨some 58, .take, [.slot 5], some (57, true)⟩,
     ⟨some 59, .take, [.slot 0], some (57, true)⟩,
     ⟨some 60, .lenS, [.slot 59], some (57, true)⟩,
     ⟨some 61, .bin .eql, [.slot 58, .slot 60], some (57, true)⟩,
     ⟨some 62, .pick, [.slot 3, .slot 61, .lit (.bool false)], none⟩,
     ⟨some 2, .give, [.slot 62], none⟩])
   (.ret)))))))),
  63, [.tmp 2]⟩
theorem c7 : cFunc Proofs.Try.prog 7 = some sf7 := by kernel_rfl
/-- carpetbag/carpetbaglaw08.ChunkNone -/
def sf8 : SF := ⟨(.seq (.reg [⟨some 6, .give, [.lit (.bool false)], none⟩])
   (.seq (.reg [⟨some 13, .call 9, [], none⟩,
     ⟨some 7, .give, [.slot 13], none⟩])
   (.seq (.reg [⟨some 14, .mv, [.slot 0], none⟩,
     ⟨some 15, .call 14, [.slot 0], none⟩,
     ⟨some 8, .give, [.slot 15], none⟩])
   (.seq (.seq (.reg [⟨some 16, .mv, [.slot 0], none⟩,
      ⟨some 17, .lenS, [.slot 0], none⟩,
      ⟨some 18, .bin .gtr, [.slot 17, .lit (.int .i64 5000)], none⟩,
      ⟨some 19, .mv, [.slot 18], none⟩,
      ⟨some 20, .take, [.slot 2], some (19, false)⟩,
      ⟨some 21, .lenS, [.slot 20], some (19, false)⟩,
      ⟨some 22, .bin .gtr, [.slot 21, .lit (.int .i64 100)], some (19, false)⟩,
      ⟨some 23, .pick, [.slot 18, .lit (.bool true), .slot 22], none⟩,
      ⟨some 24, .mv, [.slot 23], none⟩,
      ⟨some 25, .take, [.slot 1], some (24, false)⟩,
      ⟨some 26, .bin .lss, [.slot 25, .lit (.int .i64 0)], some (24, false)⟩,
      ⟨some 27, .pick, [.slot 23, .lit (.bool true), .slot 26], none⟩,
      ⟨some 28, .mv, [.slot 27], none⟩,
      ⟨some 29, .take, [.slot 1], some (28, false)⟩,
      ⟨some 30, .take, [.slot 8], some (28, false)⟩,
      ⟨some 31, .lenL, [.slot 30], some (28, false)⟩,
      ⟨some 32, .bin .geq, [.slot 29, .slot 31], some (28, false)⟩,
      ⟨some 33, .pick, [.slot 27, .lit (.bool true), .slot 32], none⟩])
    (.cond (.slot 33) (.seq (.reg [⟨some 34, .mv, [.slot 7], none⟩,
       ⟨some 6, .give, [.slot 7], none⟩])
     (.ret))
    (.skip)))
   (.seq (.reg [⟨some 35, .bsl 1 0 [.str []] [], [], none⟩,
     ⟨some 36, .mv, [.slot 8], none⟩,
     ⟨some 37, .app 1 16 [.str []], [.slot 35, .slot 8], none⟩,
     ⟨some 9, .giveO, [.slot 37], none⟩])
   (.seq (.reg [⟨some 38, .mv, [.slot 9], none⟩,
     ⟨some 39, .mv, [.slot 1], none⟩,
     ⟨some 40, .mv, [.slot 2], none⟩,
     ⟨some 41, .idxB 1, [.slot 9, .slot 1], none⟩,
     ⟨none, .store 1 false, [.slot 41, .slot 2], none⟩])
   (.seq (.reg [⟨some 43, .mv, [.slot 9], none⟩,
     ⟨some 44, .call 11, [.slot 9], none⟩,
     ⟨some 42, .mv, [.slot 44], none⟩,
     ⟨some 45, .ext 0, [.slot 44], none⟩,
     ⟨some 46, .ext 1, [.slot 44], none⟩,
     ⟨some 10, .give, [.slot 45], none⟩,
     ⟨some 11, .give, [.slot 46], none⟩])
   (.seq (.reg [⟨some 47, .mv, [.slot 2], none⟩,
     ⟨some 48, .lenS, [.slot 2], none⟩,
     ⟨some 49, .bin .eql, [.slot 48, .lit (.int .i64 64)], none⟩,
     ⟨some 50, .mv, [.slot 49], none⟩,
     ⟨some 51, .take, [.slot 1], some (50, false)⟩,
     ⟨some 52, .take, [.slot 8], some (50, false)⟩,
     ⟨some 53, .lenL, [.slot 52], some (50, false)⟩,
     ⟨some 54, .bin .sub, [.slot 53, .lit (.int .i64 1)], some (50, false)⟩,
     ⟨some 55, .bin .eql, [.slot 51, .slot 54], some (50, false)⟩,
     ⟨some 56, .take, [.slot 55], some (50, false)⟩,
     ⟨some 57, .take, [.slot 2], some (56, true)⟩,
     ⟨some 58, .lenS, [.slot 57], some (56, true)⟩,
     ⟨some 59, .bin .geq, [.slot 58, .lit (.int .i64 1)], some (56, true)⟩,
     ⟨some 60, .pick, [.slot 56, .slot 59, .lit (.bool false)], some (50, false)⟩,
     ⟨some 61, .take, [.slot 60], some (50, false)⟩,
     ⟨some 62, .take, [.slot 2], some (61, true)⟩,
     ⟨some 63, .lenS, [.slot 62], some (61, true)⟩,
     ⟨some 64, .bin .leq, [.slot 63, .lit (.int .i64 64)], some (61, true)⟩,
     ⟨some 65, .pick, [.slot 61, .slot 64, .lit (.bool false)], some (50, false)⟩,
     ⟨some 66, .pick, [.slot 49, .lit (.bool true), .slot 65], none⟩,
     ⟨some 12, .give, [.slot 66], none⟩])
   (.seq (.reg [⟨some 67, .mv, [.slot 7], none⟩,
     ⟨some 68, .mv, [.slot 7], none⟩,
     ⟨some 69, .take, [.slot 11], some (68, true)⟩,
     ⟨some 70, .take, [.slot 12], some (68, true)⟩,
     ⟨some 71, .eqB false, [.slot 69, .slot 70], some (68, true)⟩,
     ⟨some 72, .pick, [.slot 7, .slot 71, .lit (.bool false)], none⟩,
     ⟨some 73, .mv, [.slot 72], none⟩,
     ⟨some 74, .take, [.slot 11], some (73, true)⟩,
     ⟨some 75, .take, [.slot 74], some (73, true)⟩,
     ⟨some 76, .take, [.slot 10], some (75, false)⟩,
     ⟨some 77, .bin .eql, [.slot 76, .lit (.str [])], some (75, false)⟩,
     ⟨some 78, .pick, [.slot 75, .lit (.bool true), .slot 77], some (73, true)⟩,
     ⟨some 79, .pick, [.slot 72, .slot 78, .lit (.bool false)], none⟩,
     ⟨some 6, .give, [.slot 79], none⟩])
   (.ret)))))))))),
  80, [.tmp 6]⟩
theorem c8 : cFunc Proofs.Try.prog 8 = some sf8 := by kernel_rfl
/-- carpetbag/carpetbaglaw08.small -/
def sf9 : SF := ⟨(.seq (.reg [⟨some 0, .give, [.lit (.bool false)], none⟩])
   (.seq (.reg [⟨some 11, .mkS 1 1 [.int .u8 0], [.lit (.int .i64 64), .lit (.int .i64 64)], none⟩,
     ⟨some 12, .b2s, [.slot 11], none⟩,
     ⟨some 13, .bin .add, [.slot 12, .lit (.str [97])], none⟩,
     ⟨some 1, .give, [.slot 13], none⟩])
   (.seq (.reg [⟨some 14, .mv, [.slot 1], none⟩,
     ⟨some 15, .call 14, [.slot 1], none⟩,
     ⟨some 2, .give, [.slot 15], none⟩])
   (.seq (.seq (.reg [⟨some 16, .mv, [.slot 2], none⟩,
      ⟨some 17, .lenL, [.slot 2], none⟩,
      ⟨some 18, .bin .neq, [.slot 17, .lit (.int .i64 2)], none⟩])
    (.cond (.slot 18) (.seq (.reg [⟨some 0, .give, [.lit (.bool false)], none⟩])
     (.ret))
    (.skip)))
   (.seq (.reg [⟨some 20, .mv, [.slot 2], none⟩,
     ⟨some 21, .call 11, [.slot 2], none⟩,
     ⟨some 19, .mv, [.slot 21], none⟩,
     ⟨some 22, .ext 0, [.slot 21], none⟩,
     ⟨some 23, .ext 1, [.slot 21], none⟩,
     ⟨some 3, .give, [.slot 22], none⟩,
     ⟨some 4, .give, [.slot 23], none⟩])
   (.seq (.reg [⟨some 25, .bsl 1 2 [.str []] [0, 1], [.lit (.str [97]), .lit (.str [98])], none⟩,
     ⟨some 26, .call 11, [.slot 25], none⟩,
     ⟨some 24, .mv, [.slot 26], none⟩,
     ⟨some 27, .ext 0, [.slot 26], none⟩,
     ⟨some 28, .ext 1, [.slot 26], none⟩,
     ⟨some 5, .give, [.slot 27], none⟩,
     ⟨some 6, .give, [.slot 28], none⟩])
   (.seq (.reg [⟨some 30, .bsl 1 1 [.str []] [0], [.lit (.str [])], none⟩,
     ⟨some 31, .call 11, [.slot 30], none⟩,
     ⟨some 29, .mv, [.slot 31], none⟩,
     ⟨some 32, .ext 0, [.slot 31], none⟩,
     ⟨some 33, .ext 1, [.slot 31], none⟩,
     ⟨some 7, .give, [.slot 32], none⟩,
     ⟨some 8, .give, [.slot 33], none⟩])
   (.seq (.reg [⟨some 35, .call 11, [.lit (.nilS)], none⟩,
     ⟨some 34, .mv, [.slot 35], none⟩,
     ⟨some 36, .ext 0, [.slot 35], none⟩,
     ⟨some 37, .ext 1, [.slot 35], none⟩,
     ⟨some 9, .give, [.slot 36], none⟩,
     ⟨some 10, .give, [.slot 37], none⟩])
   (.seq (.reg [⟨some 38, .mv, [.slot 2], none⟩,
     ⟨some 39, .idxB 1, [.slot 2, .lit (.int .i64 1)], none⟩,
     ⟨some 40, .load 1 false, [.slot 39], none⟩,
     ⟨some 41, .bin .eql, [.slot 40, .lit (.str [97])], none⟩,
     ⟨some 42, .mv, [.slot 41], none⟩,
     ⟨some 43, .take, [.slot 4], some (42, true)⟩,
     ⟨some 44, .pick, [.slot 41, .slot 43, .lit (.bool false)], none⟩,
     ⟨some 45, .mv, [.slot 44], none⟩,
     ⟨some 46, .take, [.slot 3], some (45, true)⟩,
     ⟨some 47, .take, [.slot 1], some (45, true)⟩,
     ⟨some 48, .bin .eql, [.slot 46, .slot 47], some (45, true)⟩,
     ⟨some 49, .pick, [.slot 44, .slot 48, .lit (.bool false)], none⟩,
     ⟨some 50, .mv, [.slot 49], none⟩,
     ⟨some 51, .take, [.slot 6], some (50, true)⟩,
     ⟨some 52, .un .not, [.slot 51], some (50, true)⟩,
     ⟨some 53, .pick, [.slot 49, .slot 52, .lit (.bool false)], none⟩,
     ⟨some 54, .mv, [.slot 53], none⟩,
     ⟨some 55, .take, [.slot 8], some (54, true)⟩,
     ⟨some 56, .un .not, [.slot 55], some (54, true)⟩,
     ⟨some 57, .pick, [.slot 53, .slot 56, .lit (.bool false)], none⟩,
     ⟨some 58, .mv, [.slot 57], none⟩,
     ⟨some 59, .take, [.slot 9], some (58, true)⟩,
     ⟨some 60, .bin .eql, [.slot 59, .lit (.str [])], some (58, true)⟩,
     ⟨some 61, .pick, [.slot 57, .slot 60, .lit (.bool false)], none⟩,
     ⟨some 62, .mv, [.slot 61], none⟩,
     ⟨some 63, .take, [.slot 10], some (62, true)⟩,
     ⟨some 64, .pick, [.slot 61, .slot 63, .lit (.bool false)], none⟩,
     ⟨some 65, .mv, [.slot 64], none⟩,
     ⟨some 66, .call 16, [.lit (.int .i64 64)], some (65, true)⟩,
     ⟨some 67, .bin .eql, [.slot 66, .lit (.int .i64 1)], some (65, true)⟩,
     ⟨some 68, .pick, [.slot 64, .slot 67, .lit (.bool false)], none⟩,
     ⟨some 69, .mv, [.slot 68], none⟩,
     ⟨some 70, .call 16, [.lit (.int .i64 65)], some (69, true)⟩,
     ⟨some 71, .bin .eql, [.slot 70, .lit (.int .i64 2)], some (69, true)⟩,
     ⟨some 72, .pick, [.slot 68, .slot 71, .lit (.bool false)], none⟩,
     ⟨some 73, .mv, [.slot 72], none⟩,
     ⟨some 74, .call 16, [.lit (.int .i64 0)], some (73, true)⟩,
     ⟨some 75, .bin .eql, [.slot 74, .lit (.int .i64 0)], some (73, true)⟩,
     ⟨some 76, .pick, [.slot 72, .slot 75, .lit (.bool false)], none⟩,
     ⟨some 77, .mv, [.slot 76], none⟩,
     ⟨some 78, .call 18, [.lit (.int .i64 1), .lit (.int .i64 2), .lit (.int .i64 3)], some (77, true)⟩,
     ⟨some 79, .bin .eql, [.slot 78, .lit (.str [0, 0, 0, 1, 0, 0, 0, 2, 0, 0, 0, 3])], some (77, true)⟩,
     ⟨some 80, .pick, [.slot 76, .slot 79, .lit (.bool false)], none⟩,
     ⟨some 0, .give, [.slot 80], none⟩])
   (.ret)))))))))),
  81, [.tmp 0]⟩
theorem c9 : cFunc Proofs.Try.prog 9 = some sf9 := by kernel_rfl
/-- carpetbag/carpetbaglaw08.few -/
def sf10 : SF := ⟨(.seq (.reg [⟨some 2, .give, [.lit (.bool false)], none⟩])
   (.seq (.reg [⟨some 3, .take, [.lit (.int .i64 0)], none⟩])
   (.seq (.seq (.reg [⟨some 4, .take, [.lit (.int .i64 0)], none⟩])
    (.block 0 (.loop (.seq (.seq (.reg [⟨some 5, .mv, [.slot 4], none⟩,
         ⟨some 6, .mv, [.slot 0], none⟩,
         ⟨some 7, .lenL, [.slot 0], none⟩,
         ⟨some 8, .bin .lss, [.slot 4, .slot 7], none⟩])
       (.cond (.slot 8) (.skip)
       (.exit 0)))
      (.seq (.block 1 (.reg [⟨some 11, .mv, [.slot 3], none⟩,
         ⟨some 12, .mv, [.slot 0], none⟩,
         ⟨some 13, .mv, [.slot 4], none⟩,
         ⟨some 14, .idxB 1, [.slot 0, .slot 4], none⟩,
         ⟨some 15, .load 1 false, [.slot 14], none⟩,
         ⟨some 16, .lenS, [.slot 15], none⟩,
         ⟨some 17, .bin .add, [.slot 3, .slot 16], none⟩,
         ⟨some 3, .give, [.slot 17], none⟩]))
      (.reg [⟨some 9, .mv, [.slot 4], none⟩,
       ⟨some 10, .bin .add, [.slot 4, .lit (.int .i64 1)], none⟩,
       ⟨some 4, .give, [.slot 10], none⟩]))))))
   (.seq (.reg [⟨some 18, .mv, [.slot 0], none⟩,
     ⟨some 19, .lenL, [.slot 0], none⟩,
     ⟨some 20, .bin .leq, [.slot 19, .lit (.int .i64 100)], none⟩,
     ⟨some 21, .mv, [.slot 20], none⟩,
     ⟨some 22, .take, [.slot 3], some (21, true)⟩,
     ⟨some 23, .bin .leq, [.slot 22, .lit (.int .i64 8000)], some (21, true)⟩,
     ⟨some 24, .pick, [.slot 20, .slot 23, .lit (.bool false)], none⟩,
     ⟨some 2, .give, [.slot 24], none⟩])
   (.ret))))),
  25, [.tmp 2]⟩
theorem c10 : cFunc Proofs.Try.prog 10 = some sf10 := by kernel_rfl
/-- carpetbag/carpetbagref08.Join -/
def sf12 : SF := ⟨(.seq (.reg [⟨some 2, .give, [.lit (.str [])], none⟩,
     ⟨some 3, .give, [.lit (.bool false)], none⟩])
   (.seq (.reg [⟨some 4, .take, [.lit (.str [])], none⟩])
   (.seq (.seq (.reg [⟨some 5, .take, [.lit (.int .i64 0)], none⟩])
    (.block 0 (.loop (.seq (.seq (.reg [⟨some 6, .mv, [.slot 5], none⟩,
         ⟨some 7, .mv, [.slot 0], none⟩,
         ⟨some 8, .lenL, [.slot 0], none⟩,
         ⟨some 9, .bin .lss, [.slot 5, .slot 8], none⟩])
       (.cond (.slot 9) (.skip)
       (.exit 0)))
      (.seq (.block 1 (.seq (.seq (.reg [⟨some 12, .mv, [.slot 5], none⟩,
           ⟨some 13, .mv, [.slot 0], none⟩,
           ⟨some 14, .lenL, [.slot 0], none⟩,
           ⟨some 15, .bin .sub, [.slot 14, .lit (.int .i64 1)], none⟩,
           ⟨some 16, .bin .lss, [.slot 5, .slot 15], none⟩,
           ⟨some 17, .mv, [.slot 16], none⟩,
           ⟨some 18, .take, [.slot 0], some (17, true)⟩,
           ⟨some 19, .take, [.slot 5], some (17, true)⟩,
           ⟨some 20, .idxB 1, [.slot 18, .slot 19], some (17, true)⟩,
           ⟨some 21, .load 1 false, [.slot 20], some (17, true)⟩,
           ⟨some 22, .lenS, [.slot 21], some (17, true)⟩,
           ⟨some 23, .bin .neq, [.slot 22, .lit (.int .i64 64)], some (17, true)⟩,
           ⟨some 24, .pick, [.slot 16, .slot 23, .lit (.bool false)], none⟩,
           ⟨some 25, .mv, [.slot 24], none⟩,
           ⟨some 26, .take, [.slot 0], some (25, false)⟩,
           ⟨some 27, .take, [.slot 5], some (25, false)⟩,
           ⟨some 28, .idxB 1, [.slot 26, .slot 27], some (25, false)⟩,
           ⟨some 29, .load 1 false, [.slot 28], some (25, false)⟩,
           ⟨some 30, .lenS, [.slot 29], some (25, false)⟩,
           ⟨some 31, .bin .lss, [.slot 30, .lit (.int .i64 1)], some (25, false)⟩,
           ⟨some 32, .pick, [.slot 24, .lit (.bool true), .slot 31], none⟩,
           ⟨some 33, .mv, [.slot 32], none⟩,
           ⟨some 34, .take, [.slot 0], some (33, false)⟩,
           ⟨some 35, .take, [.slot 5], some (33, false)⟩,
           ⟨some 36, .idxB 1, [.slot 34, .slot 35], some (33, false)⟩,
           ⟨some 37, .load 1 false, [.slot 36], some (33, false)⟩,
           ⟨some 38, .lenS, [.slot 37], some (33, false)⟩,
           ⟨some 39, .bin .gtr, [.slot 38, .lit (.int .i64 64)], some (33, false)⟩,
           ⟨some 40, .pick, [.slot 32, .lit (.bool true), .slot 39], none⟩])
         (.cond (.slot 40) (.seq (.reg [⟨some 2, .give, [.lit (.str [])], none⟩,
            ⟨some 3, .give, [.lit (.bool false)], none⟩])
          (.ret))
         (.skip)))
        (.reg [⟨some 41, .mv, [.slot 4], none⟩,
         ⟨some 42, .mv, [.slot 0], none⟩,
         ⟨some 43, .mv, [.slot 5], none⟩,
         ⟨some 44, .idxB 1, [.slot 0, .slot 5], none⟩,
         ⟨some 45, .load 1 false, [.slot 44], none⟩,
         ⟨some 46, .bin .add, [.slot 4, .slot 45], none⟩,
         ⟨some 4, .give, [.slot 46], none⟩])))
      (.reg [⟨some 10, .mv, [.slot 5], none⟩,
       ⟨some 11, .bin .add, [.slot 5, .lit (.int .i64 1)], none⟩,
       ⟨some 5, .give, [.slot 11], none⟩]))))))
   (.seq (.reg [⟨some 47, .mv, [.slot 4], none⟩,
     ⟨some 2, .give, [.slot 4], none⟩,
     ⟨some 3, .give, [.lit (.bool true)], none⟩])
   (.ret))))),
  48, [.tmp 2, .tmp 3]⟩
theorem c12 : cFunc Proofs.Try.prog 12 = some sf12 := by kernel_rfl
/-- carpetbag/carpetbagref01.Rows -/
def sf13 : SF := ⟨(.seq (.reg [⟨some 4, .give, [.lit (.bool false)], none⟩])
   (.seq (.seq (.reg [⟨some 6, .mv, [.slot 0], none⟩,
      ⟨some 7, .lenL, [.slot 0], none⟩,
      ⟨some 8, .mv, [.slot 1], none⟩,
      ⟨some 9, .lenL, [.slot 1], none⟩,
      ⟨some 10, .bin .neq, [.slot 7, .slot 9], none⟩])
    (.cond (.slot 10) (.seq (.reg [⟨some 4, .give, [.lit (.bool false)], none⟩])
     (.ret))
    (.skip)))
   (.seq (.seq (.reg [⟨some 5, .take, [.lit (.int .i64 0)], none⟩])
    (.block 0 (.loop (.seq (.seq (.reg [⟨some 11, .mv, [.slot 5], none⟩,
         ⟨some 12, .mv, [.slot 0], none⟩,
         ⟨some 13, .lenL, [.slot 0], none⟩,
         ⟨some 14, .bin .lss, [.slot 5, .slot 13], none⟩])
       (.cond (.slot 14) (.skip)
       (.exit 0)))
      (.seq (.block 1 (.seq (.reg [⟨some 17, .mv, [.slot 0], none⟩,
       ⟨some 18, .mv, [.slot 5], none⟩,
       ⟨some 19, .idxA 1, [.slot 0, .slot 5], none⟩,
       ⟨some 20, .load 1 false, [.slot 19], none⟩,
       ⟨some 21, .mv, [.slot 1], none⟩,
       ⟨some 22, .mv, [.slot 5], none⟩,
       ⟨some 23, .idxA 1, [.slot 1, .slot 5], none⟩,
       ⟨some 24, .load 1 false, [.slot 23], none⟩,
       ⟨some 25, .bin .neq, [.slot 20, .slot 24], none⟩])
        (.cond (.slot 25) (.seq (.reg [⟨some 4, .give, [.lit (.bool false)], none⟩])
         (.ret))
        (.skip))))
      (.reg [⟨some 15, .mv, [.slot 5], none⟩,
       ⟨some 16, .bin .add, [.slot 5, .lit (.int .i64 1)], none⟩,
       ⟨some 5, .give, [.slot 16], none⟩]))))))
   (.seq (.reg [⟨some 4, .give, [.lit (.bool true)], none⟩])
   (.ret))))),
  26, [.tmp 4]⟩
theorem c13 : cFunc Proofs.Try.prog 13 = some sf13 := by kernel_rfl
/-- carpetbag/carpetbagref08.Cut -/
def sf15 : SF := ⟨(.seq (.reg [⟨some 2, .give, [.lit (.nilS)], none⟩])
   (.seq (.reg [⟨some 3, .take, [.lit (.nilS)], none⟩])
   (.seq (.block 0 (.loop (.seq (.seq (.reg [⟨some 5, .mv, [.slot 0], none⟩,
         ⟨some 6, .lenS, [.slot 0], none⟩,
         ⟨some 7, .bin .gtr, [.slot 6, .lit (.int .i64 0)], none⟩])
       (.cond (.slot 7) (.skip)
       (.exit 0)))
      (.block 1 (.seq (.reg [⟨some 8, .mv, [.slot 0], none⟩,
         ⟨some 9, .lenS, [.slot 0], none⟩,
         ⟨some 10, .min, [.slot 9, .lit (.int .i64 64)], none⟩,
         ⟨some 4, .give, [.slot 10], none⟩])
       (.seq (.reg [⟨some 11, .mv, [.slot 3], none⟩,
         ⟨some 12, .mv, [.slot 0], none⟩,
         ⟨some 13, .mv, [.slot 4], none⟩,
         ⟨some 14, .slcS false true, [.slot 0, .slot 4], none⟩,
         ⟨some 15, .bsl 1 1 [.str []] [0], [.slot 14], none⟩,
         ⟨some 16, .app 1 16 [.str []], [.slot 3, .slot 15], none⟩,
         ⟨some 3, .give, [.slot 16], none⟩])
       (.reg [⟨some 17, .mv, [.slot 0], none⟩,
        ⟨some 18, .mv, [.slot 4], none⟩,
        ⟨some 19, .slcS true false, [.slot 0, .slot 4], none⟩,
        ⟨some 0, .give, [.slot 19], none⟩])))))))
   (.seq (.reg [⟨some 20, .mv, [.slot 3], none⟩,
     ⟨some 2, .give, [.slot 3], none⟩])
   (.ret))))),
  21, [.tmp 2]⟩
theorem c15 : cFunc Proofs.Try.prog 15 = some sf15 := by kernel_rfl
/-- carpetbag/chunk.Count -/
def sf16 : SF := ⟨(.seq (.reg [⟨some 2, .give, [.lit (.int .i64 0)], none⟩])
   (.seq (.seq (.reg [⟨some 3, .mv, [.slot 0], none⟩,
      ⟨some 4, .bin .lss, [.slot 0, .lit (.int .i64 1)], none⟩])
    (.cond (.slot 4) (.seq (.reg [⟨some 2, .give, [.lit (.int .i64 0)], none⟩])
     (.ret))
    (.skip)))
   (.seq (.reg [⟨some 5, .mv, [.slot 0], none⟩,
     ⟨some 6, .bin .sub, [.slot 0, .lit (.int .i64 1)], none⟩,
     ⟨some 7, .bin .quo, [.slot 6, .lit (.int .i64 64)], none⟩,
     ⟨some 8, .bin .add, [.slot 7, .lit (.int .i64 1)], none⟩,
     ⟨some 2, .give, [.slot 8], none⟩])
   (.ret)))),
  9, [.tmp 2]⟩
theorem c16 : cFunc Proofs.Try.prog 16 = some sf16 := by kernel_rfl
/-- carpetbag/carpetbagref08.Count -/
def sf17 : SF := ⟨(.seq (.reg [⟨some 2, .give, [.lit (.int .i64 0)], none⟩])
   (.seq (.seq (.reg [⟨some 3, .mv, [.slot 0], none⟩,
      ⟨some 4, .bin .lss, [.slot 0, .lit (.int .i64 1)], none⟩])
    (.cond (.slot 4) (.seq (.reg [⟨some 2, .give, [.lit (.int .i64 0)], none⟩])
     (.ret))
    (.skip)))
   (.seq (.reg [⟨some 5, .mv, [.slot 0], none⟩,
     ⟨some 6, .bin .sub, [.slot 0, .lit (.int .i64 1)], none⟩,
     ⟨some 7, .bin .quo, [.slot 6, .lit (.int .i64 64)], none⟩,
     ⟨some 8, .bin .add, [.slot 7, .lit (.int .i64 1)], none⟩,
     ⟨some 2, .give, [.slot 8], none⟩])
   (.ret)))),
  9, [.tmp 2]⟩
theorem c17 : cFunc Proofs.Try.prog 17 = some sf17 := by kernel_rfl
/-- carpetbag/chunk.Label -/
def sf18 : SF := ⟨(.seq (.reg [⟨some 6, .give, [.lit (.str [])], none⟩])
   (.seq (.reg [⟨some 7, .take, [.lit (.nilS)], none⟩])
   (.seq (.seq (.reg [⟨some 10, .mv, [.slot 0], none⟩,
      ⟨some 11, .mv, [.slot 1], none⟩,
      ⟨some 12, .mv, [.slot 2], none⟩,
      ⟨some 13, .bld [.int .i64 0, .int .i64 0, .int .i64 0] [(0, 1), (1, 1), (2, 1)], [.slot 0, .slot 1, .slot 2], none⟩,
      ⟨some 14, .mv, [.lit (.int .i64 0)], none⟩])
    (.block 0 (.loop (.seq (.reg [⟨some 15, .bin .lss, [.slot 14, .lit (.int .i64 3)], none⟩])
      (.seq (.cond (.slot 15) (.skip)
       (.exit 0))
      (.seq (.block 1 (.seq (.reg [⟨some 16, .idxV 1 3 false, [.slot 13, .slot 14], none⟩,
          ⟨some 9, .give, [.slot 16], none⟩])
        (.reg [⟨some 17, .mv, [.slot 7], none⟩,
         ⟨some 18, .mv, [.slot 9], none⟩,
         ⟨some 19, .call 22, [.slot 7, .slot 9], none⟩,
         ⟨some 7, .give, [.slot 19], none⟩])))
      (.reg [⟨some 20, .bin .add, [.slot 14, .lit (.int .i64 1)], none⟩,
       ⟨some 14, .mv, [.slot 20], none⟩])))))))
   (.seq (.reg [⟨some 21, .mv, [.slot 7], none⟩,
     ⟨some 22, .b2s, [.slot 7], none⟩,
     ⟨some 6, .give, [.slot 22], none⟩])
   (.ret))))),
  23, [.tmp 6]⟩
theorem c18 : cFunc Proofs.Try.prog 18 = some sf18 := by kernel_rfl
/-- carpetbag/carpetbagref08.Label -/
def sf19 : SF := ⟨(.seq (.reg [⟨some 6, .give, [.lit (.str [])], none⟩])
   (.seq (.reg [⟨some 7, .mv, [.slot 0], none⟩,
     ⟨some 8, .call 23, [.lit (.nilS), .slot 0], none⟩,
     ⟨some 9, .mv, [.slot 1], none⟩,
     ⟨some 10, .call 23, [.slot 8, .slot 1], none⟩,
     ⟨some 11, .mv, [.slot 2], none⟩,
     ⟨some 12, .call 23, [.slot 10, .slot 2], none⟩,
     ⟨some 13, .b2s, [.slot 12], none⟩,
     ⟨some 6, .give, [.slot 13], none⟩])
   (.ret))),
  14, [.tmp 6]⟩
theorem c19 : cFunc Proofs.Try.prog 19 = some sf19 := by kernel_rfl
/-- carpetbag/chunk.pieces -/
def sf21 : SF := ⟨(.seq (.reg [⟨some 1, .box, [.slot 0], none⟩,
     ⟨some 2, .give, [.lit (.nilF)], none⟩])
   (.seq (.reg [⟨some 3, .mfn 27 0 1, [.slot 1], none⟩,
     ⟨some 2, .give, [.slot 3], none⟩])
   (.ret))),
  4, [.tmp 2]⟩
theorem c21 : cFunc Proofs.Try.prog 21 = some sf21 := by kernel_rfl
/-- carpetbag/wire.Number -/
def sf22 : SF := ⟨(.seq (.reg [⟨some 4, .give, [.lit (.nilS)], none⟩])
   (.seq (.reg [⟨some 7, .mv, [.slot 1], none⟩,
     ⟨some 8, .min, [.slot 1, .lit (.int .i64 4294967295)], none⟩,
     ⟨some 9, .max, [.lit (.int .i64 0), .slot 8], none⟩,
     ⟨some 1, .give, [.slot 9], none⟩])
   (.seq (.reg [⟨some 10, .mv, [.slot 0], none⟩,
     ⟨some 11, .call 28, [.slot 0], none⟩,
     ⟨some 5, .give, [.slot 11], none⟩])
   (.seq (.seq (.reg [⟨some 6, .take, [.lit (.int .i64 3)], none⟩])
    (.block 0 (.loop (.seq (.seq (.reg [⟨some 12, .mv, [.slot 6], none⟩,
         ⟨some 13, .bin .geq, [.slot 6, .lit (.int .i64 0)], none⟩])
       (.cond (.slot 13) (.skip)
       (.exit 0)))
      (.seq (.block 1 (.reg [⟨some 16, .mv, [.slot 5], none⟩,
         ⟨some 17, .mv, [.slot 1], none⟩,
         ⟨some 18, .mv, [.slot 6], none⟩,
         ⟨some 19, .bin .mul, [.lit (.int .i64 8), .slot 6], none⟩,
         ⟨some 20, .bin .shr, [.slot 1, .slot 19], none⟩,
         ⟨some 21, .cvI .u8, [.slot 20], none⟩,
         ⟨some 22, .bsl 1 1 [.int .u8 0] [0], [.slot 21], none⟩,
         ⟨some 23, .app 1 1 [.int .u8 0], [.slot 5, .slot 22], none⟩,
         ⟨some 5, .give, [.slot 23], none⟩]))
      (.reg [⟨some 14, .mv, [.slot 6], none⟩,
       ⟨some 15, .bin .sub, [.slot 6, .lit (.int .i64 1)], none⟩,
       ⟨some 6, .give, [.slot 15], none⟩]))))))
   (.seq (.reg [⟨some 24, .mv, [.slot 5], none⟩,
     ⟨some 4, .give, [.slot 5], none⟩])
   (.ret)))))),
  25, [.tmp 4]⟩
theorem c22 : cFunc Proofs.Try.prog 22 = some sf22 := by kernel_rfl
/-- carpetbag/carpetbagref01.Number -/
def sf23 : SF := ⟨(.seq (.reg [⟨some 4, .give, [.lit (.nilS)], none⟩])
   (.seq (.reg [⟨some 5, .mv, [.slot 1], none⟩,
     ⟨some 6, .min, [.slot 1, .lit (.int .i64 4294967295)], none⟩,
     ⟨some 7, .max, [.lit (.int .i64 0), .slot 6], none⟩,
     ⟨some 1, .give, [.slot 7], none⟩])
   (.seq (.reg [⟨some 8, .bsl 1 0 [.int .u8 0] [], [], none⟩,
     ⟨some 9, .mv, [.slot 0], none⟩,
     ⟨some 10, .app 1 1 [.int .u8 0], [.slot 8, .slot 0], none⟩,
     ⟨some 11, .mv, [.slot 1], none⟩,
     ⟨some 12, .bin .quo, [.slot 1, .lit (.int .i64 16777216)], none⟩,
     ⟨some 13, .cvI .u8, [.slot 12], none⟩,
     ⟨some 14, .mv, [.slot 1], none⟩,
     ⟨some 15, .bin .quo, [.slot 1, .lit (.int .i64 65536)], none⟩,
     ⟨some 16, .cvI .u8, [.slot 15], none⟩,
     ⟨some 17, .mv, [.slot 1], none⟩,
     ⟨some 18, .bin .quo, [.slot 1, .lit (.int .i64 256)], none⟩,
     ⟨some 19, .cvI .u8, [.slot 18], none⟩,
     ⟨some 20, .mv, [.slot 1], none⟩,
     ⟨some 21, .cvI .u8, [.slot 1], none⟩,
     ⟨some 22, .bsl 1 4 [.int .u8 0] [0, 1, 2, 3], [.slot 13, .slot 16, .slot 19, .slot 21], none⟩,
     ⟨some 23, .app 1 1 [.int .u8 0], [.slot 10, .slot 22], none⟩,
     ⟨some 4, .give, [.slot 23], none⟩])
   (.ret)))),
  24, [.tmp 4]⟩
theorem c23 : cFunc Proofs.Try.prog 23 = some sf23 := by kernel_rfl
/-- carpetbag/chunk.pieces$1 -/
def sf27 : SF := ⟨(.seq (.reg [⟨some 5, .load 1 false, [.slot 1], none⟩,
     ⟨some 3, .give, [.slot 5], none⟩])
   (.block 0 (.loop (.seq (.seq (.reg [⟨some 6, .mv, [.slot 3], none⟩,
        ⟨some 7, .bin .neq, [.slot 3, .lit (.str [])], none⟩])
      (.cond (.slot 7) (.skip)
      (.exit 0)))
     (.block 1 (.seq (.reg [⟨some 8, .mv, [.slot 3], none⟩,
        ⟨some 9, .lenS, [.slot 3], none⟩,
        ⟨some 10, .min, [.slot 9, .lit (.int .i64 64)], none⟩,
        ⟨some 4, .give, [.slot 10], none⟩])
      (.seq (.seq (.reg [⟨some 11, .mv, [.slot 0], none⟩,
         ⟨some 12, .mv, [.slot 3], none⟩,
         ⟨some 13, .mv, [.slot 4], none⟩,
         ⟨some 14, .slcS false true, [.slot 3, .slot 4], none⟩,
         ⟨some 15, .callv, [.slot 0, .slot 14], none⟩,
         ⟨some 16, .un .not, [.slot 15], none⟩])
       (.cond (.slot 16) (.ret)
       (.skip)))
      (.reg [⟨some 17, .mv, [.slot 3], none⟩,
       ⟨some 18, .mv, [.slot 4], none⟩,
       ⟨some 19, .slcS true false, [.slot 3, .slot 4], none⟩,
       ⟨some 3, .give, [.slot 19], none⟩])))))))),
  20, []⟩
theorem c27 : cFunc Proofs.Try.prog 27 = some sf27 := by kernel_rfl
/-- slices.Clone[[]byte,byte] -/
def sf28 : SF := ⟨(.seq (.reg [⟨some 2, .give, [.lit (.nilS)], none⟩])
   (.seq (.seq (.reg [⟨some 3, .mv, [.slot 0], none⟩,
      ⟨some 4, .eqN .s false, [.slot 0, .lit (.nilS)], none⟩])
    (.cond (.slot 4) (.seq (.reg [⟨some 2, .give, [.lit (.nilS)], none⟩])
     (.ret))
    (.skip)))
   (.seq (.reg [⟨some 5, .bsl 1 0 [.int .u8 0] [], [], none⟩,
     ⟨some 6, .mv, [.slot 0], none⟩,
     ⟨some 7, .app 1 1 [.int .u8 0], [.slot 5, .slot 0], none⟩,
     ⟨some 2, .give, [.slot 7], none⟩])
   (.ret)))),
  8, [.tmp 2]⟩
theorem c28 : cFunc Proofs.Try.prog 28 = some sf28 := by kernel_rfl
end Go.Sh.F
