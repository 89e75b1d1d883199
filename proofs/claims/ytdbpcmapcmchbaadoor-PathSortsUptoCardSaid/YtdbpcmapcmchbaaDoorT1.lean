/-
  The program functions of this seat in the shadow machine form: printed by shc.py, checked by the kernel.
-/
import Derived.Test.YtdbpcmapcmchbaaDoorShY
import Derived.Test.YtdbpcmapcmchbaaDoorProg
import Derived.KernelRfl
namespace Go.Sh.F
/-- carpetbag/carpetbaglaw03.PathTells -/
def sf3 : SF := ⟨(.seq (.reg [⟨some 4, .give, [.lit (.bool false)], none⟩])
   (.seq (.reg [⟨some 10, .call 10, [], none⟩,
     ⟨some 5, .give, [.slot 10], none⟩])
   (.seq (.seq (.reg [⟨some 11, .mv, [.slot 0], none⟩,
      ⟨some 12, .lenS, [.slot 0], none⟩,
      ⟨some 13, .bin .gtr, [.slot 12, .lit (.int .i64 300)], none⟩,
      ⟨some 14, .mv, [.slot 13], none⟩,
      ⟨some 15, .take, [.slot 1], some (14, false)⟩,
      ⟨some 16, .lenL, [.slot 15], some (14, false)⟩,
      ⟨some 17, .bin .gtr, [.slot 16, .lit (.int .i64 20)], some (14, false)⟩,
      ⟨some 18, .pick, [.slot 13, .lit (.bool true), .slot 17], none⟩])
    (.cond (.slot 18) (.seq (.reg [⟨some 19, .mv, [.slot 5], none⟩,
       ⟨some 4, .give, [.slot 5], none⟩])
     (.ret))
    (.skip)))
   (.seq (.reg [⟨some 6, .take, [.lit (.int .i64 0)], none⟩])
   (.seq (.seq (.reg [⟨some 7, .take, [.lit (.int .i64 0)], none⟩])
    (.block 0 (.loop (.seq (.seq (.reg [⟨some 20, .mv, [.slot 7], none⟩,
         ⟨some 21, .mv, [.slot 1], none⟩,
         ⟨some 22, .lenL, [.slot 1], none⟩,
         ⟨some 23, .bin .lss, [.slot 7, .slot 22], none⟩])
       (.cond (.slot 23) (.skip)
       (.exit 0)))
      (.seq (.block 1 (.reg [⟨some 26, .mv, [.slot 6], none⟩,
         ⟨some 27, .mv, [.slot 1], none⟩,
         ⟨some 28, .mv, [.slot 7], none⟩,
         ⟨some 29, .idxB 1, [.slot 1, .slot 7], none⟩,
         ⟨some 30, .load 1 false, [.slot 29], none⟩,
         ⟨some 31, .lenS, [.slot 30], none⟩,
         ⟨some 32, .bin .add, [.slot 6, .slot 31], none⟩,
         ⟨some 6, .give, [.slot 32], none⟩]))
      (.reg [⟨some 24, .mv, [.slot 7], none⟩,
       ⟨some 25, .bin .add, [.slot 7, .lit (.int .i64 1)], none⟩,
       ⟨some 7, .give, [.slot 25], none⟩]))))))
   (.seq (.seq (.reg [⟨some 33, .mv, [.slot 6], none⟩,
      ⟨some 34, .bin .gtr, [.slot 6, .lit (.int .i64 500)], none⟩])
    (.cond (.slot 34) (.seq (.reg [⟨some 35, .mv, [.slot 5], none⟩,
       ⟨some 4, .give, [.slot 5], none⟩])
     (.ret))
    (.skip)))
   (.seq (.reg [⟨some 36, .mv, [.slot 0], none⟩,
     ⟨some 37, .call 11, [.slot 0], none⟩,
     ⟨some 8, .give, [.slot 37], none⟩])
   (.seq (.reg [⟨some 38, .mv, [.slot 8], none⟩,
     ⟨some 39, .mv, [.slot 0], none⟩,
     ⟨some 40, .call 13, [.slot 0], none⟩,
     ⟨some 41, .call 12, [.slot 8, .slot 40], none⟩,
     ⟨some 9, .give, [.slot 41], none⟩])
   (.seq (.reg [⟨some 42, .mv, [.slot 5], none⟩,
     ⟨some 43, .mv, [.slot 5], none⟩,
     ⟨some 44, .take, [.slot 9], some (43, true)⟩,
     ⟨some 45, .pick, [.slot 5, .slot 44, .lit (.bool false)], none⟩,
     ⟨some 46, .mv, [.slot 45], none⟩,
     ⟨some 47, .take, [.slot 0], some (46, true)⟩,
     ⟨some 48, .call 14, [.slot 47], some (46, true)⟩,
     ⟨some 49, .take, [.slot 0], some (46, true)⟩,
     ⟨some 50, .call 15, [.slot 49], some (46, true)⟩,
     ⟨some 51, .eqB false, [.slot 48, .slot 50], some (46, true)⟩,
     ⟨some 52, .pick, [.slot 45, .slot 51, .lit (.bool false)], none⟩,
     ⟨some 53, .mv, [.slot 52], none⟩,
     ⟨some 54, .take, [.slot 0], some (53, true)⟩,
     ⟨some 55, .call 16, [.slot 54], some (53, true)⟩,
     ⟨some 56, .take, [.slot 0], some (53, true)⟩,
     ⟨some 57, .call 17, [.slot 56], some (53, true)⟩,
     ⟨some 58, .eqB false, [.slot 55, .slot 57], some (53, true)⟩,
     ⟨some 59, .pick, [.slot 52, .slot 58, .lit (.bool false)], none⟩,
     ⟨some 60, .mv, [.slot 59], none⟩,
     ⟨some 61, .take, [.slot 1], some (60, true)⟩,
     ⟨some 62, .call 18, [.slot 61], some (60, true)⟩,
     ⟨some 63, .take, [.slot 1], some (60, true)⟩,
     ⟨some 64, .call 19, [.slot 63], some (60, true)⟩,
     ⟨some 65, .bin .eql, [.slot 62, .slot 64], some (60, true)⟩,
     ⟨some 66, .pick, [.slot 59, .slot 65, .lit (.bool false)], none⟩,
     ⟨some 67, .mv, [.slot 66], none⟩,
     ⟨some 68, .take, [.slot 0], some (67, true)⟩,
     ⟨some 69, .call 20, [.slot 68], some (67, true)⟩,
     ⟨some 70, .take, [.slot 0], some (67, true)⟩,
     ⟨some 71, .call 21, [.slot 70], some (67, true)⟩,
     ⟨some 72, .bin .eql, [.slot 69, .slot 71], some (67, true)⟩,
     ⟨some 73, .pick, [.slot 66, .slot 72, .lit (.bool false)], none⟩,
     ⟨some 74, .mv, [.slot 73], none⟩,
     ⟨some 75, .take, [.slot 1], some (74, true)⟩,
     ⟨some 76, .call 22, [.slot 75], some (74, true)⟩,
     ⟨some 77, .take, [.slot 1], some (74, true)⟩,
     ⟨some 78, .call 23, [.slot 77], some (74, true)⟩,
     ⟨some 79, .eqB false, [.slot 76, .slot 78], some (74, true)⟩,
     ⟨some 80, .pick, [.slot 73, .slot 79, .lit (.bool false)], none⟩,
     ⟨some 4, .give, [.slot 80], none⟩])
   (.ret)))))))))),
  81, [.tmp 4]⟩
theorem c3 : cFunc Proofs.Tryd.prog 3 = some sf3 := by kernel_rfl
/-- carpetbag/carpetbaglaw03.PathUnder -/
def sf4 : SF := ⟨(.seq (.reg [⟨some 4, .give, [.lit (.bool false)], none⟩])
   (.seq (.reg [⟨some 6, .call 10, [], none⟩,
     ⟨some 5, .give, [.slot 6], none⟩])
   (.seq (.seq (.reg [⟨some 7, .mv, [.slot 0], none⟩,
      ⟨some 8, .lenS, [.slot 0], none⟩,
      ⟨some 9, .bin .gtr, [.slot 8, .lit (.int .i64 300)], none⟩,
      ⟨some 10, .mv, [.slot 9], none⟩,
      ⟨some 11, .take, [.slot 1], some (10, false)⟩,
      ⟨some 12, .lenS, [.slot 11], some (10, false)⟩,
      ⟨some 13, .bin .gtr, [.slot 12, .lit (.int .i64 300)], some (10, false)⟩,
      ⟨some 14, .pick, [.slot 9, .lit (.bool true), .slot 13], none⟩])
    (.cond (.slot 14) (.seq (.reg [⟨some 15, .mv, [.slot 5], none⟩,
       ⟨some 4, .give, [.slot 5], none⟩])
     (.ret))
    (.skip)))
   (.seq (.reg [⟨some 16, .mv, [.slot 5], none⟩,
     ⟨some 17, .mv, [.slot 5], none⟩,
     ⟨some 18, .take, [.slot 0], some (17, true)⟩,
     ⟨some 19, .take, [.slot 1], some (17, true)⟩,
     ⟨some 20, .call 24, [.slot 18, .slot 19], some (17, true)⟩,
     ⟨some 21, .take, [.slot 0], some (17, true)⟩,
     ⟨some 22, .take, [.slot 1], some (17, true)⟩,
     ⟨some 23, .call 25, [.slot 21, .slot 22], some (17, true)⟩,
     ⟨some 24, .eqB false, [.slot 20, .slot 23], some (17, true)⟩,
     ⟨some 25, .pick, [.slot 5, .slot 24, .lit (.bool false)], none⟩,
     ⟨some 26, .mv, [.slot 25], none⟩,
     ⟨some 27, .take, [.slot 0], some (26, true)⟩,
     ⟨some 28, .take, [.slot 1], some (26, true)⟩,
     ⟨some 29, .call 26, [.slot 27, .slot 28], some (26, true)⟩,
     ⟨some 30, .take, [.slot 0], some (26, true)⟩,
     ⟨some 31, .take, [.slot 1], some (26, true)⟩,
     ⟨some 32, .call 25, [.slot 30, .slot 31], some (26, true)⟩,
     ⟨some 33, .take, [.slot 32], some (26, true)⟩,
     ⟨some 34, .take, [.slot 1], some (33, false)⟩,
     ⟨some 35, .take, [.slot 0], some (33, false)⟩,
     ⟨some 36, .call 25, [.slot 34, .slot 35], some (33, false)⟩,
     ⟨some 37, .pick, [.slot 33, .lit (.bool true), .slot 36], some (26, true)⟩,
     ⟨some 38, .eqB false, [.slot 29, .slot 37], some (26, true)⟩,
     ⟨some 39, .pick, [.slot 25, .slot 38, .lit (.bool false)], none⟩,
     ⟨some 4, .give, [.slot 39], none⟩])
   (.ret))))),
  40, [.tmp 4]⟩
theorem c4 : cFunc Proofs.Tryd.prog 4 = some sf4 := by kernel_rfl
/-- carpetbag/carpetbaglaw03.PathBack -/
def sf5 : SF := ⟨(.seq (.reg [⟨some 4, .give, [.lit (.bool false)], none⟩])
   (.seq (.reg [⟨some 10, .call 10, [], none⟩,
     ⟨some 5, .give, [.slot 10], none⟩])
   (.seq (.seq (.reg [⟨some 11, .mv, [.slot 0], none⟩,
      ⟨some 12, .lenL, [.slot 0], none⟩,
      ⟨some 13, .bin .gtr, [.slot 12, .lit (.int .i64 10)], none⟩,
      ⟨some 14, .mv, [.slot 13], none⟩,
      ⟨some 15, .take, [.slot 1], some (14, false)⟩,
      ⟨some 16, .lenS, [.slot 15], some (14, false)⟩,
      ⟨some 17, .bin .gtr, [.slot 16, .lit (.int .i64 300)], some (14, false)⟩,
      ⟨some 18, .pick, [.slot 13, .lit (.bool true), .slot 17], none⟩])
    (.cond (.slot 18) (.seq (.reg [⟨some 19, .mv, [.slot 5], none⟩,
       ⟨some 4, .give, [.slot 5], none⟩])
     (.ret))
    (.skip)))
   (.seq (.reg [⟨some 20, .mv, [.slot 0], none⟩,
     ⟨some 21, .lenL, [.slot 0], none⟩,
     ⟨some 22, .bin .geq, [.slot 21, .lit (.int .i64 1)], none⟩,
     ⟨some 23, .mv, [.slot 22], none⟩,
     ⟨some 24, .take, [.slot 0], some (23, true)⟩,
     ⟨some 25, .lenL, [.slot 24], some (23, true)⟩,
     ⟨some 26, .bin .leq, [.slot 25, .lit (.int .i64 4)], some (23, true)⟩,
     ⟨some 27, .pick, [.slot 22, .slot 26, .lit (.bool false)], none⟩,
     ⟨some 6, .give, [.slot 27], none⟩])
   (.seq (.seq (.reg [⟨some 7, .take, [.lit (.int .i64 0)], none⟩])
    (.block 0 (.loop (.seq (.seq (.reg [⟨some 28, .mv, [.slot 7], none⟩,
         ⟨some 29, .mv, [.slot 0], none⟩,
         ⟨some 30, .lenL, [.slot 0], none⟩,
         ⟨some 31, .bin .lss, [.slot 7, .slot 30], none⟩])
       (.cond (.slot 31) (.skip)
       (.exit 0)))
      (.seq (.block 1 (.seq (.seq (.reg [⟨some 34, .mv, [.slot 0], none⟩,
           ⟨some 35, .mv, [.slot 7], none⟩,
           ⟨some 36, .idxB 1, [.slot 0, .slot 7], none⟩,
           ⟨some 37, .load 1 false, [.slot 36], none⟩,
           ⟨some 38, .lenS, [.slot 37], none⟩,
           ⟨some 39, .bin .gtr, [.slot 38, .lit (.int .i64 100)], none⟩])
         (.cond (.slot 39) (.seq (.reg [⟨some 40, .mv, [.slot 5], none⟩,
            ⟨some 4, .give, [.slot 5], none⟩])
          (.ret))
         (.skip)))
        (.reg [⟨some 41, .mv, [.slot 6], none⟩,
         ⟨some 42, .mv, [.slot 6], none⟩,
         ⟨some 43, .take, [.slot 0], some (42, true)⟩,
         ⟨some 44, .take, [.slot 7], some (42, true)⟩,
         ⟨some 45, .idxB 1, [.slot 43, .slot 44], some (42, true)⟩,
         ⟨some 46, .load 1 false, [.slot 45], some (42, true)⟩,
         ⟨some 47, .call 14, [.slot 46], some (42, true)⟩,
         ⟨some 48, .pick, [.slot 6, .slot 47, .lit (.bool false)], none⟩,
         ⟨some 6, .give, [.slot 48], none⟩])))
      (.reg [⟨some 32, .mv, [.slot 7], none⟩,
       ⟨some 33, .bin .add, [.slot 7, .lit (.int .i64 1)], none⟩,
       ⟨some 7, .give, [.slot 33], none⟩]))))))
   (.seq (.reg [⟨some 49, .mv, [.slot 0], none⟩,
     ⟨some 50, .call 18, [.slot 0], none⟩,
     ⟨some 8, .give, [.slot 50], none⟩])
   (.seq (.seq (.reg [⟨some 51, .mv, [.slot 6], none⟩,
      ⟨some 52, .mv, [.slot 8], none⟩,
      ⟨some 53, .call 16, [.slot 8], none⟩,
      ⟨some 54, .eqB true, [.slot 6, .slot 53], none⟩,
      ⟨some 55, .mv, [.slot 54], none⟩,
      ⟨some 56, .take, [.slot 6], some (55, false)⟩,
      ⟨some 57, .un .not, [.slot 56], some (55, false)⟩,
      ⟨some 58, .take, [.slot 57], some (55, false)⟩,
      ⟨some 59, .take, [.slot 8], some (58, true)⟩,
      ⟨some 60, .bin .neq, [.slot 59, .lit (.str [])], some (58, true)⟩,
      ⟨some 61, .pick, [.slot 58, .slot 60, .lit (.bool false)], some (55, false)⟩,
      ⟨some 62, .pick, [.slot 54, .lit (.bool true), .slot 61], none⟩,
      ⟨some 63, .mv, [.slot 62], none⟩,
      ⟨some 64, .take, [.slot 6], some (63, false)⟩,
      ⟨some 65, .take, [.slot 64], some (63, false)⟩,
      ⟨some 66, .take, [.slot 8], some (65, true)⟩,
      ⟨some 67, .call 11, [.slot 66], some (65, true)⟩,
      ⟨some 68, .take, [.slot 0], some (65, true)⟩,
      ⟨some 69, .call 12, [.slot 67, .slot 68], some (65, true)⟩,
      ⟨some 70, .un .not, [.slot 69], some (65, true)⟩,
      ⟨some 71, .pick, [.slot 65, .slot 70, .lit (.bool false)], some (63, false)⟩,
      ⟨some 72, .pick, [.slot 62, .lit (.bool true), .slot 71], none⟩])
    (.cond (.slot 72) (.seq (.reg [⟨some 4, .give, [.lit (.bool false)], none⟩])
     (.ret))
    (.skip)))
   (.seq (.reg [⟨some 73, .mv, [.slot 1], none⟩,
     ⟨some 74, .call 11, [.slot 1], none⟩,
     ⟨some 9, .give, [.slot 74], none⟩])
   (.seq (.reg [⟨some 75, .mv, [.slot 5], none⟩,
     ⟨some 76, .mv, [.slot 5], none⟩,
     ⟨some 77, .take, [.slot 9], some (76, true)⟩,
     ⟨some 78, .lenL, [.slot 77], some (76, true)⟩,
     ⟨some 79, .bin .gtr, [.slot 78, .lit (.int .i64 0)], some (76, true)⟩,
     ⟨some 80, .take, [.slot 1], some (76, true)⟩,
     ⟨some 81, .call 16, [.slot 80], some (76, true)⟩,
     ⟨some 82, .eqB false, [.slot 79, .slot 81], some (76, true)⟩,
     ⟨some 83, .pick, [.slot 5, .slot 82, .lit (.bool false)], none⟩,
     ⟨some 84, .mv, [.slot 83], none⟩,
     ⟨some 85, .take, [.slot 9], some (84, true)⟩,
     ⟨some 86, .lenL, [.slot 85], some (84, true)⟩,
     ⟨some 87, .bin .eql, [.slot 86, .lit (.int .i64 0)], some (84, true)⟩,
     ⟨some 88, .take, [.slot 87], some (84, true)⟩,
     ⟨some 89, .take, [.slot 9], some (88, false)⟩,
     ⟨some 90, .call 18, [.slot 89], some (88, false)⟩,
     ⟨some 91, .take, [.slot 1], some (88, false)⟩,
     ⟨some 92, .bin .eql, [.slot 90, .slot 91], some (88, false)⟩,
     ⟨some 93, .pick, [.slot 88, .lit (.bool true), .slot 92], some (84, true)⟩,
     ⟨some 94, .pick, [.slot 83, .slot 93, .lit (.bool false)], none⟩,
     ⟨some 4, .give, [.slot 94], none⟩])
   (.ret)))))))))),
  95, [.tmp 4]⟩
theorem c5 : cFunc Proofs.Tryd.prog 5 = some sf5 := by kernel_rfl
/-- carpetbag/carpetbaglaw03.PathOrder -/
def sf6 : SF := ⟨(.seq (.reg [⟨some 6, .give, [.lit (.bool false)], none⟩])
   (.seq (.reg [⟨some 9, .call 10, [], none⟩,
     ⟨some 7, .give, [.slot 9], none⟩])
   (.seq (.seq (.reg [⟨some 10, .mv, [.slot 0], none⟩,
      ⟨some 11, .lenS, [.slot 0], none⟩,
      ⟨some 12, .bin .gtr, [.slot 11, .lit (.int .i64 300)], none⟩,
      ⟨some 13, .mv, [.slot 12], none⟩,
      ⟨some 14, .take, [.slot 1], some (13, false)⟩,
      ⟨some 15, .lenS, [.slot 14], some (13, false)⟩,
      ⟨some 16, .bin .gtr, [.slot 15, .lit (.int .i64 300)], some (13, false)⟩,
      ⟨some 17, .pick, [.slot 12, .lit (.bool true), .slot 16], none⟩,
      ⟨some 18, .mv, [.slot 17], none⟩,
      ⟨some 19, .take, [.slot 2], some (18, false)⟩,
      ⟨some 20, .lenS, [.slot 19], some (18, false)⟩,
      ⟨some 21, .bin .gtr, [.slot 20, .lit (.int .i64 300)], some (18, false)⟩,
      ⟨some 22, .pick, [.slot 17, .lit (.bool true), .slot 21], none⟩])
    (.cond (.slot 22) (.seq (.reg [⟨some 23, .mv, [.slot 7], none⟩,
       ⟨some 6, .give, [.slot 7], none⟩])
     (.ret))
    (.skip)))
   (.seq (.seq (.reg [⟨some 24, .mv, [.slot 0], none⟩,
      ⟨some 25, .mv, [.slot 0], none⟩,
      ⟨some 26, .call 24, [.slot 0, .slot 0], none⟩,
      ⟨some 27, .mv, [.slot 26], none⟩,
      ⟨some 28, .take, [.slot 0], some (27, false)⟩,
      ⟨some 29, .take, [.slot 1], some (27, false)⟩,
      ⟨some 30, .call 24, [.slot 28, .slot 29], some (27, false)⟩,
      ⟨some 31, .take, [.slot 30], some (27, false)⟩,
      ⟨some 32, .take, [.slot 1], some (31, true)⟩,
      ⟨some 33, .take, [.slot 0], some (31, true)⟩,
      ⟨some 34, .call 24, [.slot 32, .slot 33], some (31, true)⟩,
      ⟨some 35, .pick, [.slot 31, .slot 34, .lit (.bool false)], some (27, false)⟩,
      ⟨some 36, .pick, [.slot 26, .lit (.bool true), .slot 35], none⟩,
      ⟨some 37, .mv, [.slot 36], none⟩,
      ⟨some 38, .take, [.slot 0], some (37, false)⟩,
      ⟨some 39, .take, [.slot 1], some (37, false)⟩,
      ⟨some 40, .call 24, [.slot 38, .slot 39], some (37, false)⟩,
      ⟨some 41, .take, [.slot 40], some (37, false)⟩,
      ⟨some 42, .take, [.slot 1], some (41, true)⟩,
      ⟨some 43, .take, [.slot 2], some (41, true)⟩,
      ⟨some 44, .call 24, [.slot 42, .slot 43], some (41, true)⟩,
      ⟨some 45, .pick, [.slot 41, .slot 44, .lit (.bool false)], some (37, false)⟩,
      ⟨some 46, .take, [.slot 45], some (37, false)⟩,
      ⟨some 47, .take, [.slot 0], some (46, true)⟩,
      ⟨some 48, .take, [.slot 2], some (46, true)⟩,
      ⟨some 49, .call 24, [.slot 47, .slot 48], some (46, true)⟩,
      ⟨some 50, .un .not, [.slot 49], some (46, true)⟩,
      ⟨some 51, .pick, [.slot 46, .slot 50, .lit (.bool false)], some (37, false)⟩,
      ⟨some 52, .pick, [.slot 36, .lit (.bool true), .slot 51], none⟩])
    (.cond (.slot 52) (.seq (.reg [⟨some 6, .give, [.lit (.bool false)], none⟩])
     (.ret))
    (.skip)))
   (.seq (.seq (.reg [⟨some 53, .mv, [.slot 0], none⟩,
      ⟨some 54, .mv, [.slot 1], none⟩,
      ⟨some 55, .call 24, [.slot 0, .slot 1], none⟩,
      ⟨some 56, .mv, [.slot 55], none⟩,
      ⟨some 57, .take, [.slot 0], some (56, true)⟩,
      ⟨some 58, .take, [.slot 2], some (56, true)⟩,
      ⟨some 59, .call 24, [.slot 57, .slot 58], some (56, true)⟩,
      ⟨some 60, .pick, [.slot 55, .slot 59, .lit (.bool false)], none⟩,
      ⟨some 61, .mv, [.slot 60], none⟩,
      ⟨some 62, .take, [.slot 1], some (61, true)⟩,
      ⟨some 63, .take, [.slot 2], some (61, true)⟩,
      ⟨some 64, .bin .neq, [.slot 62, .slot 63], some (61, true)⟩,
      ⟨some 65, .pick, [.slot 60, .slot 64, .lit (.bool false)], none⟩,
      ⟨some 66, .mv, [.slot 65], none⟩,
      ⟨some 67, .take, [.slot 1], some (66, true)⟩,
      ⟨some 68, .take, [.slot 2], some (66, true)⟩,
      ⟨some 69, .call 26, [.slot 67, .slot 68], some (66, true)⟩,
      ⟨some 70, .un .not, [.slot 69], some (66, true)⟩,
      ⟨some 71, .pick, [.slot 65, .slot 70, .lit (.bool false)], none⟩])
    (.cond (.slot 71) (.seq (.reg [⟨some 6, .give, [.lit (.bool false)], none⟩])
     (.ret))
    (.skip)))
   (.seq (.reg [⟨some 72, .mv, [.slot 0], none⟩,
     ⟨some 73, .call 20, [.slot 0], none⟩,
     ⟨some 8, .give, [.slot 73], none⟩])
   (.seq (.reg [⟨some 74, .mv, [.slot 7], none⟩,
     ⟨some 75, .mv, [.slot 7], none⟩,
     ⟨some 76, .take, [.slot 8], some (75, true)⟩,
     ⟨some 77, .bin .eql, [.slot 76, .lit (.str [])], some (75, true)⟩,
     ⟨some 78, .take, [.slot 77], some (75, true)⟩,
     ⟨some 79, .take, [.slot 0], some (78, false)⟩,
     ⟨some 80, .take, [.slot 8], some (78, false)⟩,
     ⟨some 81, .call 24, [.slot 79, .slot 80], some (78, false)⟩,
     ⟨some 82, .pick, [.slot 78, .lit (.bool true), .slot 81], some (75, true)⟩,
     ⟨some 83, .pick, [.slot 7, .slot 82, .lit (.bool false)], none⟩,
     ⟨some 84, .mv, [.slot 83], none⟩,
     ⟨some 85, .take, [.slot 0], some (84, true)⟩,
     ⟨some 86, .take, [.slot 1], some (84, true)⟩,
     ⟨some 87, .call 24, [.slot 85, .slot 86], some (84, true)⟩,
     ⟨some 88, .un .not, [.slot 87], some (84, true)⟩,
     ⟨some 89, .take, [.slot 88], some (84, true)⟩,
     ⟨some 90, .take, [.slot 8], some (89, false)⟩,
     ⟨some 91, .take, [.slot 1], some (89, false)⟩,
     ⟨some 92, .bin .eql, [.slot 90, .slot 91], some (89, false)⟩,
     ⟨some 93, .pick, [.slot 89, .lit (.bool true), .slot 92], some (84, true)⟩,
     ⟨some 94, .take, [.slot 93], some (84, true)⟩,
     ⟨some 95, .take, [.slot 8], some (94, false)⟩,
     ⟨some 96, .take, [.slot 1], some (94, false)⟩,
     ⟨some 97, .call 24, [.slot 95, .slot 96], some (94, false)⟩,
     ⟨some 98, .pick, [.slot 94, .lit (.bool true), .slot 97], some (84, true)⟩,
     ⟨some 99, .pick, [.slot 83, .slot 98, .lit (.bool false)], none⟩,
     ⟨some 100, .mv, [.slot 99], none⟩,
     ⟨some 101, .take, [.slot 0], some (100, true)⟩,
     ⟨some 102, .take, [.slot 1], some (100, true)⟩,
     ⟨some 103, .call 24, [.slot 101, .slot 102], some (100, true)⟩,
     ⟨some 104, .un .not, [.slot 103], some (100, true)⟩,
     ⟨some 105, .take, [.slot 104], some (100, true)⟩,
     ⟨some 106, .take, [.slot 0], some (105, false)⟩,
     ⟨some 107, .take, [.slot 1], some (105, false)⟩,
     ⟨some 108, .bin .gtr, [.slot 106, .slot 107], some (105, false)⟩,
     ⟨some 109, .pick, [.slot 105, .lit (.bool true), .slot 108], some (100, true)⟩,
     ⟨some 110, .pick, [.slot 99, .slot 109, .lit (.bool false)], none⟩,
     ⟨some 6, .give, [.slot 110], none⟩])
   (.ret)))))))),
  111, [.tmp 6]⟩
theorem c6 : cFunc Proofs.Tryd.prog 6 = some sf6 := by kernel_rfl
/-- carpetbag/carpetbaglaw03.PathParents -/
def sf7 : SF := ⟨(.seq (.reg [⟨some 2, .give, [.lit (.bool false)], none⟩])
   (.seq (.reg [⟨some 8, .call 10, [], none⟩,
     ⟨some 3, .give, [.slot 8], none⟩])
   (.seq (.seq (.reg [⟨some 9, .mv, [.slot 0], none⟩,
      ⟨some 10, .lenS, [.slot 0], none⟩,
      ⟨some 11, .bin .gtr, [.slot 10, .lit (.int .i64 300)], none⟩,
      ⟨some 12, .mv, [.slot 11], none⟩,
      ⟨some 13, .take, [.slot 0], some (12, false)⟩,
      ⟨some 14, .call 16, [.slot 13], some (12, false)⟩,
      ⟨some 15, .un .not, [.slot 14], some (12, false)⟩,
      ⟨some 16, .pick, [.slot 11, .lit (.bool true), .slot 15], none⟩])
    (.cond (.slot 16) (.seq (.reg [⟨some 17, .mv, [.slot 3], none⟩,
       ⟨some 18, .mv, [.slot 3], none⟩,
       ⟨some 19, .take, [.slot 0], some (18, true)⟩,
       ⟨some 20, .lenS, [.slot 19], some (18, true)⟩,
       ⟨some 21, .bin .gtr, [.slot 20, .lit (.int .i64 300)], some (18, true)⟩,
       ⟨some 22, .take, [.slot 21], some (18, true)⟩,
       ⟨some 23, .take, [.slot 0], some (22, false)⟩,
       ⟨some 24, .call 20, [.slot 23], some (22, false)⟩,
       ⟨some 25, .bin .eql, [.slot 24, .lit (.str [])], some (22, false)⟩,
       ⟨some 26, .pick, [.slot 22, .lit (.bool true), .slot 25], some (18, true)⟩,
       ⟨some 27, .pick, [.slot 3, .slot 26, .lit (.bool false)], none⟩,
       ⟨some 2, .give, [.slot 27], none⟩])
     (.ret))
    (.skip)))
   (.seq (.reg [⟨some 4, .take, [.lit (.int .i64 1)], none⟩])
   (.seq (.reg [⟨some 28, .mv, [.slot 0], none⟩,
     ⟨some 5, .take, [.slot 0], none⟩])
   (.seq (.seq (.reg [⟨some 6, .take, [.lit (.int .i64 0)], none⟩])
    (.block 0 (.loop (.seq (.seq (.reg [⟨some 29, .mv, [.slot 6], none⟩,
         ⟨some 30, .bin .lss, [.slot 6, .lit (.int .i64 4)], none⟩,
         ⟨some 31, .mv, [.slot 30], none⟩,
         ⟨some 32, .take, [.slot 5], some (31, true)⟩,
         ⟨some 33, .call 20, [.slot 32], some (31, true)⟩,
         ⟨some 34, .bin .neq, [.slot 33, .lit (.str [])], some (31, true)⟩,
         ⟨some 35, .pick, [.slot 30, .slot 34, .lit (.bool false)], none⟩])
       (.cond (.slot 35) (.skip)
       (.exit 0)))
      (.seq (.block 1 (.seq (.reg [⟨some 38, .mv, [.slot 5], none⟩,
          ⟨some 39, .call 20, [.slot 5], none⟩,
          ⟨some 5, .give, [.slot 39], none⟩])
        (.seq (.reg [⟨some 40, .mv, [.slot 4], none⟩,
          ⟨some 41, .bin .add, [.slot 4, .lit (.int .i64 1)], none⟩,
          ⟨some 4, .give, [.slot 41], none⟩])
        (.seq (.reg [⟨some 42, .mv, [.slot 0], none⟩,
          ⟨some 43, .mv, [.slot 5], none⟩,
          ⟨some 44, .call 24, [.slot 0, .slot 5], none⟩,
          ⟨some 45, .un .not, [.slot 44], none⟩,
          ⟨some 46, .mv, [.slot 45], none⟩,
          ⟨some 47, .take, [.slot 5], some (46, false)⟩,
          ⟨some 48, .call 16, [.slot 47], some (46, false)⟩,
          ⟨some 49, .un .not, [.slot 48], some (46, false)⟩,
          ⟨some 50, .pick, [.slot 45, .lit (.bool true), .slot 49], none⟩])
        (.cond (.slot 50) (.seq (.reg [⟨some 2, .give, [.lit (.bool false)], none⟩])
         (.ret))
        (.skip))))))
      (.reg [⟨some 36, .mv, [.slot 6], none⟩,
       ⟨some 37, .bin .add, [.slot 6, .lit (.int .i64 1)], none⟩,
       ⟨some 6, .give, [.slot 37], none⟩]))))))
   (.seq (.reg [⟨some 51, .mv, [.slot 0], none⟩,
     ⟨some 52, .call 11, [.slot 0], none⟩,
     ⟨some 7, .give, [.slot 52], none⟩])
   (.seq (.reg [⟨some 53, .mv, [.slot 3], none⟩,
     ⟨some 54, .mv, [.slot 3], none⟩,
     ⟨some 55, .take, [.slot 4], some (54, true)⟩,
     ⟨some 56, .take, [.slot 7], some (54, true)⟩,
     ⟨some 57, .lenL, [.slot 56], some (54, true)⟩,
     ⟨some 58, .bin .eql, [.slot 55, .slot 57], some (54, true)⟩,
     ⟨some 59, .pick, [.slot 3, .slot 58, .lit (.bool false)], none⟩,
     ⟨some 60, .mv, [.slot 59], none⟩,
     ⟨some 61, .take, [.slot 4], some (60, true)⟩,
     ⟨some 62, .bin .leq, [.slot 61, .lit (.int .i64 4)], some (60, true)⟩,
     ⟨some 63, .pick, [.slot 59, .slot 62, .lit (.bool false)], none⟩,
     ⟨some 64, .mv, [.slot 63], none⟩,
     ⟨some 65, .take, [.slot 5], some (64, true)⟩,
     ⟨some 66, .call 20, [.slot 65], some (64, true)⟩,
     ⟨some 67, .bin .eql, [.slot 66, .lit (.str [])], some (64, true)⟩,
     ⟨some 68, .pick, [.slot 63, .slot 67, .lit (.bool false)], none⟩,
     ⟨some 69, .mv, [.slot 68], none⟩,
     ⟨some 70, .take, [.slot 5], some (69, true)⟩,
     ⟨some 71, .take, [.slot 7], some (69, true)⟩,
     ⟨some 72, .idxB 1, [.slot 71, .lit (.int .i64 0)], some (69, true)⟩,
     ⟨some 73, .load 1 false, [.slot 72], some (69, true)⟩,
     ⟨some 74, .bin .eql, [.slot 70, .slot 73], some (69, true)⟩,
     ⟨some 75, .pick, [.slot 68, .slot 74, .lit (.bool false)], none⟩,
     ⟨some 2, .give, [.slot 75], none⟩])
   (.ret))))))))),
  76, [.tmp 2]⟩
theorem c7 : cFunc Proofs.Tryd.prog 7 = some sf7 := by kernel_rfl
/-- carpetbag/carpetbaglaw03.PathSorts -/
def sf8 : SF := ⟨(.seq (.reg [⟨some 4, .give, [.lit (.bool false)], none⟩])
   (.seq (.reg [⟨some 9, .call 10, [], none⟩,
     ⟨some 5, .give, [.slot 9], none⟩])
   (.seq (.seq (.reg [⟨some 10, .mv, [.slot 0], none⟩,
      ⟨some 11, .lenL, [.slot 0], none⟩,
      ⟨some 12, .bin .gtr, [.slot 11, .lit (.int .i64 50)], none⟩])
    (.cond (.slot 12) (.seq (.reg [⟨some 13, .mv, [.slot 5], none⟩,
       ⟨some 4, .give, [.slot 5], none⟩])
     (.ret))
    (.skip)))
   (.seq (.seq (.reg [⟨some 6, .take, [.lit (.int .i64 0)], none⟩])
    (.block 0 (.loop (.seq (.seq (.reg [⟨some 14, .mv, [.slot 6], none⟩,
         ⟨some 15, .mv, [.slot 0], none⟩,
         ⟨some 16, .lenL, [.slot 0], none⟩,
         ⟨some 17, .bin .lss, [.slot 6, .slot 16], none⟩])
       (.cond (.slot 17) (.skip)
       (.exit 0)))
      (.seq (.block 1 (.seq (.reg [⟨some 20, .mv, [.slot 0], none⟩,
          ⟨some 21, .mv, [.slot 6], none⟩,
          ⟨some 22, .idxB 1, [.slot 0, .slot 6], none⟩,
          ⟨some 23, .load 1 false, [.slot 22], none⟩,
          ⟨some 24, .lenS, [.slot 23], none⟩,
          ⟨some 25, .bin .gtr, [.slot 24, .lit (.int .i64 100)], none⟩])
        (.cond (.slot 25) (.seq (.reg [⟨some 26, .mv, [.slot 5], none⟩,
           ⟨some 4, .give, [.slot 5], none⟩])
         (.ret))
        (.skip))))
      (.reg [⟨some 18, .mv, [.slot 6], none⟩,
       ⟨some 19, .bin .add, [.slot 6, .lit (.int .i64 1)], none⟩,
       ⟨some 6, .give, [.slot 19], none⟩]))))))
   (.seq (.seq (.reg [⟨some 27, .mv, [.slot 0], none⟩,
      ⟨some 28, .call 22, [.slot 0], none⟩,
      ⟨some 29, .un .not, [.slot 28], none⟩])
    (.cond (.slot 29) (.seq (.reg [⟨some 30, .mv, [.slot 5], none⟩,
       ⟨some 31, .mv, [.slot 5], none⟩,
       ⟨some 32, .take, [.slot 0], some (31, true)⟩,
       ⟨some 33, .lenL, [.slot 32], some (31, true)⟩,
       ⟨some 34, .bin .gtr, [.slot 33, .lit (.int .i64 0)], some (31, true)⟩,
       ⟨some 35, .pick, [.slot 5, .slot 34, .lit (.bool false)], none⟩,
       ⟨some 4, .give, [.slot 35], none⟩])
     (.ret))
    (.skip)))
   (.seq (.seq (.reg [⟨some 7, .take, [.lit (.int .i64 0)], none⟩])
    (.block 2 (.loop (.seq (.seq (.reg [⟨some 36, .mv, [.slot 7], none⟩,
         ⟨some 37, .mv, [.slot 0], none⟩,
         ⟨some 38, .lenL, [.slot 0], none⟩,
         ⟨some 39, .bin .lss, [.slot 7, .slot 38], none⟩])
       (.cond (.slot 39) (.skip)
       (.exit 2)))
      (.seq (.block 3 (.seq (.reg [⟨some 8, .take, [.lit (.int .i64 0)], none⟩])
        (.block 4 (.loop (.seq (.seq (.reg [⟨some 42, .mv, [.slot 8], none⟩,
             ⟨some 43, .mv, [.slot 7], none⟩,
             ⟨some 44, .bin .lss, [.slot 8, .slot 7], none⟩])
           (.cond (.slot 44) (.skip)
           (.exit 4)))
          (.seq (.block 5 (.seq (.reg [⟨some 47, .mv, [.slot 0], none⟩,
       ⟨some 48, .mv, [.slot 7], none⟩,
       ⟨some 49, .idxA 1, [.slot 0, .slot 7], none⟩,
       ⟨some 50, .load 1 false, [.slot 49], none⟩,
       ⟨some 51, .mv, [.slot 0], none⟩,
       ⟨some 52, .mv, [.slot 8], none⟩,
       ⟨some 53, .idxA 1, [.slot 0, .slot 8], none⟩,
       ⟨some 54, .load 1 false, [.slot 53], none⟩,
       ⟨some 55, .bin .eql, [.slot 50, .slot 54], none⟩])
            (.cond (.slot 55) (.seq (.reg [⟨some 4, .give, [.lit (.bool false)], none⟩])
             (.ret))
            (.skip))))
          (.reg [⟨some 45, .mv, [.slot 8], none⟩,
           ⟨some 46, .bin .add, [.slot 8, .lit (.int .i64 1)], none⟩,
           ⟨some 8, .give, [.slot 46], none⟩])))))))
      (.reg [⟨some 40, .mv, [.slot 7], none⟩,
       ⟨some 41, .bin .add, [.slot 7, .lit (.int .i64 1)], none⟩,
       ⟨some 7, .give, [.slot 41], none⟩]))))))
   (.seq (.seq (.reg [⟨some 56, .mv, [.slot 1], none⟩,
      ⟨some 57, .bin .lss, [.slot 1, .lit (.int .i64 0)], none⟩,
      ⟨some 58, .mv, [.slot 57], none⟩,
      ⟨some 59, .take, [.slot 1], some (58, false)⟩,
      ⟨some 60, .take, [.slot 0], some (58, false)⟩,
      ⟨some 61, .lenL, [.slot 60], some (58, false)⟩,
      ⟨some 62, .bin .geq, [.slot 59, .slot 61], some (58, false)⟩,
      ⟨some 63, .pick, [.slot 57, .lit (.bool true), .slot 62], none⟩])
    (.cond (.slot 63) (.seq (.reg [⟨some 64, .mv, [.slot 5], none⟩,
       ⟨some 4, .give, [.slot 5], none⟩])
     (.ret))
    (.skip)))
   (.seq (.reg [⟨some 65, .mv, [.slot 5], none⟩,
       ⟨some 66, .mv, [.slot 5], none⟩,
       ⟨some 67, .bsl 1 0 [.str []] [], [], some (66, true)⟩,
       ⟨some 68, .mv, [.slot 0], some (66, true)⟩,
       ⟨some 69, .mv, [.slot 1], some (66, true)⟩,
       ⟨some 70, .slcL 1 false true false, [.slot 68, .slot 69], some (66, true)⟩,
       ⟨some 71, .app 1 16 [.str []], [.slot 67, .slot 70], some (66, true)⟩,
       ⟨some 72, .mv, [.slot 0], some (66, true)⟩,
       ⟨some 73, .mv, [.slot 1], some (66, true)⟩,
       ⟨some 74, .bin .add, [.slot 73, .lit (.int .i64 1)], some (66, true)⟩,
       ⟨some 75, .slcL 1 true false false, [.slot 72, .slot 74], some (66, true)⟩,
       ⟨some 76, .app 1 16 [.str []], [.slot 71, .slot 75], some (66, true)⟩,
       ⟨some 77, .call 22, [.slot 76], some (66, true)⟩,
       ⟨some 78, .pick, [.slot 65, .slot 77, .lit (.bool false)], none⟩,
       ⟨some 79, .mv, [.slot 78], none⟩,
       ⟨some 80, .bsl 1 0 [.str []] [], [], some (79, true)⟩,
       ⟨some 81, .mv, [.slot 0], some (79, true)⟩,
       ⟨some 82, .app 1 16 [.str []], [.slot 80, .slot 81], some (79, true)⟩,
       ⟨some 83, .mv, [.slot 0], some (79, true)⟩,
       ⟨some 84, .mv, [.slot 1], some (79, true)⟩,
       ⟨some 85, .idxA 1, [.slot 83, .slot 84], some (79, true)⟩,
       ⟨some 86, .load 1 false, [.slot 85], some (79, true)⟩,
       ⟨some 87, .bsl 1 1 [.str []] [0], [.slot 86], some (79, true)⟩,
       ⟨some 88, .app 1 16 [.str []], [.slot 82, .slot 87], some (79, true)⟩,
       ⟨some 89, .call 22, [.slot 88], some (79, true)⟩,
       ⟨some 90, .un .not, [.slot 89], some (79, true)⟩,
       ⟨some 91, .pick, [.slot 78, .slot 90, .lit (.bool false)], none⟩,
       ⟨some 4, .give, [.slot 91], none⟩])
   (.ret))))))))),
  92, [.tmp 4]⟩
theorem c8 : cFunc Proofs.Tryd.prog 8 = some sf8 := by kernel_rfl
/-- carpetbag/carpetbaglaw03.PathBytes -/
def sf9 : SF := ⟨(.seq (.reg [⟨some 6, .give, [.lit (.bool false)], none⟩])
   (.seq (.reg [⟨some 11, .call 10, [], none⟩,
     ⟨some 7, .give, [.slot 11], none⟩])
   (.seq (.seq (.reg [⟨some 12, .mv, [.slot 0], none⟩,
      ⟨some 13, .lenS, [.slot 0], none⟩,
      ⟨some 14, .bin .gtr, [.slot 13, .lit (.int .i64 12)], none⟩,
      ⟨some 15, .mv, [.slot 14], none⟩,
      ⟨some 16, .take, [.slot 0], some (15, false)⟩,
      ⟨some 17, .call 14, [.slot 16], some (15, false)⟩,
      ⟨some 18, .un .not, [.slot 17], some (15, false)⟩,
      ⟨some 19, .pick, [.slot 14, .lit (.bool true), .slot 18], none⟩,
      ⟨some 20, .mv, [.slot 19], none⟩,
      ⟨some 21, .take, [.slot 1], some (20, false)⟩,
      ⟨some 22, .bin .lss, [.slot 21, .lit (.int .i64 0)], some (20, false)⟩,
      ⟨some 23, .pick, [.slot 19, .lit (.bool true), .slot 22], none⟩,
      ⟨some 24, .mv, [.slot 23], none⟩,
      ⟨some 25, .take, [.slot 1], some (24, false)⟩,
      ⟨some 26, .take, [.slot 0], some (24, false)⟩,
      ⟨some 27, .lenS, [.slot 26], some (24, false)⟩,
      ⟨some 28, .bin .geq, [.slot 25, .slot 27], some (24, false)⟩,
      ⟨some 29, .pick, [.slot 23, .lit (.bool true), .slot 28], none⟩])
    (.cond (.slot 29) (.seq (.reg [⟨some 30, .mv, [.slot 7], none⟩,
       ⟨some 6, .give, [.slot 7], none⟩])
     (.ret))
    (.skip)))
   (.seq (.reg [⟨some 31, .mv, [.slot 0], none⟩,
     ⟨some 32, .s2b, [.slot 0], none⟩,
     ⟨some 8, .giveO, [.slot 32], none⟩])
   (.seq (.reg [⟨some 33, .mv, [.slot 8], none⟩,
     ⟨some 34, .mv, [.slot 1], none⟩,
     ⟨some 35, .mv, [.slot 2], none⟩,
     ⟨some 36, .idxB 1, [.slot 8, .slot 1], none⟩,
     ⟨none, .store 1 false, [.slot 36, .slot 2], none⟩])
   (.seq (.reg [⟨some 37, .mv, [.slot 8], none⟩,
     ⟨some 38, .b2s, [.slot 8], none⟩,
     ⟨some 9, .give, [.slot 38], none⟩])
   (.seq (.reg [⟨some 39, .mv, [.slot 2], none⟩,
     ⟨some 40, .bin .geq, [.slot 2, .lit (.int .u8 97)], none⟩,
     ⟨some 41, .mv, [.slot 40], none⟩,
     ⟨some 42, .take, [.slot 2], some (41, true)⟩,
     ⟨some 43, .bin .leq, [.slot 42, .lit (.int .u8 122)], some (41, true)⟩,
     ⟨some 44, .pick, [.slot 40, .slot 43, .lit (.bool false)], none⟩,
     ⟨some 45, .mv, [.slot 44], none⟩,
     ⟨some 46, .take, [.slot 2], some (45, false)⟩,
     ⟨some 47, .bin .geq, [.slot 46, .lit (.int .u8 48)], some (45, false)⟩,
     ⟨some 48, .take, [.slot 47], some (45, false)⟩,
     ⟨some 49, .take, [.slot 2], some (48, true)⟩,
     ⟨some 50, .bin .leq, [.slot 49, .lit (.int .u8 57)], some (48, true)⟩,
     ⟨some 51, .pick, [.slot 48, .slot 50, .lit (.bool false)], some (45, false)⟩,
     ⟨some 52, .pick, [.slot 44, .lit (.bool true), .slot 51], none⟩,
     ⟨some 53, .mv, [.slot 52], none⟩,
     ⟨some 54, .take, [.slot 2], some (53, false)⟩,
     ⟨some 55, .bin .eql, [.slot 54, .lit (.int .u8 46)], some (53, false)⟩,
     ⟨some 56, .pick, [.slot 52, .lit (.bool true), .slot 55], none⟩,
     ⟨some 57, .mv, [.slot 56], none⟩,
     ⟨some 58, .take, [.slot 2], some (57, false)⟩,
     ⟨some 59, .bin .eql, [.slot 58, .lit (.int .u8 45)], some (57, false)⟩,
     ⟨some 60, .pick, [.slot 56, .lit (.bool true), .slot 59], none⟩,
     ⟨some 10, .give, [.slot 60], none⟩])
   (.seq (.reg [⟨some 61, .mv, [.slot 7], none⟩,
     ⟨some 62, .mv, [.slot 7], none⟩,
     ⟨some 63, .take, [.slot 9], some (62, true)⟩,
     ⟨some 64, .call 14, [.slot 63], some (62, true)⟩,
     ⟨some 65, .take, [.slot 10], some (62, true)⟩,
     ⟨some 66, .take, [.slot 65], some (62, true)⟩,
     ⟨some 67, .take, [.slot 9], some (66, true)⟩,
     ⟨some 68, .bin .neq, [.slot 67, .lit (.str [46])], some (66, true)⟩,
     ⟨some 69, .pick, [.slot 66, .slot 68, .lit (.bool false)], some (62, true)⟩,
     ⟨some 70, .take, [.slot 69], some (62, true)⟩,
     ⟨some 71, .take, [.slot 9], some (70, true)⟩,
     ⟨some 72, .bin .neq, [.slot 71, .lit (.str [46, 46])], some (70, true)⟩,
     ⟨some 73, .pick, [.slot 70, .slot 72, .lit (.bool false)], some (62, true)⟩,
     ⟨some 74, .eqB false, [.slot 64, .slot 73], some (62, true)⟩,
     ⟨some 75, .pick, [.slot 7, .slot 74, .lit (.bool false)], none⟩,
     ⟨some 76, .mv, [.slot 75], none⟩,
     ⟨some 77, .take, [.slot 2], some (76, true)⟩,
     ⟨some 78, .bin .eql, [.slot 77, .lit (.int .u8 47)], some (76, true)⟩,
     ⟨some 79, .take, [.slot 78], some (76, true)⟩,
     ⟨some 80, .take, [.slot 9], some (79, false)⟩,
     ⟨some 81, .call 16, [.slot 80], some (79, false)⟩,
     ⟨some 82, .take, [.slot 9], some (79, false)⟩,
     ⟨some 83, .call 14, [.slot 82], some (79, false)⟩,
     ⟨some 84, .eqB false, [.slot 81, .slot 83], some (79, false)⟩,
     ⟨some 85, .pick, [.slot 79, .lit (.bool true), .slot 84], some (76, true)⟩,
     ⟨some 86, .pick, [.slot 75, .slot 85, .lit (.bool false)], none⟩,
     ⟨some 6, .give, [.slot 86], none⟩])
   (.ret))))))))),
  87, [.tmp 6]⟩
theorem c9 : cFunc Proofs.Tryd.prog 9 = some sf9 := by kernel_rfl
/-- carpetbag/carpetbaglaw03.small -/
def sf10 : SF := ⟨(.seq (.reg [⟨some 0, .give, [.lit (.bool false)], none⟩])
   (.seq (.reg [⟨some 1, .call 24, [.lit (.str [97, 47, 98, 47, 99]), .lit (.str [97])], none⟩,
     ⟨some 2, .mv, [.slot 1], none⟩,
     ⟨some 3, .call 24, [.lit (.str [97]), .lit (.str [97])], some (2, true)⟩,
     ⟨some 4, .un .not, [.slot 3], some (2, true)⟩,
     ⟨some 5, .pick, [.slot 1, .slot 4, .lit (.bool false)], none⟩,
     ⟨some 6, .mv, [.slot 5], none⟩,
     ⟨some 7, .call 26, [.lit (.str [97]), .lit (.str [97, 46, 98])], some (6, true)⟩,
     ⟨some 8, .un .not, [.slot 7], some (6, true)⟩,
     ⟨some 9, .pick, [.slot 5, .slot 8, .lit (.bool false)], none⟩,
     ⟨some 10, .mv, [.slot 9], none⟩,
     ⟨some 11, .call 26, [.lit (.str [97, 47, 98]), .lit (.str [97, 47, 98, 47, 99])], some (10, true)⟩,
     ⟨some 12, .pick, [.slot 9, .slot 11, .lit (.bool false)], none⟩,
     ⟨some 13, .mv, [.slot 12], none⟩,
     ⟨some 14, .call 20, [.lit (.str [97, 47, 98, 47, 99])], some (13, true)⟩,
     ⟨some 15, .bin .eql, [.slot 14, .lit (.str [97, 47, 98])], some (13, true)⟩,
     ⟨some 16, .pick, [.slot 12, .slot 15, .lit (.bool false)], none⟩,
     ⟨some 17, .mv, [.slot 16], none⟩,
     ⟨some 18, .call 20, [.lit (.str [97])], some (17, true)⟩,
     ⟨some 19, .bin .eql, [.slot 18, .lit (.str [])], some (17, true)⟩,
     ⟨some 20, .pick, [.slot 16, .slot 19, .lit (.bool false)], none⟩,
     ⟨some 21, .mv, [.slot 20], none⟩,
     ⟨some 22, .bsl 1 2 [.str []] [0, 1], [.lit (.str [97]), .lit (.str [98, 45, 49])], some (21, true)⟩,
     ⟨some 23, .call 18, [.slot 22], some (21, true)⟩,
     ⟨some 24, .bin .eql, [.slot 23, .lit (.str [97, 47, 98, 45, 49])], some (21, true)⟩,
     ⟨some 25, .pick, [.slot 20, .slot 24, .lit (.bool false)], none⟩,
     ⟨some 26, .mv, [.slot 25], none⟩,
     ⟨some 27, .call 18, [.lit (.nilS)], some (26, true)⟩,
     ⟨some 28, .bin .eql, [.slot 27, .lit (.str [])], some (26, true)⟩,
     ⟨some 29, .pick, [.slot 25, .slot 28, .lit (.bool false)], none⟩,
     ⟨some 30, .mv, [.slot 29], none⟩,
     ⟨some 31, .call 11, [.lit (.str [97, 47, 98])], some (30, true)⟩,
     ⟨some 32, .lenL, [.slot 31], some (30, true)⟩,
     ⟨some 33, .bin .eql, [.slot 32, .lit (.int .i64 2)], some (30, true)⟩,
     ⟨some 34, .pick, [.slot 29, .slot 33, .lit (.bool false)], none⟩,
     ⟨some 35, .mv, [.slot 34], none⟩,
     ⟨some 36, .call 16, [.lit (.str [97, 47, 47, 98])], some (35, true)⟩,
     ⟨some 37, .un .not, [.slot 36], some (35, true)⟩,
     ⟨some 38, .pick, [.slot 34, .slot 37, .lit (.bool false)], none⟩,
     ⟨some 39, .mv, [.slot 38], none⟩,
     ⟨some 40, .call 16, [.lit (.str [97, 47, 98, 47, 99, 47, 100, 47, 101])], some (39, true)⟩,
     ⟨some 41, .un .not, [.slot 40], some (39, true)⟩,
     ⟨some 42, .pick, [.slot 38, .slot 41, .lit (.bool false)], none⟩,
     ⟨some 43, .mv, [.slot 42], none⟩,
     ⟨some 44, .call 14, [.lit (.str [46, 46])], some (43, true)⟩,
     ⟨some 45, .un .not, [.slot 44], some (43, true)⟩,
     ⟨some 46, .pick, [.slot 42, .slot 45, .lit (.bool false)], none⟩,
     ⟨some 47, .mv, [.slot 46], none⟩,
     ⟨some 48, .bsl 1 3 [.str []] [0, 1, 2], [.lit (.str [97]), .lit (.str [97, 46, 98]), .lit (.str [97, 47, 98])], some (47, true)⟩,
     ⟨some 49, .call 22, [.slot 48], some (47, true)⟩,
     ⟨some 50, .pick, [.slot 46, .slot 49, .lit (.bool false)], none⟩,
     ⟨some 0, .give, [.slot 50], none⟩])
   (.ret))),
  51, [.tmp 0]⟩
theorem c10 : cFunc Proofs.Tryd.prog 10 = some sf10 := by kernel_rfl
/-- carpetbag/path.Names -/
def sf11 : SF := ⟨(.seq (.reg [⟨some 2, .give, [.lit (.nilS)], none⟩])
   (.seq (.reg [⟨some 6, .mv, [.slot 0], none⟩,
     ⟨some 7, .call 27, [.slot 0, .lit (.str [47])], none⟩,
     ⟨some 3, .give, [.slot 7], none⟩])
   (.seq (.seq (.reg [⟨some 8, .mv, [.slot 3], none⟩,
      ⟨some 9, .lenL, [.slot 3], none⟩,
      ⟨some 10, .bin .gtr, [.slot 9, .lit (.int .i64 4)], none⟩])
    (.cond (.slot 10) (.seq (.reg [⟨some 2, .give, [.lit (.nilS)], none⟩])
     (.ret))
    (.skip)))
   (.seq (.seq (.reg [⟨some 11, .mv, [.slot 3], none⟩,
      ⟨some 12, .lenL, [.slot 3], none⟩,
      ⟨some 13, .mv, [.lit (.int .i64 0)], none⟩])
    (.block 0 (.loop (.seq (.reg [⟨some 14, .bin .lss, [.slot 13, .slot 12], none⟩])
      (.seq (.cond (.slot 14) (.skip)
       (.exit 0))
      (.seq (.block 1 (.seq (.reg [⟨some 15, .idxB 1, [.slot 11, .slot 13], none⟩,
          ⟨some 16, .load 1 false, [.slot 15], none⟩,
          ⟨some 5, .give, [.slot 16], none⟩])
        (.seq (.reg [⟨some 17, .mv, [.slot 5], none⟩,
          ⟨some 18, .call 14, [.slot 5], none⟩,
          ⟨some 19, .un .not, [.slot 18], none⟩])
        (.cond (.slot 19) (.seq (.reg [⟨some 2, .give, [.lit (.nilS)], none⟩])
         (.ret))
        (.skip)))))
      (.reg [⟨some 20, .bin .add, [.slot 13, .lit (.int .i64 1)], none⟩,
       ⟨some 13, .mv, [.slot 20], none⟩])))))))
   (.seq (.reg [⟨some 21, .mv, [.slot 3], none⟩,
     ⟨some 2, .give, [.slot 3], none⟩])
   (.ret)))))),
  22, [.tmp 2]⟩
theorem c11 : cFunc Proofs.Tryd.prog 11 = some sf11 := by kernel_rfl
/-- carpetbag/carpetbagref01.Rows -/
def sf12 : SF := ⟨(.seq (.reg [⟨some 4, .give, [.lit (.bool false)], none⟩])
   (.seq (.seq (.reg [⟨some 6, .mv, [.slot 0], none⟩,
      ⟨some 7, .lenL, [.slot 0], none⟩,
      ⟨some 8, .mv, [.slot 1], none⟩,
      ⟨some 9, .lenL, [.slot 1], none⟩,
      ⟨some 10, .bin .neq, [.slot 7, .slot 9], none⟩])
    (.cond (.slot 10) (.seq (.reg [⟨some 4, .give, [.lit (.bool false)], none⟩])
     (.ret))
    (.skip)))
   (.seq (.seq (.reg [⟨some 5, .take, [.lit (.int .i64 0)], none⟩])
    (.block 0 (.loop (.seq (.seq (.reg [⟨some 11, .mv, [.slot 5], none⟩,
         ⟨some 12, .mv, [.slot 0], none⟩,
         ⟨some 13, .lenL, [.slot 0], none⟩,
         ⟨some 14, .bin .lss, [.slot 5, .slot 13], none⟩])
       (.cond (.slot 14) (.skip)
       (.exit 0)))
      (.seq (.block 1 (.seq (.reg [⟨some 17, .mv, [.slot 0], none⟩,
       ⟨some 18, .mv, [.slot 5], none⟩,
       ⟨some 19, .idxA 1, [.slot 0, .slot 5], none⟩,
       ⟨some 20, .load 1 false, [.slot 19], none⟩,
       ⟨some 21, .mv, [.slot 1], none⟩,
       ⟨some 22, .mv, [.slot 5], none⟩,
       ⟨some 23, .idxA 1, [.slot 1, .slot 5], none⟩,
       ⟨some 24, .load 1 false, [.slot 23], none⟩,
       ⟨some 25, .bin .neq, [.slot 20, .slot 24], none⟩])
        (.cond (.slot 25) (.seq (.reg [⟨some 4, .give, [.lit (.bool false)], none⟩])
         (.ret))
        (.skip))))
      (.reg [⟨some 15, .mv, [.slot 5], none⟩,
       ⟨some 16, .bin .add, [.slot 5, .lit (.int .i64 1)], none⟩,
       ⟨some 5, .give, [.slot 16], none⟩]))))))
   (.seq (.reg [⟨some 4, .give, [.lit (.bool true)], none⟩])
   (.ret))))),
  26, [.tmp 4]⟩
theorem c12 : cFunc Proofs.Tryd.prog 12 = some sf12 := by kernel_rfl
/-- carpetbag/carpetbagref03.Names -/
def sf13 : SF := ⟨(.seq (.reg [⟨some 2, .give, [.lit (.nilS)], none⟩])
   (.seq (.seq (.reg [⟨some 3, .mv, [.slot 0], none⟩,
      ⟨some 4, .call 17, [.slot 0], none⟩,
      ⟨some 5, .un .not, [.slot 4], none⟩])
    (.cond (.slot 5) (.seq (.reg [⟨some 2, .give, [.lit (.nilS)], none⟩])
     (.ret))
    (.skip)))
   (.seq (.reg [⟨some 6, .mv, [.slot 0], none⟩,
     ⟨some 7, .call 28, [.slot 0], none⟩,
     ⟨some 2, .give, [.slot 7], none⟩])
   (.ret)))),
  8, [.tmp 2]⟩
theorem c13 : cFunc Proofs.Tryd.prog 13 = some sf13 := by kernel_rfl
/-- carpetbag/path.Name -/
def sf14 : SF := ⟨(.seq (.reg [⟨some 2, .give, [.lit (.bool false)], none⟩])
   (.seq (.seq (.reg [⟨some 6, .mv, [.slot 0], none⟩,
      ⟨some 7, .s2b, [.slot 0], none⟩,
      ⟨some 8, .lenL, [.slot 7], none⟩,
      ⟨some 9, .mv, [.lit (.int .i64 0)], none⟩])
    (.block 0 (.loop (.seq (.reg [⟨some 10, .bin .lss, [.slot 9, .slot 8], none⟩])
      (.seq (.cond (.slot 10) (.skip)
       (.exit 0))
      (.seq (.block 1 (.seq (.reg [⟨some 11, .idxB 1, [.slot 7, .slot 9], none⟩,
          ⟨some 12, .load 1 false, [.slot 11], none⟩,
          ⟨some 4, .give, [.slot 12], none⟩])
        (.seq (.reg [⟨some 13, .mv, [.slot 4], none⟩,
          ⟨some 14, .bin .geq, [.slot 4, .lit (.int .u8 97)], none⟩,
          ⟨some 15, .mv, [.slot 14], none⟩,
          ⟨some 16, .take, [.slot 4], some (15, true)⟩,
          ⟨some 17, .bin .leq, [.slot 16, .lit (.int .u8 122)], some (15, true)⟩,
          ⟨some 18, .pick, [.slot 14, .slot 17, .lit (.bool false)], none⟩,
          ⟨some 19, .mv, [.slot 18], none⟩,
          ⟨some 20, .take, [.slot 4], some (19, false)⟩,
          ⟨some 21, .bin .geq, [.slot 20, .lit (.int .u8 48)], some (19, false)⟩,
          ⟨some 22, .take, [.slot 21], some (19, false)⟩,
          ⟨some 23, .take, [.slot 4], some (22, true)⟩,
          ⟨some 24, .bin .leq, [.slot 23, .lit (.int .u8 57)], some (22, true)⟩,
          ⟨some 25, .pick, [.slot 22, .slot 24, .lit (.bool false)], some (19, false)⟩,
          ⟨some 26, .pick, [.slot 18, .lit (.bool true), .slot 25], none⟩,
          ⟨some 5, .give, [.slot 26], none⟩])
        (.seq (.reg [⟨some 27, .mv, [.slot 5], none⟩,
          ⟨some 28, .un .not, [.slot 5], none⟩,
          ⟨some 29, .mv, [.slot 28], none⟩,
          ⟨some 30, .take, [.slot 4], some (29, true)⟩,
          ⟨some 31, .call 29, [.lit (.str [46, 45]), .slot 30], some (29, true)⟩,
          ⟨some 32, .bin .lss, [.slot 31, .lit (.int .i64 0)], some (29, true)⟩,
          ⟨some 33, .pick, [.slot 28, .slot 32, .lit (.bool false)], none⟩])
        (.cond (.slot 33) (.seq (.reg [⟨some 2, .give, [.lit (.bool false)], none⟩])
         (.ret))
        (.skip))))))
      (.reg [⟨some 34, .bin .add, [.slot 9, .lit (.int .i64 1)], none⟩,
       ⟨some 9, .mv, [.slot 34], none⟩])))))))
   (.seq (.reg [⟨some 35, .mv, [.slot 0], none⟩,
     ⟨some 36, .lenS, [.slot 0], none⟩,
     ⟨some 37, .bin .gtr, [.slot 36, .lit (.int .i64 0)], none⟩,
     ⟨some 38, .mv, [.slot 37], none⟩,
     ⟨some 39, .take, [.slot 0], some (38, true)⟩,
     ⟨some 40, .lenS, [.slot 39], some (38, true)⟩,
     ⟨some 41, .bin .leq, [.slot 40, .lit (.int .i64 12)], some (38, true)⟩,
     ⟨some 42, .pick, [.slot 37, .slot 41, .lit (.bool false)], none⟩,
     ⟨some 43, .mv, [.slot 42], none⟩,
     ⟨some 44, .take, [.slot 0], some (43, true)⟩,
     ⟨some 45, .bin .neq, [.slot 44, .lit (.str [46])], some (43, true)⟩,
     ⟨some 46, .pick, [.slot 42, .slot 45, .lit (.bool false)], none⟩,
     ⟨some 47, .mv, [.slot 46], none⟩,
     ⟨some 48, .take, [.slot 0], some (47, true)⟩,
     ⟨some 49, .bin .neq, [.slot 48, .lit (.str [46, 46])], some (47, true)⟩,
     ⟨some 50, .pick, [.slot 46, .slot 49, .lit (.bool false)], none⟩,
     ⟨some 2, .give, [.slot 50], none⟩])
   (.ret)))),
  51, [.tmp 2]⟩
theorem c14 : cFunc Proofs.Tryd.prog 14 = some sf14 := by kernel_rfl
/-- carpetbag/carpetbagref03.Name -/
def sf15 : SF := ⟨(.seq (.reg [⟨some 2, .give, [.lit (.bool false)], none⟩])
   (.seq (.seq (.reg [⟨some 5, .mv, [.slot 0], none⟩,
      ⟨some 6, .lenS, [.slot 0], none⟩,
      ⟨some 7, .bin .lss, [.slot 6, .lit (.int .i64 1)], none⟩,
      ⟨some 8, .mv, [.slot 7], none⟩,
      ⟨some 9, .take, [.slot 0], some (8, false)⟩,
      ⟨some 10, .lenS, [.slot 9], some (8, false)⟩,
      ⟨some 11, .bin .gtr, [.slot 10, .lit (.int .i64 12)], some (8, false)⟩,
      ⟨some 12, .pick, [.slot 7, .lit (.bool true), .slot 11], none⟩,
      ⟨some 13, .mv, [.slot 12], none⟩,
      ⟨some 14, .take, [.slot 0], some (13, false)⟩,
      ⟨some 15, .bin .eql, [.slot 14, .lit (.str [46])], some (13, false)⟩,
      ⟨some 16, .pick, [.slot 12, .lit (.bool true), .slot 15], none⟩,
      ⟨some 17, .mv, [.slot 16], none⟩,
      ⟨some 18, .take, [.slot 0], some (17, false)⟩,
      ⟨some 19, .bin .eql, [.slot 18, .lit (.str [46, 46])], some (17, false)⟩,
      ⟨some 20, .pick, [.slot 16, .lit (.bool true), .slot 19], none⟩])
    (.cond (.slot 20) (.seq (.reg [⟨some 2, .give, [.lit (.bool false)], none⟩])
     (.ret))
    (.skip)))
   (.seq (.seq (.reg [⟨some 3, .take, [.lit (.int .i64 0)], none⟩])
    (.block 0 (.loop (.seq (.seq (.reg [⟨some 21, .mv, [.slot 3], none⟩,
         ⟨some 22, .mv, [.slot 0], none⟩,
         ⟨some 23, .lenS, [.slot 0], none⟩,
         ⟨some 24, .bin .lss, [.slot 3, .slot 23], none⟩])
       (.cond (.slot 24) (.skip)
       (.exit 0)))
      (.seq (.block 1 (.seq (.reg [⟨some 27, .mv, [.slot 0], none⟩,
          ⟨some 28, .mv, [.slot 3], none⟩,
          ⟨some 29, .idxS, [.slot 0, .slot 3], none⟩,
          ⟨some 4, .give, [.slot 29], none⟩])
        (.seq (.reg [⟨some 30, .mv, [.slot 4], none⟩,
          ⟨some 31, .bin .geq, [.slot 4, .lit (.int .u8 97)], none⟩,
          ⟨some 32, .mv, [.slot 31], none⟩,
          ⟨some 33, .take, [.slot 4], some (32, true)⟩,
          ⟨some 34, .bin .leq, [.slot 33, .lit (.int .u8 122)], some (32, true)⟩,
          ⟨some 35, .pick, [.slot 31, .slot 34, .lit (.bool false)], none⟩,
          ⟨some 36, .mv, [.slot 35], none⟩,
          ⟨some 37, .take, [.slot 4], some (36, false)⟩,
          ⟨some 38, .bin .geq, [.slot 37, .lit (.int .u8 48)], some (36, false)⟩,
          ⟨some 39, .take, [.slot 38], some (36, false)⟩,
          ⟨some 40, .take, [.slot 4], some (39, true)⟩,
          ⟨some 41, .bin .leq, [.slot 40, .lit (.int .u8 57)], some (39, true)⟩,
          ⟨some 42, .pick, [.slot 39, .slot 41, .lit (.bool false)], some (36, false)⟩,
          ⟨some 43, .pick, [.slot 35, .lit (.bool true), .slot 42], none⟩,
          ⟨some 44, .mv, [.slot 43], none⟩,
          ⟨some 45, .take, [.slot 4], some (44, false)⟩,
          ⟨some 46, .bin .eql, [.slot 45, .lit (.int .u8 46)], some (44, false)⟩,
          ⟨some 47, .pick, [.slot 43, .lit (.bool true), .slot 46], none⟩,
          ⟨some 48, .mv, [.slot 47], none⟩,
          ⟨some 49, .take, [.slot 4], some (48, false)⟩,
          ⟨some 50, .bin .eql, [.slot 49, .lit (.int .u8 45)], some (48, false)⟩,
          ⟨some 51, .pick, [.slot 47, .lit (.bool true), .slot 50], none⟩,
          ⟨some 52, .un .not, [.slot 51], none⟩])
        (.cond (.slot 52) (.seq (.reg [⟨some 2, .give, [.lit (.bool false)], none⟩])
         (.ret))
        (.skip)))))
      (.reg [⟨some 25, .mv, [.slot 3], none⟩,
       ⟨some 26, .bin .add, [.slot 3, .lit (.int .i64 1)], none⟩,
       ⟨some 3, .give, [.slot 26], none⟩]))))))
   (.seq (.reg [⟨some 2, .give, [.lit (.bool true)], none⟩])
   (.ret))))),
  53, [.tmp 2]⟩
theorem c15 : cFunc Proofs.Tryd.prog 15 = some sf15 := by kernel_rfl
/-- carpetbag/path.Right -/
def sf16 : SF := ⟨(.seq (.reg [⟨some 2, .give, [.lit (.bool false)], none⟩])
   (.seq (.reg [⟨some 3, .mv, [.slot 0], none⟩,
     ⟨some 4, .call 11, [.slot 0], none⟩,
     ⟨some 5, .lenL, [.slot 4], none⟩,
     ⟨some 6, .bin .gtr, [.slot 5, .lit (.int .i64 0)], none⟩,
     ⟨some 2, .give, [.slot 6], none⟩])
   (.ret))),
  7, [.tmp 2]⟩
theorem c16 : cFunc Proofs.Tryd.prog 16 = some sf16 := by kernel_rfl
/-- carpetbag/carpetbagref03.Right -/
def sf17 : SF := ⟨(.seq (.reg [⟨some 2, .give, [.lit (.bool false)], none⟩])
   (.seq (.reg [⟨some 5, .mv, [.slot 0], none⟩,
     ⟨some 6, .call 28, [.slot 0], none⟩,
     ⟨some 3, .give, [.slot 6], none⟩])
   (.seq (.seq (.reg [⟨some 7, .mv, [.slot 3], none⟩,
      ⟨some 8, .lenL, [.slot 3], none⟩,
      ⟨some 9, .bin .gtr, [.slot 8, .lit (.int .i64 4)], none⟩])
    (.cond (.slot 9) (.seq (.reg [⟨some 2, .give, [.lit (.bool false)], none⟩])
     (.ret))
    (.skip)))
   (.seq (.seq (.reg [⟨some 4, .take, [.lit (.int .i64 0)], none⟩])
    (.block 0 (.loop (.seq (.seq (.reg [⟨some 10, .mv, [.slot 4], none⟩,
         ⟨some 11, .mv, [.slot 3], none⟩,
         ⟨some 12, .lenL, [.slot 3], none⟩,
         ⟨some 13, .bin .lss, [.slot 4, .slot 12], none⟩])
       (.cond (.slot 13) (.skip)
       (.exit 0)))
      (.seq (.block 1 (.seq (.reg [⟨some 16, .mv, [.slot 3], none⟩,
          ⟨some 17, .mv, [.slot 4], none⟩,
          ⟨some 18, .idxB 1, [.slot 3, .slot 4], none⟩,
          ⟨some 19, .load 1 false, [.slot 18], none⟩,
          ⟨some 20, .call 15, [.slot 19], none⟩,
          ⟨some 21, .un .not, [.slot 20], none⟩])
        (.cond (.slot 21) (.seq (.reg [⟨some 2, .give, [.lit (.bool false)], none⟩])
         (.ret))
        (.skip))))
      (.reg [⟨some 14, .mv, [.slot 4], none⟩,
       ⟨some 15, .bin .add, [.slot 4, .lit (.int .i64 1)], none⟩,
       ⟨some 4, .give, [.slot 15], none⟩]))))))
   (.seq (.reg [⟨some 2, .give, [.lit (.bool true)], none⟩])
   (.ret)))))),
  22, [.tmp 2]⟩
theorem c17 : cFunc Proofs.Tryd.prog 17 = some sf17 := by kernel_rfl
/-- carpetbag/path.Join -/
def sf18 : SF := ⟨(.seq (.reg [⟨some 2, .give, [.lit (.str [])], none⟩])
   (.seq (.reg [⟨some 4, .mv, [.slot 0], none⟩,
     ⟨some 5, .call 30, [.slot 0, .lit (.str [47])], none⟩,
     ⟨some 3, .give, [.slot 5], none⟩])
   (.seq (.seq (.reg [⟨some 6, .mv, [.slot 3], none⟩,
      ⟨some 7, .call 11, [.slot 3], none⟩,
      ⟨some 8, .lenL, [.slot 7], none⟩,
      ⟨some 9, .mv, [.slot 0], none⟩,
      ⟨some 10, .lenL, [.slot 0], none⟩,
      ⟨some 11, .bin .neq, [.slot 8, .slot 10], none⟩])
    (.cond (.slot 11) (.seq (.reg [⟨some 2, .give, [.lit (.str [])], none⟩])
     (.ret))
    (.skip)))
   (.seq (.reg [⟨some 12, .mv, [.slot 3], none⟩,
     ⟨some 2, .give, [.slot 3], none⟩])
   (.ret))))),
  13, [.tmp 2]⟩
theorem c18 : cFunc Proofs.Tryd.prog 18 = some sf18 := by kernel_rfl
/-- carpetbag/carpetbagref03.Join -/
def sf19 : SF := ⟨(.seq (.reg [⟨some 2, .give, [.lit (.str [])], none⟩])
   (.seq (.reg [⟨some 3, .take, [.lit (.str [])], none⟩])
   (.seq (.seq (.reg [⟨some 4, .take, [.lit (.int .i64 0)], none⟩])
    (.block 0 (.loop (.seq (.seq (.reg [⟨some 5, .mv, [.slot 4], none⟩,
         ⟨some 6, .mv, [.slot 0], none⟩,
         ⟨some 7, .lenL, [.slot 0], none⟩,
         ⟨some 8, .bin .lss, [.slot 4, .slot 7], none⟩,
         ⟨some 9, .mv, [.slot 8], none⟩,
         ⟨some 10, .take, [.slot 4], some (9, true)⟩,
         ⟨some 11, .bin .lss, [.slot 10, .lit (.int .i64 5)], some (9, true)⟩,
         ⟨some 12, .pick, [.slot 8, .slot 11, .lit (.bool false)], none⟩])
       (.cond (.slot 12) (.skip)
       (.exit 0)))
      (.seq (.block 1 (.seq (.seq (.reg [⟨some 15, .mv, [.slot 0], none⟩,
           ⟨some 16, .mv, [.slot 4], none⟩,
           ⟨some 17, .idxB 1, [.slot 0, .slot 4], none⟩,
           ⟨some 18, .load 1 false, [.slot 17], none⟩,
           ⟨some 19, .call 15, [.slot 18], none⟩,
           ⟨some 20, .un .not, [.slot 19], none⟩])
         (.cond (.slot 20) (.seq (.reg [⟨some 2, .give, [.lit (.str [])], none⟩])
          (.ret))
         (.skip)))
        (.seq (.seq (.reg [⟨some 21, .mv, [.slot 4], none⟩,
           ⟨some 22, .bin .gtr, [.slot 4, .lit (.int .i64 0)], none⟩])
         (.cond (.slot 22) (.reg [⟨some 23, .mv, [.slot 3], none⟩,
           ⟨some 24, .bin .add, [.slot 3, .lit (.str [47])], none⟩,
           ⟨some 3, .give, [.slot 24], none⟩])
         (.skip)))
        (.reg [⟨some 25, .mv, [.slot 3], none⟩,
         ⟨some 26, .mv, [.slot 0], none⟩,
         ⟨some 27, .mv, [.slot 4], none⟩,
         ⟨some 28, .idxB 1, [.slot 0, .slot 4], none⟩,
         ⟨some 29, .load 1 false, [.slot 28], none⟩,
         ⟨some 30, .bin .add, [.slot 3, .slot 29], none⟩,
         ⟨some 3, .give, [.slot 30], none⟩]))))
      (.reg [⟨some 13, .mv, [.slot 4], none⟩,
       ⟨some 14, .bin .add, [.slot 4, .lit (.int .i64 1)], none⟩,
       ⟨some 4, .give, [.slot 14], none⟩]))))))
   (.seq (.seq (.reg [⟨some 31, .mv, [.slot 3], none⟩,
      ⟨some 32, .call 17, [.slot 3], none⟩,
      ⟨some 33, .un .not, [.slot 32], none⟩])
    (.cond (.slot 33) (.seq (.reg [⟨some 2, .give, [.lit (.str [])], none⟩])
     (.ret))
    (.skip)))
   (.seq (.reg [⟨some 34, .mv, [.slot 3], none⟩,
     ⟨some 2, .give, [.slot 3], none⟩])
   (.ret)))))),
  35, [.tmp 2]⟩
theorem c19 : cFunc Proofs.Tryd.prog 19 = some sf19 := by kernel_rfl
/-- carpetbag/path.Parent -/
def sf20 : SF := ⟨(.seq (.reg [⟨some 2, .give, [.lit (.str [])], none⟩])
   (.seq (.reg [⟨some 4, .mv, [.slot 0], none⟩,
     ⟨some 5, .call 11, [.slot 0], none⟩,
     ⟨some 3, .give, [.slot 5], none⟩])
   (.seq (.reg [⟨some 6, .mv, [.slot 3], none⟩,
     ⟨some 7, .mv, [.slot 3], none⟩,
     ⟨some 8, .lenL, [.slot 3], none⟩,
     ⟨some 9, .bin .sub, [.slot 8, .lit (.int .i64 1)], none⟩,
     ⟨some 10, .max, [.lit (.int .i64 0), .slot 9], none⟩,
     ⟨some 11, .slcL 1 false true false, [.slot 3, .slot 10], none⟩,
     ⟨some 12, .call 18, [.slot 11], none⟩,
     ⟨some 2, .give, [.slot 12], none⟩])
   (.ret)))),
  13, [.tmp 2]⟩
theorem c20 : cFunc Proofs.Tryd.prog 20 = some sf20 := by kernel_rfl
/-- carpetbag/carpetbagref03.Parent -/
def sf21 : SF := ⟨(.seq (.reg [⟨some 2, .give, [.lit (.str [])], none⟩])
   (.seq (.reg [⟨some 4, .mv, [.slot 0], none⟩,
     ⟨some 5, .call 13, [.slot 0], none⟩,
     ⟨some 3, .give, [.slot 5], none⟩])
   (.seq (.seq (.reg [⟨some 6, .mv, [.slot 3], none⟩,
      ⟨some 7, .lenL, [.slot 3], none⟩,
      ⟨some 8, .bin .lss, [.slot 7, .lit (.int .i64 2)], none⟩])
    (.cond (.slot 8) (.seq (.reg [⟨some 2, .give, [.lit (.str [])], none⟩])
     (.ret))
    (.skip)))
   (.seq (.reg [⟨some 9, .mv, [.slot 3], none⟩,
     ⟨some 10, .mv, [.slot 3], none⟩,
     ⟨some 11, .lenL, [.slot 3], none⟩,
     ⟨some 12, .bin .sub, [.slot 11, .lit (.int .i64 1)], none⟩,
     ⟨some 13, .slcL 1 false true false, [.slot 3, .slot 12], none⟩,
     ⟨some 14, .call 19, [.slot 13], none⟩,
     ⟨some 2, .give, [.slot 14], none⟩])
   (.ret))))),
  15, [.tmp 2]⟩
theorem c21 : cFunc Proofs.Tryd.prog 21 = some sf21 := by kernel_rfl
/-- carpetbag/path.Sorted -/
def sf22 : SF := ⟨(.seq (.reg [⟨some 2, .give, [.lit (.bool false)], none⟩])
   (.seq (.seq (.reg [⟨some 5, .mv, [.slot 0], none⟩,
      ⟨some 6, .lenL, [.slot 0], none⟩,
      ⟨some 7, .mv, [.lit (.int .i64 0)], none⟩])
    (.block 0 (.loop (.seq (.reg [⟨some 8, .bin .lss, [.slot 7, .slot 6], none⟩])
      (.seq (.cond (.slot 8) (.skip)
       (.exit 0))
      (.seq (.block 1 (.seq (.reg [⟨some 9, .mv, [.slot 7], none⟩,
          ⟨some 10, .idxB 1, [.slot 5, .slot 7], none⟩,
          ⟨some 11, .load 1 false, [.slot 10], none⟩,
          ⟨some 3, .take, [.slot 7], none⟩,
          ⟨some 4, .give, [.slot 11], none⟩])
        (.seq (.reg [⟨some 12, .mv, [.slot 4], none⟩,
          ⟨some 13, .call 16, [.slot 4], none⟩,
          ⟨some 14, .un .not, [.slot 13], none⟩,
          ⟨some 15, .mv, [.slot 14], none⟩,
          ⟨some 16, .take, [.slot 3], some (15, false)⟩,
          ⟨some 17, .bin .gtr, [.slot 16, .lit (.int .i64 0)], some (15, false)⟩,
          ⟨some 18, .take, [.slot 17], some (15, false)⟩,
          ⟨some 19, .take, [.slot 4], some (18, true)⟩,
          ⟨some 20, .take, [.slot 0], some (18, true)⟩,
          ⟨some 21, .take, [.slot 3], some (18, true)⟩,
          ⟨some 22, .bin .sub, [.slot 21, .lit (.int .i64 1)], some (18, true)⟩,
          ⟨some 23, .idxB 1, [.slot 20, .slot 22], some (18, true)⟩,
          ⟨some 24, .load 1 false, [.slot 23], some (18, true)⟩,
          ⟨some 25, .bin .leq, [.slot 19, .slot 24], some (18, true)⟩,
          ⟨some 26, .pick, [.slot 18, .slot 25, .lit (.bool false)], some (15, false)⟩,
          ⟨some 27, .pick, [.slot 14, .lit (.bool true), .slot 26], none⟩])
        (.cond (.slot 27) (.seq (.reg [⟨some 2, .give, [.lit (.bool false)], none⟩])
         (.ret))
        (.skip)))))
      (.reg [⟨some 28, .bin .add, [.slot 7, .lit (.int .i64 1)], none⟩,
       ⟨some 7, .mv, [.slot 28], none⟩])))))))
   (.seq (.reg [⟨some 2, .give, [.lit (.bool true)], none⟩])
   (.ret)))),
  29, [.tmp 2]⟩
theorem c22 : cFunc Proofs.Tryd.prog 22 = some sf22 := by kernel_rfl
/-- carpetbag/carpetbagref03.Sorted -/
def sf23 : SF := ⟨(.seq (.reg [⟨some 2, .give, [.lit (.bool false)], none⟩])
   (.seq (.seq (.reg [⟨some 3, .take, [.lit (.int .i64 0)], none⟩])
    (.block 0 (.loop (.seq (.seq (.reg [⟨some 4, .mv, [.slot 3], none⟩,
         ⟨some 5, .mv, [.slot 0], none⟩,
         ⟨some 6, .lenL, [.slot 0], none⟩,
         ⟨some 7, .bin .lss, [.slot 3, .slot 6], none⟩])
       (.cond (.slot 7) (.skip)
       (.exit 0)))
      (.seq (.block 1 (.seq (.reg [⟨some 10, .mv, [.slot 0], none⟩,
       ⟨some 11, .mv, [.slot 3], none⟩,
       ⟨some 12, .idxA 1, [.slot 0, .slot 3], none⟩,
       ⟨some 13, .load 1 false, [.slot 12], none⟩,
       ⟨some 14, .callp 17, [.slot 13], none⟩,
       ⟨some 15, .un .not, [.slot 14], none⟩,
       ⟨some 16, .mv, [.slot 15], none⟩,
       ⟨some 17, .mv, [.slot 3], some (16, false)⟩,
       ⟨some 18, .bin .gtr, [.slot 17, .lit (.int .i64 0)], some (16, false)⟩,
       ⟨some 19, .mv, [.slot 18], some (16, false)⟩,
       ⟨some 20, .mv, [.slot 0], some (19, true)⟩,
       ⟨some 21, .mv, [.slot 3], some (19, true)⟩,
       ⟨some 22, .idxA 1, [.slot 20, .slot 21], some (19, true)⟩,
       ⟨some 23, .load 1 false, [.slot 22], some (19, true)⟩,
       ⟨some 24, .mv, [.slot 0], some (19, true)⟩,
       ⟨some 25, .mv, [.slot 3], some (19, true)⟩,
       ⟨some 26, .bin .sub, [.slot 25, .lit (.int .i64 1)], some (19, true)⟩,
       ⟨some 27, .idxA 1, [.slot 24, .slot 26], some (19, true)⟩,
       ⟨some 28, .load 1 false, [.slot 27], some (19, true)⟩,
       ⟨some 29, .bin .leq, [.slot 23, .slot 28], some (19, true)⟩,
       ⟨some 30, .pick, [.slot 19, .slot 29, .lit (.bool false)], some (16, false)⟩,
       ⟨some 31, .pick, [.slot 15, .lit (.bool true), .slot 30], none⟩])
        (.cond (.slot 31) (.seq (.reg [⟨some 2, .give, [.lit (.bool false)], none⟩])
         (.ret))
        (.skip))))
      (.reg [⟨some 8, .mv, [.slot 3], none⟩,
       ⟨some 9, .bin .add, [.slot 3, .lit (.int .i64 1)], none⟩,
       ⟨some 3, .give, [.slot 9], none⟩]))))))
   (.seq (.reg [⟨some 2, .give, [.lit (.bool true)], none⟩])
   (.ret)))),
  32, [.tmp 2]⟩
theorem c23 : cFunc Proofs.Tryd.prog 23 = some sf23 := by kernel_rfl
/-- carpetbag/path.Under -/
def sf24 : SF := ⟨(.seq (.reg [⟨some 4, .give, [.lit (.bool false)], none⟩])
   (.seq (.reg [⟨some 5, .mv, [.slot 0], none⟩,
     ⟨some 6, .call 16, [.slot 0], none⟩,
     ⟨some 7, .mv, [.slot 6], none⟩,
     ⟨some 8, .take, [.slot 1], some (7, true)⟩,
     ⟨some 9, .call 16, [.slot 8], some (7, true)⟩,
     ⟨some 10, .pick, [.slot 6, .slot 9, .lit (.bool false)], none⟩,
     ⟨some 11, .mv, [.slot 10], none⟩,
     ⟨some 12, .take, [.slot 0], some (11, true)⟩,
     ⟨some 13, .take, [.slot 1], some (11, true)⟩,
     ⟨some 14, .bin .add, [.slot 13, .lit (.str [47])], some (11, true)⟩,
     ⟨some 15, .call 31, [.slot 12, .slot 14], some (11, true)⟩,
     ⟨some 16, .pick, [.slot 10, .slot 15, .lit (.bool false)], none⟩,
     ⟨some 4, .give, [.slot 16], none⟩])
   (.ret))),
  17, [.tmp 4]⟩
theorem c24 : cFunc Proofs.Tryd.prog 24 = some sf24 := by kernel_rfl
/-- carpetbag/carpetbagref03.Under -/
def sf25 : SF := ⟨(.seq (.reg [⟨some 4, .give, [.lit (.bool false)], none⟩])
   (.seq (.seq (.reg [⟨some 5, .mv, [.slot 0], none⟩,
      ⟨some 6, .call 17, [.slot 0], none⟩,
      ⟨some 7, .un .not, [.slot 6], none⟩,
      ⟨some 8, .mv, [.slot 7], none⟩,
      ⟨some 9, .take, [.slot 1], some (8, false)⟩,
      ⟨some 10, .call 17, [.slot 9], some (8, false)⟩,
      ⟨some 11, .un .not, [.slot 10], some (8, false)⟩,
      ⟨some 12, .pick, [.slot 7, .lit (.bool true), .slot 11], none⟩,
      ⟨some 13, .mv, [.slot 12], none⟩,
      ⟨some 14, .take, [.slot 0], some (13, false)⟩,
      ⟨some 15, .lenS, [.slot 14], some (13, false)⟩,
      ⟨some 16, .take, [.slot 1], some (13, false)⟩,
      ⟨some 17, .lenS, [.slot 16], some (13, false)⟩,
      ⟨some 18, .bin .leq, [.slot 15, .slot 17], some (13, false)⟩,
      ⟨some 19, .pick, [.slot 12, .lit (.bool true), .slot 18], none⟩])
    (.cond (.slot 19) (.seq (.reg [⟨some 4, .give, [.lit (.bool false)], none⟩])
     (.ret))
    (.skip)))
   (.seq (.reg [⟨some 20, .mv, [.slot 0], none⟩,
     ⟨some 21, .mv, [.slot 1], none⟩,
     ⟨some 22, .lenS, [.slot 1], none⟩,
     ⟨some 23, .slcS false true, [.slot 0, .slot 22], none⟩,
     ⟨some 24, .mv, [.slot 1], none⟩,
     ⟨some 25, .bin .eql, [.slot 23, .slot 1], none⟩,
     ⟨some 26, .mv, [.slot 25], none⟩,
     ⟨some 27, .take, [.slot 0], some (26, true)⟩,
     ⟨some 28, .take, [.slot 1], some (26, true)⟩,
     ⟨some 29, .lenS, [.slot 28], some (26, true)⟩,
     ⟨some 30, .idxS, [.slot 27, .slot 29], some (26, true)⟩,
     ⟨some 31, .bin .eql, [.slot 30, .lit (.int .u8 47)], some (26, true)⟩,
     ⟨some 32, .pick, [.slot 25, .slot 31, .lit (.bool false)], none⟩,
     ⟨some 4, .give, [.slot 32], none⟩])
   (.ret)))),
  33, [.tmp 4]⟩
theorem c25 : cFunc Proofs.Tryd.prog 25 = some sf25 := by kernel_rfl
/-- carpetbag/path.Clash -/
def sf26 : SF := ⟨(.seq (.reg [⟨some 4, .give, [.lit (.bool false)], none⟩])
   (.seq (.reg [⟨some 5, .mv, [.slot 0], none⟩,
     ⟨some 6, .mv, [.slot 1], none⟩,
     ⟨some 7, .call 24, [.slot 0, .slot 1], none⟩,
     ⟨some 8, .mv, [.slot 7], none⟩,
     ⟨some 9, .take, [.slot 1], some (8, false)⟩,
     ⟨some 10, .take, [.slot 0], some (8, false)⟩,
     ⟨some 11, .call 24, [.slot 9, .slot 10], some (8, false)⟩,
     ⟨some 12, .pick, [.slot 7, .lit (.bool true), .slot 11], none⟩,
     ⟨some 4, .give, [.slot 12], none⟩])
   (.ret))),
  13, [.tmp 4]⟩
theorem c26 : cFunc Proofs.Tryd.prog 26 = some sf26 := by kernel_rfl
/-- strings.Split -/
def sf27 : SF := ⟨(.seq (.reg [⟨some 4, .give, [.lit (.nilS)], none⟩])
   (.seq (.reg [⟨some 5, .mv, [.slot 0], none⟩,
     ⟨some 6, .mv, [.slot 1], none⟩,
     ⟨some 7, .call 32, [.slot 0, .slot 1, .lit (.int .i64 0), .lit (.int .i64 (-1))], none⟩,
     ⟨some 4, .give, [.slot 7], none⟩])
   (.ret))),
  8, [.tmp 4]⟩
theorem c27 : cFunc Proofs.Tryd.prog 27 = some sf27 := by kernel_rfl
/-- carpetbag/carpetbagref03.cut -/
def sf28 : SF := ⟨(.seq (.reg [⟨some 2, .give, [.lit (.nilS)], none⟩])
   (.seq (.reg [⟨some 3, .take, [.lit (.nilS)], none⟩])
   (.seq (.reg [⟨some 4, .take, [.lit (.int .i64 0)], none⟩])
   (.seq (.seq (.reg [⟨some 5, .take, [.lit (.int .i64 0)], none⟩])
    (.block 0 (.loop (.seq (.seq (.reg [⟨some 6, .mv, [.slot 5], none⟩,
         ⟨some 7, .mv, [.slot 0], none⟩,
         ⟨some 8, .lenS, [.slot 0], none⟩,
         ⟨some 9, .bin .leq, [.slot 5, .slot 8], none⟩])
       (.cond (.slot 9) (.skip)
       (.exit 0)))
      (.seq (.block 1 (.seq (.reg [⟨some 12, .mv, [.slot 5], none⟩,
          ⟨some 13, .mv, [.slot 0], none⟩,
          ⟨some 14, .lenS, [.slot 0], none⟩,
          ⟨some 15, .bin .eql, [.slot 5, .slot 14], none⟩,
          ⟨some 16, .mv, [.slot 15], none⟩,
          ⟨some 17, .take, [.slot 0], some (16, false)⟩,
          ⟨some 18, .take, [.slot 5], some (16, false)⟩,
          ⟨some 19, .idxS, [.slot 17, .slot 18], some (16, false)⟩,
          ⟨some 20, .bin .eql, [.slot 19, .lit (.int .u8 47)], some (16, false)⟩,
          ⟨some 21, .pick, [.slot 15, .lit (.bool true), .slot 20], none⟩])
        (.cond (.slot 21) (.seq (.reg [⟨some 22, .mv, [.slot 3], none⟩,
           ⟨some 23, .mv, [.slot 0], none⟩,
           ⟨some 24, .mv, [.slot 4], none⟩,
           ⟨some 25, .mv, [.slot 5], none⟩,
           ⟨some 26, .slcS true true, [.slot 0, .slot 4, .slot 5], none⟩,
           ⟨some 27, .bsl 1 1 [.str []] [0], [.slot 26], none⟩,
           ⟨some 28, .app 1 16 [.str []], [.slot 3, .slot 27], none⟩,
           ⟨some 3, .give, [.slot 28], none⟩])
         (.reg [⟨some 29, .mv, [.slot 5], none⟩,
          ⟨some 30, .bin .add, [.slot 5, .lit (.int .i64 1)], none⟩,
          ⟨some 4, .give, [.slot 30], none⟩]))
        (.skip))))
      (.reg [⟨some 10, .mv, [.slot 5], none⟩,
       ⟨some 11, .bin .add, [.slot 5, .lit (.int .i64 1)], none⟩,
       ⟨some 5, .give, [.slot 11], none⟩]))))))
   (.seq (.reg [⟨some 31, .mv, [.slot 3], none⟩,
     ⟨some 2, .give, [.slot 3], none⟩])
   (.ret)))))),
  32, [.tmp 2]⟩
theorem c28 : cFunc Proofs.Tryd.prog 28 = some sf28 := by kernel_rfl
/-- strings.IndexByte -/
def sf29 : SF := ⟨(.seq (.reg [⟨some 4, .give, [.lit (.int .i64 0)], none⟩])
   (.seq (.reg [⟨some 5, .mv, [.slot 0], none⟩,
     ⟨some 6, .mv, [.slot 1], none⟩,
     ⟨some 7, .call 33, [.slot 0, .slot 1], none⟩,
     ⟨some 4, .give, [.slot 7], none⟩])
   (.ret))),
  8, [.tmp 4]⟩
theorem c29 : cFunc Proofs.Tryd.prog 29 = some sf29 := by kernel_rfl
/-- strings.HasPrefix -/
def sf31 : SF := ⟨(.seq (.reg [⟨some 4, .give, [.lit (.bool false)], none⟩])
   (.seq (.reg [⟨some 5, .mv, [.slot 0], none⟩,
     ⟨some 6, .mv, [.slot 1], none⟩,
     ⟨some 7, .call 37, [.slot 0, .slot 1], none⟩,
     ⟨some 4, .give, [.slot 7], none⟩])
   (.ret))),
  8, [.tmp 4]⟩
theorem c31 : cFunc Proofs.Tryd.prog 31 = some sf31 := by kernel_rfl
/-- strings.genSplit -/
def sf32 : SF := ⟨(.seq (.reg [⟨some 8, .give, [.lit (.nilS)], none⟩])
   (.seq (.seq (.reg [⟨some 12, .mv, [.slot 3], none⟩,
      ⟨some 13, .bin .eql, [.slot 3, .lit (.int .i64 0)], none⟩])
    (.cond (.slot 13) (.seq (.reg [⟨some 8, .give, [.lit (.nilS)], none⟩])
     (.ret))
    (.skip)))
   (.seq (.seq (.reg [⟨some 14, .mv, [.slot 1], none⟩,
      ⟨some 15, .bin .eql, [.slot 1, .lit (.str [])], none⟩])
    (.cond (.slot 15) (.seq (.reg [⟨some 16, .mv, [.slot 0], none⟩,
       ⟨some 17, .mv, [.slot 3], none⟩,
       ⟨some 18, .call 38, [.slot 0, .slot 3], none⟩,
       ⟨some 8, .give, [.slot 18], none⟩])
     (.ret))
    (.skip)))
   (.seq (.seq (.reg [⟨some 19, .mv, [.slot 3], none⟩,
      ⟨some 20, .bin .lss, [.slot 3, .lit (.int .i64 0)], none⟩])
    (.cond (.slot 20) (.reg [⟨some 21, .mv, [.slot 0], none⟩,
      ⟨some 22, .mv, [.slot 1], none⟩,
      ⟨some 23, .call 39, [.slot 0, .slot 1], none⟩,
      ⟨some 24, .bin .add, [.slot 23, .lit (.int .i64 1)], none⟩,
      ⟨some 3, .give, [.slot 24], none⟩])
    (.skip)))
   (.seq (.reg [⟨some 25, .mv, [.slot 3], none⟩,
     ⟨some 26, .mv, [.slot 0], none⟩,
     ⟨some 27, .lenS, [.slot 0], none⟩,
     ⟨some 28, .bin .add, [.slot 27, .lit (.int .i64 1)], none⟩,
     ⟨some 29, .min, [.slot 3, .slot 28], none⟩,
     ⟨some 3, .give, [.slot 29], none⟩])
   (.seq (.reg [⟨some 30, .mv, [.slot 3], none⟩,
     ⟨some 31, .mkS 1 16 [.str []], [.slot 3, .slot 3], none⟩,
     ⟨some 9, .giveO, [.slot 31], none⟩])
   (.seq (.reg [⟨some 32, .mv, [.slot 3], none⟩,
     ⟨some 33, .bin .sub, [.slot 3, .lit (.int .i64 1)], none⟩,
     ⟨some 3, .give, [.slot 33], none⟩])
   (.seq (.reg [⟨some 10, .take, [.lit (.int .i64 0)], none⟩])
   (.seq (.block 0 (.loop (.seq (.seq (.reg [⟨some 34, .mv, [.slot 10], none⟩,
         ⟨some 35, .mv, [.slot 3], none⟩,
         ⟨some 36, .bin .lss, [.slot 10, .slot 3], none⟩])
       (.cond (.slot 36) (.skip)
       (.exit 0)))
      (.block 1 (.seq (.reg [⟨some 37, .mv, [.slot 0], none⟩,
         ⟨some 38, .mv, [.slot 1], none⟩,
         ⟨some 39, .call 40, [.slot 0, .slot 1], none⟩,
         ⟨some 11, .give, [.slot 39], none⟩])
       (.seq (.seq (.reg [⟨some 40, .mv, [.slot 11], none⟩,
          ⟨some 41, .bin .lss, [.slot 11, .lit (.int .i64 0)], none⟩])
        (.cond (.slot 41) (.exit 0)
        (.skip)))
       (.seq (.reg [⟨some 42, .mv, [.slot 9], none⟩,
         ⟨some 43, .mv, [.slot 10], none⟩,
         ⟨some 44, .mv, [.slot 0], none⟩,
         ⟨some 45, .mv, [.slot 11], none⟩,
         ⟨some 46, .mv, [.slot 2], none⟩,
         ⟨some 47, .bin .add, [.slot 11, .slot 2], none⟩,
         ⟨some 48, .slcS false true, [.slot 0, .slot 47], none⟩,
         ⟨some 49, .idxB 1, [.slot 9, .slot 10], none⟩,
         ⟨none, .store 1 true, [.slot 49, .slot 48], none⟩])
       (.seq (.reg [⟨some 50, .mv, [.slot 0], none⟩,
         ⟨some 51, .mv, [.slot 11], none⟩,
         ⟨some 52, .mv, [.slot 1], none⟩,
         ⟨some 53, .lenS, [.slot 1], none⟩,
         ⟨some 54, .bin .add, [.slot 11, .slot 53], none⟩,
         ⟨some 55, .slcS true false, [.slot 0, .slot 54], none⟩,
         ⟨some 0, .give, [.slot 55], none⟩])
       (.reg [⟨some 56, .mv, [.slot 10], none⟩,
        ⟨some 57, .bin .add, [.slot 10, .lit (.int .i64 1)], none⟩,
        ⟨some 10, .give, [.slot 57], none⟩])))))))))
   (.seq (.reg [⟨some 58, .mv, [.slot 9], none⟩,
     ⟨some 59, .mv, [.slot 10], none⟩,
     ⟨some 60, .mv, [.slot 0], none⟩,
     ⟨some 61, .idxB 1, [.slot 9, .slot 10], none⟩,
     ⟨none, .store 1 false, [.slot 61, .slot 0], none⟩])
   (.seq (.reg [⟨some 62, .mv, [.slot 9], none⟩,
     ⟨some 63, .mv, [.slot 10], none⟩,
     ⟨some 64, .bin .add, [.slot 10, .lit (.int .i64 1)], none⟩,
     ⟨some 65, .slcL 1 false true false, [.slot 9, .slot 64], none⟩,
     ⟨some 8, .give, [.slot 65], none⟩])
   (.ret)))))))))))),
  66, [.tmp 8]⟩
theorem c32 : cFunc Proofs.Tryd.prog 32 = some sf32 := by kernel_rfl
/-- internal/stringslite.HasPrefix -/
def sf37 : SF := ⟨(.seq (.reg [⟨some 4, .give, [.lit (.bool false)], none⟩])
   (.seq (.reg [⟨some 5, .mv, [.slot 0], none⟩,
     ⟨some 6, .lenS, [.slot 0], none⟩,
     ⟨some 7, .mv, [.slot 1], none⟩,
     ⟨some 8, .lenS, [.slot 1], none⟩,
     ⟨some 9, .bin .geq, [.slot 6, .slot 8], none⟩,
     ⟨some 10, .mv, [.slot 9], none⟩,
     ⟨some 11, .take, [.slot 0], some (10, true)⟩,
     ⟨some 12, .take, [.slot 1], some (10, true)⟩,
     ⟨some 13, .lenS, [.slot 12], some (10, true)⟩,
     ⟨some 14, .slcS false true, [.slot 11, .slot 13], some (10, true)⟩,
     ⟨some 15, .take, [.slot 1], some (10, true)⟩,
     ⟨some 16, .bin .eql, [.slot 14, .slot 15], some (10, true)⟩,
     ⟨some 17, .pick, [.slot 9, .slot 16, .lit (.bool false)], none⟩,
     ⟨some 4, .give, [.slot 17], none⟩])
   (.ret))),
  18, [.tmp 4]⟩
theorem c37 : cFunc Proofs.Tryd.prog 37 = some sf37 := by kernel_rfl
/-- strings.explode -/
def sf38 : SF := ⟨(.seq (.reg [⟨some 4, .give, [.lit (.nilS)], none⟩])
   (.seq (.reg [⟨some 10, .mv, [.slot 0], none⟩,
     ⟨some 11, .call 44, [.slot 0], none⟩,
     ⟨some 5, .give, [.slot 11], none⟩])
   (.seq (.seq (.reg [⟨some 12, .mv, [.slot 1], none⟩,
      ⟨some 13, .bin .lss, [.slot 1, .lit (.int .i64 0)], none⟩,
      ⟨some 14, .mv, [.slot 13], none⟩,
      ⟨some 15, .take, [.slot 1], some (14, false)⟩,
      ⟨some 16, .take, [.slot 5], some (14, false)⟩,
      ⟨some 17, .bin .gtr, [.slot 15, .slot 16], some (14, false)⟩,
      ⟨some 18, .pick, [.slot 13, .lit (.bool true), .slot 17], none⟩])
    (.cond (.slot 18) (.reg [⟨some 19, .mv, [.slot 5], none⟩,
      ⟨some 1, .take, [.slot 5], none⟩])
    (.skip)))
   (.seq (.reg [⟨some 20, .mv, [.slot 1], none⟩,
     ⟨some 21, .mkS 1 16 [.str []], [.slot 1, .slot 1], none⟩,
     ⟨some 6, .giveO, [.slot 21], none⟩])
   (.seq (.seq (.reg [⟨some 7, .take, [.lit (.int .i64 0)], none⟩])
    (.block 0 (.loop (.seq (.seq (.reg [⟨some 22, .mv, [.slot 7], none⟩,
         ⟨some 23, .mv, [.slot 1], none⟩,
         ⟨some 24, .bin .sub, [.slot 1, .lit (.int .i64 1)], none⟩,
         ⟨some 25, .bin .lss, [.slot 7, .slot 24], none⟩])
       (.cond (.slot 25) (.skip)
       (.exit 0)))
      (.seq (.block 1 (.seq (.reg [⟨some 29, .mv, [.slot 0], none⟩,
          ⟨some 30, .call 45, [.slot 0], none⟩,
          ⟨some 28, .mv, [.slot 30], none⟩,
          ⟨some 31, .ext 0, [.slot 30], none⟩,
          ⟨some 32, .ext 1, [.slot 30], none⟩,
          ⟨some 8, .give, [.slot 31], none⟩,
          ⟨some 9, .give, [.slot 32], none⟩])
        (.seq (.reg [⟨some 33, .mv, [.slot 6], none⟩,
          ⟨some 34, .mv, [.slot 7], none⟩,
          ⟨some 35, .mv, [.slot 0], none⟩,
          ⟨some 36, .mv, [.slot 9], none⟩,
          ⟨some 37, .slcS false true, [.slot 0, .slot 9], none⟩,
          ⟨some 38, .idxB 1, [.slot 6, .slot 7], none⟩,
          ⟨none, .store 1 true, [.slot 38, .slot 37], none⟩])
        (.reg [⟨some 39, .mv, [.slot 0], none⟩,
         ⟨some 40, .mv, [.slot 9], none⟩,
         ⟨some 41, .slcS true false, [.slot 0, .slot 9], none⟩,
         ⟨some 0, .give, [.slot 41], none⟩]))))
      (.reg [⟨some 26, .mv, [.slot 7], none⟩,
       ⟨some 27, .bin .add, [.slot 7, .lit (.int .i64 1)], none⟩,
       ⟨some 7, .give, [.slot 27], none⟩]))))))
   (.seq (.seq (.reg [⟨some 42, .mv, [.slot 1], none⟩,
      ⟨some 43, .bin .gtr, [.slot 1, .lit (.int .i64 0)], none⟩])
    (.cond (.slot 43) (.reg [⟨some 44, .mv, [.slot 6], none⟩,
      ⟨some 45, .mv, [.slot 1], none⟩,
      ⟨some 46, .bin .sub, [.slot 1, .lit (.int .i64 1)], none⟩,
      ⟨some 47, .mv, [.slot 0], none⟩,
      ⟨some 48, .idxB 1, [.slot 6, .slot 46], none⟩,
      ⟨none, .store 1 false, [.slot 48, .slot 0], none⟩])
    (.skip)))
   (.seq (.reg [⟨some 49, .mv, [.slot 6], none⟩,
     ⟨some 4, .give, [.slot 6], none⟩])
   (.ret)))))))),
  50, [.tmp 4]⟩
theorem c38 : cFunc Proofs.Tryd.prog 38 = some sf38 := by kernel_rfl
/-- strings.Index -/
def sf40 : SF := ⟨(.seq (.reg [⟨some 4, .give, [.lit (.int .i64 0)], none⟩])
   (.seq (.reg [⟨some 5, .mv, [.slot 0], none⟩,
     ⟨some 6, .mv, [.slot 1], none⟩,
     ⟨some 7, .call 47, [.slot 0, .slot 1], none⟩,
     ⟨some 4, .give, [.slot 7], none⟩])
   (.ret))),
  8, [.tmp 4]⟩
theorem c40 : cFunc Proofs.Tryd.prog 40 = some sf40 := by kernel_rfl
/-- unicode/utf8.DecodeRuneInString -/
def sf45 : SF := ⟨(.seq (.reg [⟨some 2, .give, [.lit (.int .i32 0)], none⟩,
     ⟨some 3, .give, [.lit (.int .i64 0)], none⟩])
   (.seq (.seq (.reg [⟨some 4, .mv, [.slot 0], none⟩,
      ⟨some 5, .bin .neq, [.slot 0, .lit (.str [])], none⟩,
      ⟨some 6, .mv, [.slot 5], none⟩,
      ⟨some 7, .take, [.slot 0], some (6, true)⟩,
      ⟨some 8, .idxS, [.slot 7, .lit (.int .i64 0)], some (6, true)⟩,
      ⟨some 9, .bin .lss, [.slot 8, .lit (.int .u8 128)], some (6, true)⟩,
      ⟨some 10, .pick, [.slot 5, .slot 9, .lit (.bool false)], none⟩])
    (.cond (.slot 10) (.seq (.reg [⟨some 11, .mv, [.slot 0], none⟩,
       ⟨some 12, .idxS, [.slot 0, .lit (.int .i64 0)], none⟩,
       ⟨some 13, .cvI .i32, [.slot 12], none⟩,
       ⟨some 2, .give, [.slot 13], none⟩,
       ⟨some 3, .give, [.lit (.int .i64 1)], none⟩])
     (.ret))
    (.reg [⟨some 15, .mv, [.slot 0], none⟩,
      ⟨some 16, .call 50, [.slot 0], none⟩,
      ⟨some 14, .mv, [.slot 16], none⟩,
      ⟨some 17, .ext 0, [.slot 16], none⟩,
      ⟨some 18, .ext 1, [.slot 16], none⟩,
      ⟨some 2, .give, [.slot 17], none⟩,
      ⟨some 3, .give, [.slot 18], none⟩])))
   (.ret))),
  19, [.tmp 2, .tmp 3]⟩
theorem c45 : cFunc Proofs.Tryd.prog 45 = some sf45 := by kernel_rfl
/-- internal/bytealg.Cutover -/
def sf52 : SF := ⟨(.seq (.reg [⟨some 2, .give, [.lit (.int .i64 0)], none⟩])
   (.seq (.reg [⟨some 3, .mv, [.slot 0], none⟩,
     ⟨some 4, .bin .add, [.slot 0, .lit (.int .i64 16)], none⟩,
     ⟨some 5, .bin .quo, [.slot 4, .lit (.int .i64 8)], none⟩,
     ⟨some 2, .give, [.slot 5], none⟩])
   (.ret))),
  6, [.tmp 2]⟩
theorem c52 : cFunc Proofs.Tryd.prog 52 = some sf52 := by kernel_rfl
/-- internal/bytealg.IndexRabinKarp[string] -/
def sf53 : SF := ⟨(.seq (.reg [⟨some 4, .give, [.lit (.int .i64 0)], none⟩])
   (.seq (.reg [⟨some 12, .mv, [.slot 1], none⟩,
     ⟨some 13, .call 54, [.slot 1], none⟩,
     ⟨some 11, .mv, [.slot 13], none⟩,
     ⟨some 14, .ext 0, [.slot 13], none⟩,
     ⟨some 15, .ext 1, [.slot 13], none⟩,
     ⟨some 5, .give, [.slot 14], none⟩,
     ⟨some 6, .give, [.slot 15], none⟩])
   (.seq (.reg [⟨some 16, .mv, [.slot 1], none⟩,
     ⟨some 17, .lenS, [.slot 1], none⟩,
     ⟨some 7, .give, [.slot 17], none⟩])
   (.seq (.reg [⟨some 8, .take, [.lit (.int .u32 0)], none⟩])
   (.seq (.seq (.reg [⟨some 9, .take, [.lit (.int .i64 0)], none⟩])
    (.block 0 (.loop (.seq (.seq (.reg [⟨some 18, .mv, [.slot 9], none⟩,
         ⟨some 19, .mv, [.slot 7], none⟩,
         ⟨some 20, .bin .lss, [.slot 9, .slot 7], none⟩])
       (.cond (.slot 20) (.skip)
       (.exit 0)))
      (.seq (.block 1 (.reg [⟨some 23, .mv, [.slot 8], none⟩,
         ⟨some 24, .bin .mul, [.slot 8, .lit (.int .u32 16777619)], none⟩,
         ⟨some 25, .mv, [.slot 0], none⟩,
         ⟨some 26, .mv, [.slot 9], none⟩,
         ⟨some 27, .idxS, [.slot 0, .slot 9], none⟩,
         ⟨some 28, .cvI .u32, [.slot 27], none⟩,
         ⟨some 29, .bin .add, [.slot 24, .slot 28], none⟩,
         ⟨some 8, .give, [.slot 29], none⟩]))
      (.reg [⟨some 21, .mv, [.slot 9], none⟩,
       ⟨some 22, .bin .add, [.slot 9, .lit (.int .i64 1)], none⟩,
       ⟨some 9, .give, [.slot 22], none⟩]))))))
   (.seq (.seq (.reg [⟨some 30, .mv, [.slot 8], none⟩,
      ⟨some 31, .mv, [.slot 5], none⟩,
      ⟨some 32, .bin .eql, [.slot 8, .slot 5], none⟩,
      ⟨some 33, .mv, [.slot 32], none⟩,
      ⟨some 34, .take, [.slot 0], some (33, true)⟩,
      ⟨some 35, .take, [.slot 7], some (33, true)⟩,
      ⟨some 36, .slcS false true, [.slot 34, .slot 35], some (33, true)⟩,
      ⟨some 37, .take, [.slot 1], some (33, true)⟩,
      ⟨some 38, .bin .eql, [.slot 36, .slot 37], some (33, true)⟩,
      ⟨some 39, .pick, [.slot 32, .slot 38, .lit (.bool false)], none⟩])
    (.cond (.slot 39) (.seq (.reg [⟨some 4, .give, [.lit (.int .i64 0)], none⟩])
     (.ret))
    (.skip)))
   (.seq (.seq (.reg [⟨some 40, .mv, [.slot 7], none⟩,
      ⟨some 10, .take, [.slot 7], none⟩])
    (.block 2 (.loop (.seq (.seq (.reg [⟨some 41, .mv, [.slot 10], none⟩,
         ⟨some 42, .mv, [.slot 0], none⟩,
         ⟨some 43, .lenS, [.slot 0], none⟩,
         ⟨some 44, .bin .lss, [.slot 10, .slot 43], none⟩])
       (.cond (.slot 44) (.skip)
       (.exit 2)))
      (.block 3 (.seq (.reg [⟨some 45, .mv, [.slot 8], none⟩,
         ⟨some 46, .bin .mul, [.slot 8, .lit (.int .u32 16777619)], none⟩,
         ⟨some 8, .give, [.slot 46], none⟩])
       (.seq (.reg [⟨some 47, .mv, [.slot 8], none⟩,
         ⟨some 48, .mv, [.slot 0], none⟩,
         ⟨some 49, .mv, [.slot 10], none⟩,
         ⟨some 50, .idxS, [.slot 0, .slot 10], none⟩,
         ⟨some 51, .cvI .u32, [.slot 50], none⟩,
         ⟨some 52, .bin .add, [.slot 8, .slot 51], none⟩,
         ⟨some 8, .give, [.slot 52], none⟩])
       (.seq (.reg [⟨some 53, .mv, [.slot 8], none⟩,
         ⟨some 54, .mv, [.slot 6], none⟩,
         ⟨some 55, .mv, [.slot 0], none⟩,
         ⟨some 56, .mv, [.slot 10], none⟩,
         ⟨some 57, .mv, [.slot 7], none⟩,
         ⟨some 58, .bin .sub, [.slot 10, .slot 7], none⟩,
         ⟨some 59, .idxS, [.slot 0, .slot 58], none⟩,
         ⟨some 60, .cvI .u32, [.slot 59], none⟩,
         ⟨some 61, .bin .mul, [.slot 6, .slot 60], none⟩,
         ⟨some 62, .bin .sub, [.slot 8, .slot 61], none⟩,
         ⟨some 8, .give, [.slot 62], none⟩])
       (.seq (.reg [⟨some 63, .mv, [.slot 10], none⟩,
         ⟨some 64, .bin .add, [.slot 10, .lit (.int .i64 1)], none⟩,
         ⟨some 10, .give, [.slot 64], none⟩])
       (.seq (.reg [⟨some 65, .mv, [.slot 8], none⟩,
         ⟨some 66, .mv, [.slot 5], none⟩,
         ⟨some 67, .bin .eql, [.slot 8, .slot 5], none⟩,
         ⟨some 68, .mv, [.slot 67], none⟩,
         ⟨some 69, .take, [.slot 0], some (68, true)⟩,
         ⟨some 70, .take, [.slot 10], some (68, true)⟩,
         ⟨some 71, .take, [.slot 7], some (68, true)⟩,
         ⟨some 72, .bin .sub, [.slot 70, .slot 71], some (68, true)⟩,
         ⟨some 73, .take, [.slot 10], some (68, true)⟩,
         ⟨some 74, .slcS true true, [.slot 69, .slot 72, .slot 73], some (68, true)⟩,
         ⟨some 75, .take, [.slot 1], some (68, true)⟩,
         ⟨some 76, .bin .eql, [.slot 74, .slot 75], some (68, true)⟩,
         ⟨some 77, .pick, [.slot 67, .slot 76, .lit (.bool false)], none⟩])
       (.cond (.slot 77) (.seq (.reg [⟨some 78, .mv, [.slot 10], none⟩,
          ⟨some 79, .mv, [.slot 7], none⟩,
          ⟨some 80, .bin .sub, [.slot 10, .slot 7], none⟩,
          ⟨some 4, .give, [.slot 80], none⟩])
        (.ret))
       (.skip))))))))))))
   (.seq (.reg [⟨some 4, .give, [.lit (.int .i64 (-1))], none⟩])
   (.ret))))))))),
  81, [.tmp 4]⟩
theorem c53 : cFunc Proofs.Tryd.prog 53 = some sf53 := by kernel_rfl
/-- internal/bytealg.hashStr[string] -/
def sf54 : SF := ⟨(.seq (.reg [⟨some 2, .give, [.lit (.int .u32 0)], none⟩,
     ⟨some 3, .give, [.lit (.int .u32 0)], none⟩])
   (.seq (.reg [⟨some 4, .take, [.lit (.int .u32 0)], none⟩])
   (.seq (.seq (.reg [⟨some 5, .take, [.lit (.int .i64 0)], none⟩])
    (.block 0 (.loop (.seq (.seq (.reg [⟨some 9, .mv, [.slot 5], none⟩,
         ⟨some 10, .mv, [.slot 0], none⟩,
         ⟨some 11, .lenS, [.slot 0], none⟩,
         ⟨some 12, .bin .lss, [.slot 5, .slot 11], none⟩])
       (.cond (.slot 12) (.skip)
       (.exit 0)))
      (.seq (.block 1 (.reg [⟨some 15, .mv, [.slot 4], none⟩,
         ⟨some 16, .bin .mul, [.slot 4, .lit (.int .u32 16777619)], none⟩,
         ⟨some 17, .mv, [.slot 0], none⟩,
         ⟨some 18, .mv, [.slot 5], none⟩,
         ⟨some 19, .idxS, [.slot 0, .slot 5], none⟩,
         ⟨some 20, .cvI .u32, [.slot 19], none⟩,
         ⟨some 21, .bin .add, [.slot 16, .slot 20], none⟩,
         ⟨some 4, .give, [.slot 21], none⟩]))
      (.reg [⟨some 13, .mv, [.slot 5], none⟩,
       ⟨some 14, .bin .add, [.slot 5, .lit (.int .i64 1)], none⟩,
       ⟨some 5, .give, [.slot 14], none⟩]))))))
   (.seq (.reg [⟨some 6, .take, [.lit (.int .u32 1)], none⟩,
     ⟨some 7, .take, [.lit (.int .u32 16777619)], none⟩])
   (.seq (.seq (.reg [⟨some 22, .mv, [.slot 0], none⟩,
      ⟨some 23, .lenS, [.slot 0], none⟩,
      ⟨some 8, .give, [.slot 23], none⟩])
    (.block 2 (.loop (.seq (.seq (.reg [⟨some 24, .mv, [.slot 8], none⟩,
         ⟨some 25, .bin .gtr, [.slot 8, .lit (.int .i64 0)], none⟩])
       (.cond (.slot 25) (.skip)
       (.exit 2)))
      (.seq (.block 3 (.seq (.seq (.reg [⟨some 28, .mv, [.slot 8], none⟩,
           ⟨some 29, .bin .and, [.slot 8, .lit (.int .i64 1)], none⟩,
           ⟨some 30, .bin .neq, [.slot 29, .lit (.int .i64 0)], none⟩])
         (.cond (.slot 30) (.reg [⟨some 31, .mv, [.slot 6], none⟩,
           ⟨some 32, .mv, [.slot 7], none⟩,
           ⟨some 33, .bin .mul, [.slot 6, .slot 7], none⟩,
           ⟨some 6, .give, [.slot 33], none⟩])
         (.skip)))
        (.reg [⟨some 34, .mv, [.slot 7], none⟩,
         ⟨some 35, .mv, [.slot 7], none⟩,
         ⟨some 36, .bin .mul, [.slot 7, .slot 7], none⟩,
         ⟨some 7, .give, [.slot 36], none⟩])))
      (.reg [⟨some 26, .mv, [.slot 8], none⟩,
       ⟨some 27, .bin .shr, [.slot 8, .lit (.int .u64 1)], none⟩,
       ⟨some 8, .give, [.slot 27], none⟩]))))))
   (.seq (.reg [⟨some 37, .mv, [.slot 4], none⟩,
     ⟨some 38, .mv, [.slot 6], none⟩,
     ⟨some 2, .give, [.slot 4], none⟩,
     ⟨some 3, .give, [.slot 6], none⟩])
   (.ret))))))),
  39, [.tmp 2, .tmp 3]⟩
theorem c54 : cFunc Proofs.Tryd.prog 54 = some sf54 := by kernel_rfl
end Go.Sh.F
