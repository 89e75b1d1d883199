/-
  The program functions of this seat in the shadow machine form: printed by shc.py, checked by the kernel.
-/
import Derived.Test.YtfiigeiajhecoaaShY
import Derived.Test.YtfiigeiajhecoaaProg
import Derived.KernelRfl
namespace Go.Sh.F
/-- carpetbag/carpetbaglaw01.WireWrites -/
def sf3 : SF := ⟨(.seq (.reg [⟨some 8, .give, [.lit (.bool false)], none⟩])
   (.seq (.reg [⟨some 17, .call 12, [], none⟩,
     ⟨some 9, .give, [.slot 17], none⟩])
   (.seq (.reg [⟨some 18, .mv, [.slot 3], none⟩,
     ⟨some 19, .call 13, [.slot 3], none⟩,
     ⟨some 10, .give, [.slot 19], none⟩])
   (.seq (.seq (.reg [⟨some 20, .mv, [.slot 10], none⟩,
      ⟨some 21, .un .not, [.slot 10], none⟩,
      ⟨some 22, .mv, [.slot 21], none⟩,
      ⟨some 23, .take, [.slot 0], some (22, false)⟩,
      ⟨some 24, .lenL, [.slot 23], some (22, false)⟩,
      ⟨some 25, .bin .gtr, [.slot 24, .lit (.int .i64 1000)], some (22, false)⟩,
      ⟨some 26, .pick, [.slot 21, .lit (.bool true), .slot 25], none⟩,
      ⟨some 27, .mv, [.slot 26], none⟩,
      ⟨some 28, .take, [.slot 2], some (27, false)⟩,
      ⟨some 29, .lenS, [.slot 28], some (27, false)⟩,
      ⟨some 30, .bin .gtr, [.slot 29, .lit (.int .i64 20000)], some (27, false)⟩,
      ⟨some 31, .pick, [.slot 26, .lit (.bool true), .slot 30], none⟩])
    (.cond (.slot 31) (.seq (.reg [⟨some 32, .mv, [.slot 9], none⟩,
       ⟨some 8, .give, [.slot 9], none⟩])
     (.ret))
    (.skip)))
   (.seq (.reg [⟨some 33, .bsl 1 0 [.int .u8 0] [], [], none⟩,
     ⟨some 34, .mv, [.slot 0], none⟩,
     ⟨some 35, .app 1 1 [.int .u8 0], [.slot 33, .slot 0], none⟩,
     ⟨some 11, .give, [.slot 35], none⟩])
   (.seq (.reg [⟨some 36, .mv, [.slot 11], none⟩,
     ⟨some 37, .mv, [.slot 11], none⟩,
     ⟨some 38, .lenL, [.slot 11], none⟩,
     ⟨some 39, .mv, [.slot 11], none⟩,
     ⟨some 40, .lenL, [.slot 11], none⟩,
     ⟨some 41, .slcL 1 false true true, [.slot 11, .slot 38, .slot 40], none⟩,
     ⟨some 42, .mv, [.slot 1], none⟩,
     ⟨some 43, .call 14, [.slot 41, .slot 1], none⟩,
     ⟨some 12, .give, [.slot 43], none⟩])
   (.seq (.reg [⟨some 44, .mv, [.slot 11], none⟩,
     ⟨some 45, .mv, [.slot 2], none⟩,
     ⟨some 46, .call 15, [.slot 11, .slot 2], none⟩,
     ⟨some 13, .giveO, [.slot 46], none⟩])
   (.seq (.reg [⟨some 47, .mv, [.slot 11], none⟩,
     ⟨some 48, .mv, [.slot 3], none⟩,
     ⟨some 49, .call 16, [.slot 11, .slot 3], none⟩,
     ⟨some 14, .giveO, [.slot 49], none⟩])
   (.seq (.seq (.reg [⟨some 50, .mv, [.slot 12], none⟩,
        ⟨some 52, .mv, [.slot 0], none⟩,
        ⟨some 53, .mv, [.slot 1], none⟩])
      (.both (.seq (.reg [⟨some 51, .b2s, [.slot 12], none⟩,
         ⟨some 54, .call 17, [.slot 52, .slot 53], none⟩,
         ⟨some 55, .b2s, [.slot 54], none⟩,
         ⟨some 56, .bin .eql, [.slot 51, .slot 55], none⟩,
         ⟨some 57, .mv, [.slot 56], none⟩,
         ⟨some 58, .mv, [.slot 13], some (57, true)⟩,
         ⟨some 60, .mv, [.slot 0], some (57, true)⟩,
         ⟨some 61, .mv, [.slot 2], some (57, true)⟩])
       (.both (.seq (.reg [⟨some 59, .b2s, [.slot 58], some (57, true)⟩,
          ⟨some 62, .call 18, [.slot 60, .slot 61], some (57, true)⟩,
          ⟨some 63, .b2s, [.slot 62], some (57, true)⟩,
          ⟨some 64, .bin .eql, [.slot 59, .slot 63], some (57, true)⟩,
          ⟨some 65, .pick, [.slot 56, .slot 64, .lit (.bool false)], none⟩,
          ⟨some 66, .mv, [.slot 65], none⟩,
          ⟨some 67, .mv, [.slot 14], some (66, true)⟩,
          ⟨some 69, .mv, [.slot 0], some (66, true)⟩,
          ⟨some 70, .mv, [.slot 3], some (66, true)⟩])
        (.both (.reg [⟨some 68, .b2s, [.slot 67], some (66, true)⟩,
          ⟨some 71, .call 19, [.slot 69, .slot 70], some (66, true)⟩,
          ⟨some 72, .b2s, [.slot 71], some (66, true)⟩,
          ⟨some 73, .bin .eql, [.slot 68, .slot 72], some (66, true)⟩,
          ⟨some 74, .pick, [.slot 65, .slot 73, .lit (.bool false)], none⟩,
          ⟨some 15, .give, [.slot 74], none⟩])
        (.both (.reg [⟨some 71, .call 19, [.slot 69, .slot 70], some (66, true)⟩,
          ⟨some 68, .b2s, [.slot 67], some (66, true)⟩,
          ⟨some 72, .b2s, [.slot 71], some (66, true)⟩,
          ⟨some 73, .bin .eql, [.slot 68, .slot 72], some (66, true)⟩,
          ⟨some 74, .pick, [.slot 65, .slot 73, .lit (.bool false)], none⟩,
          ⟨some 15, .give, [.slot 74], none⟩])
        (.tt))))
       (.both (.seq (.reg [⟨some 62, .call 18, [.slot 60, .slot 61], some (57, true)⟩,
          ⟨some 59, .b2s, [.slot 58], some (57, true)⟩,
          ⟨some 63, .b2s, [.slot 62], some (57, true)⟩,
          ⟨some 64, .bin .eql, [.slot 59, .slot 63], some (57, true)⟩,
          ⟨some 65, .pick, [.slot 56, .slot 64, .lit (.bool false)], none⟩,
          ⟨some 66, .mv, [.slot 65], none⟩,
          ⟨some 67, .mv, [.slot 14], some (66, true)⟩,
          ⟨some 69, .mv, [.slot 0], some (66, true)⟩,
          ⟨some 70, .mv, [.slot 3], some (66, true)⟩])
        (.both (.reg [⟨some 68, .b2s, [.slot 67], some (66, true)⟩,
          ⟨some 71, .call 19, [.slot 69, .slot 70], some (66, true)⟩,
          ⟨some 72, .b2s, [.slot 71], some (66, true)⟩,
          ⟨some 73, .bin .eql, [.slot 68, .slot 72], some (66, true)⟩,
          ⟨some 74, .pick, [.slot 65, .slot 73, .lit (.bool false)], none⟩,
          ⟨some 15, .give, [.slot 74], none⟩])
        (.both (.reg [⟨some 71, .call 19, [.slot 69, .slot 70], some (66, true)⟩,
          ⟨some 68, .b2s, [.slot 67], some (66, true)⟩,
          ⟨some 72, .b2s, [.slot 71], some (66, true)⟩,
          ⟨some 73, .bin .eql, [.slot 68, .slot 72], some (66, true)⟩,
          ⟨some 74, .pick, [.slot 65, .slot 73, .lit (.bool false)], none⟩,
          ⟨some 15, .give, [.slot 74], none⟩])
        (.tt))))
       (.tt))))
      (.both (.seq (.reg [⟨some 54, .call 17, [.slot 52, .slot 53], none⟩,
         ⟨some 51, .b2s, [.slot 12], none⟩,
         ⟨some 55, .b2s, [.slot 54], none⟩,
         ⟨some 56, .bin .eql, [.slot 51, .slot 55], none⟩,
         ⟨some 57, .mv, [.slot 56], none⟩,
         ⟨some 58, .mv, [.slot 13], some (57, true)⟩,
         ⟨some 60, .mv, [.slot 0], some (57, true)⟩,
         ⟨some 61, .mv, [.slot 2], some (57, true)⟩])
       (.both (.seq (.reg [⟨some 59, .b2s, [.slot 58], some (57, true)⟩,
          ⟨some 62, .call 18, [.slot 60, .slot 61], some (57, true)⟩,
          ⟨some 63, .b2s, [.slot 62], some (57, true)⟩,
          ⟨some 64, .bin .eql, [.slot 59, .slot 63], some (57, true)⟩,
          ⟨some 65, .pick, [.slot 56, .slot 64, .lit (.bool false)], none⟩,
          ⟨some 66, .mv, [.slot 65], none⟩,
          ⟨some 67, .mv, [.slot 14], some (66, true)⟩,
          ⟨some 69, .mv, [.slot 0], some (66, true)⟩,
          ⟨some 70, .mv, [.slot 3], some (66, true)⟩])
        (.both (.reg [⟨some 68, .b2s, [.slot 67], some (66, true)⟩,
          ⟨some 71, .call 19, [.slot 69, .slot 70], some (66, true)⟩,
          ⟨some 72, .b2s, [.slot 71], some (66, true)⟩,
          ⟨some 73, .bin .eql, [.slot 68, .slot 72], some (66, true)⟩,
          ⟨some 74, .pick, [.slot 65, .slot 73, .lit (.bool false)], none⟩,
          ⟨some 15, .give, [.slot 74], none⟩])
        (.both (.reg [⟨some 71, .call 19, [.slot 69, .slot 70], some (66, true)⟩,
          ⟨some 68, .b2s, [.slot 67], some (66, true)⟩,
          ⟨some 72, .b2s, [.slot 71], some (66, true)⟩,
          ⟨some 73, .bin .eql, [.slot 68, .slot 72], some (66, true)⟩,
          ⟨some 74, .pick, [.slot 65, .slot 73, .lit (.bool false)], none⟩,
          ⟨some 15, .give, [.slot 74], none⟩])
        (.tt))))
       (.both (.seq (.reg [⟨some 62, .call 18, [.slot 60, .slot 61], some (57, true)⟩,
          ⟨some 59, .b2s, [.slot 58], some (57, true)⟩,
          ⟨some 63, .b2s, [.slot 62], some (57, true)⟩,
          ⟨some 64, .bin .eql, [.slot 59, .slot 63], some (57, true)⟩,
          ⟨some 65, .pick, [.slot 56, .slot 64, .lit (.bool false)], none⟩,
          ⟨some 66, .mv, [.slot 65], none⟩,
          ⟨some 67, .mv, [.slot 14], some (66, true)⟩,
          ⟨some 69, .mv, [.slot 0], some (66, true)⟩,
          ⟨some 70, .mv, [.slot 3], some (66, true)⟩])
        (.both (.reg [⟨some 68, .b2s, [.slot 67], some (66, true)⟩,
          ⟨some 71, .call 19, [.slot 69, .slot 70], some (66, true)⟩,
          ⟨some 72, .b2s, [.slot 71], some (66, true)⟩,
          ⟨some 73, .bin .eql, [.slot 68, .slot 72], some (66, true)⟩,
          ⟨some 74, .pick, [.slot 65, .slot 73, .lit (.bool false)], none⟩,
          ⟨some 15, .give, [.slot 74], none⟩])
        (.both (.reg [⟨some 71, .call 19, [.slot 69, .slot 70], some (66, true)⟩,
          ⟨some 68, .b2s, [.slot 67], some (66, true)⟩,
          ⟨some 72, .b2s, [.slot 71], some (66, true)⟩,
          ⟨some 73, .bin .eql, [.slot 68, .slot 72], some (66, true)⟩,
          ⟨some 74, .pick, [.slot 65, .slot 73, .lit (.bool false)], none⟩,
          ⟨some 15, .give, [.slot 74], none⟩])
        (.tt))))
       (.tt))))
      (.tt))))
   (.seq (.seq (.reg [⟨some 16, .take, [.lit (.int .i64 0)], none⟩])
    (.block 0 (.loop (.seq (.seq (.reg [⟨some 75, .mv, [.slot 16], none⟩,
         ⟨some 76, .mv, [.slot 13], none⟩,
         ⟨some 77, .lenL, [.slot 13], none⟩,
         ⟨some 78, .bin .lss, [.slot 16, .slot 77], none⟩])
       (.cond (.slot 78) (.skip)
       (.exit 0)))
      (.seq (.block 1 (.reg [⟨some 81, .mv, [.slot 13], none⟩,
         ⟨some 82, .mv, [.slot 16], none⟩,
         ⟨some 83, .idxB 1, [.slot 13, .slot 16], none⟩,
         ⟨none, .store 1 false, [.slot 83, .lit (.int .u8 9)], none⟩]))
      (.reg [⟨some 79, .mv, [.slot 16], none⟩,
       ⟨some 80, .bin .add, [.slot 16, .lit (.int .i64 1)], none⟩,
       ⟨some 16, .give, [.slot 80], none⟩]))))))
   (.seq (.reg [⟨some 84, .mv, [.slot 9], none⟩,
     ⟨some 85, .mv, [.slot 9], none⟩,
     ⟨some 86, .take, [.slot 15], some (85, true)⟩,
     ⟨some 87, .pick, [.slot 9, .slot 86, .lit (.bool false)], none⟩,
     ⟨some 88, .mv, [.slot 87], none⟩,
     ⟨some 89, .take, [.slot 11], some (88, true)⟩,
     ⟨some 90, .b2s, [.slot 89], some (88, true)⟩,
     ⟨some 91, .take, [.slot 0], some (88, true)⟩,
     ⟨some 92, .b2s, [.slot 91], some (88, true)⟩,
     ⟨some 93, .bin .eql, [.slot 90, .slot 92], some (88, true)⟩,
     ⟨some 94, .pick, [.slot 87, .slot 93, .lit (.bool false)], none⟩,
     ⟨some 95, .mv, [.slot 94], none⟩,
     ⟨some 96, .take, [.slot 2], some (95, true)⟩,
     ⟨some 97, .take, [.slot 1], some (95, true)⟩,
     ⟨some 98, .call 20, [.slot 96, .slot 97], some (95, true)⟩,
     ⟨some 99, .take, [.slot 2], some (95, true)⟩,
     ⟨some 100, .take, [.slot 1], some (95, true)⟩,
     ⟨some 101, .call 21, [.slot 99, .slot 100], some (95, true)⟩,
     ⟨some 102, .eqB false, [.slot 98, .slot 101], some (95, true)⟩,
     ⟨some 103, .pick, [.slot 94, .slot 102, .lit (.bool false)], none⟩,
     ⟨some 8, .give, [.slot 103], none⟩])
   (.ret)))))))))))),
  104, [.tmp 8]⟩
theorem c3 : cFunc Proofs.Try.prog 3 = some sf3 := by kernel_rfl
/-- carpetbag/carpetbaglaw01.WireReads -/
def sf4 : SF := ⟨(.seq (.reg [⟨some 4, .give, [.lit (.bool false)], none⟩])
   (.seq (.reg [⟨some 13, .call 12, [], none⟩,
     ⟨some 5, .give, [.slot 13], none⟩])
   (.seq (.reg [⟨some 14, .bsl 1 0 [.int .u8 0] [], [], none⟩,
     ⟨some 15, .mv, [.slot 0], none⟩,
     ⟨some 16, .app 1 1 [.int .u8 0], [.slot 14, .slot 0], none⟩,
     ⟨some 6, .giveO, [.slot 16], none⟩])
   (.seq (.reg [⟨some 17, .mv, [.slot 6], none⟩,
     ⟨some 18, .call 22, [.slot 6], none⟩,
     ⟨some 7, .give, [.slot 18], none⟩])
   (.seq (.reg [⟨some 19, .mv, [.slot 0], none⟩,
     ⟨some 20, .bld [.nilS, .int .i64 0, .int .i64 0] [(0, 1)], [.slot 0], none⟩,
     ⟨some 21, .box, [.slot 20], none⟩,
     ⟨some 8, .give, [.slot 21], none⟩])
   (.seq (.seq (.reg [⟨some 22, .mv, [.slot 7], none⟩,
      ⟨some 23, .eqN .p false, [.slot 7, .lit (.nilP)], none⟩,
      ⟨some 24, .mv, [.slot 23], none⟩,
      ⟨some 25, .take, [.slot 0], some (24, false)⟩,
      ⟨some 26, .lenL, [.slot 25], some (24, false)⟩,
      ⟨some 27, .bin .gtr, [.slot 26, .lit (.int .i64 5000)], some (24, false)⟩,
      ⟨some 28, .pick, [.slot 23, .lit (.bool true), .slot 27], none⟩,
      ⟨some 29, .mv, [.slot 28], none⟩,
      ⟨some 30, .take, [.slot 1], some (29, false)⟩,
      ⟨some 31, .lenL, [.slot 30], some (29, false)⟩,
      ⟨some 32, .bin .gtr, [.slot 31, .lit (.int .i64 60)], some (29, false)⟩,
      ⟨some 33, .pick, [.slot 28, .lit (.bool true), .slot 32], none⟩])
    (.cond (.slot 33) (.seq (.reg [⟨some 34, .mv, [.slot 5], none⟩,
       ⟨some 35, .mv, [.slot 5], none⟩,
       ⟨some 36, .take, [.slot 7], some (35, true)⟩,
       ⟨some 37, .eqN .p true, [.slot 36, .lit (.nilP)], some (35, true)⟩,
       ⟨some 38, .pick, [.slot 5, .slot 37, .lit (.bool false)], none⟩,
       ⟨some 4, .give, [.slot 38], none⟩])
     (.ret))
    (.skip)))
   (.seq (.seq (.reg [⟨some 9, .take, [.lit (.int .i64 0)], none⟩])
    (.block 0 (.loop (.seq (.seq (.reg [⟨some 39, .mv, [.slot 9], none⟩,
         ⟨some 40, .mv, [.slot 6], none⟩,
         ⟨some 41, .lenL, [.slot 6], none⟩,
         ⟨some 42, .bin .lss, [.slot 9, .slot 41], none⟩])
       (.cond (.slot 42) (.skip)
       (.exit 0)))
      (.seq (.block 1 (.reg [⟨some 45, .mv, [.slot 6], none⟩,
         ⟨some 46, .mv, [.slot 9], none⟩,
         ⟨some 47, .idxB 1, [.slot 6, .slot 9], none⟩,
         ⟨none, .store 1 false, [.slot 47, .lit (.int .u8 7)], none⟩]))
      (.reg [⟨some 43, .mv, [.slot 9], none⟩,
       ⟨some 44, .bin .add, [.slot 9, .lit (.int .i64 1)], none⟩,
       ⟨some 9, .give, [.slot 44], none⟩]))))))
   (.seq (.seq (.reg [⟨some 10, .take, [.lit (.int .i64 0)], none⟩])
    (.block 2 (.loop (.seq (.seq (.reg [⟨some 48, .mv, [.slot 10], none⟩,
         ⟨some 49, .mv, [.slot 1], none⟩,
         ⟨some 50, .lenL, [.slot 1], none⟩,
         ⟨some 51, .bin .lss, [.slot 10, .slot 50], none⟩])
       (.cond (.slot 51) (.skip)
       (.exit 2)))
      (.seq (.block 3 (.seq (.reg [⟨some 54, .mv, [.slot 1], none⟩,
          ⟨some 55, .mv, [.slot 10], none⟩,
          ⟨some 56, .idxB 3, [.slot 1, .slot 10], none⟩,
          ⟨some 57, .load 3 true, [.slot 56], none⟩,
          ⟨some 11, .alloc [.int .i64 0, .int .i64 0, .int .i64 0], [], none⟩,
          ⟨none, .store 3 true, [.slot 11, .slot 57], none⟩])
        (.seq (.reg [⟨some 12, .take, [.lit (.bool true)], none⟩])
        (.seq (.seq (.reg [⟨some 58, .idxP 1 3, [.slot 11, .lit (.int .i64 0)], none⟩,
           ⟨some 59, .load 1 false, [.slot 58], none⟩,
           ⟨some 60, .bin .and, [.slot 59, .lit (.int .i64 3)], none⟩])
         (.block 4 (.seq (.reg [⟨some 62, .bin .eql, [.slot 60, .lit (.int .i64 0)], none⟩,
            ⟨some 61, .give, [.slot 62], none⟩])
          (.cond (.slot 61) (.seq (.reg [⟨some 63, .mv, [.slot 7], none⟩,
        ⟨some 64, .idxP 1 3, [.slot 11, .lit (.int .i64 1)], none⟩,
        ⟨some 65, .load 1 false, [.slot 64], none⟩,
        ⟨some 67, .mv, [.slot 8], none⟩,
        ⟨some 68, .idxP 1 3, [.slot 11, .lit (.int .i64 1)], none⟩])
      (.both (.reg [⟨some 66, .call 23, [.slot 63, .slot 65], none⟩,
        ⟨some 69, .load 1 false, [.slot 68], none⟩,
        ⟨some 70, .call 24, [.slot 67, .slot 69], none⟩,
        ⟨some 71, .bin .eql, [.slot 66, .slot 70], none⟩,
        ⟨some 12, .give, [.slot 71], none⟩])
      (.both (.reg [⟨some 69, .load 1 false, [.slot 68], none⟩,
        ⟨some 66, .call 23, [.slot 63, .slot 65], none⟩,
        ⟨some 70, .call 24, [.slot 67, .slot 69], none⟩,
        ⟨some 71, .bin .eql, [.slot 66, .slot 70], none⟩,
        ⟨some 12, .give, [.slot 71], none⟩])
      (.tt))))
          (.seq (.reg [⟨some 73, .bin .eql, [.slot 60, .lit (.int .i64 1)], none⟩,
             ⟨some 72, .give, [.slot 73], none⟩])
           (.cond (.slot 72) (.seq (.reg [⟨some 74, .mv, [.slot 7], none⟩,
        ⟨some 75, .idxP 1 3, [.slot 11, .lit (.int .i64 1)], none⟩,
        ⟨some 76, .load 1 false, [.slot 75], none⟩,
        ⟨some 78, .mv, [.slot 8], none⟩,
        ⟨some 79, .idxP 1 3, [.slot 11, .lit (.int .i64 1)], none⟩])
      (.both (.reg [⟨some 77, .call 25, [.slot 74, .slot 76], none⟩,
        ⟨some 80, .load 1 false, [.slot 79], none⟩,
        ⟨some 81, .call 26, [.slot 78, .slot 80], none⟩,
        ⟨some 82, .bin .eql, [.slot 77, .slot 81], none⟩,
        ⟨some 12, .give, [.slot 82], none⟩])
      (.both (.reg [⟨some 80, .load 1 false, [.slot 79], none⟩,
        ⟨some 77, .call 25, [.slot 74, .slot 76], none⟩,
        ⟨some 81, .call 26, [.slot 78, .slot 80], none⟩,
        ⟨some 82, .bin .eql, [.slot 77, .slot 81], none⟩,
        ⟨some 12, .give, [.slot 82], none⟩])
      (.tt))))
           (.seq (.reg [⟨some 84, .bin .eql, [.slot 60, .lit (.int .i64 2)], none⟩,
              ⟨some 83, .give, [.slot 84], none⟩])
            (.cond (.slot 83) (.seq (.reg [⟨some 85, .mv, [.slot 7], none⟩,
        ⟨some 86, .idxP 1 3, [.slot 11, .lit (.int .i64 1)], none⟩,
        ⟨some 87, .load 1 false, [.slot 86], none⟩,
        ⟨some 88, .idxP 1 3, [.slot 11, .lit (.int .i64 2)], none⟩,
        ⟨some 89, .load 1 false, [.slot 88], none⟩,
        ⟨some 91, .mv, [.slot 8], none⟩,
        ⟨some 92, .idxP 1 3, [.slot 11, .lit (.int .i64 1)], none⟩,
        ⟨some 94, .idxP 1 3, [.slot 11, .lit (.int .i64 2)], none⟩])
      (.both (.reg [⟨some 90, .call 28, [.slot 85, .slot 87, .slot 89], none⟩,
        ⟨some 93, .load 1 false, [.slot 92], none⟩,
        ⟨some 95, .load 1 false, [.slot 94], none⟩,
        ⟨some 96, .call 29, [.slot 91, .slot 93, .slot 95], none⟩,
        ⟨some 97, .call 27, [.slot 90, .slot 96], none⟩,
        ⟨some 12, .give, [.slot 97], none⟩])
      (.both (.seq (.reg [⟨some 93, .load 1 false, [.slot 92], none⟩])
       (.both (.reg [⟨some 90, .call 28, [.slot 85, .slot 87, .slot 89], none⟩,
         ⟨some 95, .load 1 false, [.slot 94], none⟩,
         ⟨some 96, .call 29, [.slot 91, .slot 93, .slot 95], none⟩,
         ⟨some 97, .call 27, [.slot 90, .slot 96], none⟩,
         ⟨some 12, .give, [.slot 97], none⟩])
       (.both (.reg [⟨some 95, .load 1 false, [.slot 94], none⟩,
         ⟨some 90, .call 28, [.slot 85, .slot 87, .slot 89], none⟩,
         ⟨some 96, .call 29, [.slot 91, .slot 93, .slot 95], none⟩,
         ⟨some 97, .call 27, [.slot 90, .slot 96], none⟩,
         ⟨some 12, .give, [.slot 97], none⟩])
       (.tt))))
      (.both (.seq (.reg [⟨some 95, .load 1 false, [.slot 94], none⟩])
       (.both (.reg [⟨some 90, .call 28, [.slot 85, .slot 87, .slot 89], none⟩,
         ⟨some 93, .load 1 false, [.slot 92], none⟩,
         ⟨some 96, .call 29, [.slot 91, .slot 93, .slot 95], none⟩,
         ⟨some 97, .call 27, [.slot 90, .slot 96], none⟩,
         ⟨some 12, .give, [.slot 97], none⟩])
       (.both (.reg [⟨some 93, .load 1 false, [.slot 92], none⟩,
         ⟨some 90, .call 28, [.slot 85, .slot 87, .slot 89], none⟩,
         ⟨some 96, .call 29, [.slot 91, .slot 93, .slot 95], none⟩,
         ⟨some 97, .call 27, [.slot 90, .slot 96], none⟩,
         ⟨some 12, .give, [.slot 97], none⟩])
       (.tt))))
      (.tt)))))
            (.seq (.reg [⟨some 99, .bin .eql, [.slot 60, .lit (.int .i64 3)], none⟩,
               ⟨some 98, .give, [.slot 99], none⟩])
             (.cond (.slot 98) (.seq (.reg [⟨some 100, .idxP 1 3, [.slot 11, .lit (.int .i64 1)], none⟩,
                ⟨some 101, .load 1 false, [.slot 100], none⟩,
                ⟨some 102, .bin .eql, [.slot 101, .lit (.int .i64 1)], none⟩])
              (.cond (.slot 102) (.reg [⟨some 103, .mv, [.slot 7], none⟩,
                ⟨some 104, .call 30, [.slot 7], none⟩,
                ⟨some 105, .mv, [.slot 8], none⟩,
                ⟨some 106, .call 31, [.slot 8], none⟩,
                ⟨some 107, .bin .eql, [.slot 104, .slot 106], none⟩,
                ⟨some 12, .give, [.slot 107], none⟩])
              (.skip)))
             (.skip)))))))))))
        (.seq (.seq (.reg [⟨some 108, .mv, [.slot 12], none⟩,
        ⟨some 109, .un .not, [.slot 12], none⟩,
        ⟨some 110, .mv, [.slot 109], none⟩,
        ⟨some 111, .mv, [.slot 7], some (110, false)⟩,
        ⟨some 113, .mv, [.slot 8], some (110, false)⟩,
        ⟨some 114, .nilc, [.slot 113], some (110, false)⟩,
        ⟨some 115, .fld 2, [.slot 114], some (110, false)⟩])
      (.both (.seq (.reg [⟨some 112, .call 32, [.slot 111], some (110, false)⟩,
         ⟨some 116, .load 1 false, [.slot 115], some (110, false)⟩,
         ⟨some 117, .bin .neq, [.slot 112, .slot 116], some (110, false)⟩,
         ⟨some 118, .pick, [.slot 109, .lit (.bool true), .slot 117], none⟩,
         ⟨some 119, .mv, [.slot 118], none⟩,
         ⟨some 120, .mv, [.slot 7], some (119, false)⟩,
         ⟨some 122, .mv, [.slot 8], some (119, false)⟩,
         ⟨some 123, .nilc, [.slot 122], some (119, false)⟩,
         ⟨some 124, .fld 1, [.slot 123], some (119, false)⟩])
       (.both (.reg [⟨some 121, .call 33, [.slot 120], some (119, false)⟩,
         ⟨some 125, .load 1 false, [.slot 124], some (119, false)⟩,
         ⟨some 126, .bin .neq, [.slot 121, .slot 125], some (119, false)⟩,
         ⟨some 127, .pick, [.slot 118, .lit (.bool true), .slot 126], none⟩])
       (.both (.reg [⟨some 125, .load 1 false, [.slot 124], some (119, false)⟩,
         ⟨some 121, .call 33, [.slot 120], some (119, false)⟩,
         ⟨some 126, .bin .neq, [.slot 121, .slot 125], some (119, false)⟩,
         ⟨some 127, .pick, [.slot 118, .lit (.bool true), .slot 126], none⟩])
       (.tt))))
      (.both (.seq (.reg [⟨some 116, .load 1 false, [.slot 115], some (110, false)⟩,
         ⟨some 112, .call 32, [.slot 111], some (110, false)⟩,
         ⟨some 117, .bin .neq, [.slot 112, .slot 116], some (110, false)⟩,
         ⟨some 118, .pick, [.slot 109, .lit (.bool true), .slot 117], none⟩,
         ⟨some 119, .mv, [.slot 118], none⟩,
         ⟨some 120, .mv, [.slot 7], some (119, false)⟩,
         ⟨some 122, .mv, [.slot 8], some (119, false)⟩,
         ⟨some 123, .nilc, [.slot 122], some (119, false)⟩,
         ⟨some 124, .fld 1, [.slot 123], some (119, false)⟩])
       (.both (.reg [⟨some 121, .call 33, [.slot 120], some (119, false)⟩,
         ⟨some 125, .load 1 false, [.slot 124], some (119, false)⟩,
         ⟨some 126, .bin .neq, [.slot 121, .slot 125], some (119, false)⟩,
         ⟨some 127, .pick, [.slot 118, .lit (.bool true), .slot 126], none⟩])
       (.both (.reg [⟨some 125, .load 1 false, [.slot 124], some (119, false)⟩,
         ⟨some 121, .call 33, [.slot 120], some (119, false)⟩,
         ⟨some 126, .bin .neq, [.slot 121, .slot 125], some (119, false)⟩,
         ⟨some 127, .pick, [.slot 118, .lit (.bool true), .slot 126], none⟩])
       (.tt))))
      (.tt))))
        (.cond (.slot 127) (.seq (.reg [⟨some 4, .give, [.lit (.bool false)], none⟩])
         (.ret))
        (.skip)))))))
      (.reg [⟨some 52, .mv, [.slot 10], none⟩,
       ⟨some 53, .bin .add, [.slot 10, .lit (.int .i64 1)], none⟩,
       ⟨some 10, .give, [.slot 53], none⟩]))))))
   (.seq (.seq (.reg [⟨some 128, .mv, [.slot 5], none⟩,
        ⟨some 129, .mv, [.slot 5], none⟩,
        ⟨some 130, .mv, [.slot 7], some (129, true)⟩,
        ⟨some 131, .call 30, [.slot 130], some (129, true)⟩,
        ⟨some 132, .mv, [.slot 8], some (129, true)⟩,
        ⟨some 133, .call 31, [.slot 132], some (129, true)⟩,
        ⟨some 134, .bin .eql, [.slot 131, .slot 133], some (129, true)⟩,
        ⟨some 135, .pick, [.slot 128, .slot 134, .lit (.bool false)], none⟩,
        ⟨some 136, .mv, [.slot 135], none⟩,
        ⟨some 137, .mv, [.slot 7], some (136, true)⟩,
        ⟨some 139, .mv, [.slot 8], some (136, true)⟩,
        ⟨some 140, .nilc, [.slot 139], some (136, true)⟩,
        ⟨some 141, .fld 2, [.slot 140], some (136, true)⟩])
      (.both (.reg [⟨some 138, .call 32, [.slot 137], some (136, true)⟩,
        ⟨some 142, .load 1 false, [.slot 141], some (136, true)⟩,
        ⟨some 143, .bin .eql, [.slot 138, .slot 142], some (136, true)⟩,
        ⟨some 144, .pick, [.slot 135, .slot 143, .lit (.bool false)], none⟩,
        ⟨some 4, .give, [.slot 144], none⟩])
      (.both (.reg [⟨some 142, .load 1 false, [.slot 141], some (136, true)⟩,
        ⟨some 138, .call 32, [.slot 137], some (136, true)⟩,
        ⟨some 143, .bin .eql, [.slot 138, .slot 142], some (136, true)⟩,
        ⟨some 144, .pick, [.slot 135, .slot 143, .lit (.bool false)], none⟩,
        ⟨some 4, .give, [.slot 144], none⟩])
      (.tt))))
   (.ret)))))))))),
  145, [.tmp 4]⟩
theorem c4 : cFunc Proofs.Try.prog 4 = some sf4 := by kernel_rfl
/-- carpetbag/carpetbaglaw05.PadTells -/
def sf5 : SF := ⟨(.seq (.reg [⟨some 6, .give, [.lit (.bool false)], none⟩])
   (.seq (.reg [⟨some 17, .call 34, [], none⟩,
     ⟨some 7, .give, [.slot 17], none⟩])
   (.seq (.seq (.reg [⟨some 18, .mv, [.slot 1], none⟩,
      ⟨some 19, .lenS, [.slot 1], none⟩,
      ⟨some 20, .bin .gtr, [.slot 19, .lit (.int .i64 6000)], none⟩,
      ⟨some 21, .mv, [.slot 20], none⟩,
      ⟨some 22, .take, [.slot 2], some (21, false)⟩,
      ⟨some 23, .bin .lss, [.slot 22, .lit (.int .i64 0)], some (21, false)⟩,
      ⟨some 24, .pick, [.slot 20, .lit (.bool true), .slot 23], none⟩,
      ⟨some 25, .mv, [.slot 24], none⟩,
      ⟨some 26, .take, [.slot 2], some (25, false)⟩,
      ⟨some 27, .bin .gtr, [.slot 26, .lit (.int .i64 6000)], some (25, false)⟩,
      ⟨some 28, .pick, [.slot 24, .lit (.bool true), .slot 27], none⟩])
    (.cond (.slot 28) (.seq (.reg [⟨some 29, .mv, [.slot 7], none⟩,
       ⟨some 6, .give, [.slot 7], none⟩])
     (.ret))
    (.skip)))
   (.seq (.reg [⟨some 30, .mv, [.slot 1], none⟩,
     ⟨some 31, .mv, [.slot 2], none⟩,
     ⟨some 32, .mkS 1 1 [.int .u8 0], [.slot 2, .slot 2], none⟩,
     ⟨some 33, .b2s, [.slot 32], none⟩,
     ⟨some 34, .bin .add, [.slot 1, .slot 33], none⟩,
     ⟨some 8, .give, [.slot 34], none⟩])
   (.seq (.reg [⟨some 36, .mv, [.slot 8], none⟩,
     ⟨some 37, .call 35, [.slot 8], none⟩,
     ⟨some 35, .mv, [.slot 37], none⟩,
     ⟨some 38, .ext 0, [.slot 37], none⟩,
     ⟨some 39, .ext 1, [.slot 37], none⟩,
     ⟨some 9, .give, [.slot 38], none⟩,
     ⟨some 10, .give, [.slot 39], none⟩])
   (.seq (.reg [⟨some 41, .mv, [.slot 8], none⟩,
     ⟨some 42, .call 36, [.slot 8], none⟩,
     ⟨some 40, .mv, [.slot 42], none⟩,
     ⟨some 43, .ext 0, [.slot 42], none⟩,
     ⟨some 44, .ext 1, [.slot 42], none⟩,
     ⟨some 11, .give, [.slot 43], none⟩,
     ⟨some 12, .give, [.slot 44], none⟩])
   (.seq (.reg [⟨some 46, .mv, [.slot 8], none⟩,
     ⟨some 47, .call 37, [.slot 8], none⟩,
     ⟨some 45, .mv, [.slot 47], none⟩,
     ⟨some 48, .ext 0, [.slot 47], none⟩,
     ⟨some 49, .ext 1, [.slot 47], none⟩,
     ⟨some 13, .give, [.slot 48], none⟩,
     ⟨some 14, .give, [.slot 49], none⟩])
   (.seq (.reg [⟨some 51, .mv, [.slot 8], none⟩,
     ⟨some 52, .call 38, [.slot 8], none⟩,
     ⟨some 50, .mv, [.slot 52], none⟩,
     ⟨some 53, .ext 0, [.slot 52], none⟩,
     ⟨some 54, .ext 1, [.slot 52], none⟩,
     ⟨some 15, .give, [.slot 53], none⟩,
     ⟨some 16, .give, [.slot 54], none⟩])
   (.seq (.reg [⟨some 55, .mv, [.slot 7], none⟩,
     ⟨some 56, .mv, [.slot 7], none⟩,
     ⟨some 57, .take, [.slot 9], some (56, true)⟩,
     ⟨some 58, .take, [.slot 11], some (56, true)⟩,
     ⟨some 59, .bin .eql, [.slot 57, .slot 58], some (56, true)⟩,
     ⟨some 60, .pick, [.slot 7, .slot 59, .lit (.bool false)], none⟩,
     ⟨some 61, .mv, [.slot 60], none⟩,
     ⟨some 62, .take, [.slot 10], some (61, true)⟩,
     ⟨some 63, .take, [.slot 12], some (61, true)⟩,
     ⟨some 64, .bin .eql, [.slot 62, .slot 63], some (61, true)⟩,
     ⟨some 65, .pick, [.slot 60, .slot 64, .lit (.bool false)], none⟩,
     ⟨some 66, .mv, [.slot 65], none⟩,
     ⟨some 67, .take, [.slot 13], some (66, true)⟩,
     ⟨some 68, .take, [.slot 15], some (66, true)⟩,
     ⟨some 69, .bin .eql, [.slot 67, .slot 68], some (66, true)⟩,
     ⟨some 70, .pick, [.slot 65, .slot 69, .lit (.bool false)], none⟩,
     ⟨some 71, .mv, [.slot 70], none⟩,
     ⟨some 72, .take, [.slot 14], some (71, true)⟩,
     ⟨some 73, .take, [.slot 16], some (71, true)⟩,
     ⟨some 74, .bin .eql, [.slot 72, .slot 73], some (71, true)⟩,
     ⟨some 75, .pick, [.slot 70, .slot 74, .lit (.bool false)], none⟩,
     ⟨some 76, .mv, [.slot 75], none⟩,
     ⟨some 77, .take, [.slot 0], some (76, true)⟩,
     ⟨some 78, .call 39, [.slot 77], some (76, true)⟩,
     ⟨some 79, .take, [.slot 0], some (76, true)⟩,
     ⟨some 80, .call 40, [.slot 79], some (76, true)⟩,
     ⟨some 81, .bin .eql, [.slot 78, .slot 80], some (76, true)⟩,
     ⟨some 82, .pick, [.slot 75, .slot 81, .lit (.bool false)], none⟩,
     ⟨some 83, .mv, [.slot 82], none⟩,
     ⟨some 84, .take, [.slot 0], some (83, true)⟩,
     ⟨some 85, .call 41, [.slot 84], some (83, true)⟩,
     ⟨some 86, .take, [.slot 0], some (83, true)⟩,
     ⟨some 87, .call 42, [.slot 86], some (83, true)⟩,
     ⟨some 88, .bin .eql, [.slot 85, .slot 87], some (83, true)⟩,
     ⟨some 89, .pick, [.slot 82, .slot 88, .lit (.bool false)], none⟩,
     ⟨some 6, .give, [.slot 89], none⟩])
   (.ret)))))))))),
  90, [.tmp 6]⟩
theorem c5 : cFunc Proofs.Try.prog 5 = some sf5 := by kernel_rfl
/-- carpetbag/carpetbaglaw05.PadBack -/
def sf6 : SF := ⟨(.seq (.reg [⟨some 4, .give, [.lit (.bool false)], none⟩])
   (.seq (.reg [⟨some 12, .call 34, [], none⟩,
     ⟨some 5, .give, [.slot 12], none⟩])
   (.seq (.seq (.reg [⟨some 13, .mv, [.slot 0], none⟩,
      ⟨some 14, .lenS, [.slot 0], none⟩,
      ⟨some 15, .bin .gtr, [.slot 14, .lit (.int .i64 6000)], none⟩,
      ⟨some 16, .mv, [.slot 15], none⟩,
      ⟨some 17, .take, [.slot 1], some (16, false)⟩,
      ⟨some 18, .lenS, [.slot 17], some (16, false)⟩,
      ⟨some 19, .bin .gtr, [.slot 18, .lit (.int .i64 6000)], some (16, false)⟩,
      ⟨some 20, .pick, [.slot 15, .lit (.bool true), .slot 19], none⟩])
    (.cond (.slot 20) (.seq (.reg [⟨some 21, .mv, [.slot 5], none⟩,
       ⟨some 4, .give, [.slot 5], none⟩])
     (.ret))
    (.skip)))
   (.seq (.reg [⟨some 23, .mv, [.slot 0], none⟩,
     ⟨some 24, .call 35, [.slot 0], none⟩,
     ⟨some 22, .mv, [.slot 24], none⟩,
     ⟨some 25, .ext 0, [.slot 24], none⟩,
     ⟨some 26, .ext 1, [.slot 24], none⟩,
     ⟨some 6, .give, [.slot 25], none⟩,
     ⟨some 7, .give, [.slot 26], none⟩])
   (.seq (.reg [⟨some 28, .mv, [.slot 1], none⟩,
     ⟨some 29, .call 35, [.slot 1], none⟩,
     ⟨some 27, .mv, [.slot 29], none⟩,
     ⟨some 30, .ext 0, [.slot 29], none⟩,
     ⟨some 31, .ext 1, [.slot 29], none⟩,
     ⟨some 8, .give, [.slot 30], none⟩,
     ⟨some 9, .give, [.slot 31], none⟩])
   (.seq (.seq (.reg [⟨some 32, .mv, [.slot 7], none⟩,
      ⟨some 33, .bin .eql, [.slot 7, .lit (.int .i64 0)], none⟩,
      ⟨some 34, .mv, [.slot 0], none⟩,
      ⟨some 35, .lenS, [.slot 0], none⟩,
      ⟨some 36, .call 39, [.slot 35], none⟩,
      ⟨some 37, .bin .geq, [.slot 36, .lit (.int .i64 0)], none⟩,
      ⟨some 38, .eqB true, [.slot 33, .slot 37], none⟩,
      ⟨some 39, .mv, [.slot 38], none⟩,
      ⟨some 40, .take, [.slot 7], some (39, false)⟩,
      ⟨some 41, .bin .neq, [.slot 40, .lit (.int .i64 0)], some (39, false)⟩,
      ⟨some 42, .take, [.slot 41], some (39, false)⟩,
      ⟨some 43, .take, [.slot 6], some (42, true)⟩,
      ⟨some 44, .bin .neq, [.slot 43, .lit (.str [])], some (42, true)⟩,
      ⟨some 45, .take, [.slot 44], some (42, true)⟩,
      ⟨some 46, .take, [.slot 7], some (45, false)⟩,
      ⟨some 47, .bin .neq, [.slot 46, .lit (.int .i64 5)], some (45, false)⟩,
      ⟨some 48, .pick, [.slot 45, .lit (.bool true), .slot 47], some (42, true)⟩,
      ⟨some 49, .pick, [.slot 42, .slot 48, .lit (.bool false)], some (39, false)⟩,
      ⟨some 50, .pick, [.slot 38, .lit (.bool true), .slot 49], none⟩])
    (.cond (.slot 50) (.seq (.reg [⟨some 4, .give, [.lit (.bool false)], none⟩])
     (.ret))
    (.skip)))
   (.seq (.seq (.reg [⟨some 51, .mv, [.slot 7], none⟩,
      ⟨some 52, .bin .neq, [.slot 7, .lit (.int .i64 0)], none⟩,
      ⟨some 53, .mv, [.slot 52], none⟩,
      ⟨some 54, .take, [.slot 9], some (53, false)⟩,
      ⟨some 55, .bin .neq, [.slot 54, .lit (.int .i64 0)], some (53, false)⟩,
      ⟨some 56, .pick, [.slot 52, .lit (.bool true), .slot 55], none⟩])
    (.cond (.slot 56) (.seq (.reg [⟨some 57, .mv, [.slot 5], none⟩,
       ⟨some 4, .give, [.slot 5], none⟩])
     (.ret))
    (.skip)))
   (.seq (.reg [⟨some 59, .mv, [.slot 6], none⟩,
     ⟨some 60, .call 37, [.slot 6], none⟩,
     ⟨some 58, .mv, [.slot 60], none⟩,
     ⟨some 61, .ext 0, [.slot 60], none⟩,
     ⟨some 62, .ext 1, [.slot 60], none⟩,
     ⟨some 10, .give, [.slot 61], none⟩,
     ⟨some 11, .give, [.slot 62], none⟩])
   (.seq (.reg [⟨some 63, .mv, [.slot 5], none⟩,
     ⟨some 64, .mv, [.slot 5], none⟩,
     ⟨some 65, .take, [.slot 11], some (64, true)⟩,
     ⟨some 66, .bin .eql, [.slot 65, .lit (.int .i64 0)], some (64, true)⟩,
     ⟨some 67, .pick, [.slot 5, .slot 66, .lit (.bool false)], none⟩,
     ⟨some 68, .mv, [.slot 67], none⟩,
     ⟨some 69, .take, [.slot 10], some (68, true)⟩,
     ⟨some 70, .take, [.slot 0], some (68, true)⟩,
     ⟨some 71, .bin .eql, [.slot 69, .slot 70], some (68, true)⟩,
     ⟨some 72, .pick, [.slot 67, .slot 71, .lit (.bool false)], none⟩,
     ⟨some 73, .mv, [.slot 72], none⟩,
     ⟨some 74, .take, [.slot 6], some (73, true)⟩,
     ⟨some 75, .lenS, [.slot 74], some (73, true)⟩,
     ⟨some 76, .take, [.slot 0], some (73, true)⟩,
     ⟨some 77, .lenS, [.slot 76], some (73, true)⟩,
     ⟨some 78, .call 39, [.slot 77], some (73, true)⟩,
     ⟨some 79, .call 41, [.slot 78], some (73, true)⟩,
     ⟨some 80, .bin .eql, [.slot 75, .slot 79], some (73, true)⟩,
     ⟨some 81, .pick, [.slot 72, .slot 80, .lit (.bool false)], none⟩,
     ⟨some 82, .mv, [.slot 81], none⟩,
     ⟨some 83, .take, [.slot 6], some (82, true)⟩,
     ⟨some 84, .lenS, [.slot 83], some (82, true)⟩,
     ⟨some 85, .take, [.slot 8], some (82, true)⟩,
     ⟨some 86, .lenS, [.slot 85], some (82, true)⟩,
     ⟨some 87, .bin .eql, [.slot 84, .slot 86], some (82, true)⟩,
     ⟨some 88, .take, [.slot 0], some (82, true)⟩,
     ⟨some 89, .lenS, [.slot 88], some (82, true)⟩,
     ⟨some 90, .call 39, [.slot 89], some (82, true)⟩,
     ⟨some 91, .take, [.slot 1], some (82, true)⟩,
     ⟨some 92, .lenS, [.slot 91], some (82, true)⟩,
     ⟨some 93, .call 39, [.slot 92], some (82, true)⟩,
     ⟨some 94, .bin .eql, [.slot 90, .slot 93], some (82, true)⟩,
     ⟨some 95, .eqB false, [.slot 87, .slot 94], some (82, true)⟩,
     ⟨some 96, .pick, [.slot 81, .slot 95, .lit (.bool false)], none⟩,
     ⟨some 97, .mv, [.slot 96], none⟩,
     ⟨some 98, .take, [.slot 6], some (97, true)⟩,
     ⟨some 99, .take, [.slot 8], some (97, true)⟩,
     ⟨some 100, .bin .eql, [.slot 98, .slot 99], some (97, true)⟩,
     ⟨some 101, .take, [.slot 0], some (97, true)⟩,
     ⟨some 102, .take, [.slot 1], some (97, true)⟩,
     ⟨some 103, .bin .eql, [.slot 101, .slot 102], some (97, true)⟩,
     ⟨some 104, .eqB false, [.slot 100, .slot 103], some (97, true)⟩,
     ⟨some 105, .pick, [.slot 96, .slot 104, .lit (.bool false)], none⟩,
     ⟨some 4, .give, [.slot 105], none⟩])
   (.ret)))))))))),
  106, [.tmp 4]⟩
theorem c6 : cFunc Proofs.Try.prog 6 = some sf6 := by kernel_rfl
/-- carpetbag/carpetbaglaw05.PadOne -/
def sf7 : SF := ⟨(.seq (.reg [⟨some 6, .give, [.lit (.bool false)], none⟩])
   (.seq (.reg [⟨some 15, .call 34, [], none⟩,
     ⟨some 7, .give, [.slot 15], none⟩])
   (.seq (.reg [⟨some 17, .mv, [.slot 0], none⟩,
     ⟨some 18, .call 35, [.slot 0], none⟩,
     ⟨some 16, .mv, [.slot 18], none⟩,
     ⟨some 19, .ext 0, [.slot 18], none⟩,
     ⟨some 20, .ext 1, [.slot 18], none⟩,
     ⟨some 8, .give, [.slot 19], none⟩,
     ⟨some 9, .give, [.slot 20], none⟩])
   (.seq (.seq (.reg [⟨some 21, .mv, [.slot 0], none⟩,
      ⟨some 22, .lenS, [.slot 0], none⟩,
      ⟨some 23, .bin .gtr, [.slot 22, .lit (.int .i64 6000)], none⟩,
      ⟨some 24, .mv, [.slot 23], none⟩,
      ⟨some 25, .take, [.slot 9], some (24, false)⟩,
      ⟨some 26, .bin .neq, [.slot 25, .lit (.int .i64 0)], some (24, false)⟩,
      ⟨some 27, .pick, [.slot 23, .lit (.bool true), .slot 26], none⟩,
      ⟨some 28, .mv, [.slot 27], none⟩,
      ⟨some 29, .take, [.slot 1], some (28, false)⟩,
      ⟨some 30, .bin .lss, [.slot 29, .lit (.int .i64 0)], some (28, false)⟩,
      ⟨some 31, .pick, [.slot 27, .lit (.bool true), .slot 30], none⟩,
      ⟨some 32, .mv, [.slot 31], none⟩,
      ⟨some 33, .take, [.slot 1], some (32, false)⟩,
      ⟨some 34, .take, [.slot 8], some (32, false)⟩,
      ⟨some 35, .lenS, [.slot 34], some (32, false)⟩,
      ⟨some 36, .bin .geq, [.slot 33, .slot 35], some (32, false)⟩,
      ⟨some 37, .pick, [.slot 31, .lit (.bool true), .slot 36], none⟩,
      ⟨some 38, .mv, [.slot 37], none⟩,
      ⟨some 39, .take, [.slot 2], some (38, false)⟩,
      ⟨some 40, .bin .eql, [.slot 39, .lit (.int .u8 0)], some (38, false)⟩,
      ⟨some 41, .pick, [.slot 37, .lit (.bool true), .slot 40], none⟩])
    (.cond (.slot 41) (.seq (.reg [⟨some 42, .mv, [.slot 7], none⟩,
       ⟨some 6, .give, [.slot 7], none⟩])
     (.ret))
    (.skip)))
   (.seq (.reg [⟨some 43, .mv, [.slot 8], none⟩,
     ⟨some 44, .s2b, [.slot 8], none⟩,
     ⟨some 10, .giveO, [.slot 44], none⟩])
   (.seq (.reg [⟨some 45, .mv, [.slot 10], none⟩,
     ⟨some 46, .mv, [.slot 1], none⟩,
     ⟨some 47, .mv, [.slot 10], none⟩,
     ⟨some 48, .mv, [.slot 1], none⟩,
     ⟨some 49, .idxB 1, [.slot 10, .slot 1], none⟩,
     ⟨some 50, .load 1 false, [.slot 49], none⟩,
     ⟨some 51, .mv, [.slot 2], none⟩,
     ⟨some 52, .bin .xor, [.slot 50, .slot 2], none⟩,
     ⟨some 53, .idxB 1, [.slot 10, .slot 1], none⟩,
     ⟨none, .store 1 true, [.slot 53, .slot 52], none⟩])
   (.seq (.reg [⟨some 55, .mv, [.slot 10], none⟩,
     ⟨some 56, .b2s, [.slot 10], none⟩,
     ⟨some 57, .call 37, [.slot 56], none⟩,
     ⟨some 54, .mv, [.slot 57], none⟩,
     ⟨some 58, .ext 0, [.slot 57], none⟩,
     ⟨some 59, .ext 1, [.slot 57], none⟩,
     ⟨some 11, .give, [.slot 58], none⟩,
     ⟨some 12, .give, [.slot 59], none⟩])
   (.seq (.seq (.reg [⟨some 60, .mv, [.slot 12], none⟩,
      ⟨some 61, .bin .neq, [.slot 12, .lit (.int .i64 0)], none⟩])
    (.cond (.slot 61) (.seq (.reg [⟨some 62, .mv, [.slot 7], none⟩,
       ⟨some 63, .mv, [.slot 7], none⟩,
       ⟨some 64, .take, [.slot 12], some (63, true)⟩,
       ⟨some 65, .bin .eql, [.slot 64, .lit (.int .i64 4)], some (63, true)⟩,
       ⟨some 66, .pick, [.slot 7, .slot 65, .lit (.bool false)], none⟩,
       ⟨some 67, .mv, [.slot 66], none⟩,
       ⟨some 68, .take, [.slot 11], some (67, true)⟩,
       ⟨some 69, .bin .eql, [.slot 68, .lit (.str [])], some (67, true)⟩,
       ⟨some 70, .pick, [.slot 66, .slot 69, .lit (.bool false)], none⟩,
       ⟨some 6, .give, [.slot 70], none⟩])
     (.ret))
    (.skip)))
   (.seq (.reg [⟨some 72, .mv, [.slot 11], none⟩,
     ⟨some 73, .call 35, [.slot 11], none⟩,
     ⟨some 71, .mv, [.slot 73], none⟩,
     ⟨some 74, .ext 0, [.slot 73], none⟩,
     ⟨some 75, .ext 1, [.slot 73], none⟩,
     ⟨some 13, .give, [.slot 74], none⟩,
     ⟨some 14, .give, [.slot 75], none⟩])
   (.seq (.reg [⟨some 76, .mv, [.slot 7], none⟩,
     ⟨some 77, .mv, [.slot 7], none⟩,
     ⟨some 78, .take, [.slot 14], some (77, true)⟩,
     ⟨some 79, .bin .eql, [.slot 78, .lit (.int .i64 0)], some (77, true)⟩,
     ⟨some 80, .pick, [.slot 7, .slot 79, .lit (.bool false)], none⟩,
     ⟨some 81, .mv, [.slot 80], none⟩,
     ⟨some 82, .take, [.slot 13], some (81, true)⟩,
     ⟨some 83, .take, [.slot 10], some (81, true)⟩,
     ⟨some 84, .b2s, [.slot 83], some (81, true)⟩,
     ⟨some 85, .bin .eql, [.slot 82, .slot 84], some (81, true)⟩,
     ⟨some 86, .pick, [.slot 80, .slot 85, .lit (.bool false)], none⟩,
     ⟨some 87, .mv, [.slot 86], none⟩,
     ⟨some 88, .take, [.slot 11], some (87, true)⟩,
     ⟨some 89, .take, [.slot 0], some (87, true)⟩,
     ⟨some 90, .bin .neq, [.slot 88, .slot 89], some (87, true)⟩,
     ⟨some 91, .pick, [.slot 86, .slot 90, .lit (.bool false)], none⟩,
     ⟨some 6, .give, [.slot 91], none⟩])
   (.ret))))))))))),
  92, [.tmp 6]⟩
theorem c7 : cFunc Proofs.Try.prog 7 = some sf7 := by kernel_rfl
/-- carpetbag/carpetbaglaw05.PadRises -/
def sf8 : SF := ⟨(.seq (.reg [⟨some 4, .give, [.lit (.bool false)], none⟩])
   (.seq (.reg [⟨some 8, .call 34, [], none⟩,
     ⟨some 5, .give, [.slot 8], none⟩])
   (.seq (.reg [⟨some 9, .mv, [.slot 0], none⟩,
     ⟨some 10, .call 39, [.slot 0], none⟩,
     ⟨some 6, .give, [.slot 10], none⟩])
   (.seq (.reg [⟨some 11, .mv, [.slot 1], none⟩,
     ⟨some 12, .call 39, [.slot 1], none⟩,
     ⟨some 7, .give, [.slot 12], none⟩])
   (.seq (.seq (.reg [⟨some 13, .mv, [.slot 0], none⟩,
      ⟨some 14, .bin .lss, [.slot 0, .lit (.int .i64 0)], none⟩,
      ⟨some 15, .mv, [.slot 14], none⟩,
      ⟨some 16, .take, [.slot 1], some (15, false)⟩,
      ⟨some 17, .take, [.slot 0], some (15, false)⟩,
      ⟨some 18, .bin .lss, [.slot 16, .slot 17], some (15, false)⟩,
      ⟨some 19, .pick, [.slot 14, .lit (.bool true), .slot 18], none⟩])
    (.cond (.slot 19) (.seq (.reg [⟨some 20, .mv, [.slot 5], none⟩,
       ⟨some 21, .mv, [.slot 5], none⟩,
       ⟨some 22, .take, [.slot 0], some (21, true)⟩,
       ⟨some 23, .bin .geq, [.slot 22, .lit (.int .i64 0)], some (21, true)⟩,
       ⟨some 24, .take, [.slot 23], some (21, true)⟩,
       ⟨some 25, .take, [.slot 6], some (24, false)⟩,
       ⟨some 26, .bin .eql, [.slot 25, .lit (.int .i64 (-1))], some (24, false)⟩,
       ⟨some 27, .pick, [.slot 24, .lit (.bool true), .slot 26], some (21, true)⟩,
       ⟨some 28, .pick, [.slot 5, .slot 27, .lit (.bool false)], none⟩,
       ⟨some 4, .give, [.slot 28], none⟩])
     (.ret))
    (.skip)))
   (.seq (.seq (.reg [⟨some 29, .mv, [.slot 6], none⟩,
      ⟨some 30, .bin .geq, [.slot 6, .lit (.int .i64 0)], none⟩,
      ⟨some 31, .mv, [.slot 30], none⟩,
      ⟨some 32, .take, [.slot 6], some (31, true)⟩,
      ⟨some 33, .call 41, [.slot 32], some (31, true)⟩,
      ⟨some 34, .take, [.slot 0], some (31, true)⟩,
      ⟨some 35, .bin .add, [.slot 34, .lit (.int .i64 4)], some (31, true)⟩,
      ⟨some 36, .bin .lss, [.slot 33, .slot 35], some (31, true)⟩,
      ⟨some 37, .take, [.slot 36], some (31, true)⟩,
      ⟨some 38, .take, [.slot 6], some (37, false)⟩,
      ⟨some 39, .bin .gtr, [.slot 38, .lit (.int .i64 0)], some (37, false)⟩,
      ⟨some 40, .take, [.slot 39], some (37, false)⟩,
      ⟨some 41, .take, [.slot 6], some (40, true)⟩,
      ⟨some 42, .bin .sub, [.slot 41, .lit (.int .i64 1)], some (40, true)⟩,
      ⟨some 43, .call 41, [.slot 42], some (40, true)⟩,
      ⟨some 44, .take, [.slot 0], some (40, true)⟩,
      ⟨some 45, .bin .add, [.slot 44, .lit (.int .i64 4)], some (40, true)⟩,
      ⟨some 46, .bin .geq, [.slot 43, .slot 45], some (40, true)⟩,
      ⟨some 47, .pick, [.slot 40, .slot 46, .lit (.bool false)], some (37, false)⟩,
      ⟨some 48, .pick, [.slot 37, .lit (.bool true), .slot 47], some (31, true)⟩,
      ⟨some 49, .pick, [.slot 30, .slot 48, .lit (.bool false)], none⟩])
    (.cond (.slot 49) (.seq (.reg [⟨some 4, .give, [.lit (.bool false)], none⟩])
     (.ret))
    (.skip)))
   (.seq (.reg [⟨some 50, .mv, [.slot 5], none⟩,
     ⟨some 51, .mv, [.slot 5], none⟩,
     ⟨some 52, .take, [.slot 7], some (51, true)⟩,
     ⟨some 53, .bin .eql, [.slot 52, .lit (.int .i64 (-1))], some (51, true)⟩,
     ⟨some 54, .take, [.slot 53], some (51, true)⟩,
     ⟨some 55, .take, [.slot 6], some (54, false)⟩,
     ⟨some 56, .bin .geq, [.slot 55, .lit (.int .i64 0)], some (54, false)⟩,
     ⟨some 57, .take, [.slot 56], some (54, false)⟩,
     ⟨some 58, .take, [.slot 6], some (57, true)⟩,
     ⟨some 59, .take, [.slot 7], some (57, true)⟩,
     ⟨some 60, .bin .leq, [.slot 58, .slot 59], some (57, true)⟩,
     ⟨some 61, .pick, [.slot 57, .slot 60, .lit (.bool false)], some (54, false)⟩,
     ⟨some 62, .pick, [.slot 54, .lit (.bool true), .slot 61], some (51, true)⟩,
     ⟨some 63, .pick, [.slot 5, .slot 62, .lit (.bool false)], none⟩,
     ⟨some 64, .mv, [.slot 63], none⟩,
     ⟨some 65, .take, [.slot 6], some (64, true)⟩,
     ⟨some 66, .bin .eql, [.slot 65, .lit (.int .i64 (-1))], some (64, true)⟩,
     ⟨some 67, .take, [.slot 0], some (64, true)⟩,
     ⟨some 68, .bin .gtr, [.slot 67, .lit (.int .i64 5116)], some (64, true)⟩,
     ⟨some 69, .eqB false, [.slot 66, .slot 68], some (64, true)⟩,
     ⟨some 70, .pick, [.slot 63, .slot 69, .lit (.bool false)], none⟩,
     ⟨some 4, .give, [.slot 70], none⟩])
   (.ret)))))))),
  71, [.tmp 4]⟩
theorem c8 : cFunc Proofs.Try.prog 8 = some sf8 := by kernel_rfl
/-- carpetbag/carpetbaglaw05.PadAlike -/
def sf9 : SF := ⟨(.seq (.reg [⟨some 4, .give, [.lit (.bool false)], none⟩])
   (.seq (.reg [⟨some 13, .call 34, [], none⟩,
     ⟨some 5, .give, [.slot 13], none⟩])
   (.seq (.seq (.reg [⟨some 14, .mv, [.slot 0], none⟩,
      ⟨some 15, .lenS, [.slot 0], none⟩,
      ⟨some 16, .bin .gtr, [.slot 15, .lit (.int .i64 5200)], none⟩])
    (.cond (.slot 16) (.seq (.reg [⟨some 17, .mv, [.slot 5], none⟩,
       ⟨some 4, .give, [.slot 5], none⟩])
     (.ret))
    (.skip)))
   (.seq (.reg [⟨some 18, .mv, [.slot 0], none⟩,
     ⟨some 19, .s2b, [.slot 0], none⟩,
     ⟨some 6, .giveO, [.slot 19], none⟩])
   (.seq (.seq (.reg [⟨some 7, .take, [.lit (.int .i64 0)], none⟩])
    (.block 0 (.loop (.seq (.seq (.reg [⟨some 20, .mv, [.slot 7], none⟩,
         ⟨some 21, .mv, [.slot 6], none⟩,
         ⟨some 22, .lenL, [.slot 6], none⟩,
         ⟨some 23, .bin .lss, [.slot 7, .slot 22], none⟩])
       (.cond (.slot 23) (.skip)
       (.exit 0)))
      (.seq (.block 1 (.reg [⟨some 26, .mv, [.slot 6], none⟩,
         ⟨some 27, .mv, [.slot 7], none⟩,
         ⟨some 28, .mv, [.slot 6], none⟩,
         ⟨some 29, .mv, [.slot 7], none⟩,
         ⟨some 30, .idxB 1, [.slot 6, .slot 7], none⟩,
         ⟨some 31, .load 1 false, [.slot 30], none⟩,
         ⟨some 32, .mv, [.slot 1], none⟩,
         ⟨some 33, .bin .xor, [.slot 31, .slot 1], none⟩,
         ⟨some 34, .idxB 1, [.slot 6, .slot 7], none⟩,
         ⟨none, .store 1 true, [.slot 34, .slot 33], none⟩]))
      (.reg [⟨some 24, .mv, [.slot 7], none⟩,
       ⟨some 25, .bin .add, [.slot 7, .lit (.int .i64 1)], none⟩,
       ⟨some 7, .give, [.slot 25], none⟩]))))))
   (.seq (.reg [⟨some 36, .mv, [.slot 0], none⟩,
     ⟨some 37, .call 35, [.slot 0], none⟩,
     ⟨some 35, .mv, [.slot 37], none⟩,
     ⟨some 38, .ext 0, [.slot 37], none⟩,
     ⟨some 39, .ext 1, [.slot 37], none⟩,
     ⟨some 8, .give, [.slot 38], none⟩,
     ⟨some 9, .give, [.slot 39], none⟩])
   (.seq (.reg [⟨some 41, .mv, [.slot 6], none⟩,
     ⟨some 42, .b2s, [.slot 6], none⟩,
     ⟨some 43, .call 35, [.slot 42], none⟩,
     ⟨some 40, .mv, [.slot 43], none⟩,
     ⟨some 44, .ext 0, [.slot 43], none⟩,
     ⟨some 45, .ext 1, [.slot 43], none⟩,
     ⟨some 10, .give, [.slot 44], none⟩,
     ⟨some 11, .give, [.slot 45], none⟩])
   (.seq (.seq (.reg [⟨some 46, .mv, [.slot 9], none⟩,
      ⟨some 47, .bin .neq, [.slot 9, .lit (.int .i64 0)], none⟩])
    (.cond (.slot 47) (.seq (.reg [⟨some 48, .mv, [.slot 5], none⟩,
       ⟨some 49, .mv, [.slot 5], none⟩,
       ⟨some 50, .take, [.slot 9], some (49, true)⟩,
       ⟨some 51, .take, [.slot 11], some (49, true)⟩,
       ⟨some 52, .bin .eql, [.slot 50, .slot 51], some (49, true)⟩,
       ⟨some 53, .pick, [.slot 5, .slot 52, .lit (.bool false)], none⟩,
       ⟨some 54, .mv, [.slot 53], none⟩,
       ⟨some 55, .take, [.slot 8], some (54, true)⟩,
       ⟨some 56, .take, [.slot 10], some (54, true)⟩,
       ⟨some 57, .bin .eql, [.slot 55, .slot 56], some (54, true)⟩,
       ⟨some 58, .pick, [.slot 53, .slot 57, .lit (.bool false)], none⟩,
       ⟨some 4, .give, [.slot 58], none⟩])
     (.ret))
    (.skip)))
   (.seq (.reg [⟨some 59, .mv, [.slot 0], none⟩,
     ⟨some 60, .lenS, [.slot 0], none⟩,
     ⟨some 12, .give, [.slot 60], none⟩])
   (.seq (.reg [⟨some 61, .mv, [.slot 5], none⟩,
       ⟨some 62, .mv, [.slot 5], none⟩,
       ⟨some 63, .mv, [.slot 11], some (62, true)⟩,
       ⟨some 64, .bin .eql, [.slot 63, .lit (.int .i64 0)], some (62, true)⟩,
       ⟨some 65, .pick, [.slot 61, .slot 64, .lit (.bool false)], none⟩,
       ⟨some 66, .mv, [.slot 65], none⟩,
       ⟨some 67, .mv, [.slot 8], some (66, true)⟩,
       ⟨some 68, .slcS false true, [.slot 67, .lit (.int .i64 4)], some (66, true)⟩,
       ⟨some 69, .mv, [.slot 10], some (66, true)⟩,
       ⟨some 70, .slcS false true, [.slot 69, .lit (.int .i64 4)], some (66, true)⟩,
       ⟨some 71, .bin .eql, [.slot 68, .slot 70], some (66, true)⟩,
       ⟨some 72, .pick, [.slot 65, .slot 71, .lit (.bool false)], none⟩,
       ⟨some 73, .mv, [.slot 72], none⟩,
       ⟨some 74, .mv, [.slot 8], some (73, true)⟩,
       ⟨some 75, .mv, [.slot 12], some (73, true)⟩,
       ⟨some 76, .bin .add, [.lit (.int .i64 4), .slot 75], some (73, true)⟩,
       ⟨some 77, .slcS true true, [.slot 74, .lit (.int .i64 4), .slot 76], some (73, true)⟩,
       ⟨some 78, .mv, [.slot 0], some (73, true)⟩,
       ⟨some 79, .bin .eql, [.slot 77, .slot 78], some (73, true)⟩,
       ⟨some 80, .pick, [.slot 72, .slot 79, .lit (.bool false)], none⟩,
       ⟨some 81, .mv, [.slot 80], none⟩,
       ⟨some 82, .mv, [.slot 10], some (81, true)⟩,
       ⟨some 83, .mv, [.slot 12], some (81, true)⟩,
       ⟨some 84, .bin .add, [.lit (.int .i64 4), .slot 83], some (81, true)⟩,
       ⟨some 85, .slcS true true, [.slot 82, .lit (.int .i64 4), .slot 84], some (81, true)⟩,
       ⟨some 86, .mv, [.slot 6], some (81, true)⟩,
       ⟨some 87, .b2s, [.slot 86], some (81, true)⟩,
       ⟨some 88, .bin .eql, [.slot 85, .slot 87], some (81, true)⟩,
       ⟨some 89, .pick, [.slot 80, .slot 88, .lit (.bool false)], none⟩,
       ⟨some 90, .mv, [.slot 89], none⟩,
       ⟨some 91, .mv, [.slot 8], some (90, true)⟩,
       ⟨some 92, .mv, [.slot 12], some (90, true)⟩,
       ⟨some 93, .bin .add, [.lit (.int .i64 4), .slot 92], some (90, true)⟩,
       ⟨some 94, .slcS true false, [.slot 91, .slot 93], some (90, true)⟩,
       ⟨some 95, .mv, [.slot 10], some (90, true)⟩,
       ⟨some 96, .mv, [.slot 12], some (90, true)⟩,
       ⟨some 97, .bin .add, [.lit (.int .i64 4), .slot 96], some (90, true)⟩,
       ⟨some 98, .slcS true false, [.slot 95, .slot 97], some (90, true)⟩,
       ⟨some 99, .bin .eql, [.slot 94, .slot 98], some (90, true)⟩,
       ⟨some 100, .pick, [.slot 89, .slot 99, .lit (.bool false)], none⟩,
       ⟨some 4, .give, [.slot 100], none⟩])
   (.ret))))))))))),
  101, [.tmp 4]⟩
theorem c9 : cFunc Proofs.Try.prog 9 = some sf9 := by kernel_rfl
/-- carpetbag/carpetbaglaw05.PadSizes -/
def sf10 : SF := ⟨(.seq (.reg [⟨some 2, .give, [.lit (.bool false)], none⟩])
   (.seq (.reg [⟨some 6, .call 34, [], none⟩,
     ⟨some 3, .give, [.slot 6], none⟩])
   (.seq (.reg [⟨some 7, .call 43, [], none⟩,
     ⟨some 4, .giveO, [.slot 7], none⟩])
   (.seq (.seq (.reg [⟨some 8, .mv, [.slot 4], none⟩,
      ⟨some 9, .lenL, [.slot 4], none⟩,
      ⟨some 10, .bin .neq, [.slot 9, .lit (.int .i64 4)], none⟩])
    (.cond (.slot 10) (.seq (.reg [⟨some 2, .give, [.lit (.bool false)], none⟩])
     (.ret))
    (.skip)))
   (.seq (.seq (.reg [⟨some 5, .take, [.lit (.int .i64 0)], none⟩])
    (.block 0 (.loop (.seq (.seq (.reg [⟨some 11, .mv, [.slot 5], none⟩,
         ⟨some 12, .bin .lss, [.slot 5, .lit (.int .i64 4)], none⟩])
       (.cond (.slot 12) (.skip)
       (.exit 0)))
      (.seq (.block 1 (.seq (.seq (.reg [⟨some 15, .mv, [.slot 4], none⟩,
        ⟨some 16, .mv, [.slot 5], none⟩,
        ⟨some 17, .idxA 1, [.slot 4, .slot 5], none⟩,
        ⟨some 19, .mv, [.slot 5], none⟩])
      (.both (.reg [⟨some 18, .load 1 false, [.slot 17], none⟩,
        ⟨some 20, .call 41, [.slot 19], none⟩,
        ⟨some 21, .bin .neq, [.slot 18, .slot 20], none⟩,
        ⟨some 22, .mv, [.slot 21], none⟩,
        ⟨some 23, .mv, [.slot 4], some (22, false)⟩,
        ⟨some 24, .mv, [.slot 5], some (22, false)⟩,
        ⟨some 25, .idxA 1, [.slot 23, .slot 24], some (22, false)⟩,
        ⟨some 26, .load 1 false, [.slot 25], some (22, false)⟩,
        ⟨some 27, .bin .sub, [.slot 26, .lit (.int .i64 4)], some (22, false)⟩,
        ⟨some 28, .call 39, [.slot 27], some (22, false)⟩,
        ⟨some 29, .mv, [.slot 5], some (22, false)⟩,
        ⟨some 30, .bin .neq, [.slot 28, .slot 29], some (22, false)⟩,
        ⟨some 31, .pick, [.slot 21, .lit (.bool true), .slot 30], none⟩,
        ⟨some 32, .mv, [.slot 31], none⟩,
        ⟨some 33, .mv, [.slot 5], some (32, false)⟩,
        ⟨some 34, .bin .gtr, [.slot 33, .lit (.int .i64 0)], some (32, false)⟩,
        ⟨some 35, .mv, [.slot 34], some (32, false)⟩,
        ⟨some 36, .mv, [.slot 4], some (35, true)⟩,
        ⟨some 37, .mv, [.slot 5], some (35, true)⟩,
        ⟨some 38, .idxA 1, [.slot 36, .slot 37], some (35, true)⟩,
        ⟨some 39, .load 1 false, [.slot 38], some (35, true)⟩,
        ⟨some 40, .mv, [.slot 4], some (35, true)⟩,
        ⟨some 41, .mv, [.slot 5], some (35, true)⟩,
        ⟨some 42, .bin .sub, [.slot 41, .lit (.int .i64 1)], some (35, true)⟩,
        ⟨some 43, .idxA 1, [.slot 40, .slot 42], some (35, true)⟩,
        ⟨some 44, .load 1 false, [.slot 43], some (35, true)⟩,
        ⟨some 45, .bin .mul, [.lit (.int .i64 4), .slot 44], some (35, true)⟩,
        ⟨some 46, .bin .neq, [.slot 39, .slot 45], some (35, true)⟩,
        ⟨some 47, .pick, [.slot 35, .slot 46, .lit (.bool false)], some (32, false)⟩,
        ⟨some 48, .pick, [.slot 31, .lit (.bool true), .slot 47], none⟩,
        ⟨some 49, .mv, [.slot 48], none⟩,
        ⟨some 50, .mv, [.slot 5], some (49, false)⟩,
        ⟨some 51, .bin .lss, [.slot 50, .lit (.int .i64 3)], some (49, false)⟩,
        ⟨some 52, .mv, [.slot 51], some (49, false)⟩,
        ⟨some 53, .mv, [.slot 4], some (52, true)⟩,
        ⟨some 54, .mv, [.slot 5], some (52, true)⟩,
        ⟨some 55, .idxA 1, [.slot 53, .slot 54], some (52, true)⟩,
        ⟨some 56, .load 1 false, [.slot 55], some (52, true)⟩,
        ⟨some 57, .bin .sub, [.slot 56, .lit (.int .i64 3)], some (52, true)⟩,
        ⟨some 58, .call 39, [.slot 57], some (52, true)⟩,
        ⟨some 59, .mv, [.slot 5], some (52, true)⟩,
        ⟨some 60, .bin .add, [.slot 59, .lit (.int .i64 1)], some (52, true)⟩,
        ⟨some 61, .bin .neq, [.slot 58, .slot 60], some (52, true)⟩,
        ⟨some 62, .pick, [.slot 52, .slot 61, .lit (.bool false)], some (49, false)⟩,
        ⟨some 63, .pick, [.slot 48, .lit (.bool true), .slot 62], none⟩])
      (.both (.reg [⟨some 20, .call 41, [.slot 19], none⟩,
        ⟨some 18, .load 1 false, [.slot 17], none⟩,
        ⟨some 21, .bin .neq, [.slot 18, .slot 20], none⟩,
        ⟨some 22, .mv, [.slot 21], none⟩,
        ⟨some 23, .mv, [.slot 4], some (22, false)⟩,
        ⟨some 24, .mv, [.slot 5], some (22, false)⟩,
        ⟨some 25, .idxA 1, [.slot 23, .slot 24], some (22, false)⟩,
        ⟨some 26, .load 1 false, [.slot 25], some (22, false)⟩,
        ⟨some 27, .bin .sub, [.slot 26, .lit (.int .i64 4)], some (22, false)⟩,
        ⟨some 28, .call 39, [.slot 27], some (22, false)⟩,
        ⟨some 29, .mv, [.slot 5], some (22, false)⟩,
        ⟨some 30, .bin .neq, [.slot 28, .slot 29], some (22, false)⟩,
        ⟨some 31, .pick, [.slot 21, .lit (.bool true), .slot 30], none⟩,
        ⟨some 32, .mv, [.slot 31], none⟩,
        ⟨some 33, .mv, [.slot 5], some (32, false)⟩,
        ⟨some 34, .bin .gtr, [.slot 33, .lit (.int .i64 0)], some (32, false)⟩,
        ⟨some 35, .mv, [.slot 34], some (32, false)⟩,
        ⟨some 36, .mv, [.slot 4], some (35, true)⟩,
        ⟨some 37, .mv, [.slot 5], some (35, true)⟩,
        ⟨some 38, .idxA 1, [.slot 36, .slot 37], some (35, true)⟩,
        ⟨some 39, .load 1 false, [.slot 38], some (35, true)⟩,
        ⟨some 40, .mv, [.slot 4], some (35, true)⟩,
        ⟨some 41, .mv, [.slot 5], some (35, true)⟩,
        ⟨some 42, .bin .sub, [.slot 41, .lit (.int .i64 1)], some (35, true)⟩,
        ⟨some 43, .idxA 1, [.slot 40, .slot 42], some (35, true)⟩,
        ⟨some 44, .load 1 false, [.slot 43], some (35, true)⟩,
        ⟨some 45, .bin .mul, [.lit (.int .i64 4), .slot 44], some (35, true)⟩,
        ⟨some 46, .bin .neq, [.slot 39, .slot 45], some (35, true)⟩,
        ⟨some 47, .pick, [.slot 35, .slot 46, .lit (.bool false)], some (32, false)⟩,
        ⟨some 48, .pick, [.slot 31, .lit (.bool true), .slot 47], none⟩,
        ⟨some 49, .mv, [.slot 48], none⟩,
        ⟨some 50, .mv, [.slot 5], some (49, false)⟩,
        ⟨some 51, .bin .lss, [.slot 50, .lit (.int .i64 3)], some (49, false)⟩,
        ⟨some 52, .mv, [.slot 51], some (49, false)⟩,
        ⟨some 53, .mv, [.slot 4], some (52, true)⟩,
        ⟨some 54, .mv, [.slot 5], some (52, true)⟩,
        ⟨some 55, .idxA 1, [.slot 53, .slot 54], some (52, true)⟩,
        ⟨some 56, .load 1 false, [.slot 55], some (52, true)⟩,
        ⟨some 57, .bin .sub, [.slot 56, .lit (.int .i64 3)], some (52, true)⟩,
        ⟨some 58, .call 39, [.slot 57], some (52, true)⟩,
        ⟨some 59, .mv, [.slot 5], some (52, true)⟩,
        ⟨some 60, .bin .add, [.slot 59, .lit (.int .i64 1)], some (52, true)⟩,
        ⟨some 61, .bin .neq, [.slot 58, .slot 60], some (52, true)⟩,
        ⟨some 62, .pick, [.slot 52, .slot 61, .lit (.bool false)], some (49, false)⟩,
        ⟨some 63, .pick, [.slot 48, .lit (.bool true), .slot 62], none⟩])
      (.tt))))
        (.cond (.slot 63) (.seq (.reg [⟨some 2, .give, [.lit (.bool false)], none⟩])
         (.ret))
        (.skip))))
      (.reg [⟨some 13, .mv, [.slot 5], none⟩,
       ⟨some 14, .bin .add, [.slot 5, .lit (.int .i64 1)], none⟩,
       ⟨some 5, .give, [.slot 14], none⟩]))))))
   (.seq (.reg [⟨some 64, .mv, [.slot 4], none⟩,
     ⟨some 65, .idxB 1, [.slot 4, .lit (.int .i64 0)], none⟩,
     ⟨none, .store 1 false, [.slot 65, .lit (.int .i64 7)], none⟩])
   (.seq (.reg [⟨some 66, .mv, [.slot 3], none⟩,
     ⟨some 67, .mv, [.slot 3], none⟩,
     ⟨some 68, .take, [.slot 0], some (67, true)⟩,
     ⟨some 69, .call 41, [.slot 68], some (67, true)⟩,
     ⟨some 70, .bin .gtr, [.slot 69, .lit (.int .i64 0)], some (67, true)⟩,
     ⟨some 71, .take, [.slot 0], some (67, true)⟩,
     ⟨some 72, .bin .geq, [.slot 71, .lit (.int .i64 0)], some (67, true)⟩,
     ⟨some 73, .take, [.slot 72], some (67, true)⟩,
     ⟨some 74, .take, [.slot 0], some (73, true)⟩,
     ⟨some 75, .bin .lss, [.slot 74, .lit (.int .i64 4)], some (73, true)⟩,
     ⟨some 76, .pick, [.slot 73, .slot 75, .lit (.bool false)], some (67, true)⟩,
     ⟨some 77, .eqB false, [.slot 70, .slot 76], some (67, true)⟩,
     ⟨some 78, .pick, [.slot 3, .slot 77, .lit (.bool false)], none⟩,
     ⟨some 79, .mv, [.slot 78], none⟩,
     ⟨some 80, .call 43, [], some (79, true)⟩,
     ⟨some 81, .idxB 1, [.slot 80, .lit (.int .i64 0)], some (79, true)⟩,
     ⟨some 82, .load 1 false, [.slot 81], some (79, true)⟩,
     ⟨some 83, .bin .eql, [.slot 82, .lit (.int .i64 80)], some (79, true)⟩,
     ⟨some 84, .pick, [.slot 78, .slot 83, .lit (.bool false)], none⟩,
     ⟨some 2, .give, [.slot 84], none⟩])
   (.ret)))))))),
  85, [.tmp 2]⟩
theorem c10 : cFunc Proofs.Try.prog 10 = some sf10 := by kernel_rfl
/-- carpetbag/carpetbaglaw05.PadZeros -/
def sf11 : SF := ⟨(.seq (.reg [⟨some 4, .give, [.lit (.bool false)], none⟩])
   (.seq (.reg [⟨some 11, .call 34, [], none⟩,
     ⟨some 5, .give, [.slot 11], none⟩])
   (.seq (.seq (.reg [⟨some 12, .mv, [.slot 0], none⟩,
      ⟨some 13, .lenS, [.slot 0], none⟩,
      ⟨some 14, .bin .gtr, [.slot 13, .lit (.int .i64 300)], none⟩,
      ⟨some 15, .mv, [.slot 14], none⟩,
      ⟨some 16, .take, [.slot 1], some (15, false)⟩,
      ⟨some 17, .bin .lss, [.slot 16, .lit (.int .i64 0)], some (15, false)⟩,
      ⟨some 18, .pick, [.slot 14, .lit (.bool true), .slot 17], none⟩,
      ⟨some 19, .mv, [.slot 18], none⟩,
      ⟨some 20, .take, [.slot 1], some (19, false)⟩,
      ⟨some 21, .bin .gtr, [.slot 20, .lit (.int .i64 1500)], some (19, false)⟩,
      ⟨some 22, .pick, [.slot 18, .lit (.bool true), .slot 21], none⟩])
    (.cond (.slot 22) (.seq (.reg [⟨some 23, .mv, [.slot 5], none⟩,
       ⟨some 4, .give, [.slot 5], none⟩])
     (.ret))
    (.skip)))
   (.seq (.reg [⟨some 25, .mv, [.slot 0], none⟩,
     ⟨some 26, .call 35, [.slot 0], none⟩,
     ⟨some 24, .mv, [.slot 26], none⟩,
     ⟨some 27, .ext 0, [.slot 26], none⟩,
     ⟨some 28, .ext 1, [.slot 26], none⟩,
     ⟨some 6, .give, [.slot 27], none⟩,
     ⟨some 7, .give, [.slot 28], none⟩])
   (.seq (.seq (.reg [⟨some 29, .mv, [.slot 7], none⟩,
      ⟨some 30, .bin .neq, [.slot 7, .lit (.int .i64 0)], none⟩,
      ⟨some 31, .mv, [.slot 30], none⟩,
      ⟨some 32, .take, [.slot 6], some (31, false)⟩,
      ⟨some 33, .lenS, [.slot 32], some (31, false)⟩,
      ⟨some 34, .take, [.slot 0], some (31, false)⟩,
      ⟨some 35, .lenS, [.slot 34], some (31, false)⟩,
      ⟨some 36, .bin .add, [.lit (.int .i64 4), .slot 35], some (31, false)⟩,
      ⟨some 37, .bin .lss, [.slot 33, .slot 36], some (31, false)⟩,
      ⟨some 38, .pick, [.slot 30, .lit (.bool true), .slot 37], none⟩])
    (.cond (.slot 38) (.seq (.reg [⟨some 4, .give, [.lit (.bool false)], none⟩])
     (.ret))
    (.skip)))
   (.seq (.reg [⟨some 39, .mv, [.slot 6], none⟩,
       ⟨some 40, .mv, [.slot 0], none⟩,
       ⟨some 41, .lenS, [.slot 0], none⟩,
       ⟨some 42, .bin .add, [.lit (.int .i64 4), .slot 41], none⟩,
       ⟨some 43, .slcS false true, [.slot 6, .slot 42], none⟩,
       ⟨some 44, .mv, [.slot 1], none⟩,
       ⟨some 45, .mkS 1 1 [.int .u8 0], [.slot 1, .slot 1], none⟩,
       ⟨some 46, .b2s, [.slot 45], none⟩,
       ⟨some 47, .bin .add, [.slot 43, .slot 46], none⟩,
       ⟨some 8, .give, [.slot 47], none⟩])
   (.seq (.reg [⟨some 49, .mv, [.slot 8], none⟩,
     ⟨some 50, .call 37, [.slot 8], none⟩,
     ⟨some 48, .mv, [.slot 50], none⟩,
     ⟨some 51, .ext 0, [.slot 50], none⟩,
     ⟨some 52, .ext 1, [.slot 50], none⟩,
     ⟨some 9, .give, [.slot 51], none⟩,
     ⟨some 10, .give, [.slot 52], none⟩])
   (.seq (.reg [⟨some 53, .mv, [.slot 5], none⟩,
     ⟨some 54, .mv, [.slot 5], none⟩,
     ⟨some 55, .take, [.slot 10], some (54, true)⟩,
     ⟨some 56, .bin .eql, [.slot 55, .lit (.int .i64 0)], some (54, true)⟩,
     ⟨some 57, .take, [.slot 8], some (54, true)⟩,
     ⟨some 58, .lenS, [.slot 57], some (54, true)⟩,
     ⟨some 59, .take, [.slot 6], some (54, true)⟩,
     ⟨some 60, .lenS, [.slot 59], some (54, true)⟩,
     ⟨some 61, .bin .eql, [.slot 58, .slot 60], some (54, true)⟩,
     ⟨some 62, .eqB false, [.slot 56, .slot 61], some (54, true)⟩,
     ⟨some 63, .pick, [.slot 5, .slot 62, .lit (.bool false)], none⟩,
     ⟨some 64, .mv, [.slot 63], none⟩,
     ⟨some 65, .take, [.slot 10], some (64, true)⟩,
     ⟨some 66, .bin .neq, [.slot 65, .lit (.int .i64 0)], some (64, true)⟩,
     ⟨some 67, .take, [.slot 66], some (64, true)⟩,
     ⟨some 68, .take, [.slot 9], some (67, false)⟩,
     ⟨some 69, .take, [.slot 0], some (67, false)⟩,
     ⟨some 70, .bin .eql, [.slot 68, .slot 69], some (67, false)⟩,
     ⟨some 71, .pick, [.slot 67, .lit (.bool true), .slot 70], some (64, true)⟩,
     ⟨some 72, .pick, [.slot 63, .slot 71, .lit (.bool false)], none⟩,
     ⟨some 4, .give, [.slot 72], none⟩])
   (.ret))))))))),
  73, [.tmp 4]⟩
theorem c11 : cFunc Proofs.Try.prog 11 = some sf11 := by kernel_rfl
/-- carpetbag/carpetbaglaw01.small -/
def sf12 : SF := ⟨(.seq (.reg [⟨some 0, .give, [.lit (.bool false)], none⟩])
   (.seq (.reg [⟨some 8, .bsl 1 8 [.int .u8 0] [0, 1, 2, 3, 4, 5, 6, 7], [.lit (.int .u8 0), .lit (.int .u8 0), .lit (.int .u8 0), .lit (.int .u8 9), .lit (.int .u8 0), .lit (.int .u8 0), .lit (.int .u8 0), .lit (.int .u8 1)], none⟩,
     ⟨some 9, .call 22, [.slot 8], none⟩,
     ⟨some 1, .give, [.slot 9], none⟩])
   (.seq (.seq (.reg [⟨some 10, .mv, [.slot 1], none⟩,
      ⟨some 11, .eqN .p false, [.slot 1, .lit (.nilP)], none⟩])
    (.cond (.slot 11) (.seq (.reg [⟨some 0, .give, [.lit (.bool false)], none⟩])
     (.ret))
    (.skip)))
   (.seq (.reg [⟨some 12, .mv, [.slot 1], none⟩,
     ⟨some 13, .call 23, [.slot 1, .lit (.int .i64 9)], none⟩,
     ⟨some 2, .give, [.slot 13], none⟩])
   (.seq (.reg [⟨some 14, .mv, [.slot 1], none⟩,
     ⟨some 15, .call 23, [.slot 1, .lit (.int .i64 0)], none⟩,
     ⟨some 3, .give, [.slot 15], none⟩])
   (.seq (.reg [⟨some 16, .call 14, [.lit (.nilS), .lit (.int .i64 7)], none⟩,
     ⟨some 17, .call 15, [.slot 16, .lit (.str [97, 98])], none⟩,
     ⟨some 18, .bsl 1 2 [.str []] [0, 1], [.lit (.str [99]), .lit (.str [])], none⟩,
     ⟨some 19, .call 16, [.slot 17, .slot 18], none⟩,
     ⟨some 20, .call 22, [.slot 19], none⟩,
     ⟨some 4, .give, [.slot 20], none⟩])
   (.seq (.seq (.reg [⟨some 21, .mv, [.slot 4], none⟩,
      ⟨some 22, .eqN .p false, [.slot 4, .lit (.nilP)], none⟩])
    (.cond (.slot 22) (.seq (.reg [⟨some 0, .give, [.lit (.bool false)], none⟩])
     (.ret))
    (.skip)))
   (.seq (.reg [⟨some 23, .mv, [.slot 4], none⟩,
     ⟨some 24, .call 23, [.slot 4, .lit (.int .i64 9)], none⟩,
     ⟨some 5, .give, [.slot 24], none⟩])
   (.seq (.reg [⟨some 25, .mv, [.slot 4], none⟩,
     ⟨some 26, .call 25, [.slot 4, .lit (.int .i64 2)], none⟩,
     ⟨some 6, .give, [.slot 26], none⟩])
   (.seq (.reg [⟨some 27, .mv, [.slot 4], none⟩,
     ⟨some 28, .call 28, [.slot 4, .lit (.int .i64 2), .lit (.int .i64 1)], none⟩,
     ⟨some 7, .give, [.slot 28], none⟩])
   (.seq (.reg [⟨some 29, .mv, [.slot 2], none⟩,
     ⟨some 30, .bin .eql, [.slot 2, .lit (.int .i64 9)], none⟩,
     ⟨some 31, .mv, [.slot 30], none⟩,
     ⟨some 32, .take, [.slot 3], some (31, true)⟩,
     ⟨some 33, .bin .eql, [.slot 32, .lit (.int .i64 0)], some (31, true)⟩,
     ⟨some 34, .pick, [.slot 30, .slot 33, .lit (.bool false)], none⟩,
     ⟨some 35, .mv, [.slot 34], none⟩,
     ⟨some 36, .take, [.slot 1], some (35, true)⟩,
     ⟨some 37, .call 32, [.slot 36], some (35, true)⟩,
     ⟨some 38, .bin .eql, [.slot 37, .lit (.int .i64 5)], some (35, true)⟩,
     ⟨some 39, .pick, [.slot 34, .slot 38, .lit (.bool false)], none⟩,
     ⟨some 40, .mv, [.slot 39], none⟩,
     ⟨some 41, .take, [.slot 1], some (40, true)⟩,
     ⟨some 42, .call 33, [.slot 41], some (40, true)⟩,
     ⟨some 43, .bin .eql, [.slot 42, .lit (.int .i64 4)], some (40, true)⟩,
     ⟨some 44, .pick, [.slot 39, .slot 43, .lit (.bool false)], none⟩,
     ⟨some 45, .mv, [.slot 44], none⟩,
     ⟨some 46, .take, [.slot 1], some (45, true)⟩,
     ⟨some 47, .call 30, [.slot 46], some (45, true)⟩,
     ⟨some 48, .bin .eql, [.slot 47, .lit (.int .i64 5)], some (45, true)⟩,
     ⟨some 49, .pick, [.slot 44, .slot 48, .lit (.bool false)], none⟩,
     ⟨some 50, .mv, [.slot 49], none⟩,
     ⟨some 51, .take, [.slot 5], some (50, true)⟩,
     ⟨some 52, .bin .eql, [.slot 51, .lit (.int .i64 7)], some (50, true)⟩,
     ⟨some 53, .pick, [.slot 49, .slot 52, .lit (.bool false)], none⟩,
     ⟨some 54, .mv, [.slot 53], none⟩,
     ⟨some 55, .take, [.slot 6], some (54, true)⟩,
     ⟨some 56, .bin .eql, [.slot 55, .lit (.str [97, 98])], some (54, true)⟩,
     ⟨some 57, .pick, [.slot 53, .slot 56, .lit (.bool false)], none⟩,
     ⟨some 58, .mv, [.slot 57], none⟩,
     ⟨some 59, .take, [.slot 7], some (58, true)⟩,
     ⟨some 60, .bsl 1 2 [.str []] [0, 1], [.lit (.str [99]), .lit (.str [])], some (58, true)⟩,
     ⟨some 61, .call 27, [.slot 59, .slot 60], some (58, true)⟩,
     ⟨some 62, .pick, [.slot 57, .slot 61, .lit (.bool false)], none⟩,
     ⟨some 63, .mv, [.slot 62], none⟩,
     ⟨some 64, .take, [.slot 4], some (63, true)⟩,
     ⟨some 65, .call 30, [.slot 64], some (63, true)⟩,
     ⟨some 66, .bin .eql, [.slot 65, .lit (.int .i64 0)], some (63, true)⟩,
     ⟨some 67, .pick, [.slot 62, .slot 66, .lit (.bool false)], none⟩,
     ⟨some 68, .mv, [.slot 67], none⟩,
     ⟨some 69, .call 15, [.lit (.nilS), .lit (.str [97, 98])], some (68, true)⟩,
     ⟨some 70, .b2s, [.slot 69], some (68, true)⟩,
     ⟨some 71, .bin .eql, [.slot 70, .lit (.str [0, 0, 0, 2, 97, 98])], some (68, true)⟩,
     ⟨some 72, .pick, [.slot 67, .slot 71, .lit (.bool false)], none⟩,
     ⟨some 73, .mv, [.slot 72], none⟩,
     ⟨some 74, .call 20, [.lit (.str [97, 98]), .lit (.int .i64 2)], some (73, true)⟩,
     ⟨some 75, .pick, [.slot 72, .slot 74, .lit (.bool false)], none⟩,
     ⟨some 76, .mv, [.slot 75], none⟩,
     ⟨some 77, .call 20, [.lit (.str [97, 98]), .lit (.int .i64 1)], some (76, true)⟩,
     ⟨some 78, .un .not, [.slot 77], some (76, true)⟩,
     ⟨some 79, .pick, [.slot 75, .slot 78, .lit (.bool false)], none⟩,
     ⟨some 0, .give, [.slot 79], none⟩])
   (.ret)))))))))))),
  80, [.tmp 0]⟩
theorem c12 : cFunc Proofs.Try.prog 12 = some sf12 := by kernel_rfl
/-- carpetbag/carpetbaglaw01.few -/
def sf13 : SF := ⟨(.seq (.reg [⟨some 2, .give, [.lit (.bool false)], none⟩])
   (.seq (.reg [⟨some 3, .take, [.lit (.int .i64 0)], none⟩])
   (.seq (.seq (.reg [⟨some 4, .take, [.lit (.int .i64 0)], none⟩])
    (.block 0 (.loop (.seq (.seq (.reg [⟨some 5, .mv, [.slot 4], none⟩,
         ⟨some 6, .mv, [.slot 0], none⟩,
         ⟨some 7, .lenL, [.slot 0], none⟩,
         ⟨some 8, .bin .lss, [.slot 4, .slot 7], none⟩])
       (.cond (.slot 8) (.skip)
       (.exit 0)))
      (.seq (.block 1 (.reg [⟨some 11, .mv, [.slot 3], none⟩,
         ⟨some 12, .mv, [.slot 0], none⟩,
         ⟨some 13, .mv, [.slot 4], none⟩,
         ⟨some 14, .idxB 1, [.slot 0, .slot 4], none⟩,
         ⟨some 15, .load 1 false, [.slot 14], none⟩,
         ⟨some 16, .lenS, [.slot 15], none⟩,
         ⟨some 17, .bin .add, [.slot 3, .slot 16], none⟩,
         ⟨some 3, .give, [.slot 17], none⟩]))
      (.reg [⟨some 9, .mv, [.slot 4], none⟩,
       ⟨some 10, .bin .add, [.slot 4, .lit (.int .i64 1)], none⟩,
       ⟨some 4, .give, [.slot 10], none⟩]))))))
   (.seq (.reg [⟨some 18, .mv, [.slot 0], none⟩,
     ⟨some 19, .lenL, [.slot 0], none⟩,
     ⟨some 20, .bin .leq, [.slot 19, .lit (.int .i64 300)], none⟩,
     ⟨some 21, .mv, [.slot 20], none⟩,
     ⟨some 22, .take, [.slot 3], some (21, true)⟩,
     ⟨some 23, .bin .leq, [.slot 22, .lit (.int .i64 20000)], some (21, true)⟩,
     ⟨some 24, .pick, [.slot 20, .slot 23, .lit (.bool false)], none⟩,
     ⟨some 2, .give, [.slot 24], none⟩])
   (.ret))))),
  25, [.tmp 2]⟩
theorem c13 : cFunc Proofs.Try.prog 13 = some sf13 := by kernel_rfl
/-- carpetbag/wire.Number -/
def sf14 : SF := ⟨(.seq (.reg [⟨some 4, .give, [.lit (.nilS)], none⟩])
   (.seq (.reg [⟨some 7, .mv, [.slot 1], none⟩,
     ⟨some 8, .min, [.slot 1, .lit (.int .i64 4294967295)], none⟩,
     ⟨some 9, .max, [.lit (.int .i64 0), .slot 8], none⟩,
     ⟨some 1, .give, [.slot 9], none⟩])
   (.seq (.reg [⟨some 10, .mv, [.slot 0], none⟩,
     ⟨some 11, .call 44, [.slot 0], none⟩,
     ⟨some 5, .give, [.slot 11], none⟩])
   (.seq (.seq (.reg [⟨some 6, .take, [.lit (.int .i64 3)], none⟩])
    (.block 0 (.loop (.seq (.seq (.reg [⟨some 12, .mv, [.slot 6], none⟩,
         ⟨some 13, .bin .geq, [.slot 6, .lit (.int .i64 0)], none⟩])
       (.cond (.slot 13) (.skip)
       (.exit 0)))
      (.seq (.block 1 (.reg [⟨some 16, .mv, [.slot 5], none⟩,
         ⟨some 17, .mv, [.slot 1], none⟩,
         ⟨some 18, .mv, [.slot 6], none⟩,
         ⟨some 19, .bin .mul, [.lit (.int .i64 8), .slot 6], none⟩,
         ⟨some 20, .bin .shr, [.slot 1, .slot 19], none⟩,
         ⟨some 21, .cvI .u8, [.slot 20], none⟩,
         ⟨some 22, .bsl 1 1 [.int .u8 0] [0], [.slot 21], none⟩,
         ⟨some 23, .app 1 1 [.int .u8 0], [.slot 5, .slot 22], none⟩,
         ⟨some 5, .give, [.slot 23], none⟩]))
      (.reg [⟨some 14, .mv, [.slot 6], none⟩,
       ⟨some 15, .bin .sub, [.slot 6, .lit (.int .i64 1)], none⟩,
       ⟨some 6, .give, [.slot 15], none⟩]))))))
   (.seq (.reg [⟨some 24, .mv, [.slot 5], none⟩,
     ⟨some 4, .give, [.slot 5], none⟩])
   (.ret)))))),
  25, [.tmp 4]⟩
theorem c14 : cFunc Proofs.Try.prog 14 = some sf14 := by kernel_rfl
/-- carpetbag/wire.String -/
def sf15 : SF := ⟨(.seq (.reg [⟨some 4, .give, [.lit (.nilS)], none⟩])
   (.seq (.reg [⟨some 5, .mv, [.slot 1], none⟩,
     ⟨some 6, .mv, [.slot 1], none⟩,
     ⟨some 7, .lenS, [.slot 1], none⟩,
     ⟨some 8, .min, [.slot 7, .lit (.int .i64 16384)], none⟩,
     ⟨some 9, .slcS false true, [.slot 1, .slot 8], none⟩,
     ⟨some 1, .give, [.slot 9], none⟩])
   (.seq (.reg [⟨some 10, .mv, [.slot 0], none⟩,
     ⟨some 11, .mv, [.slot 1], none⟩,
     ⟨some 12, .lenS, [.slot 1], none⟩,
     ⟨some 13, .call 14, [.slot 0, .slot 12], none⟩,
     ⟨some 14, .mv, [.slot 1], none⟩,
     ⟨some 15, .app 1 1 [.int .u8 0], [.slot 13, .slot 1], none⟩,
     ⟨some 4, .give, [.slot 15], none⟩])
   (.ret)))),
  16, [.tmp 4]⟩
theorem c15 : cFunc Proofs.Try.prog 15 = some sf15 := by kernel_rfl
/-- carpetbag/wire.Row -/
def sf16 : SF := ⟨(.seq (.reg [⟨some 4, .give, [.lit (.nilS)], none⟩])
   (.seq (.reg [⟨some 8, .mv, [.slot 1], none⟩,
     ⟨some 9, .mv, [.slot 1], none⟩,
     ⟨some 10, .lenL, [.slot 1], none⟩,
     ⟨some 11, .min, [.slot 10, .lit (.int .i64 256)], none⟩,
     ⟨some 12, .slcL 1 false true false, [.slot 1, .slot 11], none⟩,
     ⟨some 1, .give, [.slot 12], none⟩])
   (.seq (.reg [⟨some 13, .mv, [.slot 0], none⟩,
     ⟨some 14, .mv, [.slot 1], none⟩,
     ⟨some 15, .lenL, [.slot 1], none⟩,
     ⟨some 16, .call 14, [.slot 0, .slot 15], none⟩,
     ⟨some 5, .give, [.slot 16], none⟩])
   (.seq (.seq (.reg [⟨some 17, .mv, [.slot 1], none⟩,
      ⟨some 18, .lenL, [.slot 1], none⟩,
      ⟨some 19, .mv, [.lit (.int .i64 0)], none⟩])
    (.block 0 (.loop (.seq (.reg [⟨some 20, .bin .lss, [.slot 19, .slot 18], none⟩])
      (.seq (.cond (.slot 20) (.skip)
       (.exit 0))
      (.seq (.block 1 (.seq (.reg [⟨some 21, .idxB 1, [.slot 17, .slot 19], none⟩,
          ⟨some 22, .load 1 false, [.slot 21], none⟩,
          ⟨some 7, .give, [.slot 22], none⟩])
        (.reg [⟨some 23, .mv, [.slot 5], none⟩,
         ⟨some 24, .mv, [.slot 7], none⟩,
         ⟨some 25, .call 15, [.slot 5, .slot 7], none⟩,
         ⟨some 5, .give, [.slot 25], none⟩])))
      (.reg [⟨some 26, .bin .add, [.slot 19, .lit (.int .i64 1)], none⟩,
       ⟨some 19, .mv, [.slot 26], none⟩])))))))
   (.seq (.reg [⟨some 27, .mv, [.slot 5], none⟩,
     ⟨some 4, .give, [.slot 5], none⟩])
   (.ret)))))),
  28, [.tmp 4]⟩
theorem c16 : cFunc Proofs.Try.prog 16 = some sf16 := by kernel_rfl
/-- carpetbag/carpetbagref01.Number -/
def sf17 : SF := ⟨(.seq (.reg [⟨some 4, .give, [.lit (.nilS)], none⟩])
   (.seq (.reg [⟨some 5, .mv, [.slot 1], none⟩,
     ⟨some 6, .min, [.slot 1, .lit (.int .i64 4294967295)], none⟩,
     ⟨some 7, .max, [.lit (.int .i64 0), .slot 6], none⟩,
     ⟨some 1, .give, [.slot 7], none⟩])
   (.seq (.reg [⟨some 8, .bsl 1 0 [.int .u8 0] [], [], none⟩,
     ⟨some 9, .mv, [.slot 0], none⟩,
     ⟨some 10, .app 1 1 [.int .u8 0], [.slot 8, .slot 0], none⟩,
     ⟨some 11, .mv, [.slot 1], none⟩,
     ⟨some 12, .bin .quo, [.slot 1, .lit (.int .i64 16777216)], none⟩,
     ⟨some 13, .cvI .u8, [.slot 12], none⟩,
     ⟨some 14, .mv, [.slot 1], none⟩,
     ⟨some 15, .bin .quo, [.slot 1, .lit (.int .i64 65536)], none⟩,
     ⟨some 16, .cvI .u8, [.slot 15], none⟩,
     ⟨some 17, .mv, [.slot 1], none⟩,
     ⟨some 18, .bin .quo, [.slot 1, .lit (.int .i64 256)], none⟩,
     ⟨some 19, .cvI .u8, [.slot 18], none⟩,
     ⟨some 20, .mv, [.slot 1], none⟩,
     ⟨some 21, .cvI .u8, [.slot 1], none⟩,
     ⟨some 22, .bsl 1 4 [.int .u8 0] [0, 1, 2, 3], [.slot 13, .slot 16, .slot 19, .slot 21], none⟩,
     ⟨some 23, .app 1 1 [.int .u8 0], [.slot 10, .slot 22], none⟩,
     ⟨some 4, .give, [.slot 23], none⟩])
   (.ret)))),
  24, [.tmp 4]⟩
theorem c17 : cFunc Proofs.Try.prog 17 = some sf17 := by kernel_rfl
/-- carpetbag/carpetbagref01.String -/
def sf18 : SF := ⟨(.seq (.reg [⟨some 4, .give, [.lit (.nilS)], none⟩])
   (.seq (.reg [⟨some 6, .mv, [.slot 1], none⟩,
     ⟨some 7, .lenS, [.slot 1], none⟩,
     ⟨some 8, .min, [.slot 7, .lit (.int .i64 16384)], none⟩,
     ⟨some 5, .give, [.slot 8], none⟩])
   (.seq (.reg [⟨some 9, .mv, [.slot 0], none⟩,
       ⟨some 10, .mv, [.slot 5], none⟩,
       ⟨some 11, .call 17, [.slot 9, .slot 10], none⟩,
       ⟨some 12, .mv, [.slot 1], none⟩,
       ⟨some 13, .mv, [.slot 5], none⟩,
       ⟨some 14, .slcS false true, [.slot 1, .slot 5], none⟩,
       ⟨some 15, .app 1 1 [.int .u8 0], [.slot 11, .slot 14], none⟩,
       ⟨some 4, .give, [.slot 15], none⟩])
   (.ret)))),
  16, [.tmp 4]⟩
theorem c18 : cFunc Proofs.Try.prog 18 = some sf18 := by kernel_rfl
/-- carpetbag/carpetbagref01.Row -/
def sf19 : SF := ⟨(.seq (.reg [⟨some 4, .give, [.lit (.nilS)], none⟩])
   (.seq (.reg [⟨some 8, .mv, [.slot 1], none⟩,
     ⟨some 9, .lenL, [.slot 1], none⟩,
     ⟨some 10, .min, [.slot 9, .lit (.int .i64 256)], none⟩,
     ⟨some 5, .give, [.slot 10], none⟩])
   (.seq (.reg [⟨some 11, .mv, [.slot 0], none⟩,
     ⟨some 12, .mv, [.slot 5], none⟩,
     ⟨some 13, .call 17, [.slot 0, .slot 5], none⟩,
     ⟨some 6, .give, [.slot 13], none⟩])
   (.seq (.seq (.reg [⟨some 7, .take, [.lit (.int .i64 0)], none⟩])
    (.block 0 (.loop (.seq (.seq (.reg [⟨some 14, .mv, [.slot 7], none⟩,
         ⟨some 15, .mv, [.slot 5], none⟩,
         ⟨some 16, .bin .lss, [.slot 7, .slot 5], none⟩])
       (.cond (.slot 16) (.skip)
       (.exit 0)))
      (.seq (.block 1 (.reg [⟨some 19, .mv, [.slot 6], none⟩,
         ⟨some 20, .mv, [.slot 1], none⟩,
         ⟨some 21, .mv, [.slot 7], none⟩,
         ⟨some 22, .idxB 1, [.slot 1, .slot 7], none⟩,
         ⟨some 23, .load 1 false, [.slot 22], none⟩,
         ⟨some 24, .call 18, [.slot 6, .slot 23], none⟩,
         ⟨some 6, .give, [.slot 24], none⟩]))
      (.reg [⟨some 17, .mv, [.slot 7], none⟩,
       ⟨some 18, .bin .add, [.slot 7, .lit (.int .i64 1)], none⟩,
       ⟨some 7, .give, [.slot 18], none⟩]))))))
   (.seq (.reg [⟨some 25, .mv, [.slot 6], none⟩,
     ⟨some 4, .give, [.slot 6], none⟩])
   (.ret)))))),
  26, [.tmp 4]⟩
theorem c19 : cFunc Proofs.Try.prog 19 = some sf19 := by kernel_rfl
/-- carpetbag/wire.Fits -/
def sf20 : SF := ⟨(.seq (.reg [⟨some 4, .give, [.lit (.bool false)], none⟩])
   (.seq (.reg [⟨some 5, .mv, [.slot 0], none⟩,
     ⟨some 6, .lenS, [.slot 0], none⟩,
     ⟨some 7, .mv, [.slot 1], none⟩,
     ⟨some 8, .min, [.slot 1, .lit (.int .i64 16384)], none⟩,
     ⟨some 9, .bin .leq, [.slot 6, .slot 8], none⟩,
     ⟨some 4, .give, [.slot 9], none⟩])
   (.ret))),
  10, [.tmp 4]⟩
theorem c20 : cFunc Proofs.Try.prog 20 = some sf20 := by kernel_rfl
/-- carpetbag/carpetbagref01.Fits -/
def sf21 : SF := ⟨(.seq (.reg [⟨some 4, .give, [.lit (.bool false)], none⟩])
   (.seq (.reg [⟨some 5, .mv, [.slot 0], none⟩,
     ⟨some 6, .lenS, [.slot 0], none⟩,
     ⟨some 7, .mv, [.slot 1], none⟩,
     ⟨some 8, .bin .leq, [.slot 6, .slot 1], none⟩,
     ⟨some 9, .mv, [.slot 8], none⟩,
     ⟨some 10, .take, [.slot 0], some (9, true)⟩,
     ⟨some 11, .lenS, [.slot 10], some (9, true)⟩,
     ⟨some 12, .bin .leq, [.slot 11, .lit (.int .i64 16384)], some (9, true)⟩,
     ⟨some 13, .pick, [.slot 8, .slot 12, .lit (.bool false)], none⟩,
     ⟨some 4, .give, [.slot 13], none⟩])
   (.ret))),
  14, [.tmp 4]⟩
theorem c21 : cFunc Proofs.Try.prog 21 = some sf21 := by kernel_rfl
/-- carpetbag/wire.Read -/
def sf22 : SF := ⟨(.seq (.reg [⟨some 2, .give, [.lit (.nilP)], none⟩])
   (.seq (.reg [⟨some 3, .mv, [.slot 0], none⟩,
     ⟨some 4, .call 44, [.slot 0], none⟩,
     ⟨some 5, .bld [.nilS, .int .i64 0, .int .i64 0] [(0, 1)], [.slot 4], none⟩,
     ⟨some 6, .box, [.slot 5], none⟩,
     ⟨some 2, .give, [.slot 6], none⟩])
   (.ret))),
  7, [.tmp 2]⟩
theorem c22 : cFunc Proofs.Try.prog 22 = some sf22 := by kernel_rfl
/-- (*carpetbag/wire.Reader).Number -/
def sf23 : SF := ⟨(.seq (.reg [⟨some 4, .give, [.lit (.int .i64 0)], none⟩])
   (.seq (.seq (.reg [⟨some 8, .mv, [.slot 0], none⟩,
      ⟨some 9, .nilc, [.slot 0], none⟩,
      ⟨some 10, .fld 2, [.slot 9], none⟩,
      ⟨some 11, .load 1 false, [.slot 10], none⟩,
      ⟨some 12, .bin .neq, [.slot 11, .lit (.int .i64 0)], none⟩])
    (.cond (.slot 12) (.seq (.reg [⟨some 4, .give, [.lit (.int .i64 0)], none⟩])
     (.ret))
    (.skip)))
   (.seq (.seq (.reg [⟨some 13, .mv, [.slot 0], none⟩,
       ⟨some 14, .nilc, [.slot 0], none⟩,
       ⟨some 15, .fld 0, [.slot 14], none⟩,
       ⟨some 16, .load 1 false, [.slot 15], none⟩,
       ⟨some 17, .lenL, [.slot 16], none⟩,
       ⟨some 18, .mv, [.slot 0], none⟩,
       ⟨some 19, .nilc, [.slot 0], none⟩,
       ⟨some 20, .fld 1, [.slot 19], none⟩,
       ⟨some 21, .load 1 false, [.slot 20], none⟩,
       ⟨some 22, .bin .sub, [.slot 17, .slot 21], none⟩,
       ⟨some 23, .bin .lss, [.slot 22, .lit (.int .i64 4)], none⟩])
    (.cond (.slot 23) (.seq (.reg [⟨some 24, .mv, [.slot 0], none⟩,
       ⟨some 25, .mv, [.slot 0], none⟩,
       ⟨some 26, .nilc, [.slot 0], none⟩,
       ⟨some 27, .fld 1, [.slot 26], none⟩,
       ⟨some 28, .load 1 false, [.slot 27], none⟩,
       ⟨some 29, .call 45, [.slot 0, .lit (.int .i64 4), .slot 28], none⟩])
     (.seq (.reg [⟨some 4, .give, [.lit (.int .i64 0)], none⟩])
     (.ret)))
    (.skip)))
   (.seq (.reg [⟨some 5, .take, [.lit (.int .i64 0)], none⟩])
   (.seq (.seq (.reg [⟨some 30, .mv, [.slot 0], none⟩,
       ⟨some 31, .nilc, [.slot 0], none⟩,
       ⟨some 32, .fld 0, [.slot 31], none⟩,
       ⟨some 33, .load 1 false, [.slot 32], none⟩,
       ⟨some 34, .mv, [.slot 0], none⟩,
       ⟨some 35, .nilc, [.slot 0], none⟩,
       ⟨some 36, .fld 1, [.slot 35], none⟩,
       ⟨some 37, .load 1 false, [.slot 36], none⟩,
       ⟨some 38, .mv, [.slot 0], none⟩,
       ⟨some 39, .nilc, [.slot 0], none⟩,
       ⟨some 40, .fld 1, [.slot 39], none⟩,
       ⟨some 41, .load 1 false, [.slot 40], none⟩,
       ⟨some 42, .bin .add, [.slot 41, .lit (.int .i64 4)], none⟩,
       ⟨some 43, .slcL 1 true true false, [.slot 33, .slot 37, .slot 42], none⟩,
       ⟨some 44, .lenL, [.slot 43], none⟩,
       ⟨some 45, .mv, [.lit (.int .i64 0)], none⟩])
    (.block 0 (.loop (.seq (.reg [⟨some 46, .bin .lss, [.slot 45, .slot 44], none⟩])
      (.seq (.cond (.slot 46) (.skip)
       (.exit 0))
      (.seq (.block 1 (.seq (.reg [⟨some 47, .idxB 1, [.slot 43, .slot 45], none⟩,
          ⟨some 48, .load 1 false, [.slot 47], none⟩,
          ⟨some 7, .give, [.slot 48], none⟩])
        (.reg [⟨some 49, .mv, [.slot 5], none⟩,
         ⟨some 50, .bin .shl, [.slot 5, .lit (.int .u64 8)], none⟩,
         ⟨some 51, .mv, [.slot 7], none⟩,
         ⟨some 52, .cvI .i64, [.slot 7], none⟩,
         ⟨some 53, .bin .or, [.slot 50, .slot 52], none⟩,
         ⟨some 5, .give, [.slot 53], none⟩])))
      (.reg [⟨some 54, .bin .add, [.slot 45, .lit (.int .i64 1)], none⟩,
       ⟨some 45, .mv, [.slot 54], none⟩])))))))
   (.seq (.seq (.reg [⟨some 55, .mv, [.slot 5], none⟩,
      ⟨some 56, .mv, [.slot 1], none⟩,
      ⟨some 57, .bin .gtr, [.slot 5, .slot 1], none⟩])
    (.cond (.slot 57) (.seq (.reg [⟨some 58, .mv, [.slot 0], none⟩,
       ⟨some 59, .mv, [.slot 0], none⟩,
       ⟨some 60, .nilc, [.slot 0], none⟩,
       ⟨some 61, .fld 1, [.slot 60], none⟩,
       ⟨some 62, .load 1 false, [.slot 61], none⟩,
       ⟨some 63, .call 45, [.slot 0, .lit (.int .i64 5), .slot 62], none⟩])
     (.seq (.reg [⟨some 4, .give, [.lit (.int .i64 0)], none⟩])
     (.ret)))
    (.skip)))
   (.seq (.reg [⟨some 64, .mv, [.slot 0], none⟩,
     ⟨some 65, .nilc, [.slot 0], none⟩,
     ⟨some 66, .fld 1, [.slot 65], none⟩,
     ⟨some 67, .load 1 false, [.slot 66], none⟩,
     ⟨some 68, .bin .add, [.slot 67, .lit (.int .i64 4)], none⟩,
     ⟨some 69, .nilc, [.slot 0], none⟩,
     ⟨some 70, .fld 1, [.slot 69], none⟩,
     ⟨none, .store 1 true, [.slot 70, .slot 68], none⟩])
   (.seq (.reg [⟨some 71, .mv, [.slot 5], none⟩,
     ⟨some 4, .give, [.slot 5], none⟩])
   (.ret))))))))),
  72, [.tmp 4]⟩
theorem c23 : cFunc Proofs.Try.prog 23 = some sf23 := by kernel_rfl
/-- (*carpetbag/carpetbagref01.Reader).Number -/
def sf24 : SF := ⟨(.seq (.reg [⟨some 4, .give, [.lit (.int .i64 0)], none⟩])
   (.seq (.seq (.reg [⟨some 8, .mv, [.slot 0], none⟩,
      ⟨some 9, .nilc, [.slot 0], none⟩,
      ⟨some 10, .fld 2, [.slot 9], none⟩,
      ⟨some 11, .load 1 false, [.slot 10], none⟩,
      ⟨some 12, .bin .neq, [.slot 11, .lit (.int .i64 0)], none⟩])
    (.cond (.slot 12) (.seq (.reg [⟨some 4, .give, [.lit (.int .i64 0)], none⟩])
     (.ret))
    (.skip)))
   (.seq (.seq (.reg [⟨some 14, .mv, [.slot 0], none⟩,
        ⟨some 15, .nilc, [.slot 0], none⟩,
        ⟨some 16, .fld 0, [.slot 15], none⟩,
        ⟨some 17, .load 1 false, [.slot 16], none⟩,
        ⟨some 18, .mv, [.slot 0], none⟩,
        ⟨some 19, .nilc, [.slot 0], none⟩,
        ⟨some 20, .fld 1, [.slot 19], none⟩,
        ⟨some 21, .load 1 false, [.slot 20], none⟩,
        ⟨some 22, .mv, [.slot 1], none⟩,
        ⟨some 23, .call 46, [.slot 17, .slot 21, .slot 22], none⟩,
        ⟨some 13, .mv, [.slot 23], none⟩])
      (.both (.seq (.reg [⟨some 24, .ext 0, [.slot 13], none⟩,
         ⟨some 5, .give, [.slot 24], none⟩])
       (.both (.reg [⟨some 25, .ext 1, [.slot 13], none⟩,
         ⟨some 26, .ext 2, [.slot 13], none⟩,
         ⟨some 6, .give, [.slot 25], none⟩,
         ⟨some 7, .give, [.slot 26], none⟩])
       (.both (.reg [⟨some 26, .ext 2, [.slot 13], none⟩,
         ⟨some 25, .ext 1, [.slot 13], none⟩,
         ⟨some 6, .give, [.slot 25], none⟩,
         ⟨some 7, .give, [.slot 26], none⟩])
       (.tt))))
      (.both (.seq (.reg [⟨some 25, .ext 1, [.slot 13], none⟩])
       (.both (.reg [⟨some 24, .ext 0, [.slot 13], none⟩,
         ⟨some 26, .ext 2, [.slot 13], none⟩,
         ⟨some 5, .give, [.slot 24], none⟩,
         ⟨some 6, .give, [.slot 25], none⟩,
         ⟨some 7, .give, [.slot 26], none⟩])
       (.both (.reg [⟨some 26, .ext 2, [.slot 13], none⟩,
         ⟨some 24, .ext 0, [.slot 13], none⟩,
         ⟨some 5, .give, [.slot 24], none⟩,
         ⟨some 6, .give, [.slot 25], none⟩,
         ⟨some 7, .give, [.slot 26], none⟩])
       (.tt))))
      (.both (.seq (.reg [⟨some 26, .ext 2, [.slot 13], none⟩])
       (.both (.reg [⟨some 24, .ext 0, [.slot 13], none⟩,
         ⟨some 25, .ext 1, [.slot 13], none⟩,
         ⟨some 5, .give, [.slot 24], none⟩,
         ⟨some 6, .give, [.slot 25], none⟩,
         ⟨some 7, .give, [.slot 26], none⟩])
       (.both (.reg [⟨some 25, .ext 1, [.slot 13], none⟩,
         ⟨some 24, .ext 0, [.slot 13], none⟩,
         ⟨some 5, .give, [.slot 24], none⟩,
         ⟨some 6, .give, [.slot 25], none⟩,
         ⟨some 7, .give, [.slot 26], none⟩])
       (.tt))))
      (.tt)))))
   (.seq (.reg [⟨some 27, .mv, [.slot 0], none⟩,
     ⟨some 28, .mv, [.slot 6], none⟩,
     ⟨some 29, .nilc, [.slot 0], none⟩,
     ⟨some 30, .fld 1, [.slot 29], none⟩,
     ⟨none, .store 1 false, [.slot 30, .slot 6], none⟩])
   (.seq (.reg [⟨some 31, .mv, [.slot 0], none⟩,
     ⟨some 32, .mv, [.slot 7], none⟩,
     ⟨some 33, .nilc, [.slot 0], none⟩,
     ⟨some 34, .fld 2, [.slot 33], none⟩,
     ⟨none, .store 1 false, [.slot 34, .slot 7], none⟩])
   (.seq (.reg [⟨some 35, .mv, [.slot 5], none⟩,
     ⟨some 4, .give, [.slot 5], none⟩])
   (.ret))))))),
  36, [.tmp 4]⟩
theorem c24 : cFunc Proofs.Try.prog 24 = some sf24 := by kernel_rfl
/-- (*carpetbag/wire.Reader).String -/
def sf25 : SF := ⟨(.seq (.reg [⟨some 4, .give, [.lit (.str [])], none⟩])
   (.seq (.reg [⟨some 7, .mv, [.slot 0], none⟩,
     ⟨some 8, .nilc, [.slot 0], none⟩,
     ⟨some 9, .fld 1, [.slot 8], none⟩,
     ⟨some 10, .load 1 false, [.slot 9], none⟩,
     ⟨some 5, .give, [.slot 10], none⟩])
   (.seq (.reg [⟨some 11, .mv, [.slot 0], none⟩,
     ⟨some 12, .mv, [.slot 1], none⟩,
     ⟨some 13, .min, [.slot 1, .lit (.int .i64 16384)], none⟩,
     ⟨some 14, .call 23, [.slot 0, .slot 13], none⟩,
     ⟨some 6, .give, [.slot 14], none⟩])
   (.seq (.seq (.reg [⟨some 15, .mv, [.slot 0], none⟩,
       ⟨some 16, .nilc, [.slot 0], none⟩,
       ⟨some 17, .fld 2, [.slot 16], none⟩,
       ⟨some 18, .load 1 false, [.slot 17], none⟩,
       ⟨some 19, .bin .eql, [.slot 18, .lit (.int .i64 0)], none⟩,
       ⟨some 20, .mv, [.slot 19], none⟩,
       ⟨some 21, .mv, [.slot 0], some (20, true)⟩,
       ⟨some 22, .nilc, [.slot 21], some (20, true)⟩,
       ⟨some 23, .fld 0, [.slot 22], some (20, true)⟩,
       ⟨some 24, .load 1 false, [.slot 23], some (20, true)⟩,
       ⟨some 25, .lenL, [.slot 24], some (20, true)⟩,
       ⟨some 26, .mv, [.slot 0], some (20, true)⟩,
       ⟨some 27, .nilc, [.slot 26], some (20, true)⟩,
       ⟨some 28, .fld 1, [.slot 27], some (20, true)⟩,
       ⟨some 29, .load 1 false, [.slot 28], some (20, true)⟩,
       ⟨some 30, .bin .sub, [.slot 25, .slot 29], some (20, true)⟩,
       ⟨some 31, .mv, [.slot 6], some (20, true)⟩,
       ⟨some 32, .bin .lss, [.slot 30, .slot 31], some (20, true)⟩,
       ⟨some 33, .pick, [.slot 19, .slot 32, .lit (.bool false)], none⟩])
    (.cond (.slot 33) (.reg [⟨some 34, .mv, [.slot 0], none⟩,
      ⟨some 35, .mv, [.slot 5], none⟩,
      ⟨some 36, .call 45, [.slot 0, .lit (.int .i64 4), .slot 5], none⟩])
    (.skip)))
   (.seq (.seq (.reg [⟨some 37, .mv, [.slot 0], none⟩,
      ⟨some 38, .nilc, [.slot 0], none⟩,
      ⟨some 39, .fld 2, [.slot 38], none⟩,
      ⟨some 40, .load 1 false, [.slot 39], none⟩,
      ⟨some 41, .bin .neq, [.slot 40, .lit (.int .i64 0)], none⟩])
    (.cond (.slot 41) (.seq (.reg [⟨some 4, .give, [.lit (.str [])], none⟩])
     (.ret))
    (.skip)))
   (.seq (.reg [⟨some 42, .mv, [.slot 0], none⟩,
     ⟨some 43, .nilc, [.slot 0], none⟩,
     ⟨some 44, .fld 1, [.slot 43], none⟩,
     ⟨some 45, .load 1 false, [.slot 44], none⟩,
     ⟨some 46, .mv, [.slot 6], none⟩,
     ⟨some 47, .bin .add, [.slot 45, .slot 6], none⟩,
     ⟨some 48, .nilc, [.slot 0], none⟩,
     ⟨some 49, .fld 1, [.slot 48], none⟩,
     ⟨none, .store 1 true, [.slot 49, .slot 47], none⟩])
   (.seq (.reg [⟨some 50, .mv, [.slot 0], none⟩,
       ⟨some 51, .nilc, [.slot 0], none⟩,
       ⟨some 52, .fld 0, [.slot 51], none⟩,
       ⟨some 53, .load 1 false, [.slot 52], none⟩,
       ⟨some 54, .mv, [.slot 0], none⟩,
       ⟨some 55, .nilc, [.slot 0], none⟩,
       ⟨some 56, .fld 1, [.slot 55], none⟩,
       ⟨some 57, .load 1 false, [.slot 56], none⟩,
       ⟨some 58, .mv, [.slot 6], none⟩,
       ⟨some 59, .bin .sub, [.slot 57, .slot 6], none⟩,
       ⟨some 60, .mv, [.slot 0], none⟩,
       ⟨some 61, .nilc, [.slot 0], none⟩,
       ⟨some 62, .fld 1, [.slot 61], none⟩,
       ⟨some 63, .load 1 false, [.slot 62], none⟩,
       ⟨some 64, .slcL 1 true true false, [.slot 53, .slot 59, .slot 63], none⟩,
       ⟨some 65, .b2s, [.slot 64], none⟩,
       ⟨some 4, .give, [.slot 65], none⟩])
   (.ret)))))))),
  66, [.tmp 4]⟩
theorem c25 : cFunc Proofs.Try.prog 25 = some sf25 := by kernel_rfl
/-- (*carpetbag/carpetbagref01.Reader).String -/
def sf26 : SF := ⟨(.seq (.reg [⟨some 4, .give, [.lit (.str [])], none⟩])
   (.seq (.seq (.reg [⟨some 8, .mv, [.slot 0], none⟩,
      ⟨some 9, .nilc, [.slot 0], none⟩,
      ⟨some 10, .fld 2, [.slot 9], none⟩,
      ⟨some 11, .load 1 false, [.slot 10], none⟩,
      ⟨some 12, .bin .neq, [.slot 11, .lit (.int .i64 0)], none⟩])
    (.cond (.slot 12) (.seq (.reg [⟨some 4, .give, [.lit (.str [])], none⟩])
     (.ret))
    (.skip)))
   (.seq (.seq (.reg [⟨some 14, .mv, [.slot 0], none⟩,
        ⟨some 15, .nilc, [.slot 0], none⟩,
        ⟨some 16, .fld 0, [.slot 15], none⟩,
        ⟨some 17, .load 1 false, [.slot 16], none⟩,
        ⟨some 18, .mv, [.slot 0], none⟩,
        ⟨some 19, .nilc, [.slot 0], none⟩,
        ⟨some 20, .fld 1, [.slot 19], none⟩,
        ⟨some 21, .load 1 false, [.slot 20], none⟩,
        ⟨some 22, .mv, [.slot 1], none⟩,
        ⟨some 23, .call 47, [.slot 17, .slot 21, .slot 22], none⟩,
        ⟨some 13, .mv, [.slot 23], none⟩])
      (.both (.seq (.reg [⟨some 24, .ext 0, [.slot 13], none⟩,
         ⟨some 5, .give, [.slot 24], none⟩])
       (.both (.reg [⟨some 25, .ext 1, [.slot 13], none⟩,
         ⟨some 26, .ext 2, [.slot 13], none⟩,
         ⟨some 6, .give, [.slot 25], none⟩,
         ⟨some 7, .give, [.slot 26], none⟩])
       (.both (.reg [⟨some 26, .ext 2, [.slot 13], none⟩,
         ⟨some 25, .ext 1, [.slot 13], none⟩,
         ⟨some 6, .give, [.slot 25], none⟩,
         ⟨some 7, .give, [.slot 26], none⟩])
       (.tt))))
      (.both (.seq (.reg [⟨some 25, .ext 1, [.slot 13], none⟩])
       (.both (.reg [⟨some 24, .ext 0, [.slot 13], none⟩,
         ⟨some 26, .ext 2, [.slot 13], none⟩,
         ⟨some 5, .give, [.slot 24], none⟩,
         ⟨some 6, .give, [.slot 25], none⟩,
         ⟨some 7, .give, [.slot 26], none⟩])
       (.both (.reg [⟨some 26, .ext 2, [.slot 13], none⟩,
         ⟨some 24, .ext 0, [.slot 13], none⟩,
         ⟨some 5, .give, [.slot 24], none⟩,
         ⟨some 6, .give, [.slot 25], none⟩,
         ⟨some 7, .give, [.slot 26], none⟩])
       (.tt))))
      (.both (.seq (.reg [⟨some 26, .ext 2, [.slot 13], none⟩])
       (.both (.reg [⟨some 24, .ext 0, [.slot 13], none⟩,
         ⟨some 25, .ext 1, [.slot 13], none⟩,
         ⟨some 5, .give, [.slot 24], none⟩,
         ⟨some 6, .give, [.slot 25], none⟩,
         ⟨some 7, .give, [.slot 26], none⟩])
       (.both (.reg [⟨some 25, .ext 1, [.slot 13], none⟩,
         ⟨some 24, .ext 0, [.slot 13], none⟩,
         ⟨some 5, .give, [.slot 24], none⟩,
         ⟨some 6, .give, [.slot 25], none⟩,
         ⟨some 7, .give, [.slot 26], none⟩])
       (.tt))))
      (.tt)))))
   (.seq (.reg [⟨some 27, .mv, [.slot 0], none⟩,
     ⟨some 28, .mv, [.slot 6], none⟩,
     ⟨some 29, .nilc, [.slot 0], none⟩,
     ⟨some 30, .fld 1, [.slot 29], none⟩,
     ⟨none, .store 1 false, [.slot 30, .slot 6], none⟩])
   (.seq (.reg [⟨some 31, .mv, [.slot 0], none⟩,
     ⟨some 32, .mv, [.slot 7], none⟩,
     ⟨some 33, .nilc, [.slot 0], none⟩,
     ⟨some 34, .fld 2, [.slot 33], none⟩,
     ⟨none, .store 1 false, [.slot 34, .slot 7], none⟩])
   (.seq (.reg [⟨some 35, .mv, [.slot 5], none⟩,
     ⟨some 4, .give, [.slot 5], none⟩])
   (.ret))))))),
  36, [.tmp 4]⟩
theorem c26 : cFunc Proofs.Try.prog 26 = some sf26 := by kernel_rfl
/-- carpetbag/carpetbagref01.Rows -/
def sf27 : SF := ⟨(.seq (.reg [⟨some 4, .give, [.lit (.bool false)], none⟩])
   (.seq (.seq (.reg [⟨some 6, .mv, [.slot 0], none⟩,
      ⟨some 7, .lenL, [.slot 0], none⟩,
      ⟨some 8, .mv, [.slot 1], none⟩,
      ⟨some 9, .lenL, [.slot 1], none⟩,
      ⟨some 10, .bin .neq, [.slot 7, .slot 9], none⟩])
    (.cond (.slot 10) (.seq (.reg [⟨some 4, .give, [.lit (.bool false)], none⟩])
     (.ret))
    (.skip)))
   (.seq (.seq (.reg [⟨some 5, .take, [.lit (.int .i64 0)], none⟩])
    (.block 0 (.loop (.seq (.seq (.reg [⟨some 11, .mv, [.slot 5], none⟩,
         ⟨some 12, .mv, [.slot 0], none⟩,
         ⟨some 13, .lenL, [.slot 0], none⟩,
         ⟨some 14, .bin .lss, [.slot 5, .slot 13], none⟩])
       (.cond (.slot 14) (.skip)
       (.exit 0)))
      (.seq (.block 1 (.seq (.reg [⟨some 17, .mv, [.slot 0], none⟩,
       ⟨some 18, .mv, [.slot 5], none⟩,
       ⟨some 19, .idxA 1, [.slot 0, .slot 5], none⟩,
       ⟨some 20, .load 1 false, [.slot 19], none⟩,
       ⟨some 21, .mv, [.slot 1], none⟩,
       ⟨some 22, .mv, [.slot 5], none⟩,
       ⟨some 23, .idxA 1, [.slot 1, .slot 5], none⟩,
       ⟨some 24, .load 1 false, [.slot 23], none⟩,
       ⟨some 25, .bin .neq, [.slot 20, .slot 24], none⟩])
        (.cond (.slot 25) (.seq (.reg [⟨some 4, .give, [.lit (.bool false)], none⟩])
         (.ret))
        (.skip))))
      (.reg [⟨some 15, .mv, [.slot 5], none⟩,
       ⟨some 16, .bin .add, [.slot 5, .lit (.int .i64 1)], none⟩,
       ⟨some 5, .give, [.slot 16], none⟩]))))))
   (.seq (.reg [⟨some 4, .give, [.lit (.bool true)], none⟩])
   (.ret))))),
  26, [.tmp 4]⟩
theorem c27 : cFunc Proofs.Try.prog 27 = some sf27 := by kernel_rfl
/-- (*carpetbag/wire.Reader).Row -/
def sf28 : SF := ⟨(.seq (.reg [⟨some 6, .give, [.lit (.nilS)], none⟩])
   (.scope (.seq (.reg [⟨some 7, .take, [.lit (.nilS)], none⟩])
    (.seq (.reg [⟨some 8, .take, [.lit (.str [])], none⟩])
    (.seq (.reg [⟨some 11, .mv, [.slot 0], none⟩,
      ⟨some 12, .nilc, [.slot 0], none⟩,
      ⟨some 13, .fld 1, [.slot 12], none⟩,
      ⟨some 14, .load 1 false, [.slot 13], none⟩,
      ⟨some 9, .give, [.slot 14], none⟩])
    (.seq (.reg [⟨some 15, .mv, [.slot 0], none⟩,
      ⟨some 16, .mv, [.slot 1], none⟩,
      ⟨some 17, .min, [.slot 1, .lit (.int .i64 256)], none⟩,
      ⟨some 18, .call 23, [.slot 0, .slot 17], none⟩,
      ⟨some 10, .give, [.slot 18], none⟩])
    (.seq (.seq (.reg [⟨some 19, .mv, [.slot 0], none⟩,
       ⟨some 20, .nilc, [.slot 0], none⟩,
       ⟨some 21, .fld 2, [.slot 20], none⟩,
       ⟨some 22, .load 1 false, [.slot 21], none⟩,
       ⟨some 23, .bin .neq, [.slot 22, .lit (.int .i64 0)], none⟩])
     (.cond (.slot 23) (.goto 0)
     (.skip)))
    (.seq (.seq (.reg [⟨some 24, .mv, [.slot 10], none⟩,
       ⟨some 25, .mv, [.lit (.int .i64 0)], none⟩])
     (.block 0 (.loop (.seq (.reg [⟨some 26, .bin .lss, [.slot 25, .slot 24], none⟩])
       (.seq (.cond (.slot 26) (.skip)
        (.exit 0))
       (.seq (.block 1 (.seq (.reg [⟨some 27, .mv, [.slot 0], none⟩,
           ⟨some 28, .mv, [.slot 2], none⟩,
           ⟨some 29, .call 25, [.slot 0, .slot 2], none⟩,
           ⟨some 8, .give, [.slot 29], none⟩])
         (.seq (.seq (.reg [⟨some 30, .mv, [.slot 0], none⟩,
            ⟨some 31, .nilc, [.slot 0], none⟩,
            ⟨some 32, .fld 2, [.slot 31], none⟩,
            ⟨some 33, .load 1 false, [.slot 32], none⟩,
            ⟨some 34, .bin .neq, [.slot 33, .lit (.int .i64 0)], none⟩])
          (.cond (.slot 34) (.goto 0)
          (.skip)))
         (.reg [⟨some 35, .mv, [.slot 7], none⟩,
          ⟨some 36, .mv, [.slot 8], none⟩,
          ⟨some 37, .bsl 1 1 [.str []] [0], [.slot 8], none⟩,
          ⟨some 38, .app 1 16 [.str []], [.slot 7, .slot 37], none⟩,
          ⟨some 7, .give, [.slot 38], none⟩]))))
       (.reg [⟨some 39, .bin .add, [.slot 25, .lit (.int .i64 1)], none⟩,
        ⟨some 25, .mv, [.slot 39], none⟩])))))))
    (.seq (.seq (.reg [⟨some 40, .mv, [.slot 7], none⟩,
       ⟨some 6, .give, [.slot 7], none⟩])
     (.ret))
    (.seq (.label 0)
    (.seq (.reg [⟨some 41, .mv, [.slot 0], none⟩,
      ⟨some 42, .mv, [.slot 9], none⟩,
      ⟨some 43, .nilc, [.slot 0], none⟩,
      ⟨some 44, .fld 1, [.slot 43], none⟩,
      ⟨none, .store 1 false, [.slot 44, .slot 9], none⟩])
    (.seq (.reg [⟨some 6, .give, [.lit (.nilS)], none⟩])
    (.ret)))))))))))
   0
   (.seq (.skip)
    (.seq (.reg [⟨some 41, .mv, [.slot 0], none⟩,
      ⟨some 42, .mv, [.slot 9], none⟩,
      ⟨some 43, .nilc, [.slot 0], none⟩,
      ⟨some 44, .fld 1, [.slot 43], none⟩,
      ⟨none, .store 1 false, [.slot 44, .slot 9], none⟩])
    (.seq (.reg [⟨some 6, .give, [.lit (.nilS)], none⟩])
    (.ret)))))),
  45, [.tmp 6]⟩
theorem c28 : cFunc Proofs.Try.prog 28 = some sf28 := by kernel_rfl
/-- (*carpetbag/carpetbagref01.Reader).Row -/
def sf29 : SF := ⟨(.seq (.reg [⟨some 6, .give, [.lit (.nilS)], none⟩])
   (.seq (.seq (.reg [⟨some 15, .mv, [.slot 0], none⟩,
      ⟨some 16, .nilc, [.slot 0], none⟩,
      ⟨some 17, .fld 2, [.slot 16], none⟩,
      ⟨some 18, .load 1 false, [.slot 17], none⟩,
      ⟨some 19, .bin .neq, [.slot 18, .lit (.int .i64 0)], none⟩])
    (.cond (.slot 19) (.seq (.reg [⟨some 6, .give, [.lit (.nilS)], none⟩])
     (.ret))
    (.skip)))
   (.seq (.seq (.reg [⟨some 21, .mv, [.slot 0], none⟩,
        ⟨some 22, .nilc, [.slot 0], none⟩,
        ⟨some 23, .fld 0, [.slot 22], none⟩,
        ⟨some 24, .load 1 false, [.slot 23], none⟩,
        ⟨some 25, .mv, [.slot 0], none⟩,
        ⟨some 26, .nilc, [.slot 0], none⟩,
        ⟨some 27, .fld 1, [.slot 26], none⟩,
        ⟨some 28, .load 1 false, [.slot 27], none⟩,
        ⟨some 29, .mv, [.slot 1], none⟩,
        ⟨some 30, .min, [.slot 1, .lit (.int .i64 256)], none⟩,
        ⟨some 31, .call 46, [.slot 24, .slot 28, .slot 30], none⟩,
        ⟨some 20, .mv, [.slot 31], none⟩])
      (.both (.seq (.reg [⟨some 32, .ext 0, [.slot 20], none⟩,
         ⟨some 7, .give, [.slot 32], none⟩])
       (.both (.reg [⟨some 33, .ext 1, [.slot 20], none⟩,
         ⟨some 34, .ext 2, [.slot 20], none⟩,
         ⟨some 8, .give, [.slot 33], none⟩,
         ⟨some 9, .give, [.slot 34], none⟩])
       (.both (.reg [⟨some 34, .ext 2, [.slot 20], none⟩,
         ⟨some 33, .ext 1, [.slot 20], none⟩,
         ⟨some 8, .give, [.slot 33], none⟩,
         ⟨some 9, .give, [.slot 34], none⟩])
       (.tt))))
      (.both (.seq (.reg [⟨some 33, .ext 1, [.slot 20], none⟩])
       (.both (.reg [⟨some 32, .ext 0, [.slot 20], none⟩,
         ⟨some 34, .ext 2, [.slot 20], none⟩,
         ⟨some 7, .give, [.slot 32], none⟩,
         ⟨some 8, .give, [.slot 33], none⟩,
         ⟨some 9, .give, [.slot 34], none⟩])
       (.both (.reg [⟨some 34, .ext 2, [.slot 20], none⟩,
         ⟨some 32, .ext 0, [.slot 20], none⟩,
         ⟨some 7, .give, [.slot 32], none⟩,
         ⟨some 8, .give, [.slot 33], none⟩,
         ⟨some 9, .give, [.slot 34], none⟩])
       (.tt))))
      (.both (.seq (.reg [⟨some 34, .ext 2, [.slot 20], none⟩])
       (.both (.reg [⟨some 32, .ext 0, [.slot 20], none⟩,
         ⟨some 33, .ext 1, [.slot 20], none⟩,
         ⟨some 7, .give, [.slot 32], none⟩,
         ⟨some 8, .give, [.slot 33], none⟩,
         ⟨some 9, .give, [.slot 34], none⟩])
       (.both (.reg [⟨some 33, .ext 1, [.slot 20], none⟩,
         ⟨some 32, .ext 0, [.slot 20], none⟩,
         ⟨some 7, .give, [.slot 32], none⟩,
         ⟨some 8, .give, [.slot 33], none⟩,
         ⟨some 9, .give, [.slot 34], none⟩])
       (.tt))))
      (.tt)))))
   (.seq (.reg [⟨some 10, .take, [.lit (.nilS)], none⟩])
   (.seq (.seq (.reg [⟨some 11, .take, [.lit (.int .i64 0)], none⟩])
    (.block 0 (.loop (.seq (.seq (.reg [⟨some 35, .mv, [.slot 11], none⟩,
         ⟨some 36, .mv, [.slot 7], none⟩,
         ⟨some 37, .bin .lss, [.slot 11, .slot 7], none⟩,
         ⟨some 38, .mv, [.slot 37], none⟩,
         ⟨some 39, .take, [.slot 9], some (38, true)⟩,
         ⟨some 40, .bin .eql, [.slot 39, .lit (.int .i64 0)], some (38, true)⟩,
         ⟨some 41, .pick, [.slot 37, .slot 40, .lit (.bool false)], none⟩])
       (.cond (.slot 41) (.skip)
       (.exit 0)))
      (.seq (.block 1 (.seq (.reg [⟨some 45, .mv, [.slot 0], none⟩,
          ⟨some 46, .nilc, [.slot 0], none⟩,
          ⟨some 47, .fld 0, [.slot 46], none⟩,
          ⟨some 48, .load 1 false, [.slot 47], none⟩,
          ⟨some 49, .mv, [.slot 8], none⟩,
          ⟨some 50, .mv, [.slot 2], none⟩,
          ⟨some 51, .call 47, [.slot 48, .slot 8, .slot 2], none⟩,
          ⟨some 44, .mv, [.slot 51], none⟩,
          ⟨some 52, .ext 0, [.slot 51], none⟩,
          ⟨some 53, .ext 1, [.slot 51], none⟩,
          ⟨some 54, .ext 2, [.slot 51], none⟩,
          ⟨some 12, .give, [.slot 52], none⟩,
          ⟨some 13, .give, [.slot 53], none⟩,
          ⟨some 14, .give, [.slot 54], none⟩])
        (.seq (.reg [⟨some 55, .mv, [.slot 10], none⟩,
          ⟨some 56, .mv, [.slot 12], none⟩,
          ⟨some 57, .bsl 1 1 [.str []] [0], [.slot 12], none⟩,
          ⟨some 58, .app 1 16 [.str []], [.slot 10, .slot 57], none⟩,
          ⟨some 10, .give, [.slot 58], none⟩])
        (.seq (.reg [⟨some 59, .mv, [.slot 13], none⟩,
          ⟨some 8, .take, [.slot 13], none⟩])
        (.reg [⟨some 60, .mv, [.slot 14], none⟩,
         ⟨some 9, .take, [.slot 14], none⟩])))))
      (.reg [⟨some 42, .mv, [.slot 11], none⟩,
       ⟨some 43, .bin .add, [.slot 11, .lit (.int .i64 1)], none⟩,
       ⟨some 11, .give, [.slot 43], none⟩]))))))
   (.seq (.seq (.reg [⟨some 61, .mv, [.slot 9], none⟩,
      ⟨some 62, .bin .neq, [.slot 9, .lit (.int .i64 0)], none⟩])
    (.cond (.slot 62) (.seq (.reg [⟨some 63, .mv, [.slot 0], none⟩,
       ⟨some 64, .mv, [.slot 9], none⟩,
       ⟨some 65, .nilc, [.slot 0], none⟩,
       ⟨some 66, .fld 2, [.slot 65], none⟩,
       ⟨none, .store 1 false, [.slot 66, .slot 9], none⟩])
     (.seq (.reg [⟨some 6, .give, [.lit (.nilS)], none⟩])
     (.ret)))
    (.skip)))
   (.seq (.reg [⟨some 67, .mv, [.slot 0], none⟩,
     ⟨some 68, .mv, [.slot 8], none⟩,
     ⟨some 69, .nilc, [.slot 0], none⟩,
     ⟨some 70, .fld 1, [.slot 69], none⟩,
     ⟨none, .store 1 false, [.slot 70, .slot 8], none⟩])
   (.seq (.reg [⟨some 71, .mv, [.slot 10], none⟩,
     ⟨some 6, .give, [.slot 10], none⟩])
   (.ret))))))))),
  72, [.tmp 6]⟩
theorem c29 : cFunc Proofs.Try.prog 29 = some sf29 := by kernel_rfl
/-- (*carpetbag/wire.Reader).End -/
def sf30 : SF := ⟨(.seq (.reg [⟨some 2, .give, [.lit (.int .i64 0)], none⟩])
   (.seq (.seq (.reg [⟨some 3, .mv, [.slot 0], none⟩,
       ⟨some 4, .nilc, [.slot 0], none⟩,
       ⟨some 5, .fld 1, [.slot 4], none⟩,
       ⟨some 6, .load 1 false, [.slot 5], none⟩,
       ⟨some 7, .mv, [.slot 0], none⟩,
       ⟨some 8, .nilc, [.slot 0], none⟩,
       ⟨some 9, .fld 0, [.slot 8], none⟩,
       ⟨some 10, .load 1 false, [.slot 9], none⟩,
       ⟨some 11, .lenL, [.slot 10], none⟩,
       ⟨some 12, .bin .lss, [.slot 6, .slot 11], none⟩])
    (.cond (.slot 12) (.reg [⟨some 13, .mv, [.slot 0], none⟩,
      ⟨some 14, .mv, [.slot 0], none⟩,
      ⟨some 15, .nilc, [.slot 0], none⟩,
      ⟨some 16, .fld 1, [.slot 15], none⟩,
      ⟨some 17, .load 1 false, [.slot 16], none⟩,
      ⟨some 18, .call 45, [.slot 0, .lit (.int .i64 4), .slot 17], none⟩])
    (.skip)))
   (.seq (.reg [⟨some 19, .mv, [.slot 0], none⟩,
     ⟨some 20, .nilc, [.slot 0], none⟩,
     ⟨some 21, .fld 2, [.slot 20], none⟩,
     ⟨some 22, .load 1 false, [.slot 21], none⟩,
     ⟨some 2, .give, [.slot 22], none⟩])
   (.ret)))),
  23, [.tmp 2]⟩
theorem c30 : cFunc Proofs.Try.prog 30 = some sf30 := by kernel_rfl
/-- (*carpetbag/carpetbagref01.Reader).End -/
def sf31 : SF := ⟨(.seq (.reg [⟨some 2, .give, [.lit (.int .i64 0)], none⟩])
   (.seq (.seq (.reg [⟨some 3, .mv, [.slot 0], none⟩,
       ⟨some 4, .nilc, [.slot 0], none⟩,
       ⟨some 5, .fld 2, [.slot 4], none⟩,
       ⟨some 6, .load 1 false, [.slot 5], none⟩,
       ⟨some 7, .bin .eql, [.slot 6, .lit (.int .i64 0)], none⟩,
       ⟨some 8, .mv, [.slot 7], none⟩,
       ⟨some 9, .mv, [.slot 0], some (8, true)⟩,
       ⟨some 10, .nilc, [.slot 9], some (8, true)⟩,
       ⟨some 11, .fld 1, [.slot 10], some (8, true)⟩,
       ⟨some 12, .load 1 false, [.slot 11], some (8, true)⟩,
       ⟨some 13, .mv, [.slot 0], some (8, true)⟩,
       ⟨some 14, .nilc, [.slot 13], some (8, true)⟩,
       ⟨some 15, .fld 0, [.slot 14], some (8, true)⟩,
       ⟨some 16, .load 1 false, [.slot 15], some (8, true)⟩,
       ⟨some 17, .lenL, [.slot 16], some (8, true)⟩,
       ⟨some 18, .bin .lss, [.slot 12, .slot 17], some (8, true)⟩,
       ⟨some 19, .pick, [.slot 7, .slot 18, .lit (.bool false)], none⟩])
    (.cond (.slot 19) (.reg [⟨some 20, .mv, [.slot 0], none⟩,
      ⟨some 21, .nilc, [.slot 0], none⟩,
      ⟨some 22, .fld 2, [.slot 21], none⟩,
      ⟨none, .store 1 false, [.slot 22, .lit (.int .i64 4)], none⟩])
    (.skip)))
   (.seq (.reg [⟨some 23, .mv, [.slot 0], none⟩,
     ⟨some 24, .nilc, [.slot 0], none⟩,
     ⟨some 25, .fld 2, [.slot 24], none⟩,
     ⟨some 26, .load 1 false, [.slot 25], none⟩,
     ⟨some 2, .give, [.slot 26], none⟩])
   (.ret)))),
  27, [.tmp 2]⟩
theorem c31 : cFunc Proofs.Try.prog 31 = some sf31 := by kernel_rfl
/-- (*carpetbag/wire.Reader).Err -/
def sf32 : SF := ⟨(.seq (.reg [⟨some 2, .give, [.lit (.int .i64 0)], none⟩])
   (.seq (.reg [⟨some 3, .mv, [.slot 0], none⟩,
     ⟨some 4, .nilc, [.slot 0], none⟩,
     ⟨some 5, .fld 2, [.slot 4], none⟩,
     ⟨some 6, .load 1 false, [.slot 5], none⟩,
     ⟨some 2, .give, [.slot 6], none⟩])
   (.ret))),
  7, [.tmp 2]⟩
theorem c32 : cFunc Proofs.Try.prog 32 = some sf32 := by kernel_rfl
/-- (*carpetbag/wire.Reader).At -/
def sf33 : SF := ⟨(.seq (.reg [⟨some 2, .give, [.lit (.int .i64 0)], none⟩])
   (.seq (.reg [⟨some 3, .mv, [.slot 0], none⟩,
     ⟨some 4, .nilc, [.slot 0], none⟩,
     ⟨some 5, .fld 1, [.slot 4], none⟩,
     ⟨some 6, .load 1 false, [.slot 5], none⟩,
     ⟨some 2, .give, [.slot 6], none⟩])
   (.ret))),
  7, [.tmp 2]⟩
theorem c33 : cFunc Proofs.Try.prog 33 = some sf33 := by kernel_rfl
/-- carpetbag/carpetbaglaw05.small -/
def sf34 : SF := ⟨(.seq (.reg [⟨some 0, .give, [.lit (.bool false)], none⟩])
   (.seq (.reg [⟨some 9, .call 35, [.lit (.str [97, 98])], none⟩,
     ⟨some 8, .mv, [.slot 9], none⟩,
     ⟨some 10, .ext 0, [.slot 9], none⟩,
     ⟨some 11, .ext 1, [.slot 9], none⟩,
     ⟨some 1, .give, [.slot 10], none⟩,
     ⟨some 2, .give, [.slot 11], none⟩])
   (.seq (.reg [⟨some 13, .mv, [.slot 1], none⟩,
     ⟨some 14, .call 37, [.slot 1], none⟩,
     ⟨some 12, .mv, [.slot 14], none⟩,
     ⟨some 15, .ext 0, [.slot 14], none⟩,
     ⟨some 16, .ext 1, [.slot 14], none⟩,
     ⟨some 3, .give, [.slot 15], none⟩,
     ⟨some 4, .give, [.slot 16], none⟩])
   (.seq (.reg [⟨some 18, .mv, [.slot 1], none⟩,
     ⟨some 19, .bin .add, [.slot 1, .lit (.str [0])], none⟩,
     ⟨some 20, .call 37, [.slot 19], none⟩,
     ⟨some 17, .mv, [.slot 20], none⟩,
     ⟨some 21, .ext 0, [.slot 20], none⟩,
     ⟨some 22, .ext 1, [.slot 20], none⟩,
     ⟨some 5, .give, [.slot 21], none⟩,
     ⟨some 6, .give, [.slot 22], none⟩])
   (.seq (.reg [⟨some 23, .call 43, [], none⟩,
     ⟨some 7, .give, [.slot 23], none⟩])
   (.seq (.reg [⟨some 24, .mv, [.slot 2], none⟩,
     ⟨some 25, .bin .eql, [.slot 2, .lit (.int .i64 0)], none⟩,
     ⟨some 26, .mv, [.slot 25], none⟩,
     ⟨some 27, .take, [.slot 1], some (26, true)⟩,
     ⟨some 28, .lenS, [.slot 27], some (26, true)⟩,
     ⟨some 29, .bin .eql, [.slot 28, .lit (.int .i64 80)], some (26, true)⟩,
     ⟨some 30, .pick, [.slot 25, .slot 29, .lit (.bool false)], none⟩,
     ⟨some 31, .mv, [.slot 30], none⟩,
     ⟨some 32, .take, [.slot 4], some (31, true)⟩,
     ⟨some 33, .bin .eql, [.slot 32, .lit (.int .i64 0)], some (31, true)⟩,
     ⟨some 34, .pick, [.slot 30, .slot 33, .lit (.bool false)], none⟩,
     ⟨some 35, .mv, [.slot 34], none⟩,
     ⟨some 36, .take, [.slot 3], some (35, true)⟩,
     ⟨some 37, .bin .eql, [.slot 36, .lit (.str [97, 98])], some (35, true)⟩,
     ⟨some 38, .pick, [.slot 34, .slot 37, .lit (.bool false)], none⟩,
     ⟨some 39, .mv, [.slot 38], none⟩,
     ⟨some 40, .take, [.slot 6], some (39, true)⟩,
     ⟨some 41, .bin .eql, [.slot 40, .lit (.int .i64 4)], some (39, true)⟩,
     ⟨some 42, .pick, [.slot 38, .slot 41, .lit (.bool false)], none⟩,
     ⟨some 43, .mv, [.slot 42], none⟩,
     ⟨some 44, .call 39, [.lit (.int .i64 76)], some (43, true)⟩,
     ⟨some 45, .bin .eql, [.slot 44, .lit (.int .i64 0)], some (43, true)⟩,
     ⟨some 46, .pick, [.slot 42, .slot 45, .lit (.bool false)], none⟩,
     ⟨some 47, .mv, [.slot 46], none⟩,
     ⟨some 48, .call 39, [.lit (.int .i64 77)], some (47, true)⟩,
     ⟨some 49, .bin .eql, [.slot 48, .lit (.int .i64 1)], some (47, true)⟩,
     ⟨some 50, .pick, [.slot 46, .slot 49, .lit (.bool false)], none⟩,
     ⟨some 51, .mv, [.slot 50], none⟩,
     ⟨some 52, .call 39, [.lit (.int .i64 5117)], some (51, true)⟩,
     ⟨some 53, .bin .eql, [.slot 52, .lit (.int .i64 (-1))], some (51, true)⟩,
     ⟨some 54, .pick, [.slot 50, .slot 53, .lit (.bool false)], none⟩,
     ⟨some 55, .mv, [.slot 54], none⟩,
     ⟨some 56, .call 41, [.lit (.int .i64 3)], some (55, true)⟩,
     ⟨some 57, .bin .eql, [.slot 56, .lit (.int .i64 5120)], some (55, true)⟩,
     ⟨some 58, .pick, [.slot 54, .slot 57, .lit (.bool false)], none⟩,
     ⟨some 59, .mv, [.slot 58], none⟩,
     ⟨some 60, .call 41, [.lit (.int .i64 4)], some (59, true)⟩,
     ⟨some 61, .bin .eql, [.slot 60, .lit (.int .i64 0)], some (59, true)⟩,
     ⟨some 62, .pick, [.slot 58, .slot 61, .lit (.bool false)], none⟩,
     ⟨some 63, .mv, [.slot 62], none⟩,
     ⟨some 64, .take, [.slot 7], some (63, true)⟩,
     ⟨some 65, .lenL, [.slot 64], some (63, true)⟩,
     ⟨some 66, .bin .eql, [.slot 65, .lit (.int .i64 4)], some (63, true)⟩,
     ⟨some 67, .pick, [.slot 62, .slot 66, .lit (.bool false)], none⟩,
     ⟨some 68, .mv, [.slot 67], none⟩,
     ⟨some 69, .take, [.slot 7], some (68, true)⟩,
     ⟨some 70, .idxB 1, [.slot 69, .lit (.int .i64 1)], some (68, true)⟩,
     ⟨some 71, .load 1 false, [.slot 70], some (68, true)⟩,
     ⟨some 72, .bin .eql, [.slot 71, .lit (.int .i64 320)], some (68, true)⟩,
     ⟨some 73, .pick, [.slot 67, .slot 72, .lit (.bool false)], none⟩,
     ⟨some 0, .give, [.slot 73], none⟩])
   (.ret))))))),
  74, [.tmp 0]⟩
theorem c34 : cFunc Proofs.Try.prog 34 = some sf34 := by kernel_rfl
/-- carpetbag/pad.Pad -/
def sf35 : SF := ⟨(.seq (.reg [⟨some 2, .give, [.lit (.str [])], none⟩,
     ⟨some 3, .give, [.lit (.int .i64 0)], none⟩])
   (.seq (.reg [⟨some 6, .mv, [.slot 0], none⟩,
     ⟨some 7, .lenS, [.slot 0], none⟩,
     ⟨some 8, .call 39, [.slot 7], none⟩,
     ⟨some 9, .call 41, [.slot 8], none⟩,
     ⟨some 4, .give, [.slot 9], none⟩])
   (.seq (.seq (.reg [⟨some 10, .mv, [.slot 4], none⟩,
      ⟨some 11, .bin .eql, [.slot 4, .lit (.int .i64 0)], none⟩])
    (.cond (.slot 11) (.seq (.reg [⟨some 2, .give, [.lit (.str [])], none⟩,
       ⟨some 3, .give, [.lit (.int .i64 5)], none⟩])
     (.ret))
    (.skip)))
   (.seq (.reg [⟨some 12, .mv, [.slot 4], none⟩,
     ⟨some 13, .mkS 1 1 [.int .u8 0], [.slot 4, .slot 4], none⟩,
     ⟨some 5, .giveO, [.slot 13], none⟩])
   (.seq (.reg [⟨some 14, .mv, [.slot 5], none⟩,
     ⟨some 15, .mv, [.slot 0], none⟩,
     ⟨some 16, .call 15, [.lit (.nilS), .slot 0], none⟩,
     ⟨some 17, .cpy 1, [.slot 5, .slot 16], none⟩])
   (.seq (.reg [⟨some 18, .mv, [.slot 5], none⟩,
     ⟨some 19, .b2s, [.slot 5], none⟩,
     ⟨some 2, .give, [.slot 19], none⟩,
     ⟨some 3, .give, [.lit (.int .i64 0)], none⟩])
   (.ret))))))),
  20, [.tmp 2, .tmp 3]⟩
theorem c35 : cFunc Proofs.Try.prog 35 = some sf35 := by kernel_rfl
/-- carpetbag/carpetbagref05.Pad -/
def sf36 : SF := ⟨(.seq (.reg [⟨some 2, .give, [.lit (.str [])], none⟩,
     ⟨some 3, .give, [.lit (.int .i64 0)], none⟩])
   (.seq (.reg [⟨some 6, .mv, [.slot 0], none⟩,
     ⟨some 7, .lenS, [.slot 0], none⟩,
     ⟨some 8, .call 40, [.slot 7], none⟩,
     ⟨some 4, .give, [.slot 8], none⟩])
   (.seq (.seq (.reg [⟨some 9, .mv, [.slot 4], none⟩,
      ⟨some 10, .bin .lss, [.slot 4, .lit (.int .i64 0)], none⟩])
    (.cond (.slot 10) (.seq (.reg [⟨some 2, .give, [.lit (.str [])], none⟩,
       ⟨some 3, .give, [.lit (.int .i64 5)], none⟩])
     (.ret))
    (.skip)))
   (.seq (.reg [⟨some 11, .mv, [.slot 0], none⟩,
     ⟨some 12, .call 18, [.lit (.nilS), .slot 0], none⟩,
     ⟨some 13, .b2s, [.slot 12], none⟩,
     ⟨some 5, .give, [.slot 13], none⟩])
   (.seq (.reg [⟨some 14, .mv, [.slot 5], none⟩,
     ⟨some 15, .mv, [.slot 4], none⟩,
     ⟨some 16, .call 42, [.slot 4], none⟩,
     ⟨some 17, .mv, [.slot 5], none⟩,
     ⟨some 18, .lenS, [.slot 5], none⟩,
     ⟨some 19, .bin .sub, [.slot 16, .slot 18], none⟩,
     ⟨some 20, .mkS 1 1 [.int .u8 0], [.slot 19, .slot 19], none⟩,
     ⟨some 21, .b2s, [.slot 20], none⟩,
     ⟨some 22, .bin .add, [.slot 5, .slot 21], none⟩,
     ⟨some 2, .give, [.slot 22], none⟩,
     ⟨some 3, .give, [.lit (.int .i64 0)], none⟩])
   (.ret)))))),
  23, [.tmp 2, .tmp 3]⟩
theorem c36 : cFunc Proofs.Try.prog 36 = some sf36 := by kernel_rfl
/-- carpetbag/pad.Strip -/
def sf37 : SF := ⟨(.seq (.reg [⟨some 2, .give, [.lit (.str [])], none⟩,
     ⟨some 3, .give, [.lit (.int .i64 0)], none⟩])
   (.seq (.reg [⟨some 7, .mv, [.slot 0], none⟩,
     ⟨some 8, .s2b, [.slot 0], none⟩,
     ⟨some 9, .call 22, [.slot 8], none⟩,
     ⟨some 10, .mv, [.slot 0], none⟩,
     ⟨some 11, .lenS, [.slot 0], none⟩,
     ⟨some 12, .call 25, [.slot 9, .slot 11], none⟩,
     ⟨some 4, .give, [.slot 12], none⟩])
   (.seq (.seq (.reg [⟨some 14, .mv, [.slot 4], none⟩,
      ⟨some 15, .call 35, [.slot 4], none⟩,
      ⟨some 13, .mv, [.slot 15], none⟩,
      ⟨some 16, .ext 0, [.slot 15], none⟩,
      ⟨some 17, .ext 1, [.slot 15], none⟩,
      ⟨some 5, .give, [.slot 16], none⟩,
      ⟨some 6, .give, [.slot 17], none⟩])
    (.seq (.reg [⟨some 18, .mv, [.slot 6], none⟩,
      ⟨some 19, .bin .neq, [.slot 6, .lit (.int .i64 0)], none⟩,
      ⟨some 20, .mv, [.slot 19], none⟩,
      ⟨some 21, .take, [.slot 5], some (20, false)⟩,
      ⟨some 22, .take, [.slot 0], some (20, false)⟩,
      ⟨some 23, .bin .neq, [.slot 21, .slot 22], some (20, false)⟩,
      ⟨some 24, .pick, [.slot 19, .lit (.bool true), .slot 23], none⟩])
    (.cond (.slot 24) (.seq (.reg [⟨some 2, .give, [.lit (.str [])], none⟩,
       ⟨some 3, .give, [.lit (.int .i64 4)], none⟩])
     (.ret))
    (.skip))))
   (.seq (.reg [⟨some 25, .mv, [.slot 4], none⟩,
     ⟨some 2, .give, [.slot 4], none⟩,
     ⟨some 3, .give, [.lit (.int .i64 0)], none⟩])
   (.ret))))),
  26, [.tmp 2, .tmp 3]⟩
theorem c37 : cFunc Proofs.Try.prog 37 = some sf37 := by kernel_rfl
/-- carpetbag/carpetbagref05.Strip -/
def sf38 : SF := ⟨(.seq (.reg [⟨some 2, .give, [.lit (.str [])], none⟩,
     ⟨some 3, .give, [.lit (.int .i64 0)], none⟩])
   (.seq (.reg [⟨some 8, .mv, [.slot 0], none⟩,
     ⟨some 9, .s2b, [.slot 0], none⟩,
     ⟨some 10, .bld [.nilS, .int .i64 0, .int .i64 0] [(0, 1)], [.slot 9], none⟩,
     ⟨some 11, .box, [.slot 10], none⟩,
     ⟨some 4, .give, [.slot 11], none⟩])
   (.seq (.reg [⟨some 12, .mv, [.slot 4], none⟩,
     ⟨some 13, .mv, [.slot 0], none⟩,
     ⟨some 14, .lenS, [.slot 0], none⟩,
     ⟨some 15, .call 26, [.slot 4, .slot 14], none⟩,
     ⟨some 5, .give, [.slot 15], none⟩])
   (.seq (.reg [⟨some 17, .mv, [.slot 5], none⟩,
     ⟨some 18, .call 36, [.slot 5], none⟩,
     ⟨some 16, .mv, [.slot 18], none⟩,
     ⟨some 19, .ext 0, [.slot 18], none⟩,
     ⟨some 20, .ext 1, [.slot 18], none⟩,
     ⟨some 6, .give, [.slot 19], none⟩,
     ⟨some 7, .give, [.slot 20], none⟩])
   (.seq (.seq (.reg [⟨some 21, .mv, [.slot 4], none⟩,
      ⟨some 22, .nilc, [.slot 4], none⟩,
      ⟨some 23, .fld 2, [.slot 22], none⟩,
      ⟨some 24, .load 1 false, [.slot 23], none⟩,
      ⟨some 25, .bin .neq, [.slot 24, .lit (.int .i64 0)], none⟩,
      ⟨some 26, .mv, [.slot 25], none⟩,
      ⟨some 27, .take, [.slot 7], some (26, false)⟩,
      ⟨some 28, .bin .neq, [.slot 27, .lit (.int .i64 0)], some (26, false)⟩,
      ⟨some 29, .pick, [.slot 25, .lit (.bool true), .slot 28], none⟩,
      ⟨some 30, .mv, [.slot 29], none⟩,
      ⟨some 31, .take, [.slot 6], some (30, false)⟩,
      ⟨some 32, .take, [.slot 0], some (30, false)⟩,
      ⟨some 33, .bin .neq, [.slot 31, .slot 32], some (30, false)⟩,
      ⟨some 34, .pick, [.slot 29, .lit (.bool true), .slot 33], none⟩])
    (.cond (.slot 34) (.seq (.reg [⟨some 2, .give, [.lit (.str [])], none⟩,
       ⟨some 3, .give, [.lit (.int .i64 4)], none⟩])
     (.ret))
    (.skip)))
   (.seq (.reg [⟨some 35, .mv, [.slot 5], none⟩,
     ⟨some 2, .give, [.slot 5], none⟩,
     ⟨some 3, .give, [.lit (.int .i64 0)], none⟩])
   (.ret))))))),
  36, [.tmp 2, .tmp 3]⟩
theorem c38 : cFunc Proofs.Try.prog 38 = some sf38 := by kernel_rfl
/-- carpetbag/pad.Bucket -/
def sf39 : SF := ⟨(.seq (.reg [⟨some 1, .box, [.slot 0], none⟩,
     ⟨some 2, .give, [.lit (.int .i64 0)], none⟩])
   (.seq (.seq (.reg [⟨some 3, .load 1 false, [.slot 1], none⟩,
      ⟨some 4, .bin .lss, [.slot 3, .lit (.int .i64 0)], none⟩,
      ⟨some 5, .mv, [.slot 4], none⟩,
      ⟨some 6, .load 1 false, [.slot 1], some (5, false)⟩,
      ⟨some 7, .bin .gtr, [.slot 6, .lit (.int .i64 16384)], some (5, false)⟩,
      ⟨some 8, .pick, [.slot 4, .lit (.bool true), .slot 7], none⟩])
    (.cond (.slot 8) (.seq (.reg [⟨some 2, .give, [.lit (.int .i64 (-1))], none⟩])
     (.ret))
    (.skip)))
   (.seq (.reg [⟨some 9, .call 43, [], none⟩,
     ⟨some 10, .mfn 49 0 1, [.slot 1], none⟩,
     ⟨some 11, .call 48, [.slot 9, .slot 10], none⟩,
     ⟨some 2, .give, [.slot 11], none⟩])
   (.ret)))),
  12, [.tmp 2]⟩
theorem c39 : cFunc Proofs.Try.prog 39 = some sf39 := by kernel_rfl
/-- carpetbag/carpetbagref05.Bucket -/
def sf40 : SF := ⟨(.seq (.reg [⟨some 2, .give, [.lit (.int .i64 0)], none⟩])
   (.seq (.seq (.reg [⟨some 3, .take, [.lit (.int .i64 0)], none⟩])
    (.block 0 (.loop (.seq (.seq (.reg [⟨some 4, .mv, [.slot 3], none⟩,
         ⟨some 5, .bin .lss, [.slot 3, .lit (.int .i64 4)], none⟩,
         ⟨some 6, .mv, [.slot 5], none⟩,
         ⟨some 7, .take, [.slot 0], some (6, true)⟩,
         ⟨some 8, .bin .geq, [.slot 7, .lit (.int .i64 0)], some (6, true)⟩,
         ⟨some 9, .pick, [.slot 5, .slot 8, .lit (.bool false)], none⟩])
       (.cond (.slot 9) (.skip)
       (.exit 0)))
      (.seq (.block 1 (.seq (.reg [⟨some 12, .mv, [.slot 3], none⟩,
          ⟨some 13, .call 42, [.slot 3], none⟩,
          ⟨some 14, .bin .sub, [.slot 13, .lit (.int .i64 4)], none⟩,
          ⟨some 15, .mv, [.slot 0], none⟩,
          ⟨some 16, .bin .geq, [.slot 14, .slot 0], none⟩])
        (.cond (.slot 16) (.seq (.reg [⟨some 17, .mv, [.slot 3], none⟩,
           ⟨some 2, .give, [.slot 3], none⟩])
         (.ret))
        (.skip))))
      (.reg [⟨some 10, .mv, [.slot 3], none⟩,
       ⟨some 11, .bin .add, [.slot 3, .lit (.int .i64 1)], none⟩,
       ⟨some 3, .give, [.slot 11], none⟩]))))))
   (.seq (.reg [⟨some 2, .give, [.lit (.int .i64 (-1))], none⟩])
   (.ret)))),
  18, [.tmp 2]⟩
theorem c40 : cFunc Proofs.Try.prog 40 = some sf40 := by kernel_rfl
/-- carpetbag/pad.Size -/
def sf41 : SF := ⟨(.seq (.reg [⟨some 2, .give, [.lit (.int .i64 0)], none⟩])
   (.seq (.seq (.reg [⟨some 3, .mv, [.slot 0], none⟩,
      ⟨some 4, .bin .lss, [.slot 0, .lit (.int .i64 0)], none⟩,
      ⟨some 5, .mv, [.slot 4], none⟩,
      ⟨some 6, .take, [.slot 0], some (5, false)⟩,
      ⟨some 7, .call 50, [], some (5, false)⟩,
      ⟨some 8, .take, [.lit (.int .i64 4)], some (5, false)⟩,
      ⟨some 9, .bin .geq, [.slot 6, .slot 8], some (5, false)⟩,
      ⟨some 10, .pick, [.slot 4, .lit (.bool true), .slot 9], none⟩])
    (.cond (.slot 10) (.seq (.reg [⟨some 2, .give, [.lit (.int .i64 0)], none⟩])
     (.ret))
    (.skip)))
   (.seq (.reg [⟨some 11, .call 50, [], none⟩,
     ⟨some 12, .mv, [.slot 0], none⟩,
     ⟨some 13, .idxV 1 4 false, [.slot 11, .slot 0], none⟩,
     ⟨some 2, .give, [.slot 13], none⟩])
   (.ret)))),
  14, [.tmp 2]⟩
theorem c41 : cFunc Proofs.Try.prog 41 = some sf41 := by kernel_rfl
/-- carpetbag/carpetbagref05.Size -/
def sf42 : SF := ⟨(.seq (.reg [⟨some 2, .give, [.lit (.int .i64 0)], none⟩])
   (.seq (.seq (.reg [⟨some 3, .mv, [.slot 0], none⟩])
    (.block 0 (.seq (.reg [⟨some 5, .bin .eql, [.slot 3, .lit (.int .i64 0)], none⟩,
       ⟨some 4, .give, [.slot 5], none⟩])
     (.cond (.slot 4) (.seq (.reg [⟨some 2, .give, [.lit (.int .i64 80)], none⟩])
      (.ret))
     (.seq (.reg [⟨some 7, .bin .eql, [.slot 3, .lit (.int .i64 1)], none⟩,
        ⟨some 6, .give, [.slot 7], none⟩])
      (.cond (.slot 6) (.seq (.reg [⟨some 2, .give, [.lit (.int .i64 320)], none⟩])
       (.ret))
      (.seq (.reg [⟨some 9, .bin .eql, [.slot 3, .lit (.int .i64 2)], none⟩,
         ⟨some 8, .give, [.slot 9], none⟩])
       (.cond (.slot 8) (.seq (.reg [⟨some 2, .give, [.lit (.int .i64 1280)], none⟩])
        (.ret))
       (.seq (.reg [⟨some 11, .bin .eql, [.slot 3, .lit (.int .i64 3)], none⟩,
          ⟨some 10, .give, [.slot 11], none⟩])
        (.cond (.slot 10) (.seq (.reg [⟨some 2, .give, [.lit (.int .i64 5120)], none⟩])
         (.ret))
        (.skip)))))))))))
   (.seq (.reg [⟨some 2, .give, [.lit (.int .i64 0)], none⟩])
   (.ret)))),
  12, [.tmp 2]⟩
theorem c42 : cFunc Proofs.Try.prog 42 = some sf42 := by kernel_rfl
/-- carpetbag/pad.Sizes -/
def sf43 : SF := ⟨(.seq (.reg [⟨some 0, .give, [.lit (.nilS)], none⟩])
   (.seq (.reg [⟨some 2, .call 50, [], none⟩,
     ⟨some 1, .alloc [.int .i64 0, .int .i64 0, .int .i64 0, .int .i64 0], [], none⟩,
     ⟨none, .store 4 true, [.slot 1, .slot 2], none⟩])
   (.seq (.reg [⟨some 3, .slcP 1 4 false false false, [.slot 1], none⟩,
     ⟨some 4, .call 51, [.slot 3], none⟩,
     ⟨some 0, .give, [.slot 4], none⟩])
   (.ret)))),
  5, [.tmp 0]⟩
theorem c43 : cFunc Proofs.Try.prog 43 = some sf43 := by kernel_rfl
/-- slices.Clone[[]byte,byte] -/
def sf44 : SF := ⟨(.seq (.reg [⟨some 2, .give, [.lit (.nilS)], none⟩])
   (.seq (.seq (.reg [⟨some 3, .mv, [.slot 0], none⟩,
      ⟨some 4, .eqN .s false, [.slot 0, .lit (.nilS)], none⟩])
    (.cond (.slot 4) (.seq (.reg [⟨some 2, .give, [.lit (.nilS)], none⟩])
     (.ret))
    (.skip)))
   (.seq (.reg [⟨some 5, .bsl 1 0 [.int .u8 0] [], [], none⟩,
     ⟨some 6, .mv, [.slot 0], none⟩,
     ⟨some 7, .app 1 1 [.int .u8 0], [.slot 5, .slot 0], none⟩,
     ⟨some 2, .give, [.slot 7], none⟩])
   (.ret)))),
  8, [.tmp 2]⟩
theorem c44 : cFunc Proofs.Try.prog 44 = some sf44 := by kernel_rfl
/-- (*carpetbag/wire.Reader).fail -/
def sf45 : SF := ⟨(.seq (.reg [⟨some 6, .mv, [.slot 0], none⟩,
     ⟨some 7, .nilc, [.slot 0], none⟩,
     ⟨some 8, .fld 2, [.slot 7], none⟩,
     ⟨some 9, .load 1 false, [.slot 8], none⟩,
     ⟨some 10, .bin .eql, [.slot 9, .lit (.int .i64 0)], none⟩])
   (.cond (.slot 10) (.reg [⟨some 11, .mv, [.slot 0], none⟩,
     ⟨some 12, .mv, [.slot 0], none⟩,
     ⟨some 13, .mv, [.slot 1], none⟩,
     ⟨some 14, .mv, [.slot 2], none⟩,
     ⟨some 15, .nilc, [.slot 0], none⟩,
     ⟨some 16, .fld 2, [.slot 15], none⟩,
     ⟨none, .store 1 false, [.slot 16, .slot 1], none⟩,
     ⟨some 17, .nilc, [.slot 0], none⟩,
     ⟨some 18, .fld 1, [.slot 17], none⟩,
     ⟨none, .store 1 false, [.slot 18, .slot 2], none⟩])
   (.skip))),
  19, []⟩
theorem c45 : cFunc Proofs.Try.prog 45 = some sf45 := by kernel_rfl
/-- carpetbag/carpetbagref01.number -/
def sf46 : SF := ⟨(.seq (.reg [⟨some 6, .give, [.lit (.int .i64 0)], none⟩,
     ⟨some 7, .give, [.lit (.int .i64 0)], none⟩,
     ⟨some 8, .give, [.lit (.int .i64 0)], none⟩])
   (.seq (.seq (.reg [⟨some 11, .mv, [.slot 0], none⟩,
      ⟨some 12, .lenL, [.slot 0], none⟩,
      ⟨some 13, .mv, [.slot 1], none⟩,
      ⟨some 14, .bin .sub, [.slot 12, .slot 1], none⟩,
      ⟨some 15, .bin .lss, [.slot 14, .lit (.int .i64 4)], none⟩])
    (.cond (.slot 15) (.seq (.reg [⟨some 16, .mv, [.slot 1], none⟩,
       ⟨some 6, .give, [.lit (.int .i64 0)], none⟩,
       ⟨some 7, .give, [.slot 1], none⟩,
       ⟨some 8, .give, [.lit (.int .i64 4)], none⟩])
     (.ret))
    (.skip)))
   (.seq (.reg [⟨some 9, .take, [.lit (.int .i64 0)], none⟩])
   (.seq (.seq (.reg [⟨some 10, .take, [.lit (.int .i64 0)], none⟩])
    (.block 0 (.loop (.seq (.seq (.reg [⟨some 17, .mv, [.slot 10], none⟩,
         ⟨some 18, .bin .lss, [.slot 10, .lit (.int .i64 4)], none⟩])
       (.cond (.slot 18) (.skip)
       (.exit 0)))
      (.seq (.block 1 (.reg [⟨some 21, .mv, [.slot 9], none⟩,
         ⟨some 22, .bin .mul, [.slot 9, .lit (.int .i64 256)], none⟩,
         ⟨some 23, .mv, [.slot 0], none⟩,
         ⟨some 24, .mv, [.slot 1], none⟩,
         ⟨some 25, .mv, [.slot 10], none⟩,
         ⟨some 26, .bin .add, [.slot 1, .slot 10], none⟩,
         ⟨some 27, .idxB 1, [.slot 0, .slot 26], none⟩,
         ⟨some 28, .load 1 false, [.slot 27], none⟩,
         ⟨some 29, .cvI .i64, [.slot 28], none⟩,
         ⟨some 30, .bin .add, [.slot 22, .slot 29], none⟩,
         ⟨some 9, .give, [.slot 30], none⟩]))
      (.reg [⟨some 19, .mv, [.slot 10], none⟩,
       ⟨some 20, .bin .add, [.slot 10, .lit (.int .i64 1)], none⟩,
       ⟨some 10, .give, [.slot 20], none⟩]))))))
   (.seq (.seq (.reg [⟨some 31, .mv, [.slot 9], none⟩,
      ⟨some 32, .mv, [.slot 2], none⟩,
      ⟨some 33, .bin .gtr, [.slot 9, .slot 2], none⟩])
    (.cond (.slot 33) (.seq (.reg [⟨some 34, .mv, [.slot 1], none⟩,
       ⟨some 6, .give, [.lit (.int .i64 0)], none⟩,
       ⟨some 7, .give, [.slot 1], none⟩,
       ⟨some 8, .give, [.lit (.int .i64 5)], none⟩])
     (.ret))
    (.skip)))
   (.seq (.reg [⟨some 35, .mv, [.slot 9], none⟩,
     ⟨some 36, .mv, [.slot 1], none⟩,
     ⟨some 37, .bin .add, [.slot 1, .lit (.int .i64 4)], none⟩,
     ⟨some 6, .give, [.slot 9], none⟩,
     ⟨some 7, .give, [.slot 37], none⟩,
     ⟨some 8, .give, [.lit (.int .i64 0)], none⟩])
   (.ret))))))),
  38, [.tmp 6, .tmp 7, .tmp 8]⟩
theorem c46 : cFunc Proofs.Try.prog 46 = some sf46 := by kernel_rfl
/-- carpetbag/carpetbagref01.text -/
def sf47 : SF := ⟨(.seq (.reg [⟨some 6, .give, [.lit (.str [])], none⟩,
     ⟨some 7, .give, [.lit (.int .i64 0)], none⟩,
     ⟨some 8, .give, [.lit (.int .i64 0)], none⟩])
   (.seq (.reg [⟨some 13, .mv, [.slot 0], none⟩,
     ⟨some 14, .mv, [.slot 1], none⟩,
     ⟨some 15, .mv, [.slot 2], none⟩,
     ⟨some 16, .min, [.slot 2, .lit (.int .i64 16384)], none⟩,
     ⟨some 17, .call 46, [.slot 0, .slot 1, .slot 16], none⟩,
     ⟨some 12, .mv, [.slot 17], none⟩,
     ⟨some 18, .ext 0, [.slot 17], none⟩,
     ⟨some 19, .ext 1, [.slot 17], none⟩,
     ⟨some 20, .ext 2, [.slot 17], none⟩,
     ⟨some 9, .give, [.slot 18], none⟩,
     ⟨some 10, .give, [.slot 19], none⟩,
     ⟨some 11, .give, [.slot 20], none⟩])
   (.seq (.seq (.reg [⟨some 21, .mv, [.slot 11], none⟩,
      ⟨some 22, .bin .neq, [.slot 11, .lit (.int .i64 0)], none⟩])
    (.cond (.slot 22) (.seq (.reg [⟨some 23, .mv, [.slot 1], none⟩,
       ⟨some 24, .mv, [.slot 11], none⟩,
       ⟨some 6, .give, [.lit (.str [])], none⟩,
       ⟨some 7, .give, [.slot 1], none⟩,
       ⟨some 8, .give, [.slot 11], none⟩])
     (.ret))
    (.skip)))
   (.seq (.seq (.reg [⟨some 25, .mv, [.slot 0], none⟩,
      ⟨some 26, .lenL, [.slot 0], none⟩,
      ⟨some 27, .mv, [.slot 10], none⟩,
      ⟨some 28, .bin .sub, [.slot 26, .slot 10], none⟩,
      ⟨some 29, .mv, [.slot 9], none⟩,
      ⟨some 30, .bin .lss, [.slot 28, .slot 9], none⟩])
    (.cond (.slot 30) (.seq (.reg [⟨some 31, .mv, [.slot 1], none⟩,
       ⟨some 6, .give, [.lit (.str [])], none⟩,
       ⟨some 7, .give, [.slot 1], none⟩,
       ⟨some 8, .give, [.lit (.int .i64 4)], none⟩])
     (.ret))
    (.skip)))
   (.seq (.reg [⟨some 32, .mv, [.slot 0], none⟩,
     ⟨some 33, .mv, [.slot 10], none⟩,
     ⟨some 34, .mv, [.slot 10], none⟩,
     ⟨some 35, .mv, [.slot 9], none⟩,
     ⟨some 36, .bin .add, [.slot 10, .slot 9], none⟩,
     ⟨some 37, .slcL 1 true true false, [.slot 0, .slot 10, .slot 36], none⟩,
     ⟨some 38, .b2s, [.slot 37], none⟩,
     ⟨some 39, .mv, [.slot 10], none⟩,
     ⟨some 40, .mv, [.slot 9], none⟩,
     ⟨some 41, .bin .add, [.slot 10, .slot 9], none⟩,
     ⟨some 6, .give, [.slot 38], none⟩,
     ⟨some 7, .give, [.slot 41], none⟩,
     ⟨some 8, .give, [.lit (.int .i64 0)], none⟩])
   (.ret)))))),
  42, [.tmp 6, .tmp 7, .tmp 8]⟩
theorem c47 : cFunc Proofs.Try.prog 47 = some sf47 := by kernel_rfl
/-- slices.IndexFunc[[]int,int] -/
def sf48 : SF := ⟨(.seq (.reg [⟨some 4, .give, [.lit (.int .i64 0)], none⟩])
   (.seq (.seq (.reg [⟨some 6, .mv, [.slot 0], none⟩,
      ⟨some 7, .lenL, [.slot 0], none⟩,
      ⟨some 8, .mv, [.lit (.int .i64 0)], none⟩])
    (.block 0 (.loop (.seq (.reg [⟨some 9, .bin .lss, [.slot 8, .slot 7], none⟩])
      (.seq (.cond (.slot 9) (.skip)
       (.exit 0))
      (.seq (.block 1 (.seq (.reg [⟨some 10, .mv, [.slot 8], none⟩,
          ⟨some 5, .take, [.slot 8], none⟩])
        (.seq (.reg [⟨some 11, .mv, [.slot 1], none⟩,
          ⟨some 12, .mv, [.slot 0], none⟩,
          ⟨some 13, .mv, [.slot 5], none⟩,
          ⟨some 14, .idxB 1, [.slot 0, .slot 5], none⟩,
          ⟨some 15, .load 1 false, [.slot 14], none⟩,
          ⟨some 16, .callv, [.slot 1, .slot 15], none⟩])
        (.cond (.slot 16) (.seq (.reg [⟨some 17, .mv, [.slot 5], none⟩,
           ⟨some 4, .give, [.slot 5], none⟩])
         (.ret))
        (.skip)))))
      (.reg [⟨some 18, .bin .add, [.slot 8, .lit (.int .i64 1)], none⟩,
       ⟨some 8, .mv, [.slot 18], none⟩])))))))
   (.seq (.reg [⟨some 4, .give, [.lit (.int .i64 (-1))], none⟩])
   (.ret)))),
  19, [.tmp 4]⟩
theorem c48 : cFunc Proofs.Try.prog 48 = some sf48 := by kernel_rfl
/-- carpetbag/pad.Bucket$1 -/
def sf49 : SF := ⟨(.seq (.reg [⟨some 3, .give, [.lit (.bool false)], none⟩])
   (.seq (.reg [⟨some 4, .mv, [.slot 0], none⟩,
     ⟨some 5, .load 1 false, [.slot 1], none⟩,
     ⟨some 6, .bin .add, [.slot 5, .lit (.int .i64 4)], none⟩,
     ⟨some 7, .bin .geq, [.slot 0, .slot 6], none⟩,
     ⟨some 3, .give, [.slot 7], none⟩])
   (.ret))),
  8, [.tmp 3]⟩
theorem c49 : cFunc Proofs.Try.prog 49 = some sf49 := by kernel_rfl
/-- carpetbag/pad.all -/
def sf50 : SF := ⟨(.seq (.reg [⟨some 0, .alloc [.int .i64 0, .int .i64 0, .int .i64 0, .int .i64 0], [], none⟩])
   (.seq (.reg [⟨some 1, .bld [.int .i64 0, .int .i64 0, .int .i64 0, .int .i64 0] [(0, 1), (1, 1), (2, 1), (3, 1)], [.lit (.int .i64 80), .lit (.int .i64 320), .lit (.int .i64 1280), .lit (.int .i64 5120)], none⟩,
     ⟨none, .store 4 true, [.slot 0, .slot 1], none⟩])
   (.ret))),
  2, [.cell 0 4 true]⟩
theorem c50 : cFunc Proofs.Try.prog 50 = some sf50 := by kernel_rfl
/-- slices.Clone[[]int,int] -/
def sf51 : SF := ⟨(.seq (.reg [⟨some 2, .give, [.lit (.nilS)], none⟩])
   (.seq (.seq (.reg [⟨some 3, .mv, [.slot 0], none⟩,
      ⟨some 4, .eqN .s false, [.slot 0, .lit (.nilS)], none⟩])
    (.cond (.slot 4) (.seq (.reg [⟨some 2, .give, [.lit (.nilS)], none⟩])
     (.ret))
    (.skip)))
   (.seq (.reg [⟨some 5, .bsl 1 0 [.int .i64 0] [], [], none⟩,
     ⟨some 6, .mv, [.slot 0], none⟩,
     ⟨some 7, .app 1 8 [.int .i64 0], [.slot 5, .slot 0], none⟩,
     ⟨some 2, .give, [.slot 7], none⟩])
   (.ret)))),
  8, [.tmp 2]⟩
theorem c51 : cFunc Proofs.Try.prog 51 = some sf51 := by kernel_rfl
end Go.Sh.F
