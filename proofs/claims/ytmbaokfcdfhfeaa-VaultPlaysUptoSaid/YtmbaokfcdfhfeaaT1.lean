/-
  The program functions of this seat in the shadow machine form: printed by shc.py, checked by the kernel.
-/
import Derived.Test.YtmbaokfcdfhfeaaShY
import Derived.Test.YtmbaokfcdfhfeaaProg
import Derived.KernelRfl
namespace Go.Sh.F
/-- carpetbag/carpetbaglaw07.VaultPlays -/
def sf3 : SF := ⟨(.seq (.reg [⟨some 2, .give, [.lit (.bool false)], none⟩])
   (.seq (.reg [⟨some 22, .call 10, [], none⟩,
     ⟨some 3, .give, [.slot 22], none⟩])
   (.seq (.reg [⟨some 23, .mv, [.slot 0], none⟩,
     ⟨some 24, .call 11, [.slot 0], none⟩,
     ⟨some 4, .give, [.slot 24], none⟩])
   (.seq (.reg [⟨some 25, .call 12, [], none⟩,
     ⟨some 5, .give, [.slot 25], none⟩])
   (.seq (.reg [⟨some 26, .bld [.nilS, .nilS] [], [], none⟩,
     ⟨some 27, .box, [.slot 26], none⟩,
     ⟨some 6, .give, [.slot 27], none⟩])
   (.seq (.seq (.reg [⟨some 28, .mv, [.slot 5], none⟩,
      ⟨some 29, .eqN .p false, [.slot 5, .lit (.nilP)], none⟩,
      ⟨some 30, .mv, [.slot 29], none⟩,
      ⟨some 31, .take, [.slot 4], some (30, false)⟩,
      ⟨some 32, .un .not, [.slot 31], some (30, false)⟩,
      ⟨some 33, .pick, [.slot 29, .lit (.bool true), .slot 32], none⟩])
    (.cond (.slot 33) (.seq (.reg [⟨some 34, .mv, [.slot 3], none⟩,
       ⟨some 35, .mv, [.slot 3], none⟩,
       ⟨some 36, .take, [.slot 5], some (35, true)⟩,
       ⟨some 37, .eqN .p true, [.slot 36, .lit (.nilP)], some (35, true)⟩,
       ⟨some 38, .pick, [.slot 3, .slot 37, .lit (.bool false)], none⟩,
       ⟨some 2, .give, [.slot 38], none⟩])
     (.ret))
    (.skip)))
   (.seq (.seq (.reg [⟨some 7, .take, [.lit (.int .i64 0)], none⟩])
    (.block 0 (.loop (.seq (.seq (.reg [⟨some 39, .mv, [.slot 7], none⟩,
         ⟨some 40, .mv, [.slot 0], none⟩,
         ⟨some 41, .lenL, [.slot 0], none⟩,
         ⟨some 42, .bin .lss, [.slot 7, .slot 41], none⟩])
       (.cond (.slot 42) (.skip)
       (.exit 0)))
      (.seq (.block 1 (.seq (.reg [⟨some 45, .mv, [.slot 0], none⟩,
          ⟨some 46, .mv, [.slot 7], none⟩,
          ⟨some 47, .idxB 5, [.slot 0, .slot 7], none⟩,
          ⟨some 48, .load 5 true, [.slot 47], none⟩,
          ⟨some 8, .alloc [.int .i64 0, .int .i64 0, .int .i64 0, .str [], .str []], [], none⟩,
          ⟨none, .store 5 true, [.slot 8, .slot 48], none⟩])
        (.seq (.reg [⟨some 9, .take, [.lit (.bool true)], none⟩])
        (.seq (.seq (.reg [⟨some 49, .fld 0, [.slot 8], none⟩,
           ⟨some 50, .load 1 false, [.slot 49], none⟩,
           ⟨some 51, .bin .and, [.slot 50, .lit (.int .i64 3)], none⟩])
         (.block 2 (.seq (.seq (.reg [⟨some 53, .bin .eql, [.slot 51, .lit (.int .i64 0)], none⟩,
             ⟨some 52, .give, [.slot 53], none⟩])
           (.cond (.slot 52) (.skip)
           (.reg [⟨some 54, .bin .eql, [.slot 51, .lit (.int .i64 3)], none⟩,
             ⟨some 52, .give, [.slot 54], none⟩])))
          (.cond (.slot 52) (.seq (.reg [⟨some 56, .mv, [.slot 5], none⟩,
             ⟨some 57, .fld 1, [.slot 8], none⟩,
             ⟨some 58, .load 1 false, [.slot 57], none⟩,
             ⟨some 59, .fld 3, [.slot 8], none⟩,
             ⟨some 60, .load 1 false, [.slot 59], none⟩,
             ⟨some 61, .fld 4, [.slot 8], none⟩,
             ⟨some 62, .load 1 false, [.slot 61], none⟩,
             ⟨some 63, .fld 2, [.slot 8], none⟩,
             ⟨some 64, .load 1 false, [.slot 63], none⟩,
             ⟨some 65, .call 13, [.slot 5, .slot 58, .slot 60, .slot 62, .slot 64], none⟩,
             ⟨some 55, .mv, [.slot 65], none⟩,
             ⟨some 66, .ext 0, [.slot 65], none⟩,
             ⟨some 67, .ext 1, [.slot 65], none⟩,
             ⟨some 10, .give, [.slot 66], none⟩,
             ⟨some 11, .give, [.slot 67], none⟩])
           (.seq (.reg [⟨some 69, .mv, [.slot 6], none⟩,
             ⟨some 70, .fld 1, [.slot 8], none⟩,
             ⟨some 71, .load 1 false, [.slot 70], none⟩,
             ⟨some 72, .fld 3, [.slot 8], none⟩,
             ⟨some 73, .load 1 false, [.slot 72], none⟩,
             ⟨some 74, .fld 4, [.slot 8], none⟩,
             ⟨some 75, .load 1 false, [.slot 74], none⟩,
             ⟨some 76, .fld 2, [.slot 8], none⟩,
             ⟨some 77, .load 1 false, [.slot 76], none⟩,
             ⟨some 78, .call 14, [.slot 6, .slot 71, .slot 73, .slot 75, .slot 77], none⟩,
             ⟨some 68, .mv, [.slot 78], none⟩,
             ⟨some 79, .ext 0, [.slot 78], none⟩,
             ⟨some 80, .ext 1, [.slot 78], none⟩,
             ⟨some 12, .give, [.slot 79], none⟩,
             ⟨some 13, .give, [.slot 80], none⟩])
           (.reg [⟨some 81, .mv, [.slot 10], none⟩,
            ⟨some 82, .mv, [.slot 12], none⟩,
            ⟨some 83, .bin .eql, [.slot 10, .slot 12], none⟩,
            ⟨some 84, .mv, [.slot 83], none⟩,
            ⟨some 85, .take, [.slot 11], some (84, true)⟩,
            ⟨some 86, .take, [.slot 13], some (84, true)⟩,
            ⟨some 87, .bin .eql, [.slot 85, .slot 86], some (84, true)⟩,
            ⟨some 88, .pick, [.slot 83, .slot 87, .lit (.bool false)], none⟩,
            ⟨some 9, .give, [.slot 88], none⟩])))
          (.seq (.reg [⟨some 90, .bin .eql, [.slot 51, .lit (.int .i64 1)], none⟩,
             ⟨some 89, .give, [.slot 90], none⟩])
           (.cond (.slot 89) (.seq (.reg [⟨some 92, .mv, [.slot 5], none⟩,
              ⟨some 93, .fld 1, [.slot 8], none⟩,
              ⟨some 94, .load 1 false, [.slot 93], none⟩,
              ⟨some 95, .fld 3, [.slot 8], none⟩,
              ⟨some 96, .load 1 false, [.slot 95], none⟩,
              ⟨some 97, .fld 2, [.slot 8], none⟩,
              ⟨some 98, .load 1 false, [.slot 97], none⟩,
              ⟨some 99, .call 15, [.slot 5, .slot 94, .slot 96, .slot 98], none⟩,
              ⟨some 91, .mv, [.slot 99], none⟩,
              ⟨some 100, .ext 0, [.slot 99], none⟩,
              ⟨some 101, .ext 1, [.slot 99], none⟩,
              ⟨some 14, .give, [.slot 100], none⟩,
              ⟨some 15, .give, [.slot 101], none⟩])
            (.seq (.reg [⟨some 103, .mv, [.slot 6], none⟩,
              ⟨some 104, .fld 1, [.slot 8], none⟩,
              ⟨some 105, .load 1 false, [.slot 104], none⟩,
              ⟨some 106, .fld 3, [.slot 8], none⟩,
              ⟨some 107, .load 1 false, [.slot 106], none⟩,
              ⟨some 108, .fld 2, [.slot 8], none⟩,
              ⟨some 109, .load 1 false, [.slot 108], none⟩,
              ⟨some 110, .call 16, [.slot 6, .slot 105, .slot 107, .slot 109], none⟩,
              ⟨some 102, .mv, [.slot 110], none⟩,
              ⟨some 111, .ext 0, [.slot 110], none⟩,
              ⟨some 112, .ext 1, [.slot 110], none⟩,
              ⟨some 16, .give, [.slot 111], none⟩,
              ⟨some 17, .give, [.slot 112], none⟩])
            (.reg [⟨some 113, .mv, [.slot 14], none⟩,
             ⟨some 114, .mv, [.slot 16], none⟩,
             ⟨some 115, .bin .eql, [.slot 14, .slot 16], none⟩,
             ⟨some 116, .mv, [.slot 115], none⟩,
             ⟨some 117, .take, [.slot 15], some (116, true)⟩,
             ⟨some 118, .take, [.slot 17], some (116, true)⟩,
             ⟨some 119, .bin .eql, [.slot 117, .slot 118], some (116, true)⟩,
             ⟨some 120, .pick, [.slot 115, .slot 119, .lit (.bool false)], none⟩,
             ⟨some 9, .give, [.slot 120], none⟩])))
           (.seq (.reg [⟨some 122, .bin .eql, [.slot 51, .lit (.int .i64 2)], none⟩,
              ⟨some 121, .give, [.slot 122], none⟩])
            (.cond (.slot 121) (.seq (.reg [⟨some 124, .mv, [.slot 5], none⟩,
               ⟨some 125, .fld 1, [.slot 8], none⟩,
               ⟨some 126, .load 1 false, [.slot 125], none⟩,
               ⟨some 127, .fld 3, [.slot 8], none⟩,
               ⟨some 128, .load 1 false, [.slot 127], none⟩,
               ⟨some 129, .fld 2, [.slot 8], none⟩,
               ⟨some 130, .load 1 false, [.slot 129], none⟩,
               ⟨some 131, .call 17, [.slot 5, .slot 126, .slot 128, .slot 130], none⟩,
               ⟨some 123, .mv, [.slot 131], none⟩,
               ⟨some 132, .ext 0, [.slot 131], none⟩,
               ⟨some 133, .ext 1, [.slot 131], none⟩,
               ⟨some 18, .give, [.slot 132], none⟩,
               ⟨some 19, .give, [.slot 133], none⟩])
             (.seq (.reg [⟨some 135, .mv, [.slot 6], none⟩,
               ⟨some 136, .fld 1, [.slot 8], none⟩,
               ⟨some 137, .load 1 false, [.slot 136], none⟩,
               ⟨some 138, .fld 3, [.slot 8], none⟩,
               ⟨some 139, .load 1 false, [.slot 138], none⟩,
               ⟨some 140, .fld 2, [.slot 8], none⟩,
               ⟨some 141, .load 1 false, [.slot 140], none⟩,
               ⟨some 142, .call 18, [.slot 6, .slot 137, .slot 139, .slot 141], none⟩,
               ⟨some 134, .mv, [.slot 142], none⟩,
               ⟨some 143, .ext 0, [.slot 142], none⟩,
               ⟨some 144, .ext 1, [.slot 142], none⟩,
               ⟨some 20, .give, [.slot 143], none⟩,
               ⟨some 21, .give, [.slot 144], none⟩])
             (.reg [⟨some 145, .mv, [.slot 18], none⟩,
              ⟨some 146, .mv, [.slot 20], none⟩,
              ⟨some 147, .bin .eql, [.slot 18, .slot 20], none⟩,
              ⟨some 148, .mv, [.slot 147], none⟩,
              ⟨some 149, .take, [.slot 19], some (148, true)⟩,
              ⟨some 150, .take, [.slot 21], some (148, true)⟩,
              ⟨some 151, .bin .eql, [.slot 149, .slot 150], some (148, true)⟩,
              ⟨some 152, .pick, [.slot 147, .slot 151, .lit (.bool false)], none⟩,
              ⟨some 9, .give, [.slot 152], none⟩])))
            (.skip)))))))))
        (.seq (.seq (.reg [⟨some 153, .mv, [.slot 9], none⟩,
        ⟨some 154, .un .not, [.slot 9], none⟩,
        ⟨some 155, .mv, [.slot 154], none⟩,
        ⟨some 156, .mv, [.slot 5], some (155, false)⟩,
        ⟨some 157, .fld 2, [.slot 8], some (155, false)⟩,
        ⟨some 158, .load 1 false, [.slot 157], some (155, false)⟩,
        ⟨some 160, .mv, [.slot 6], some (155, false)⟩,
        ⟨some 161, .fld 2, [.slot 8], some (155, false)⟩])
      (.both (.seq (.reg [⟨some 159, .call 19, [.slot 156, .slot 158], some (155, false)⟩,
         ⟨some 162, .load 1 false, [.slot 161], some (155, false)⟩,
         ⟨some 163, .call 20, [.slot 160, .slot 162], some (155, false)⟩,
         ⟨some 164, .bin .neq, [.slot 159, .slot 163], some (155, false)⟩,
         ⟨some 165, .pick, [.slot 154, .lit (.bool true), .slot 164], none⟩,
         ⟨some 166, .mv, [.slot 165], none⟩,
         ⟨some 167, .mv, [.slot 5], some (166, false)⟩,
         ⟨some 169, .mv, [.slot 6], some (166, false)⟩,
         ⟨some 170, .nilc, [.slot 169], some (166, false)⟩,
         ⟨some 171, .fld 0, [.slot 170], some (166, false)⟩])
       (.both (.seq (.reg [⟨some 168, .call 21, [.slot 167], some (166, false)⟩,
          ⟨some 172, .load 1 false, [.slot 171], some (166, false)⟩,
          ⟨some 173, .lenL, [.slot 172], some (166, false)⟩,
          ⟨some 174, .bin .neq, [.slot 168, .slot 173], some (166, false)⟩,
          ⟨some 175, .pick, [.slot 165, .lit (.bool true), .slot 174], none⟩,
          ⟨some 176, .mv, [.slot 175], none⟩,
          ⟨some 177, .mv, [.slot 5], some (176, false)⟩,
          ⟨some 179, .mv, [.slot 6], some (176, false)⟩,
          ⟨some 180, .nilc, [.slot 179], some (176, false)⟩,
          ⟨some 181, .fld 1, [.slot 180], some (176, false)⟩])
        (.both (.reg [⟨some 178, .call 22, [.slot 177], some (176, false)⟩,
          ⟨some 182, .load 1 false, [.slot 181], some (176, false)⟩,
          ⟨some 183, .lenL, [.slot 182], some (176, false)⟩,
          ⟨some 184, .bin .neq, [.slot 178, .slot 183], some (176, false)⟩,
          ⟨some 185, .pick, [.slot 175, .lit (.bool true), .slot 184], none⟩])
        (.both (.reg [⟨some 182, .load 1 false, [.slot 181], some (176, false)⟩,
          ⟨some 178, .call 22, [.slot 177], some (176, false)⟩,
          ⟨some 183, .lenL, [.slot 182], some (176, false)⟩,
          ⟨some 184, .bin .neq, [.slot 178, .slot 183], some (176, false)⟩,
          ⟨some 185, .pick, [.slot 175, .lit (.bool true), .slot 184], none⟩])
        (.tt))))
       (.both (.seq (.reg [⟨some 172, .load 1 false, [.slot 171], some (166, false)⟩,
          ⟨some 168, .call 21, [.slot 167], some (166, false)⟩,
          ⟨some 173, .lenL, [.slot 172], some (166, false)⟩,
          ⟨some 174, .bin .neq, [.slot 168, .slot 173], some (166, false)⟩,
          ⟨some 175, .pick, [.slot 165, .lit (.bool true), .slot 174], none⟩,
          ⟨some 176, .mv, [.slot 175], none⟩,
          ⟨some 177, .mv, [.slot 5], some (176, false)⟩,
          ⟨some 179, .mv, [.slot 6], some (176, false)⟩,
          ⟨some 180, .nilc, [.slot 179], some (176, false)⟩,
          ⟨some 181, .fld 1, [.slot 180], some (176, false)⟩])
        (.both (.reg [⟨some 178, .call 22, [.slot 177], some (176, false)⟩,
          ⟨some 182, .load 1 false, [.slot 181], some (176, false)⟩,
          ⟨some 183, .lenL, [.slot 182], some (176, false)⟩,
          ⟨some 184, .bin .neq, [.slot 178, .slot 183], some (176, false)⟩,
          ⟨some 185, .pick, [.slot 175, .lit (.bool true), .slot 184], none⟩])
        (.both (.reg [⟨some 182, .load 1 false, [.slot 181], some (176, false)⟩,
          ⟨some 178, .call 22, [.slot 177], some (176, false)⟩,
          ⟨some 183, .lenL, [.slot 182], some (176, false)⟩,
          ⟨some 184, .bin .neq, [.slot 178, .slot 183], some (176, false)⟩,
          ⟨some 185, .pick, [.slot 175, .lit (.bool true), .slot 184], none⟩])
        (.tt))))
       (.tt))))
      (.both (.seq (.reg [⟨some 162, .load 1 false, [.slot 161], some (155, false)⟩,
         ⟨some 159, .call 19, [.slot 156, .slot 158], some (155, false)⟩,
         ⟨some 163, .call 20, [.slot 160, .slot 162], some (155, false)⟩,
         ⟨some 164, .bin .neq, [.slot 159, .slot 163], some (155, false)⟩,
         ⟨some 165, .pick, [.slot 154, .lit (.bool true), .slot 164], none⟩,
         ⟨some 166, .mv, [.slot 165], none⟩,
         ⟨some 167, .mv, [.slot 5], some (166, false)⟩,
         ⟨some 169, .mv, [.slot 6], some (166, false)⟩,
         ⟨some 170, .nilc, [.slot 169], some (166, false)⟩,
         ⟨some 171, .fld 0, [.slot 170], some (166, false)⟩])
       (.both (.seq (.reg [⟨some 168, .call 21, [.slot 167], some (166, false)⟩,
          ⟨some 172, .load 1 false, [.slot 171], some (166, false)⟩,
          ⟨some 173, .lenL, [.slot 172], some (166, false)⟩,
          ⟨some 174, .bin .neq, [.slot 168, .slot 173], some (166, false)⟩,
          ⟨some 175, .pick, [.slot 165, .lit (.bool true), .slot 174], none⟩,
          ⟨some 176, .mv, [.slot 175], none⟩,
          ⟨some 177, .mv, [.slot 5], some (176, false)⟩,
          ⟨some 179, .mv, [.slot 6], some (176, false)⟩,
          ⟨some 180, .nilc, [.slot 179], some (176, false)⟩,
          ⟨some 181, .fld 1, [.slot 180], some (176, false)⟩])
        (.both (.reg [⟨some 178, .call 22, [.slot 177], some (176, false)⟩,
          ⟨some 182, .load 1 false, [.slot 181], some (176, false)⟩,
          ⟨some 183, .lenL, [.slot 182], some (176, false)⟩,
          ⟨some 184, .bin .neq, [.slot 178, .slot 183], some (176, false)⟩,
          ⟨some 185, .pick, [.slot 175, .lit (.bool true), .slot 184], none⟩])
        (.both (.reg [⟨some 182, .load 1 false, [.slot 181], some (176, false)⟩,
          ⟨some 178, .call 22, [.slot 177], some (176, false)⟩,
          ⟨some 183, .lenL, [.slot 182], some (176, false)⟩,
          ⟨some 184, .bin .neq, [.slot 178, .slot 183], some (176, false)⟩,
          ⟨some 185, .pick, [.slot 175, .lit (.bool true), .slot 184], none⟩])
        (.tt))))
       (.both (.seq (.reg [⟨some 172, .load 1 false, [.slot 171], some (166, false)⟩,
          ⟨some 168, .call 21, [.slot 167], some (166, false)⟩,
          ⟨some 173, .lenL, [.slot 172], some (166, false)⟩,
          ⟨some 174, .bin .neq, [.slot 168, .slot 173], some (166, false)⟩,
          ⟨some 175, .pick, [.slot 165, .lit (.bool true), .slot 174], none⟩,
          ⟨some 176, .mv, [.slot 175], none⟩,
          ⟨some 177, .mv, [.slot 5], some (176, false)⟩,
          ⟨some 179, .mv, [.slot 6], some (176, false)⟩,
          ⟨some 180, .nilc, [.slot 179], some (176, false)⟩,
          ⟨some 181, .fld 1, [.slot 180], some (176, false)⟩])
        (.both (.reg [⟨some 178, .call 22, [.slot 177], some (176, false)⟩,
          ⟨some 182, .load 1 false, [.slot 181], some (176, false)⟩,
          ⟨some 183, .lenL, [.slot 182], some (176, false)⟩,
          ⟨some 184, .bin .neq, [.slot 178, .slot 183], some (176, false)⟩,
          ⟨some 185, .pick, [.slot 175, .lit (.bool true), .slot 184], none⟩])
        (.both (.reg [⟨some 182, .load 1 false, [.slot 181], some (176, false)⟩,
          ⟨some 178, .call 22, [.slot 177], some (176, false)⟩,
          ⟨some 183, .lenL, [.slot 182], some (176, false)⟩,
          ⟨some 184, .bin .neq, [.slot 178, .slot 183], some (176, false)⟩,
          ⟨some 185, .pick, [.slot 175, .lit (.bool true), .slot 184], none⟩])
        (.tt))))
       (.tt))))
      (.tt))))
        (.cond (.slot 185) (.seq (.reg [⟨some 2, .give, [.lit (.bool false)], none⟩])
         (.ret))
        (.skip)))))))
      (.reg [⟨some 43, .mv, [.slot 7], none⟩,
       ⟨some 44, .bin .add, [.slot 7, .lit (.int .i64 1)], none⟩,
       ⟨some 7, .give, [.slot 44], none⟩]))))))
   (.seq (.reg [⟨some 186, .mv, [.slot 3], none⟩,
     ⟨some 2, .give, [.slot 3], none⟩])
   (.ret))))))))),
  187, [.tmp 2]⟩
theorem c3 : cFunc Proofs.Try.prog 3 = some sf3 := by kernel_rfl
/-- carpetbag/carpetbaglaw07.VaultOpens -/
def sf4 : SF := ⟨(.seq (.reg [⟨some 6, .give, [.lit (.bool false)], none⟩])
   (.seq (.reg [⟨some 26, .call 10, [], none⟩,
     ⟨some 7, .give, [.slot 26], none⟩])
   (.seq (.reg [⟨some 27, .mv, [.slot 0], none⟩,
     ⟨some 28, .call 11, [.slot 0], none⟩,
     ⟨some 8, .give, [.slot 28], none⟩])
   (.seq (.reg [⟨some 29, .call 12, [], none⟩,
     ⟨some 9, .give, [.slot 29], none⟩])
   (.seq (.seq (.reg [⟨some 30, .mv, [.slot 9], none⟩,
      ⟨some 31, .eqN .p false, [.slot 9, .lit (.nilP)], none⟩,
      ⟨some 32, .mv, [.slot 31], none⟩,
      ⟨some 33, .take, [.slot 8], some (32, false)⟩,
      ⟨some 34, .un .not, [.slot 33], some (32, false)⟩,
      ⟨some 35, .pick, [.slot 31, .lit (.bool true), .slot 34], none⟩,
      ⟨some 36, .mv, [.slot 35], none⟩,
      ⟨some 37, .take, [.slot 2], some (36, false)⟩,
      ⟨some 38, .lenS, [.slot 37], some (36, false)⟩,
      ⟨some 39, .bin .gtr, [.slot 38, .lit (.int .i64 200)], some (36, false)⟩,
      ⟨some 40, .pick, [.slot 35, .lit (.bool true), .slot 39], none⟩])
    (.cond (.slot 40) (.seq (.reg [⟨some 41, .mv, [.slot 7], none⟩,
       ⟨some 42, .mv, [.slot 7], none⟩,
       ⟨some 43, .take, [.slot 9], some (42, true)⟩,
       ⟨some 44, .eqN .p true, [.slot 43, .lit (.nilP)], some (42, true)⟩,
       ⟨some 45, .pick, [.slot 7, .slot 44, .lit (.bool false)], none⟩,
       ⟨some 6, .give, [.slot 45], none⟩])
     (.ret))
    (.skip)))
   (.seq (.reg [⟨some 10, .take, [.lit (.nilS)], none⟩])
   (.seq (.reg [⟨some 11, .take, [.lit (.nilS)], none⟩])
   (.seq (.seq (.reg [⟨some 12, .take, [.lit (.int .i64 0)], none⟩])
    (.block 0 (.loop (.seq (.seq (.reg [⟨some 46, .mv, [.slot 12], none⟩,
         ⟨some 47, .mv, [.slot 0], none⟩,
         ⟨some 48, .lenL, [.slot 0], none⟩,
         ⟨some 49, .bin .lss, [.slot 12, .slot 48], none⟩])
       (.cond (.slot 49) (.skip)
       (.exit 0)))
      (.seq (.block 1 (.seq (.seq (.reg [⟨some 53, .mv, [.slot 9], none⟩,
        ⟨some 54, .mv, [.slot 0], none⟩,
        ⟨some 55, .mv, [.slot 12], none⟩,
        ⟨some 56, .idxA 5, [.slot 0, .slot 12], none⟩,
        ⟨some 57, .fld 1, [.slot 56], none⟩,
        ⟨some 58, .load 1 false, [.slot 57], none⟩,
        ⟨some 59, .mv, [.slot 0], none⟩,
        ⟨some 60, .mv, [.slot 12], none⟩,
        ⟨some 61, .idxA 5, [.slot 0, .slot 12], none⟩,
        ⟨some 62, .fld 3, [.slot 61], none⟩,
        ⟨some 63, .load 1 false, [.slot 62], none⟩,
        ⟨some 64, .mv, [.slot 0], none⟩,
        ⟨some 65, .mv, [.slot 12], none⟩,
        ⟨some 66, .idxA 5, [.slot 0, .slot 12], none⟩,
        ⟨some 67, .fld 4, [.slot 66], none⟩,
        ⟨some 68, .load 1 false, [.slot 67], none⟩,
        ⟨some 69, .mv, [.slot 0], none⟩,
        ⟨some 70, .mv, [.slot 12], none⟩,
        ⟨some 71, .idxA 5, [.slot 0, .slot 12], none⟩,
        ⟨some 72, .fld 2, [.slot 71], none⟩,
        ⟨some 73, .load 1 false, [.slot 72], none⟩,
        ⟨some 74, .call 13, [.slot 53, .slot 58, .slot 63, .slot 68, .slot 73], none⟩,
        ⟨some 52, .mv, [.slot 74], none⟩])
      (.both (.reg [⟨some 75, .ext 0, [.slot 52], none⟩,
        ⟨some 76, .ext 1, [.slot 52], none⟩,
        ⟨some 13, .give, [.slot 75], none⟩,
        ⟨some 14, .give, [.slot 76], none⟩])
      (.both (.reg [⟨some 76, .ext 1, [.slot 52], none⟩,
        ⟨some 75, .ext 0, [.slot 52], none⟩,
        ⟨some 13, .give, [.slot 75], none⟩,
        ⟨some 14, .give, [.slot 76], none⟩])
      (.tt))))
        (.seq (.seq (.reg [⟨some 77, .mv, [.slot 14], none⟩,
           ⟨some 78, .bin .neq, [.slot 14, .lit (.int .i64 0)], none⟩])
         (.cond (.slot 78) (.exit 1)
         (.skip)))
        (.seq (.seq (.reg [⟨some 15, .take, [.lit (.int .i64 0)], none⟩])
         (.block 2 (.loop (.seq (.seq (.reg [⟨some 79, .mv, [.slot 15], none⟩,
              ⟨some 80, .mv, [.slot 10], none⟩,
              ⟨some 81, .lenL, [.slot 10], none⟩,
              ⟨some 82, .bin .lss, [.slot 15, .slot 81], none⟩])
            (.cond (.slot 82) (.skip)
            (.exit 2)))
           (.seq (.block 3 (.seq (.reg [⟨some 85, .mv, [.slot 10], none⟩,
               ⟨some 86, .mv, [.slot 15], none⟩,
               ⟨some 87, .idxB 1, [.slot 10, .slot 15], none⟩,
               ⟨some 88, .load 1 false, [.slot 87], none⟩,
               ⟨some 89, .mv, [.slot 13], none⟩,
               ⟨some 90, .bin .eql, [.slot 88, .slot 13], none⟩])
             (.cond (.slot 90) (.seq (.reg [⟨some 6, .give, [.lit (.bool false)], none⟩])
              (.ret))
             (.skip))))
           (.reg [⟨some 83, .mv, [.slot 15], none⟩,
            ⟨some 84, .bin .add, [.slot 15, .lit (.int .i64 1)], none⟩,
            ⟨some 15, .give, [.slot 84], none⟩]))))))
        (.seq (.reg [⟨some 91, .mv, [.slot 10], none⟩,
          ⟨some 92, .mv, [.slot 13], none⟩,
          ⟨some 93, .bsl 1 1 [.int .i64 0] [0], [.slot 13], none⟩,
          ⟨some 94, .app 1 8 [.int .i64 0], [.slot 10, .slot 93], none⟩,
          ⟨some 10, .giveP, [.slot 94], none⟩])
        (.reg [⟨some 95, .mv, [.slot 11], none⟩,
         ⟨some 96, .mv, [.slot 0], none⟩,
         ⟨some 97, .mv, [.slot 12], none⟩,
         ⟨some 98, .idxB 5, [.slot 0, .slot 12], none⟩,
         ⟨some 99, .load 5 true, [.slot 98], none⟩,
         ⟨some 100, .bsl 5 1 [.int .i64 0, .int .i64 0, .int .i64 0, .str [], .str []] [0], [.slot 99], none⟩,
         ⟨some 101, .app 5 56 [.int .i64 0, .int .i64 0, .int .i64 0, .str [], .str []], [.slot 11, .slot 100], none⟩,
         ⟨some 11, .giveP, [.slot 101], none⟩]))))))
      (.reg [⟨some 50, .mv, [.slot 12], none⟩,
       ⟨some 51, .bin .add, [.slot 12, .lit (.int .i64 1)], none⟩,
       ⟨some 12, .give, [.slot 51], none⟩]))))))
   (.seq (.seq (.reg [⟨some 16, .take, [.lit (.int .i64 0)], none⟩])
    (.block 4 (.loop (.seq (.seq (.reg [⟨some 102, .mv, [.slot 16], none⟩,
         ⟨some 103, .mv, [.slot 10], none⟩,
         ⟨some 104, .lenL, [.slot 10], none⟩,
         ⟨some 105, .bin .lss, [.slot 16, .slot 104], none⟩])
       (.cond (.slot 105) (.skip)
       (.exit 4)))
      (.seq (.block 5 (.seq (.seq (.reg [⟨some 109, .mv, [.slot 9], none⟩,
        ⟨some 110, .mv, [.slot 11], none⟩,
        ⟨some 111, .mv, [.slot 16], none⟩,
        ⟨some 112, .idxA 5, [.slot 11, .slot 16], none⟩,
        ⟨some 113, .fld 1, [.slot 112], none⟩,
        ⟨some 114, .load 1 false, [.slot 113], none⟩,
        ⟨some 115, .mv, [.slot 11], none⟩,
        ⟨some 116, .mv, [.slot 16], none⟩,
        ⟨some 117, .idxA 5, [.slot 11, .slot 16], none⟩,
        ⟨some 118, .fld 3, [.slot 117], none⟩,
        ⟨some 119, .load 1 false, [.slot 118], none⟩,
        ⟨some 120, .mv, [.slot 10], none⟩,
        ⟨some 121, .mv, [.slot 16], none⟩,
        ⟨some 122, .idxA 1, [.slot 10, .slot 16], none⟩,
        ⟨some 123, .load 1 false, [.slot 122], none⟩,
        ⟨some 124, .call 15, [.slot 109, .slot 114, .slot 119, .slot 123], none⟩,
        ⟨some 108, .mv, [.slot 124], none⟩])
      (.both (.reg [⟨some 125, .ext 0, [.slot 108], none⟩,
        ⟨some 126, .ext 1, [.slot 108], none⟩,
        ⟨some 17, .give, [.slot 125], none⟩,
        ⟨some 18, .give, [.slot 126], none⟩])
      (.both (.reg [⟨some 126, .ext 1, [.slot 108], none⟩,
        ⟨some 125, .ext 0, [.slot 108], none⟩,
        ⟨some 17, .give, [.slot 125], none⟩,
        ⟨some 18, .give, [.slot 126], none⟩])
      (.tt))))
        (.seq (.reg [⟨some 128, .mv, [.slot 9], none⟩,
          ⟨some 129, .mv, [.slot 1], none⟩,
          ⟨some 130, .mv, [.slot 2], none⟩,
          ⟨some 131, .mv, [.slot 10], none⟩,
          ⟨some 132, .mv, [.slot 16], none⟩,
          ⟨some 133, .idxB 1, [.slot 10, .slot 16], none⟩,
          ⟨some 134, .load 1 false, [.slot 133], none⟩,
          ⟨some 135, .call 15, [.slot 9, .slot 1, .slot 2, .slot 134], none⟩,
          ⟨some 127, .mv, [.slot 135], none⟩,
          ⟨some 136, .ext 0, [.slot 135], none⟩,
          ⟨some 137, .ext 1, [.slot 135], none⟩,
          ⟨some 19, .give, [.slot 136], none⟩,
          ⟨some 20, .give, [.slot 137], none⟩])
        (.seq (.reg [⟨some 138, .mv, [.slot 18], none⟩,
          ⟨some 139, .bin .neq, [.slot 18, .lit (.int .i64 0)], none⟩,
          ⟨some 140, .mv, [.slot 139], none⟩,
          ⟨some 141, .take, [.slot 17], some (140, false)⟩,
          ⟨some 142, .take, [.slot 11], some (140, false)⟩,
          ⟨some 143, .take, [.slot 16], some (140, false)⟩,
          ⟨some 144, .idxB 5, [.slot 142, .slot 143], some (140, false)⟩,
          ⟨some 145, .fld 4, [.slot 144], some (140, false)⟩,
          ⟨some 146, .load 1 false, [.slot 145], some (140, false)⟩,
          ⟨some 147, .bin .neq, [.slot 141, .slot 146], some (140, false)⟩,
          ⟨some 148, .pick, [.slot 139, .lit (.bool true), .slot 147], none⟩,
          ⟨some 149, .mv, [.slot 148], none⟩,
          ⟨some 150, .take, [.slot 20], some (149, false)⟩,
          ⟨some 151, .bin .eql, [.slot 150, .lit (.int .i64 0)], some (149, false)⟩,
          ⟨some 152, .take, [.slot 1], some (149, false)⟩,
          ⟨some 153, .take, [.slot 11], some (149, false)⟩,
          ⟨some 154, .take, [.slot 16], some (149, false)⟩,
          ⟨some 155, .idxB 5, [.slot 153, .slot 154], some (149, false)⟩,
          ⟨some 156, .fld 1, [.slot 155], some (149, false)⟩,
          ⟨some 157, .load 1 false, [.slot 156], some (149, false)⟩,
          ⟨some 158, .bin .eql, [.slot 152, .slot 157], some (149, false)⟩,
          ⟨some 159, .take, [.slot 158], some (149, false)⟩,
          ⟨some 160, .take, [.slot 2], some (159, true)⟩,
          ⟨some 161, .take, [.slot 11], some (159, true)⟩,
          ⟨some 162, .take, [.slot 16], some (159, true)⟩,
          ⟨some 163, .idxB 5, [.slot 161, .slot 162], some (159, true)⟩,
          ⟨some 164, .fld 3, [.slot 163], some (159, true)⟩,
          ⟨some 165, .load 1 false, [.slot 164], some (159, true)⟩,
          ⟨some 166, .bin .eql, [.slot 160, .slot 165], some (159, true)⟩,
          ⟨some 167, .pick, [.slot 159, .slot 166, .lit (.bool false)], some (149, false)⟩,
          ⟨some 168, .eqB true, [.slot 151, .slot 167], some (149, false)⟩,
          ⟨some 169, .pick, [.slot 148, .lit (.bool true), .slot 168], none⟩])
        (.cond (.slot 169) (.seq (.reg [⟨some 6, .give, [.lit (.bool false)], none⟩])
         (.ret))
        (.skip))))))
      (.reg [⟨some 106, .mv, [.slot 16], none⟩,
       ⟨some 107, .bin .add, [.slot 16, .lit (.int .i64 1)], none⟩,
       ⟨some 16, .give, [.slot 107], none⟩]))))))
   (.seq (.seq (.reg [⟨some 21, .take, [.lit (.int .i64 0)], none⟩])
    (.block 6 (.loop (.seq (.seq (.reg [⟨some 170, .mv, [.slot 21], none⟩,
         ⟨some 171, .mv, [.slot 0], none⟩,
         ⟨some 172, .lenL, [.slot 0], none⟩,
         ⟨some 173, .bin .lss, [.slot 21, .slot 172], none⟩])
       (.cond (.slot 173) (.skip)
       (.exit 6)))
      (.seq (.block 7 (.seq (.reg [⟨some 22, .take, [.lit (.bool false)], none⟩])
        (.seq (.seq (.reg [⟨some 23, .take, [.lit (.int .i64 0)], none⟩])
         (.block 8 (.loop (.seq (.seq (.reg [⟨some 176, .mv, [.slot 23], none⟩,
              ⟨some 177, .mv, [.slot 10], none⟩,
              ⟨some 178, .lenL, [.slot 10], none⟩,
              ⟨some 179, .bin .lss, [.slot 23, .slot 178], none⟩])
            (.cond (.slot 179) (.skip)
            (.exit 8)))
           (.seq (.block 9 (.reg [⟨some 182, .mv, [.slot 22], none⟩,
       ⟨some 183, .mv, [.slot 182], none⟩,
       ⟨some 184, .mv, [.slot 10], some (183, false)⟩,
       ⟨some 185, .mv, [.slot 23], some (183, false)⟩,
       ⟨some 186, .idxA 1, [.slot 184, .slot 185], some (183, false)⟩,
       ⟨some 187, .load 1 false, [.slot 186], some (183, false)⟩,
       ⟨some 188, .mv, [.slot 0], some (183, false)⟩,
       ⟨some 189, .mv, [.slot 21], some (183, false)⟩,
       ⟨some 190, .idxA 5, [.slot 188, .slot 189], some (183, false)⟩,
       ⟨some 191, .fld 2, [.slot 190], some (183, false)⟩,
       ⟨some 192, .load 1 false, [.slot 191], some (183, false)⟩,
       ⟨some 193, .bin .eql, [.slot 187, .slot 192], some (183, false)⟩,
       ⟨some 194, .pick, [.slot 182, .lit (.bool true), .slot 193], none⟩,
       ⟨some 22, .give, [.slot 194], none⟩]))
           (.reg [⟨some 180, .mv, [.slot 23], none⟩,
            ⟨some 181, .bin .add, [.slot 23, .lit (.int .i64 1)], none⟩,
            ⟨some 23, .give, [.slot 181], none⟩]))))))
        (.seq (.seq (.reg [⟨some 196, .mv, [.slot 9], none⟩,
        ⟨some 197, .mv, [.slot 0], none⟩,
        ⟨some 198, .mv, [.slot 21], none⟩,
        ⟨some 199, .idxA 5, [.slot 0, .slot 21], none⟩,
        ⟨some 200, .fld 1, [.slot 199], none⟩,
        ⟨some 201, .load 1 false, [.slot 200], none⟩,
        ⟨some 202, .mv, [.slot 0], none⟩,
        ⟨some 203, .mv, [.slot 21], none⟩,
        ⟨some 204, .idxA 5, [.slot 0, .slot 21], none⟩,
        ⟨some 205, .fld 3, [.slot 204], none⟩,
        ⟨some 206, .load 1 false, [.slot 205], none⟩,
        ⟨some 207, .mv, [.slot 0], none⟩,
        ⟨some 208, .mv, [.slot 21], none⟩,
        ⟨some 209, .idxA 5, [.slot 0, .slot 21], none⟩,
        ⟨some 210, .fld 2, [.slot 209], none⟩,
        ⟨some 211, .load 1 false, [.slot 210], none⟩,
        ⟨some 212, .call 15, [.slot 196, .slot 201, .slot 206, .slot 211], none⟩,
        ⟨some 195, .mv, [.slot 212], none⟩])
      (.both (.reg [⟨some 213, .ext 0, [.slot 195], none⟩,
        ⟨some 214, .ext 1, [.slot 195], none⟩,
        ⟨some 24, .give, [.slot 213], none⟩,
        ⟨some 25, .give, [.slot 214], none⟩])
      (.both (.reg [⟨some 214, .ext 1, [.slot 195], none⟩,
        ⟨some 213, .ext 0, [.slot 195], none⟩,
        ⟨some 24, .give, [.slot 213], none⟩,
        ⟨some 25, .give, [.slot 214], none⟩])
      (.tt))))
        (.seq (.reg [⟨some 215, .mv, [.slot 22], none⟩,
          ⟨some 216, .un .not, [.slot 22], none⟩,
          ⟨some 217, .mv, [.slot 216], none⟩,
          ⟨some 218, .take, [.slot 25], some (217, true)⟩,
          ⟨some 219, .bin .neq, [.slot 218, .lit (.int .i64 7)], some (217, true)⟩,
          ⟨some 220, .pick, [.slot 216, .slot 219, .lit (.bool false)], none⟩,
          ⟨some 221, .mv, [.slot 220], none⟩,
          ⟨some 222, .take, [.slot 22], some (221, false)⟩,
          ⟨some 223, .take, [.slot 9], some (221, false)⟩,
          ⟨some 224, .take, [.slot 0], some (221, false)⟩,
          ⟨some 225, .take, [.slot 21], some (221, false)⟩,
          ⟨some 226, .idxB 5, [.slot 224, .slot 225], some (221, false)⟩,
          ⟨some 227, .fld 2, [.slot 226], some (221, false)⟩,
          ⟨some 228, .load 1 false, [.slot 227], some (221, false)⟩,
          ⟨some 229, .call 19, [.slot 223, .slot 228], some (221, false)⟩,
          ⟨some 230, .bin .gtr, [.slot 229, .lit (.int .i64 0)], some (221, false)⟩,
          ⟨some 231, .eqB true, [.slot 222, .slot 230], some (221, false)⟩,
          ⟨some 232, .pick, [.slot 220, .lit (.bool true), .slot 231], none⟩])
        (.cond (.slot 232) (.seq (.reg [⟨some 6, .give, [.lit (.bool false)], none⟩])
         (.ret))
        (.skip)))))))
      (.reg [⟨some 174, .mv, [.slot 21], none⟩,
       ⟨some 175, .bin .add, [.slot 21, .lit (.int .i64 1)], none⟩,
       ⟨some 21, .give, [.slot 175], none⟩]))))))
   (.seq (.reg [⟨some 233, .mv, [.slot 7], none⟩,
     ⟨some 234, .mv, [.slot 7], none⟩,
     ⟨some 235, .take, [.slot 9], some (234, true)⟩,
     ⟨some 236, .call 21, [.slot 235], some (234, true)⟩,
     ⟨some 237, .take, [.slot 10], some (234, true)⟩,
     ⟨some 238, .lenL, [.slot 237], some (234, true)⟩,
     ⟨some 239, .bin .eql, [.slot 236, .slot 238], some (234, true)⟩,
     ⟨some 240, .pick, [.slot 7, .slot 239, .lit (.bool false)], none⟩,
     ⟨some 6, .give, [.slot 240], none⟩])
   (.ret)))))))))))),
  241, [.tmp 6]⟩
theorem c4 : cFunc Proofs.Try.prog 4 = some sf4 := by kernel_rfl
/-- carpetbag/carpetbaglaw07.VaultBlind -/
def sf5 : SF := ⟨(.seq (.reg [⟨some 6, .give, [.lit (.bool false)], none⟩])
   (.seq (.reg [⟨some 18, .call 10, [], none⟩,
     ⟨some 7, .give, [.slot 18], none⟩])
   (.seq (.reg [⟨some 19, .mv, [.slot 0], none⟩,
     ⟨some 20, .call 11, [.slot 0], none⟩,
     ⟨some 8, .give, [.slot 20], none⟩])
   (.seq (.reg [⟨some 21, .call 12, [], none⟩,
     ⟨some 9, .give, [.slot 21], none⟩])
   (.seq (.reg [⟨some 22, .call 12, [], none⟩,
     ⟨some 10, .give, [.slot 22], none⟩])
   (.seq (.seq (.reg [⟨some 23, .mv, [.slot 9], none⟩,
      ⟨some 24, .eqN .p false, [.slot 9, .lit (.nilP)], none⟩,
      ⟨some 25, .mv, [.slot 24], none⟩,
      ⟨some 26, .take, [.slot 10], some (25, false)⟩,
      ⟨some 27, .eqN .p false, [.slot 26, .lit (.nilP)], some (25, false)⟩,
      ⟨some 28, .pick, [.slot 24, .lit (.bool true), .slot 27], none⟩,
      ⟨some 29, .mv, [.slot 28], none⟩,
      ⟨some 30, .take, [.slot 8], some (29, false)⟩,
      ⟨some 31, .un .not, [.slot 30], some (29, false)⟩,
      ⟨some 32, .pick, [.slot 28, .lit (.bool true), .slot 31], none⟩])
    (.cond (.slot 32) (.seq (.reg [⟨some 33, .mv, [.slot 7], none⟩,
       ⟨some 34, .mv, [.slot 7], none⟩,
       ⟨some 35, .take, [.slot 9], some (34, true)⟩,
       ⟨some 36, .eqN .p true, [.slot 35, .lit (.nilP)], some (34, true)⟩,
       ⟨some 37, .pick, [.slot 7, .slot 36, .lit (.bool false)], none⟩,
       ⟨some 38, .mv, [.slot 37], none⟩,
       ⟨some 39, .take, [.slot 10], some (38, true)⟩,
       ⟨some 40, .eqN .p true, [.slot 39, .lit (.nilP)], some (38, true)⟩,
       ⟨some 41, .pick, [.slot 37, .slot 40, .lit (.bool false)], none⟩,
       ⟨some 6, .give, [.slot 41], none⟩])
     (.ret))
    (.skip)))
   (.seq (.seq (.reg [⟨some 11, .take, [.lit (.int .i64 0)], none⟩])
    (.block 0 (.loop (.seq (.seq (.reg [⟨some 42, .mv, [.slot 11], none⟩,
         ⟨some 43, .mv, [.slot 0], none⟩,
         ⟨some 44, .lenL, [.slot 0], none⟩,
         ⟨some 45, .bin .lss, [.slot 11, .slot 44], none⟩])
       (.cond (.slot 45) (.skip)
       (.exit 0)))
      (.seq (.block 1 (.seq (.reg [⟨some 48, .mv, [.slot 0], none⟩,
          ⟨some 49, .mv, [.slot 11], none⟩,
          ⟨some 50, .idxB 5, [.slot 0, .slot 11], none⟩,
          ⟨some 51, .fld 4, [.slot 50], none⟩,
          ⟨some 52, .load 1 false, [.slot 51], none⟩,
          ⟨some 53, .s2b, [.slot 52], none⟩,
          ⟨some 12, .giveO, [.slot 53], none⟩])
        (.seq (.seq (.reg [⟨some 13, .take, [.lit (.int .i64 0)], none⟩])
         (.block 2 (.loop (.seq (.seq (.reg [⟨some 54, .mv, [.slot 13], none⟩,
              ⟨some 55, .mv, [.slot 12], none⟩,
              ⟨some 56, .lenL, [.slot 12], none⟩,
              ⟨some 57, .bin .lss, [.slot 13, .slot 56], none⟩])
            (.cond (.slot 57) (.skip)
            (.exit 2)))
           (.seq (.block 3 (.reg [⟨some 60, .mv, [.slot 12], none⟩,
              ⟨some 61, .mv, [.slot 13], none⟩,
              ⟨some 62, .mv, [.slot 12], none⟩,
              ⟨some 63, .mv, [.slot 13], none⟩,
              ⟨some 64, .idxB 1, [.slot 12, .slot 13], none⟩,
              ⟨some 65, .load 1 false, [.slot 64], none⟩,
              ⟨some 66, .mv, [.slot 2], none⟩,
              ⟨some 67, .bin .xor, [.slot 65, .slot 2], none⟩,
              ⟨some 68, .idxB 1, [.slot 12, .slot 13], none⟩,
              ⟨none, .store 1 true, [.slot 68, .slot 67], none⟩]))
           (.reg [⟨some 58, .mv, [.slot 13], none⟩,
            ⟨some 59, .bin .add, [.slot 13, .lit (.int .i64 1)], none⟩,
            ⟨some 13, .give, [.slot 59], none⟩]))))))
        (.seq (.seq (.reg [⟨some 70, .mv, [.slot 9], none⟩,
        ⟨some 71, .mv, [.slot 0], none⟩,
        ⟨some 72, .mv, [.slot 11], none⟩,
        ⟨some 73, .idxA 5, [.slot 0, .slot 11], none⟩,
        ⟨some 74, .fld 1, [.slot 73], none⟩,
        ⟨some 75, .load 1 false, [.slot 74], none⟩,
        ⟨some 76, .mv, [.slot 0], none⟩,
        ⟨some 77, .mv, [.slot 11], none⟩,
        ⟨some 78, .idxA 5, [.slot 0, .slot 11], none⟩,
        ⟨some 79, .fld 3, [.slot 78], none⟩,
        ⟨some 80, .load 1 false, [.slot 79], none⟩,
        ⟨some 81, .mv, [.slot 0], none⟩,
        ⟨some 82, .mv, [.slot 11], none⟩,
        ⟨some 83, .idxA 5, [.slot 0, .slot 11], none⟩,
        ⟨some 84, .fld 4, [.slot 83], none⟩,
        ⟨some 85, .load 1 false, [.slot 84], none⟩,
        ⟨some 86, .mv, [.slot 0], none⟩,
        ⟨some 87, .mv, [.slot 11], none⟩,
        ⟨some 88, .idxA 5, [.slot 0, .slot 11], none⟩,
        ⟨some 89, .fld 2, [.slot 88], none⟩,
        ⟨some 90, .load 1 false, [.slot 89], none⟩,
        ⟨some 91, .call 13, [.slot 70, .slot 75, .slot 80, .slot 85, .slot 90], none⟩,
        ⟨some 69, .mv, [.slot 91], none⟩])
      (.both (.reg [⟨some 92, .ext 0, [.slot 69], none⟩,
        ⟨some 93, .ext 1, [.slot 69], none⟩,
        ⟨some 14, .give, [.slot 92], none⟩,
        ⟨some 15, .give, [.slot 93], none⟩])
      (.both (.reg [⟨some 93, .ext 1, [.slot 69], none⟩,
        ⟨some 92, .ext 0, [.slot 69], none⟩,
        ⟨some 14, .give, [.slot 92], none⟩,
        ⟨some 15, .give, [.slot 93], none⟩])
      (.tt))))
        (.seq (.seq (.reg [⟨some 95, .mv, [.slot 10], none⟩,
        ⟨some 96, .mv, [.slot 0], none⟩,
        ⟨some 97, .mv, [.slot 11], none⟩,
        ⟨some 98, .idxA 5, [.slot 0, .slot 11], none⟩,
        ⟨some 99, .fld 1, [.slot 98], none⟩,
        ⟨some 100, .load 1 false, [.slot 99], none⟩,
        ⟨some 101, .mv, [.slot 1], none⟩,
        ⟨some 102, .bin .xor, [.slot 100, .slot 1], none⟩,
        ⟨some 103, .mv, [.slot 0], none⟩,
        ⟨some 104, .mv, [.slot 11], none⟩,
        ⟨some 105, .idxA 5, [.slot 0, .slot 11], none⟩,
        ⟨some 106, .fld 3, [.slot 105], none⟩,
        ⟨some 107, .load 1 false, [.slot 106], none⟩,
        ⟨some 108, .bin .add, [.slot 107, .lit (.str [120])], none⟩,
        ⟨some 109, .mv, [.slot 12], none⟩,
        ⟨some 110, .b2s, [.slot 12], none⟩,
        ⟨some 111, .mv, [.slot 0], none⟩,
        ⟨some 112, .mv, [.slot 11], none⟩,
        ⟨some 113, .idxA 5, [.slot 0, .slot 11], none⟩,
        ⟨some 114, .fld 2, [.slot 113], none⟩,
        ⟨some 115, .load 1 false, [.slot 114], none⟩,
        ⟨some 116, .call 13, [.slot 95, .slot 102, .slot 108, .slot 110, .slot 115], none⟩,
        ⟨some 94, .mv, [.slot 116], none⟩])
      (.both (.reg [⟨some 117, .ext 0, [.slot 94], none⟩,
        ⟨some 118, .ext 1, [.slot 94], none⟩,
        ⟨some 16, .give, [.slot 117], none⟩,
        ⟨some 17, .give, [.slot 118], none⟩])
      (.both (.reg [⟨some 118, .ext 1, [.slot 94], none⟩,
        ⟨some 117, .ext 0, [.slot 94], none⟩,
        ⟨some 16, .give, [.slot 117], none⟩,
        ⟨some 17, .give, [.slot 118], none⟩])
      (.tt))))
        (.seq (.reg [⟨some 119, .mv, [.slot 14], none⟩,
          ⟨some 120, .mv, [.slot 16], none⟩,
          ⟨some 121, .bin .neq, [.slot 14, .slot 16], none⟩,
          ⟨some 122, .mv, [.slot 121], none⟩,
          ⟨some 123, .take, [.slot 15], some (122, false)⟩,
          ⟨some 124, .take, [.slot 17], some (122, false)⟩,
          ⟨some 125, .bin .neq, [.slot 123, .slot 124], some (122, false)⟩,
          ⟨some 126, .pick, [.slot 121, .lit (.bool true), .slot 125], none⟩,
          ⟨some 127, .mv, [.slot 126], none⟩,
          ⟨some 128, .take, [.slot 9], some (127, false)⟩,
          ⟨some 129, .take, [.slot 14], some (127, false)⟩,
          ⟨some 130, .call 19, [.slot 128, .slot 129], some (127, false)⟩,
          ⟨some 131, .take, [.slot 10], some (127, false)⟩,
          ⟨some 132, .take, [.slot 16], some (127, false)⟩,
          ⟨some 133, .call 19, [.slot 131, .slot 132], some (127, false)⟩,
          ⟨some 134, .bin .neq, [.slot 130, .slot 133], some (127, false)⟩,
          ⟨some 135, .pick, [.slot 126, .lit (.bool true), .slot 134], none⟩])
        (.cond (.slot 135) (.seq (.reg [⟨some 6, .give, [.lit (.bool false)], none⟩])
         (.ret))
        (.skip))))))))
      (.reg [⟨some 46, .mv, [.slot 11], none⟩,
       ⟨some 47, .bin .add, [.slot 11, .lit (.int .i64 1)], none⟩,
       ⟨some 11, .give, [.slot 47], none⟩]))))))
   (.seq (.reg [⟨some 136, .mv, [.slot 7], none⟩,
     ⟨some 6, .give, [.slot 7], none⟩])
   (.ret))))))))),
  137, [.tmp 6]⟩
theorem c5 : cFunc Proofs.Try.prog 5 = some sf5 := by kernel_rfl
/-- carpetbag/carpetbaglaw07.VaultNames -/
def sf6 : SF := ⟨(.seq (.reg [⟨some 6, .give, [.lit (.bool false)], none⟩])
   (.seq (.reg [⟨some 18, .call 10, [], none⟩,
     ⟨some 7, .give, [.slot 18], none⟩])
   (.seq (.reg [⟨some 19, .mv, [.slot 0], none⟩,
     ⟨some 20, .call 11, [.slot 0], none⟩,
     ⟨some 8, .give, [.slot 20], none⟩])
   (.seq (.reg [⟨some 21, .call 12, [], none⟩,
     ⟨some 9, .give, [.slot 21], none⟩])
   (.seq (.reg [⟨some 22, .call 12, [], none⟩,
     ⟨some 10, .give, [.slot 22], none⟩])
   (.seq (.seq (.reg [⟨some 23, .mv, [.slot 9], none⟩,
      ⟨some 24, .eqN .p false, [.slot 9, .lit (.nilP)], none⟩,
      ⟨some 25, .mv, [.slot 24], none⟩,
      ⟨some 26, .take, [.slot 10], some (25, false)⟩,
      ⟨some 27, .eqN .p false, [.slot 26, .lit (.nilP)], some (25, false)⟩,
      ⟨some 28, .pick, [.slot 24, .lit (.bool true), .slot 27], none⟩,
      ⟨some 29, .mv, [.slot 28], none⟩,
      ⟨some 30, .take, [.slot 8], some (29, false)⟩,
      ⟨some 31, .un .not, [.slot 30], some (29, false)⟩,
      ⟨some 32, .pick, [.slot 28, .lit (.bool true), .slot 31], none⟩,
      ⟨some 33, .mv, [.slot 32], none⟩,
      ⟨some 34, .take, [.slot 2], some (33, false)⟩,
      ⟨some 35, .lenS, [.slot 34], some (33, false)⟩,
      ⟨some 36, .bin .gtr, [.slot 35, .lit (.int .i64 100)], some (33, false)⟩,
      ⟨some 37, .pick, [.slot 32, .lit (.bool true), .slot 36], none⟩])
    (.cond (.slot 37) (.seq (.reg [⟨some 38, .mv, [.slot 7], none⟩,
       ⟨some 39, .mv, [.slot 7], none⟩,
       ⟨some 40, .take, [.slot 9], some (39, true)⟩,
       ⟨some 41, .eqN .p true, [.slot 40, .lit (.nilP)], some (39, true)⟩,
       ⟨some 42, .pick, [.slot 7, .slot 41, .lit (.bool false)], none⟩,
       ⟨some 43, .mv, [.slot 42], none⟩,
       ⟨some 44, .take, [.slot 10], some (43, true)⟩,
       ⟨some 45, .eqN .p true, [.slot 44, .lit (.nilP)], some (43, true)⟩,
       ⟨some 46, .pick, [.slot 42, .slot 45, .lit (.bool false)], none⟩,
       ⟨some 6, .give, [.slot 46], none⟩])
     (.ret))
    (.skip)))
   (.seq (.reg [⟨some 11, .take, [.lit (.nilS)], none⟩])
   (.seq (.seq (.reg [⟨some 12, .take, [.lit (.int .i64 0)], none⟩])
    (.block 0 (.loop (.seq (.seq (.reg [⟨some 47, .mv, [.slot 12], none⟩,
         ⟨some 48, .mv, [.slot 0], none⟩,
         ⟨some 49, .lenL, [.slot 0], none⟩,
         ⟨some 50, .bin .lss, [.slot 12, .slot 49], none⟩])
       (.cond (.slot 50) (.skip)
       (.exit 0)))
      (.seq (.block 1 (.seq (.seq (.reg [⟨some 54, .mv, [.slot 9], none⟩,
        ⟨some 55, .mv, [.slot 0], none⟩,
        ⟨some 56, .mv, [.slot 12], none⟩,
        ⟨some 57, .idxA 5, [.slot 0, .slot 12], none⟩,
        ⟨some 58, .fld 1, [.slot 57], none⟩,
        ⟨some 59, .load 1 false, [.slot 58], none⟩,
        ⟨some 60, .mv, [.slot 0], none⟩,
        ⟨some 61, .mv, [.slot 12], none⟩,
        ⟨some 62, .idxA 5, [.slot 0, .slot 12], none⟩,
        ⟨some 63, .fld 3, [.slot 62], none⟩,
        ⟨some 64, .load 1 false, [.slot 63], none⟩,
        ⟨some 65, .mv, [.slot 0], none⟩,
        ⟨some 66, .mv, [.slot 12], none⟩,
        ⟨some 67, .idxA 5, [.slot 0, .slot 12], none⟩,
        ⟨some 68, .fld 2, [.slot 67], none⟩,
        ⟨some 69, .load 1 false, [.slot 68], none⟩,
        ⟨some 70, .call 17, [.slot 54, .slot 59, .slot 64, .slot 69], none⟩,
        ⟨some 53, .mv, [.slot 70], none⟩])
      (.both (.reg [⟨some 71, .ext 0, [.slot 53], none⟩,
        ⟨some 72, .ext 1, [.slot 53], none⟩,
        ⟨some 13, .give, [.slot 71], none⟩,
        ⟨some 14, .give, [.slot 72], none⟩])
      (.both (.reg [⟨some 72, .ext 1, [.slot 53], none⟩,
        ⟨some 71, .ext 0, [.slot 53], none⟩,
        ⟨some 13, .give, [.slot 71], none⟩,
        ⟨some 14, .give, [.slot 72], none⟩])
      (.tt))))
        (.seq (.seq (.reg [⟨some 74, .mv, [.slot 10], none⟩,
        ⟨some 75, .mv, [.slot 0], none⟩,
        ⟨some 76, .mv, [.slot 12], none⟩,
        ⟨some 77, .idxA 5, [.slot 0, .slot 12], none⟩,
        ⟨some 78, .fld 1, [.slot 77], none⟩,
        ⟨some 79, .load 1 false, [.slot 78], none⟩,
        ⟨some 80, .mv, [.slot 1], none⟩,
        ⟨some 81, .bin .xor, [.slot 79, .slot 1], none⟩,
        ⟨some 82, .mv, [.slot 2], none⟩,
        ⟨some 83, .mv, [.slot 0], none⟩,
        ⟨some 84, .mv, [.slot 12], none⟩,
        ⟨some 85, .idxA 5, [.slot 0, .slot 12], none⟩,
        ⟨some 86, .fld 3, [.slot 85], none⟩,
        ⟨some 87, .load 1 false, [.slot 86], none⟩,
        ⟨some 88, .bin .add, [.slot 2, .slot 87], none⟩,
        ⟨some 89, .mv, [.slot 0], none⟩,
        ⟨some 90, .mv, [.slot 12], none⟩,
        ⟨some 91, .idxA 5, [.slot 0, .slot 12], none⟩,
        ⟨some 92, .fld 2, [.slot 91], none⟩,
        ⟨some 93, .load 1 false, [.slot 92], none⟩,
        ⟨some 94, .call 17, [.slot 74, .slot 81, .slot 88, .slot 93], none⟩,
        ⟨some 73, .mv, [.slot 94], none⟩])
      (.both (.reg [⟨some 95, .ext 0, [.slot 73], none⟩,
        ⟨some 96, .ext 1, [.slot 73], none⟩,
        ⟨some 15, .give, [.slot 95], none⟩,
        ⟨some 16, .give, [.slot 96], none⟩])
      (.both (.reg [⟨some 96, .ext 1, [.slot 73], none⟩,
        ⟨some 95, .ext 0, [.slot 73], none⟩,
        ⟨some 15, .give, [.slot 95], none⟩,
        ⟨some 16, .give, [.slot 96], none⟩])
      (.tt))))
        (.seq (.seq (.reg [⟨some 97, .mv, [.slot 14], none⟩,
           ⟨some 98, .bin .neq, [.slot 14, .lit (.int .i64 0)], none⟩,
           ⟨some 99, .mv, [.slot 98], none⟩,
           ⟨some 100, .take, [.slot 16], some (99, false)⟩,
           ⟨some 101, .bin .neq, [.slot 100, .lit (.int .i64 0)], some (99, false)⟩,
           ⟨some 102, .pick, [.slot 98, .lit (.bool true), .slot 101], none⟩,
           ⟨some 103, .mv, [.slot 102], none⟩,
           ⟨some 104, .take, [.slot 13], some (103, false)⟩,
           ⟨some 105, .take, [.slot 15], some (103, false)⟩,
           ⟨some 106, .bin .neq, [.slot 104, .slot 105], some (103, false)⟩,
           ⟨some 107, .pick, [.slot 102, .lit (.bool true), .slot 106], none⟩])
         (.cond (.slot 107) (.seq (.reg [⟨some 6, .give, [.lit (.bool false)], none⟩])
          (.ret))
         (.skip)))
        (.seq (.seq (.reg [⟨some 17, .take, [.lit (.int .i64 0)], none⟩])
         (.block 2 (.loop (.seq (.seq (.reg [⟨some 108, .mv, [.slot 17], none⟩,
              ⟨some 109, .mv, [.slot 12], none⟩,
              ⟨some 110, .bin .lss, [.slot 17, .slot 12], none⟩])
            (.cond (.slot 110) (.skip)
            (.exit 2)))
           (.seq (.block 3 (.seq (.reg [⟨some 113, .mv, [.slot 11], none⟩,
       ⟨some 114, .mv, [.slot 17], none⟩,
       ⟨some 115, .idxA 1, [.slot 11, .slot 17], none⟩,
       ⟨some 116, .load 1 false, [.slot 115], none⟩,
       ⟨some 117, .mv, [.slot 13], none⟩,
       ⟨some 118, .bin .eql, [.slot 116, .slot 13], none⟩,
       ⟨some 119, .mv, [.slot 0], none⟩,
       ⟨some 120, .mv, [.slot 17], none⟩,
       ⟨some 121, .idxA 5, [.slot 0, .slot 17], none⟩,
       ⟨some 122, .fld 1, [.slot 121], none⟩,
       ⟨some 123, .load 1 false, [.slot 122], none⟩,
       ⟨some 124, .mv, [.slot 0], none⟩,
       ⟨some 125, .mv, [.slot 12], none⟩,
       ⟨some 126, .idxA 5, [.slot 0, .slot 12], none⟩,
       ⟨some 127, .fld 1, [.slot 126], none⟩,
       ⟨some 128, .load 1 false, [.slot 127], none⟩,
       ⟨some 129, .bin .eql, [.slot 123, .slot 128], none⟩,
       ⟨some 130, .mv, [.slot 129], none⟩,
       ⟨some 131, .mv, [.slot 0], some (130, true)⟩,
       ⟨some 132, .mv, [.slot 17], some (130, true)⟩,
       ⟨some 133, .idxA 5, [.slot 131, .slot 132], some (130, true)⟩,
       ⟨some 134, .fld 3, [.slot 133], some (130, true)⟩,
       ⟨some 135, .load 1 false, [.slot 134], some (130, true)⟩,
       ⟨some 136, .mv, [.slot 0], some (130, true)⟩,
       ⟨some 137, .mv, [.slot 12], some (130, true)⟩,
       ⟨some 138, .idxA 5, [.slot 136, .slot 137], some (130, true)⟩,
       ⟨some 139, .fld 3, [.slot 138], some (130, true)⟩,
       ⟨some 140, .load 1 false, [.slot 139], some (130, true)⟩,
       ⟨some 141, .bin .eql, [.slot 135, .slot 140], some (130, true)⟩,
       ⟨some 142, .pick, [.slot 129, .slot 141, .lit (.bool false)], none⟩,
       ⟨some 143, .eqB true, [.slot 118, .slot 142], none⟩])
             (.cond (.slot 143) (.seq (.reg [⟨some 6, .give, [.lit (.bool false)], none⟩])
              (.ret))
             (.skip))))
           (.reg [⟨some 111, .mv, [.slot 17], none⟩,
            ⟨some 112, .bin .add, [.slot 17, .lit (.int .i64 1)], none⟩,
            ⟨some 17, .give, [.slot 112], none⟩]))))))
        (.reg [⟨some 144, .mv, [.slot 11], none⟩,
         ⟨some 145, .mv, [.slot 13], none⟩,
         ⟨some 146, .bsl 1 1 [.int .i64 0] [0], [.slot 13], none⟩,
         ⟨some 147, .app 1 8 [.int .i64 0], [.slot 11, .slot 146], none⟩,
         ⟨some 11, .giveP, [.slot 147], none⟩]))))))
      (.reg [⟨some 51, .mv, [.slot 12], none⟩,
       ⟨some 52, .bin .add, [.slot 12, .lit (.int .i64 1)], none⟩,
       ⟨some 12, .give, [.slot 52], none⟩]))))))
   (.seq (.reg [⟨some 148, .mv, [.slot 7], none⟩,
     ⟨some 6, .give, [.slot 7], none⟩])
   (.ret)))))))))),
  149, [.tmp 6]⟩
theorem c6 : cFunc Proofs.Try.prog 6 = some sf6 := by kernel_rfl
/-- carpetbag/carpetbaglaw07.VaultKeeps -/
def sf7 : SF := ⟨(.seq (.reg [⟨some 2, .box, [.slot 0], none⟩,
     ⟨some 4, .give, [.lit (.bool false)], none⟩])
   (.seq (.reg [⟨some 18, .call 10, [], none⟩,
     ⟨some 5, .give, [.slot 18], none⟩])
   (.seq (.reg [⟨some 19, .bsl 5 0 [.int .i64 0, .int .i64 0, .int .i64 0, .str [], .str []] [], [], none⟩,
       ⟨some 20, .mv, [.slot 1], none⟩,
       ⟨some 21, .app 5 56 [.int .i64 0, .int .i64 0, .int .i64 0, .str [], .str []], [.slot 19, .slot 20], none⟩,
       ⟨some 22, .load 5 true, [.slot 2], none⟩,
       ⟨some 23, .bsl 5 1 [.int .i64 0, .int .i64 0, .int .i64 0, .str [], .str []] [0], [.slot 22], none⟩,
       ⟨some 24, .app 5 56 [.int .i64 0, .int .i64 0, .int .i64 0, .str [], .str []], [.slot 21, .slot 23], none⟩,
       ⟨some 25, .call 11, [.slot 24], none⟩,
       ⟨some 6, .give, [.slot 25], none⟩])
   (.seq (.reg [⟨some 26, .call 12, [], none⟩,
     ⟨some 7, .give, [.slot 26], none⟩])
   (.seq (.seq (.reg [⟨some 27, .mv, [.slot 7], none⟩,
      ⟨some 28, .eqN .p false, [.slot 7, .lit (.nilP)], none⟩,
      ⟨some 29, .mv, [.slot 28], none⟩,
      ⟨some 30, .take, [.slot 6], some (29, false)⟩,
      ⟨some 31, .un .not, [.slot 30], some (29, false)⟩,
      ⟨some 32, .pick, [.slot 28, .lit (.bool true), .slot 31], none⟩])
    (.cond (.slot 32) (.seq (.reg [⟨some 33, .mv, [.slot 5], none⟩,
       ⟨some 34, .mv, [.slot 5], none⟩,
       ⟨some 35, .take, [.slot 7], some (34, true)⟩,
       ⟨some 36, .eqN .p true, [.slot 35, .lit (.nilP)], some (34, true)⟩,
       ⟨some 37, .pick, [.slot 5, .slot 36, .lit (.bool false)], none⟩,
       ⟨some 4, .give, [.slot 37], none⟩])
     (.ret))
    (.skip)))
   (.seq (.reg [⟨some 39, .mv, [.slot 7], none⟩,
     ⟨some 40, .fld 1, [.slot 2], none⟩,
     ⟨some 41, .load 1 false, [.slot 40], none⟩,
     ⟨some 42, .fld 3, [.slot 2], none⟩,
     ⟨some 43, .load 1 false, [.slot 42], none⟩,
     ⟨some 44, .fld 4, [.slot 2], none⟩,
     ⟨some 45, .load 1 false, [.slot 44], none⟩,
     ⟨some 46, .fld 2, [.slot 2], none⟩,
     ⟨some 47, .load 1 false, [.slot 46], none⟩,
     ⟨some 48, .call 13, [.slot 7, .slot 41, .slot 43, .slot 45, .slot 47], none⟩,
     ⟨some 38, .mv, [.slot 48], none⟩,
     ⟨some 49, .ext 0, [.slot 48], none⟩,
     ⟨some 50, .ext 1, [.slot 48], none⟩,
     ⟨some 8, .give, [.slot 49], none⟩,
     ⟨some 9, .give, [.slot 50], none⟩])
   (.seq (.reg [⟨some 52, .mv, [.slot 7], none⟩,
     ⟨some 53, .fld 1, [.slot 2], none⟩,
     ⟨some 54, .load 1 false, [.slot 53], none⟩,
     ⟨some 55, .fld 3, [.slot 2], none⟩,
     ⟨some 56, .load 1 false, [.slot 55], none⟩,
     ⟨some 57, .fld 2, [.slot 2], none⟩,
     ⟨some 58, .load 1 false, [.slot 57], none⟩,
     ⟨some 59, .call 17, [.slot 7, .slot 54, .slot 56, .slot 58], none⟩,
     ⟨some 51, .mv, [.slot 59], none⟩,
     ⟨some 60, .ext 0, [.slot 59], none⟩,
     ⟨some 61, .ext 1, [.slot 59], none⟩,
     ⟨some 10, .give, [.slot 60], none⟩,
     ⟨some 11, .give, [.slot 61], none⟩])
   (.seq (.reg [⟨some 62, .mv, [.slot 7], none⟩,
     ⟨some 63, .mv, [.slot 8], none⟩,
     ⟨some 64, .call 19, [.slot 7, .slot 8], none⟩,
     ⟨some 12, .give, [.slot 64], none⟩])
   (.seq (.seq (.reg [⟨some 13, .take, [.lit (.int .i64 0)], none⟩])
    (.block 0 (.loop (.seq (.seq (.reg [⟨some 65, .mv, [.slot 13], none⟩,
         ⟨some 66, .mv, [.slot 1], none⟩,
         ⟨some 67, .lenL, [.slot 1], none⟩,
         ⟨some 68, .bin .lss, [.slot 13, .slot 67], none⟩])
       (.cond (.slot 68) (.skip)
       (.exit 0)))
      (.seq (.block 1 (.seq (.reg [⟨some 71, .mv, [.slot 1], none⟩,
          ⟨some 72, .mv, [.slot 13], none⟩,
          ⟨some 73, .idxB 5, [.slot 1, .slot 13], none⟩,
          ⟨some 74, .fld 0, [.slot 73], none⟩,
          ⟨some 75, .load 1 false, [.slot 74], none⟩,
          ⟨some 76, .bin .and, [.slot 75, .lit (.int .i64 3)], none⟩])
        (.block 2 (.seq (.seq (.reg [⟨some 78, .bin .eql, [.slot 76, .lit (.int .i64 0)], none⟩,
            ⟨some 77, .give, [.slot 78], none⟩])
          (.cond (.slot 77) (.skip)
          (.reg [⟨some 79, .bin .eql, [.slot 76, .lit (.int .i64 3)], none⟩,
            ⟨some 77, .give, [.slot 79], none⟩])))
         (.cond (.slot 77) (.reg [⟨some 80, .mv, [.slot 7], none⟩,
       ⟨some 81, .mv, [.slot 1], none⟩,
       ⟨some 82, .mv, [.slot 13], none⟩,
       ⟨some 83, .idxA 5, [.slot 1, .slot 13], none⟩,
       ⟨some 84, .fld 1, [.slot 83], none⟩,
       ⟨some 85, .load 1 false, [.slot 84], none⟩,
       ⟨some 86, .mv, [.slot 1], none⟩,
       ⟨some 87, .mv, [.slot 13], none⟩,
       ⟨some 88, .idxA 5, [.slot 1, .slot 13], none⟩,
       ⟨some 89, .fld 3, [.slot 88], none⟩,
       ⟨some 90, .load 1 false, [.slot 89], none⟩,
       ⟨some 91, .mv, [.slot 1], none⟩,
       ⟨some 92, .mv, [.slot 13], none⟩,
       ⟨some 93, .idxA 5, [.slot 1, .slot 13], none⟩,
       ⟨some 94, .fld 4, [.slot 93], none⟩,
       ⟨some 95, .load 1 false, [.slot 94], none⟩,
       ⟨some 96, .mv, [.slot 1], none⟩,
       ⟨some 97, .mv, [.slot 13], none⟩,
       ⟨some 98, .idxA 5, [.slot 1, .slot 13], none⟩,
       ⟨some 99, .fld 2, [.slot 98], none⟩,
       ⟨some 100, .load 1 false, [.slot 99], none⟩,
       ⟨some 101, .call 13, [.slot 80, .slot 85, .slot 90, .slot 95, .slot 100], none⟩])
         (.seq (.reg [⟨some 103, .bin .eql, [.slot 76, .lit (.int .i64 1)], none⟩,
            ⟨some 102, .give, [.slot 103], none⟩])
          (.cond (.slot 102) (.reg [⟨some 104, .mv, [.slot 7], none⟩,
       ⟨some 105, .mv, [.slot 1], none⟩,
       ⟨some 106, .mv, [.slot 13], none⟩,
       ⟨some 107, .idxA 5, [.slot 1, .slot 13], none⟩,
       ⟨some 108, .fld 1, [.slot 107], none⟩,
       ⟨some 109, .load 1 false, [.slot 108], none⟩,
       ⟨some 110, .mv, [.slot 1], none⟩,
       ⟨some 111, .mv, [.slot 13], none⟩,
       ⟨some 112, .idxA 5, [.slot 1, .slot 13], none⟩,
       ⟨some 113, .fld 3, [.slot 112], none⟩,
       ⟨some 114, .load 1 false, [.slot 113], none⟩,
       ⟨some 115, .mv, [.slot 1], none⟩,
       ⟨some 116, .mv, [.slot 13], none⟩,
       ⟨some 117, .idxA 5, [.slot 1, .slot 13], none⟩,
       ⟨some 118, .fld 2, [.slot 117], none⟩,
       ⟨some 119, .load 1 false, [.slot 118], none⟩,
       ⟨some 120, .call 15, [.slot 104, .slot 109, .slot 114, .slot 119], none⟩])
          (.seq (.reg [⟨some 122, .bin .eql, [.slot 76, .lit (.int .i64 2)], none⟩,
             ⟨some 121, .give, [.slot 122], none⟩])
           (.cond (.slot 121) (.reg [⟨some 123, .mv, [.slot 7], none⟩,
       ⟨some 124, .mv, [.slot 1], none⟩,
       ⟨some 125, .mv, [.slot 13], none⟩,
       ⟨some 126, .idxA 5, [.slot 1, .slot 13], none⟩,
       ⟨some 127, .fld 1, [.slot 126], none⟩,
       ⟨some 128, .load 1 false, [.slot 127], none⟩,
       ⟨some 129, .mv, [.slot 1], none⟩,
       ⟨some 130, .mv, [.slot 13], none⟩,
       ⟨some 131, .idxA 5, [.slot 1, .slot 13], none⟩,
       ⟨some 132, .fld 3, [.slot 131], none⟩,
       ⟨some 133, .load 1 false, [.slot 132], none⟩,
       ⟨some 134, .mv, [.slot 1], none⟩,
       ⟨some 135, .mv, [.slot 13], none⟩,
       ⟨some 136, .idxA 5, [.slot 1, .slot 13], none⟩,
       ⟨some 137, .fld 2, [.slot 136], none⟩,
       ⟨some 138, .load 1 false, [.slot 137], none⟩,
       ⟨some 139, .call 17, [.slot 123, .slot 128, .slot 133, .slot 138], none⟩])
           (.skip))))))))))
      (.reg [⟨some 69, .mv, [.slot 13], none⟩,
       ⟨some 70, .bin .add, [.slot 13, .lit (.int .i64 1)], none⟩,
       ⟨some 13, .give, [.slot 70], none⟩]))))))
   (.seq (.reg [⟨some 141, .mv, [.slot 7], none⟩,
     ⟨some 142, .fld 1, [.slot 2], none⟩,
     ⟨some 143, .load 1 false, [.slot 142], none⟩,
     ⟨some 144, .fld 3, [.slot 2], none⟩,
     ⟨some 145, .load 1 false, [.slot 144], none⟩,
     ⟨some 146, .fld 2, [.slot 2], none⟩,
     ⟨some 147, .load 1 false, [.slot 146], none⟩,
     ⟨some 148, .bin .add, [.slot 147, .lit (.int .i64 1)], none⟩,
     ⟨some 149, .call 17, [.slot 7, .slot 143, .slot 145, .slot 148], none⟩,
     ⟨some 140, .mv, [.slot 149], none⟩,
     ⟨some 150, .ext 0, [.slot 149], none⟩,
     ⟨some 151, .ext 1, [.slot 149], none⟩,
     ⟨some 14, .give, [.slot 150], none⟩,
     ⟨some 15, .give, [.slot 151], none⟩])
   (.seq (.seq (.reg [⟨some 152, .mv, [.slot 11], none⟩,
      ⟨some 153, .bin .neq, [.slot 11, .lit (.int .i64 0)], none⟩,
      ⟨some 154, .mv, [.slot 153], none⟩,
      ⟨some 155, .take, [.slot 15], some (154, false)⟩,
      ⟨some 156, .bin .neq, [.slot 155, .lit (.int .i64 0)], some (154, false)⟩,
      ⟨some 157, .pick, [.slot 153, .lit (.bool true), .slot 156], none⟩,
      ⟨some 158, .mv, [.slot 157], none⟩,
      ⟨some 159, .take, [.slot 14], some (158, false)⟩,
      ⟨some 160, .take, [.slot 10], some (158, false)⟩,
      ⟨some 161, .bin .neq, [.slot 159, .slot 160], some (158, false)⟩,
      ⟨some 162, .pick, [.slot 157, .lit (.bool true), .slot 161], none⟩])
    (.cond (.slot 162) (.seq (.reg [⟨some 4, .give, [.lit (.bool false)], none⟩])
     (.ret))
    (.skip)))
   (.seq (.seq (.reg [⟨some 163, .mv, [.slot 9], none⟩,
      ⟨some 164, .bin .neq, [.slot 9, .lit (.int .i64 0)], none⟩])
    (.cond (.slot 164) (.seq (.reg [⟨some 165, .mv, [.slot 5], none⟩,
       ⟨some 166, .mv, [.slot 5], none⟩,
       ⟨some 167, .take, [.slot 9], some (166, true)⟩,
       ⟨some 168, .bin .eql, [.slot 167, .lit (.int .i64 5)], some (166, true)⟩,
       ⟨some 169, .pick, [.slot 5, .slot 168, .lit (.bool false)], none⟩,
       ⟨some 170, .mv, [.slot 169], none⟩,
       ⟨some 171, .take, [.slot 8], some (170, true)⟩,
       ⟨some 172, .bin .eql, [.slot 171, .lit (.int .i64 0)], some (170, true)⟩,
       ⟨some 173, .pick, [.slot 169, .slot 172, .lit (.bool false)], none⟩,
       ⟨some 4, .give, [.slot 173], none⟩])
     (.ret))
    (.skip)))
   (.seq (.reg [⟨some 175, .mv, [.slot 7], none⟩,
     ⟨some 176, .fld 1, [.slot 2], none⟩,
     ⟨some 177, .load 1 false, [.slot 176], none⟩,
     ⟨some 178, .fld 3, [.slot 2], none⟩,
     ⟨some 179, .load 1 false, [.slot 178], none⟩,
     ⟨some 180, .mv, [.slot 8], none⟩,
     ⟨some 181, .call 15, [.slot 7, .slot 177, .slot 179, .slot 8], none⟩,
     ⟨some 174, .mv, [.slot 181], none⟩,
     ⟨some 182, .ext 0, [.slot 181], none⟩,
     ⟨some 183, .ext 1, [.slot 181], none⟩,
     ⟨some 16, .give, [.slot 182], none⟩,
     ⟨some 17, .give, [.slot 183], none⟩])
   (.seq (.reg [⟨some 184, .mv, [.slot 5], none⟩,
     ⟨some 185, .mv, [.slot 5], none⟩,
     ⟨some 186, .take, [.slot 17], some (185, true)⟩,
     ⟨some 187, .bin .eql, [.slot 186, .lit (.int .i64 0)], some (185, true)⟩,
     ⟨some 188, .pick, [.slot 5, .slot 187, .lit (.bool false)], none⟩,
     ⟨some 189, .mv, [.slot 188], none⟩,
     ⟨some 190, .take, [.slot 16], some (189, true)⟩,
     ⟨some 191, .fld 4, [.slot 2], some (189, true)⟩,
     ⟨some 192, .load 1 false, [.slot 191], some (189, true)⟩,
     ⟨some 193, .bin .eql, [.slot 190, .slot 192], some (189, true)⟩,
     ⟨some 194, .pick, [.slot 188, .slot 193, .lit (.bool false)], none⟩,
     ⟨some 195, .mv, [.slot 194], none⟩,
     ⟨some 196, .take, [.slot 7], some (195, true)⟩,
     ⟨some 197, .take, [.slot 8], some (195, true)⟩,
     ⟨some 198, .call 19, [.slot 196, .slot 197], some (195, true)⟩,
     ⟨some 199, .take, [.slot 12], some (195, true)⟩,
     ⟨some 200, .bin .eql, [.slot 198, .slot 199], some (195, true)⟩,
     ⟨some 201, .pick, [.slot 194, .slot 200, .lit (.bool false)], none⟩,
     ⟨some 202, .mv, [.slot 201], none⟩,
     ⟨some 203, .take, [.slot 12], some (202, true)⟩,
     ⟨some 204, .bin .gtr, [.slot 203, .lit (.int .i64 0)], some (202, true)⟩,
     ⟨some 205, .pick, [.slot 201, .slot 204, .lit (.bool false)], none⟩,
     ⟨some 4, .give, [.slot 205], none⟩])
   (.ret))))))))))))))),
  206, [.tmp 4]⟩
theorem c7 : cFunc Proofs.Try.prog 7 = some sf7 := by kernel_rfl
/-- carpetbag/carpetbaglaw07.VaultDraws -/
def sf8 : SF := ⟨(.seq (.reg [⟨some 4, .give, [.lit (.bool false)], none⟩])
   (.seq (.reg [⟨some 13, .call 10, [], none⟩,
     ⟨some 5, .give, [.slot 13], none⟩])
   (.seq (.reg [⟨some 14, .call 12, [], none⟩,
     ⟨some 6, .give, [.slot 14], none⟩])
   (.seq (.seq (.reg [⟨some 15, .mv, [.slot 6], none⟩,
      ⟨some 16, .eqN .p false, [.slot 6, .lit (.nilP)], none⟩,
      ⟨some 17, .mv, [.slot 16], none⟩,
      ⟨some 18, .take, [.slot 1], some (17, false)⟩,
      ⟨some 19, .bin .lss, [.slot 18, .lit (.int .i64 0)], some (17, false)⟩,
      ⟨some 20, .pick, [.slot 16, .lit (.bool true), .slot 19], none⟩,
      ⟨some 21, .mv, [.slot 20], none⟩,
      ⟨some 22, .take, [.slot 1], some (21, false)⟩,
      ⟨some 23, .bin .gtr, [.slot 22, .lit (.int .i64 60)], some (21, false)⟩,
      ⟨some 24, .pick, [.slot 20, .lit (.bool true), .slot 23], none⟩])
    (.cond (.slot 24) (.seq (.reg [⟨some 25, .mv, [.slot 5], none⟩,
       ⟨some 26, .mv, [.slot 5], none⟩,
       ⟨some 27, .take, [.slot 6], some (26, true)⟩,
       ⟨some 28, .eqN .p true, [.slot 27, .lit (.nilP)], some (26, true)⟩,
       ⟨some 29, .pick, [.slot 5, .slot 28, .lit (.bool false)], none⟩,
       ⟨some 4, .give, [.slot 29], none⟩])
     (.ret))
    (.skip)))
   (.seq (.seq (.reg [⟨some 7, .take, [.lit (.int .i64 0)], none⟩])
    (.block 0 (.loop (.seq (.seq (.reg [⟨some 30, .mv, [.slot 7], none⟩,
         ⟨some 31, .mv, [.slot 1], none⟩,
         ⟨some 32, .bin .lss, [.slot 7, .slot 1], none⟩])
       (.cond (.slot 32) (.skip)
       (.exit 0)))
      (.seq (.block 1 (.seq (.reg [⟨some 35, .mv, [.slot 0], none⟩,
          ⟨some 36, .bin .and, [.slot 0, .lit (.int .i64 4294967295)], none⟩,
          ⟨some 37, .mv, [.slot 7], none⟩,
          ⟨some 38, .bin .add, [.slot 36, .slot 7], none⟩,
          ⟨some 39, .bin .rem, [.slot 38, .lit (.int .i64 4294967296)], none⟩,
          ⟨some 8, .give, [.slot 39], none⟩])
        (.seq (.reg [⟨some 41, .mv, [.slot 6], none⟩,
          ⟨some 42, .mv, [.slot 7], none⟩,
          ⟨some 43, .mv, [.slot 0], none⟩,
          ⟨some 44, .call 13, [.slot 6, .slot 7, .lit (.str [97]), .lit (.str [112]), .slot 0], none⟩,
          ⟨some 40, .mv, [.slot 44], none⟩,
          ⟨some 45, .ext 0, [.slot 44], none⟩,
          ⟨some 46, .ext 1, [.slot 44], none⟩,
          ⟨some 9, .give, [.slot 45], none⟩,
          ⟨some 10, .give, [.slot 46], none⟩])
        (.seq (.reg [⟨some 48, .mv, [.slot 6], none⟩,
          ⟨some 49, .mv, [.slot 7], none⟩,
          ⟨some 50, .mv, [.slot 0], none⟩,
          ⟨some 51, .call 17, [.slot 6, .slot 7, .lit (.str [109]), .slot 0], none⟩,
          ⟨some 47, .mv, [.slot 51], none⟩,
          ⟨some 52, .ext 0, [.slot 51], none⟩,
          ⟨some 53, .ext 1, [.slot 51], none⟩,
          ⟨some 11, .give, [.slot 52], none⟩,
          ⟨some 12, .give, [.slot 53], none⟩])
        (.seq (.reg [⟨some 54, .mv, [.slot 10], none⟩,
          ⟨some 55, .bin .neq, [.slot 10, .lit (.int .i64 0)], none⟩,
          ⟨some 56, .mv, [.slot 55], none⟩,
          ⟨some 57, .take, [.slot 12], some (56, false)⟩,
          ⟨some 58, .bin .neq, [.slot 57, .lit (.int .i64 0)], some (56, false)⟩,
          ⟨some 59, .pick, [.slot 55, .lit (.bool true), .slot 58], none⟩,
          ⟨some 60, .mv, [.slot 59], none⟩,
          ⟨some 61, .take, [.slot 9], some (60, false)⟩,
          ⟨some 62, .take, [.slot 8], some (60, false)⟩,
          ⟨some 63, .bin .neq, [.slot 61, .slot 62], some (60, false)⟩,
          ⟨some 64, .pick, [.slot 59, .lit (.bool true), .slot 63], none⟩,
          ⟨some 65, .mv, [.slot 64], none⟩,
          ⟨some 66, .take, [.slot 11], some (65, false)⟩,
          ⟨some 67, .take, [.slot 8], some (65, false)⟩,
          ⟨some 68, .bin .neq, [.slot 66, .slot 67], some (65, false)⟩,
          ⟨some 69, .pick, [.slot 64, .lit (.bool true), .slot 68], none⟩])
        (.cond (.slot 69) (.seq (.reg [⟨some 4, .give, [.lit (.bool false)], none⟩])
         (.ret))
        (.skip)))))))
      (.reg [⟨some 33, .mv, [.slot 7], none⟩,
       ⟨some 34, .bin .add, [.slot 7, .lit (.int .i64 1)], none⟩,
       ⟨some 7, .give, [.slot 34], none⟩]))))))
   (.seq (.reg [⟨some 70, .mv, [.slot 5], none⟩,
     ⟨some 71, .mv, [.slot 5], none⟩,
     ⟨some 72, .take, [.slot 6], some (71, true)⟩,
     ⟨some 73, .call 21, [.slot 72], some (71, true)⟩,
     ⟨some 74, .take, [.slot 1], some (71, true)⟩,
     ⟨some 75, .bin .eql, [.slot 73, .slot 74], some (71, true)⟩,
     ⟨some 76, .pick, [.slot 5, .slot 75, .lit (.bool false)], none⟩,
     ⟨some 77, .mv, [.slot 76], none⟩,
     ⟨some 78, .take, [.slot 6], some (77, true)⟩,
     ⟨some 79, .call 22, [.slot 78], some (77, true)⟩,
     ⟨some 80, .take, [.slot 1], some (77, true)⟩,
     ⟨some 81, .bin .eql, [.slot 79, .slot 80], some (77, true)⟩,
     ⟨some 82, .pick, [.slot 76, .slot 81, .lit (.bool false)], none⟩,
     ⟨some 4, .give, [.slot 82], none⟩])
   (.ret))))))),
  83, [.tmp 4]⟩
theorem c8 : cFunc Proofs.Try.prog 8 = some sf8 := by kernel_rfl
/-- carpetbag/carpetbaglaw07.VaultTwice -/
def sf9 : SF := ⟨(.seq (.reg [⟨some 2, .box, [.slot 0], none⟩,
     ⟨some 3, .box, [.slot 1], none⟩,
     ⟨some 4, .give, [.lit (.bool false)], none⟩])
   (.seq (.reg [⟨some 16, .call 10, [], none⟩,
     ⟨some 5, .give, [.slot 16], none⟩])
   (.seq (.reg [⟨some 17, .load 5 true, [.slot 2], none⟩,
     ⟨some 18, .load 5 true, [.slot 3], none⟩,
     ⟨some 19, .bsl 5 2 [.int .i64 0, .int .i64 0, .int .i64 0, .str [], .str []] [0, 1], [.slot 17, .slot 18], none⟩,
     ⟨some 20, .call 11, [.slot 19], none⟩,
     ⟨some 6, .give, [.slot 20], none⟩])
   (.seq (.reg [⟨some 21, .call 12, [], none⟩,
     ⟨some 7, .give, [.slot 21], none⟩])
   (.seq (.seq (.reg [⟨some 22, .mv, [.slot 7], none⟩,
      ⟨some 23, .eqN .p false, [.slot 7, .lit (.nilP)], none⟩,
      ⟨some 24, .mv, [.slot 23], none⟩,
      ⟨some 25, .take, [.slot 6], some (24, false)⟩,
      ⟨some 26, .un .not, [.slot 25], some (24, false)⟩,
      ⟨some 27, .pick, [.slot 23, .lit (.bool true), .slot 26], none⟩])
    (.cond (.slot 27) (.seq (.reg [⟨some 28, .mv, [.slot 5], none⟩,
       ⟨some 29, .mv, [.slot 5], none⟩,
       ⟨some 30, .take, [.slot 7], some (29, true)⟩,
       ⟨some 31, .eqN .p true, [.slot 30, .lit (.nilP)], some (29, true)⟩,
       ⟨some 32, .pick, [.slot 5, .slot 31, .lit (.bool false)], none⟩,
       ⟨some 4, .give, [.slot 32], none⟩])
     (.ret))
    (.skip)))
   (.seq (.reg [⟨some 34, .mv, [.slot 7], none⟩,
     ⟨some 35, .fld 1, [.slot 2], none⟩,
     ⟨some 36, .load 1 false, [.slot 35], none⟩,
     ⟨some 37, .fld 3, [.slot 2], none⟩,
     ⟨some 38, .load 1 false, [.slot 37], none⟩,
     ⟨some 39, .fld 4, [.slot 2], none⟩,
     ⟨some 40, .load 1 false, [.slot 39], none⟩,
     ⟨some 41, .fld 2, [.slot 2], none⟩,
     ⟨some 42, .load 1 false, [.slot 41], none⟩,
     ⟨some 43, .call 13, [.slot 7, .slot 36, .slot 38, .slot 40, .slot 42], none⟩,
     ⟨some 33, .mv, [.slot 43], none⟩,
     ⟨some 44, .ext 0, [.slot 43], none⟩,
     ⟨some 45, .ext 1, [.slot 43], none⟩,
     ⟨some 8, .give, [.slot 44], none⟩,
     ⟨some 9, .give, [.slot 45], none⟩])
   (.seq (.reg [⟨some 47, .mv, [.slot 7], none⟩,
     ⟨some 48, .fld 1, [.slot 2], none⟩,
     ⟨some 49, .load 1 false, [.slot 48], none⟩,
     ⟨some 50, .fld 3, [.slot 2], none⟩,
     ⟨some 51, .load 1 false, [.slot 50], none⟩,
     ⟨some 52, .fld 4, [.slot 2], none⟩,
     ⟨some 53, .load 1 false, [.slot 52], none⟩,
     ⟨some 54, .fld 2, [.slot 3], none⟩,
     ⟨some 55, .load 1 false, [.slot 54], none⟩,
     ⟨some 56, .call 13, [.slot 7, .slot 49, .slot 51, .slot 53, .slot 55], none⟩,
     ⟨some 46, .mv, [.slot 56], none⟩,
     ⟨some 57, .ext 0, [.slot 56], none⟩,
     ⟨some 58, .ext 1, [.slot 56], none⟩,
     ⟨some 10, .give, [.slot 57], none⟩,
     ⟨some 11, .give, [.slot 58], none⟩])
   (.seq (.seq (.reg [⟨some 59, .mv, [.slot 9], none⟩,
      ⟨some 60, .bin .neq, [.slot 9, .lit (.int .i64 0)], none⟩])
    (.cond (.slot 60) (.seq (.reg [⟨some 61, .mv, [.slot 5], none⟩,
       ⟨some 62, .mv, [.slot 5], none⟩,
       ⟨some 63, .take, [.slot 11], some (62, true)⟩,
       ⟨some 64, .take, [.slot 9], some (62, true)⟩,
       ⟨some 65, .bin .eql, [.slot 63, .slot 64], some (62, true)⟩,
       ⟨some 66, .pick, [.slot 5, .slot 65, .lit (.bool false)], none⟩,
       ⟨some 67, .mv, [.slot 66], none⟩,
       ⟨some 68, .take, [.slot 7], some (67, true)⟩,
       ⟨some 69, .call 21, [.slot 68], some (67, true)⟩,
       ⟨some 70, .bin .eql, [.slot 69, .lit (.int .i64 0)], some (67, true)⟩,
       ⟨some 71, .pick, [.slot 66, .slot 70, .lit (.bool false)], none⟩,
       ⟨some 4, .give, [.slot 71], none⟩])
     (.ret))
    (.skip)))
   (.seq (.reg [⟨some 73, .mv, [.slot 7], none⟩,
     ⟨some 74, .fld 1, [.slot 2], none⟩,
     ⟨some 75, .load 1 false, [.slot 74], none⟩,
     ⟨some 76, .fld 3, [.slot 2], none⟩,
     ⟨some 77, .load 1 false, [.slot 76], none⟩,
     ⟨some 78, .mv, [.slot 8], none⟩,
     ⟨some 79, .call 15, [.slot 7, .slot 75, .slot 77, .slot 8], none⟩,
     ⟨some 72, .mv, [.slot 79], none⟩,
     ⟨some 80, .ext 0, [.slot 79], none⟩,
     ⟨some 81, .ext 1, [.slot 79], none⟩,
     ⟨some 12, .give, [.slot 80], none⟩,
     ⟨some 13, .give, [.slot 81], none⟩])
   (.seq (.reg [⟨some 83, .mv, [.slot 7], none⟩,
     ⟨some 84, .fld 1, [.slot 2], none⟩,
     ⟨some 85, .load 1 false, [.slot 84], none⟩,
     ⟨some 86, .fld 3, [.slot 2], none⟩,
     ⟨some 87, .load 1 false, [.slot 86], none⟩,
     ⟨some 88, .mv, [.slot 10], none⟩,
     ⟨some 89, .call 15, [.slot 7, .slot 85, .slot 87, .slot 10], none⟩,
     ⟨some 82, .mv, [.slot 89], none⟩,
     ⟨some 90, .ext 0, [.slot 89], none⟩,
     ⟨some 91, .ext 1, [.slot 89], none⟩,
     ⟨some 14, .give, [.slot 90], none⟩,
     ⟨some 15, .give, [.slot 91], none⟩])
   (.seq (.reg [⟨some 92, .mv, [.slot 5], none⟩,
     ⟨some 93, .mv, [.slot 5], none⟩,
     ⟨some 94, .take, [.slot 11], some (93, true)⟩,
     ⟨some 95, .bin .eql, [.slot 94, .lit (.int .i64 0)], some (93, true)⟩,
     ⟨some 96, .pick, [.slot 5, .slot 95, .lit (.bool false)], none⟩,
     ⟨some 97, .mv, [.slot 96], none⟩,
     ⟨some 98, .take, [.slot 8], some (97, true)⟩,
     ⟨some 99, .take, [.slot 10], some (97, true)⟩,
     ⟨some 100, .bin .neq, [.slot 98, .slot 99], some (97, true)⟩,
     ⟨some 101, .pick, [.slot 96, .slot 100, .lit (.bool false)], none⟩,
     ⟨some 102, .mv, [.slot 101], none⟩,
     ⟨some 103, .take, [.slot 13], some (102, true)⟩,
     ⟨some 104, .bin .eql, [.slot 103, .lit (.int .i64 0)], some (102, true)⟩,
     ⟨some 105, .pick, [.slot 101, .slot 104, .lit (.bool false)], none⟩,
     ⟨some 106, .mv, [.slot 105], none⟩,
     ⟨some 107, .take, [.slot 15], some (106, true)⟩,
     ⟨some 108, .bin .eql, [.slot 107, .lit (.int .i64 0)], some (106, true)⟩,
     ⟨some 109, .pick, [.slot 105, .slot 108, .lit (.bool false)], none⟩,
     ⟨some 110, .mv, [.slot 109], none⟩,
     ⟨some 111, .take, [.slot 12], some (110, true)⟩,
     ⟨some 112, .fld 4, [.slot 2], some (110, true)⟩,
     ⟨some 113, .load 1 false, [.slot 112], some (110, true)⟩,
     ⟨some 114, .bin .eql, [.slot 111, .slot 113], some (110, true)⟩,
     ⟨some 115, .pick, [.slot 109, .slot 114, .lit (.bool false)], none⟩,
     ⟨some 116, .mv, [.slot 115], none⟩,
     ⟨some 117, .take, [.slot 14], some (116, true)⟩,
     ⟨some 118, .fld 4, [.slot 2], some (116, true)⟩,
     ⟨some 119, .load 1 false, [.slot 118], some (116, true)⟩,
     ⟨some 120, .bin .eql, [.slot 117, .slot 119], some (116, true)⟩,
     ⟨some 121, .pick, [.slot 115, .slot 120, .lit (.bool false)], none⟩,
     ⟨some 122, .mv, [.slot 121], none⟩,
     ⟨some 123, .take, [.slot 7], some (122, true)⟩,
     ⟨some 124, .call 21, [.slot 123], some (122, true)⟩,
     ⟨some 125, .bin .eql, [.slot 124, .lit (.int .i64 2)], some (122, true)⟩,
     ⟨some 126, .pick, [.slot 121, .slot 125, .lit (.bool false)], none⟩,
     ⟨some 4, .give, [.slot 126], none⟩])
   (.ret)))))))))))),
  127, [.tmp 4]⟩
theorem c9 : cFunc Proofs.Try.prog 9 = some sf9 := by kernel_rfl
/-- carpetbag/carpetbaglaw07.small -/
def sf10 : SF := ⟨(.seq (.reg [⟨some 0, .give, [.lit (.bool false)], none⟩])
   (.seq (.reg [⟨some 18, .call 12, [], none⟩,
     ⟨some 1, .give, [.slot 18], none⟩])
   (.seq (.seq (.reg [⟨some 19, .mv, [.slot 1], none⟩,
      ⟨some 20, .eqN .p false, [.slot 1, .lit (.nilP)], none⟩])
    (.cond (.slot 20) (.seq (.reg [⟨some 0, .give, [.lit (.bool false)], none⟩])
     (.ret))
    (.skip)))
   (.seq (.reg [⟨some 22, .mv, [.slot 1], none⟩,
     ⟨some 23, .call 13, [.slot 1, .lit (.int .i64 1), .lit (.str [97]), .lit (.str [120]), .lit (.int .i64 9)], none⟩,
     ⟨some 21, .mv, [.slot 23], none⟩,
     ⟨some 24, .ext 0, [.slot 23], none⟩,
     ⟨some 25, .ext 1, [.slot 23], none⟩,
     ⟨some 2, .give, [.slot 24], none⟩,
     ⟨some 3, .give, [.slot 25], none⟩])
   (.seq (.reg [⟨some 27, .mv, [.slot 1], none⟩,
     ⟨some 28, .call 13, [.slot 1, .lit (.int .i64 1), .lit (.str [97]), .lit (.str [121]), .lit (.int .i64 9)], none⟩,
     ⟨some 26, .mv, [.slot 28], none⟩,
     ⟨some 29, .ext 0, [.slot 28], none⟩,
     ⟨some 30, .ext 1, [.slot 28], none⟩,
     ⟨some 4, .give, [.slot 29], none⟩,
     ⟨some 5, .give, [.slot 30], none⟩])
   (.seq (.reg [⟨some 32, .mv, [.slot 1], none⟩,
     ⟨some 33, .mv, [.slot 2], none⟩,
     ⟨some 34, .call 15, [.slot 1, .lit (.int .i64 1), .lit (.str [97]), .slot 2], none⟩,
     ⟨some 31, .mv, [.slot 34], none⟩,
     ⟨some 35, .ext 0, [.slot 34], none⟩,
     ⟨some 36, .ext 1, [.slot 34], none⟩,
     ⟨some 6, .give, [.slot 35], none⟩,
     ⟨some 7, .give, [.slot 36], none⟩])
   (.seq (.reg [⟨some 38, .mv, [.slot 1], none⟩,
     ⟨some 39, .mv, [.slot 2], none⟩,
     ⟨some 40, .call 15, [.slot 1, .lit (.int .i64 2), .lit (.str [97]), .slot 2], none⟩,
     ⟨some 37, .mv, [.slot 40], none⟩,
     ⟨some 41, .ext 0, [.slot 40], none⟩,
     ⟨some 42, .ext 1, [.slot 40], none⟩,
     ⟨some 8, .give, [.slot 41], none⟩,
     ⟨some 9, .give, [.slot 42], none⟩])
   (.seq (.reg [⟨some 44, .mv, [.slot 1], none⟩,
     ⟨some 45, .mv, [.slot 2], none⟩,
     ⟨some 46, .call 15, [.slot 1, .lit (.int .i64 1), .lit (.str [98]), .slot 2], none⟩,
     ⟨some 43, .mv, [.slot 46], none⟩,
     ⟨some 47, .ext 0, [.slot 46], none⟩,
     ⟨some 48, .ext 1, [.slot 46], none⟩,
     ⟨some 10, .give, [.slot 47], none⟩,
     ⟨some 11, .give, [.slot 48], none⟩])
   (.seq (.reg [⟨some 50, .mv, [.slot 1], none⟩,
     ⟨some 51, .call 17, [.slot 1, .lit (.int .i64 1), .lit (.str [109]), .lit (.int .i64 (-1))], none⟩,
     ⟨some 49, .mv, [.slot 51], none⟩,
     ⟨some 52, .ext 0, [.slot 51], none⟩,
     ⟨some 53, .ext 1, [.slot 51], none⟩,
     ⟨some 12, .give, [.slot 52], none⟩,
     ⟨some 13, .give, [.slot 53], none⟩])
   (.seq (.reg [⟨some 55, .mv, [.slot 1], none⟩,
     ⟨some 56, .call 17, [.slot 1, .lit (.int .i64 2), .lit (.str [109]), .lit (.int .i64 (-1))], none⟩,
     ⟨some 54, .mv, [.slot 56], none⟩,
     ⟨some 57, .ext 0, [.slot 56], none⟩,
     ⟨some 58, .ext 1, [.slot 56], none⟩,
     ⟨some 14, .give, [.slot 57], none⟩,
     ⟨some 15, .give, [.slot 58], none⟩])
   (.seq (.reg [⟨some 60, .mv, [.slot 1], none⟩,
     ⟨some 61, .call 17, [.slot 1, .lit (.int .i64 1), .lit (.str [109]), .lit (.int .i64 5)], none⟩,
     ⟨some 59, .mv, [.slot 61], none⟩,
     ⟨some 62, .ext 0, [.slot 61], none⟩,
     ⟨some 63, .ext 1, [.slot 61], none⟩,
     ⟨some 16, .give, [.slot 62], none⟩,
     ⟨some 17, .give, [.slot 63], none⟩])
   (.seq (.reg [⟨some 64, .mv, [.slot 2], none⟩,
     ⟨some 65, .bin .eql, [.slot 2, .lit (.int .i64 9)], none⟩,
     ⟨some 66, .mv, [.slot 65], none⟩,
     ⟨some 67, .take, [.slot 3], some (66, true)⟩,
     ⟨some 68, .bin .eql, [.slot 67, .lit (.int .i64 0)], some (66, true)⟩,
     ⟨some 69, .pick, [.slot 65, .slot 68, .lit (.bool false)], none⟩,
     ⟨some 70, .mv, [.slot 69], none⟩,
     ⟨some 71, .take, [.slot 4], some (70, true)⟩,
     ⟨some 72, .bin .eql, [.slot 71, .lit (.int .i64 10)], some (70, true)⟩,
     ⟨some 73, .pick, [.slot 69, .slot 72, .lit (.bool false)], none⟩,
     ⟨some 74, .mv, [.slot 73], none⟩,
     ⟨some 75, .take, [.slot 5], some (74, true)⟩,
     ⟨some 76, .bin .eql, [.slot 75, .lit (.int .i64 0)], some (74, true)⟩,
     ⟨some 77, .pick, [.slot 73, .slot 76, .lit (.bool false)], none⟩,
     ⟨some 78, .mv, [.slot 77], none⟩,
     ⟨some 79, .take, [.slot 6], some (78, true)⟩,
     ⟨some 80, .bin .eql, [.slot 79, .lit (.str [120])], some (78, true)⟩,
     ⟨some 81, .pick, [.slot 77, .slot 80, .lit (.bool false)], none⟩,
     ⟨some 82, .mv, [.slot 81], none⟩,
     ⟨some 83, .take, [.slot 7], some (82, true)⟩,
     ⟨some 84, .bin .eql, [.slot 83, .lit (.int .i64 0)], some (82, true)⟩,
     ⟨some 85, .pick, [.slot 81, .slot 84, .lit (.bool false)], none⟩,
     ⟨some 86, .mv, [.slot 85], none⟩,
     ⟨some 87, .take, [.slot 9], some (86, true)⟩,
     ⟨some 88, .bin .eql, [.slot 87, .lit (.int .i64 7)], some (86, true)⟩,
     ⟨some 89, .pick, [.slot 85, .slot 88, .lit (.bool false)], none⟩,
     ⟨some 90, .mv, [.slot 89], none⟩,
     ⟨some 91, .take, [.slot 11], some (90, true)⟩,
     ⟨some 92, .bin .eql, [.slot 91, .lit (.int .i64 7)], some (90, true)⟩,
     ⟨some 93, .pick, [.slot 89, .slot 92, .lit (.bool false)], none⟩,
     ⟨some 94, .mv, [.slot 93], none⟩,
     ⟨some 95, .take, [.slot 12], some (94, true)⟩,
     ⟨some 96, .bin .eql, [.slot 95, .lit (.int .i64 4294967295)], some (94, true)⟩,
     ⟨some 97, .pick, [.slot 93, .slot 96, .lit (.bool false)], none⟩,
     ⟨some 98, .mv, [.slot 97], none⟩,
     ⟨some 99, .take, [.slot 13], some (98, true)⟩,
     ⟨some 100, .bin .eql, [.slot 99, .lit (.int .i64 0)], some (98, true)⟩,
     ⟨some 101, .pick, [.slot 97, .slot 100, .lit (.bool false)], none⟩,
     ⟨some 102, .mv, [.slot 101], none⟩,
     ⟨some 103, .take, [.slot 14], some (102, true)⟩,
     ⟨some 104, .bin .eql, [.slot 103, .lit (.int .i64 0)], some (102, true)⟩,
     ⟨some 105, .pick, [.slot 101, .slot 104, .lit (.bool false)], none⟩,
     ⟨some 106, .mv, [.slot 105], none⟩,
     ⟨some 107, .take, [.slot 15], some (106, true)⟩,
     ⟨some 108, .bin .eql, [.slot 107, .lit (.int .i64 0)], some (106, true)⟩,
     ⟨some 109, .pick, [.slot 105, .slot 108, .lit (.bool false)], none⟩,
     ⟨some 110, .mv, [.slot 109], none⟩,
     ⟨some 111, .take, [.slot 16], some (110, true)⟩,
     ⟨some 112, .take, [.slot 12], some (110, true)⟩,
     ⟨some 113, .bin .eql, [.slot 111, .slot 112], some (110, true)⟩,
     ⟨some 114, .pick, [.slot 109, .slot 113, .lit (.bool false)], none⟩,
     ⟨some 115, .mv, [.slot 114], none⟩,
     ⟨some 116, .take, [.slot 17], some (115, true)⟩,
     ⟨some 117, .bin .eql, [.slot 116, .lit (.int .i64 0)], some (115, true)⟩,
     ⟨some 118, .pick, [.slot 114, .slot 117, .lit (.bool false)], none⟩,
     ⟨some 119, .mv, [.slot 118], none⟩,
     ⟨some 120, .take, [.slot 1], some (119, true)⟩,
     ⟨some 121, .call 19, [.slot 120, .lit (.int .i64 9)], some (119, true)⟩,
     ⟨some 122, .bin .eql, [.slot 121, .lit (.int .i64 80)], some (119, true)⟩,
     ⟨some 123, .pick, [.slot 118, .slot 122, .lit (.bool false)], none⟩,
     ⟨some 124, .mv, [.slot 123], none⟩,
     ⟨some 125, .take, [.slot 1], some (124, true)⟩,
     ⟨some 126, .call 19, [.slot 125, .lit (.int .i64 11)], some (124, true)⟩,
     ⟨some 127, .bin .eql, [.slot 126, .lit (.int .i64 0)], some (124, true)⟩,
     ⟨some 128, .pick, [.slot 123, .slot 127, .lit (.bool false)], none⟩,
     ⟨some 129, .mv, [.slot 128], none⟩,
     ⟨some 130, .take, [.slot 1], some (129, true)⟩,
     ⟨some 131, .call 21, [.slot 130], some (129, true)⟩,
     ⟨some 132, .bin .eql, [.slot 131, .lit (.int .i64 2)], some (129, true)⟩,
     ⟨some 133, .pick, [.slot 128, .slot 132, .lit (.bool false)], none⟩,
     ⟨some 134, .mv, [.slot 133], none⟩,
     ⟨some 135, .take, [.slot 1], some (134, true)⟩,
     ⟨some 136, .call 22, [.slot 135], some (134, true)⟩,
     ⟨some 137, .bin .eql, [.slot 136, .lit (.int .i64 2)], some (134, true)⟩,
     ⟨some 138, .pick, [.slot 133, .slot 137, .lit (.bool false)], none⟩,
     ⟨some 0, .give, [.slot 138], none⟩])
   (.ret))))))))))))),
  139, [.tmp 0]⟩
theorem c10 : cFunc Proofs.Try.prog 10 = some sf10 := by kernel_rfl
/-- carpetbag/carpetbaglaw07.few -/
def sf11 : SF := ⟨(.seq (.reg [⟨some 2, .give, [.lit (.bool false)], none⟩])
   (.seq (.seq (.reg [⟨some 3, .take, [.lit (.int .i64 0)], none⟩])
    (.block 0 (.loop (.seq (.seq (.reg [⟨some 4, .mv, [.slot 3], none⟩,
         ⟨some 5, .mv, [.slot 0], none⟩,
         ⟨some 6, .lenL, [.slot 0], none⟩,
         ⟨some 7, .bin .lss, [.slot 3, .slot 6], none⟩])
       (.cond (.slot 7) (.skip)
       (.exit 0)))
      (.seq (.block 1 (.seq (.reg [⟨some 10, .mv, [.slot 0], none⟩,
          ⟨some 11, .mv, [.slot 3], none⟩,
          ⟨some 12, .idxB 5, [.slot 0, .slot 3], none⟩,
          ⟨some 13, .fld 3, [.slot 12], none⟩,
          ⟨some 14, .load 1 false, [.slot 13], none⟩,
          ⟨some 15, .lenS, [.slot 14], none⟩,
          ⟨some 16, .bin .gtr, [.slot 15, .lit (.int .i64 200)], none⟩,
          ⟨some 17, .mv, [.slot 16], none⟩,
          ⟨some 18, .take, [.slot 0], some (17, false)⟩,
          ⟨some 19, .take, [.slot 3], some (17, false)⟩,
          ⟨some 20, .idxB 5, [.slot 18, .slot 19], some (17, false)⟩,
          ⟨some 21, .fld 4, [.slot 20], some (17, false)⟩,
          ⟨some 22, .load 1 false, [.slot 21], some (17, false)⟩,
          ⟨some 23, .lenS, [.slot 22], some (17, false)⟩,
          ⟨some 24, .bin .gtr, [.slot 23, .lit (.int .i64 6000)], some (17, false)⟩,
          ⟨some 25, .pick, [.slot 16, .lit (.bool true), .slot 24], none⟩])
        (.cond (.slot 25) (.seq (.reg [⟨some 2, .give, [.lit (.bool false)], none⟩])
         (.ret))
        (.skip))))
      (.reg [⟨some 8, .mv, [.slot 3], none⟩,
       ⟨some 9, .bin .add, [.slot 3, .lit (.int .i64 1)], none⟩,
       ⟨some 3, .give, [.slot 9], none⟩]))))))
   (.seq (.reg [⟨some 26, .mv, [.slot 0], none⟩,
     ⟨some 27, .lenL, [.slot 0], none⟩,
     ⟨some 28, .bin .leq, [.slot 27, .lit (.int .i64 100)], none⟩,
     ⟨some 2, .give, [.slot 28], none⟩])
   (.ret)))),
  29, [.tmp 2]⟩
theorem c11 : cFunc Proofs.Try.prog 11 = some sf11 := by kernel_rfl
/-- carpetbag/vault.New -/
def sf12 : SF := ⟨(.seq (.reg [⟨some 0, .give, [.lit (.nilP)], none⟩])
   (.seq (.reg [⟨some 1, .mkM, [], none⟩,
     ⟨some 2, .mkM, [], none⟩,
     ⟨some 3, .mkM, [], none⟩,
     ⟨some 4, .bld [.nilM, .nilM, .nilM] [(0, 1), (1, 1), (2, 1)], [.slot 1, .slot 2, .slot 3], none⟩,
     ⟨some 5, .box, [.slot 4], none⟩,
     ⟨some 0, .give, [.slot 5], none⟩])
   (.ret))),
  6, [.tmp 0]⟩
theorem c12 : cFunc Proofs.Try.prog 12 = some sf12 := by kernel_rfl
/-- (*carpetbag/vault.Vault).Seal -/
def sf13 : SF := ⟨(.seq (.reg [⟨some 5, .box, [.slot 0], none⟩,
     ⟨some 10, .give, [.lit (.int .i64 0)], none⟩,
     ⟨some 11, .give, [.lit (.int .i64 0)], none⟩])
   (.seq (.block 0 (.seq (.reg [⟨some 14, .mv, [.slot 3], none⟩,
       ⟨some 15, .lenS, [.slot 3], none⟩,
       ⟨some 16, .call 23, [.slot 15], none⟩,
       ⟨some 17, .bin .lss, [.slot 16, .lit (.int .i64 0)], none⟩,
       ⟨some 13, .give, [.slot 17], none⟩])
     (.cond (.slot 13) (.seq (.reg [⟨some 10, .give, [.lit (.int .i64 0)], none⟩,
        ⟨some 11, .give, [.lit (.int .i64 5)], none⟩])
      (.ret))
     (.seq (.reg [⟨some 19, .load 1 false, [.slot 5], none⟩,
        ⟨some 20, .nilc, [.slot 19], none⟩,
        ⟨some 21, .fld 0, [.slot 20], none⟩,
        ⟨some 22, .load 1 false, [.slot 21], none⟩,
        ⟨some 23, .lenM, [.slot 22], none⟩,
        ⟨some 24, .bin .geq, [.slot 23, .lit (.int .i64 16384)], none⟩,
        ⟨some 18, .give, [.slot 24], none⟩])
      (.cond (.slot 18) (.seq (.reg [⟨some 10, .give, [.lit (.int .i64 0)], none⟩,
         ⟨some 11, .give, [.lit (.int .i64 2)], none⟩])
       (.ret))
      (.skip))))))
   (.seq (.reg [⟨some 25, .mv, [.slot 4], none⟩,
     ⟨some 26, .mfn 25 0 1, [.slot 5], none⟩,
     ⟨some 27, .call 24, [.slot 4, .slot 26], none⟩,
     ⟨some 12, .give, [.slot 27], none⟩])
   (.seq (.reg [⟨some 28, .load 1 false, [.slot 5], none⟩,
     ⟨some 29, .nilc, [.slot 28], none⟩,
     ⟨some 30, .fld 0, [.slot 29], none⟩,
     ⟨some 31, .load 1 false, [.slot 30], none⟩,
     ⟨some 32, .mv, [.slot 12], none⟩,
     ⟨some 33, .mv, [.slot 1], none⟩,
     ⟨some 34, .mv, [.slot 2], none⟩,
     ⟨some 35, .bld [.int .i64 0, .str []] [(0, 1), (1, 1)], [.slot 1, .slot 2], none⟩,
     ⟨some 36, .mv, [.slot 3], none⟩,
     ⟨some 37, .bld [.int .i64 0, .str [], .str []] [(0, 2), (2, 1)], [.slot 35, .slot 3], none⟩,
     ⟨none, .upd [.i] false, [.slot 31, .slot 12, .slot 37], none⟩])
   (.seq (.reg [⟨some 38, .mv, [.slot 12], none⟩,
     ⟨some 10, .give, [.slot 12], none⟩,
     ⟨some 11, .give, [.lit (.int .i64 0)], none⟩])
   (.ret)))))),
  39, [.tmp 10, .tmp 11]⟩
theorem c13 : cFunc Proofs.Try.prog 13 = some sf13 := by kernel_rfl
/-- (*carpetbag/carpetbagref07.Vault).Seal -/
def sf14 : SF := ⟨(.seq (.reg [⟨some 10, .give, [.lit (.int .i64 0)], none⟩,
     ⟨some 11, .give, [.lit (.int .i64 0)], none⟩])
   (.seq (.reg [⟨some 15, .mv, [.slot 3], none⟩,
     ⟨some 16, .lenS, [.slot 3], none⟩,
     ⟨some 17, .call 26, [.slot 16], none⟩,
     ⟨some 12, .give, [.slot 17], none⟩])
   (.seq (.seq (.reg [⟨some 18, .mv, [.slot 12], none⟩,
      ⟨some 19, .bin .lss, [.slot 12, .lit (.int .i64 0)], none⟩])
    (.cond (.slot 19) (.seq (.reg [⟨some 10, .give, [.lit (.int .i64 0)], none⟩,
       ⟨some 11, .give, [.lit (.int .i64 5)], none⟩])
     (.ret))
    (.skip)))
   (.seq (.seq (.reg [⟨some 20, .mv, [.slot 0], none⟩,
      ⟨some 21, .nilc, [.slot 0], none⟩,
      ⟨some 22, .fld 0, [.slot 21], none⟩,
      ⟨some 23, .load 1 false, [.slot 22], none⟩,
      ⟨some 24, .lenL, [.slot 23], none⟩,
      ⟨some 25, .bin .geq, [.slot 24, .lit (.int .i64 16384)], none⟩])
    (.cond (.slot 25) (.seq (.reg [⟨some 10, .give, [.lit (.int .i64 0)], none⟩,
       ⟨some 11, .give, [.lit (.int .i64 2)], none⟩])
     (.ret))
    (.skip)))
   (.seq (.reg [⟨some 26, .mv, [.slot 4], none⟩,
     ⟨some 27, .bin .and, [.slot 4, .lit (.int .i64 4294967295)], none⟩,
     ⟨some 13, .give, [.slot 27], none⟩])
   (.seq (.seq (.reg [⟨some 14, .take, [.lit (.int .i64 0)], none⟩])
    (.block 0 (.loop (.seq (.seq (.reg [⟨some 28, .mv, [.slot 14], none⟩,
         ⟨some 29, .mv, [.slot 0], none⟩,
         ⟨some 30, .nilc, [.slot 0], none⟩,
         ⟨some 31, .fld 0, [.slot 30], none⟩,
         ⟨some 32, .load 1 false, [.slot 31], none⟩,
         ⟨some 33, .lenL, [.slot 32], none⟩,
         ⟨some 34, .bin .leq, [.slot 14, .slot 33], none⟩,
         ⟨some 35, .mv, [.slot 34], none⟩,
         ⟨some 36, .take, [.slot 0], some (35, true)⟩,
         ⟨some 37, .take, [.slot 13], some (35, true)⟩,
         ⟨some 38, .call 27, [.slot 36, .slot 37], some (35, true)⟩,
         ⟨some 39, .pick, [.slot 34, .slot 38, .lit (.bool false)], none⟩])
       (.cond (.slot 39) (.skip)
       (.exit 0)))
      (.seq (.block 1 (.reg [⟨some 42, .mv, [.slot 13], none⟩,
         ⟨some 43, .bin .add, [.slot 13, .lit (.int .i64 1)], none⟩,
         ⟨some 44, .bin .and, [.slot 43, .lit (.int .i64 4294967295)], none⟩,
         ⟨some 13, .give, [.slot 44], none⟩]))
      (.reg [⟨some 40, .mv, [.slot 14], none⟩,
       ⟨some 41, .bin .add, [.slot 14, .lit (.int .i64 1)], none⟩,
       ⟨some 14, .give, [.slot 41], none⟩]))))))
   (.seq (.reg [⟨some 45, .mv, [.slot 0], none⟩,
     ⟨some 46, .mv, [.slot 0], none⟩,
     ⟨some 47, .nilc, [.slot 0], none⟩,
     ⟨some 48, .fld 0, [.slot 47], none⟩,
     ⟨some 49, .loadG, [.slot 48], none⟩,
     ⟨some 50, .mv, [.slot 13], none⟩,
     ⟨some 51, .mv, [.slot 1], none⟩,
     ⟨some 52, .mv, [.slot 2], none⟩,
     ⟨some 53, .mv, [.slot 3], none⟩,
     ⟨some 54, .bld [.int .i64 0, .int .i64 0, .str [], .str []] [(0, 1), (1, 1), (2, 1), (3, 1)], [.slot 13, .slot 1, .slot 2, .slot 3], none⟩,
     ⟨some 55, .bsl 4 1 [.int .i64 0, .int .i64 0, .str [], .str []] [0], [.slot 54], none⟩,
     ⟨some 56, .app 4 48 [.int .i64 0, .int .i64 0, .str [], .str []], [.slot 49, .slot 55], none⟩,
     ⟨some 57, .nilc, [.slot 0], none⟩,
     ⟨some 58, .fld 0, [.slot 57], none⟩,
     ⟨none, .store 1 true, [.slot 58, .slot 56], none⟩])
   (.seq (.reg [⟨some 59, .mv, [.slot 13], none⟩,
     ⟨some 10, .give, [.slot 13], none⟩,
     ⟨some 11, .give, [.lit (.int .i64 0)], none⟩])
   (.ret))))))))),
  60, [.tmp 10, .tmp 11]⟩
theorem c14 : cFunc Proofs.Try.prog 14 = some sf14 := by kernel_rfl
/-- (*carpetbag/vault.Vault).Open -/
def sf15 : SF := ⟨(.seq (.reg [⟨some 8, .give, [.lit (.str [])], none⟩,
     ⟨some 9, .give, [.lit (.int .i64 0)], none⟩])
   (.seq (.reg [⟨some 13, .mv, [.slot 0], none⟩,
     ⟨some 14, .nilc, [.slot 0], none⟩,
     ⟨some 15, .fld 0, [.slot 14], none⟩,
     ⟨some 16, .load 1 false, [.slot 15], none⟩,
     ⟨some 17, .mv, [.slot 3], none⟩,
     ⟨some 18, .lkp [.i] false true (.agg [.int .i64 0, .str [], .str []]), [.slot 16, .slot 3], none⟩,
     ⟨some 12, .mv, [.slot 18], none⟩,
     ⟨some 19, .ext 0, [.slot 18], none⟩,
     ⟨some 20, .ext 1, [.slot 18], none⟩,
     ⟨some 10, .alloc [.int .i64 0, .str [], .str []], [], none⟩,
     ⟨none, .store 3 true, [.slot 10, .slot 19], none⟩,
     ⟨some 11, .give, [.slot 20], none⟩])
   (.seq (.seq (.reg [⟨some 21, .mv, [.slot 11], none⟩,
      ⟨some 22, .un .not, [.slot 11], none⟩,
      ⟨some 23, .mv, [.slot 22], none⟩,
      ⟨some 24, .fld 0, [.slot 10], some (23, false)⟩,
      ⟨some 25, .load 2 true, [.slot 24], some (23, false)⟩,
      ⟨some 26, .take, [.slot 1], some (23, false)⟩,
      ⟨some 27, .take, [.slot 2], some (23, false)⟩,
      ⟨some 28, .bld [.int .i64 0, .str []] [(0, 1), (1, 1)], [.slot 26, .slot 27], some (23, false)⟩,
      ⟨some 29, .eqA true [.i, .s], [.slot 25, .slot 28], some (23, false)⟩,
      ⟨some 30, .pick, [.slot 22, .lit (.bool true), .slot 29], none⟩])
    (.cond (.slot 30) (.seq (.reg [⟨some 8, .give, [.lit (.str [])], none⟩,
       ⟨some 9, .give, [.lit (.int .i64 7)], none⟩])
     (.ret))
    (.skip)))
   (.seq (.reg [⟨some 31, .fld 2, [.slot 10], none⟩,
     ⟨some 32, .load 1 false, [.slot 31], none⟩,
     ⟨some 8, .give, [.slot 32], none⟩,
     ⟨some 9, .give, [.lit (.int .i64 0)], none⟩])
   (.ret))))),
  33, [.tmp 8, .tmp 9]⟩
theorem c15 : cFunc Proofs.Try.prog 15 = some sf15 := by kernel_rfl
/-- (*carpetbag/carpetbagref07.Vault).Open -/
def sf16 : SF := ⟨(.seq (.reg [⟨some 8, .give, [.lit (.str [])], none⟩,
     ⟨some 9, .give, [.lit (.int .i64 0)], none⟩])
   (.seq (.seq (.reg [⟨some 10, .take, [.lit (.int .i64 0)], none⟩])
    (.block 0 (.loop (.seq (.seq (.reg [⟨some 12, .mv, [.slot 10], none⟩,
         ⟨some 13, .mv, [.slot 0], none⟩,
         ⟨some 14, .nilc, [.slot 0], none⟩,
         ⟨some 15, .fld 0, [.slot 14], none⟩,
         ⟨some 16, .load 1 false, [.slot 15], none⟩,
         ⟨some 17, .lenL, [.slot 16], none⟩,
         ⟨some 18, .bin .lss, [.slot 10, .slot 17], none⟩])
       (.cond (.slot 18) (.skip)
       (.exit 0)))
      (.seq (.block 1 (.seq (.reg [⟨some 21, .mv, [.slot 0], none⟩,
          ⟨some 22, .nilc, [.slot 0], none⟩,
          ⟨some 23, .fld 0, [.slot 22], none⟩,
          ⟨some 24, .load 1 false, [.slot 23], none⟩,
          ⟨some 25, .mv, [.slot 10], none⟩,
          ⟨some 26, .idxB 4, [.slot 24, .slot 10], none⟩,
          ⟨some 27, .load 4 true, [.slot 26], none⟩,
          ⟨some 11, .alloc [.int .i64 0, .int .i64 0, .str [], .str []], [], none⟩,
          ⟨none, .store 4 true, [.slot 11, .slot 27], none⟩])
        (.seq (.reg [⟨some 28, .fld 0, [.slot 11], none⟩,
          ⟨some 29, .load 1 false, [.slot 28], none⟩,
          ⟨some 30, .mv, [.slot 3], none⟩,
          ⟨some 31, .bin .eql, [.slot 29, .slot 3], none⟩,
          ⟨some 32, .mv, [.slot 31], none⟩,
          ⟨some 33, .fld 1, [.slot 11], some (32, true)⟩,
          ⟨some 34, .load 1 false, [.slot 33], some (32, true)⟩,
          ⟨some 35, .take, [.slot 1], some (32, true)⟩,
          ⟨some 36, .bin .eql, [.slot 34, .slot 35], some (32, true)⟩,
          ⟨some 37, .pick, [.slot 31, .slot 36, .lit (.bool false)], none⟩,
          ⟨some 38, .mv, [.slot 37], none⟩,
          ⟨some 39, .fld 2, [.slot 11], some (38, true)⟩,
          ⟨some 40, .load 1 false, [.slot 39], some (38, true)⟩,
          ⟨some 41, .take, [.slot 2], some (38, true)⟩,
          ⟨some 42, .bin .eql, [.slot 40, .slot 41], some (38, true)⟩,
          ⟨some 43, .pick, [.slot 37, .slot 42, .lit (.bool false)], none⟩])
        (.cond (.slot 43) (.seq (.reg [⟨some 44, .fld 3, [.slot 11], none⟩,
           ⟨some 45, .load 1 false, [.slot 44], none⟩,
           ⟨some 8, .give, [.slot 45], none⟩,
           ⟨some 9, .give, [.lit (.int .i64 0)], none⟩])
         (.ret))
        (.skip)))))
      (.reg [⟨some 19, .mv, [.slot 10], none⟩,
       ⟨some 20, .bin .add, [.slot 10, .lit (.int .i64 1)], none⟩,
       ⟨some 10, .give, [.slot 20], none⟩]))))))
   (.seq (.reg [⟨some 8, .give, [.lit (.str [])], none⟩,
     ⟨some 9, .give, [.lit (.int .i64 7)], none⟩])
   (.ret)))),
  46, [.tmp 8, .tmp 9]⟩
theorem c16 : cFunc Proofs.Try.prog 16 = some sf16 := by kernel_rfl
/-- (*carpetbag/vault.Vault).Name -/
def sf17 : SF := ⟨(.seq (.reg [⟨some 4, .box, [.slot 0], none⟩,
     ⟨some 8, .give, [.lit (.int .i64 0)], none⟩,
     ⟨some 9, .give, [.lit (.int .i64 0)], none⟩])
   (.seq (.reg [⟨some 14, .mv, [.slot 1], none⟩,
     ⟨some 15, .mv, [.slot 2], none⟩,
     ⟨some 16, .bld [.int .i64 0, .str []] [(0, 1), (1, 1)], [.slot 1, .slot 2], none⟩,
     ⟨some 10, .alloc [.int .i64 0, .str []], [], none⟩,
     ⟨none, .store 2 true, [.slot 10, .slot 16], none⟩])
   (.seq (.seq (.seq (.reg [⟨some 18, .load 1 false, [.slot 4], none⟩,
        ⟨some 19, .nilc, [.slot 18], none⟩,
        ⟨some 20, .fld 1, [.slot 19], none⟩,
        ⟨some 21, .load 1 false, [.slot 20], none⟩,
        ⟨some 22, .load 2 true, [.slot 10], none⟩,
        ⟨some 23, .lkp [.i, .s] true true (.int .i64 0), [.slot 21, .slot 22], none⟩,
        ⟨some 17, .mv, [.slot 23], none⟩])
      (.both (.reg [⟨some 24, .ext 0, [.slot 17], none⟩,
        ⟨some 25, .ext 1, [.slot 17], none⟩,
        ⟨some 11, .give, [.slot 24], none⟩,
        ⟨some 12, .give, [.slot 25], none⟩])
      (.both (.reg [⟨some 25, .ext 1, [.slot 17], none⟩,
        ⟨some 24, .ext 0, [.slot 17], none⟩,
        ⟨some 11, .give, [.slot 24], none⟩,
        ⟨some 12, .give, [.slot 25], none⟩])
      (.tt))))
    (.seq (.reg [⟨some 26, .mv, [.slot 12], none⟩])
    (.cond (.slot 26) (.seq (.reg [⟨some 27, .mv, [.slot 11], none⟩,
       ⟨some 8, .give, [.slot 11], none⟩,
       ⟨some 9, .give, [.lit (.int .i64 0)], none⟩])
     (.ret))
    (.skip))))
   (.seq (.seq (.reg [⟨some 28, .load 1 false, [.slot 4], none⟩,
      ⟨some 29, .nilc, [.slot 28], none⟩,
      ⟨some 30, .fld 1, [.slot 29], none⟩,
      ⟨some 31, .load 1 false, [.slot 30], none⟩,
      ⟨some 32, .lenM, [.slot 31], none⟩,
      ⟨some 33, .bin .geq, [.slot 32, .lit (.int .i64 16384)], none⟩])
    (.cond (.slot 33) (.seq (.reg [⟨some 8, .give, [.lit (.int .i64 0)], none⟩,
       ⟨some 9, .give, [.lit (.int .i64 2)], none⟩])
     (.ret))
    (.skip)))
   (.seq (.reg [⟨some 34, .mv, [.slot 3], none⟩,
     ⟨some 35, .mfn 28 0 1, [.slot 4], none⟩,
     ⟨some 36, .call 24, [.slot 3, .slot 35], none⟩,
     ⟨some 13, .give, [.slot 36], none⟩])
   (.seq (.reg [⟨some 37, .load 1 false, [.slot 4], none⟩,
       ⟨some 38, .nilc, [.slot 37], none⟩,
       ⟨some 39, .fld 1, [.slot 38], none⟩,
       ⟨some 40, .load 1 false, [.slot 39], none⟩,
       ⟨some 41, .load 2 true, [.slot 10], none⟩,
       ⟨some 42, .load 1 false, [.slot 4], none⟩,
       ⟨some 43, .nilc, [.slot 42], none⟩,
       ⟨some 44, .fld 2, [.slot 43], none⟩,
       ⟨some 45, .load 1 false, [.slot 44], none⟩,
       ⟨some 46, .mv, [.slot 13], none⟩,
       ⟨some 47, .mv, [.slot 13], none⟩,
       ⟨some 48, .ment [.i, .s] true (.int .i64 0), [.slot 40, .slot 41], none⟩,
       ⟨some 49, .ext 1, [.slot 48], none⟩,
       ⟨none, .mest, [.slot 40, .slot 49, .slot 13], none⟩,
       ⟨some 50, .ment [.i] false (.bool false), [.slot 45, .slot 13], none⟩,
       ⟨some 51, .ext 1, [.slot 50], none⟩,
       ⟨none, .mest, [.slot 45, .slot 51, .lit (.bool true)], none⟩])
   (.seq (.reg [⟨some 52, .mv, [.slot 13], none⟩,
     ⟨some 8, .give, [.slot 13], none⟩,
     ⟨some 9, .give, [.lit (.int .i64 0)], none⟩])
   (.ret)))))))),
  53, [.tmp 8, .tmp 9]⟩
theorem c17 : cFunc Proofs.Try.prog 17 = some sf17 := by kernel_rfl
/-- (*carpetbag/carpetbagref07.Vault).Name -/
def sf18 : SF := ⟨(.seq (.reg [⟨some 8, .give, [.lit (.int .i64 0)], none⟩,
     ⟨some 9, .give, [.lit (.int .i64 0)], none⟩])
   (.seq (.seq (.reg [⟨some 10, .take, [.lit (.int .i64 0)], none⟩])
    (.block 0 (.loop (.seq (.seq (.reg [⟨some 13, .mv, [.slot 10], none⟩,
         ⟨some 14, .mv, [.slot 0], none⟩,
         ⟨some 15, .nilc, [.slot 0], none⟩,
         ⟨some 16, .fld 1, [.slot 15], none⟩,
         ⟨some 17, .load 1 false, [.slot 16], none⟩,
         ⟨some 18, .lenL, [.slot 17], none⟩,
         ⟨some 19, .bin .lss, [.slot 10, .slot 18], none⟩])
       (.cond (.slot 19) (.skip)
       (.exit 0)))
      (.seq (.block 1 (.seq (.reg [⟨some 22, .mv, [.slot 0], none⟩,
          ⟨some 23, .nilc, [.slot 0], none⟩,
          ⟨some 24, .fld 1, [.slot 23], none⟩,
          ⟨some 25, .load 1 false, [.slot 24], none⟩,
          ⟨some 26, .mv, [.slot 10], none⟩,
          ⟨some 27, .idxB 3, [.slot 25, .slot 10], none⟩,
          ⟨some 28, .fld 1, [.slot 27], none⟩,
          ⟨some 29, .load 1 false, [.slot 28], none⟩,
          ⟨some 30, .mv, [.slot 1], none⟩,
          ⟨some 31, .bin .eql, [.slot 29, .slot 1], none⟩,
          ⟨some 32, .mv, [.slot 31], none⟩,
          ⟨some 33, .take, [.slot 0], some (32, true)⟩,
          ⟨some 34, .nilc, [.slot 33], some (32, true)⟩,
          ⟨some 35, .fld 1, [.slot 34], some (32, true)⟩,
          ⟨some 36, .load 1 false, [.slot 35], some (32, true)⟩,
          ⟨some 37, .take, [.slot 10], some (32, true)⟩,
          ⟨some 38, .idxB 3, [.slot 36, .slot 37], some (32, true)⟩,
          ⟨some 39, .fld 2, [.slot 38], some (32, true)⟩,
          ⟨some 40, .load 1 false, [.slot 39], some (32, true)⟩,
          ⟨some 41, .take, [.slot 2], some (32, true)⟩,
          ⟨some 42, .bin .eql, [.slot 40, .slot 41], some (32, true)⟩,
          ⟨some 43, .pick, [.slot 31, .slot 42, .lit (.bool false)], none⟩])
        (.cond (.slot 43) (.seq (.reg [⟨some 44, .mv, [.slot 0], none⟩,
           ⟨some 45, .nilc, [.slot 0], none⟩,
           ⟨some 46, .fld 1, [.slot 45], none⟩,
           ⟨some 47, .load 1 false, [.slot 46], none⟩,
           ⟨some 48, .mv, [.slot 10], none⟩,
           ⟨some 49, .idxB 3, [.slot 47, .slot 10], none⟩,
           ⟨some 50, .fld 0, [.slot 49], none⟩,
           ⟨some 51, .load 1 false, [.slot 50], none⟩,
           ⟨some 8, .give, [.slot 51], none⟩,
           ⟨some 9, .give, [.lit (.int .i64 0)], none⟩])
         (.ret))
        (.skip))))
      (.reg [⟨some 20, .mv, [.slot 10], none⟩,
       ⟨some 21, .bin .add, [.slot 10, .lit (.int .i64 1)], none⟩,
       ⟨some 10, .give, [.slot 21], none⟩]))))))
   (.seq (.seq (.reg [⟨some 52, .mv, [.slot 0], none⟩,
      ⟨some 53, .nilc, [.slot 0], none⟩,
      ⟨some 54, .fld 1, [.slot 53], none⟩,
      ⟨some 55, .load 1 false, [.slot 54], none⟩,
      ⟨some 56, .lenL, [.slot 55], none⟩,
      ⟨some 57, .bin .geq, [.slot 56, .lit (.int .i64 16384)], none⟩])
    (.cond (.slot 57) (.seq (.reg [⟨some 8, .give, [.lit (.int .i64 0)], none⟩,
       ⟨some 9, .give, [.lit (.int .i64 2)], none⟩])
     (.ret))
    (.skip)))
   (.seq (.reg [⟨some 58, .mv, [.slot 3], none⟩,
     ⟨some 59, .bin .and, [.slot 3, .lit (.int .i64 4294967295)], none⟩,
     ⟨some 11, .give, [.slot 59], none⟩])
   (.seq (.seq (.reg [⟨some 12, .take, [.lit (.int .i64 0)], none⟩])
    (.block 2 (.loop (.seq (.seq (.reg [⟨some 60, .mv, [.slot 12], none⟩,
         ⟨some 61, .mv, [.slot 0], none⟩,
         ⟨some 62, .nilc, [.slot 0], none⟩,
         ⟨some 63, .fld 1, [.slot 62], none⟩,
         ⟨some 64, .load 1 false, [.slot 63], none⟩,
         ⟨some 65, .lenL, [.slot 64], none⟩,
         ⟨some 66, .bin .leq, [.slot 12, .slot 65], none⟩,
         ⟨some 67, .mv, [.slot 66], none⟩,
         ⟨some 68, .take, [.slot 0], some (67, true)⟩,
         ⟨some 69, .take, [.slot 11], some (67, true)⟩,
         ⟨some 70, .call 29, [.slot 68, .slot 69], some (67, true)⟩,
         ⟨some 71, .pick, [.slot 66, .slot 70, .lit (.bool false)], none⟩])
       (.cond (.slot 71) (.skip)
       (.exit 2)))
      (.seq (.block 3 (.reg [⟨some 74, .mv, [.slot 11], none⟩,
         ⟨some 75, .bin .add, [.slot 11, .lit (.int .i64 1)], none⟩,
         ⟨some 76, .bin .and, [.slot 75, .lit (.int .i64 4294967295)], none⟩,
         ⟨some 11, .give, [.slot 76], none⟩]))
      (.reg [⟨some 72, .mv, [.slot 12], none⟩,
       ⟨some 73, .bin .add, [.slot 12, .lit (.int .i64 1)], none⟩,
       ⟨some 12, .give, [.slot 73], none⟩]))))))
   (.seq (.reg [⟨some 77, .mv, [.slot 0], none⟩,
     ⟨some 78, .mv, [.slot 0], none⟩,
     ⟨some 79, .nilc, [.slot 0], none⟩,
     ⟨some 80, .fld 1, [.slot 79], none⟩,
     ⟨some 81, .loadG, [.slot 80], none⟩,
     ⟨some 82, .mv, [.slot 11], none⟩,
     ⟨some 83, .mv, [.slot 1], none⟩,
     ⟨some 84, .mv, [.slot 2], none⟩,
     ⟨some 85, .bld [.int .i64 0, .int .i64 0, .str []] [(0, 1), (1, 1), (2, 1)], [.slot 11, .slot 1, .slot 2], none⟩,
     ⟨some 86, .bsl 3 1 [.int .i64 0, .int .i64 0, .str []] [0], [.slot 85], none⟩,
     ⟨some 87, .app 3 32 [.int .i64 0, .int .i64 0, .str []], [.slot 81, .slot 86], none⟩,
     ⟨some 88, .nilc, [.slot 0], none⟩,
     ⟨some 89, .fld 1, [.slot 88], none⟩,
     ⟨none, .store 1 true, [.slot 89, .slot 87], none⟩])
   (.seq (.reg [⟨some 90, .mv, [.slot 11], none⟩,
     ⟨some 8, .give, [.slot 11], none⟩,
     ⟨some 9, .give, [.lit (.int .i64 0)], none⟩])
   (.ret)))))))),
  91, [.tmp 8, .tmp 9]⟩
theorem c18 : cFunc Proofs.Try.prog 18 = some sf18 := by kernel_rfl
/-- (*carpetbag/vault.Vault).Size -/
def sf19 : SF := ⟨(.seq (.reg [⟨some 4, .give, [.lit (.int .i64 0)], none⟩])
   (.seq (.reg [⟨some 8, .mv, [.slot 0], none⟩,
     ⟨some 9, .nilc, [.slot 0], none⟩,
     ⟨some 10, .fld 0, [.slot 9], none⟩,
     ⟨some 11, .load 1 false, [.slot 10], none⟩,
     ⟨some 12, .mv, [.slot 1], none⟩,
     ⟨some 13, .lkp [.i] false true (.agg [.int .i64 0, .str [], .str []]), [.slot 11, .slot 1], none⟩,
     ⟨some 7, .mv, [.slot 13], none⟩,
     ⟨some 14, .ext 0, [.slot 13], none⟩,
     ⟨some 15, .ext 1, [.slot 13], none⟩,
     ⟨some 5, .alloc [.int .i64 0, .str [], .str []], [], none⟩,
     ⟨none, .store 3 true, [.slot 5, .slot 14], none⟩,
     ⟨some 6, .give, [.slot 15], none⟩])
   (.seq (.seq (.reg [⟨some 16, .mv, [.slot 6], none⟩,
      ⟨some 17, .un .not, [.slot 6], none⟩])
    (.cond (.slot 17) (.seq (.reg [⟨some 4, .give, [.lit (.int .i64 0)], none⟩])
     (.ret))
    (.skip)))
   (.seq (.reg [⟨some 18, .fld 2, [.slot 5], none⟩,
     ⟨some 19, .load 1 false, [.slot 18], none⟩,
     ⟨some 20, .lenS, [.slot 19], none⟩,
     ⟨some 21, .call 23, [.slot 20], none⟩,
     ⟨some 22, .call 30, [.slot 21], none⟩,
     ⟨some 4, .give, [.slot 22], none⟩])
   (.ret))))),
  23, [.tmp 4]⟩
theorem c19 : cFunc Proofs.Try.prog 19 = some sf19 := by kernel_rfl
/-- (*carpetbag/carpetbagref07.Vault).Size -/
def sf20 : SF := ⟨(.seq (.reg [⟨some 4, .give, [.lit (.int .i64 0)], none⟩])
   (.seq (.seq (.reg [⟨some 5, .take, [.lit (.int .i64 0)], none⟩])
    (.block 0 (.loop (.seq (.seq (.reg [⟨some 6, .mv, [.slot 5], none⟩,
         ⟨some 7, .mv, [.slot 0], none⟩,
         ⟨some 8, .nilc, [.slot 0], none⟩,
         ⟨some 9, .fld 0, [.slot 8], none⟩,
         ⟨some 10, .load 1 false, [.slot 9], none⟩,
         ⟨some 11, .lenL, [.slot 10], none⟩,
         ⟨some 12, .bin .lss, [.slot 5, .slot 11], none⟩])
       (.cond (.slot 12) (.skip)
       (.exit 0)))
      (.seq (.block 1 (.seq (.reg [⟨some 15, .mv, [.slot 0], none⟩,
          ⟨some 16, .nilc, [.slot 0], none⟩,
          ⟨some 17, .fld 0, [.slot 16], none⟩,
          ⟨some 18, .load 1 false, [.slot 17], none⟩,
          ⟨some 19, .mv, [.slot 5], none⟩,
          ⟨some 20, .idxB 4, [.slot 18, .slot 5], none⟩,
          ⟨some 21, .fld 0, [.slot 20], none⟩,
          ⟨some 22, .load 1 false, [.slot 21], none⟩,
          ⟨some 23, .mv, [.slot 1], none⟩,
          ⟨some 24, .bin .eql, [.slot 22, .slot 1], none⟩])
        (.cond (.slot 24) (.seq (.reg [⟨some 25, .mv, [.slot 0], none⟩,
           ⟨some 26, .nilc, [.slot 0], none⟩,
           ⟨some 27, .fld 0, [.slot 26], none⟩,
           ⟨some 28, .load 1 false, [.slot 27], none⟩,
           ⟨some 29, .mv, [.slot 5], none⟩,
           ⟨some 30, .idxB 4, [.slot 28, .slot 5], none⟩,
           ⟨some 31, .fld 3, [.slot 30], none⟩,
           ⟨some 32, .load 1 false, [.slot 31], none⟩,
           ⟨some 33, .lenS, [.slot 32], none⟩,
           ⟨some 34, .call 26, [.slot 33], none⟩,
           ⟨some 35, .call 31, [.slot 34], none⟩,
           ⟨some 4, .give, [.slot 35], none⟩])
         (.ret))
        (.skip))))
      (.reg [⟨some 13, .mv, [.slot 5], none⟩,
       ⟨some 14, .bin .add, [.slot 5, .lit (.int .i64 1)], none⟩,
       ⟨some 5, .give, [.slot 14], none⟩]))))))
   (.seq (.reg [⟨some 4, .give, [.lit (.int .i64 0)], none⟩])
   (.ret)))),
  36, [.tmp 4]⟩
theorem c20 : cFunc Proofs.Try.prog 20 = some sf20 := by kernel_rfl
/-- (*carpetbag/vault.Vault).Sealed -/
def sf21 : SF := ⟨(.seq (.reg [⟨some 2, .give, [.lit (.int .i64 0)], none⟩])
   (.seq (.reg [⟨some 3, .mv, [.slot 0], none⟩,
     ⟨some 4, .nilc, [.slot 0], none⟩,
     ⟨some 5, .fld 0, [.slot 4], none⟩,
     ⟨some 6, .load 1 false, [.slot 5], none⟩,
     ⟨some 7, .lenM, [.slot 6], none⟩,
     ⟨some 2, .give, [.slot 7], none⟩])
   (.ret))),
  8, [.tmp 2]⟩
theorem c21 : cFunc Proofs.Try.prog 21 = some sf21 := by kernel_rfl
/-- (*carpetbag/vault.Vault).Named -/
def sf22 : SF := ⟨(.seq (.reg [⟨some 2, .give, [.lit (.int .i64 0)], none⟩])
   (.seq (.reg [⟨some 3, .mv, [.slot 0], none⟩,
     ⟨some 4, .nilc, [.slot 0], none⟩,
     ⟨some 5, .fld 1, [.slot 4], none⟩,
     ⟨some 6, .load 1 false, [.slot 5], none⟩,
     ⟨some 7, .lenM, [.slot 6], none⟩,
     ⟨some 2, .give, [.slot 7], none⟩])
   (.ret))),
  8, [.tmp 2]⟩
theorem c22 : cFunc Proofs.Try.prog 22 = some sf22 := by kernel_rfl
/-- carpetbag/pad.Bucket -/
def sf23 : SF := ⟨(.seq (.reg [⟨some 1, .box, [.slot 0], none⟩,
     ⟨some 2, .give, [.lit (.int .i64 0)], none⟩])
   (.seq (.seq (.reg [⟨some 3, .load 1 false, [.slot 1], none⟩,
      ⟨some 4, .bin .lss, [.slot 3, .lit (.int .i64 0)], none⟩,
      ⟨some 5, .mv, [.slot 4], none⟩,
      ⟨some 6, .load 1 false, [.slot 1], some (5, false)⟩,
      ⟨some 7, .bin .gtr, [.slot 6, .lit (.int .i64 16384)], some (5, false)⟩,
      ⟨some 8, .pick, [.slot 4, .lit (.bool true), .slot 7], none⟩])
    (.cond (.slot 8) (.seq (.reg [⟨some 2, .give, [.lit (.int .i64 (-1))], none⟩])
     (.ret))
    (.skip)))
   (.seq (.reg [⟨some 9, .call 33, [], none⟩,
     ⟨some 10, .mfn 34 0 1, [.slot 1], none⟩,
     ⟨some 11, .call 32, [.slot 9, .slot 10], none⟩,
     ⟨some 2, .give, [.slot 11], none⟩])
   (.ret)))),
  12, [.tmp 2]⟩
theorem c23 : cFunc Proofs.Try.prog 23 = some sf23 := by kernel_rfl
/-- carpetbag/vault.draw -/
def sf24 : SF := ⟨(.seq (.reg [⟨some 4, .give, [.lit (.int .i64 0)], none⟩])
   (.seq (.reg [⟨some 6, .mv, [.slot 0], none⟩,
     ⟨some 7, .bin .and, [.slot 0, .lit (.int .i64 4294967295)], none⟩,
     ⟨some 5, .give, [.slot 7], none⟩])
   (.seq (.block 0 (.loop (.seq (.seq (.reg [⟨some 8, .mv, [.slot 1], none⟩,
         ⟨some 9, .mv, [.slot 5], none⟩,
         ⟨some 10, .callv, [.slot 1, .slot 5], none⟩])
       (.cond (.slot 10) (.skip)
       (.exit 0)))
      (.block 1 (.reg [⟨some 11, .mv, [.slot 5], none⟩,
        ⟨some 12, .bin .add, [.slot 5, .lit (.int .i64 1)], none⟩,
        ⟨some 13, .bin .rem, [.slot 12, .lit (.int .i64 4294967296)], none⟩,
        ⟨some 5, .give, [.slot 13], none⟩])))))
   (.seq (.reg [⟨some 14, .mv, [.slot 5], none⟩,
     ⟨some 4, .give, [.slot 5], none⟩])
   (.ret))))),
  15, [.tmp 4]⟩
theorem c24 : cFunc Proofs.Try.prog 24 = some sf24 := by kernel_rfl
/-- (*carpetbag/vault.Vault).Seal$1 -/
def sf25 : SF := ⟨(.seq (.reg [⟨some 3, .give, [.lit (.bool false)], none⟩])
   (.seq (.reg [⟨some 7, .load 1 false, [.slot 1], none⟩,
     ⟨some 8, .nilc, [.slot 7], none⟩,
     ⟨some 9, .fld 0, [.slot 8], none⟩,
     ⟨some 10, .load 1 false, [.slot 9], none⟩,
     ⟨some 11, .mv, [.slot 0], none⟩,
     ⟨some 12, .lkp [.i] false true (.agg [.int .i64 0, .str [], .str []]), [.slot 10, .slot 0], none⟩,
     ⟨some 6, .mv, [.slot 12], none⟩,
     ⟨some 13, .ext 0, [.slot 12], none⟩,
     ⟨some 14, .ext 1, [.slot 12], none⟩,
     ⟨some 4, .alloc [.int .i64 0, .str [], .str []], [], none⟩,
     ⟨none, .store 3 true, [.slot 4, .slot 13], none⟩,
     ⟨some 5, .give, [.slot 14], none⟩])
   (.seq (.reg [⟨some 15, .mv, [.slot 5], none⟩,
     ⟨some 3, .give, [.slot 5], none⟩])
   (.ret)))),
  16, [.tmp 3]⟩
theorem c25 : cFunc Proofs.Try.prog 25 = some sf25 := by kernel_rfl
/-- carpetbag/carpetbagref05.Bucket -/
def sf26 : SF := ⟨(.seq (.reg [⟨some 2, .give, [.lit (.int .i64 0)], none⟩])
   (.seq (.seq (.reg [⟨some 3, .take, [.lit (.int .i64 0)], none⟩])
    (.block 0 (.loop (.seq (.seq (.reg [⟨some 4, .mv, [.slot 3], none⟩,
         ⟨some 5, .bin .lss, [.slot 3, .lit (.int .i64 4)], none⟩,
         ⟨some 6, .mv, [.slot 5], none⟩,
         ⟨some 7, .take, [.slot 0], some (6, true)⟩,
         ⟨some 8, .bin .geq, [.slot 7, .lit (.int .i64 0)], some (6, true)⟩,
         ⟨some 9, .pick, [.slot 5, .slot 8, .lit (.bool false)], none⟩])
       (.cond (.slot 9) (.skip)
       (.exit 0)))
      (.seq (.block 1 (.seq (.reg [⟨some 12, .mv, [.slot 3], none⟩,
          ⟨some 13, .call 31, [.slot 3], none⟩,
          ⟨some 14, .bin .sub, [.slot 13, .lit (.int .i64 4)], none⟩,
          ⟨some 15, .mv, [.slot 0], none⟩,
          ⟨some 16, .bin .geq, [.slot 14, .slot 0], none⟩])
        (.cond (.slot 16) (.seq (.reg [⟨some 17, .mv, [.slot 3], none⟩,
           ⟨some 2, .give, [.slot 3], none⟩])
         (.ret))
        (.skip))))
      (.reg [⟨some 10, .mv, [.slot 3], none⟩,
       ⟨some 11, .bin .add, [.slot 3, .lit (.int .i64 1)], none⟩,
       ⟨some 3, .give, [.slot 11], none⟩]))))))
   (.seq (.reg [⟨some 2, .give, [.lit (.int .i64 (-1))], none⟩])
   (.ret)))),
  18, [.tmp 2]⟩
theorem c26 : cFunc Proofs.Try.prog 26 = some sf26 := by kernel_rfl
/-- (*carpetbag/carpetbagref07.Vault).handle -/
def sf27 : SF := ⟨(.seq (.reg [⟨some 4, .give, [.lit (.bool false)], none⟩])
   (.seq (.seq (.reg [⟨some 5, .take, [.lit (.int .i64 0)], none⟩])
    (.block 0 (.loop (.seq (.seq (.reg [⟨some 6, .mv, [.slot 5], none⟩,
         ⟨some 7, .mv, [.slot 0], none⟩,
         ⟨some 8, .nilc, [.slot 0], none⟩,
         ⟨some 9, .fld 0, [.slot 8], none⟩,
         ⟨some 10, .load 1 false, [.slot 9], none⟩,
         ⟨some 11, .lenL, [.slot 10], none⟩,
         ⟨some 12, .bin .lss, [.slot 5, .slot 11], none⟩])
       (.cond (.slot 12) (.skip)
       (.exit 0)))
      (.seq (.block 1 (.seq (.reg [⟨some 15, .mv, [.slot 0], none⟩,
          ⟨some 16, .nilc, [.slot 0], none⟩,
          ⟨some 17, .fld 0, [.slot 16], none⟩,
          ⟨some 18, .load 1 false, [.slot 17], none⟩,
          ⟨some 19, .mv, [.slot 5], none⟩,
          ⟨some 20, .idxB 4, [.slot 18, .slot 5], none⟩,
          ⟨some 21, .fld 0, [.slot 20], none⟩,
          ⟨some 22, .load 1 false, [.slot 21], none⟩,
          ⟨some 23, .mv, [.slot 1], none⟩,
          ⟨some 24, .bin .eql, [.slot 22, .slot 1], none⟩])
        (.cond (.slot 24) (.seq (.reg [⟨some 4, .give, [.lit (.bool true)], none⟩])
         (.ret))
        (.skip))))
      (.reg [⟨some 13, .mv, [.slot 5], none⟩,
       ⟨some 14, .bin .add, [.slot 5, .lit (.int .i64 1)], none⟩,
       ⟨some 5, .give, [.slot 14], none⟩]))))))
   (.seq (.reg [⟨some 4, .give, [.lit (.bool false)], none⟩])
   (.ret)))),
  25, [.tmp 4]⟩
theorem c27 : cFunc Proofs.Try.prog 27 = some sf27 := by kernel_rfl
/-- (*carpetbag/vault.Vault).Name$1 -/
def sf28 : SF := ⟨(.seq (.reg [⟨some 3, .give, [.lit (.bool false)], none⟩])
   (.seq (.reg [⟨some 4, .load 1 false, [.slot 1], none⟩,
     ⟨some 5, .nilc, [.slot 4], none⟩,
     ⟨some 6, .fld 2, [.slot 5], none⟩,
     ⟨some 7, .load 1 false, [.slot 6], none⟩,
     ⟨some 8, .mv, [.slot 0], none⟩,
     ⟨some 9, .lkp [.i] false false (.bool false), [.slot 7, .slot 0], none⟩,
     ⟨some 3, .give, [.slot 9], none⟩])
   (.ret))),
  10, [.tmp 3]⟩
theorem c28 : cFunc Proofs.Try.prog 28 = some sf28 := by kernel_rfl
/-- (*carpetbag/carpetbagref07.Vault).named -/
def sf29 : SF := ⟨(.seq (.reg [⟨some 4, .give, [.lit (.bool false)], none⟩])
   (.seq (.seq (.reg [⟨some 5, .take, [.lit (.int .i64 0)], none⟩])
    (.block 0 (.loop (.seq (.seq (.reg [⟨some 6, .mv, [.slot 5], none⟩,
         ⟨some 7, .mv, [.slot 0], none⟩,
         ⟨some 8, .nilc, [.slot 0], none⟩,
         ⟨some 9, .fld 1, [.slot 8], none⟩,
         ⟨some 10, .load 1 false, [.slot 9], none⟩,
         ⟨some 11, .lenL, [.slot 10], none⟩,
         ⟨some 12, .bin .lss, [.slot 5, .slot 11], none⟩])
       (.cond (.slot 12) (.skip)
       (.exit 0)))
      (.seq (.block 1 (.seq (.reg [⟨some 15, .mv, [.slot 0], none⟩,
          ⟨some 16, .nilc, [.slot 0], none⟩,
          ⟨some 17, .fld 1, [.slot 16], none⟩,
          ⟨some 18, .load 1 false, [.slot 17], none⟩,
          ⟨some 19, .mv, [.slot 5], none⟩,
          ⟨some 20, .idxB 3, [.slot 18, .slot 5], none⟩,
          ⟨some 21, .fld 0, [.slot 20], none⟩,
          ⟨some 22, .load 1 false, [.slot 21], none⟩,
          ⟨some 23, .mv, [.slot 1], none⟩,
          ⟨some 24, .bin .eql, [.slot 22, .slot 1], none⟩])
        (.cond (.slot 24) (.seq (.reg [⟨some 4, .give, [.lit (.bool true)], none⟩])
         (.ret))
        (.skip))))
      (.reg [⟨some 13, .mv, [.slot 5], none⟩,
       ⟨some 14, .bin .add, [.slot 5, .lit (.int .i64 1)], none⟩,
       ⟨some 5, .give, [.slot 14], none⟩]))))))
   (.seq (.reg [⟨some 4, .give, [.lit (.bool false)], none⟩])
   (.ret)))),
  25, [.tmp 4]⟩
theorem c29 : cFunc Proofs.Try.prog 29 = some sf29 := by kernel_rfl
/-- carpetbag/pad.Size -/
def sf30 : SF := ⟨(.seq (.reg [⟨some 2, .give, [.lit (.int .i64 0)], none⟩])
   (.seq (.seq (.reg [⟨some 3, .mv, [.slot 0], none⟩,
      ⟨some 4, .bin .lss, [.slot 0, .lit (.int .i64 0)], none⟩,
      ⟨some 5, .mv, [.slot 4], none⟩,
      ⟨some 6, .take, [.slot 0], some (5, false)⟩,
      ⟨some 7, .call 35, [], some (5, false)⟩,
      ⟨some 8, .take, [.lit (.int .i64 4)], some (5, false)⟩,
      ⟨some 9, .bin .geq, [.slot 6, .slot 8], some (5, false)⟩,
      ⟨some 10, .pick, [.slot 4, .lit (.bool true), .slot 9], none⟩])
    (.cond (.slot 10) (.seq (.reg [⟨some 2, .give, [.lit (.int .i64 0)], none⟩])
     (.ret))
    (.skip)))
   (.seq (.reg [⟨some 11, .call 35, [], none⟩,
     ⟨some 12, .mv, [.slot 0], none⟩,
     ⟨some 13, .idxV 1 4 false, [.slot 11, .slot 0], none⟩,
     ⟨some 2, .give, [.slot 13], none⟩])
   (.ret)))),
  14, [.tmp 2]⟩
theorem c30 : cFunc Proofs.Try.prog 30 = some sf30 := by kernel_rfl
/-- carpetbag/carpetbagref05.Size -/
def sf31 : SF := ⟨(.seq (.reg [⟨some 2, .give, [.lit (.int .i64 0)], none⟩])
   (.seq (.seq (.reg [⟨some 3, .mv, [.slot 0], none⟩])
    (.block 0 (.seq (.reg [⟨some 5, .bin .eql, [.slot 3, .lit (.int .i64 0)], none⟩,
       ⟨some 4, .give, [.slot 5], none⟩])
     (.cond (.slot 4) (.seq (.reg [⟨some 2, .give, [.lit (.int .i64 80)], none⟩])
      (.ret))
     (.seq (.reg [⟨some 7, .bin .eql, [.slot 3, .lit (.int .i64 1)], none⟩,
        ⟨some 6, .give, [.slot 7], none⟩])
      (.cond (.slot 6) (.seq (.reg [⟨some 2, .give, [.lit (.int .i64 320)], none⟩])
       (.ret))
      (.seq (.reg [⟨some 9, .bin .eql, [.slot 3, .lit (.int .i64 2)], none⟩,
         ⟨some 8, .give, [.slot 9], none⟩])
       (.cond (.slot 8) (.seq (.reg [⟨some 2, .give, [.lit (.int .i64 1280)], none⟩])
        (.ret))
       (.seq (.reg [⟨some 11, .bin .eql, [.slot 3, .lit (.int .i64 3)], none⟩,
          ⟨some 10, .give, [.slot 11], none⟩])
        (.cond (.slot 10) (.seq (.reg [⟨some 2, .give, [.lit (.int .i64 5120)], none⟩])
         (.ret))
        (.skip)))))))))))
   (.seq (.reg [⟨some 2, .give, [.lit (.int .i64 0)], none⟩])
   (.ret)))),
  12, [.tmp 2]⟩
theorem c31 : cFunc Proofs.Try.prog 31 = some sf31 := by kernel_rfl
/-- slices.IndexFunc[[]int,int] -/
def sf32 : SF := ⟨(.seq (.reg [⟨some 4, .give, [.lit (.int .i64 0)], none⟩])
   (.seq (.seq (.reg [⟨some 6, .mv, [.slot 0], none⟩,
      ⟨some 7, .lenL, [.slot 0], none⟩,
      ⟨some 8, .mv, [.lit (.int .i64 0)], none⟩])
    (.block 0 (.loop (.seq (.reg [⟨some 9, .bin .lss, [.slot 8, .slot 7], none⟩])
      (.seq (.cond (.slot 9) (.skip)
       (.exit 0))
      (.seq (.block 1 (.seq (.reg [⟨some 10, .mv, [.slot 8], none⟩,
          ⟨some 5, .take, [.slot 8], none⟩])
        (.seq (.reg [⟨some 11, .mv, [.slot 1], none⟩,
          ⟨some 12, .mv, [.slot 0], none⟩,
          ⟨some 13, .mv, [.slot 5], none⟩,
          ⟨some 14, .idxB 1, [.slot 0, .slot 5], none⟩,
          ⟨some 15, .load 1 false, [.slot 14], none⟩,
          ⟨some 16, .callv, [.slot 1, .slot 15], none⟩])
        (.cond (.slot 16) (.seq (.reg [⟨some 17, .mv, [.slot 5], none⟩,
           ⟨some 4, .give, [.slot 5], none⟩])
         (.ret))
        (.skip)))))
      (.reg [⟨some 18, .bin .add, [.slot 8, .lit (.int .i64 1)], none⟩,
       ⟨some 8, .mv, [.slot 18], none⟩])))))))
   (.seq (.reg [⟨some 4, .give, [.lit (.int .i64 (-1))], none⟩])
   (.ret)))),
  19, [.tmp 4]⟩
theorem c32 : cFunc Proofs.Try.prog 32 = some sf32 := by kernel_rfl
/-- carpetbag/pad.Sizes -/
def sf33 : SF := ⟨(.seq (.reg [⟨some 0, .give, [.lit (.nilS)], none⟩])
   (.seq (.reg [⟨some 2, .call 35, [], none⟩,
     ⟨some 1, .alloc [.int .i64 0, .int .i64 0, .int .i64 0, .int .i64 0], [], none⟩,
     ⟨none, .store 4 true, [.slot 1, .slot 2], none⟩])
   (.seq (.reg [⟨some 3, .slcP 1 4 false false false, [.slot 1], none⟩,
     ⟨some 4, .call 36, [.slot 3], none⟩,
     ⟨some 0, .give, [.slot 4], none⟩])
   (.ret)))),
  5, [.tmp 0]⟩
theorem c33 : cFunc Proofs.Try.prog 33 = some sf33 := by kernel_rfl
/-- carpetbag/pad.Bucket$1 -/
def sf34 : SF := ⟨(.seq (.reg [⟨some 3, .give, [.lit (.bool false)], none⟩])
   (.seq (.reg [⟨some 4, .mv, [.slot 0], none⟩,
     ⟨some 5, .load 1 false, [.slot 1], none⟩,
     ⟨some 6, .bin .add, [.slot 5, .lit (.int .i64 4)], none⟩,
     ⟨some 7, .bin .geq, [.slot 0, .slot 6], none⟩,
     ⟨some 3, .give, [.slot 7], none⟩])
   (.ret))),
  8, [.tmp 3]⟩
theorem c34 : cFunc Proofs.Try.prog 34 = some sf34 := by kernel_rfl
/-- carpetbag/pad.all -/
def sf35 : SF := ⟨(.seq (.reg [⟨some 0, .alloc [.int .i64 0, .int .i64 0, .int .i64 0, .int .i64 0], [], none⟩])
   (.seq (.reg [⟨some 1, .bld [.int .i64 0, .int .i64 0, .int .i64 0, .int .i64 0] [(0, 1), (1, 1), (2, 1), (3, 1)], [.lit (.int .i64 80), .lit (.int .i64 320), .lit (.int .i64 1280), .lit (.int .i64 5120)], none⟩,
     ⟨none, .store 4 true, [.slot 0, .slot 1], none⟩])
   (.ret))),
  2, [.cell 0 4 true]⟩
theorem c35 : cFunc Proofs.Try.prog 35 = some sf35 := by kernel_rfl
/-- slices.Clone[[]int,int] -/
def sf36 : SF := ⟨(.seq (.reg [⟨some 2, .give, [.lit (.nilS)], none⟩])
   (.seq (.seq (.reg [⟨some 3, .mv, [.slot 0], none⟩,
      ⟨some 4, .eqN .s false, [.slot 0, .lit (.nilS)], none⟩])
    (.cond (.slot 4) (.seq (.reg [⟨some 2, .give, [.lit (.nilS)], none⟩])
     (.ret))
    (.skip)))
   (.seq (.reg [⟨some 5, .bsl 1 0 [.int .i64 0] [], [], none⟩,
     ⟨some 6, .mv, [.slot 0], none⟩,
     ⟨some 7, .app 1 8 [.int .i64 0], [.slot 5, .slot 0], none⟩,
     ⟨some 2, .give, [.slot 7], none⟩])
   (.ret)))),
  8, [.tmp 2]⟩
theorem c36 : cFunc Proofs.Try.prog 36 = some sf36 := by kernel_rfl
end Go.Sh.F
