/- The abstract functions. -/
import Derived.Test.YtnafklimohmfkaaDoorAbs
namespace Go.AbY
open Go.Ab
set_option maxRecDepth 100000
noncomputable def c5_1 : ACode := .region none [⟨some 66, none, .move (.t 13)⟩,
   ⟨some 67, none, .bin .add (.t 66) (.c (.int .i64 1))⟩,
   ⟨some 13, none, .move (.t 67)⟩]
noncomputable def c5_2 : ACode := .mask (.n (.n (.n (.n .e true .e) true (.n .e true .e)) true (.n .e false (.n .e true .e))) false (.n (.n (.n .e true .e) false (.n .e true .e)) true (.n (.n .e true .e) false .e))) (c5_1)
noncomputable def c5_3 : ACode := .seq (.block 3 (.region (some []) [⟨some 68, none, .move (.t 12)⟩,
   ⟨some 69, none, .move (.t 13)⟩,
   ⟨some 70, none, .move (.t 1)⟩,
   ⟨some 71, none, .move (.t 13)⟩,
   ⟨some 72, none, .idxSl 1 (.t 70) (.t 71)⟩,
   ⟨some 73, none, .load none (.t 72)⟩,
   ⟨some 74, none, .move (.t 11)⟩,
   ⟨some 75, none, .move (.t 2)⟩,
   ⟨some 76, none, .move (.t 13)⟩,
   ⟨some 77, none, .idxSl 1 (.t 75) (.t 76)⟩,
   ⟨some 78, none, .load none (.t 77)⟩,
   ⟨some 79, none, .bin .mul (.t 74) (.t 78)⟩,
   ⟨some 80, none, .bin .add (.t 73) (.t 79)⟩,
   ⟨some 81, none, .idxSl 1 (.t 68) (.t 69)⟩,
   ⟨none, none, .store 1 (.t 81) (.t 80)⟩]))
  (c5_2)
noncomputable def c5_4 : ACode := .mask (.n (.n (.n (.n .e true .e) true (.n .e true .e)) true (.n .e false (.n .e true .e))) false (.n (.n (.n .e true .e) false (.n .e true .e)) true (.n (.n .e true .e) false .e))) (c5_3)
noncomputable def c5_5 : ACode := .seq (.seq (.region none [⟨some 62, none, .move (.t 13)⟩,
   ⟨some 63, none, .move (.t 1)⟩,
   ⟨some 64, none, .len false (.t 63)⟩,
   ⟨some 65, none, .bin .lss (.t 62) (.t 64)⟩])
  (.cond (.t 65) (.skip)
  (.exit 2)))
  (c5_4)
noncomputable def c5_6 : ACode := .region none [⟨some 99, none, .move (.t 10)⟩,
   ⟨some 100, none, .move (.t 14)⟩,
   ⟨some 101, none, .buildSliceR 1 [.t 100]⟩,
   ⟨some 102, none, .appendR 1 24 none (.t 99) (.t 101)⟩,
   ⟨some 10, none, .move (.t 102)⟩]
noncomputable def c5_7 : ACode := .mask (.n (.n (.n (.n .e true .e) true (.n .e true .e)) true .e) false (.n (.n (.n .e true .e) false .e) true (.n (.n .e true .e) false (.n .e true .e)))) (c5_6)
noncomputable def c5_8 : ACode := .seq (.region (some []) [⟨some 83, none, .load (some 4) (.t 3)⟩,
   ⟨some 84, none, .callP 15 [.c (.int .i64 0), .c (.int .i64 0)]⟩,
   ⟨some 85, none, .callP 10 [.t 84]⟩,
   ⟨some 86, none, .move (.t 12)⟩,
   ⟨some 87, none, .call 9 [.t 83, .t 85, .t 86]⟩,
   ⟨some 82, none, .move (.t 87)⟩,
   ⟨some 88, none, .extract (.t 82) 0⟩,
   ⟨some 89, none, .extract (.t 82) 1⟩,
   ⟨some 14, none, .move (.t 88)⟩,
   ⟨some 15, none, .move (.t 89)⟩])
  (.seq (.seq (.region none [⟨some 90, none, .move (.t 15)⟩,
   ⟨some 91, none, .bin .neq (.t 90) (.c (.int .i64 0))⟩,
   ⟨some 92, none, .move (.t 91)⟩,
   ⟨some 93, (some (92, false)), .move (.t 14)⟩,
   ⟨some 94, (some (92, false)), .len false (.t 93)⟩,
   ⟨some 95, (some (92, false)), .move (.t 8)⟩,
   ⟨some 96, (some (92, false)), .len false (.t 95)⟩,
   ⟨some 97, (some (92, false)), .bin .neq (.t 94) (.t 96)⟩,
   ⟨some 98, none, .pick (.t 92) (.c (.bool true)) (.t 97)⟩])
  (.cond (.t 98) (.seq (.region none [⟨some 6, none, .move (.c (.bool false))⟩])
  (.ret))
  (.skip)))
  (c5_7))
noncomputable def c5_9 : ACode := .mask (.n (.n (.n (.n .e true .e) true (.n .e true .e)) true .e) false (.n (.n (.n .e true .e) false (.n .e true .e)) true (.n (.n .e true .e) false .e))) (c5_8)
noncomputable def c5_10 : ACode := .region none [⟨some 57, none, .move (.t 11)⟩,
   ⟨some 58, none, .bin .add (.t 57) (.c (.int .i64 1))⟩,
   ⟨some 11, none, .move (.t 58)⟩]
noncomputable def c5_11 : ACode := .mask (.n (.n (.n (.n .e true .e) true (.n .e true .e)) true .e) false (.n (.n (.n .e true .e) false .e) true (.n (.n .e true .e) false .e))) (c5_10)
noncomputable def c5_12 : ACode := .seq (.block 1 (.seq (.region none [⟨some 59, none, .move (.t 1)⟩,
   ⟨some 60, none, .len false (.t 59)⟩,
   ⟨some 61, none, .makeSlice [.int .i64 0] 8 (.t 60) (.t 60)⟩,
   ⟨some 12, none, .move (.t 61)⟩])
  (.seq (.seq (.region none [⟨some 13, none, .move (.c (.int .i64 0))⟩])
  (.block 2 (.loop (.n (.n (.n (.n .e true .e) true (.n .e true .e)) true (.n .e false (.n .e true .e))) false (.n (.n (.n .e true .e) false (.n .e true .e)) true (.n (.n .e true .e) false .e))) (c5_5))))
  (c5_9))))
  (c5_11)
noncomputable def c5_13 : ACode := .mask (.n (.n (.n (.n .e true .e) true (.n .e true .e)) true .e) false (.n (.n (.n .e true .e) false .e) true (.n (.n .e true .e) false .e))) (c5_12)
noncomputable def c5_14 : ACode := .seq (.seq (.region none [⟨some 55, none, .move (.t 11)⟩,
   ⟨some 56, none, .bin .leq (.t 55) (.c (.int .i64 13))⟩])
  (.cond (.t 56) (.skip)
  (.exit 0)))
  (c5_13)
noncomputable def c5_15 : ACode := .region none [⟨some 117, none, .move (.t 18)⟩,
   ⟨some 118, none, .bin .add (.t 117) (.c (.int .i64 1))⟩,
   ⟨some 18, none, .move (.t 118)⟩]
noncomputable def c5_16 : ACode := .mask (.n (.n (.n (.n .e true .e) false .e) false (.n (.n (.n .e true .e) false .e) false .e)) false (.n (.n (.n (.n .e true .e) true .e) false .e) false (.n (.n (.n .e true .e) true .e) false .e))) (c5_15)
noncomputable def c5_17 : ACode := .seq (.block 9 (.region (some []) [⟨some 119, none, .move (.t 10)⟩,
   ⟨some 120, none, .move (.t 17)⟩,
   ⟨some 121, none, .idxSl 1 (.t 119) (.t 120)⟩,
   ⟨some 122, none, .load none (.t 121)⟩,
   ⟨some 123, none, .move (.t 18)⟩,
   ⟨some 124, none, .move (.t 10)⟩,
   ⟨some 125, none, .move (.t 17)⟩,
   ⟨some 126, none, .bin .add (.t 125) (.c (.int .i64 1))⟩,
   ⟨some 127, none, .idxSl 1 (.t 124) (.t 126)⟩,
   ⟨some 128, none, .load none (.t 127)⟩,
   ⟨some 129, none, .move (.t 18)⟩,
   ⟨some 130, none, .idxSl 1 (.t 128) (.t 129)⟩,
   ⟨some 131, none, .load none (.t 130)⟩,
   ⟨some 132, none, .move (.t 10)⟩,
   ⟨some 133, none, .move (.t 17)⟩,
   ⟨some 134, none, .idxSl 1 (.t 132) (.t 133)⟩,
   ⟨some 135, none, .load none (.t 134)⟩,
   ⟨some 136, none, .move (.t 18)⟩,
   ⟨some 137, none, .idxSl 1 (.t 135) (.t 136)⟩,
   ⟨some 138, none, .load none (.t 137)⟩,
   ⟨some 139, none, .bin .sub (.t 131) (.t 138)⟩,
   ⟨some 140, none, .idxSl 1 (.t 122) (.t 123)⟩,
   ⟨none, none, .store 1 (.t 140) (.t 139)⟩]))
  (c5_16)
noncomputable def c5_18 : ACode := .mask (.n (.n (.n (.n .e true .e) false .e) false (.n (.n (.n .e true .e) false .e) false .e)) false (.n (.n (.n (.n .e true .e) true .e) false .e) false (.n (.n (.n .e true .e) true .e) false .e))) (c5_17)
noncomputable def c5_19 : ACode := .seq (.seq (.region none [⟨some 113, none, .move (.t 18)⟩,
   ⟨some 114, none, .move (.t 8)⟩,
   ⟨some 115, none, .len false (.t 114)⟩,
   ⟨some 116, none, .bin .lss (.t 113) (.t 115)⟩])
  (.cond (.t 116) (.skip)
  (.exit 8)))
  (c5_18)
noncomputable def c5_20 : ACode := .region none [⟨some 111, none, .move (.t 17)⟩,
   ⟨some 112, none, .bin .add (.t 111) (.c (.int .i64 1))⟩,
   ⟨some 17, none, .move (.t 112)⟩]
noncomputable def c5_21 : ACode := .mask (.n (.n (.n (.n .e true .e) false .e) false (.n (.n (.n .e true .e) false .e) false .e)) false (.n (.n (.n (.n .e true .e) true .e) false .e) false (.n (.n .e true .e) false .e))) (c5_20)
noncomputable def c5_22 : ACode := .seq (.block 7 (.seq (.region none [⟨some 18, none, .move (.c (.int .i64 0))⟩])
  (.block 8 (.loop (.n (.n (.n (.n .e true .e) false .e) false (.n (.n (.n .e true .e) false .e) false .e)) false (.n (.n (.n (.n .e true .e) true .e) false .e) false (.n (.n (.n .e true .e) true .e) false .e))) (c5_19)))))
  (c5_21)
noncomputable def c5_23 : ACode := .mask (.n (.n (.n (.n .e true .e) false .e) false (.n (.n (.n .e true .e) false .e) false .e)) false (.n (.n (.n (.n .e true .e) true .e) false .e) false (.n (.n .e true .e) false .e))) (c5_22)
noncomputable def c5_24 : ACode := .seq (.seq (.region none [⟨some 107, none, .move (.t 17)⟩,
   ⟨some 108, none, .move (.t 16)⟩,
   ⟨some 109, none, .bin .add (.t 107) (.t 108)⟩,
   ⟨some 110, none, .bin .leq (.t 109) (.c (.int .i64 13))⟩])
  (.cond (.t 110) (.skip)
  (.exit 6)))
  (c5_23)
noncomputable def c5_25 : ACode := .region none [⟨some 145, none, .move (.t 19)⟩,
   ⟨some 146, none, .bin .add (.t 145) (.c (.int .i64 1))⟩,
   ⟨some 19, none, .move (.t 146)⟩]
noncomputable def c5_26 : ACode := .mask (.n (.n (.n (.n .e true .e) false (.n (.n .e true .e) false .e)) false .e) false (.n (.n (.n (.n .e true .e) true .e) false .e) false (.n (.n .e true .e) false .e))) (c5_25)
noncomputable def c5_27 : ACode := .seq (.block 11 (.seq (.region none [⟨some 147, none, .move (.t 8)⟩,
   ⟨some 148, none, .move (.t 19)⟩,
   ⟨some 149, none, .idxSl 1 (.t 147) (.t 148)⟩,
   ⟨some 150, none, .load none (.t 149)⟩,
   ⟨some 151, none, .move (.t 16)⟩,
   ⟨some 152, none, .bin .lss (.t 150) (.t 151)⟩,
   ⟨some 153, none, .move (.t 152)⟩,
   ⟨some 154, (some (153, true)), .move (.t 10)⟩,
   ⟨some 155, (some (153, true)), .idxSl 1 (.t 154) (.c (.int .i64 0))⟩,
   ⟨some 156, (some (153, true)), .load none (.t 155)⟩,
   ⟨some 157, (some (153, true)), .move (.t 19)⟩,
   ⟨some 158, (some (153, true)), .idxSl 1 (.t 156) (.t 157)⟩,
   ⟨some 159, (some (153, true)), .load none (.t 158)⟩,
   ⟨some 160, (some (153, true)), .bin .neq (.t 159) (.c (.int .i64 0))⟩,
   ⟨some 161, none, .pick (.t 153) (.t 160) (.c (.bool false))⟩])
  (.cond (.t 161) (.seq (.region none [⟨some 6, none, .move (.c (.bool false))⟩])
  (.ret))
  (.skip))))
  (c5_26)
noncomputable def c5_28 : ACode := .mask (.n (.n (.n (.n .e true .e) false (.n (.n .e true .e) false .e)) false .e) false (.n (.n (.n (.n .e true .e) true .e) false .e) false (.n (.n .e true .e) false .e))) (c5_27)
noncomputable def c5_29 : ACode := .seq (.seq (.region none [⟨some 141, none, .move (.t 19)⟩,
   ⟨some 142, none, .move (.t 8)⟩,
   ⟨some 143, none, .len false (.t 142)⟩,
   ⟨some 144, none, .bin .lss (.t 141) (.t 143)⟩])
  (.cond (.t 144) (.skip)
  (.exit 10)))
  (c5_28)
noncomputable def c5_30 : ACode := .seq (.region none [⟨some 19, none, .move (.c (.int .i64 0))⟩])
  (.block 10 (.loop (.n (.n (.n (.n .e true .e) false (.n (.n .e true .e) false .e)) false .e) false (.n (.n (.n (.n .e true .e) true .e) false .e) false (.n (.n .e true .e) false .e))) (c5_29)))
noncomputable def c5_31 : ACode := .mask (.n (.n (.n (.n .e true .e) false .e) false .e) false (.n (.n (.n (.n .e true .e) true .e) false .e) false (.n (.n .e true .e) false .e))) (c5_30)
noncomputable def c5_32 : ACode := .region none [⟨some 105, none, .move (.t 16)⟩,
   ⟨some 106, none, .bin .add (.t 105) (.c (.int .i64 1))⟩,
   ⟨some 16, none, .move (.t 106)⟩]
noncomputable def c5_33 : ACode := .mask (.n (.n (.n (.n .e true .e) false .e) false .e) false (.n (.n (.n (.n .e true .e) true .e) false .e) false (.n (.n .e true .e) false .e))) (c5_32)
noncomputable def c5_34 : ACode := .seq (.block 5 (.seq (.seq (.region none [⟨some 17, none, .move (.c (.int .i64 0))⟩])
  (.block 6 (.loop (.n (.n (.n (.n .e true .e) false .e) false (.n (.n (.n .e true .e) false .e) false .e)) false (.n (.n (.n (.n .e true .e) true .e) false .e) false (.n (.n .e true .e) false .e))) (c5_24))))
  (c5_31)))
  (c5_33)
noncomputable def c5_35 : ACode := .mask (.n (.n (.n (.n .e true .e) false .e) false .e) false (.n (.n (.n (.n .e true .e) true .e) false .e) false (.n (.n .e true .e) false .e))) (c5_34)
noncomputable def c5_36 : ACode := .seq (.seq (.region none [⟨some 103, none, .move (.t 16)⟩,
   ⟨some 104, none, .bin .leq (.t 103) (.c (.int .i64 13))⟩])
  (.cond (.t 104) (.skip)
  (.exit 4)))
  (c5_35)
noncomputable def c5_37 : ACode := .seq (.region none [⟨some 162, none, .move (.t 7)⟩,
   ⟨some 6, none, .move (.t 162)⟩])
  (.ret)
noncomputable def c5_38 : ACode := .mask (.n (.n (.n (.n .e true .e) false .e) false .e) false .e) (c5_37)
noncomputable def c5_39 : ACode := .seq (.seq (.region none [⟨some 16, none, .move (.c (.int .i64 1))⟩])
  (.block 4 (.loop (.n (.n (.n (.n .e true .e) false .e) false .e) false (.n (.n (.n (.n .e true .e) true .e) false .e) false (.n (.n .e true .e) false .e))) (c5_36))))
  (c5_38)
noncomputable def c5_40 : ACode := .mask (.n (.n (.n (.n .e true .e) false .e) false .e) false (.n (.n (.n .e true .e) false .e) false (.n (.n .e true .e) false .e))) (c5_39)
noncomputable def c5_41 : ACode := .seq (.region none [⟨some 10, none, .move (.c (.sl 1 [] .nil))⟩])
  (.seq (.seq (.region none [⟨some 11, none, .move (.c (.int .i64 0))⟩])
  (.block 0 (.loop (.n (.n (.n (.n .e true .e) true (.n .e true .e)) true .e) false (.n (.n (.n .e true .e) false .e) true (.n (.n .e true .e) false .e))) (c5_14))))
  (c5_40))
noncomputable def c5_42 : ACode := .mask (.n (.n (.n (.n .e true .e) true .e) true .e) false (.n (.n (.n .e true .e) false .e) true .e)) (c5_41)
noncomputable def c5_b : ACode := .seq (.region none [⟨some 3, none, .boxRo (.t 0)⟩,
   ⟨some 6, none, .move (.c (.bool false))⟩])
  (.seq (.region none [⟨some 20, none, .callP 6 []⟩,
   ⟨some 7, none, .move (.t 20)⟩])
  (.seq (.region none [⟨some 22, none, .load (some 4) (.t 3)⟩,
   ⟨some 23, none, .call 11 [.t 22]⟩,
   ⟨some 21, none, .move (.t 23)⟩,
   ⟨some 24, none, .extract (.t 21) 0⟩,
   ⟨some 25, none, .extract (.t 21) 1⟩,
   ⟨some 8, none, .move (.t 24)⟩,
   ⟨some 9, none, .move (.t 25)⟩])
  (.seq (.seq (.region none [⟨some 26, none, .move (.t 9)⟩,
   ⟨some 27, none, .bin .neq (.t 26) (.c (.int .i64 0))⟩,
   ⟨some 28, none, .move (.t 27)⟩,
   ⟨some 29, (some (28, false)), .fieldAddr 3 (.t 3)⟩,
   ⟨some 30, (some (28, false)), .load none (.t 29)⟩,
   ⟨some 31, (some (28, false)), .len false (.t 30)⟩,
   ⟨some 32, (some (28, false)), .bin .gtr (.t 31) (.c (.int .i64 0))⟩,
   ⟨some 33, none, .pick (.t 28) (.c (.bool true)) (.t 32)⟩,
   ⟨some 34, none, .move (.t 33)⟩,
   ⟨some 35, (some (34, false)), .move (.t 1)⟩,
   ⟨some 36, (some (34, false)), .len false (.t 35)⟩,
   ⟨some 37, (some (34, false)), .fieldAddr 0 (.t 3)⟩,
   ⟨some 38, (some (34, false)), .load none (.t 37)⟩,
   ⟨some 39, (some (34, false)), .bin .neq (.t 36) (.t 38)⟩,
   ⟨some 40, none, .pick (.t 34) (.c (.bool true)) (.t 39)⟩,
   ⟨some 41, none, .move (.t 40)⟩,
   ⟨some 42, (some (41, false)), .move (.t 2)⟩,
   ⟨some 43, (some (41, false)), .len false (.t 42)⟩,
   ⟨some 44, (some (41, false)), .fieldAddr 0 (.t 3)⟩,
   ⟨some 45, (some (41, false)), .load none (.t 44)⟩,
   ⟨some 46, (some (41, false)), .bin .neq (.t 43) (.t 45)⟩,
   ⟨some 47, none, .pick (.t 41) (.c (.bool true)) (.t 46)⟩,
   ⟨some 48, none, .move (.t 47)⟩,
   ⟨some 49, (some (48, false)), .fieldAddr 1 (.t 3)⟩,
   ⟨some 50, (some (48, false)), .load none (.t 49)⟩,
   ⟨some 51, (some (48, false)), .len false (.t 50)⟩,
   ⟨some 52, (some (48, false)), .bin .gtr (.t 51) (.c (.int .i64 400))⟩,
   ⟨some 53, none, .pick (.t 48) (.c (.bool true)) (.t 52)⟩])
  (.cond (.t 53) (.seq (.region none [⟨some 54, none, .move (.t 7)⟩,
   ⟨some 6, none, .move (.t 54)⟩])
  (.ret))
  (.skip)))
  (c5_42))))
noncomputable def c5 : AFn := { np := 3, nt := 163, results := [.t 6], keep := false, body := c5_b }
noncomputable def c6_1 : ACode := .seq (.region (some []) [⟨some 39, none, .load (some 4) (.t 2)⟩,
   ⟨some 40, none, .callP 15 [.c (.int .i64 0), .c (.int .i64 0)]⟩,
   ⟨some 41, none, .callP 10 [.t 40]⟩,
   ⟨some 42, none, .buildSlice 1 [.c (.int .i64 0), .c (.int .i64 0), .c (.int .i64 3), .c (.int .i64 4)]⟩,
   ⟨some 43, none, .call 9 [.t 39, .t 41, .t 42]⟩,
   ⟨some 38, none, .move (.t 43)⟩,
   ⟨some 44, none, .extract (.t 38) 0⟩,
   ⟨some 45, none, .extract (.t 38) 1⟩,
   ⟨some 4, none, .move (.t 44)⟩,
   ⟨some 5, none, .move (.t 45)⟩])
  (.seq (.region none [⟨some 46, none, .move (.t 5)⟩,
   ⟨some 47, none, .bin .eql (.t 46) (.c (.int .i64 0))⟩,
   ⟨some 48, none, .move (.t 47)⟩,
   ⟨some 49, (some (48, true)), .move (.t 4)⟩,
   ⟨some 50, (some (48, true)), .len false (.t 49)⟩,
   ⟨some 51, (some (48, true)), .fieldAddr 1 (.t 2)⟩,
   ⟨some 52, (some (48, true)), .load none (.t 51)⟩,
   ⟨some 53, (some (48, true)), .len false (.t 52)⟩,
   ⟨some 54, (some (48, true)), .bin .eql (.t 50) (.t 53)⟩,
   ⟨some 55, none, .pick (.t 48) (.t 54) (.c (.bool false))⟩,
   ⟨some 56, none, .move (.t 55)⟩,
   ⟨some 57, (some (56, true)), .move (.t 4)⟩,
   ⟨some 58, (some (56, true)), .fieldAddr 2 (.t 2)⟩,
   ⟨some 59, (some (56, true)), .load none (.t 58)⟩,
   ⟨some 60, (some (56, true)), .idxSl 1 (.t 59) (.c (.int .i64 2))⟩,
   ⟨some 61, (some (56, true)), .load none (.t 60)⟩,
   ⟨some 62, (some (56, true)), .idxSl 1 (.t 61) (.c (.int .i64 0))⟩,
   ⟨some 63, (some (56, true)), .load none (.t 62)⟩,
   ⟨some 64, (some (56, true)), .idxSl 1 (.t 57) (.t 63)⟩,
   ⟨some 65, (some (56, true)), .load none (.t 64)⟩,
   ⟨some 66, (some (56, true)), .bin .eql (.t 65) (.c (.int .i64 (-4)))⟩,
   ⟨some 67, none, .pick (.t 56) (.t 66) (.c (.bool false))⟩,
   ⟨some 68, none, .move (.t 67)⟩,
   ⟨some 69, (some (68, true)), .move (.t 4)⟩,
   ⟨some 70, (some (68, true)), .fieldAddr 2 (.t 2)⟩,
   ⟨some 71, (some (68, true)), .load none (.t 70)⟩,
   ⟨some 72, (some (68, true)), .idxSl 1 (.t 71) (.c (.int .i64 2))⟩,
   ⟨some 73, (some (68, true)), .load none (.t 72)⟩,
   ⟨some 74, (some (68, true)), .idxSl 1 (.t 73) (.c (.int .i64 1))⟩,
   ⟨some 75, (some (68, true)), .load none (.t 74)⟩,
   ⟨some 76, (some (68, true)), .idxSl 1 (.t 69) (.t 75)⟩,
   ⟨some 77, (some (68, true)), .load none (.t 76)⟩,
   ⟨some 78, (some (68, true)), .bin .eql (.t 77) (.c (.int .i64 3))⟩,
   ⟨some 79, none, .pick (.t 68) (.t 78) (.c (.bool false))⟩,
   ⟨some 80, none, .move (.t 79)⟩,
   ⟨some 81, (some (80, true)), .move (.t 4)⟩,
   ⟨some 82, (some (80, true)), .fieldAddr 2 (.t 2)⟩,
   ⟨some 83, (some (80, true)), .load none (.t 82)⟩,
   ⟨some 84, (some (80, true)), .idxSl 1 (.t 83) (.c (.int .i64 2))⟩,
   ⟨some 85, (some (80, true)), .load none (.t 84)⟩,
   ⟨some 86, (some (80, true)), .idxSl 1 (.t 85) (.c (.int .i64 2))⟩,
   ⟨some 87, (some (80, true)), .load none (.t 86)⟩,
   ⟨some 88, (some (80, true)), .idxSl 1 (.t 81) (.t 87)⟩,
   ⟨some 89, (some (80, true)), .load none (.t 88)⟩,
   ⟨some 90, (some (80, true)), .bin .eql (.t 89) (.c (.int .i64 0))⟩,
   ⟨some 91, none, .pick (.t 80) (.t 90) (.c (.bool false))⟩,
   ⟨some 0, none, .move (.t 91)⟩])
  (.ret))
noncomputable def c6_2 : ACode := .mask (.n .e false (.n .e true .e)) (c6_1)
noncomputable def c6_b : ACode := .seq (.region none [⟨some 0, none, .move (.c (.bool false))⟩])
  (.seq (.region none [⟨some 6, none, .call 16 [.c (.int .i64 0)]⟩,
   ⟨some 7, none, .call 16 [.c (.int .i64 0)]⟩,
   ⟨some 8, none, .build [.str [], .int .i64 0, .sl 1 [] .nil, .bool false, .sl 1 [] .nil, .bool false, .sl 1 [] .nil, .bool false, .sl 1 [] .nil, .bool false, .sl 1 [] .nil, .int .i64 0] [(0, 1, .c (.str [65])), (1, 1, .c (.int .i64 1)), (3, 4, .t 6), (7, 4, .t 7)]⟩,
   ⟨some 9, none, .call 16 [.c (.int .i64 3)]⟩,
   ⟨some 10, none, .call 16 [.c (.int .i64 4)]⟩,
   ⟨some 11, none, .build [.str [], .int .i64 0, .sl 1 [] .nil, .bool false, .sl 1 [] .nil, .bool false, .sl 1 [] .nil, .bool false, .sl 1 [] .nil, .bool false, .sl 1 [] .nil, .int .i64 0] [(0, 1, .c (.str [66])), (1, 1, .c (.int .i64 1)), (3, 4, .t 9), (7, 4, .t 10)]⟩,
   ⟨some 12, none, .buildSlice 1 [.c (.int .i64 0), .c (.int .i64 1)]⟩,
   ⟨some 13, none, .build [.bool false, .sl 1 [] .nil, .bool false, .sl 1 [] .nil] []⟩,
   ⟨some 14, none, .build [.bool false, .sl 1 [] .nil, .bool false, .sl 1 [] .nil] []⟩,
   ⟨some 15, none, .build [.str [], .int .i64 0, .sl 1 [] .nil, .bool false, .sl 1 [] .nil, .bool false, .sl 1 [] .nil, .bool false, .sl 1 [] .nil, .bool false, .sl 1 [] .nil, .int .i64 0] [(0, 1, .c (.str [108])), (1, 1, .c (.int .i64 3)), (2, 1, .t 12), (3, 4, .t 13), (7, 4, .t 14)]⟩,
   ⟨some 16, none, .buildSlice 12 [.t 8, .t 11, .t 15]⟩,
   ⟨some 1, none, .move (.t 16)⟩])
  (.seq (.region none [⟨some 18, none, .move (.t 1)⟩,
   ⟨some 19, none, .call 17 [.t 18]⟩,
   ⟨some 17, none, .move (.t 19)⟩,
   ⟨some 20, none, .extract (.t 17) 0⟩,
   ⟨some 21, none, .extract (.t 17) 1⟩,
   ⟨some 2, none, .alloc [.int .i64 0, .sl 3 [] .nil, .sl 1 [] .nil, .sl 1 [] .nil]⟩,
   ⟨none, none, .store 4 (.t 2) (.t 20)⟩,
   ⟨some 3, none, .move (.t 21)⟩])
  (.seq (.seq (.region none [⟨some 22, none, .move (.t 3)⟩,
   ⟨some 23, none, .bin .neq (.t 22) (.c (.int .i64 0))⟩,
   ⟨some 24, none, .move (.t 23)⟩,
   ⟨some 25, (some (24, false)), .fieldAddr 2 (.t 2)⟩,
   ⟨some 26, (some (24, false)), .load none (.t 25)⟩,
   ⟨some 27, (some (24, false)), .len false (.t 26)⟩,
   ⟨some 28, (some (24, false)), .bin .neq (.t 27) (.c (.int .i64 3))⟩,
   ⟨some 29, none, .pick (.t 24) (.c (.bool true)) (.t 28)⟩,
   ⟨some 30, none, .move (.t 29)⟩,
   ⟨some 31, (some (30, false)), .fieldAddr 2 (.t 2)⟩,
   ⟨some 32, (some (30, false)), .load none (.t 31)⟩,
   ⟨some 33, (some (30, false)), .idxSl 1 (.t 32) (.c (.int .i64 2))⟩,
   ⟨some 34, (some (30, false)), .load none (.t 33)⟩,
   ⟨some 35, (some (30, false)), .len false (.t 34)⟩,
   ⟨some 36, (some (30, false)), .bin .neq (.t 35) (.c (.int .i64 3))⟩,
   ⟨some 37, none, .pick (.t 30) (.c (.bool true)) (.t 36)⟩])
  (.cond (.t 37) (.seq (.region none [⟨some 0, none, .move (.c (.bool false))⟩])
  (.ret))
  (.skip)))
  (c6_2))))
noncomputable def c6 : AFn := { np := 0, nt := 92, results := [.t 0], keep := false, body := c6_b }
noncomputable def c7_1 : ACode := .region none [⟨some 61, none, .move (.t 3)⟩,
   ⟨some 62, none, .bin .add (.t 61) (.c (.int .i64 1))⟩,
   ⟨some 3, none, .move (.t 62)⟩]
noncomputable def c7_2 : ACode := .mask (.n (.n (.n (.n (.n (.n .e true .e) false .e) false .e) true .e) true (.n (.n (.n (.n .e true .e) false .e) false .e) false .e)) false (.n (.n (.n (.n (.n .e true .e) false .e) false .e) false .e) false .e)) (c7_1)
noncomputable def c7_3 : ACode := .seq (.seq (.region none [⟨some 47, none, .move (.t 3)⟩,
   ⟨some 48, none, .fieldAddr 3 (.t 1)⟩,
   ⟨some 49, none, .load none (.t 48)⟩,
   ⟨some 50, none, .len false (.t 49)⟩,
   ⟨some 51, none, .bin .eql (.t 47) (.t 50)⟩,
   ⟨some 52, none, .move (.t 51)⟩,
   ⟨some 53, (some (52, false)), .fieldAddr 3 (.t 1)⟩,
   ⟨some 54, (some (52, false)), .load none (.t 53)⟩,
   ⟨some 55, (some (52, false)), .move (.t 3)⟩,
   ⟨some 56, (some (52, false)), .idxSl 1 (.t 54) (.t 55)⟩,
   ⟨some 57, (some (52, false)), .load none (.t 56)⟩,
   ⟨some 58, (some (52, false)), .move (.t 4)⟩,
   ⟨some 59, (some (52, false)), .bin .neq (.t 57) (.t 58)⟩,
   ⟨some 60, none, .pick (.t 52) (.c (.bool true)) (.t 59)⟩])
  (.cond (.t 60) (.seq (.region none [⟨some 2, none, .move (.c (.int .i64 3))⟩])
  (.ret))
  (.skip)))
  (c7_2)
noncomputable def c7_4 : ACode := .mask (.n (.n (.n (.n (.n (.n .e true .e) false .e) false .e) true .e) true (.n (.n (.n (.n .e true .e) false .e) false .e) false .e)) false (.n (.n (.n (.n (.n .e true .e) false .e) false .e) true .e) false .e)) (c7_3)
noncomputable def c7_5 : ACode := .seq (.seq (.region none [⟨some 44, none, .fieldAddr 0 (.t 5)⟩,
   ⟨some 45, none, .load none (.t 44)⟩,
   ⟨some 46, none, .bin .neq (.t 45) (.c (.int .i64 6))⟩])
  (.cond (.t 46) (.exit 1)
  (.skip)))
  (c7_4)
noncomputable def c7_6 : ACode := .mask (.n (.n (.n (.n (.n (.n .e true .e) false .e) false .e) true .e) true (.n (.n (.n (.n .e true .e) false .e) false .e) true .e)) false (.n (.n (.n (.n (.n .e true .e) false .e) false .e) true .e) false .e)) (c7_5)
noncomputable def c7_7 : ACode := .region none [⟨some 63, none, .bin .add (.t 33) (.c (.int .i64 1))⟩,
   ⟨some 33, none, .move (.t 63)⟩]
noncomputable def c7_8 : ACode := .mask (.n (.n (.n (.n (.n (.n .e true .e) false .e) false .e) true .e) true (.n (.n (.n (.n .e true .e) false .e) false .e) false .e)) false (.n (.n (.n (.n (.n .e true .e) false .e) false .e) false .e) false .e)) (c7_7)
noncomputable def c7_9 : ACode := .seq (.block 1 (.seq (.region none [⟨some 35, none, .move (.t 33)⟩,
   ⟨some 36, none, .idxSl 3 (.t 31) (.t 33)⟩,
   ⟨some 37, none, .load (some 3) (.t 36)⟩,
   ⟨some 5, none, .alloc [.int .i64 0, .int .i64 0, .int .i64 0]⟩,
   ⟨some 4, none, .move (.t 35)⟩,
   ⟨none, none, .store 3 (.t 5) (.t 37)⟩])
  (.seq (.seq (.region none [⟨some 38, none, .load (some 3) (.t 5)⟩,
   ⟨some 39, none, .move (.t 4)⟩,
   ⟨some 40, none, .fieldAddr 0 (.t 1)⟩,
   ⟨some 41, none, .load none (.t 40)⟩,
   ⟨some 42, none, .call 18 [.t 38, .t 39, .t 41]⟩,
   ⟨some 43, none, .un .not (.t 42)⟩])
  (.cond (.t 43) (.seq (.region none [⟨some 2, none, .move (.c (.int .i64 3))⟩])
  (.ret))
  (.skip)))
  (c7_6))))
  (c7_8)
noncomputable def c7_10 : ACode := .mask (.n (.n (.n (.n (.n (.n .e true .e) false .e) false .e) true .e) true (.n (.n (.n (.n .e true .e) false .e) false .e) false .e)) false (.n (.n (.n (.n (.n .e true .e) false .e) false .e) false .e) false .e)) (c7_9)
noncomputable def c7_11 : ACode := .seq (.region none [⟨some 34, none, .bin .lss (.t 33) (.t 32)⟩])
  (.seq (.cond (.t 34) (.skip)
  (.exit 0))
  (c7_10))
noncomputable def c7_12 : ACode := .region none [⟨some 99, none, .bin .add (.t 86) (.c (.int .i64 1))⟩,
   ⟨some 86, none, .move (.t 99)⟩]
noncomputable def c7_13 : ACode := .mask (.n (.n (.n (.n .e false (.n (.n (.n .e true .e) false .e) false .e)) false .e) true (.n .e false (.n (.n .e false (.n (.n .e true .e) false .e)) false .e))) false (.n (.n (.n .e false (.n (.n (.n .e true .e) false .e) false .e)) false (.n (.n .e false (.n (.n .e true .e) false .e)) false .e)) false (.n .e false (.n (.n (.n (.n .e true .e) false .e) false (.n (.n .e true .e) false .e)) false .e)))) (c7_12)
noncomputable def c7_14 : ACode := .seq (.block 5 (.seq (.region none [⟨some 88, none, .idxSl 1 (.t 84) (.t 86)⟩,
   ⟨some 89, none, .load none (.t 88)⟩,
   ⟨some 9, none, .move (.t 89)⟩])
  (.seq (.region none [⟨some 90, none, .move (.t 9)⟩,
   ⟨some 91, none, .bin .lss (.t 90) (.c (.int .i64 0))⟩,
   ⟨some 92, none, .move (.t 91)⟩,
   ⟨some 93, (some (92, false)), .move (.t 9)⟩,
   ⟨some 94, (some (92, false)), .fieldAddr 1 (.t 1)⟩,
   ⟨some 95, (some (92, false)), .load none (.t 94)⟩,
   ⟨some 96, (some (92, false)), .len false (.t 95)⟩,
   ⟨some 97, (some (92, false)), .bin .geq (.t 93) (.t 96)⟩,
   ⟨some 98, none, .pick (.t 92) (.c (.bool true)) (.t 97)⟩])
  (.cond (.t 98) (.seq (.region none [⟨some 2, none, .move (.c (.int .i64 3))⟩])
  (.ret))
  (.skip)))))
  (c7_13)
noncomputable def c7_15 : ACode := .mask (.n (.n (.n (.n .e false (.n (.n (.n .e true .e) false .e) false .e)) false .e) true (.n .e false (.n (.n .e false (.n (.n .e true .e) false .e)) false .e))) false (.n (.n (.n .e false (.n (.n (.n .e true .e) false .e) false .e)) false (.n (.n .e false (.n (.n .e true .e) false .e)) false .e)) false (.n .e false (.n (.n (.n (.n .e true .e) false .e) false (.n (.n .e true .e) false .e)) false .e)))) (c7_14)
noncomputable def c7_16 : ACode := .seq (.region none [⟨some 87, none, .bin .lss (.t 86) (.t 85)⟩])
  (.seq (.cond (.t 87) (.skip)
  (.exit 4))
  (c7_15))
noncomputable def c7_17 : ACode := .seq (.region none [⟨some 84, none, .move (.t 7)⟩,
   ⟨some 85, none, .len false (.t 84)⟩,
   ⟨some 86, none, .move (.c (.int .i64 0))⟩])
  (.block 4 (.loop (.n (.n (.n (.n .e false (.n (.n (.n .e true .e) false .e) false .e)) false .e) true (.n .e false (.n (.n .e false (.n (.n .e true .e) false .e)) false .e))) false (.n (.n (.n .e false (.n (.n (.n .e true .e) false .e) false .e)) false (.n (.n .e false (.n (.n .e true .e) false .e)) false .e)) false (.n .e false (.n (.n (.n (.n .e true .e) false .e) false (.n (.n .e true .e) false .e)) false .e)))) (c7_16)))
noncomputable def c7_18 : ACode := .mask (.n (.n (.n (.n .e true (.n (.n (.n .e true .e) false .e) false .e)) false .e) true .e) false (.n (.n (.n .e false (.n (.n (.n .e true .e) false .e) false .e)) false .e) false (.n .e false (.n (.n (.n (.n .e true .e) false .e) false .e) false .e)))) (c7_17)
noncomputable def c7_19 : ACode := .region none [⟨some 100, none, .bin .add (.t 72) (.c (.int .i64 1))⟩,
   ⟨some 72, none, .move (.t 100)⟩]
noncomputable def c7_20 : ACode := .mask (.n (.n (.n (.n .e false (.n (.n (.n .e true .e) false .e) false .e)) false .e) true .e) false (.n (.n (.n .e false (.n (.n (.n .e true .e) false .e) false .e)) false .e) false (.n .e false (.n (.n (.n (.n .e true .e) false .e) false .e) false .e)))) (c7_19)
noncomputable def c7_21 : ACode := .seq (.block 3 (.seq (.region none [⟨some 74, none, .idxSl 1 (.t 70) (.t 72)⟩,
   ⟨some 75, none, .load none (.t 74)⟩,
   ⟨some 7, none, .move (.t 75)⟩])
  (.seq (.seq (.region none [⟨some 76, none, .move (.t 7)⟩,
   ⟨some 77, none, .len false (.t 76)⟩,
   ⟨some 78, none, .bin .neq (.t 77) (.c (.int .i64 3))⟩,
   ⟨some 79, none, .move (.t 78)⟩,
   ⟨some 80, (some (79, true)), .move (.t 7)⟩,
   ⟨some 81, (some (79, true)), .len false (.t 80)⟩,
   ⟨some 82, (some (79, true)), .bin .neq (.t 81) (.c (.int .i64 7))⟩,
   ⟨some 83, none, .pick (.t 79) (.t 82) (.c (.bool false))⟩])
  (.cond (.t 83) (.seq (.region none [⟨some 2, none, .move (.c (.int .i64 3))⟩])
  (.ret))
  (.skip)))
  (c7_18))))
  (c7_20)
noncomputable def c7_22 : ACode := .mask (.n (.n (.n (.n .e false (.n (.n (.n .e true .e) false .e) false .e)) false .e) true .e) false (.n (.n (.n .e false (.n (.n (.n .e true .e) false .e) false .e)) false .e) false (.n .e false (.n (.n (.n (.n .e true .e) false .e) false .e) false .e)))) (c7_21)
noncomputable def c7_23 : ACode := .seq (.region none [⟨some 73, none, .bin .lss (.t 72) (.t 71)⟩])
  (.seq (.cond (.t 73) (.skip)
  (.exit 2))
  (c7_22))
noncomputable def c7_24 : ACode := .seq (.region none [⟨some 2, none, .move (.c (.int .i64 0))⟩])
  (.ret)
noncomputable def c7_25 : ACode := .mask .e (c7_24)
noncomputable def c7_26 : ACode := .seq (.seq (.region none [⟨some 69, none, .fieldAddr 2 (.t 1)⟩,
   ⟨some 70, none, .load none (.t 69)⟩,
   ⟨some 71, none, .len false (.t 70)⟩,
   ⟨some 72, none, .move (.c (.int .i64 0))⟩])
  (.block 2 (.loop (.n (.n (.n (.n .e false (.n (.n (.n .e true .e) false .e) false .e)) false .e) true .e) false (.n (.n (.n .e false (.n (.n (.n .e true .e) false .e) false .e)) false .e) false (.n .e false (.n (.n (.n (.n .e true .e) false .e) false .e) false .e)))) (c7_23))))
  (c7_25)
noncomputable def c7_27 : ACode := .mask (.n (.n .e true .e) false .e) (c7_26)
noncomputable def c7_28 : ACode := .seq (.seq (.region none [⟨some 64, none, .move (.t 3)⟩,
   ⟨some 65, none, .fieldAddr 3 (.t 1)⟩,
   ⟨some 66, none, .load none (.t 65)⟩,
   ⟨some 67, none, .len false (.t 66)⟩,
   ⟨some 68, none, .bin .neq (.t 64) (.t 67)⟩])
  (.cond (.t 68) (.seq (.region none [⟨some 2, none, .move (.c (.int .i64 3))⟩])
  (.ret))
  (.skip)))
  (c7_27)
noncomputable def c7_29 : ACode := .mask (.n (.n (.n .e true .e) true .e) false .e) (c7_28)
noncomputable def c7_30 : ACode := .seq (.region none [⟨some 3, none, .move (.c (.int .i64 0))⟩])
  (.seq (.seq (.region none [⟨some 30, none, .fieldAddr 1 (.t 1)⟩,
   ⟨some 31, none, .load none (.t 30)⟩,
   ⟨some 32, none, .len false (.t 31)⟩,
   ⟨some 33, none, .move (.c (.int .i64 0))⟩])
  (.block 0 (.loop (.n (.n (.n (.n (.n (.n .e true .e) false .e) false .e) true .e) true (.n (.n (.n (.n .e true .e) false .e) false .e) false .e)) false (.n (.n (.n (.n (.n .e true .e) false .e) false .e) false .e) false .e)) (c7_11))))
  (c7_29))
noncomputable def c7_31 : ACode := .mask (.n (.n .e true .e) false .e) (c7_30)
noncomputable def c7_b : ACode := .seq (.region none [⟨some 1, none, .boxRo (.t 0)⟩,
   ⟨some 2, none, .move (.c (.int .i64 0))⟩])
  (.seq (.seq (.region none [⟨some 10, none, .fieldAddr 0 (.t 1)⟩,
   ⟨some 11, none, .load none (.t 10)⟩,
   ⟨some 12, none, .bin .lss (.t 11) (.c (.int .i64 0))⟩,
   ⟨some 13, none, .move (.t 12)⟩,
   ⟨some 14, (some (13, false)), .fieldAddr 0 (.t 1)⟩,
   ⟨some 15, (some (13, false)), .load none (.t 14)⟩,
   ⟨some 16, (some (13, false)), .bin .gtr (.t 15) (.c (.int .i64 20))⟩,
   ⟨some 17, none, .pick (.t 13) (.c (.bool true)) (.t 16)⟩,
   ⟨some 18, none, .move (.t 17)⟩,
   ⟨some 19, (some (18, false)), .fieldAddr 1 (.t 1)⟩,
   ⟨some 20, (some (18, false)), .load none (.t 19)⟩,
   ⟨some 21, (some (18, false)), .len false (.t 20)⟩,
   ⟨some 22, (some (18, false)), .bin .gtr (.t 21) (.c (.int .i64 8192))⟩,
   ⟨some 23, none, .pick (.t 18) (.c (.bool true)) (.t 22)⟩,
   ⟨some 24, none, .move (.t 23)⟩,
   ⟨some 25, (some (24, false)), .fieldAddr 3 (.t 1)⟩,
   ⟨some 26, (some (24, false)), .load none (.t 25)⟩,
   ⟨some 27, (some (24, false)), .len false (.t 26)⟩,
   ⟨some 28, (some (24, false)), .bin .gtr (.t 27) (.c (.int .i64 5))⟩,
   ⟨some 29, none, .pick (.t 24) (.c (.bool true)) (.t 28)⟩])
  (.cond (.t 29) (.seq (.region none [⟨some 2, none, .move (.c (.int .i64 3))⟩])
  (.ret))
  (.skip)))
  (c7_31))
noncomputable def c7 : AFn := { np := 1, nt := 101, results := [.t 2], keep := false, body := c7_b }
noncomputable def c8_1 : ACode := .seq (.region none [⟨some 19, none, .move (.t 1)⟩,
   ⟨some 4, none, .move (.t 19)⟩])
  (.ret)
noncomputable def c8_2 : ACode := .mask (.n (.n .e true .e) false .e) (c8_1)
noncomputable def c8_3 : ACode := .seq (.region none [⟨some 9, none, .move (.t 1)⟩,
   ⟨some 10, none, .fieldAddr 0 (.t 2)⟩,
   ⟨some 11, none, .load none (.t 10)⟩,
   ⟨some 12, none, .bin .rem (.t 9) (.t 11)⟩,
   ⟨some 1, none, .move (.t 12)⟩])
  (.seq (.seq (.region none [⟨some 13, none, .move (.t 1)⟩,
   ⟨some 14, none, .bin .lss (.t 13) (.c (.int .i64 0))⟩])
  (.cond (.t 14) (.region none [⟨some 15, none, .move (.t 1)⟩,
   ⟨some 16, none, .fieldAddr 0 (.t 2)⟩,
   ⟨some 17, none, .load none (.t 16)⟩,
   ⟨some 18, none, .bin .add (.t 15) (.t 17)⟩,
   ⟨some 1, none, .move (.t 18)⟩])
  (.skip)))
  (c8_2))
noncomputable def c8_4 : ACode := .mask (.n (.n .e true .e) false (.n .e true .e)) (c8_3)
noncomputable def c8_b : ACode := .seq (.region none [⟨some 2, none, .boxRo (.t 0)⟩,
   ⟨some 4, none, .move (.c (.int .i64 0))⟩])
  (.seq (.seq (.region none [⟨some 5, none, .fieldAddr 0 (.t 2)⟩,
   ⟨some 6, none, .load none (.t 5)⟩,
   ⟨some 7, none, .bin .leq (.t 6) (.c (.int .i64 0))⟩])
  (.cond (.t 7) (.seq (.region none [⟨some 8, none, .move (.t 1)⟩,
   ⟨some 4, none, .move (.t 8)⟩])
  (.ret))
  (.skip)))
  (c8_4))
noncomputable def c8 : AFn := { np := 2, nt := 20, results := [.t 4], keep := false, body := c8_b }
noncomputable def c9_1 : ACode := .region none [⟨some 109, none, .move (.t 9)⟩,
   ⟨some 110, none, .move (.t 13)⟩,
   ⟨some 111, none, .buildSlice 1 [.t 110]⟩,
   ⟨some 112, none, .append 1 8 none (.t 109) (.t 111)⟩,
   ⟨some 9, none, .move (.t 112)⟩]
noncomputable def c9_2 : ACode := .mask (.n (.n (.n (.n (.n (.n .e true .e) false .e) false .e) false .e) false (.n (.n .e true .e) false (.n .e true (.n .e true .e)))) false (.n (.n .e true .e) true (.n (.n .e true .e) false (.n .e false (.n .e true .e))))) (c9_1)
noncomputable def c9_3 : ACode := .region none [⟨some 113, none, .bin .add (.t 31) (.c (.int .i64 1))⟩,
   ⟨some 31, none, .move (.t 113)⟩]
noncomputable def c9_4 : ACode := .mask (.n (.n (.n (.n (.n (.n .e true .e) false .e) false .e) false .e) false (.n (.n .e true .e) false (.n .e false (.n .e true .e)))) false (.n (.n .e true .e) true (.n (.n .e true .e) false (.n .e false (.n .e true .e))))) (c9_3)
noncomputable def c9_5 : ACode := .seq (.block 1 (.seq (.region none [⟨some 33, none, .idxSl 3 (.t 29) (.t 31)⟩,
   ⟨some 34, none, .load (some 3) (.t 33)⟩,
   ⟨some 12, none, .alloc [.int .i64 0, .int .i64 0, .int .i64 0]⟩,
   ⟨none, none, .store 3 (.t 12) (.t 34)⟩])
  (.seq (.region none [⟨some 13, none, .move (.c (.int .i64 0))⟩])
  (.seq (.seq (.region none [⟨some 35, none, .fieldAddr 0 (.t 12)⟩,
   ⟨some 36, none, .load none (.t 35)⟩])
  (.block 2 (.seq (.region none [⟨some 38, none, .bin .eql (.t 36) (.c (.int .i64 1))⟩,
   ⟨some 37, none, .move (.t 38)⟩])
  (.cond (.t 37) (.region none [⟨some 39, none, .move (.t 2)⟩,
   ⟨some 40, none, .fieldAddr 1 (.t 12)⟩,
   ⟨some 41, none, .load none (.t 40)⟩,
   ⟨some 42, none, .idxSl 1 (.t 39) (.t 41)⟩,
   ⟨some 43, none, .load none (.t 42)⟩,
   ⟨some 13, none, .move (.t 43)⟩])
  (.seq (.region none [⟨some 45, none, .bin .eql (.t 36) (.c (.int .i64 2))⟩,
   ⟨some 44, none, .move (.t 45)⟩])
  (.cond (.t 44) (.region none [⟨some 46, none, .fieldAddr 0 (.t 4)⟩,
   ⟨some 47, none, .load none (.t 46)⟩,
   ⟨some 48, none, .fieldAddr 1 (.t 12)⟩,
   ⟨some 49, none, .load none (.t 48)⟩,
   ⟨some 50, none, .callV (.t 47) [.t 49]⟩,
   ⟨some 13, none, .move (.t 50)⟩])
  (.seq (.region none [⟨some 52, none, .bin .eql (.t 36) (.c (.int .i64 3))⟩,
   ⟨some 51, none, .move (.t 52)⟩])
  (.cond (.t 51) (.region (some []) [⟨some 53, none, .fieldAddr 1 (.t 4)⟩,
   ⟨some 54, none, .load none (.t 53)⟩,
   ⟨some 55, none, .move (.t 9)⟩,
   ⟨some 56, none, .fieldAddr 1 (.t 12)⟩,
   ⟨some 57, none, .load none (.t 56)⟩,
   ⟨some 58, none, .idxSl 1 (.t 55) (.t 57)⟩,
   ⟨some 59, none, .load none (.t 58)⟩,
   ⟨some 60, none, .move (.t 9)⟩,
   ⟨some 61, none, .fieldAddr 2 (.t 12)⟩,
   ⟨some 62, none, .load none (.t 61)⟩,
   ⟨some 63, none, .idxSl 1 (.t 60) (.t 62)⟩,
   ⟨some 64, none, .load none (.t 63)⟩,
   ⟨some 65, none, .callV (.t 54) [.t 59, .t 64]⟩,
   ⟨some 13, none, .move (.t 65)⟩])
  (.seq (.region none [⟨some 67, none, .bin .eql (.t 36) (.c (.int .i64 4))⟩,
   ⟨some 66, none, .move (.t 67)⟩])
  (.cond (.t 66) (.region (some []) [⟨some 68, none, .fieldAddr 2 (.t 4)⟩,
   ⟨some 69, none, .load none (.t 68)⟩,
   ⟨some 70, none, .move (.t 9)⟩,
   ⟨some 71, none, .fieldAddr 1 (.t 12)⟩,
   ⟨some 72, none, .load none (.t 71)⟩,
   ⟨some 73, none, .idxSl 1 (.t 70) (.t 72)⟩,
   ⟨some 74, none, .load none (.t 73)⟩,
   ⟨some 75, none, .move (.t 9)⟩,
   ⟨some 76, none, .fieldAddr 2 (.t 12)⟩,
   ⟨some 77, none, .load none (.t 76)⟩,
   ⟨some 78, none, .idxSl 1 (.t 75) (.t 77)⟩,
   ⟨some 79, none, .load none (.t 78)⟩,
   ⟨some 80, none, .callV (.t 69) [.t 74, .t 79]⟩,
   ⟨some 13, none, .move (.t 80)⟩])
  (.seq (.region none [⟨some 82, none, .bin .eql (.t 36) (.c (.int .i64 5))⟩,
   ⟨some 81, none, .move (.t 82)⟩])
  (.cond (.t 81) (.region (some []) [⟨some 83, none, .fieldAddr 3 (.t 4)⟩,
   ⟨some 84, none, .load none (.t 83)⟩,
   ⟨some 85, none, .move (.t 9)⟩,
   ⟨some 86, none, .fieldAddr 1 (.t 12)⟩,
   ⟨some 87, none, .load none (.t 86)⟩,
   ⟨some 88, none, .idxSl 1 (.t 85) (.t 87)⟩,
   ⟨some 89, none, .load none (.t 88)⟩,
   ⟨some 90, none, .move (.t 9)⟩,
   ⟨some 91, none, .fieldAddr 2 (.t 12)⟩,
   ⟨some 92, none, .load none (.t 91)⟩,
   ⟨some 93, none, .idxSl 1 (.t 90) (.t 92)⟩,
   ⟨some 94, none, .load none (.t 93)⟩,
   ⟨some 95, none, .callV (.t 84) [.t 89, .t 94]⟩,
   ⟨some 13, none, .move (.t 95)⟩])
  (.seq (.region none [⟨some 97, none, .bin .eql (.t 36) (.c (.int .i64 6))⟩,
   ⟨some 96, none, .move (.t 97)⟩])
  (.cond (.t 96) (.seq (.region (some []) [⟨some 98, none, .fieldAddr 4 (.t 4)⟩,
   ⟨some 99, none, .load none (.t 98)⟩,
   ⟨some 100, none, .move (.t 10)⟩,
   ⟨some 101, none, .move (.t 9)⟩,
   ⟨some 102, none, .fieldAddr 1 (.t 12)⟩,
   ⟨some 103, none, .load none (.t 102)⟩,
   ⟨some 104, none, .idxSl 1 (.t 101) (.t 103)⟩,
   ⟨some 105, none, .load none (.t 104)⟩,
   ⟨some 106, none, .callV (.t 99) [.t 100, .t 105]⟩,
   ⟨some 13, none, .move (.t 106)⟩])
  (.region none [⟨some 107, none, .move (.t 10)⟩,
   ⟨some 108, none, .bin .add (.t 107) (.c (.int .i64 1))⟩,
   ⟨some 10, none, .move (.t 108)⟩]))
  (.skip)))))))))))))))
  (c9_2)))))
  (c9_4)
noncomputable def c9_6 : ACode := .mask (.n (.n (.n (.n (.n (.n .e true .e) false .e) false .e) false .e) false (.n (.n .e true .e) false (.n .e false (.n .e true .e)))) false (.n (.n .e true .e) true (.n (.n .e true .e) false (.n .e false (.n .e true .e))))) (c9_5)
noncomputable def c9_7 : ACode := .seq (.region none [⟨some 32, none, .bin .lss (.t 31) (.t 30)⟩])
  (.seq (.cond (.t 32) (.skip)
  (.exit 0))
  (c9_6))
noncomputable def c9_8 : ACode := .seq (.region none [⟨some 114, none, .move (.t 9)⟩,
   ⟨some 6, none, .move (.t 114)⟩,
   ⟨some 7, none, .move (.c (.int .i64 0))⟩])
  (.ret)
noncomputable def c9_9 : ACode := .mask (.n (.n .e false (.n (.n .e true .e) false .e)) false .e) (c9_8)
noncomputable def c9_10 : ACode := .seq (.region none [⟨some 24, none, .fieldAddr 1 (.t 3)⟩,
   ⟨some 25, none, .load none (.t 24)⟩,
   ⟨some 26, none, .len false (.t 25)⟩,
   ⟨some 27, none, .makeSlice [.int .i64 0] 8 (.c (.int .i64 0)) (.t 26)⟩,
   ⟨some 9, none, .move (.t 27)⟩])
  (.seq (.region none [⟨some 10, none, .move (.c (.int .i64 0))⟩])
  (.seq (.seq (.region none [⟨some 28, none, .fieldAddr 1 (.t 3)⟩,
   ⟨some 29, none, .load none (.t 28)⟩,
   ⟨some 30, none, .len false (.t 29)⟩,
   ⟨some 31, none, .move (.c (.int .i64 0))⟩])
  (.block 0 (.loop (.n (.n (.n (.n (.n (.n .e true .e) false .e) false .e) false .e) false (.n (.n .e true .e) false (.n .e false (.n .e true .e)))) false (.n (.n .e true .e) true (.n (.n .e true .e) false (.n .e false (.n .e true .e))))) (c9_7))))
  (c9_9)))
noncomputable def c9_11 : ACode := .mask (.n (.n (.n .e true .e) false .e) false (.n (.n .e true .e) true .e)) (c9_10)
noncomputable def c9_12 : ACode := .seq (.seq (.region none [⟨some 19, none, .move (.t 2)⟩,
   ⟨some 20, none, .len false (.t 19)⟩,
   ⟨some 21, none, .fieldAddr 0 (.t 3)⟩,
   ⟨some 22, none, .load none (.t 21)⟩,
   ⟨some 23, none, .bin .neq (.t 20) (.t 22)⟩])
  (.cond (.t 23) (.seq (.region none [⟨some 6, none, .move (.c (.sl 1 [] .nil))⟩,
   ⟨some 7, none, .move (.c (.int .i64 1))⟩])
  (.ret))
  (.skip)))
  (c9_11)
noncomputable def c9_13 : ACode := .mask (.n (.n (.n .e true .e) false .e) false (.n (.n .e true .e) true .e)) (c9_12)
noncomputable def c9_b : ACode := .seq (.region none [⟨some 3, none, .boxRo (.t 0)⟩,
   ⟨some 4, none, .boxRo (.t 1)⟩,
   ⟨some 6, none, .move (.c (.sl 1 [] .nil))⟩,
   ⟨some 7, none, .move (.c (.int .i64 0))⟩])
  (.seq (.seq (.region none [⟨some 14, none, .load (some 4) (.t 3)⟩,
   ⟨some 15, none, .call 7 [.t 14]⟩,
   ⟨some 8, none, .move (.t 15)⟩])
  (.seq (.region none [⟨some 16, none, .move (.t 8)⟩,
   ⟨some 17, none, .bin .neq (.t 16) (.c (.int .i64 0))⟩])
  (.cond (.t 17) (.seq (.region none [⟨some 18, none, .move (.t 8)⟩,
   ⟨some 6, none, .move (.c (.sl 1 [] .nil))⟩,
   ⟨some 7, none, .move (.t 18)⟩])
  (.ret))
  (.skip))))
  (c9_13))
noncomputable def c9 : AFn := { np := 3, nt := 115, results := [.t 6, .t 7], keep := true, body := c9_b }
noncomputable def c10_b : ACode := .seq (.region none [⟨some 1, none, .boxRo (.t 0)⟩,
   ⟨some 2, none, .alloc [.nilf, .nilf, .nilf, .nilf, .nilf]⟩])
  (.seq (.region none [⟨some 3, none, .mkFunc 19 [.t 1]⟩,
   ⟨some 4, none, .mkFunc 20 [.t 1]⟩,
   ⟨some 5, none, .mkFunc 22 [.t 1]⟩,
   ⟨some 6, none, .mkFunc 24 [.t 1]⟩,
   ⟨some 7, none, .mkFunc 26 [.t 1]⟩,
   ⟨some 8, none, .build [.nilf, .nilf, .nilf, .nilf, .nilf] [(0, 1, .t 3), (1, 1, .t 4), (2, 1, .t 5), (3, 1, .t 6), (4, 1, .t 7)]⟩,
   ⟨none, none, .store 5 (.t 2) (.t 8)⟩])
  (.ret))
noncomputable def c10 : AFn := { np := 1, nt := 9, results := [.cell 2 (some 5)], keep := false, body := c10_b }
noncomputable def c11_1 : ACode := .cond (.t 29) (.region (some []) [⟨some 32, none, .move (.t 5)⟩,
   ⟨some 33, none, .fieldAddr 1 (.t 7)⟩,
   ⟨some 34, none, .load none (.t 33)⟩,
   ⟨some 35, none, .idxSl 1 (.t 32) (.t 34)⟩,
   ⟨some 36, none, .load none (.t 35)⟩,
   ⟨some 37, none, .move (.t 5)⟩,
   ⟨some 38, none, .fieldAddr 2 (.t 7)⟩,
   ⟨some 39, none, .load none (.t 38)⟩,
   ⟨some 40, none, .idxSl 1 (.t 37) (.t 39)⟩,
   ⟨some 41, none, .load none (.t 40)⟩,
   ⟨some 42, none, .max [.t 36, .t 41]⟩,
   ⟨some 8, none, .move (.t 42)⟩])
  (.seq (.region none [⟨some 44, none, .bin .eql (.t 26) (.c (.int .i64 5))⟩,
   ⟨some 43, none, .move (.t 44)⟩])
  (.cond (.t 43) (.region (some []) [⟨some 45, none, .move (.t 5)⟩,
   ⟨some 46, none, .fieldAddr 1 (.t 7)⟩,
   ⟨some 47, none, .load none (.t 46)⟩,
   ⟨some 48, none, .idxSl 1 (.t 45) (.t 47)⟩,
   ⟨some 49, none, .load none (.t 48)⟩,
   ⟨some 50, none, .move (.t 5)⟩,
   ⟨some 51, none, .fieldAddr 2 (.t 7)⟩,
   ⟨some 52, none, .load none (.t 51)⟩,
   ⟨some 53, none, .idxSl 1 (.t 50) (.t 52)⟩,
   ⟨some 54, none, .load none (.t 53)⟩,
   ⟨some 55, none, .bin .add (.t 49) (.t 54)⟩,
   ⟨some 8, none, .move (.t 55)⟩])
  (.seq (.region none [⟨some 57, none, .bin .eql (.t 26) (.c (.int .i64 6))⟩,
   ⟨some 56, none, .move (.t 57)⟩])
  (.cond (.t 56) (.region none [⟨some 58, none, .move (.t 5)⟩,
   ⟨some 59, none, .fieldAddr 1 (.t 7)⟩,
   ⟨some 60, none, .load none (.t 59)⟩,
   ⟨some 61, none, .idxSl 1 (.t 58) (.t 60)⟩,
   ⟨some 62, none, .load none (.t 61)⟩,
   ⟨some 63, none, .bin .add (.t 62) (.c (.int .i64 1))⟩,
   ⟨some 64, none, .bin .quo (.t 63) (.c (.int .i64 2))⟩,
   ⟨some 8, none, .move (.t 64)⟩])
  (.skip)))))
noncomputable def c11_2 : ACode := .mask (.n (.n (.n (.n .e true .e) false (.n (.n .e true .e) false .e)) false (.n .e true (.n (.n .e true .e) false (.n .e true .e)))) false (.n (.n (.n .e true .e) false (.n (.n .e true .e) false .e)) false (.n (.n .e false (.n .e true .e)) false .e))) (c11_1)
noncomputable def c11_3 : ACode := .region none [⟨some 67, none, .move (.t 5)⟩,
   ⟨some 68, none, .move (.t 8)⟩,
   ⟨some 69, none, .buildSlice 1 [.t 68]⟩,
   ⟨some 70, none, .append 1 8 none (.t 67) (.t 69)⟩,
   ⟨some 5, none, .move (.t 70)⟩]
noncomputable def c11_4 : ACode := .mask (.n (.n (.n .e false (.n (.n .e true .e) false .e)) false (.n .e true (.n (.n .e true .e) false .e))) false (.n (.n (.n .e true .e) false (.n (.n .e true .e) false .e)) false .e)) (c11_3)
noncomputable def c11_5 : ACode := .seq (.seq (.region none [⟨some 65, none, .move (.t 8)⟩,
   ⟨some 66, none, .bin .gtr (.t 65) (.c (.int .i64 1073741824))⟩])
  (.cond (.t 66) (.seq (.region none [⟨some 2, none, .move (.c (.sl 1 [] .nil))⟩,
   ⟨some 3, none, .move (.c (.int .i64 2))⟩])
  (.ret))
  (.skip)))
  (c11_4)
noncomputable def c11_6 : ACode := .mask (.n (.n (.n .e false (.n (.n .e true .e) false .e)) false (.n .e true (.n (.n .e true .e) false .e))) false (.n (.n (.n .e true .e) false (.n (.n .e true .e) false .e)) false .e)) (c11_5)
noncomputable def c11_7 : ACode := .region none [⟨some 71, none, .bin .add (.t 21) (.c (.int .i64 1))⟩,
   ⟨some 21, none, .move (.t 71)⟩]
noncomputable def c11_8 : ACode := .mask (.n (.n (.n .e false (.n (.n .e true .e) false .e)) false (.n .e true (.n (.n .e true .e) false .e))) false (.n (.n .e false (.n (.n .e true .e) false .e)) false .e)) (c11_7)
noncomputable def c11_9 : ACode := .seq (.block 1 (.seq (.region none [⟨some 23, none, .idxSl 3 (.t 19) (.t 21)⟩,
   ⟨some 24, none, .load (some 3) (.t 23)⟩,
   ⟨some 7, none, .alloc [.int .i64 0, .int .i64 0, .int .i64 0]⟩,
   ⟨none, none, .store 3 (.t 7) (.t 24)⟩])
  (.seq (.region none [⟨some 8, none, .move (.c (.int .i64 0))⟩])
  (.seq (.seq (.region none [⟨some 25, none, .fieldAddr 0 (.t 7)⟩,
   ⟨some 26, none, .load none (.t 25)⟩])
  (.block 2 (.seq (.region none [⟨some 28, none, .bin .eql (.t 26) (.c (.int .i64 1))⟩,
   ⟨some 27, none, .move (.t 28)⟩])
  (.cond (.t 27) (.region none [⟨some 8, none, .move (.c (.int .i64 1))⟩])
  (.seq (.seq (.region none [⟨some 30, none, .bin .eql (.t 26) (.c (.int .i64 3))⟩,
   ⟨some 29, none, .move (.t 30)⟩])
  (.cond (.t 29) (.skip)
  (.region none [⟨some 31, none, .bin .eql (.t 26) (.c (.int .i64 4))⟩,
   ⟨some 29, none, .move (.t 31)⟩])))
  (c11_2))))))
  (c11_6)))))
  (c11_8)
noncomputable def c11_10 : ACode := .mask (.n (.n (.n .e false (.n (.n .e true .e) false .e)) false (.n .e true (.n (.n .e true .e) false .e))) false (.n (.n .e false (.n (.n .e true .e) false .e)) false .e)) (c11_9)
noncomputable def c11_11 : ACode := .seq (.region none [⟨some 22, none, .bin .lss (.t 21) (.t 20)⟩])
  (.seq (.cond (.t 22) (.skip)
  (.exit 0))
  (c11_10))
noncomputable def c11_12 : ACode := .seq (.region none [⟨some 72, none, .move (.t 5)⟩,
   ⟨some 2, none, .move (.t 72)⟩,
   ⟨some 3, none, .move (.c (.int .i64 0))⟩])
  (.ret)
noncomputable def c11_13 : ACode := .mask (.n (.n .e false (.n .e true .e)) false .e) (c11_12)
noncomputable def c11_14 : ACode := .seq (.region none [⟨some 14, none, .fieldAddr 1 (.t 1)⟩,
   ⟨some 15, none, .load none (.t 14)⟩,
   ⟨some 16, none, .len false (.t 15)⟩,
   ⟨some 17, none, .makeSlice [.int .i64 0] 8 (.c (.int .i64 0)) (.t 16)⟩,
   ⟨some 5, none, .move (.t 17)⟩])
  (.seq (.seq (.region none [⟨some 18, none, .fieldAddr 1 (.t 1)⟩,
   ⟨some 19, none, .load none (.t 18)⟩,
   ⟨some 20, none, .len false (.t 19)⟩,
   ⟨some 21, none, .move (.c (.int .i64 0))⟩])
  (.block 0 (.loop (.n (.n (.n .e false (.n (.n .e true .e) false .e)) false (.n .e true (.n (.n .e true .e) false .e))) false (.n (.n .e false (.n (.n .e true .e) false .e)) false .e)) (c11_11))))
  (c11_13))
noncomputable def c11_15 : ACode := .mask (.n (.n .e true .e) false .e) (c11_14)
noncomputable def c11_b : ACode := .seq (.region none [⟨some 1, none, .boxRo (.t 0)⟩,
   ⟨some 2, none, .move (.c (.sl 1 [] .nil))⟩,
   ⟨some 3, none, .move (.c (.int .i64 0))⟩])
  (.seq (.seq (.region none [⟨some 9, none, .load (some 4) (.t 1)⟩,
   ⟨some 10, none, .call 7 [.t 9]⟩,
   ⟨some 4, none, .move (.t 10)⟩])
  (.seq (.region none [⟨some 11, none, .move (.t 4)⟩,
   ⟨some 12, none, .bin .neq (.t 11) (.c (.int .i64 0))⟩])
  (.cond (.t 12) (.seq (.region none [⟨some 13, none, .move (.t 4)⟩,
   ⟨some 2, none, .move (.c (.sl 1 [] .nil))⟩,
   ⟨some 3, none, .move (.t 13)⟩])
  (.ret))
  (.skip))))
  (c11_15))
noncomputable def c11 : AFn := { np := 1, nt := 73, results := [.t 2, .t 3], keep := false, body := c11_b }
noncomputable def c15_1 : ACode := .seq (.region none [⟨some 11, none, .move (.t 0)⟩,
   ⟨some 12, none, .move (.t 1)⟩,
   ⟨some 13, none, .build [.int .i64 0, .int .i64 0, .sl 1 [] .nil] [(0, 1, .t 11), (1, 1, .t 12)]⟩,
   ⟨none, none, .store 3 (.t 4) (.t 13)⟩])
  (.ret)
noncomputable def c15_2 : ACode := .mask (.n (.n .e true .e) true (.n (.n .e true .e) false .e)) (c15_1)
noncomputable def c15_b : ACode := .seq (.region none [⟨some 4, none, .alloc [.int .i64 0, .int .i64 0, .sl 1 [] .nil]⟩])
  (.seq (.seq (.region none [⟨some 5, none, .move (.t 0)⟩,
   ⟨some 6, none, .bin .lss (.t 5) (.c (.int .i64 0))⟩,
   ⟨some 7, none, .move (.t 6)⟩,
   ⟨some 8, (some (7, false)), .move (.t 0)⟩,
   ⟨some 9, (some (7, false)), .bin .gtr (.t 8) (.c (.int .i64 2147483647))⟩,
   ⟨some 10, none, .pick (.t 7) (.c (.bool true)) (.t 9)⟩])
  (.cond (.t 10) (.region none [⟨some 0, none, .move (.c (.int .i64 0))⟩])
  (.skip)))
  (c15_2))
noncomputable def c15 : AFn := { np := 2, nt := 14, results := [.cell 4 (some 3)], keep := false, body := c15_b }
noncomputable def c16_1 : ACode := .seq (.region none [⟨some 14, none, .load (some 4) (.t 3)⟩,
   ⟨none, none, .store 4 (.t 2) (.t 14)⟩])
  (.ret)
noncomputable def c16_2 : ACode := .mask (.n (.n (.n .e true .e) false .e) false (.n .e true .e)) (c16_1)
noncomputable def c16_b : ACode := .seq (.region none [⟨some 2, none, .alloc [.bool false, .sl 1 [] .nil, .bool false, .sl 1 [] .nil]⟩])
  (.seq (.region none [⟨some 4, none, .buildSlice 1 [.c (.int .u32 1)]⟩,
   ⟨some 5, none, .build [.bool false, .sl 1 [] .nil] [(1, 1, .t 4)]⟩,
   ⟨some 6, none, .build [.bool false, .sl 1 [] .nil, .bool false, .sl 1 [] .nil] [(2, 2, .t 5)]⟩,
   ⟨some 3, none, .alloc [.bool false, .sl 1 [] .nil, .bool false, .sl 1 [] .nil]⟩,
   ⟨none, none, .store 4 (.t 3) (.t 6)⟩])
  (.seq (.seq (.region none [⟨some 7, none, .move (.t 0)⟩,
   ⟨some 8, none, .bin .gtr (.t 7) (.c (.int .i64 0))⟩])
  (.cond (.t 8) (.region none [⟨some 9, none, .move (.t 0)⟩,
   ⟨some 10, none, .convInt .u32 (.t 9)⟩,
   ⟨some 11, none, .buildSlice 1 [.t 10]⟩,
   ⟨some 12, none, .build [.bool false, .sl 1 [] .nil] [(1, 1, .t 11)]⟩,
   ⟨some 13, none, .fieldAddr 0 (.t 3)⟩,
   ⟨none, none, .store 2 (.t 13) (.t 12)⟩])
  (.skip)))
  (c16_2)))
noncomputable def c16 : AFn := { np := 1, nt := 15, results := [.cell 2 (some 4)], keep := false, body := c16_b }
noncomputable def c17_1 : ACode := .region none [⟨some 57, none, .bin .add (.t 32) (.c (.int .i64 1))⟩,
   ⟨some 32, none, .move (.t 57)⟩]
noncomputable def c17_2 : ACode := .mask (.n (.n (.n (.n (.n (.n .e true .e) false .e) true (.n .e true .e)) false .e) false (.n (.n .e true (.n .e true .e)) true .e)) true (.n (.n (.n (.n (.n .e true .e) false .e) true (.n .e true .e)) false .e) true (.n .e false (.n .e false (.n .e true .e))))) (c17_1)
noncomputable def c17_3 : ACode := .seq (.block 3 (.seq (.region none [⟨some 34, none, .idxSl 1 (.t 30) (.t 32)⟩,
   ⟨some 35, none, .load none (.t 34)⟩,
   ⟨some 11, none, .move (.t 35)⟩])
  (.seq (.region none [⟨some 37, none, .move (.t 0)⟩,
   ⟨some 38, none, .move (.t 11)⟩,
   ⟨some 39, none, .call 30 [.t 37, .t 38]⟩,
   ⟨some 36, none, .move (.t 39)⟩,
   ⟨some 40, none, .extract (.t 36) 0⟩,
   ⟨some 41, none, .extract (.t 36) 1⟩,
   ⟨some 12, none, .move (.t 40)⟩,
   ⟨some 13, none, .move (.t 41)⟩])
  (.seq (.region none [⟨some 42, none, .move (.t 8)⟩,
   ⟨some 43, none, .move (.t 5)⟩,
   ⟨some 44, none, .nilCheck (.t 43)⟩,
   ⟨some 45, none, .fieldAddr 0 (.t 44)⟩,
   ⟨some 46, none, .fieldAddr 2 (.t 45)⟩,
   ⟨some 47, none, .load none (.t 46)⟩,
   ⟨some 48, none, .move (.t 11)⟩,
   ⟨some 49, none, .idxSl 1 (.t 47) (.t 48)⟩,
   ⟨some 50, none, .load none (.t 49)⟩,
   ⟨some 51, none, .buildSlice 1 [.t 50]⟩,
   ⟨some 52, none, .append 1 24 none (.t 42) (.t 51)⟩,
   ⟨some 8, none, .move (.t 52)⟩])
  (.region none [⟨some 53, none, .move (.t 9)⟩,
   ⟨some 54, none, .move (.t 12)⟩,
   ⟨some 55, none, .buildSlice 1 [.t 54]⟩,
   ⟨some 56, none, .append 1 8 none (.t 53) (.t 55)⟩,
   ⟨some 9, none, .move (.t 56)⟩])))))
  (c17_2)
noncomputable def c17_4 : ACode := .mask (.n (.n (.n (.n (.n (.n .e true .e) false .e) true (.n .e true .e)) false .e) false (.n (.n .e true (.n .e true .e)) true .e)) true (.n (.n (.n (.n (.n .e true .e) false .e) true (.n .e true .e)) false .e) true (.n .e false (.n .e false (.n .e true .e))))) (c17_3)
noncomputable def c17_5 : ACode := .seq (.region none [⟨some 33, none, .bin .lss (.t 32) (.t 31)⟩])
  (.seq (.cond (.t 33) (.skip)
  (.exit 2))
  (c17_4))
noncomputable def c17_6 : ACode := .seq (.region none [⟨some 74, none, .move (.t 9)⟩,
   ⟨some 75, none, .len false (.t 74)⟩,
   ⟨some 76, none, .bin .gtr (.t 75) (.c (.int .i64 0))⟩,
   ⟨some 77, none, .move (.t 76)⟩,
   ⟨some 78, (some (77, true)), .move (.t 9)⟩,
   ⟨some 79, (some (77, true)), .idxSl 1 (.t 78) (.c (.int .i64 0))⟩,
   ⟨some 80, (some (77, true)), .load none (.t 79)⟩,
   ⟨some 81, (some (77, true)), .bin .eql (.t 80) (.c (.int .i64 3))⟩,
   ⟨some 82, none, .pick (.t 77) (.t 81) (.c (.bool false))⟩,
   ⟨some 14, none, .move (.t 82)⟩])
  (.seq (.region none [⟨some 83, none, .move (.t 5)⟩,
   ⟨some 84, none, .move (.t 8)⟩,
   ⟨some 85, none, .move (.t 9)⟩,
   ⟨some 86, none, .fieldAddr 1 (.t 7)⟩,
   ⟨some 87, none, .load none (.t 86)⟩,
   ⟨some 88, none, .bin .eql (.t 87) (.c (.int .i64 4))⟩,
   ⟨some 89, none, .call 31 [.t 83, .t 84, .t 85, .t 88]⟩])
  (.region (some []) [⟨some 90, none, .move (.t 5)⟩,
   ⟨some 91, none, .move (.t 5)⟩,
   ⟨some 92, none, .nilCheck (.t 91)⟩,
   ⟨some 93, none, .fieldAddr 0 (.t 92)⟩,
   ⟨some 94, none, .fieldAddr 2 (.t 93)⟩,
   ⟨some 95, none, .load none (.at 94 5 2)⟩,
   ⟨some 96, none, .move (.t 5)⟩,
   ⟨some 97, none, .fieldAddr 1 (.t 7)⟩,
   ⟨some 98, none, .load none (.t 97)⟩,
   ⟨some 99, none, .move (.t 14)⟩,
   ⟨some 100, none, .callP 33 [.t 98, .t 99]⟩,
   ⟨some 101, none, .callC [(none, .adv 5 2)] 32 [.t 96, .t 100]⟩,
   ⟨some 102, none, .buildSlice 1 [.t 101]⟩,
   ⟨some 103, none, .append 1 24 none (.t 95) (.t 102)⟩,
   ⟨some 104, none, .nilCheck (.t 90)⟩,
   ⟨some 105, none, .fieldAddr 0 (.t 104)⟩,
   ⟨some 106, none, .fieldAddr 2 (.t 105)⟩,
   ⟨none, none, .store 1 (.t 106) (.t 103)⟩]))
noncomputable def c17_7 : ACode := .mask (.n (.n (.n (.n .e true (.n .e true .e)) false .e) false (.n (.n .e true (.n .e true .e)) true .e)) true (.n (.n (.n .e true (.n .e true .e)) false .e) true .e)) (c17_6)
noncomputable def c17_8 : ACode := .seq (.seq (.region none [⟨some 58, none, .fieldAddr 1 (.t 7)⟩,
   ⟨some 59, none, .load none (.t 58)⟩,
   ⟨some 60, none, .bin .eql (.t 59) (.c (.int .i64 5))⟩])
  (.cond (.t 60) (.seq (.region (some []) [⟨some 61, none, .move (.t 8)⟩,
   ⟨some 62, none, .slice 1 (.t 61) none (some (.c (.int .i64 1))) (some (.c (.int .i64 1)))⟩,
   ⟨some 63, none, .move (.t 8)⟩,
   ⟨some 64, none, .idxSl 1 (.t 63) (.c (.int .i64 0))⟩,
   ⟨some 65, none, .load none (.t 64)⟩,
   ⟨some 66, none, .move (.t 8)⟩,
   ⟨some 67, none, .idxSl 1 (.t 66) (.c (.int .i64 1))⟩,
   ⟨some 68, none, .load none (.t 67)⟩,
   ⟨some 69, none, .buildSlice 1 [.t 65, .t 68]⟩,
   ⟨some 70, none, .append 1 24 none (.t 62) (.t 69)⟩,
   ⟨some 8, none, .move (.t 70)⟩])
  (.region none [⟨some 71, none, .move (.t 9)⟩,
   ⟨some 72, none, .buildSlice 1 [.c (.int .i64 1)]⟩,
   ⟨some 73, none, .append 1 8 none (.t 71) (.t 72)⟩,
   ⟨some 9, none, .move (.t 73)⟩]))
  (.skip)))
  (c17_7)
noncomputable def c17_9 : ACode := .mask (.n (.n (.n (.n .e true (.n .e true .e)) false .e) false (.n (.n .e true (.n .e true .e)) true .e)) true (.n (.n (.n .e true (.n .e true .e)) false .e) true .e)) (c17_8)
noncomputable def c17_10 : ACode := .region none [⟨some 107, none, .bin .add (.t 25) (.c (.int .i64 1))⟩,
   ⟨some 25, none, .move (.t 107)⟩]
noncomputable def c17_11 : ACode := .mask (.n (.n (.n (.n .e false (.n .e true .e)) false .e) false (.n (.n .e false (.n .e true .e)) true .e)) true (.n (.n (.n .e false (.n .e true .e)) false .e) true .e)) (c17_10)
noncomputable def c17_12 : ACode := .seq (.block 1 (.seq (.region none [⟨some 27, none, .idxSl 12 (.t 23) (.t 25)⟩,
   ⟨some 28, none, .load (some 12) (.t 27)⟩,
   ⟨some 7, none, .alloc [.str [], .int .i64 0, .sl 1 [] .nil, .bool false, .sl 1 [] .nil, .bool false, .sl 1 [] .nil, .bool false, .sl 1 [] .nil, .bool false, .sl 1 [] .nil, .int .i64 0]⟩,
   ⟨none, none, .store 12 (.t 7) (.t 28)⟩])
  (.seq (.region none [⟨some 8, none, .move (.c (.sl 1 [] .nil))⟩])
  (.seq (.region none [⟨some 9, none, .move (.c (.sl 1 [] .nil))⟩])
  (.seq (.seq (.region none [⟨some 29, none, .fieldAddr 2 (.t 7)⟩,
   ⟨some 30, none, .load none (.t 29)⟩,
   ⟨some 31, none, .len false (.t 30)⟩,
   ⟨some 32, none, .move (.c (.int .i64 0))⟩])
  (.block 2 (.loop (.n (.n (.n (.n (.n (.n .e true .e) false .e) true (.n .e true .e)) false .e) false (.n (.n .e true (.n .e true .e)) true .e)) true (.n (.n (.n (.n (.n .e true .e) false .e) true (.n .e true .e)) false .e) true (.n .e false (.n .e false (.n .e true .e))))) (c17_5))))
  (c17_9))))))
  (c17_11)
noncomputable def c17_13 : ACode := .mask (.n (.n (.n (.n .e false (.n .e true .e)) false .e) false (.n (.n .e false (.n .e true .e)) true .e)) true (.n (.n (.n .e false (.n .e true .e)) false .e) true .e)) (c17_12)
noncomputable def c17_14 : ACode := .seq (.region none [⟨some 26, none, .bin .lss (.t 25) (.t 24)⟩])
  (.seq (.cond (.t 26) (.skip)
  (.exit 0))
  (c17_13))
noncomputable def c17_15 : ACode := .seq (.region none [⟨some 108, none, .move (.t 5)⟩,
   ⟨some 109, none, .move (.t 5)⟩,
   ⟨some 110, none, .nilCheck (.t 109)⟩,
   ⟨some 111, none, .fieldAddr 5 (.t 110)⟩,
   ⟨some 112, none, .load none (.t 111)⟩,
   ⟨some 113, none, .nilCheck (.t 108)⟩,
   ⟨some 114, none, .fieldAddr 0 (.t 113)⟩,
   ⟨some 115, none, .fieldAddr 0 (.t 114)⟩,
   ⟨none, none, .store 1 (.t 115) (.t 112)⟩])
  (.seq (.region none [⟨some 116, none, .move (.t 5)⟩,
   ⟨some 117, none, .nilCheck (.t 116)⟩,
   ⟨some 118, none, .fieldAddr 0 (.t 117)⟩,
   ⟨some 119, none, .load (some 4) (.t 118)⟩,
   ⟨none, none, .store 4 (.t 2) (.t 119)⟩,
   ⟨some 3, none, .move (.c (.int .i64 0))⟩])
  (.ret))
noncomputable def c17_16 : ACode := .mask (.n (.n .e false (.n .e true .e)) false (.n .e true .e)) (c17_15)
noncomputable def c17_17 : ACode := .seq (.region none [⟨some 21, none, .build [.int .i64 0, .sl 3 [] .nil, .sl 1 [] .nil, .sl 1 [] .nil, .nilmap, .int .i64 0] []⟩,
   ⟨some 22, none, .boxMut (.t 21)⟩,
   ⟨some 5, none, .move (.t 22)⟩])
  (.seq (.seq (.region none [⟨some 23, none, .move (.t 0)⟩,
   ⟨some 24, none, .len false (.t 23)⟩,
   ⟨some 25, none, .move (.c (.int .i64 0))⟩])
  (.block 0 (.loop (.n (.n (.n (.n .e false (.n .e true .e)) false .e) false (.n (.n .e false (.n .e true .e)) true .e)) true (.n (.n (.n .e false (.n .e true .e)) false .e) true .e)) (c17_14))))
  (c17_16))
noncomputable def c17_18 : ACode := .mask (.n .e true (.n .e true .e)) (c17_17)
noncomputable def c17_b : ACode := .seq (.region none [⟨some 2, none, .alloc [.int .i64 0, .sl 3 [] .nil, .sl 1 [] .nil, .sl 1 [] .nil]⟩,
   ⟨some 3, none, .move (.c (.int .i64 0))⟩])
  (.seq (.seq (.region none [⟨some 15, none, .move (.t 0)⟩,
   ⟨some 16, none, .call 29 [.t 15]⟩,
   ⟨some 4, none, .move (.t 16)⟩])
  (.seq (.region none [⟨some 17, none, .move (.t 4)⟩,
   ⟨some 18, none, .bin .neq (.t 17) (.c (.int .i64 0))⟩])
  (.cond (.t 18) (.seq (.region none [⟨some 19, none, .build [.int .i64 0, .sl 3 [] .nil, .sl 1 [] .nil, .sl 1 [] .nil] []⟩,
   ⟨some 20, none, .move (.t 4)⟩,
   ⟨none, none, .store 4 (.t 2) (.t 19)⟩,
   ⟨some 3, none, .move (.t 20)⟩])
  (.ret))
  (.skip))))
  (c17_18))
noncomputable def c17 : AFn := { np := 1, nt := 120, results := [.cell 2 (some 4), .t 3], keep := false, body := c17_b }
noncomputable def c18_1 : ACode := .cond (.t 42) (.seq (.region none [⟨some 46, none, .move (.t 7)⟩,
   ⟨some 47, none, .fieldAddr 1 (.t 3)⟩,
   ⟨some 48, none, .load none (.t 47)⟩,
   ⟨some 49, none, .callV (.t 46) [.t 48]⟩,
   ⟨some 50, none, .move (.t 49)⟩,
   ⟨some 51, (some (50, true)), .move (.t 7)⟩,
   ⟨some 52, (some (50, true)), .fieldAddr 2 (.t 3)⟩,
   ⟨some 53, (some (50, true)), .load none (.t 52)⟩,
   ⟨some 54, (some (50, true)), .callV (.t 51) [.t 53]⟩,
   ⟨some 55, none, .pick (.t 50) (.t 54) (.c (.bool false))⟩,
   ⟨some 6, none, .move (.t 55)⟩])
  (.ret))
  (.seq (.region none [⟨some 57, none, .bin .eql (.t 10) (.c (.int .i64 6))⟩,
   ⟨some 56, none, .move (.t 57)⟩])
  (.cond (.t 56) (.seq (.region none [⟨some 58, none, .move (.t 7)⟩,
   ⟨some 59, none, .fieldAddr 1 (.t 3)⟩,
   ⟨some 60, none, .load none (.t 59)⟩,
   ⟨some 61, none, .callV (.t 58) [.t 60]⟩,
   ⟨some 62, none, .move (.t 61)⟩,
   ⟨some 63, (some (62, true)), .fieldAddr 2 (.t 3)⟩,
   ⟨some 64, (some (62, true)), .load none (.t 63)⟩,
   ⟨some 65, (some (62, true)), .bin .eql (.t 64) (.c (.int .i64 0))⟩,
   ⟨some 66, none, .pick (.t 62) (.t 65) (.c (.bool false))⟩,
   ⟨some 6, none, .move (.t 66)⟩])
  (.ret))
  (.skip)))
noncomputable def c18_2 : ACode := .mask (.n (.n (.n (.n .e true .e) true .e) false .e) false (.n .e false (.n (.n .e true (.n (.n .e true .e) false .e)) false .e))) (c18_1)
noncomputable def c18_3 : ACode := .seq (.region none [⟨some 6, none, .move (.c (.bool false))⟩])
  (.ret)
noncomputable def c18_4 : ACode := .mask .e (c18_3)
noncomputable def c18_b : ACode := .seq (.region none [⟨some 3, none, .boxRo (.t 0)⟩,
   ⟨some 4, none, .boxRo (.t 1)⟩,
   ⟨some 6, none, .move (.c (.bool false))⟩])
  (.seq (.region none [⟨some 8, none, .mkFunc 34 [.t 4]⟩,
   ⟨some 7, none, .move (.t 8)⟩])
  (.seq (.seq (.region none [⟨some 9, none, .fieldAddr 0 (.t 3)⟩,
   ⟨some 10, none, .load none (.t 9)⟩])
  (.block 0 (.seq (.region none [⟨some 12, none, .bin .eql (.t 10) (.c (.int .i64 1))⟩,
   ⟨some 11, none, .move (.t 12)⟩])
  (.cond (.t 11) (.seq (.region none [⟨some 13, none, .fieldAddr 1 (.t 3)⟩,
   ⟨some 14, none, .load none (.t 13)⟩,
   ⟨some 15, none, .bin .geq (.t 14) (.c (.int .i64 0))⟩,
   ⟨some 16, none, .move (.t 15)⟩,
   ⟨some 17, (some (16, true)), .fieldAddr 1 (.t 3)⟩,
   ⟨some 18, (some (16, true)), .load none (.t 17)⟩,
   ⟨some 19, (some (16, true)), .move (.t 2)⟩,
   ⟨some 20, (some (16, true)), .bin .lss (.t 18) (.t 19)⟩,
   ⟨some 21, none, .pick (.t 16) (.t 20) (.c (.bool false))⟩,
   ⟨some 22, none, .move (.t 21)⟩,
   ⟨some 23, (some (22, true)), .fieldAddr 2 (.t 3)⟩,
   ⟨some 24, (some (22, true)), .load none (.t 23)⟩,
   ⟨some 25, (some (22, true)), .bin .eql (.t 24) (.c (.int .i64 0))⟩,
   ⟨some 26, none, .pick (.t 22) (.t 25) (.c (.bool false))⟩,
   ⟨some 6, none, .move (.t 26)⟩])
  (.ret))
  (.seq (.region none [⟨some 28, none, .bin .eql (.t 10) (.c (.int .i64 2))⟩,
   ⟨some 27, none, .move (.t 28)⟩])
  (.cond (.t 27) (.seq (.region none [⟨some 29, none, .fieldAddr 1 (.t 3)⟩,
   ⟨some 30, none, .load none (.t 29)⟩,
   ⟨some 31, none, .bin .geq (.t 30) (.c (.int .i64 (-1000)))⟩,
   ⟨some 32, none, .move (.t 31)⟩,
   ⟨some 33, (some (32, true)), .fieldAddr 1 (.t 3)⟩,
   ⟨some 34, (some (32, true)), .load none (.t 33)⟩,
   ⟨some 35, (some (32, true)), .bin .leq (.t 34) (.c (.int .i64 1000))⟩,
   ⟨some 36, none, .pick (.t 32) (.t 35) (.c (.bool false))⟩,
   ⟨some 37, none, .move (.t 36)⟩,
   ⟨some 38, (some (37, true)), .fieldAddr 2 (.t 3)⟩,
   ⟨some 39, (some (37, true)), .load none (.t 38)⟩,
   ⟨some 40, (some (37, true)), .bin .eql (.t 39) (.c (.int .i64 0))⟩,
   ⟨some 41, none, .pick (.t 37) (.t 40) (.c (.bool false))⟩,
   ⟨some 6, none, .move (.t 41)⟩])
  (.ret))
  (.seq (.seq (.region none [⟨some 43, none, .bin .eql (.t 10) (.c (.int .i64 3))⟩,
   ⟨some 42, none, .move (.t 43)⟩])
  (.cond (.t 42) (.skip)
  (.seq (.region none [⟨some 44, none, .bin .eql (.t 10) (.c (.int .i64 4))⟩,
   ⟨some 42, none, .move (.t 44)⟩])
  (.cond (.t 42) (.skip)
  (.region none [⟨some 45, none, .bin .eql (.t 10) (.c (.int .i64 5))⟩,
   ⟨some 42, none, .move (.t 45)⟩])))))
  (c18_2))))))))
  (c18_4)))
noncomputable def c18 : AFn := { np := 3, nt := 67, results := [.t 6], keep := false, body := c18_b }
noncomputable def c19_b : ACode := .seq (.region none [⟨some 3, none, .move (.c (.int .i64 0))⟩])
  (.seq (.region none [⟨some 4, none, .load (some 3) (.t 1)⟩,
   ⟨some 5, none, .move (.t 0)⟩,
   ⟨some 6, none, .call 8 [.t 4, .t 5]⟩,
   ⟨some 3, none, .move (.t 6)⟩])
  (.ret))
noncomputable def c19 : AFn := { np := 2, nt := 7, results := [.t 3], keep := false, body := c19_b }
noncomputable def c20_b : ACode := .seq (.region none [⟨some 5, none, .move (.c (.int .i64 0))⟩])
  (.seq (.region none [⟨some 6, none, .load (some 3) (.t 2)⟩,
   ⟨some 7, none, .move (.t 0)⟩,
   ⟨some 8, none, .move (.t 1)⟩,
   ⟨some 9, none, .call 21 [.t 6, .t 7, .t 8]⟩,
   ⟨some 5, none, .move (.t 9)⟩])
  (.ret))
noncomputable def c20 : AFn := { np := 3, nt := 10, results := [.t 5], keep := false, body := c20_b }
noncomputable def c21_b : ACode := .seq (.region none [⟨some 3, none, .boxRo (.t 0)⟩,
   ⟨some 6, none, .move (.c (.int .i64 0))⟩])
  (.seq (.region none [⟨some 7, none, .load (some 3) (.t 3)⟩,
   ⟨some 8, none, .move (.t 1)⟩,
   ⟨some 9, none, .move (.t 2)⟩,
   ⟨some 10, none, .bin .add (.t 8) (.t 9)⟩,
   ⟨some 11, none, .call 8 [.t 7, .t 10]⟩,
   ⟨some 6, none, .move (.t 11)⟩])
  (.ret))
noncomputable def c21 : AFn := { np := 3, nt := 12, results := [.t 6], keep := false, body := c21_b }
noncomputable def c22_b : ACode := .seq (.region none [⟨some 5, none, .move (.c (.int .i64 0))⟩])
  (.seq (.region none [⟨some 6, none, .load (some 3) (.t 2)⟩,
   ⟨some 7, none, .move (.t 0)⟩,
   ⟨some 8, none, .move (.t 1)⟩,
   ⟨some 9, none, .call 23 [.t 6, .t 7, .t 8]⟩,
   ⟨some 5, none, .move (.t 9)⟩])
  (.ret))
noncomputable def c22 : AFn := { np := 3, nt := 10, results := [.t 5], keep := false, body := c22_b }
noncomputable def c23_b : ACode := .seq (.region none [⟨some 3, none, .boxRo (.t 0)⟩,
   ⟨some 6, none, .move (.c (.int .i64 0))⟩])
  (.seq (.region none [⟨some 7, none, .load (some 3) (.t 3)⟩,
   ⟨some 8, none, .move (.t 1)⟩,
   ⟨some 9, none, .move (.t 2)⟩,
   ⟨some 10, none, .bin .sub (.t 8) (.t 9)⟩,
   ⟨some 11, none, .call 8 [.t 7, .t 10]⟩,
   ⟨some 6, none, .move (.t 11)⟩])
  (.ret))
noncomputable def c23 : AFn := { np := 3, nt := 12, results := [.t 6], keep := false, body := c23_b }
noncomputable def c24_b : ACode := .seq (.region none [⟨some 5, none, .move (.c (.int .i64 0))⟩])
  (.seq (.region none [⟨some 6, none, .load (some 3) (.t 2)⟩,
   ⟨some 7, none, .move (.t 0)⟩,
   ⟨some 8, none, .move (.t 1)⟩,
   ⟨some 9, none, .call 25 [.t 6, .t 7, .t 8]⟩,
   ⟨some 5, none, .move (.t 9)⟩])
  (.ret))
noncomputable def c24 : AFn := { np := 3, nt := 10, results := [.t 5], keep := false, body := c24_b }
noncomputable def c25_b : ACode := .seq (.region none [⟨some 3, none, .boxRo (.t 0)⟩,
   ⟨some 6, none, .move (.c (.int .i64 0))⟩])
  (.seq (.region none [⟨some 7, none, .load (some 3) (.t 3)⟩,
   ⟨some 8, none, .move (.t 1)⟩,
   ⟨some 9, none, .move (.t 2)⟩,
   ⟨some 10, none, .bin .mul (.t 8) (.t 9)⟩,
   ⟨some 11, none, .call 8 [.t 7, .t 10]⟩,
   ⟨some 6, none, .move (.t 11)⟩])
  (.ret))
noncomputable def c25 : AFn := { np := 3, nt := 12, results := [.t 6], keep := false, body := c25_b }
noncomputable def c26_b : ACode := .seq (.region none [⟨some 5, none, .move (.c (.int .i64 0))⟩])
  (.seq (.region none [⟨some 6, none, .load (some 3) (.t 2)⟩,
   ⟨some 7, none, .move (.t 0)⟩,
   ⟨some 8, none, .move (.t 1)⟩,
   ⟨some 9, none, .call 27 [.t 6, .t 7, .t 8]⟩,
   ⟨some 5, none, .move (.t 9)⟩])
  (.ret))
noncomputable def c26 : AFn := { np := 3, nt := 10, results := [.t 5], keep := false, body := c26_b }
noncomputable def c27_1 : ACode := .seq (.region (some []) [⟨some 23, none, .load (some 3) (.t 3)⟩,
   ⟨some 24, none, .load (some 3) (.t 3)⟩,
   ⟨some 25, none, .load (some 3) (.t 3)⟩,
   ⟨some 26, none, .fieldAddr 1 (.t 3)⟩,
   ⟨some 27, none, .load none (.t 26)⟩,
   ⟨some 28, none, .callP 8 [.t 25, .t 27]⟩,
   ⟨some 29, none, .move (.t 2)⟩,
   ⟨some 30, none, .callP 25 [.t 24, .t 28, .t 29]⟩,
   ⟨some 31, none, .load (some 3) (.t 3)⟩,
   ⟨some 32, none, .move (.t 1)⟩,
   ⟨some 33, none, .bin .add (.t 32) (.c (.int .i64 1))⟩,
   ⟨some 34, none, .callP 8 [.t 31, .t 33]⟩,
   ⟨some 35, none, .call 21 [.t 23, .t 30, .t 34]⟩,
   ⟨some 6, none, .move (.t 35)⟩])
  (.ret)
noncomputable def c27_2 : ACode := .mask (.n (.n (.n .e true .e) true .e) false (.n .e true .e)) (c27_1)
noncomputable def c27_b : ACode := .seq (.region none [⟨some 3, none, .boxRo (.t 0)⟩,
   ⟨some 6, none, .move (.c (.int .i64 0))⟩])
  (.seq (.seq (.region none [⟨some 7, none, .move (.t 1)⟩,
   ⟨some 8, none, .bin .geq (.t 7) (.c (.int .i64 0))⟩,
   ⟨some 9, none, .move (.t 8)⟩,
   ⟨some 10, (some (9, true)), .move (.t 1)⟩,
   ⟨some 11, (some (9, true)), .fieldAddr 2 (.t 3)⟩,
   ⟨some 12, (some (9, true)), .load none (.t 11)⟩,
   ⟨some 13, (some (9, true)), .len false (.t 12)⟩,
   ⟨some 14, (some (9, true)), .bin .lss (.t 10) (.t 13)⟩,
   ⟨some 15, none, .pick (.t 9) (.t 14) (.c (.bool false))⟩])
  (.cond (.t 15) (.seq (.region (some []) [⟨some 16, none, .load (some 3) (.t 3)⟩,
   ⟨some 17, none, .fieldAddr 2 (.t 3)⟩,
   ⟨some 18, none, .load none (.t 17)⟩,
   ⟨some 19, none, .move (.t 1)⟩,
   ⟨some 20, none, .idxSl 1 (.t 18) (.t 19)⟩,
   ⟨some 21, none, .load none (.t 20)⟩,
   ⟨some 22, none, .call 8 [.t 16, .t 21]⟩,
   ⟨some 6, none, .move (.t 22)⟩])
  (.ret))
  (.skip)))
  (c27_2))
noncomputable def c27 : AFn := { np := 3, nt := 36, results := [.t 6], keep := false, body := c27_b }
noncomputable def c29_1 : ACode := .seq (.region none [⟨some 19, none, .load (some 12) (.t 5)⟩,
   ⟨some 20, none, .call 36 [.t 19]⟩])
  (.cond (.t 20) (.region none [⟨some 21, none, .move (.t 3)⟩,
   ⟨some 22, none, .bin .add (.t 21) (.c (.int .i64 1))⟩,
   ⟨some 3, none, .move (.t 22)⟩])
  (.skip))
noncomputable def c29_2 : ACode := .mask (.n (.n (.n (.n .e true .e) true .e) false (.n .e true .e)) true (.n (.n (.n .e true .e) false .e) false (.n .e true .e))) (c29_1)
noncomputable def c29_3 : ACode := .region none [⟨some 23, none, .bin .add (.t 8) (.c (.int .i64 1))⟩,
   ⟨some 8, none, .move (.t 23)⟩]
noncomputable def c29_4 : ACode := .mask (.n (.n (.n (.n .e true .e) true .e) false .e) true (.n (.n (.n .e true .e) false .e) false (.n .e true .e))) (c29_3)
noncomputable def c29_5 : ACode := .seq (.block 1 (.seq (.region none [⟨some 10, none, .move (.t 8)⟩,
   ⟨some 11, none, .idxSl 12 (.t 6) (.t 8)⟩,
   ⟨some 12, none, .load (some 12) (.t 11)⟩,
   ⟨some 5, none, .alloc [.str [], .int .i64 0, .sl 1 [] .nil, .bool false, .sl 1 [] .nil, .bool false, .sl 1 [] .nil, .bool false, .sl 1 [] .nil, .bool false, .sl 1 [] .nil, .int .i64 0]⟩,
   ⟨some 4, none, .move (.t 10)⟩,
   ⟨none, none, .store 12 (.t 5) (.t 12)⟩])
  (.seq (.seq (.region none [⟨some 13, none, .move (.t 0)⟩,
   ⟨some 14, none, .move (.t 4)⟩,
   ⟨some 15, none, .bin .add (.t 14) (.c (.int .i64 1))⟩,
   ⟨some 16, none, .slice 12 (.t 13) none (some (.t 15)) none⟩,
   ⟨some 17, none, .call 35 [.t 16]⟩,
   ⟨some 18, none, .un .not (.t 17)⟩])
  (.cond (.t 18) (.seq (.region none [⟨some 2, none, .move (.c (.int .i64 120))⟩])
  (.ret))
  (.skip)))
  (c29_2))))
  (c29_4)
noncomputable def c29_6 : ACode := .mask (.n (.n (.n (.n .e true .e) true .e) false .e) true (.n (.n (.n .e true .e) false .e) false (.n .e true .e))) (c29_5)
noncomputable def c29_7 : ACode := .seq (.region none [⟨some 9, none, .bin .lss (.t 8) (.t 7)⟩])
  (.seq (.cond (.t 9) (.skip)
  (.exit 0))
  (c29_6))
noncomputable def c29_8 : ACode := .seq (.region none [⟨some 2, none, .move (.c (.int .i64 0))⟩])
  (.ret)
noncomputable def c29_9 : ACode := .mask .e (c29_8)
noncomputable def c29_10 : ACode := .seq (.seq (.region none [⟨some 24, none, .move (.t 0)⟩,
   ⟨some 25, none, .len false (.t 24)⟩,
   ⟨some 26, none, .bin .gtr (.t 25) (.c (.int .i64 40))⟩,
   ⟨some 27, none, .move (.t 26)⟩,
   ⟨some 28, (some (27, false)), .move (.t 3)⟩,
   ⟨some 29, (some (27, false)), .bin .gtr (.t 28) (.c (.int .i64 5))⟩,
   ⟨some 30, none, .pick (.t 27) (.c (.bool true)) (.t 29)⟩,
   ⟨some 31, none, .move (.t 30)⟩,
   ⟨some 32, (some (31, false)), .move (.t 0)⟩,
   ⟨some 33, (some (31, false)), .call 37 [.t 32]⟩,
   ⟨some 34, (some (31, false)), .len false (.t 33)⟩,
   ⟨some 35, (some (31, false)), .bin .gtr (.t 34) (.c (.int .i64 20))⟩,
   ⟨some 36, none, .pick (.t 31) (.c (.bool true)) (.t 35)⟩])
  (.cond (.t 36) (.seq (.region none [⟨some 2, none, .move (.c (.int .i64 111))⟩])
  (.ret))
  (.skip)))
  (c29_9)
noncomputable def c29_11 : ACode := .mask (.n (.n (.n .e true .e) false .e) true .e) (c29_10)
noncomputable def c29_b : ACode := .seq (.region none [⟨some 2, none, .move (.c (.int .i64 0))⟩])
  (.seq (.region none [⟨some 3, none, .move (.c (.int .i64 0))⟩])
  (.seq (.seq (.region none [⟨some 6, none, .move (.t 0)⟩,
   ⟨some 7, none, .len false (.t 6)⟩,
   ⟨some 8, none, .move (.c (.int .i64 0))⟩])
  (.block 0 (.loop (.n (.n (.n (.n .e true .e) true .e) false .e) true (.n (.n (.n .e true .e) false .e) false (.n .e true .e))) (c29_7))))
  (c29_11)))
noncomputable def c29 : AFn := { np := 1, nt := 37, results := [.t 2], keep := false, body := c29_b }
noncomputable def c30_1 : ACode := .seq (.region none [⟨some 13, none, .move (.t 0)⟩,
   ⟨some 14, none, .move (.t 1)⟩,
   ⟨some 15, none, .idxSl 12 (.t 13) (.t 14)⟩,
   ⟨some 16, none, .load (some 12) (.t 15)⟩,
   ⟨some 17, none, .call 39 [.t 16]⟩,
   ⟨some 4, none, .move (.t 17)⟩,
   ⟨some 5, none, .move (.c (.int .i64 0))⟩])
  (.ret)
noncomputable def c30_2 : ACode := .mask (.n (.n .e true .e) true .e) (c30_1)
noncomputable def c30_b : ACode := .seq (.region none [⟨some 4, none, .move (.c (.int .i64 0))⟩,
   ⟨some 5, none, .move (.c (.int .i64 0))⟩])
  (.seq (.seq (.region none [⟨some 7, none, .move (.t 0)⟩,
   ⟨some 8, none, .move (.t 1)⟩,
   ⟨some 9, none, .call 38 [.t 7, .t 8]⟩,
   ⟨some 6, none, .move (.t 9)⟩])
  (.seq (.region none [⟨some 10, none, .move (.t 6)⟩,
   ⟨some 11, none, .bin .neq (.t 10) (.c (.int .i64 0))⟩])
  (.cond (.t 11) (.seq (.region none [⟨some 12, none, .move (.t 6)⟩,
   ⟨some 4, none, .move (.c (.int .i64 0))⟩,
   ⟨some 5, none, .move (.t 12)⟩])
  (.ret))
  (.skip))))
  (c30_2))
noncomputable def c30 : AFn := { np := 2, nt := 18, results := [.t 4, .t 5], keep := false, body := c30_b }
noncomputable def c31_1 : ACode := .region none [⟨some 35, none, .move (.t 11)⟩,
   ⟨some 36, none, .idxArr 1 4 (.t 8) (.t 35)⟩,
   ⟨some 37, none, .load none (.t 36)⟩,
   ⟨some 38, none, .bin .add (.t 37) (.c (.int .i64 1))⟩,
   ⟨some 39, none, .idxArr 1 4 (.t 8) (.t 35)⟩,
   ⟨none, none, .store 1 (.t 39) (.t 38)⟩]
noncomputable def c31_2 : ACode := .mask (.n (.n (.n (.n .e false (.n .e true .e)) true (.n .e true .e)) true (.n (.n .e true (.n .e true .e)) false .e)) true (.n (.n (.n .e true (.n .e true .e)) false .e) true .e)) (c31_1)
noncomputable def c31_3 : ACode := .region none [⟨some 40, none, .bin .add (.t 25) (.c (.int .i64 1))⟩,
   ⟨some 25, none, .move (.t 40)⟩]
noncomputable def c31_4 : ACode := .mask (.n (.n (.n (.n .e false (.n .e true .e)) true .e) true (.n (.n .e true (.n .e true .e)) false .e)) true (.n (.n (.n .e true (.n .e true .e)) false .e) true .e)) (c31_3)
noncomputable def c31_5 : ACode := .seq (.block 1 (.seq (.region none [⟨some 27, none, .move (.t 25)⟩,
   ⟨some 28, none, .idxSl 1 (.t 23) (.t 25)⟩,
   ⟨some 29, none, .load none (.t 28)⟩,
   ⟨some 10, none, .move (.t 27)⟩,
   ⟨some 11, none, .move (.t 29)⟩])
  (.seq (.seq (.region none [⟨some 30, none, .move (.t 3)⟩])
  (.cond (.t 30) (.seq (.region none [⟨some 11, none, .move (.c (.int .i64 1))⟩])
  (.region none [⟨some 31, none, .move (.t 2)⟩,
   ⟨some 32, none, .move (.t 10)⟩,
   ⟨some 33, none, .move (.t 11)⟩,
   ⟨some 34, none, .idxSl 1 (.t 31) (.t 32)⟩,
   ⟨none, none, .store 1 (.t 34) (.t 33)⟩]))
  (.skip)))
  (c31_2))))
  (c31_4)
noncomputable def c31_6 : ACode := .mask (.n (.n (.n (.n .e false (.n .e true .e)) true .e) true (.n (.n .e true (.n .e true .e)) false .e)) true (.n (.n (.n .e true (.n .e true .e)) false .e) true .e)) (c31_5)
noncomputable def c31_7 : ACode := .seq (.region none [⟨some 26, none, .bin .lss (.t 25) (.t 24)⟩])
  (.seq (.cond (.t 26) (.skip)
  (.exit 0))
  (c31_6))
noncomputable def c31_8 : ACode := .region none [⟨some 89, none, .bin .add (.t 71) (.c (.int .i64 1))⟩,
   ⟨some 71, none, .move (.t 89)⟩]
noncomputable def c31_9 : ACode := .mask (.n (.n (.n (.n (.n .e true (.n .e true .e)) false (.n (.n (.n .e true .e) false .e) false .e)) false .e) false (.n (.n .e true .e) false (.n (.n (.n (.n .e true .e) false .e) false .e) false (.n (.n .e true .e) false .e)))) true (.n (.n (.n (.n .e true .e) true .e) false (.n .e true .e)) true (.n .e false (.n (.n (.n (.n .e true .e) false .e) false .e) false (.n (.n .e true .e) false .e))))) (c31_8)
noncomputable def c31_10 : ACode := .seq (.block 5 (.seq (.region none [⟨some 73, none, .move (.t 71)⟩,
   ⟨some 74, none, .idxSl 1 (.t 69) (.t 71)⟩,
   ⟨some 75, none, .load none (.t 74)⟩,
   ⟨some 17, none, .move (.t 73)⟩,
   ⟨some 18, none, .move (.t 75)⟩])
  (.region (some []) [⟨some 76, none, .move (.t 0)⟩,
   ⟨some 77, none, .nilCheck (.t 76)⟩,
   ⟨some 78, none, .fieldAddr 4 (.t 77)⟩,
   ⟨some 79, none, .load none (.t 78)⟩,
   ⟨some 80, none, .move (.t 15)⟩,
   ⟨some 81, none, .idxArr 1 4 (.t 12) (.t 80)⟩,
   ⟨some 82, none, .load none (.t 81)⟩,
   ⟨some 83, none, .move (.t 17)⟩,
   ⟨some 84, none, .idxSl 1 (.t 82) (.t 83)⟩,
   ⟨some 85, none, .load none (.t 84)⟩,
   ⟨some 86, none, .move (.t 16)⟩,
   ⟨some 87, none, .bin .add (.t 85) (.t 86)⟩,
   ⟨some 88, none, .move (.t 18)⟩,
   ⟨none, none, .mapPut .str (.t 79) (.t 87) (.t 88)⟩])))
  (c31_9)
noncomputable def c31_11 : ACode := .mask (.n (.n (.n (.n (.n .e true (.n .e true .e)) false (.n (.n (.n .e true .e) false .e) false .e)) false .e) false (.n (.n .e true .e) false (.n (.n (.n (.n .e true .e) false .e) false .e) false (.n (.n .e true .e) false .e)))) true (.n (.n (.n (.n .e true .e) true .e) false (.n .e true .e)) true (.n .e false (.n (.n (.n (.n .e true .e) false .e) false .e) false (.n (.n .e true .e) false .e))))) (c31_10)
noncomputable def c31_12 : ACode := .seq (.region none [⟨some 72, none, .bin .lss (.t 71) (.t 70)⟩])
  (.seq (.cond (.t 72) (.skip)
  (.exit 4))
  (c31_11))
noncomputable def c31_13 : ACode := .seq (.region none [⟨some 69, none, .move (.t 14)⟩,
   ⟨some 70, none, .len false (.t 69)⟩,
   ⟨some 71, none, .move (.c (.int .i64 0))⟩])
  (.block 4 (.loop (.n (.n (.n (.n (.n .e true (.n .e true .e)) false (.n (.n (.n .e true .e) false .e) false .e)) false .e) false (.n (.n .e true .e) false (.n (.n (.n (.n .e true .e) false .e) false .e) false (.n (.n .e true .e) false .e)))) true (.n (.n (.n (.n .e true .e) true .e) false (.n .e true .e)) true (.n .e false (.n (.n (.n (.n .e true .e) false .e) false .e) false (.n (.n .e true .e) false .e))))) (c31_12)))
noncomputable def c31_14 : ACode := .mask (.n (.n (.n (.n (.n .e true (.n .e true .e)) false .e) false .e) false (.n (.n .e true .e) false (.n .e false (.n (.n .e true .e) false .e)))) true (.n (.n (.n (.n .e true .e) true .e) false (.n .e true .e)) true (.n .e false (.n .e true (.n (.n .e true .e) false .e))))) (c31_13)
noncomputable def c31_15 : ACode := .region none [⟨some 90, none, .bin .add (.t 47) (.c (.int .i64 1))⟩,
   ⟨some 47, none, .move (.t 90)⟩]
noncomputable def c31_16 : ACode := .mask (.n (.n (.n (.n (.n .e false (.n .e true .e)) false .e) false .e) false (.n (.n .e true .e) false (.n .e false (.n (.n .e true .e) false .e)))) true (.n (.n (.n .e true .e) false (.n .e true .e)) true (.n .e false (.n .e false (.n (.n .e true .e) false .e))))) (c31_15)
noncomputable def c31_17 : ACode := .seq (.block 3 (.seq (.region none [⟨some 49, none, .move (.t 47)⟩,
   ⟨some 50, none, .idxSl 1 (.t 45) (.t 47)⟩,
   ⟨some 51, none, .load none (.t 50)⟩,
   ⟨some 13, none, .move (.t 49)⟩,
   ⟨some 14, none, .move (.t 51)⟩])
  (.seq (.region none [⟨some 52, none, .move (.t 2)⟩,
   ⟨some 53, none, .move (.t 13)⟩,
   ⟨some 54, none, .idxSl 1 (.t 52) (.t 53)⟩,
   ⟨some 55, none, .load none (.t 54)⟩,
   ⟨some 15, none, .move (.t 55)⟩])
  (.seq (.region none [⟨some 56, none, .move (.t 15)⟩,
   ⟨some 57, none, .idxArr 1 4 (.t 9) (.t 56)⟩,
   ⟨some 58, none, .load none (.t 57)⟩,
   ⟨some 59, none, .bin .add (.t 58) (.c (.int .i64 1))⟩,
   ⟨some 60, none, .idxArr 1 4 (.t 9) (.t 56)⟩,
   ⟨none, none, .store 1 (.t 60) (.t 59)⟩])
  (.seq (.region none [⟨some 16, none, .move (.c (.str []))⟩])
  (.seq (.seq (.region none [⟨some 61, none, .move (.t 15)⟩,
   ⟨some 62, none, .idxArr 1 4 (.t 8) (.t 61)⟩,
   ⟨some 63, none, .load none (.t 62)⟩,
   ⟨some 64, none, .bin .gtr (.t 63) (.c (.int .i64 1))⟩])
  (.cond (.t 64) (.region none [⟨some 65, none, .move (.t 15)⟩,
   ⟨some 66, none, .idxArr 1 4 (.t 9) (.t 65)⟩,
   ⟨some 67, none, .load none (.t 66)⟩,
   ⟨some 68, none, .call 40 [.t 67]⟩,
   ⟨some 16, none, .move (.t 68)⟩])
  (.skip)))
  (c31_14)))))))
  (c31_16)
noncomputable def c31_18 : ACode := .mask (.n (.n (.n (.n (.n .e false (.n .e true .e)) false .e) false .e) false (.n (.n .e true .e) false (.n .e false (.n (.n .e true .e) false .e)))) true (.n (.n (.n .e true .e) false (.n .e true .e)) true (.n .e false (.n .e false (.n (.n .e true .e) false .e))))) (c31_17)
noncomputable def c31_19 : ACode := .seq (.region none [⟨some 48, none, .bin .lss (.t 47) (.t 46)⟩])
  (.seq (.cond (.t 48) (.skip)
  (.exit 2))
  (c31_18))
noncomputable def c31_20 : ACode := .seq (.region none [⟨some 41, none, .buildSlice 1 [.c (.str [120]), .c (.str [121]), .c (.str [122])]⟩,
   ⟨some 42, none, .buildSlice 1 [.c (.str [97]), .c (.str [98]), .c (.str [99])]⟩,
   ⟨some 43, none, .buildSlice 1 [.c (.str [117]), .c (.str [112]), .c (.str [113]), .c (.str [114]), .c (.str [97, 120]), .c (.str [97, 121]), .c (.str [97, 122])]⟩,
   ⟨some 44, none, .build [.sl 1 [] .nil, .sl 1 [] .nil, .sl 1 [] .nil, .sl 1 [] .nil] [(0, 1, .c (.sl 1 [] .nil)), (1, 1, .t 41), (2, 1, .t 42), (3, 1, .t 43)]⟩,
   ⟨some 12, none, .alloc [.sl 1 [] .nil, .sl 1 [] .nil, .sl 1 [] .nil, .sl 1 [] .nil]⟩,
   ⟨none, none, .store 4 (.t 12) (.t 44)⟩])
  (.seq (.region none [⟨some 45, none, .move (.t 1)⟩,
   ⟨some 46, none, .len false (.t 45)⟩,
   ⟨some 47, none, .move (.c (.int .i64 0))⟩])
  (.block 2 (.loop (.n (.n (.n (.n (.n .e false (.n .e true .e)) false .e) false .e) false (.n (.n .e true .e) false (.n .e false (.n (.n .e true .e) false .e)))) true (.n (.n (.n .e true .e) false (.n .e true .e)) true (.n .e false (.n .e false (.n (.n .e true .e) false .e))))) (c31_19))))
noncomputable def c31_21 : ACode := .mask (.n (.n .e true (.n (.n .e true .e) false .e)) true (.n (.n (.n .e true .e) false .e) true .e)) (c31_20)
noncomputable def c31_b : ACode := .seq (.region none [⟨some 19, none, .move (.t 0)⟩,
   ⟨some 20, none, .makeMap (some (.t 0))⟩,
   ⟨some 21, none, .nilCheck (.t 19)⟩,
   ⟨some 22, none, .fieldAddr 4 (.t 21)⟩,
   ⟨none, none, .store 1 (.t 22) (.t 20)⟩])
  (.seq (.region none [⟨some 8, none, .alloc [.int .i64 0, .int .i64 0, .int .i64 0, .int .i64 0]⟩,
   ⟨some 9, none, .alloc [.int .i64 0, .int .i64 0, .int .i64 0, .int .i64 0]⟩])
  (.seq (.seq (.region none [⟨some 23, none, .move (.t 2)⟩,
   ⟨some 24, none, .len false (.t 23)⟩,
   ⟨some 25, none, .move (.c (.int .i64 0))⟩])
  (.block 0 (.loop (.n (.n (.n (.n .e false (.n .e true .e)) true .e) true (.n (.n .e true (.n .e true .e)) false .e)) true (.n (.n (.n .e true (.n .e true .e)) false .e) true .e)) (c31_7))))
  (c31_21)))
noncomputable def c31 : AFn := { np := 4, nt := 91, results := [], keep := false, body := c31_b }
noncomputable def c32_1 : ACode := .region none [⟨some 17, none, .move (.t 5)⟩,
   ⟨some 18, none, .bin .add (.t 17) (.c (.int .i64 2))⟩,
   ⟨some 5, none, .move (.t 18)⟩]
noncomputable def c32_2 : ACode := .mask (.n (.n (.n .e true .e) false (.n .e true .e)) true .e) (c32_1)
noncomputable def c32_3 : ACode := .seq (.block 1 (.seq (.region (some []) [⟨some 19, none, .fieldAddr 0 (.t 3)⟩,
   ⟨some 20, none, .load none (.t 19)⟩,
   ⟨some 21, none, .move (.t 5)⟩,
   ⟨some 22, none, .idxSl 1 (.t 20) (.t 21)⟩,
   ⟨some 23, none, .load none (.t 22)⟩,
   ⟨some 24, none, .fieldAddr 0 (.t 3)⟩,
   ⟨some 25, none, .load none (.t 24)⟩,
   ⟨some 26, none, .move (.t 5)⟩,
   ⟨some 27, none, .bin .add (.t 26) (.c (.int .i64 1))⟩,
   ⟨some 28, none, .idxSl 1 (.t 25) (.t 27)⟩,
   ⟨some 29, none, .load none (.t 28)⟩,
   ⟨some 6, none, .move (.t 23)⟩,
   ⟨some 7, none, .move (.t 29)⟩])
  (.block 2 (.seq (.region none [⟨some 39, none, .move (.t 7)⟩,
   ⟨some 40, none, .bin .eql (.t 39) (.c (.str [105, 110]))⟩,
   ⟨some 38, none, .move (.t 40)⟩])
  (.cond (.t 38) (.seq (.region (some []) [⟨some 41, none, .move (.t 0)⟩,
   ⟨some 42, none, .nilCheck (.t 41)⟩,
   ⟨some 43, none, .fieldAddr 4 (.t 42)⟩,
   ⟨some 44, none, .load none (.at 43 0 4)⟩,
   ⟨some 45, none, .move (.t 6)⟩,
   ⟨some 46, none, .move (.t 0)⟩,
   ⟨some 47, none, .move (.t 0)⟩,
   ⟨some 48, none, .nilCheck (.t 47)⟩,
   ⟨some 49, none, .fieldAddr 5 (.t 48)⟩,
   ⟨some 50, none, .load none (.t 49)⟩,
   ⟨some 51, none, .callC [(none, .adv 0 4)] 41 [.t 46, .c (.int .i64 1), .t 50, .c (.int .i64 0)]⟩,
   ⟨none, none, .mapPut .str (.t 44) (.t 45) (.t 51)⟩])
  (.region none [⟨some 52, none, .move (.t 0)⟩,
   ⟨some 53, none, .nilCheck (.t 52)⟩,
   ⟨some 54, none, .fieldAddr 5 (.t 53)⟩,
   ⟨some 55, none, .load none (.t 54)⟩,
   ⟨some 56, none, .bin .add (.t 55) (.c (.int .i64 1))⟩,
   ⟨some 57, none, .nilCheck (.t 52)⟩,
   ⟨some 58, none, .fieldAddr 5 (.t 57)⟩,
   ⟨none, none, .store 1 (.t 58) (.t 56)⟩]))
  (.seq (.region none [⟨some 60, none, .move (.t 7)⟩,
   ⟨some 61, none, .idxStr (.t 60) (.c (.int .i64 0))⟩,
   ⟨some 62, none, .bin .eql (.t 61) (.c (.int .u8 33))⟩,
   ⟨some 59, none, .move (.t 62)⟩])
  (.cond (.t 59) (.seq (.region (some []) [⟨some 63, none, .move (.t 0)⟩,
   ⟨some 64, none, .nilCheck (.t 63)⟩,
   ⟨some 65, none, .fieldAddr 4 (.t 64)⟩,
   ⟨some 66, none, .load none (.at 65 0 4)⟩,
   ⟨some 67, none, .move (.t 6)⟩,
   ⟨some 68, none, .move (.t 0)⟩,
   ⟨some 69, none, .move (.t 0)⟩,
   ⟨some 70, none, .move (.t 7)⟩,
   ⟨some 71, none, .subStr (.t 70) (some (.c (.int .i64 1))) none⟩,
   ⟨some 72, none, .callC [(none, .adv 0 4)] 42 [.t 69, .t 71]⟩,
   ⟨some 73, none, .callC [(none, .adv 0 4)] 41 [.t 68, .c (.int .i64 6), .t 72, .c (.int .i64 0)]⟩,
   ⟨none, none, .mapPut .str (.t 66) (.t 67) (.t 73)⟩])
  (.region (some []) [⟨some 74, none, .move (.t 0)⟩,
   ⟨some 75, none, .move (.t 0)⟩,
   ⟨some 76, none, .nilCheck (.t 75)⟩,
   ⟨some 77, none, .fieldAddr 0 (.t 76)⟩,
   ⟨some 78, none, .fieldAddr 3 (.t 77)⟩,
   ⟨some 79, none, .load none (.t 78)⟩,
   ⟨some 80, none, .move (.t 0)⟩,
   ⟨some 81, none, .nilCheck (.t 80)⟩,
   ⟨some 82, none, .fieldAddr 4 (.t 81)⟩,
   ⟨some 83, none, .load none (.t 82)⟩,
   ⟨some 84, none, .move (.t 6)⟩,
   ⟨some 85, none, .lookup .str (.int .i64 0) false (.t 83) (.t 84)⟩,
   ⟨some 86, none, .buildSlice 1 [.t 85]⟩,
   ⟨some 87, none, .append 1 8 (some (.t 0)) (.t 79) (.t 86)⟩,
   ⟨some 88, none, .nilCheck (.t 74)⟩,
   ⟨some 89, none, .fieldAddr 0 (.t 88)⟩,
   ⟨some 90, none, .fieldAddr 3 (.t 89)⟩,
   ⟨none, none, .store 1 (.t 90) (.t 87)⟩]))
  (.region (some []) [⟨some 30, none, .move (.t 0)⟩,
   ⟨some 31, none, .nilCheck (.t 30)⟩,
   ⟨some 32, none, .fieldAddr 4 (.t 31)⟩,
   ⟨some 33, none, .load none (.at 32 0 4)⟩,
   ⟨some 34, none, .move (.t 6)⟩,
   ⟨some 35, none, .move (.t 0)⟩,
   ⟨some 36, none, .move (.t 7)⟩,
   ⟨some 37, none, .callC [(none, .adv 0 4)] 42 [.t 35, .t 36]⟩,
   ⟨none, none, .mapPut .str (.t 33) (.t 34) (.t 37)⟩]))))))))
  (c32_2)
noncomputable def c32_4 : ACode := .mask (.n (.n (.n .e true .e) false (.n .e true .e)) true .e) (c32_3)
noncomputable def c32_5 : ACode := .seq (.seq (.region none [⟨some 11, none, .move (.t 5)⟩,
   ⟨some 12, none, .bin .add (.t 11) (.c (.int .i64 1))⟩,
   ⟨some 13, none, .fieldAddr 0 (.t 3)⟩,
   ⟨some 14, none, .load none (.t 13)⟩,
   ⟨some 15, none, .len false (.t 14)⟩,
   ⟨some 16, none, .bin .lss (.t 12) (.t 15)⟩])
  (.cond (.t 16) (.skip)
  (.exit 0)))
  (c32_4)
noncomputable def c32_6 : ACode := .region none [⟨some 104, none, .bin .add (.t 94) (.c (.int .i64 1))⟩,
   ⟨some 94, none, .move (.t 104)⟩]
noncomputable def c32_7 : ACode := .mask (.n (.n .e false (.n .e false (.n .e false (.n .e false (.n (.n .e true .e) false .e))))) true (.n (.n (.n .e true .e) false (.n .e false (.n .e false (.n (.n .e true .e) false .e)))) false (.n .e false (.n .e false (.n .e false (.n (.n .e true .e) false .e)))))) (c32_6)
noncomputable def c32_8 : ACode := .seq (.block 4 (.seq (.region none [⟨some 96, none, .idxSl 1 (.t 92) (.t 94)⟩,
   ⟨some 97, none, .load none (.t 96)⟩,
   ⟨some 10, none, .move (.t 97)⟩])
  (.region none [⟨some 98, none, .move (.t 8)⟩,
   ⟨some 99, none, .move (.t 0)⟩,
   ⟨some 100, none, .move (.t 10)⟩,
   ⟨some 101, none, .call 42 [.t 99, .t 100]⟩,
   ⟨some 102, none, .buildSlice 1 [.t 101]⟩,
   ⟨some 103, none, .append 1 8 none (.t 98) (.t 102)⟩,
   ⟨some 8, none, .move (.t 103)⟩])))
  (c32_7)
noncomputable def c32_9 : ACode := .mask (.n (.n .e false (.n .e false (.n .e false (.n .e false (.n (.n .e true .e) false .e))))) true (.n (.n (.n .e true .e) false (.n .e false (.n .e false (.n (.n .e true .e) false .e)))) false (.n .e false (.n .e false (.n .e false (.n (.n .e true .e) false .e)))))) (c32_8)
noncomputable def c32_10 : ACode := .seq (.region none [⟨some 95, none, .bin .lss (.t 94) (.t 93)⟩])
  (.seq (.cond (.t 95) (.skip)
  (.exit 3))
  (c32_9))
noncomputable def c32_11 : ACode := .seq (.region none [⟨some 105, none, .move (.t 8)⟩,
   ⟨some 4, none, .move (.t 105)⟩])
  (.ret)
noncomputable def c32_12 : ACode := .mask (.n .e false (.n (.n (.n .e true .e) false .e) false .e)) (c32_11)
noncomputable def c32_13 : ACode := .seq (.region none [⟨some 8, none, .move (.c (.sl 1 [] .nil))⟩])
  (.seq (.seq (.region none [⟨some 91, none, .fieldAddr 1 (.t 3)⟩,
   ⟨some 92, none, .load none (.t 91)⟩,
   ⟨some 93, none, .len false (.t 92)⟩,
   ⟨some 94, none, .move (.c (.int .i64 0))⟩])
  (.block 3 (.loop (.n (.n .e false (.n .e false (.n .e false (.n .e false (.n (.n .e true .e) false .e))))) true (.n (.n (.n .e true .e) false (.n .e false (.n .e false (.n (.n .e true .e) false .e)))) false (.n .e false (.n .e false (.n .e false (.n (.n .e true .e) false .e)))))) (c32_10))))
  (c32_12))
noncomputable def c32_14 : ACode := .mask (.n (.n (.n .e true .e) false .e) true .e) (c32_13)
noncomputable def c32_b : ACode := .seq (.region none [⟨some 3, none, .boxRo (.t 1)⟩,
   ⟨some 4, none, .move (.c (.sl 1 [] .nil))⟩])
  (.seq (.seq (.region none [⟨some 5, none, .move (.c (.int .i64 0))⟩])
  (.block 0 (.loop (.n (.n (.n .e true .e) false (.n .e true .e)) true .e) (c32_5))))
  (c32_14))
noncomputable def c32 : AFn := { np := 2, nt := 106, results := [.t 4], keep := false, body := c32_b }
noncomputable def c33_1 : ACode := .seq (.region none [⟨some 18, none, .buildSlice 1 [.c (.str [116]), .c (.str [105, 110]), .c (.str [110]), .c (.str [97, 94, 50, 32, 43, 32, 98, 94, 50])]⟩,
   ⟨some 19, none, .buildSlice 1 [.c (.str [45, 97, 32, 99, 32, 45, 32, 116, 32, 98, 32, 110]), .c (.str [45, 98, 32, 99, 32, 43, 32, 116, 32, 97, 32, 110]), .c (.str [110])]⟩,
   ⟨some 20, none, .build [.sl 1 [] .nil, .sl 1 [] .nil] [(0, 1, .t 18), (1, 1, .t 19)]⟩,
   ⟨none, none, .store 2 (.t 4) (.t 20)⟩])
  (.ret)
noncomputable def c33_2 : ACode := .mask (.n .e false (.n (.n .e true .e) false .e)) (c33_1)
noncomputable def c33_3 : ACode := .cond (.t 26) (.seq (.region none [⟨some 29, none, .buildSlice 1 [.c (.str [119]), .c (.str [122, 50, 32, 122, 51]), .c (.str [101, 120]), .c (.str [120, 51, 32, 122, 50, 32, 45, 32, 120, 50, 32, 122, 51]), .c (.str [101, 121]), .c (.str [121, 51, 32, 122, 50, 32, 45, 32, 121, 50, 32, 122, 51]), .c (.str [100]), .c (.str [101, 120, 94, 50, 32, 43, 32, 101, 121, 94, 50]), .c (.str [118]), .c (.str [119, 94, 50]), .c (.str [103]), .c (.str [122, 49, 94, 50])]⟩,
   ⟨some 30, none, .buildSlice 1 [.c (.str [103, 32, 118]), .c (.str [45, 50, 32, 120, 49, 32, 122, 49, 32, 118]), .c (.str [45, 50, 32, 121, 49, 32, 122, 49, 32, 118]), .c (.str [40, 120, 49, 94, 50, 32, 43, 32, 121, 49, 94, 50, 41, 32, 118, 32, 45, 32, 103, 32, 100]), .c (.str [120, 49, 32, 119, 32, 43, 32, 122, 49, 32, 101, 120]), .c (.str [121, 49, 32, 119, 32, 43, 32, 122, 49, 32, 101, 121]), .c (.str [122, 49, 32, 119])]⟩,
   ⟨some 31, none, .build [.sl 1 [] .nil, .sl 1 [] .nil] [(0, 1, .t 29), (1, 1, .t 30)]⟩,
   ⟨none, none, .store 2 (.t 4) (.t 31)⟩])
  (.ret))
  (.seq (.region none [⟨some 33, none, .bin .eql (.t 6) (.c (.int .i64 7))⟩,
   ⟨some 32, none, .move (.t 33)⟩])
  (.cond (.t 32) (.seq (.region none [⟨some 34, none, .call 44 [.c (.int .i64 3)]⟩,
   ⟨some 35, none, .buildSlice 1 [.c (.str [102, 49, 32, 40, 103, 50, 32, 104, 51, 32, 45, 32, 104, 50, 32, 103, 51, 41, 32, 45, 32, 103, 49, 32, 40, 102, 50, 32, 104, 51, 32, 45, 32, 104, 50, 32, 102, 51, 41, 32, 43, 32, 104, 49, 32, 40, 102, 50, 32, 103, 51, 32, 45, 32, 103, 50, 32, 102, 51, 41]), .c (.str [45, 40, 115, 49, 32, 40, 103, 50, 32, 104, 51, 32, 45, 32, 104, 50, 32, 103, 51, 41, 32, 45, 32, 103, 49, 32, 40, 115, 50, 32, 104, 51, 32, 45, 32, 104, 50, 32, 115, 51, 41, 32, 43, 32, 104, 49, 32, 40, 115, 50, 32, 103, 51, 32, 45, 32, 103, 50, 32, 115, 51, 41, 41]), .c (.str [115, 49, 32, 40, 102, 50, 32, 104, 51, 32, 45, 32, 104, 50, 32, 102, 51, 41, 32, 45, 32, 102, 49, 32, 40, 115, 50, 32, 104, 51, 32, 45, 32, 104, 50, 32, 115, 51, 41, 32, 43, 32, 104, 49, 32, 40, 115, 50, 32, 102, 51, 32, 45, 32, 102, 50, 32, 115, 51, 41]), .c (.str [45, 40, 115, 49, 32, 40, 102, 50, 32, 103, 51, 32, 45, 32, 103, 50, 32, 102, 51, 41, 32, 45, 32, 102, 49, 32, 40, 115, 50, 32, 103, 51, 32, 45, 32, 103, 50, 32, 115, 51, 41, 32, 43, 32, 103, 49, 32, 40, 115, 50, 32, 102, 51, 32, 45, 32, 102, 50, 32, 115, 51, 41, 41]), .c (.str [120, 49]), .c (.str [121, 49]), .c (.str [122, 49])]⟩,
   ⟨some 36, none, .build [.sl 1 [] .nil, .sl 1 [] .nil] [(0, 1, .t 34), (1, 1, .t 35)]⟩,
   ⟨none, none, .store 2 (.t 4) (.t 36)⟩])
  (.ret))
  (.seq (.region none [⟨some 38, none, .bin .eql (.t 6) (.c (.int .i64 8))⟩,
   ⟨some 37, none, .move (.t 38)⟩])
  (.cond (.t 37) (.seq (.region none [⟨some 39, none, .call 45 [.c (.sl 1 [] .nil)]⟩,
   ⟨none, none, .store 2 (.t 4) (.t 39)⟩])
  (.ret))
  (.seq (.region none [⟨some 41, none, .bin .eql (.t 6) (.c (.int .i64 9))⟩,
   ⟨some 40, none, .move (.t 41)⟩])
  (.cond (.t 40) (.seq (.region none [⟨some 42, none, .buildSlice 1 [.c (.str [97]), .c (.str [117, 50, 32, 112, 49, 32, 45, 32, 117, 49, 32, 112, 50]), .c (.str [98]), .c (.str [117, 50, 32, 113, 49, 32, 45, 32, 117, 49, 32, 113, 50]), .c (.str [99]), .c (.str [117, 50, 32, 114, 49, 32, 45, 32, 117, 49, 32, 114, 50]), .c (.str [117]), .c (.str [117, 49]), .c (.str [112]), .c (.str [112, 49]), .c (.str [113]), .c (.str [113, 49]), .c (.str [114]), .c (.str [114, 49])]⟩,
   ⟨some 43, none, .call 45 [.t 42]⟩,
   ⟨none, none, .store 2 (.t 4) (.t 43)⟩])
  (.ret))
  (.seq (.region none [⟨some 45, none, .bin .eql (.t 6) (.c (.int .i64 15))⟩,
   ⟨some 44, none, .move (.t 45)⟩])
  (.cond (.t 44) (.seq (.region none [⟨some 46, none, .buildSlice 1 [.c (.str [97]), .c (.str [50, 32, 117, 32, 120, 32, 43, 32, 112, 32, 122]), .c (.str [98]), .c (.str [50, 32, 117, 32, 121, 32, 43, 32, 113, 32, 122]), .c (.str [99]), .c (.str [112, 32, 120, 32, 43, 32, 113, 32, 121, 32, 43, 32, 50, 32, 114, 32, 122])]⟩,
   ⟨some 47, none, .call 45 [.t 46]⟩,
   ⟨some 5, none, .alloc [.sl 1 [] .nil, .sl 1 [] .nil]⟩,
   ⟨none, none, .store 2 (.t 5) (.t 47)⟩])
  (.seq (.region (some []) [⟨some 48, none, .fieldAddr 0 (.t 5)⟩,
   ⟨some 49, none, .load none (.t 48)⟩,
   ⟨some 50, none, .fieldAddr 1 (.t 5)⟩,
   ⟨some 51, none, .load none (.t 50)⟩,
   ⟨some 52, none, .idxSl 1 (.t 51) (.c (.int .i64 0))⟩,
   ⟨some 53, none, .load none (.t 52)⟩,
   ⟨some 54, none, .fieldAddr 1 (.t 5)⟩,
   ⟨some 55, none, .load none (.t 54)⟩,
   ⟨some 56, none, .idxSl 1 (.t 55) (.c (.int .i64 1))⟩,
   ⟨some 57, none, .load none (.t 56)⟩,
   ⟨some 58, none, .fieldAddr 1 (.t 5)⟩,
   ⟨some 59, none, .load none (.t 58)⟩,
   ⟨some 60, none, .idxSl 1 (.t 59) (.c (.int .i64 2))⟩,
   ⟨some 61, none, .load none (.t 60)⟩,
   ⟨some 62, none, .buildSlice 1 [.c (.str [116, 120]), .t 53, .c (.str [116, 121]), .t 57, .c (.str [116, 122]), .t 61]⟩,
   ⟨some 63, none, .append 1 16 none (.t 49) (.t 62)⟩,
   ⟨some 64, none, .fieldAddr 0 (.t 5)⟩,
   ⟨none, none, .store 1 (.t 64) (.t 63)⟩])
  (.seq (.region none [⟨some 65, none, .buildSlice 1 [.c (.str [50, 32, 117, 32, 116, 120, 32, 43, 32, 112, 32, 116, 122]), .c (.str [50, 32, 117, 32, 116, 121, 32, 43, 32, 113, 32, 116, 122]), .c (.str [112, 32, 116, 120, 32, 43, 32, 113, 32, 116, 121, 32, 43, 32, 50, 32, 114, 32, 116, 122])]⟩,
   ⟨some 66, none, .fieldAddr 1 (.t 5)⟩,
   ⟨none, none, .store 1 (.t 66) (.t 65)⟩])
  (.seq (.region none [⟨some 67, none, .load (some 2) (.t 5)⟩,
   ⟨none, none, .store 2 (.t 4) (.t 67)⟩])
  (.ret)))))
  (.skip)))))))))
noncomputable def c33_4 : ACode := .mask (.n .e true (.n (.n .e true .e) false (.n (.n .e false (.n .e true .e)) true .e))) (c33_3)
noncomputable def c33_5 : ACode := .cond (.t 21) (.seq (.region none [⟨some 24, none, .call 43 []⟩,
   ⟨some 25, none, .build [.sl 1 [] .nil, .sl 1 [] .nil] [(0, 1, .c (.sl 1 [] .nil)), (1, 1, .t 24)]⟩,
   ⟨none, none, .store 2 (.t 4) (.t 25)⟩])
  (.ret))
  (.seq (.seq (.region none [⟨some 27, none, .bin .eql (.t 6) (.c (.int .i64 5))⟩,
   ⟨some 26, none, .move (.t 27)⟩])
  (.cond (.t 26) (.skip)
  (.region none [⟨some 28, none, .bin .eql (.t 6) (.c (.int .i64 6))⟩,
   ⟨some 26, none, .move (.t 28)⟩])))
  (c33_4))
noncomputable def c33_6 : ACode := .mask (.n (.n .e false (.n .e false (.n (.n .e true .e) false .e))) true (.n (.n .e true .e) false (.n .e true .e))) (c33_5)
noncomputable def c33_7 : ACode := .seq (.region none [⟨some 68, none, .move (.t 0)⟩,
   ⟨some 69, none, .call 46 [.t 68]⟩,
   ⟨none, none, .store 2 (.t 4) (.t 69)⟩])
  (.ret)
noncomputable def c33_8 : ACode := .mask (.n .e true (.n (.n .e true .e) false .e)) (c33_7)
noncomputable def c33_b : ACode := .seq (.region none [⟨some 4, none, .alloc [.sl 1 [] .nil, .sl 1 [] .nil]⟩])
  (.seq (.seq (.region none [⟨some 6, none, .move (.t 0)⟩])
  (.block 0 (.seq (.region none [⟨some 8, none, .bin .eql (.t 6) (.c (.int .i64 1))⟩,
   ⟨some 7, none, .move (.t 8)⟩])
  (.cond (.t 7) (.seq (.region none [⟨some 9, none, .buildSlice 1 [.c (.str [120, 120]), .c (.str [105, 110]), .c (.str [121, 121]), .c (.str [105, 110])]⟩,
   ⟨some 10, none, .buildSlice 1 [.c (.str [120, 120]), .c (.str [121, 121]), .c (.str [49])]⟩,
   ⟨some 11, none, .build [.sl 1 [] .nil, .sl 1 [] .nil] [(0, 1, .t 9), (1, 1, .t 10)]⟩,
   ⟨none, none, .store 2 (.t 4) (.t 11)⟩])
  (.ret))
  (.seq (.region none [⟨some 13, none, .bin .eql (.t 6) (.c (.int .i64 2))⟩,
   ⟨some 12, none, .move (.t 13)⟩])
  (.cond (.t 12) (.seq (.seq (.region none [⟨some 14, none, .move (.t 1)⟩])
  (.cond (.t 14) (.seq (.region none [⟨some 15, none, .buildSlice 1 [.c (.str [116]), .c (.str [105, 110]), .c (.str [109]), .c (.str [49, 32, 43, 32, 116, 94, 50]), .c (.str [107]), .c (.str [49, 32, 45, 32, 116, 94, 50]), .c (.str [100, 120]), .c (.str [50, 32, 117, 32, 97, 120, 32, 43, 32, 112, 32, 97, 122]), .c (.str [100, 121]), .c (.str [50, 32, 117, 32, 97, 121, 32, 43, 32, 113, 32, 97, 122])]⟩,
   ⟨some 16, none, .buildSlice 1 [.c (.str [45, 112, 32, 97, 122, 32, 109, 32, 43, 32, 107, 32, 100, 120, 32, 45, 32, 50, 32, 116, 32, 100, 121]), .c (.str [45, 113, 32, 97, 122, 32, 109, 32, 43, 32, 50, 32, 116, 32, 100, 120, 32, 43, 32, 107, 32, 100, 121]), .c (.str [50, 32, 117, 32, 97, 122, 32, 109])]⟩,
   ⟨some 17, none, .build [.sl 1 [] .nil, .sl 1 [] .nil] [(0, 1, .t 15), (1, 1, .t 16)]⟩,
   ⟨none, none, .store 2 (.t 4) (.t 17)⟩])
  (.ret))
  (.skip)))
  (c33_2))
  (.seq (.seq (.region none [⟨some 22, none, .bin .eql (.t 6) (.c (.int .i64 3))⟩,
   ⟨some 21, none, .move (.t 22)⟩])
  (.cond (.t 21) (.skip)
  (.region none [⟨some 23, none, .bin .eql (.t 6) (.c (.int .i64 4))⟩,
   ⟨some 21, none, .move (.t 23)⟩])))
  (c33_6))))))))
  (c33_8))
noncomputable def c33 : AFn := { np := 2, nt := 70, results := [.cell 4 (some 2)], keep := false, body := c33_b }
noncomputable def c34_b : ACode := .seq (.region none [⟨some 3, none, .move (.c (.bool false))⟩])
  (.seq (.region none [⟨some 4, none, .move (.t 0)⟩,
   ⟨some 5, none, .bin .geq (.t 4) (.c (.int .i64 0))⟩,
   ⟨some 6, none, .move (.t 5)⟩,
   ⟨some 7, (some (6, true)), .move (.t 0)⟩,
   ⟨some 8, (some (6, true)), .load none (.t 1)⟩,
   ⟨some 9, (some (6, true)), .bin .lss (.t 7) (.t 8)⟩,
   ⟨some 10, none, .pick (.t 6) (.t 9) (.c (.bool false))⟩,
   ⟨some 3, none, .move (.t 10)⟩])
  (.ret))
noncomputable def c34 : AFn := { np := 2, nt := 11, results := [.t 3], keep := false, body := c34_b }
noncomputable def c35_1 : ACode := .region none [⟨some 69, none, .bin .add (.t 44) (.c (.int .i64 1))⟩,
   ⟨some 44, none, .move (.t 69)⟩]
noncomputable def c35_2 : ACode := .mask (.n (.n (.n (.n .e true .e) true (.n .e false (.n (.n .e true .e) false .e))) false (.n .e true .e)) true (.n (.n .e true (.n .e false (.n (.n .e true .e) false .e))) false (.n (.n .e false (.n (.n .e true .e) false .e)) false .e))) (c35_1)
noncomputable def c35_3 : ACode := .seq (.block 1 (.seq (.region none [⟨some 46, none, .move (.t 44)⟩,
   ⟨some 47, none, .idxSl 1 (.t 42) (.t 44)⟩,
   ⟨some 48, none, .load none (.t 47)⟩,
   ⟨some 8, none, .move (.t 46)⟩,
   ⟨some 9, none, .move (.t 48)⟩])
  (.seq (.region (some []) [⟨some 49, none, .move (.t 9)⟩,
   ⟨some 50, none, .bin .lss (.t 49) (.c (.int .i64 0))⟩,
   ⟨some 51, none, .move (.t 50)⟩,
   ⟨some 52, (some (51, false)), .move (.t 9)⟩,
   ⟨some 53, (some (51, false)), .move (.t 3)⟩,
   ⟨some 54, (some (51, false)), .bin .geq (.t 52) (.t 53)⟩,
   ⟨some 55, none, .pick (.t 51) (.c (.bool true)) (.t 54)⟩,
   ⟨some 56, none, .move (.t 55)⟩,
   ⟨some 57, (some (56, false)), .move (.t 5)⟩,
   ⟨some 58, (some (56, false)), .move (.t 8)⟩,
   ⟨some 59, (some (56, false)), .idxSl 1 (.t 57) (.t 58)⟩,
   ⟨some 60, (some (56, false)), .load none (.t 59)⟩,
   ⟨some 61, (some (56, false)), .move (.t 0)⟩,
   ⟨some 62, (some (56, false)), .move (.t 9)⟩,
   ⟨some 63, (some (56, false)), .idxSl 12 (.t 61) (.t 62)⟩,
   ⟨some 64, (some (56, false)), .load (some 12) (.t 63)⟩,
   ⟨some 65, (some (56, false)), .callP 39 [.t 64]⟩,
   ⟨some 66, (some (56, false)), .call 48 [.t 60, .t 65]⟩,
   ⟨some 67, (some (56, false)), .un .not (.t 66)⟩,
   ⟨some 68, none, .pick (.t 56) (.c (.bool true)) (.t 67)⟩])
  (.cond (.t 68) (.seq (.region none [⟨some 2, none, .move (.c (.bool false))⟩])
  (.ret))
  (.skip)))))
  (c35_2)
noncomputable def c35_4 : ACode := .mask (.n (.n (.n (.n .e true .e) true (.n .e false (.n (.n .e true .e) false .e))) false (.n .e true .e)) true (.n (.n .e true (.n .e false (.n (.n .e true .e) false .e))) false (.n (.n .e false (.n (.n .e true .e) false .e)) false .e))) (c35_3)
noncomputable def c35_5 : ACode := .seq (.region none [⟨some 45, none, .bin .lss (.t 44) (.t 43)⟩])
  (.seq (.cond (.t 45) (.skip)
  (.exit 0))
  (c35_4))
noncomputable def c35_6 : ACode := .seq (.region none [⟨some 136, none, .move (.t 0)⟩,
   ⟨some 137, none, .move (.t 3)⟩,
   ⟨some 138, none, .slice 12 (.t 136) none (some (.t 137)) none⟩,
   ⟨some 139, none, .mkFunc 52 [.t 4]⟩,
   ⟨some 140, none, .call 51 [.t 138, .t 139]⟩,
   ⟨some 141, none, .un .not (.t 140)⟩,
   ⟨some 2, none, .move (.t 141)⟩])
  (.ret)
noncomputable def c35_7 : ACode := .mask (.n (.n (.n .e true .e) false .e) true (.n (.n .e true .e) false .e)) (c35_6)
noncomputable def c35_8 : ACode := .seq (.region (some []) [⟨some 89, none, .fieldAddr 1 (.t 4)⟩,
   ⟨some 90, none, .load none (.t 89)⟩,
   ⟨some 91, none, .bin .eql (.t 90) (.c (.int .i64 1))⟩,
   ⟨some 92, none, .move (.t 91)⟩,
   ⟨some 93, (some (92, false)), .fieldAddr 1 (.t 4)⟩,
   ⟨some 94, (some (92, false)), .load none (.t 93)⟩,
   ⟨some 95, (some (92, false)), .bin .eql (.t 94) (.c (.int .i64 2))⟩,
   ⟨some 96, none, .pick (.t 92) (.c (.bool true)) (.t 95)⟩,
   ⟨some 97, none, .fieldAddr 1 (.t 4)⟩,
   ⟨some 98, none, .load none (.t 97)⟩,
   ⟨some 99, none, .bin .eql (.t 98) (.c (.int .i64 1))⟩,
   ⟨some 10, none, .move (.t 96)⟩,
   ⟨some 11, none, .move (.t 99)⟩])
  (.seq (.seq (.region none [⟨some 100, none, .move (.t 10)⟩,
   ⟨some 101, none, .move (.t 100)⟩,
   ⟨some 102, (some (101, true)), .fieldAddr 3 (.t 4)⟩,
   ⟨some 103, (some (101, true)), .load (some 4) (.t 102)⟩,
   ⟨some 104, (some (101, true)), .call 49 [.t 103]⟩,
   ⟨some 105, (some (101, true)), .un .not (.t 104)⟩,
   ⟨some 106, none, .pick (.t 101) (.t 105) (.c (.bool false))⟩,
   ⟨some 107, none, .move (.t 106)⟩,
   ⟨some 108, (some (107, false)), .move (.t 10)⟩,
   ⟨some 109, (some (107, false)), .un .not (.t 108)⟩,
   ⟨some 110, (some (107, false)), .move (.t 109)⟩,
   ⟨some 111, (some (110, true)), .fieldAddr 3 (.t 4)⟩,
   ⟨some 112, (some (110, true)), .load (some 4) (.t 111)⟩,
   ⟨some 113, (some (110, true)), .call 50 [.t 112]⟩,
   ⟨some 114, (some (110, true)), .un .not (.t 113)⟩,
   ⟨some 115, (some (107, false)), .pick (.t 110) (.t 114) (.c (.bool false))⟩,
   ⟨some 116, none, .pick (.t 107) (.c (.bool true)) (.t 115)⟩,
   ⟨some 117, none, .move (.t 116)⟩,
   ⟨some 118, (some (117, false)), .move (.t 11)⟩,
   ⟨some 119, (some (117, false)), .move (.t 118)⟩,
   ⟨some 120, (some (119, true)), .fieldAddr 7 (.t 4)⟩,
   ⟨some 121, (some (119, true)), .load (some 4) (.t 120)⟩,
   ⟨some 122, (some (119, true)), .call 49 [.t 121]⟩,
   ⟨some 123, (some (119, true)), .un .not (.t 122)⟩,
   ⟨some 124, (some (117, false)), .pick (.t 119) (.t 123) (.c (.bool false))⟩,
   ⟨some 125, none, .pick (.t 117) (.c (.bool true)) (.t 124)⟩,
   ⟨some 126, none, .move (.t 125)⟩,
   ⟨some 127, (some (126, false)), .move (.t 11)⟩,
   ⟨some 128, (some (126, false)), .un .not (.t 127)⟩,
   ⟨some 129, (some (126, false)), .move (.t 128)⟩,
   ⟨some 130, (some (129, true)), .fieldAddr 7 (.t 4)⟩,
   ⟨some 131, (some (129, true)), .load (some 4) (.t 130)⟩,
   ⟨some 132, (some (129, true)), .call 50 [.t 131]⟩,
   ⟨some 133, (some (129, true)), .un .not (.t 132)⟩,
   ⟨some 134, (some (126, false)), .pick (.t 129) (.t 133) (.c (.bool false))⟩,
   ⟨some 135, none, .pick (.t 126) (.c (.bool true)) (.t 134)⟩])
  (.cond (.t 135) (.seq (.region none [⟨some 2, none, .move (.c (.bool false))⟩])
  (.ret))
  (.skip)))
  (c35_7))
noncomputable def c35_9 : ACode := .mask (.n (.n (.n .e true .e) false .e) true (.n (.n .e true .e) false .e)) (c35_8)
noncomputable def c35_10 : ACode := .seq (.seq (.region none [⟨some 70, none, .move (.t 7)⟩,
   ⟨some 71, none, .fieldAddr 11 (.t 4)⟩,
   ⟨some 72, none, .load none (.t 71)⟩,
   ⟨some 73, none, .bin .eql (.t 72) (.c (.int .i64 1))⟩,
   ⟨some 74, none, .move (.t 73)⟩,
   ⟨some 75, (some (74, false)), .fieldAddr 11 (.t 4)⟩,
   ⟨some 76, (some (74, false)), .load none (.t 75)⟩,
   ⟨some 77, (some (74, false)), .bin .eql (.t 76) (.c (.int .i64 2))⟩,
   ⟨some 78, none, .pick (.t 74) (.c (.bool true)) (.t 77)⟩,
   ⟨some 79, none, .eq true .bool (.t 70) (.t 78)⟩,
   ⟨some 80, none, .move (.t 79)⟩,
   ⟨some 81, (some (80, false)), .move (.t 7)⟩,
   ⟨some 82, (some (80, false)), .un .not (.t 81)⟩,
   ⟨some 83, (some (80, false)), .move (.t 82)⟩,
   ⟨some 84, (some (83, true)), .fieldAddr 11 (.t 4)⟩,
   ⟨some 85, (some (83, true)), .load none (.t 84)⟩,
   ⟨some 86, (some (83, true)), .bin .neq (.t 85) (.c (.int .i64 0))⟩,
   ⟨some 87, (some (80, false)), .pick (.t 83) (.t 86) (.c (.bool false))⟩,
   ⟨some 88, none, .pick (.t 80) (.c (.bool true)) (.t 87)⟩])
  (.cond (.t 88) (.seq (.region none [⟨some 2, none, .move (.c (.bool false))⟩])
  (.ret))
  (.skip)))
  (c35_9)
noncomputable def c35_11 : ACode := .mask (.n (.n (.n (.n .e true .e) true .e) false .e) true (.n (.n .e true .e) false .e)) (c35_10)
noncomputable def c35_12 : ACode := .seq (.seq (.region none [⟨some 41, none, .fieldAddr 2 (.t 4)⟩,
   ⟨some 42, none, .load none (.t 41)⟩,
   ⟨some 43, none, .len false (.t 42)⟩,
   ⟨some 44, none, .move (.c (.int .i64 0))⟩])
  (.block 0 (.loop (.n (.n (.n (.n .e true .e) true (.n .e false (.n (.n .e true .e) false .e))) false (.n .e true .e)) true (.n (.n .e true (.n .e false (.n (.n .e true .e) false .e))) false (.n (.n .e false (.n (.n .e true .e) false .e)) false .e))) (c35_5))))
  (c35_11)
noncomputable def c35_13 : ACode := .mask (.n (.n (.n (.n .e true .e) true .e) false (.n .e true .e)) true (.n (.n .e true .e) false .e)) (c35_12)
noncomputable def c35_b : ACode := .seq (.region none [⟨some 2, none, .move (.c (.bool false))⟩])
  (.seq (.region none [⟨some 12, none, .move (.t 0)⟩,
   ⟨some 13, none, .len false (.t 12)⟩,
   ⟨some 14, none, .bin .sub (.t 13) (.c (.int .i64 1))⟩,
   ⟨some 3, none, .move (.t 14)⟩])
  (.seq (.region none [⟨some 15, none, .move (.t 0)⟩,
   ⟨some 16, none, .move (.t 3)⟩,
   ⟨some 17, none, .idxSl 12 (.t 15) (.t 16)⟩,
   ⟨some 18, none, .load (some 12) (.t 17)⟩,
   ⟨some 4, none, .alloc [.str [], .int .i64 0, .sl 1 [] .nil, .bool false, .sl 1 [] .nil, .bool false, .sl 1 [] .nil, .bool false, .sl 1 [] .nil, .bool false, .sl 1 [] .nil, .int .i64 0]⟩,
   ⟨none, none, .store 12 (.t 4) (.t 18)⟩])
  (.seq (.region none [⟨some 20, none, .fieldAddr 1 (.t 4)⟩,
   ⟨some 21, none, .load none (.t 20)⟩,
   ⟨some 22, none, .call 47 [.t 21]⟩,
   ⟨some 19, none, .move (.t 22)⟩,
   ⟨some 23, none, .extract (.t 19) 0⟩,
   ⟨some 24, none, .extract (.t 19) 1⟩,
   ⟨some 25, none, .extract (.t 19) 2⟩,
   ⟨some 5, none, .move (.t 23)⟩,
   ⟨some 6, none, .move (.t 24)⟩,
   ⟨some 7, none, .move (.t 25)⟩])
  (.seq (.seq (.region none [⟨some 26, none, .move (.t 6)⟩,
   ⟨some 27, none, .bin .eql (.t 26) (.c (.int .i64 0))⟩,
   ⟨some 28, none, .move (.t 27)⟩,
   ⟨some 29, (some (28, false)), .move (.t 5)⟩,
   ⟨some 30, (some (28, false)), .len false (.t 29)⟩,
   ⟨some 31, (some (28, false)), .fieldAddr 2 (.t 4)⟩,
   ⟨some 32, (some (28, false)), .load none (.t 31)⟩,
   ⟨some 33, (some (28, false)), .len false (.t 32)⟩,
   ⟨some 34, (some (28, false)), .bin .neq (.t 30) (.t 33)⟩,
   ⟨some 35, none, .pick (.t 28) (.c (.bool true)) (.t 34)⟩,
   ⟨some 36, none, .move (.t 35)⟩,
   ⟨some 37, (some (36, false)), .fieldAddr 0 (.t 4)⟩,
   ⟨some 38, (some (36, false)), .load none (.t 37)⟩,
   ⟨some 39, (some (36, false)), .bin .eql (.t 38) (.c (.str []))⟩,
   ⟨some 40, none, .pick (.t 36) (.c (.bool true)) (.t 39)⟩])
  (.cond (.t 40) (.seq (.region none [⟨some 2, none, .move (.c (.bool false))⟩])
  (.ret))
  (.skip)))
  (c35_13)))))
noncomputable def c35 : AFn := { np := 1, nt := 142, results := [.t 2], keep := false, body := c35_b }
noncomputable def c36_b : ACode := .seq (.region none [⟨some 1, none, .boxRo (.t 0)⟩,
   ⟨some 2, none, .move (.c (.bool false))⟩])
  (.seq (.region none [⟨some 7, none, .fieldAddr 1 (.t 1)⟩,
   ⟨some 8, none, .load none (.t 7)⟩,
   ⟨some 9, none, .call 47 [.t 8]⟩,
   ⟨some 6, none, .move (.t 9)⟩,
   ⟨some 10, none, .extract (.t 6) 0⟩,
   ⟨some 11, none, .extract (.t 6) 1⟩,
   ⟨some 12, none, .extract (.t 6) 2⟩,
   ⟨some 3, none, .move (.t 10)⟩,
   ⟨some 4, none, .move (.t 11)⟩,
   ⟨some 5, none, .move (.t 12)⟩])
  (.seq (.region none [⟨some 13, none, .move (.t 5)⟩,
   ⟨some 2, none, .move (.t 13)⟩])
  (.ret)))
noncomputable def c36 : AFn := { np := 1, nt := 14, results := [.t 2], keep := false, body := c36_b }
noncomputable def c37_1 : ACode := .region none [⟨some 31, none, .bin .add (.t 8) (.c (.int .i64 1))⟩,
   ⟨some 8, none, .move (.t 31)⟩]
noncomputable def c37_2 : ACode := .mask (.n (.n (.n (.n .e true .e) true .e) false .e) false (.n (.n (.n .e true .e) false .e) false (.n .e true .e))) (c37_1)
noncomputable def c37_3 : ACode := .seq (.block 1 (.seq (.region none [⟨some 10, none, .move (.t 8)⟩,
   ⟨some 11, none, .idxSl 12 (.t 6) (.t 8)⟩,
   ⟨some 12, none, .load (some 12) (.t 11)⟩,
   ⟨some 5, none, .alloc [.str [], .int .i64 0, .sl 1 [] .nil, .bool false, .sl 1 [] .nil, .bool false, .sl 1 [] .nil, .bool false, .sl 1 [] .nil, .bool false, .sl 1 [] .nil, .int .i64 0]⟩,
   ⟨some 4, none, .move (.t 10)⟩,
   ⟨none, none, .store 12 (.t 5) (.t 12)⟩])
  (.seq (.region none [⟨some 13, none, .fieldAddr 1 (.t 5)⟩,
   ⟨some 14, none, .load none (.t 13)⟩])
  (.block 2 (.seq (.region none [⟨some 16, none, .bin .eql (.t 14) (.c (.int .i64 1))⟩,
   ⟨some 15, none, .move (.t 16)⟩])
  (.cond (.t 15) (.region none [⟨some 17, none, .move (.t 3)⟩,
   ⟨some 18, none, .move (.t 4)⟩,
   ⟨some 19, none, .build [.int .i64 0, .int .i64 0] [(0, 1, .t 18), (1, 1, .c (.int .i64 0))]⟩,
   ⟨some 20, none, .move (.t 4)⟩,
   ⟨some 21, none, .build [.int .i64 0, .int .i64 0] [(0, 1, .t 20), (1, 1, .c (.int .i64 1))]⟩,
   ⟨some 22, none, .buildSlice 2 [.t 19, .t 21]⟩,
   ⟨some 23, none, .append 2 16 none (.t 17) (.t 22)⟩,
   ⟨some 3, none, .move (.t 23)⟩])
  (.seq (.region none [⟨some 25, none, .bin .eql (.t 14) (.c (.int .i64 2))⟩,
   ⟨some 24, none, .move (.t 25)⟩])
  (.cond (.t 24) (.region none [⟨some 26, none, .move (.t 3)⟩,
   ⟨some 27, none, .move (.t 4)⟩,
   ⟨some 28, none, .build [.int .i64 0, .int .i64 0] [(0, 1, .t 27), (1, 1, .c (.int .i64 0))]⟩,
   ⟨some 29, none, .buildSlice 2 [.t 28]⟩,
   ⟨some 30, none, .append 2 16 none (.t 26) (.t 29)⟩,
   ⟨some 3, none, .move (.t 30)⟩])
  (.skip)))))))))
  (c37_2)
noncomputable def c37_4 : ACode := .mask (.n (.n (.n (.n .e true .e) true .e) false .e) false (.n (.n (.n .e true .e) false .e) false (.n .e true .e))) (c37_3)
noncomputable def c37_5 : ACode := .seq (.region none [⟨some 9, none, .bin .lss (.t 8) (.t 7)⟩])
  (.seq (.cond (.t 9) (.skip)
  (.exit 0))
  (c37_4))
noncomputable def c37_6 : ACode := .seq (.region none [⟨some 32, none, .move (.t 3)⟩,
   ⟨some 2, none, .move (.t 32)⟩])
  (.ret)
noncomputable def c37_7 : ACode := .mask (.n (.n (.n .e true .e) false .e) false .e) (c37_6)
noncomputable def c37_b : ACode := .seq (.region none [⟨some 2, none, .move (.c (.sl 2 [] .nil))⟩])
  (.seq (.region none [⟨some 3, none, .move (.c (.sl 2 [] .nil))⟩])
  (.seq (.seq (.region none [⟨some 6, none, .move (.t 0)⟩,
   ⟨some 7, none, .len false (.t 6)⟩,
   ⟨some 8, none, .move (.c (.int .i64 0))⟩])
  (.block 0 (.loop (.n (.n (.n (.n .e true .e) true .e) false .e) false (.n (.n (.n .e true .e) false .e) false (.n .e true .e))) (c37_5))))
  (c37_7)))
noncomputable def c37 : AFn := { np := 1, nt := 33, results := [.t 2], keep := false, body := c37_b }
noncomputable def c38_1 : ACode := .seq (.region none [⟨some 4, none, .move (.c (.int .i64 0))⟩])
  (.ret)
noncomputable def c38_2 : ACode := .mask .e (c38_1)
noncomputable def c38_3 : ACode := .seq (.seq (.region none [⟨some 11, none, .move (.t 1)⟩,
   ⟨some 12, none, .bin .lss (.t 11) (.c (.int .i64 0))⟩,
   ⟨some 13, none, .move (.t 12)⟩,
   ⟨some 14, (some (13, false)), .move (.t 1)⟩,
   ⟨some 15, (some (13, false)), .move (.t 0)⟩,
   ⟨some 16, (some (13, false)), .len false (.t 15)⟩,
   ⟨some 17, (some (13, false)), .bin .geq (.t 14) (.t 16)⟩,
   ⟨some 18, none, .pick (.t 13) (.c (.bool true)) (.t 17)⟩])
  (.cond (.t 18) (.seq (.region none [⟨some 4, none, .move (.c (.int .i64 1))⟩])
  (.ret))
  (.skip)))
  (c38_2)
noncomputable def c38_4 : ACode := .mask (.n (.n .e true .e) true .e) (c38_3)
noncomputable def c38_b : ACode := .seq (.region none [⟨some 4, none, .move (.c (.int .i64 0))⟩])
  (.seq (.seq (.region none [⟨some 6, none, .move (.t 0)⟩,
   ⟨some 7, none, .call 29 [.t 6]⟩,
   ⟨some 5, none, .move (.t 7)⟩])
  (.seq (.region none [⟨some 8, none, .move (.t 5)⟩,
   ⟨some 9, none, .bin .neq (.t 8) (.c (.int .i64 0))⟩])
  (.cond (.t 9) (.seq (.region none [⟨some 10, none, .move (.t 5)⟩,
   ⟨some 4, none, .move (.t 10)⟩])
  (.ret))
  (.skip))))
  (c38_4))
noncomputable def c38 : AFn := { np := 2, nt := 19, results := [.t 4], keep := false, body := c38_b }
noncomputable def c39_b : ACode := .seq (.region none [⟨some 1, none, .boxRo (.t 0)⟩,
   ⟨some 2, none, .move (.c (.int .i64 0))⟩])
  (.seq (.region none [⟨some 7, none, .fieldAddr 1 (.t 1)⟩,
   ⟨some 8, none, .load none (.t 7)⟩,
   ⟨some 9, none, .call 47 [.t 8]⟩,
   ⟨some 6, none, .move (.t 9)⟩,
   ⟨some 10, none, .extract (.t 6) 0⟩,
   ⟨some 11, none, .extract (.t 6) 1⟩,
   ⟨some 12, none, .extract (.t 6) 2⟩,
   ⟨some 3, none, .move (.t 10)⟩,
   ⟨some 4, none, .move (.t 11)⟩,
   ⟨some 5, none, .move (.t 12)⟩])
  (.seq (.region none [⟨some 13, none, .move (.t 4)⟩,
   ⟨some 2, none, .move (.t 13)⟩])
  (.ret)))
noncomputable def c39 : AFn := { np := 1, nt := 14, results := [.t 2], keep := false, body := c39_b }
noncomputable def c40_b : ACode := .seq (.region none [⟨some 2, none, .move (.c (.str []))⟩])
  (.seq (.region none [⟨some 3, none, .move (.t 0)⟩,
   ⟨some 4, none, .call 53 [.t 3]⟩,
   ⟨some 2, none, .move (.t 4)⟩])
  (.ret))
noncomputable def c40 : AFn := { np := 1, nt := 5, results := [.t 2], keep := false, body := c40_b }
noncomputable def c41_b : ACode := .seq (.region none [⟨some 8, none, .move (.c (.int .i64 0))⟩])
  (.seq (.region none [⟨some 9, none, .move (.t 0)⟩,
   ⟨some 10, none, .move (.t 0)⟩,
   ⟨some 11, none, .nilCheck (.t 10)⟩,
   ⟨some 12, none, .fieldAddr 0 (.t 11)⟩,
   ⟨some 13, none, .fieldAddr 1 (.t 12)⟩,
   ⟨some 14, none, .load none (.t 13)⟩,
   ⟨some 15, none, .move (.t 1)⟩,
   ⟨some 16, none, .move (.t 2)⟩,
   ⟨some 17, none, .move (.t 3)⟩,
   ⟨some 18, none, .build [.int .i64 0, .int .i64 0, .int .i64 0] [(0, 1, .t 15), (1, 1, .t 16), (2, 1, .t 17)]⟩,
   ⟨some 19, none, .buildSlice 3 [.t 18]⟩,
   ⟨some 20, none, .append 3 24 (some (.t 0)) (.t 14) (.t 19)⟩,
   ⟨some 21, none, .nilCheck (.t 9)⟩,
   ⟨some 22, none, .fieldAddr 0 (.t 21)⟩,
   ⟨some 23, none, .fieldAddr 1 (.t 22)⟩,
   ⟨none, none, .store 1 (.t 23) (.t 20)⟩])
  (.seq (.region none [⟨some 24, none, .move (.t 0)⟩,
   ⟨some 25, none, .nilCheck (.t 24)⟩,
   ⟨some 26, none, .fieldAddr 0 (.t 25)⟩,
   ⟨some 27, none, .fieldAddr 1 (.t 26)⟩,
   ⟨some 28, none, .load none (.t 27)⟩,
   ⟨some 29, none, .len false (.t 28)⟩,
   ⟨some 30, none, .bin .sub (.t 29) (.c (.int .i64 1))⟩,
   ⟨some 8, none, .move (.t 30)⟩])
  (.ret)))
noncomputable def c41 : AFn := { np := 4, nt := 31, results := [.t 8], keep := false, body := c41_b }
noncomputable def c42_b : ACode := .seq (.region none [⟨some 2, none, .boxRo (.t 0)⟩,
   ⟨some 4, none, .move (.c (.int .i64 0))⟩])
  (.seq (.region none [⟨some 9, none, .move (.t 1)⟩,
   ⟨some 10, none, .build [.str [], .int .i64 0] [(0, 1, .t 9)]⟩,
   ⟨some 11, none, .boxMut (.t 10)⟩,
   ⟨some 5, none, .alloc [.nilp]⟩,
   ⟨none, none, .store 1 (.t 5) (.t 11)⟩])
  (.seq (.region none [⟨some 6, none, .alloc [.nilf]⟩])
  (.seq (.region none [⟨some 12, none, .mkFunc 54 [.t 5, .t 6, .t 2]⟩,
   ⟨some 7, none, .alloc [.nilf]⟩,
   ⟨none, none, .store 1 (.t 7) (.t 12)⟩])
  (.seq (.region none [⟨some 13, none, .mkFunc 58 [.t 7, .t 5, .t 2]⟩,
   ⟨some 8, none, .alloc [.nilf]⟩,
   ⟨none, none, .store 1 (.t 8) (.t 13)⟩])
  (.seq (.region none [⟨some 14, none, .mkFunc 59 [.t 5, .t 2, .t 8]⟩,
   ⟨none, none, .store 1 (.t 6) (.t 14)⟩])
  (.seq (.region none [⟨some 15, none, .load none (.t 6)⟩,
   ⟨some 16, none, .callV (.t 15) []⟩,
   ⟨some 4, none, .move (.t 16)⟩])
  (.ret)))))))
noncomputable def c42 : AFn := { np := 2, nt := 17, results := [.t 4], keep := false, body := c42_b }
noncomputable def c43_b : ACode := .seq (.region none [⟨some 0, none, .move (.c (.sl 1 [] .nil))⟩])
  (.seq (.region none [⟨some 1, none, .buildSlice 1 [.c (.str [121, 49, 32, 122, 50, 32, 45, 32, 122, 49, 32, 121, 50]), .c (.str [122, 49, 32, 120, 50, 32, 45, 32, 120, 49, 32, 122, 50]), .c (.str [120, 49, 32, 121, 50, 32, 45, 32, 121, 49, 32, 120, 50])]⟩,
   ⟨some 0, none, .move (.t 1)⟩])
  (.ret))
noncomputable def c43 : AFn := { np := 0, nt := 2, results := [.t 0], keep := false, body := c43_b }
noncomputable def c44_1 : ACode := .region none [⟨some 9, none, .move (.t 4)⟩,
   ⟨some 10, none, .bin .add (.t 9) (.c (.int .i64 1))⟩,
   ⟨some 4, none, .move (.t 10)⟩]
noncomputable def c44_2 : ACode := .mask (.n (.n (.n .e true .e) false .e) true (.n (.n .e true .e) false .e)) (c44_1)
noncomputable def c44_3 : ACode := .seq (.block 1 (.seq (.region none [⟨some 11, none, .move (.t 4)⟩,
   ⟨some 12, none, .call 40 [.t 11]⟩,
   ⟨some 5, none, .move (.t 12)⟩])
  (.region none [⟨some 13, none, .move (.t 3)⟩,
   ⟨some 14, none, .move (.t 5)⟩,
   ⟨some 15, none, .bin .add (.c (.str [115])) (.t 14)⟩,
   ⟨some 16, none, .move (.t 5)⟩,
   ⟨some 17, none, .bin .add (.c (.str [120])) (.t 16)⟩,
   ⟨some 18, none, .bin .add (.t 17) (.c (.str [94, 50, 32, 43, 32, 121]))⟩,
   ⟨some 19, none, .move (.t 5)⟩,
   ⟨some 20, none, .bin .add (.t 18) (.t 19)⟩,
   ⟨some 21, none, .bin .add (.t 20) (.c (.str [94, 50]))⟩,
   ⟨some 22, none, .move (.t 5)⟩,
   ⟨some 23, none, .bin .add (.c (.str [102])) (.t 22)⟩,
   ⟨some 24, none, .move (.t 5)⟩,
   ⟨some 25, none, .bin .add (.c (.str [120])) (.t 24)⟩,
   ⟨some 26, none, .bin .add (.t 25) (.c (.str [32, 122]))⟩,
   ⟨some 27, none, .move (.t 5)⟩,
   ⟨some 28, none, .bin .add (.t 26) (.t 27)⟩,
   ⟨some 29, none, .move (.t 5)⟩,
   ⟨some 30, none, .bin .add (.c (.str [103])) (.t 29)⟩,
   ⟨some 31, none, .move (.t 5)⟩,
   ⟨some 32, none, .bin .add (.c (.str [121])) (.t 31)⟩,
   ⟨some 33, none, .bin .add (.t 32) (.c (.str [32, 122]))⟩,
   ⟨some 34, none, .move (.t 5)⟩,
   ⟨some 35, none, .bin .add (.t 33) (.t 34)⟩,
   ⟨some 36, none, .move (.t 5)⟩,
   ⟨some 37, none, .bin .add (.c (.str [104])) (.t 36)⟩,
   ⟨some 38, none, .move (.t 5)⟩,
   ⟨some 39, none, .bin .add (.c (.str [122])) (.t 38)⟩,
   ⟨some 40, none, .bin .add (.t 39) (.c (.str [94, 50]))⟩,
   ⟨some 41, none, .buildSlice 1 [.t 15, .t 21, .t 23, .t 28, .t 30, .t 35, .t 37, .t 40]⟩,
   ⟨some 42, none, .append 1 16 none (.t 13) (.t 41)⟩,
   ⟨some 3, none, .move (.t 42)⟩])))
  (c44_2)
noncomputable def c44_4 : ACode := .mask (.n (.n (.n .e true .e) false .e) true (.n (.n .e true .e) false .e)) (c44_3)
noncomputable def c44_5 : ACode := .seq (.seq (.region none [⟨some 6, none, .move (.t 4)⟩,
   ⟨some 7, none, .move (.t 0)⟩,
   ⟨some 8, none, .bin .leq (.t 6) (.t 7)⟩])
  (.cond (.t 8) (.skip)
  (.exit 0)))
  (c44_4)
noncomputable def c44_6 : ACode := .seq (.region none [⟨some 43, none, .move (.t 3)⟩,
   ⟨some 2, none, .move (.t 43)⟩])
  (.ret)
noncomputable def c44_7 : ACode := .mask (.n (.n (.n .e true .e) false .e) false .e) (c44_6)
noncomputable def c44_b : ACode := .seq (.region none [⟨some 2, none, .move (.c (.sl 1 [] .nil))⟩])
  (.seq (.region none [⟨some 3, none, .move (.c (.sl 1 [] .nil))⟩])
  (.seq (.seq (.region none [⟨some 4, none, .move (.c (.int .i64 1))⟩])
  (.block 0 (.loop (.n (.n (.n .e true .e) false .e) true (.n (.n .e true .e) false .e)) (c44_5))))
  (c44_7)))
noncomputable def c44 : AFn := { np := 1, nt := 44, results := [.t 2], keep := false, body := c44_b }
noncomputable def c45_b : ACode := .seq (.region none [⟨some 2, none, .alloc [.sl 1 [] .nil, .sl 1 [] .nil]⟩])
  (.seq (.region none [⟨some 3, none, .move (.t 0)⟩,
   ⟨some 4, none, .buildSlice 1 [.c (.str [110]), .c (.str [97, 94, 50, 32, 43, 32, 98, 94, 50]), .c (.str [107]), .c (.str [50, 32, 117, 32, 99, 32, 45, 32, 97, 32, 112, 32, 45, 32, 98, 32, 113]), .c (.str [100]), .c (.str [112, 94, 50, 32, 43, 32, 113, 94, 50, 32, 45, 32, 52, 32, 117, 32, 114]), .c (.str [115]), .c (.str [33, 110, 32, 100, 32, 45, 32, 107, 94, 50])]⟩,
   ⟨some 5, none, .append 1 16 none (.t 3) (.t 4)⟩,
   ⟨some 6, none, .buildSlice 1 [.c (.str [45, 110, 32, 112, 32, 45, 32, 107, 32, 97, 32, 45, 32, 115, 32, 98]), .c (.str [45, 110, 32, 113, 32, 45, 32, 107, 32, 98, 32, 43, 32, 115, 32, 97]), .c (.str [50, 32, 110, 32, 117])]⟩,
   ⟨some 7, none, .build [.sl 1 [] .nil, .sl 1 [] .nil] [(0, 1, .t 5), (1, 1, .t 6)]⟩,
   ⟨none, none, .store 2 (.t 2) (.t 7)⟩])
  (.ret))
noncomputable def c45 : AFn := { np := 1, nt := 8, results := [.cell 2 (some 2)], keep := false, body := c45_b }
noncomputable def c46_1 : ACode := .seq (.region none [⟨some 28, none, .buildSlice 1 [.c (.str [45, 112]), .c (.str [45, 113]), .c (.str [50, 32, 117])]⟩,
   ⟨some 29, none, .build [.sl 1 [] .nil, .sl 1 [] .nil] [(0, 1, .c (.sl 1 [] .nil)), (1, 1, .t 28)]⟩,
   ⟨none, none, .store 2 (.t 2) (.t 29)⟩])
  (.ret)
noncomputable def c46_2 : ACode := .mask (.n .e false (.n .e true .e)) (c46_1)
noncomputable def c46_b : ACode := .seq (.region none [⟨some 2, none, .alloc [.sl 1 [] .nil, .sl 1 [] .nil]⟩])
  (.seq (.seq (.region none [⟨some 3, none, .move (.t 0)⟩])
  (.block 0 (.seq (.region none [⟨some 5, none, .bin .eql (.t 3) (.c (.int .i64 10))⟩,
   ⟨some 4, none, .move (.t 5)⟩])
  (.cond (.t 4) (.seq (.region none [⟨some 6, none, .buildSlice 1 [.c (.str [111]), .c (.str [48])]⟩,
   ⟨some 7, none, .buildSlice 1 [.c (.str [121, 32, 111, 32, 45, 32, 122, 32, 98]), .c (.str [122, 32, 97, 32, 45, 32, 120, 32, 111]), .c (.str [120, 32, 98, 32, 45, 32, 121, 32, 97])]⟩,
   ⟨some 8, none, .build [.sl 1 [] .nil, .sl 1 [] .nil] [(0, 1, .t 6), (1, 1, .t 7)]⟩,
   ⟨none, none, .store 2 (.t 2) (.t 8)⟩])
  (.ret))
  (.seq (.region none [⟨some 10, none, .bin .eql (.t 3) (.c (.int .i64 11))⟩,
   ⟨some 9, none, .move (.t 10)⟩])
  (.cond (.t 9) (.seq (.region none [⟨some 11, none, .buildSlice 1 [.c (.str [111]), .c (.str [48]), .c (.str [101]), .c (.str [111, 32, 45, 32, 98])]⟩,
   ⟨some 12, none, .buildSlice 1 [.c (.str [121, 32, 111, 32, 45, 32, 122, 32, 97]), .c (.str [122, 32, 101, 32, 45, 32, 120, 32, 111]), .c (.str [120, 32, 97, 32, 45, 32, 121, 32, 101])]⟩,
   ⟨some 13, none, .build [.sl 1 [] .nil, .sl 1 [] .nil] [(0, 1, .t 11), (1, 1, .t 12)]⟩,
   ⟨none, none, .store 2 (.t 2) (.t 13)⟩])
  (.ret))
  (.seq (.region none [⟨some 15, none, .bin .eql (.t 3) (.c (.int .i64 12))⟩,
   ⟨some 14, none, .move (.t 15)⟩])
  (.cond (.t 14) (.seq (.region none [⟨some 16, none, .buildSlice 1 [.c (.str [120, 49, 32, 122, 50, 32, 43, 32, 120, 50, 32, 122, 49]), .c (.str [121, 49, 32, 122, 50, 32, 43, 32, 121, 50, 32, 122, 49]), .c (.str [50, 32, 122, 49, 32, 122, 50])]⟩,
   ⟨some 17, none, .build [.sl 1 [] .nil, .sl 1 [] .nil] [(0, 1, .c (.sl 1 [] .nil)), (1, 1, .t 16)]⟩,
   ⟨none, none, .store 2 (.t 2) (.t 17)⟩])
  (.ret))
  (.seq (.region none [⟨some 19, none, .bin .eql (.t 3) (.c (.int .i64 13))⟩,
   ⟨some 18, none, .move (.t 19)⟩])
  (.cond (.t 18) (.seq (.region none [⟨some 20, none, .buildSlice 1 [.c (.str [110]), .c (.str [97, 94, 50, 32, 43, 32, 98, 94, 50]), .c (.str [107]), .c (.str [97, 32, 120, 32, 43, 32, 98, 32, 121, 32, 43, 32, 99, 32, 122])]⟩,
   ⟨some 21, none, .buildSlice 1 [.c (.str [110, 32, 120, 32, 45, 32, 50, 32, 97, 32, 107]), .c (.str [110, 32, 121, 32, 45, 32, 50, 32, 98, 32, 107]), .c (.str [110, 32, 122])]⟩,
   ⟨some 22, none, .build [.sl 1 [] .nil, .sl 1 [] .nil] [(0, 1, .t 20), (1, 1, .t 21)]⟩,
   ⟨none, none, .store 2 (.t 2) (.t 22)⟩])
  (.ret))
  (.seq (.region none [⟨some 24, none, .bin .eql (.t 3) (.c (.int .i64 14))⟩,
   ⟨some 23, none, .move (.t 24)⟩])
  (.cond (.t 23) (.seq (.region none [⟨some 25, none, .buildSlice 1 [.c (.str [118, 120]), .c (.str [120, 49, 32, 122, 50, 32, 45, 32, 120, 50, 32, 122, 49]), .c (.str [118, 121]), .c (.str [121, 49, 32, 122, 50, 32, 45, 32, 121, 50, 32, 122, 49]), .c (.str [119, 120]), .c (.str [120, 51, 32, 122, 50, 32, 45, 32, 120, 50, 32, 122, 51]), .c (.str [119, 121]), .c (.str [121, 51, 32, 122, 50, 32, 45, 32, 121, 50, 32, 122, 51]), .c (.str [118]), .c (.str [118, 120, 94, 50, 32, 43, 32, 118, 121, 94, 50]), .c (.str [119]), .c (.str [119, 120, 94, 50, 32, 43, 32, 119, 121, 94, 50]), .c (.str [115]), .c (.str [33, 118, 32, 119]), .c (.str [100, 120]), .c (.str [119, 32, 118, 120, 32, 43, 32, 115, 32, 119, 120]), .c (.str [100, 121]), .c (.str [119, 32, 118, 121, 32, 43, 32, 115, 32, 119, 121])]⟩,
   ⟨some 26, none, .buildSlice 1 [.c (.str [45, 122, 50, 32, 100, 121]), .c (.str [122, 50, 32, 100, 120]), .c (.str [120, 50, 32, 100, 121, 32, 45, 32, 121, 50, 32, 100, 120])]⟩,
   ⟨some 27, none, .build [.sl 1 [] .nil, .sl 1 [] .nil] [(0, 1, .t 25), (1, 1, .t 26)]⟩,
   ⟨none, none, .store 2 (.t 2) (.t 27)⟩])
  (.ret))
  (.skip)))))))))))))
  (c46_2))
noncomputable def c46 : AFn := { np := 1, nt := 30, results := [.cell 2 (some 2)], keep := false, body := c46_b }
noncomputable def c47_1 : ACode := .cond (.t 30) (.seq (.region none [⟨some 33, none, .buildSlice 1 [.c (.int .i64 1), .c (.int .i64 2)]⟩,
   ⟨some 2, none, .move (.t 33)⟩,
   ⟨some 3, none, .move (.c (.int .i64 2))⟩,
   ⟨some 4, none, .move (.c (.bool false))⟩])
  (.ret))
  (.seq (.region none [⟨some 35, none, .bin .eql (.t 5) (.c (.int .i64 12))⟩,
   ⟨some 34, none, .move (.t 35)⟩])
  (.cond (.t 34) (.seq (.region none [⟨some 36, none, .buildSlice 1 [.c (.int .i64 1), .c (.int .i64 1)]⟩,
   ⟨some 2, none, .move (.t 36)⟩,
   ⟨some 3, none, .move (.c (.int .i64 1))⟩,
   ⟨some 4, none, .move (.c (.bool false))⟩])
  (.ret))
  (.seq (.region none [⟨some 38, none, .bin .eql (.t 5) (.c (.int .i64 13))⟩,
   ⟨some 37, none, .move (.t 38)⟩])
  (.cond (.t 37) (.seq (.region none [⟨some 39, none, .buildSlice 1 [.c (.int .i64 1), .c (.int .i64 2)]⟩,
   ⟨some 2, none, .move (.t 39)⟩,
   ⟨some 3, none, .move (.c (.int .i64 1))⟩,
   ⟨some 4, none, .move (.c (.bool false))⟩])
  (.ret))
  (.seq (.region none [⟨some 41, none, .bin .eql (.t 5) (.c (.int .i64 14))⟩,
   ⟨some 40, none, .move (.t 41)⟩])
  (.cond (.t 40) (.seq (.region none [⟨some 42, none, .buildSlice 1 [.c (.int .i64 1), .c (.int .i64 1), .c (.int .i64 1)]⟩,
   ⟨some 2, none, .move (.t 42)⟩,
   ⟨some 3, none, .move (.c (.int .i64 2))⟩,
   ⟨some 4, none, .move (.c (.bool true))⟩])
  (.ret))
  (.seq (.region none [⟨some 44, none, .bin .eql (.t 5) (.c (.int .i64 15))⟩,
   ⟨some 43, none, .move (.t 44)⟩])
  (.cond (.t 43) (.seq (.region none [⟨some 45, none, .buildSlice 1 [.c (.int .i64 1), .c (.int .i64 3)]⟩,
   ⟨some 2, none, .move (.t 45)⟩,
   ⟨some 3, none, .move (.c (.int .i64 2))⟩,
   ⟨some 4, none, .move (.c (.bool true))⟩])
  (.ret))
  (.seq (.region none [⟨some 47, none, .bin .eql (.t 5) (.c (.int .i64 16))⟩,
   ⟨some 46, none, .move (.t 47)⟩])
  (.cond (.t 46) (.seq (.region none [⟨some 48, none, .buildSlice 1 [.c (.int .i64 3)]⟩,
   ⟨some 2, none, .move (.t 48)⟩,
   ⟨some 3, none, .move (.c (.int .i64 1))⟩,
   ⟨some 4, none, .move (.c (.bool false))⟩])
  (.ret))
  (.skip)))))))))))
noncomputable def c47_2 : ACode := .mask (.n (.n .e false (.n .e true .e)) false (.n .e false (.n .e false (.n .e false (.n .e true .e))))) (c47_1)
noncomputable def c47_3 : ACode := .cond (.t 20) (.seq (.region none [⟨some 23, none, .buildSlice 1 [.c (.int .i64 1), .c (.int .i64 1), .c (.int .i64 1)]⟩,
   ⟨some 2, none, .move (.t 23)⟩,
   ⟨some 3, none, .move (.c (.int .i64 3))⟩,
   ⟨some 4, none, .move (.c (.bool false))⟩])
  (.ret))
  (.seq (.region none [⟨some 25, none, .bin .eql (.t 5) (.c (.int .i64 8))⟩,
   ⟨some 24, none, .move (.t 25)⟩])
  (.cond (.t 24) (.seq (.region none [⟨some 26, none, .buildSlice 1 [.c (.int .i64 2), .c (.int .i64 3)]⟩,
   ⟨some 2, none, .move (.t 26)⟩,
   ⟨some 3, none, .move (.c (.int .i64 1))⟩,
   ⟨some 4, none, .move (.c (.bool true))⟩])
  (.ret))
  (.seq (.region none [⟨some 28, none, .bin .eql (.t 5) (.c (.int .i64 9))⟩,
   ⟨some 27, none, .move (.t 28)⟩])
  (.cond (.t 27) (.seq (.region none [⟨some 29, none, .buildSlice 1 [.c (.int .i64 3), .c (.int .i64 3)]⟩,
   ⟨some 2, none, .move (.t 29)⟩,
   ⟨some 3, none, .move (.c (.int .i64 1))⟩,
   ⟨some 4, none, .move (.c (.bool true))⟩])
  (.ret))
  (.seq (.seq (.region none [⟨some 31, none, .bin .eql (.t 5) (.c (.int .i64 10))⟩,
   ⟨some 30, none, .move (.t 31)⟩])
  (.cond (.t 30) (.skip)
  (.region none [⟨some 32, none, .bin .eql (.t 5) (.c (.int .i64 11))⟩,
   ⟨some 30, none, .move (.t 32)⟩])))
  (c47_2))))))
noncomputable def c47_4 : ACode := .mask (.n (.n .e false (.n .e true .e)) false (.n (.n .e false (.n (.n .e true .e) false .e)) false .e)) (c47_3)
noncomputable def c47_5 : ACode := .seq (.region none [⟨some 2, none, .move (.c (.sl 1 [] .nil))⟩,
   ⟨some 3, none, .move (.c (.int .i64 0))⟩,
   ⟨some 4, none, .move (.c (.bool false))⟩])
  (.ret)
noncomputable def c47_6 : ACode := .mask .e (c47_5)
noncomputable def c47_b : ACode := .seq (.region none [⟨some 2, none, .move (.c (.sl 1 [] .nil))⟩,
   ⟨some 3, none, .move (.c (.int .i64 0))⟩,
   ⟨some 4, none, .move (.c (.bool false))⟩])
  (.seq (.seq (.region none [⟨some 5, none, .move (.t 0)⟩])
  (.block 0 (.seq (.region none [⟨some 7, none, .bin .eql (.t 5) (.c (.int .i64 1))⟩,
   ⟨some 6, none, .move (.t 7)⟩])
  (.cond (.t 6) (.seq (.region none [⟨some 2, none, .move (.c (.sl 1 [] .nil))⟩,
   ⟨some 3, none, .move (.c (.int .i64 1))⟩,
   ⟨some 4, none, .move (.c (.bool false))⟩])
  (.ret))
  (.seq (.region none [⟨some 9, none, .bin .eql (.t 5) (.c (.int .i64 2))⟩,
   ⟨some 8, none, .move (.t 9)⟩])
  (.cond (.t 8) (.seq (.region none [⟨some 10, none, .buildSlice 1 [.c (.int .i64 0)]⟩,
   ⟨some 2, none, .move (.t 10)⟩,
   ⟨some 3, none, .move (.c (.int .i64 1))⟩,
   ⟨some 4, none, .move (.c (.bool false))⟩])
  (.ret))
  (.seq (.region none [⟨some 12, none, .bin .eql (.t 5) (.c (.int .i64 3))⟩,
   ⟨some 11, none, .move (.t 12)⟩])
  (.cond (.t 11) (.seq (.region none [⟨some 13, none, .buildSlice 1 [.c (.int .i64 1), .c (.int .i64 1)]⟩,
   ⟨some 2, none, .move (.t 13)⟩,
   ⟨some 3, none, .move (.c (.int .i64 2))⟩,
   ⟨some 4, none, .move (.c (.bool false))⟩])
  (.ret))
  (.seq (.region none [⟨some 15, none, .bin .eql (.t 5) (.c (.int .i64 4))⟩,
   ⟨some 14, none, .move (.t 15)⟩])
  (.cond (.t 14) (.seq (.region none [⟨some 16, none, .buildSlice 1 [.c (.int .i64 2), .c (.int .i64 2)]⟩,
   ⟨some 2, none, .move (.t 16)⟩,
   ⟨some 3, none, .move (.c (.int .i64 1))⟩,
   ⟨some 4, none, .move (.c (.bool false))⟩])
  (.ret))
  (.seq (.region none [⟨some 18, none, .bin .eql (.t 5) (.c (.int .i64 5))⟩,
   ⟨some 17, none, .move (.t 18)⟩])
  (.cond (.t 17) (.seq (.region none [⟨some 19, none, .buildSlice 1 [.c (.int .i64 1), .c (.int .i64 1)]⟩,
   ⟨some 2, none, .move (.t 19)⟩,
   ⟨some 3, none, .move (.c (.int .i64 3))⟩,
   ⟨some 4, none, .move (.c (.bool false))⟩])
  (.ret))
  (.seq (.seq (.region none [⟨some 21, none, .bin .eql (.t 5) (.c (.int .i64 6))⟩,
   ⟨some 20, none, .move (.t 21)⟩])
  (.cond (.t 20) (.skip)
  (.region none [⟨some 22, none, .bin .eql (.t 5) (.c (.int .i64 7))⟩,
   ⟨some 20, none, .move (.t 22)⟩])))
  (c47_4))))))))))))))
  (c47_6))
noncomputable def c47 : AFn := { np := 1, nt := 49, results := [.t 2, .t 3, .t 4], keep := false, body := c47_b }
noncomputable def c48_b : ACode := .seq (.region none [⟨some 4, none, .move (.c (.bool false))⟩])
  (.seq (.region none [⟨some 5, none, .move (.t 1)⟩,
   ⟨some 6, none, .move (.t 0)⟩,
   ⟨some 7, none, .bin .eql (.t 5) (.t 6)⟩,
   ⟨some 8, none, .move (.t 7)⟩,
   ⟨some 9, (some (8, false)), .move (.t 0)⟩,
   ⟨some 10, (some (8, false)), .bin .eql (.t 9) (.c (.int .i64 0))⟩,
   ⟨some 11, (some (8, false)), .move (.t 10)⟩,
   ⟨some 12, (some (11, true)), .move (.t 1)⟩,
   ⟨some 13, (some (11, true)), .bin .eql (.t 12) (.c (.int .i64 2))⟩,
   ⟨some 14, (some (11, true)), .move (.t 13)⟩,
   ⟨some 15, (some (14, false)), .move (.t 1)⟩,
   ⟨some 16, (some (14, false)), .bin .eql (.t 15) (.c (.int .i64 3))⟩,
   ⟨some 17, (some (11, true)), .pick (.t 14) (.c (.bool true)) (.t 16)⟩,
   ⟨some 18, (some (8, false)), .pick (.t 11) (.t 17) (.c (.bool false))⟩,
   ⟨some 19, none, .pick (.t 8) (.c (.bool true)) (.t 18)⟩,
   ⟨some 4, none, .move (.t 19)⟩])
  (.ret))
noncomputable def c48 : AFn := { np := 2, nt := 20, results := [.t 4], keep := false, body := c48_b }
noncomputable def c49_1 : ACode := .seq (.region none [⟨some 29, none, .fieldAddr 0 (.t 1)⟩,
   ⟨some 30, none, .load (some 2) (.t 29)⟩,
   ⟨some 31, none, .fieldAddr 2 (.t 1)⟩,
   ⟨some 32, none, .load (some 2) (.t 31)⟩,
   ⟨some 33, none, .call 63 [.t 30, .t 32]⟩,
   ⟨some 28, none, .move (.t 33)⟩,
   ⟨some 34, none, .extract (.t 28) 0⟩,
   ⟨some 35, none, .extract (.t 28) 1⟩,
   ⟨some 3, none, .alloc [.bool false, .sl 1 [] .nil]⟩,
   ⟨none, none, .store 2 (.t 3) (.t 34)⟩,
   ⟨some 4, none, .move (.t 35)⟩])
  (.seq (.region none [⟨some 36, none, .load (some 2) (.t 3)⟩,
   ⟨some 37, none, .call 62 [.t 36]⟩,
   ⟨some 2, none, .move (.t 37)⟩])
  (.ret))
noncomputable def c49_2 : ACode := .mask (.n (.n .e true .e) false .e) (c49_1)
noncomputable def c49_3 : ACode := .seq (.seq (.region none [⟨some 25, none, .fieldAddr 2 (.t 1)⟩,
   ⟨some 26, none, .load (some 2) (.t 25)⟩,
   ⟨some 27, none, .call 62 [.t 26]⟩])
  (.cond (.t 27) (.seq (.region none [⟨some 2, none, .move (.c (.bool true))⟩])
  (.ret))
  (.skip)))
  (c49_2)
noncomputable def c49_4 : ACode := .mask (.n (.n .e true .e) false .e) (c49_3)
noncomputable def c49_b : ACode := .seq (.region none [⟨some 1, none, .boxRo (.t 0)⟩,
   ⟨some 2, none, .move (.c (.bool false))⟩])
  (.seq (.seq (.region none [⟨some 5, none, .fieldAddr 0 (.t 1)⟩,
   ⟨some 6, none, .load (some 2) (.t 5)⟩,
   ⟨some 7, none, .call 60 [.t 6]⟩,
   ⟨some 8, none, .un .not (.t 7)⟩,
   ⟨some 9, none, .move (.t 8)⟩,
   ⟨some 10, (some (9, false)), .fieldAddr 2 (.t 1)⟩,
   ⟨some 11, (some (9, false)), .load (some 2) (.t 10)⟩,
   ⟨some 12, (some (9, false)), .call 60 [.t 11]⟩,
   ⟨some 13, (some (9, false)), .un .not (.t 12)⟩,
   ⟨some 14, none, .pick (.t 9) (.c (.bool true)) (.t 13)⟩,
   ⟨some 15, none, .move (.t 14)⟩,
   ⟨some 16, (some (15, false)), .fieldAddr 2 (.t 1)⟩,
   ⟨some 17, (some (15, false)), .fieldAddr 0 (.t 16)⟩,
   ⟨some 18, (some (15, false)), .load none (.t 17)⟩,
   ⟨some 19, none, .pick (.t 15) (.c (.bool true)) (.t 18)⟩,
   ⟨some 20, none, .move (.t 19)⟩,
   ⟨some 21, (some (20, false)), .fieldAddr 2 (.t 1)⟩,
   ⟨some 22, (some (20, false)), .load (some 2) (.t 21)⟩,
   ⟨some 23, (some (20, false)), .call 61 [.t 22]⟩,
   ⟨some 24, none, .pick (.t 20) (.c (.bool true)) (.t 23)⟩])
  (.cond (.t 24) (.seq (.region none [⟨some 2, none, .move (.c (.bool false))⟩])
  (.ret))
  (.skip)))
  (c49_4))
noncomputable def c49 : AFn := { np := 1, nt := 38, results := [.t 2], keep := false, body := c49_b }
noncomputable def c50_b : ACode := .seq (.region none [⟨some 1, none, .boxRo (.t 0)⟩,
   ⟨some 2, none, .move (.c (.bool false))⟩])
  (.seq (.region none [⟨some 3, none, .fieldAddr 0 (.t 1)⟩,
   ⟨some 4, none, .fieldAddr 0 (.t 3)⟩,
   ⟨some 5, none, .load none (.t 4)⟩,
   ⟨some 6, none, .un .not (.t 5)⟩,
   ⟨some 7, none, .move (.t 6)⟩,
   ⟨some 8, (some (7, true)), .fieldAddr 2 (.t 1)⟩,
   ⟨some 9, (some (7, true)), .fieldAddr 0 (.t 8)⟩,
   ⟨some 10, (some (7, true)), .load none (.t 9)⟩,
   ⟨some 11, (some (7, true)), .un .not (.t 10)⟩,
   ⟨some 12, none, .pick (.t 7) (.t 11) (.c (.bool false))⟩,
   ⟨some 13, none, .move (.t 12)⟩,
   ⟨some 14, (some (13, true)), .fieldAddr 0 (.t 1)⟩,
   ⟨some 15, (some (13, true)), .fieldAddr 1 (.t 14)⟩,
   ⟨some 16, (some (13, true)), .load none (.t 15)⟩,
   ⟨some 17, (some (13, true)), .len false (.t 16)⟩,
   ⟨some 18, (some (13, true)), .bin .eql (.t 17) (.c (.int .i64 0))⟩,
   ⟨some 19, none, .pick (.t 13) (.t 18) (.c (.bool false))⟩,
   ⟨some 20, none, .move (.t 19)⟩,
   ⟨some 21, (some (20, true)), .fieldAddr 2 (.t 1)⟩,
   ⟨some 22, (some (20, true)), .fieldAddr 1 (.t 21)⟩,
   ⟨some 23, (some (20, true)), .load none (.t 22)⟩,
   ⟨some 24, (some (20, true)), .len false (.t 23)⟩,
   ⟨some 25, (some (20, true)), .bin .eql (.t 24) (.c (.int .i64 0))⟩,
   ⟨some 26, none, .pick (.t 20) (.t 25) (.c (.bool false))⟩,
   ⟨some 2, none, .move (.t 26)⟩])
  (.ret))
noncomputable def c50 : AFn := { np := 1, nt := 27, results := [.t 2], keep := false, body := c50_b }
noncomputable def c51_b : ACode := .seq (.region none [⟨some 4, none, .move (.c (.bool false))⟩])
  (.seq (.region none [⟨some 5, none, .move (.t 0)⟩,
   ⟨some 6, none, .move (.t 1)⟩,
   ⟨some 7, none, .call 64 [.t 5, .t 6]⟩,
   ⟨some 8, none, .bin .geq (.t 7) (.c (.int .i64 0))⟩,
   ⟨some 4, none, .move (.t 8)⟩])
  (.ret))
noncomputable def c51 : AFn := { np := 2, nt := 9, results := [.t 4], keep := false, body := c51_b }
noncomputable def c52_b : ACode := .seq (.region none [⟨some 2, none, .boxRo (.t 0)⟩,
   ⟨some 3, none, .move (.c (.bool false))⟩])
  (.seq (.region none [⟨some 4, none, .fieldAddr 0 (.t 2)⟩,
   ⟨some 5, none, .load none (.t 4)⟩,
   ⟨some 6, none, .fieldAddr 0 (.t 1)⟩,
   ⟨some 7, none, .load none (.t 6)⟩,
   ⟨some 8, none, .bin .eql (.t 5) (.t 7)⟩,
   ⟨some 3, none, .move (.t 8)⟩])
  (.ret))
noncomputable def c52 : AFn := { np := 2, nt := 9, results := [.t 3], keep := false, body := c52_b }
noncomputable def c53_b : ACode := .seq (.region none [⟨some 2, none, .move (.c (.str []))⟩])
  (.seq (.region none [⟨some 3, none, .move (.t 0)⟩,
   ⟨some 4, none, .call 65 [.t 3, .c (.int .i64 10)]⟩,
   ⟨some 2, none, .move (.t 4)⟩])
  (.ret))
noncomputable def c53 : AFn := { np := 1, nt := 5, results := [.t 2], keep := false, body := c53_b }
noncomputable def c54_1 : ACode := .seq (.region none [⟨some 81, none, .move (.t 4)⟩,
   ⟨some 3, none, .move (.t 81)⟩])
  (.ret)
noncomputable def c54_2 : ACode := .mask (.n .e false (.n (.n .e true .e) false .e)) (c54_1)
noncomputable def c54_3 : ACode := .seq (.seq (.region (some []) [⟨some 48, none, .load none (.t 0)⟩,
   ⟨some 49, none, .nilCheck (.t 48)⟩,
   ⟨some 50, none, .fieldAddr 1 (.t 49)⟩,
   ⟨some 51, none, .load none (.t 50)⟩,
   ⟨some 52, none, .load none (.t 0)⟩,
   ⟨some 53, none, .nilCheck (.t 52)⟩,
   ⟨some 54, none, .fieldAddr 0 (.t 53)⟩,
   ⟨some 55, none, .load none (.t 54)⟩,
   ⟨some 56, none, .len true (.t 55)⟩,
   ⟨some 57, none, .bin .lss (.t 51) (.t 56)⟩,
   ⟨some 58, none, .move (.t 57)⟩,
   ⟨some 59, (some (58, true)), .load none (.t 0)⟩,
   ⟨some 60, (some (58, true)), .nilCheck (.t 59)⟩,
   ⟨some 61, (some (58, true)), .fieldAddr 0 (.t 60)⟩,
   ⟨some 62, (some (58, true)), .load none (.t 61)⟩,
   ⟨some 63, (some (58, true)), .load none (.t 0)⟩,
   ⟨some 64, (some (58, true)), .nilCheck (.t 63)⟩,
   ⟨some 65, (some (58, true)), .fieldAddr 1 (.t 64)⟩,
   ⟨some 66, (some (58, true)), .load none (.t 65)⟩,
   ⟨some 67, (some (58, true)), .idxStr (.t 62) (.t 66)⟩,
   ⟨some 68, (some (58, true)), .bin .eql (.t 67) (.c (.int .u8 94))⟩,
   ⟨some 69, none, .pick (.t 58) (.t 68) (.c (.bool false))⟩])
  (.cond (.t 69) (.seq (.region none [⟨some 70, none, .load none (.t 0)⟩,
   ⟨some 71, none, .nilCheck (.t 70)⟩,
   ⟨some 72, none, .fieldAddr 1 (.t 71)⟩,
   ⟨some 73, none, .load none (.t 72)⟩,
   ⟨some 74, none, .bin .add (.t 73) (.c (.int .i64 2))⟩,
   ⟨some 75, none, .nilCheck (.t 70)⟩,
   ⟨some 76, none, .fieldAddr 1 (.t 75)⟩,
   ⟨none, none, .store 1 (.t 76) (.t 74)⟩])
  (.region none [⟨some 77, none, .load none (.t 2)⟩,
   ⟨some 78, none, .move (.t 4)⟩,
   ⟨some 79, none, .move (.t 4)⟩,
   ⟨some 80, none, .call 41 [.t 77, .c (.int .i64 5), .t 78, .t 79]⟩,
   ⟨some 4, none, .move (.t 80)⟩]))
  (.skip)))
  (c54_2)
noncomputable def c54_4 : ACode := .mask (.n .e true (.n (.n .e true .e) true .e)) (c54_3)
noncomputable def c54_b : ACode := .seq (.region none [⟨some 3, none, .move (.c (.int .i64 0))⟩])
  (.seq (.region none [⟨some 4, none, .move (.c (.int .i64 0))⟩])
  (.seq (.seq (.region none [⟨some 8, none, .load none (.t 0)⟩,
   ⟨some 9, none, .call 55 [.t 8]⟩,
   ⟨some 10, none, .bin .eql (.t 9) (.c (.int .u8 40))⟩])
  (.cond (.t 10) (.seq (.region none [⟨some 11, none, .load none (.t 0)⟩,
   ⟨some 12, none, .nilCheck (.t 11)⟩,
   ⟨some 13, none, .fieldAddr 1 (.t 12)⟩,
   ⟨some 14, none, .load none (.t 13)⟩,
   ⟨some 15, none, .bin .add (.t 14) (.c (.int .i64 1))⟩,
   ⟨some 16, none, .nilCheck (.t 11)⟩,
   ⟨some 17, none, .fieldAddr 1 (.t 16)⟩,
   ⟨none, none, .store 1 (.t 17) (.t 15)⟩])
  (.seq (.region none [⟨some 18, none, .load none (.t 1)⟩,
   ⟨some 19, none, .callV (.t 18) []⟩,
   ⟨some 4, none, .move (.t 19)⟩])
  (.seq (.region none [⟨some 20, none, .load none (.t 0)⟩,
   ⟨some 21, none, .call 55 [.t 20]⟩])
  (.region none [⟨some 22, none, .load none (.t 0)⟩,
   ⟨some 23, none, .nilCheck (.t 22)⟩,
   ⟨some 24, none, .fieldAddr 1 (.t 23)⟩,
   ⟨some 25, none, .load none (.t 24)⟩,
   ⟨some 26, none, .bin .add (.t 25) (.c (.int .i64 1))⟩,
   ⟨some 27, none, .nilCheck (.t 22)⟩,
   ⟨some 28, none, .fieldAddr 1 (.t 27)⟩,
   ⟨none, none, .store 1 (.t 28) (.t 26)⟩]))))
  (.seq (.region none [⟨some 29, none, .load none (.t 0)⟩,
   ⟨some 30, none, .call 56 [.t 29]⟩,
   ⟨some 5, none, .move (.t 30)⟩])
  (.seq (.region none [⟨some 31, none, .move (.t 5)⟩,
   ⟨some 32, none, .idxStr (.t 31) (.c (.int .i64 0))⟩,
   ⟨some 33, none, .bin .leq (.t 32) (.c (.int .u8 57))⟩])
  (.cond (.t 33) (.seq (.region none [⟨some 35, none, .move (.t 5)⟩,
   ⟨some 36, none, .call 57 [.t 35]⟩,
   ⟨some 34, none, .move (.t 36)⟩,
   ⟨some 37, none, .extract (.t 34) 0⟩,
   ⟨some 38, none, .extract (.t 34) 1⟩,
   ⟨some 6, none, .move (.t 37)⟩,
   ⟨some 7, none, .move (.t 38)⟩])
  (.region none [⟨some 39, none, .load none (.t 2)⟩,
   ⟨some 40, none, .move (.t 6)⟩,
   ⟨some 41, none, .call 41 [.t 39, .c (.int .i64 2), .t 40, .c (.int .i64 0)]⟩,
   ⟨some 4, none, .move (.t 41)⟩]))
  (.region none [⟨some 42, none, .load none (.t 2)⟩,
   ⟨some 43, none, .nilCheck (.t 42)⟩,
   ⟨some 44, none, .fieldAddr 4 (.t 43)⟩,
   ⟨some 45, none, .load none (.t 44)⟩,
   ⟨some 46, none, .move (.t 5)⟩,
   ⟨some 47, none, .lookup .str (.int .i64 0) false (.t 45) (.t 46)⟩,
   ⟨some 4, none, .move (.t 47)⟩]))))))
  (c54_4)))
noncomputable def c54 : AFn := { np := 3, nt := 82, results := [.t 3], keep := false, body := c54_b }
noncomputable def c55_1 : ACode := .block 1 (.region none [⟨some 25, none, .move (.t 0)⟩,
   ⟨some 26, none, .nilCheck (.t 25)⟩,
   ⟨some 27, none, .fieldAddr 1 (.t 26)⟩,
   ⟨some 28, none, .load none (.t 27)⟩,
   ⟨some 29, none, .bin .add (.t 28) (.c (.int .i64 1))⟩,
   ⟨some 30, none, .nilCheck (.t 25)⟩,
   ⟨some 31, none, .fieldAddr 1 (.t 30)⟩,
   ⟨none, none, .store 1 (.t 31) (.t 29)⟩])
noncomputable def c55_2 : ACode := .mask (.n .e true .e) (c55_1)
noncomputable def c55_3 : ACode := .seq (.seq (.region (some []) [⟨some 3, none, .move (.t 0)⟩,
   ⟨some 4, none, .nilCheck (.t 3)⟩,
   ⟨some 5, none, .fieldAddr 1 (.t 4)⟩,
   ⟨some 6, none, .load none (.t 5)⟩,
   ⟨some 7, none, .move (.t 0)⟩,
   ⟨some 8, none, .nilCheck (.t 7)⟩,
   ⟨some 9, none, .fieldAddr 0 (.t 8)⟩,
   ⟨some 10, none, .load none (.t 9)⟩,
   ⟨some 11, none, .len true (.t 10)⟩,
   ⟨some 12, none, .bin .lss (.t 6) (.t 11)⟩,
   ⟨some 13, none, .move (.t 12)⟩,
   ⟨some 14, (some (13, true)), .move (.t 0)⟩,
   ⟨some 15, (some (13, true)), .nilCheck (.t 14)⟩,
   ⟨some 16, (some (13, true)), .fieldAddr 0 (.t 15)⟩,
   ⟨some 17, (some (13, true)), .load none (.t 16)⟩,
   ⟨some 18, (some (13, true)), .move (.t 0)⟩,
   ⟨some 19, (some (13, true)), .nilCheck (.t 18)⟩,
   ⟨some 20, (some (13, true)), .fieldAddr 1 (.t 19)⟩,
   ⟨some 21, (some (13, true)), .load none (.t 20)⟩,
   ⟨some 22, (some (13, true)), .idxStr (.t 17) (.t 21)⟩,
   ⟨some 23, (some (13, true)), .bin .eql (.t 22) (.c (.int .u8 32))⟩,
   ⟨some 24, none, .pick (.t 13) (.t 23) (.c (.bool false))⟩])
  (.cond (.t 24) (.skip)
  (.exit 0)))
  (c55_2)
noncomputable def c55_4 : ACode := .seq (.region (some []) [⟨some 42, none, .move (.t 0)⟩,
   ⟨some 43, none, .nilCheck (.t 42)⟩,
   ⟨some 44, none, .fieldAddr 0 (.t 43)⟩,
   ⟨some 45, none, .load none (.t 44)⟩,
   ⟨some 46, none, .move (.t 0)⟩,
   ⟨some 47, none, .nilCheck (.t 46)⟩,
   ⟨some 48, none, .fieldAddr 1 (.t 47)⟩,
   ⟨some 49, none, .load none (.t 48)⟩,
   ⟨some 50, none, .idxStr (.t 45) (.t 49)⟩,
   ⟨some 2, none, .move (.t 50)⟩])
  (.ret)
noncomputable def c55_5 : ACode := .mask (.n .e true .e) (c55_4)
noncomputable def c55_6 : ACode := .seq (.seq (.region (some []) [⟨some 32, none, .move (.t 0)⟩,
   ⟨some 33, none, .nilCheck (.t 32)⟩,
   ⟨some 34, none, .fieldAddr 1 (.t 33)⟩,
   ⟨some 35, none, .load none (.t 34)⟩,
   ⟨some 36, none, .move (.t 0)⟩,
   ⟨some 37, none, .nilCheck (.t 36)⟩,
   ⟨some 38, none, .fieldAddr 0 (.t 37)⟩,
   ⟨some 39, none, .load none (.t 38)⟩,
   ⟨some 40, none, .len true (.t 39)⟩,
   ⟨some 41, none, .bin .eql (.t 35) (.t 40)⟩])
  (.cond (.t 41) (.seq (.region none [⟨some 2, none, .move (.c (.int .u8 0))⟩])
  (.ret))
  (.skip)))
  (c55_5)
noncomputable def c55_7 : ACode := .mask (.n .e true .e) (c55_6)
noncomputable def c55_b : ACode := .seq (.region none [⟨some 2, none, .move (.c (.int .u8 0))⟩])
  (.seq (.block 0 (.loop (.n .e true .e) (c55_3)))
  (c55_7))
noncomputable def c55 : AFn := { np := 1, nt := 51, results := [.t 2], keep := false, body := c55_b }
noncomputable def c56_1 : ACode := .region none [⟨some 44, none, .move (.t 0)⟩,
   ⟨some 45, none, .nilCheck (.t 44)⟩,
   ⟨some 46, none, .fieldAddr 1 (.t 45)⟩,
   ⟨some 47, none, .load none (.t 46)⟩,
   ⟨some 48, none, .bin .add (.t 47) (.c (.int .i64 1))⟩,
   ⟨some 49, none, .nilCheck (.t 44)⟩,
   ⟨some 50, none, .fieldAddr 1 (.t 49)⟩,
   ⟨none, none, .store 1 (.t 50) (.t 48)⟩]
noncomputable def c56_2 : ACode := .mask (.n (.n (.n .e true .e) false .e) true .e) (c56_1)
noncomputable def c56_3 : ACode := .block 1 (.seq (.region (some []) [⟨some 21, none, .move (.t 0)⟩,
   ⟨some 22, none, .nilCheck (.t 21)⟩,
   ⟨some 23, none, .fieldAddr 0 (.t 22)⟩,
   ⟨some 24, none, .load none (.t 23)⟩,
   ⟨some 25, none, .move (.t 0)⟩,
   ⟨some 26, none, .nilCheck (.t 25)⟩,
   ⟨some 27, none, .fieldAddr 1 (.t 26)⟩,
   ⟨some 28, none, .load none (.t 27)⟩,
   ⟨some 29, none, .idxStr (.t 24) (.t 28)⟩,
   ⟨some 4, none, .move (.t 29)⟩])
  (.seq (.seq (.region none [⟨some 30, none, .move (.t 4)⟩,
   ⟨some 31, none, .bin .lss (.t 30) (.c (.int .u8 97))⟩,
   ⟨some 32, none, .move (.t 31)⟩,
   ⟨some 33, (some (32, false)), .move (.t 4)⟩,
   ⟨some 34, (some (32, false)), .bin .gtr (.t 33) (.c (.int .u8 122))⟩,
   ⟨some 35, none, .pick (.t 32) (.c (.bool true)) (.t 34)⟩,
   ⟨some 36, none, .move (.t 35)⟩,
   ⟨some 37, (some (36, true)), .move (.t 4)⟩,
   ⟨some 38, (some (36, true)), .bin .lss (.t 37) (.c (.int .u8 48))⟩,
   ⟨some 39, (some (36, true)), .move (.t 38)⟩,
   ⟨some 40, (some (39, false)), .move (.t 4)⟩,
   ⟨some 41, (some (39, false)), .bin .gtr (.t 40) (.c (.int .u8 57))⟩,
   ⟨some 42, (some (36, true)), .pick (.t 39) (.c (.bool true)) (.t 41)⟩,
   ⟨some 43, none, .pick (.t 36) (.t 42) (.c (.bool false))⟩])
  (.cond (.t 43) (.exit 0)
  (.skip)))
  (c56_2)))
noncomputable def c56_4 : ACode := .mask (.n (.n (.n .e true .e) false .e) true .e) (c56_3)
noncomputable def c56_5 : ACode := .seq (.seq (.region (some []) [⟨some 11, none, .move (.t 0)⟩,
   ⟨some 12, none, .nilCheck (.t 11)⟩,
   ⟨some 13, none, .fieldAddr 1 (.t 12)⟩,
   ⟨some 14, none, .load none (.t 13)⟩,
   ⟨some 15, none, .move (.t 0)⟩,
   ⟨some 16, none, .nilCheck (.t 15)⟩,
   ⟨some 17, none, .fieldAddr 0 (.t 16)⟩,
   ⟨some 18, none, .load none (.t 17)⟩,
   ⟨some 19, none, .len true (.t 18)⟩,
   ⟨some 20, none, .bin .lss (.t 14) (.t 19)⟩])
  (.cond (.t 20) (.skip)
  (.exit 0)))
  (c56_4)
noncomputable def c56_6 : ACode := .seq (.region (some []) [⟨some 51, none, .move (.t 0)⟩,
   ⟨some 52, none, .nilCheck (.t 51)⟩,
   ⟨some 53, none, .fieldAddr 0 (.t 52)⟩,
   ⟨some 54, none, .load none (.t 53)⟩,
   ⟨some 55, none, .move (.t 3)⟩,
   ⟨some 56, none, .move (.t 0)⟩,
   ⟨some 57, none, .nilCheck (.t 56)⟩,
   ⟨some 58, none, .fieldAddr 1 (.t 57)⟩,
   ⟨some 59, none, .load none (.t 58)⟩,
   ⟨some 60, none, .subStr (.t 54) (some (.t 55)) (some (.t 59))⟩,
   ⟨some 2, none, .move (.t 60)⟩])
  (.ret)
noncomputable def c56_7 : ACode := .mask (.n (.n (.n .e true .e) false .e) true .e) (c56_6)
noncomputable def c56_b : ACode := .seq (.region none [⟨some 2, none, .move (.c (.str []))⟩])
  (.seq (.region none [⟨some 5, none, .move (.t 0)⟩,
   ⟨some 6, none, .call 55 [.t 5]⟩])
  (.seq (.region none [⟨some 7, none, .move (.t 0)⟩,
   ⟨some 8, none, .nilCheck (.t 7)⟩,
   ⟨some 9, none, .fieldAddr 1 (.t 8)⟩,
   ⟨some 10, none, .load none (.t 9)⟩,
   ⟨some 3, none, .move (.t 10)⟩])
  (.seq (.block 0 (.loop (.n (.n (.n .e true .e) false .e) true .e) (c56_5)))
  (c56_7))))
noncomputable def c56 : AFn := { np := 1, nt := 61, results := [.t 2], keep := false, body := c56_b }
noncomputable def c57_1 : ACode := .seq (.region none [⟨some 17, none, .move (.t 4)⟩,
   ⟨some 2, none, .move (.t 17)⟩,
   ⟨some 3, none, .move (.c .nili)⟩])
  (.ret)
noncomputable def c57_2 : ACode := .mask (.n .e false (.n (.n .e true .e) false .e)) (c57_1)
noncomputable def c57_b : ACode := .seq (.region none [⟨some 2, none, .move (.c (.int .i64 0))⟩,
   ⟨some 3, none, .move (.c .nili)⟩])
  (.seq (.region none [⟨some 7, none, .move (.t 0)⟩,
   ⟨some 8, none, .call 66 [.t 7]⟩,
   ⟨some 6, none, .move (.t 8)⟩,
   ⟨some 9, none, .extract (.t 6) 0⟩,
   ⟨some 10, none, .extract (.t 6) 1⟩,
   ⟨some 4, none, .move (.t 9)⟩,
   ⟨some 5, none, .move (.t 10)⟩])
  (.seq (.seq (.region none [⟨some 11, none, .move (.t 5)⟩,
   ⟨some 12, none, .nilI true (.t 11)⟩])
  (.cond (.t 12) (.seq (.region none [⟨some 13, none, .move (.t 4)⟩,
   ⟨some 14, none, .move (.t 0)⟩,
   ⟨some 15, none, .move (.t 5)⟩,
   ⟨some 16, none, .call 67 [.c (.str [65, 116, 111, 105]), .t 14, .c (.int .i64 0), .c (.int .i64 0), .t 15]⟩,
   ⟨some 2, none, .move (.t 13)⟩,
   ⟨some 3, none, .move (.t 16)⟩])
  (.ret))
  (.skip)))
  (c57_2)))
noncomputable def c57 : AFn := { np := 1, nt := 18, results := [.t 2, .t 3], keep := false, body := c57_b }
noncomputable def c58_1 : ACode := .region none [⟨some 25, none, .load none (.t 1)⟩,
   ⟨some 26, none, .call 55 [.t 25]⟩,
   ⟨some 5, none, .move (.t 26)⟩]
noncomputable def c58_2 : ACode := .mask (.n (.n .e true .e) true (.n (.n .e true .e) true .e)) (c58_1)
noncomputable def c58_3 : ACode := .seq (.block 1 (.seq (.region none [⟨some 27, none, .load none (.t 0)⟩,
   ⟨some 28, none, .callV (.t 27) []⟩,
   ⟨some 6, none, .move (.t 28)⟩])
  (.region none [⟨some 29, none, .load none (.t 2)⟩,
   ⟨some 30, none, .move (.t 4)⟩,
   ⟨some 31, none, .move (.t 6)⟩,
   ⟨some 32, none, .call 41 [.t 29, .c (.int .i64 5), .t 30, .t 31]⟩,
   ⟨some 4, none, .move (.t 32)⟩])))
  (c58_2)
noncomputable def c58_4 : ACode := .mask (.n (.n .e true .e) true (.n (.n .e true .e) true .e)) (c58_3)
noncomputable def c58_5 : ACode := .seq (.seq (.region none [⟨some 11, none, .move (.t 5)⟩,
   ⟨some 12, none, .bin .neq (.t 11) (.c (.int .u8 0))⟩,
   ⟨some 13, none, .move (.t 12)⟩,
   ⟨some 14, (some (13, true)), .move (.t 5)⟩,
   ⟨some 15, (some (13, true)), .bin .neq (.t 14) (.c (.int .u8 43))⟩,
   ⟨some 16, none, .pick (.t 13) (.t 15) (.c (.bool false))⟩,
   ⟨some 17, none, .move (.t 16)⟩,
   ⟨some 18, (some (17, true)), .move (.t 5)⟩,
   ⟨some 19, (some (17, true)), .bin .neq (.t 18) (.c (.int .u8 45))⟩,
   ⟨some 20, none, .pick (.t 17) (.t 19) (.c (.bool false))⟩,
   ⟨some 21, none, .move (.t 20)⟩,
   ⟨some 22, (some (21, true)), .move (.t 5)⟩,
   ⟨some 23, (some (21, true)), .bin .neq (.t 22) (.c (.int .u8 41))⟩,
   ⟨some 24, none, .pick (.t 21) (.t 23) (.c (.bool false))⟩])
  (.cond (.t 24) (.skip)
  (.exit 0)))
  (c58_4)
noncomputable def c58_6 : ACode := .seq (.region none [⟨some 33, none, .move (.t 4)⟩,
   ⟨some 3, none, .move (.t 33)⟩])
  (.ret)
noncomputable def c58_7 : ACode := .mask (.n .e false (.n (.n .e true .e) false .e)) (c58_6)
noncomputable def c58_b : ACode := .seq (.region none [⟨some 3, none, .move (.c (.int .i64 0))⟩])
  (.seq (.region none [⟨some 7, none, .load none (.t 0)⟩,
   ⟨some 8, none, .callV (.t 7) []⟩,
   ⟨some 4, none, .move (.t 8)⟩])
  (.seq (.seq (.region none [⟨some 9, none, .load none (.t 1)⟩,
   ⟨some 10, none, .call 55 [.t 9]⟩,
   ⟨some 5, none, .move (.t 10)⟩])
  (.block 0 (.loop (.n (.n .e true (.n .e true .e)) true (.n (.n .e true .e) true .e)) (c58_5))))
  (c58_7)))
noncomputable def c58 : AFn := { np := 3, nt := 34, results := [.t 3], keep := false, body := c58_b }
noncomputable def c59_1 : ACode := .region none [⟨some 49, none, .load none (.t 1)⟩,
   ⟨some 50, none, .move (.t 8)⟩,
   ⟨some 51, none, .move (.t 4)⟩,
   ⟨some 52, none, .move (.t 7)⟩,
   ⟨some 53, none, .call 41 [.t 49, .t 50, .t 51, .t 52]⟩,
   ⟨some 4, none, .move (.t 53)⟩]
noncomputable def c59_2 : ACode := .mask (.n (.n (.n (.n .e true .e) false .e) true .e) true (.n (.n (.n .e true .e) true .e) true .e)) (c59_1)
noncomputable def c59_3 : ACode := .region none [⟨some 36, none, .load none (.t 0)⟩,
   ⟨some 37, none, .call 55 [.t 36]⟩,
   ⟨some 6, none, .move (.t 37)⟩]
noncomputable def c59_4 : ACode := .mask (.n (.n .e true .e) true (.n (.n .e true .e) true .e)) (c59_3)
noncomputable def c59_5 : ACode := .seq (.block 1 (.seq (.region none [⟨some 38, none, .load none (.t 0)⟩,
   ⟨some 39, none, .nilCheck (.t 38)⟩,
   ⟨some 40, none, .fieldAddr 1 (.t 39)⟩,
   ⟨some 41, none, .load none (.t 40)⟩,
   ⟨some 42, none, .bin .add (.t 41) (.c (.int .i64 1))⟩,
   ⟨some 43, none, .nilCheck (.t 38)⟩,
   ⟨some 44, none, .fieldAddr 1 (.t 43)⟩,
   ⟨none, none, .store 1 (.t 44) (.t 42)⟩])
  (.seq (.region none [⟨some 45, none, .load none (.t 2)⟩,
   ⟨some 46, none, .callV (.t 45) []⟩,
   ⟨some 7, none, .move (.t 46)⟩])
  (.seq (.region none [⟨some 8, none, .move (.c (.int .i64 3))⟩])
  (.seq (.seq (.region none [⟨some 47, none, .move (.t 6)⟩,
   ⟨some 48, none, .bin .eql (.t 47) (.c (.int .u8 45))⟩])
  (.cond (.t 48) (.region none [⟨some 8, none, .move (.c (.int .i64 4))⟩])
  (.skip)))
  (c59_2))))))
  (c59_4)
noncomputable def c59_6 : ACode := .mask (.n (.n .e true .e) true (.n (.n .e true .e) true (.n .e true .e))) (c59_5)
noncomputable def c59_7 : ACode := .seq (.seq (.region none [⟨some 30, none, .move (.t 6)⟩,
   ⟨some 31, none, .bin .eql (.t 30) (.c (.int .u8 43))⟩,
   ⟨some 32, none, .move (.t 31)⟩,
   ⟨some 33, (some (32, false)), .move (.t 6)⟩,
   ⟨some 34, (some (32, false)), .bin .eql (.t 33) (.c (.int .u8 45))⟩,
   ⟨some 35, none, .pick (.t 32) (.c (.bool true)) (.t 34)⟩])
  (.cond (.t 35) (.skip)
  (.exit 0)))
  (c59_6)
noncomputable def c59_8 : ACode := .seq (.region none [⟨some 54, none, .move (.t 4)⟩,
   ⟨some 3, none, .move (.t 54)⟩])
  (.ret)
noncomputable def c59_9 : ACode := .mask (.n .e false (.n (.n .e true .e) false .e)) (c59_8)
noncomputable def c59_10 : ACode := .seq (.seq (.region none [⟨some 28, none, .load none (.t 0)⟩,
   ⟨some 29, none, .call 55 [.t 28]⟩,
   ⟨some 6, none, .move (.t 29)⟩])
  (.block 0 (.loop (.n (.n .e true .e) true (.n (.n .e true .e) true (.n .e true .e))) (c59_7))))
  (c59_9)
noncomputable def c59_11 : ACode := .mask (.n (.n .e true .e) true (.n (.n .e true .e) true .e)) (c59_10)
noncomputable def c59_b : ACode := .seq (.region none [⟨some 3, none, .move (.c (.int .i64 0))⟩])
  (.seq (.region none [⟨some 4, none, .move (.c (.int .i64 0))⟩])
  (.seq (.seq (.region none [⟨some 9, none, .load none (.t 0)⟩,
   ⟨some 10, none, .call 55 [.t 9]⟩,
   ⟨some 11, none, .bin .eql (.t 10) (.c (.int .u8 45))⟩])
  (.cond (.t 11) (.seq (.region none [⟨some 12, none, .load none (.t 0)⟩,
   ⟨some 13, none, .nilCheck (.t 12)⟩,
   ⟨some 14, none, .fieldAddr 1 (.t 13)⟩,
   ⟨some 15, none, .load none (.t 14)⟩,
   ⟨some 16, none, .bin .add (.t 15) (.c (.int .i64 1))⟩,
   ⟨some 17, none, .nilCheck (.t 12)⟩,
   ⟨some 18, none, .fieldAddr 1 (.t 17)⟩,
   ⟨none, none, .store 1 (.t 18) (.t 16)⟩])
  (.seq (.region none [⟨some 19, none, .load none (.t 1)⟩,
   ⟨some 20, none, .call 41 [.t 19, .c (.int .i64 2), .c (.int .i64 0), .c (.int .i64 0)]⟩,
   ⟨some 5, none, .move (.t 20)⟩])
  (.region (some []) [⟨some 21, none, .load none (.t 1)⟩,
   ⟨some 22, none, .move (.t 5)⟩,
   ⟨some 23, none, .load none (.t 2)⟩,
   ⟨some 24, none, .callVC [(none, .t 1)] (.t 23) []⟩,
   ⟨some 25, none, .call 41 [.t 21, .c (.int .i64 4), .t 22, .t 24]⟩,
   ⟨some 4, none, .move (.t 25)⟩])))
  (.region none [⟨some 26, none, .load none (.t 2)⟩,
   ⟨some 27, none, .callV (.t 26) []⟩,
   ⟨some 4, none, .move (.t 27)⟩])))
  (c59_11)))
noncomputable def c59 : AFn := { np := 3, nt := 55, results := [.t 3], keep := false, body := c59_b }
noncomputable def c60_1 : ACode := .seq (.region none [⟨some 12, none, .move (.t 3)⟩,
   ⟨some 13, none, .bin .leq (.t 12) (.c (.int .i64 128))⟩,
   ⟨some 14, none, .move (.t 13)⟩,
   ⟨some 15, (some (14, true)), .fieldAddr 1 (.t 1)⟩,
   ⟨some 16, (some (14, true)), .load none (.t 15)⟩,
   ⟨some 17, (some (14, true)), .move (.t 3)⟩,
   ⟨some 18, (some (14, true)), .bin .sub (.t 17) (.c (.int .i64 1))⟩,
   ⟨some 19, (some (14, true)), .idxSl 1 (.t 16) (.t 18)⟩,
   ⟨some 20, (some (14, true)), .load none (.t 19)⟩,
   ⟨some 21, (some (14, true)), .bin .neq (.t 20) (.c (.int .u32 0))⟩,
   ⟨some 22, none, .pick (.t 14) (.t 21) (.c (.bool false))⟩,
   ⟨some 2, none, .move (.t 22)⟩])
  (.ret)
noncomputable def c60_2 : ACode := .mask (.n (.n (.n .e true .e) true .e) false .e) (c60_1)
noncomputable def c60_b : ACode := .seq (.region none [⟨some 1, none, .boxRo (.t 0)⟩,
   ⟨some 2, none, .move (.c (.bool false))⟩])
  (.seq (.region none [⟨some 4, none, .fieldAddr 1 (.t 1)⟩,
   ⟨some 5, none, .load none (.t 4)⟩,
   ⟨some 6, none, .len false (.t 5)⟩,
   ⟨some 3, none, .move (.t 6)⟩])
  (.seq (.seq (.region none [⟨some 7, none, .move (.t 3)⟩,
   ⟨some 8, none, .bin .eql (.t 7) (.c (.int .i64 0))⟩])
  (.cond (.t 8) (.seq (.region none [⟨some 9, none, .fieldAddr 0 (.t 1)⟩,
   ⟨some 10, none, .load none (.t 9)⟩,
   ⟨some 11, none, .un .not (.t 10)⟩,
   ⟨some 2, none, .move (.t 11)⟩])
  (.ret))
  (.skip)))
  (c60_2)))
noncomputable def c60 : AFn := { np := 1, nt := 23, results := [.t 2], keep := false, body := c60_b }
noncomputable def c61_b : ACode := .seq (.region none [⟨some 1, none, .boxRo (.t 0)⟩,
   ⟨some 2, none, .move (.c (.bool false))⟩])
  (.seq (.region none [⟨some 3, none, .fieldAddr 1 (.t 1)⟩,
   ⟨some 4, none, .load none (.t 3)⟩,
   ⟨some 5, none, .len false (.t 4)⟩,
   ⟨some 6, none, .bin .eql (.t 5) (.c (.int .i64 0))⟩,
   ⟨some 2, none, .move (.t 6)⟩])
  (.ret))
noncomputable def c61 : AFn := { np := 1, nt := 7, results := [.t 2], keep := false, body := c61_b }
noncomputable def c62_b : ACode := .seq (.region none [⟨some 1, none, .boxRo (.t 0)⟩,
   ⟨some 2, none, .move (.c (.bool false))⟩])
  (.seq (.region none [⟨some 3, none, .fieldAddr 0 (.t 1)⟩,
   ⟨some 4, none, .load none (.t 3)⟩,
   ⟨some 5, none, .un .not (.t 4)⟩,
   ⟨some 6, none, .move (.t 5)⟩,
   ⟨some 7, (some (6, true)), .fieldAddr 1 (.t 1)⟩,
   ⟨some 8, (some (6, true)), .load none (.t 7)⟩,
   ⟨some 9, (some (6, true)), .len false (.t 8)⟩,
   ⟨some 10, (some (6, true)), .bin .eql (.t 9) (.c (.int .i64 1))⟩,
   ⟨some 11, none, .pick (.t 6) (.t 10) (.c (.bool false))⟩,
   ⟨some 12, none, .move (.t 11)⟩,
   ⟨some 13, (some (12, true)), .fieldAddr 1 (.t 1)⟩,
   ⟨some 14, (some (12, true)), .load none (.t 13)⟩,
   ⟨some 15, (some (12, true)), .idxSl 1 (.t 14) (.c (.int .i64 0))⟩,
   ⟨some 16, (some (12, true)), .load none (.t 15)⟩,
   ⟨some 17, (some (12, true)), .bin .eql (.t 16) (.c (.int .u32 1))⟩,
   ⟨some 18, none, .pick (.t 12) (.t 17) (.c (.bool false))⟩,
   ⟨some 2, none, .move (.t 18)⟩])
  (.ret))
noncomputable def c62 : AFn := { np := 1, nt := 19, results := [.t 2], keep := false, body := c62_b }
noncomputable def c63_1 : ACode := .block 1 (.seq (.region none [⟨some 35, none, .move (.t 6)⟩,
   ⟨some 36, none, .move (.t 7)⟩,
   ⟨some 37, none, .call 69 [.t 35, .t 36]⟩,
   ⟨some 34, none, .move (.t 37)⟩,
   ⟨some 38, none, .extract (.t 34) 0⟩,
   ⟨some 39, none, .extract (.t 34) 1⟩,
   ⟨some 8, none, .move (.t 38)⟩,
   ⟨some 9, none, .move (.t 39)⟩])
  (.region none [⟨some 40, none, .move (.t 7)⟩,
   ⟨some 41, none, .move (.t 9)⟩,
   ⟨some 6, none, .move (.t 40)⟩,
   ⟨some 7, none, .move (.t 41)⟩]))
noncomputable def c63_2 : ACode := .mask (.n (.n (.n (.n .e true .e) false .e) false .e) false (.n (.n .e true .e) false (.n .e true .e))) (c63_1)
noncomputable def c63_3 : ACode := .seq (.seq (.region none [⟨some 21, none, .move (.t 7)⟩,
   ⟨some 22, none, .len false (.t 21)⟩,
   ⟨some 23, none, .bin .gtr (.t 22) (.c (.int .i64 0))⟩,
   ⟨some 24, none, .move (.t 23)⟩,
   ⟨some 25, (some (24, true)), .move (.t 6)⟩,
   ⟨some 26, (some (24, true)), .len false (.t 25)⟩,
   ⟨some 27, (some (24, true)), .bin .gtr (.t 26) (.c (.int .i64 2))⟩,
   ⟨some 28, (some (24, true)), .move (.t 27)⟩,
   ⟨some 29, (some (28, false)), .move (.t 7)⟩,
   ⟨some 30, (some (28, false)), .len false (.t 29)⟩,
   ⟨some 31, (some (28, false)), .bin .gtr (.t 30) (.c (.int .i64 2))⟩,
   ⟨some 32, (some (24, true)), .pick (.t 28) (.c (.bool true)) (.t 31)⟩,
   ⟨some 33, none, .pick (.t 24) (.t 32) (.c (.bool false))⟩])
  (.cond (.t 33) (.skip)
  (.exit 0)))
  (c63_2)
noncomputable def c63_4 : ACode := .block 3 (.region (some []) [⟨some 55, none, .move (.t 11)⟩,
   ⟨some 56, none, .move (.t 10)⟩,
   ⟨some 57, none, .move (.t 11)⟩,
   ⟨some 58, none, .bin .rem (.t 56) (.t 57)⟩,
   ⟨some 10, none, .move (.t 55)⟩,
   ⟨some 11, none, .move (.t 58)⟩])
noncomputable def c63_5 : ACode := .mask (.n (.n (.n .e false (.n .e true .e)) false .e) false (.n (.n .e true .e) false (.n (.n .e true .e) false .e))) (c63_4)
noncomputable def c63_6 : ACode := .seq (.seq (.region none [⟨some 53, none, .move (.t 11)⟩,
   ⟨some 54, none, .bin .gtr (.t 53) (.c (.int .u64 0))⟩])
  (.cond (.t 54) (.skip)
  (.exit 2)))
  (c63_5)
noncomputable def c63_7 : ACode := .seq (.region none [⟨some 59, none, .move (.t 10)⟩,
   ⟨some 60, none, .convInt .u32 (.t 59)⟩,
   ⟨some 61, none, .move (.t 10)⟩,
   ⟨some 62, none, .bin .shr (.t 61) (.c (.int .u64 32))⟩,
   ⟨some 63, none, .convInt .u32 (.t 62)⟩,
   ⟨some 64, none, .buildSlice 1 [.t 60, .t 63]⟩,
   ⟨some 65, none, .call 70 [.c (.bool false), .t 64]⟩,
   ⟨some 66, none, .extract (.t 65) 0⟩,
   ⟨some 67, none, .extract (.t 65) 1⟩,
   ⟨none, none, .store 2 (.t 4) (.t 66)⟩,
   ⟨some 5, none, .move (.t 67)⟩])
  (.ret)
noncomputable def c63_8 : ACode := .mask (.n .e false (.n (.n .e true .e) false (.n (.n .e true .e) false .e))) (c63_7)
noncomputable def c63_9 : ACode := .seq (.region none [⟨some 49, none, .move (.t 6)⟩,
   ⟨some 50, none, .call 71 [.t 49]⟩,
   ⟨some 51, none, .move (.t 7)⟩,
   ⟨some 52, none, .call 71 [.t 51]⟩,
   ⟨some 10, none, .move (.t 50)⟩,
   ⟨some 11, none, .move (.t 52)⟩])
  (.seq (.block 2 (.loop (.n (.n (.n .e false (.n .e true .e)) false .e) false (.n (.n .e true .e) false (.n (.n .e true .e) false .e))) (c63_6)))
  (c63_8))
noncomputable def c63_10 : ACode := .mask (.n (.n (.n (.n .e true .e) false .e) false .e) false (.n (.n .e true .e) false (.n .e true .e))) (c63_9)
noncomputable def c63_11 : ACode := .seq (.seq (.region none [⟨some 42, none, .move (.t 6)⟩,
   ⟨some 43, none, .len false (.t 42)⟩,
   ⟨some 44, none, .bin .gtr (.t 43) (.c (.int .i64 2))⟩])
  (.cond (.t 44) (.seq (.region none [⟨some 45, none, .move (.t 6)⟩,
   ⟨some 46, none, .call 70 [.c (.bool false), .t 45]⟩,
   ⟨some 47, none, .extract (.t 46) 0⟩,
   ⟨some 48, none, .extract (.t 46) 1⟩,
   ⟨none, none, .store 2 (.t 4) (.t 47)⟩,
   ⟨some 5, none, .move (.t 48)⟩])
  (.ret))
  (.skip)))
  (c63_10)
noncomputable def c63_12 : ACode := .mask (.n (.n (.n (.n .e true .e) false .e) false .e) false (.n (.n .e true .e) false (.n .e true .e))) (c63_11)
noncomputable def c63_13 : ACode := .seq (.region (some []) [⟨some 17, none, .fieldAddr 1 (.t 2)⟩,
   ⟨some 18, none, .load none (.t 17)⟩,
   ⟨some 19, none, .fieldAddr 1 (.t 3)⟩,
   ⟨some 20, none, .load none (.t 19)⟩,
   ⟨some 6, none, .move (.t 18)⟩,
   ⟨some 7, none, .move (.t 20)⟩])
  (.seq (.block 0 (.loop (.n (.n (.n (.n .e true .e) false .e) false .e) false (.n (.n .e true .e) false (.n .e true .e))) (c63_3)))
  (c63_12))
noncomputable def c63_14 : ACode := .mask (.n (.n (.n .e true .e) false .e) false (.n (.n .e true .e) true .e)) (c63_13)
noncomputable def c63_b : ACode := .seq (.region none [⟨some 2, none, .boxRo (.t 0)⟩,
   ⟨some 3, none, .boxRo (.t 1)⟩,
   ⟨some 4, none, .alloc [.bool false, .sl 1 [] .nil]⟩,
   ⟨some 5, none, .move (.c (.int .i64 0))⟩])
  (.seq (.seq (.region none [⟨some 12, none, .load (some 2) (.t 2)⟩,
   ⟨some 13, none, .load (some 2) (.t 3)⟩,
   ⟨some 14, none, .call 68 [.t 12, .t 13]⟩,
   ⟨some 15, none, .un .not (.t 14)⟩])
  (.cond (.t 15) (.seq (.region none [⟨some 16, none, .build [.bool false, .sl 1 [] .nil] []⟩,
   ⟨none, none, .store 2 (.t 4) (.t 16)⟩,
   ⟨some 5, none, .move (.c (.int .i64 1))⟩])
  (.ret))
  (.skip)))
  (c63_14))
noncomputable def c63 : AFn := { np := 2, nt := 68, results := [.cell 4 (some 2), .t 5], keep := false, body := c63_b }
noncomputable def c64_1 : ACode := .region none [⟨some 18, none, .bin .add (.t 8) (.c (.int .i64 1))⟩,
   ⟨some 8, none, .move (.t 18)⟩]
noncomputable def c64_2 : ACode := .mask (.n (.n (.n (.n .e true .e) false .e) true .e) true (.n (.n (.n .e true .e) false .e) false .e)) (c64_1)
noncomputable def c64_3 : ACode := .seq (.block 1 (.seq (.region none [⟨some 10, none, .move (.t 8)⟩,
   ⟨some 5, none, .move (.t 10)⟩])
  (.seq (.region none [⟨some 11, none, .move (.t 1)⟩,
   ⟨some 12, none, .move (.t 0)⟩,
   ⟨some 13, none, .move (.t 5)⟩,
   ⟨some 14, none, .idxSl 12 (.t 12) (.t 13)⟩,
   ⟨some 15, none, .load (some 12) (.t 14)⟩,
   ⟨some 16, none, .callV (.t 11) [.t 15]⟩])
  (.cond (.t 16) (.seq (.region none [⟨some 17, none, .move (.t 5)⟩,
   ⟨some 4, none, .move (.t 17)⟩])
  (.ret))
  (.skip)))))
  (c64_2)
noncomputable def c64_4 : ACode := .mask (.n (.n (.n (.n .e true .e) false .e) true .e) true (.n (.n (.n .e true .e) false .e) false .e)) (c64_3)
noncomputable def c64_5 : ACode := .seq (.region none [⟨some 9, none, .bin .lss (.t 8) (.t 7)⟩])
  (.seq (.cond (.t 9) (.skip)
  (.exit 0))
  (c64_4))
noncomputable def c64_6 : ACode := .seq (.region none [⟨some 4, none, .move (.c (.int .i64 (-1)))⟩])
  (.ret)
noncomputable def c64_7 : ACode := .mask .e (c64_6)
noncomputable def c64_b : ACode := .seq (.region none [⟨some 4, none, .move (.c (.int .i64 0))⟩])
  (.seq (.seq (.region none [⟨some 6, none, .move (.t 0)⟩,
   ⟨some 7, none, .len false (.t 6)⟩,
   ⟨some 8, none, .move (.c (.int .i64 0))⟩])
  (.block 0 (.loop (.n (.n (.n (.n .e true .e) false .e) true .e) true (.n (.n (.n .e true .e) false .e) false .e)) (c64_5))))
  (c64_7))
noncomputable def c64 : AFn := { np := 2, nt := 19, results := [.t 4], keep := false, body := c64_b }
noncomputable def c65_1 : ACode := .seq (.region none [⟨some 40, none, .move (.t 7)⟩,
   ⟨some 41, none, .bin .add (.c (.int .i64 1)) (.t 40)⟩,
   ⟨some 42, none, .sliceA 1 24 (.t 5) (some (.c (.int .i64 1))) (some (.t 41)) none⟩,
   ⟨some 43, none, .bytesToStr (.t 42)⟩,
   ⟨some 4, none, .move (.t 43)⟩])
  (.ret)
noncomputable def c65_2 : ACode := .mask (.n (.n (.n (.n .e true .e) false .e) false (.n .e true .e)) false .e) (c65_1)
noncomputable def c65_3 : ACode := .seq (.region none [⟨some 26, none, .move (.t 6)⟩,
   ⟨some 27, none, .call 73 [.t 26]⟩,
   ⟨some 7, none, .move (.t 27)⟩])
  (.seq (.region none [⟨some 28, none, .move (.t 7)⟩,
   ⟨some 29, none, .bin .add (.c (.int .i64 1)) (.t 28)⟩,
   ⟨some 30, none, .sliceA 1 24 (.t 5) (some (.c (.int .i64 1))) (some (.t 29)) none⟩,
   ⟨some 31, none, .move (.t 6)⟩,
   ⟨some 32, none, .call 74 [.t 30, .t 31]⟩])
  (.seq (.seq (.region none [⟨some 33, none, .move (.t 0)⟩,
   ⟨some 34, none, .bin .lss (.t 33) (.c (.int .i64 0))⟩])
  (.cond (.t 34) (.seq (.region none [⟨some 35, none, .idxArr 1 24 (.t 5) (.c (.int .i64 0))⟩,
   ⟨none, none, .store 1 (.t 35) (.c (.int .u8 45))⟩])
  (.seq (.region none [⟨some 36, none, .move (.t 7)⟩,
   ⟨some 37, none, .bin .add (.c (.int .i64 1)) (.t 36)⟩,
   ⟨some 38, none, .sliceA 1 24 (.t 5) none (some (.t 37)) none⟩,
   ⟨some 39, none, .bytesToStr (.t 38)⟩,
   ⟨some 4, none, .move (.t 39)⟩])
  (.ret)))
  (.skip)))
  (c65_2)))
noncomputable def c65_4 : ACode := .mask (.n (.n .e false (.n .e true .e)) true (.n .e false (.n .e true .e))) (c65_3)
noncomputable def c65_5 : ACode := .seq (.region none [⟨some 5, none, .alloc [.int .u8 0, .int .u8 0, .int .u8 0, .int .u8 0, .int .u8 0, .int .u8 0, .int .u8 0, .int .u8 0, .int .u8 0, .int .u8 0, .int .u8 0, .int .u8 0, .int .u8 0, .int .u8 0, .int .u8 0, .int .u8 0, .int .u8 0, .int .u8 0, .int .u8 0, .int .u8 0, .int .u8 0, .int .u8 0, .int .u8 0, .int .u8 0]⟩])
  (.seq (.region none [⟨some 20, none, .move (.t 0)⟩,
   ⟨some 21, none, .convInt .u64 (.t 20)⟩,
   ⟨some 6, none, .move (.t 21)⟩])
  (.seq (.seq (.region none [⟨some 22, none, .move (.t 0)⟩,
   ⟨some 23, none, .bin .lss (.t 22) (.c (.int .i64 0))⟩])
  (.cond (.t 23) (.region none [⟨some 24, none, .move (.t 6)⟩,
   ⟨some 25, none, .un .neg (.t 24)⟩,
   ⟨some 6, none, .move (.t 25)⟩])
  (.skip)))
  (c65_4)))
noncomputable def c65_6 : ACode := .mask (.n .e true .e) (c65_5)
noncomputable def c65_7 : ACode := .seq (.region none [⟨some 45, none, .move (.t 0)⟩,
   ⟨some 46, none, .convInt .u64 (.t 45)⟩,
   ⟨some 47, none, .move (.t 1)⟩,
   ⟨some 48, none, .move (.t 0)⟩,
   ⟨some 49, none, .bin .lss (.t 48) (.c (.int .i64 0))⟩,
   ⟨some 50, none, .call 75 [.c (.sl 1 [] .nil), .t 46, .t 47, .t 49, .c (.bool false)]⟩,
   ⟨some 44, none, .move (.t 50)⟩,
   ⟨some 51, none, .extract (.t 44) 0⟩,
   ⟨some 52, none, .extract (.t 44) 1⟩,
   ⟨some 8, none, .move (.t 51)⟩,
   ⟨some 9, none, .move (.t 52)⟩])
  (.seq (.region none [⟨some 53, none, .move (.t 9)⟩,
   ⟨some 4, none, .move (.t 53)⟩])
  (.ret))
noncomputable def c65_8 : ACode := .mask (.n (.n .e true .e) true .e) (c65_7)
noncomputable def c65_b : ACode := .seq (.region none [⟨some 4, none, .move (.c (.str []))⟩])
  (.seq (.seq (.region none [⟨some 10, none, .move (.t 1)⟩,
   ⟨some 11, none, .bin .eql (.t 10) (.c (.int .i64 10))⟩])
  (.cond (.t 11) (.seq (.seq (.region none [⟨some 12, none, .move (.t 0)⟩,
   ⟨some 13, none, .bin .leq (.c (.int .i64 0)) (.t 12)⟩,
   ⟨some 14, none, .move (.t 13)⟩,
   ⟨some 15, (some (14, true)), .move (.t 0)⟩,
   ⟨some 16, (some (14, true)), .bin .lss (.t 15) (.c (.int .i64 100))⟩,
   ⟨some 17, none, .pick (.t 14) (.t 16) (.c (.bool false))⟩])
  (.cond (.t 17) (.seq (.region none [⟨some 18, none, .move (.t 0)⟩,
   ⟨some 19, none, .call 72 [.t 18]⟩,
   ⟨some 4, none, .move (.t 19)⟩])
  (.ret))
  (.skip)))
  (c65_6))
  (.skip)))
  (c65_8))
noncomputable def c65 : AFn := { np := 2, nt := 54, results := [.t 4], keep := false, body := c65_b }
noncomputable def c66_1 : ACode := .region none [⟨some 58, none, .move (.t 6)⟩,
   ⟨some 59, none, .bin .mul (.t 58) (.c (.int .i64 10))⟩,
   ⟨some 60, none, .move (.t 8)⟩,
   ⟨some 61, none, .convInt .i64 (.t 60)⟩,
   ⟨some 62, none, .bin .add (.t 59) (.t 61)⟩,
   ⟨some 6, none, .move (.t 62)⟩]
noncomputable def c66_2 : ACode := .mask (.n (.n (.n (.n (.n .e false (.n .e true .e)) false .e) false .e) false (.n (.n (.n .e false (.n .e true .e)) false .e) true .e)) false (.n (.n (.n (.n .e false (.n .e true .e)) true .e) false .e) false (.n .e true .e))) (c66_1)
noncomputable def c66_3 : ACode := .region none [⟨some 63, none, .bin .add (.t 49) (.c (.int .i64 1))⟩,
   ⟨some 49, none, .move (.t 63)⟩]
noncomputable def c66_4 : ACode := .mask (.n (.n (.n (.n (.n .e false (.n .e true .e)) false .e) false .e) false (.n (.n (.n .e false (.n .e true .e)) false .e) true .e)) false (.n (.n (.n (.n .e false (.n .e true .e)) false .e) false .e) false (.n .e true .e))) (c66_3)
noncomputable def c66_5 : ACode := .seq (.block 1 (.seq (.region none [⟨some 51, none, .idxSl 1 (.t 47) (.t 49)⟩,
   ⟨some 52, none, .load none (.t 51)⟩,
   ⟨some 8, none, .move (.t 52)⟩])
  (.seq (.region none [⟨some 53, none, .move (.t 8)⟩,
   ⟨some 54, none, .bin .sub (.t 53) (.c (.int .u8 48))⟩,
   ⟨some 8, none, .move (.t 54)⟩])
  (.seq (.seq (.region none [⟨some 55, none, .move (.t 8)⟩,
   ⟨some 56, none, .bin .gtr (.t 55) (.c (.int .u8 9))⟩])
  (.cond (.t 56) (.seq (.region none [⟨some 57, none, .mkIface 126 (.c (.int .i64 2))⟩,
   ⟨some 2, none, .move (.c (.int .i64 0))⟩,
   ⟨some 3, none, .move (.t 57)⟩])
  (.ret))
  (.skip)))
  (c66_2)))))
  (c66_4)
noncomputable def c66_6 : ACode := .mask (.n (.n (.n (.n (.n .e false (.n .e true .e)) false .e) false .e) false (.n (.n (.n .e false (.n .e true .e)) false .e) true .e)) false (.n (.n (.n (.n .e false (.n .e true .e)) false .e) false .e) false (.n .e true .e))) (c66_5)
noncomputable def c66_7 : ACode := .seq (.region none [⟨some 50, none, .bin .lss (.t 49) (.t 48)⟩])
  (.seq (.cond (.t 50) (.skip)
  (.exit 0))
  (c66_6))
noncomputable def c66_8 : ACode := .seq (.region none [⟨some 69, none, .move (.t 6)⟩,
   ⟨some 2, none, .move (.t 69)⟩,
   ⟨some 3, none, .move (.c .nili)⟩])
  (.ret)
noncomputable def c66_9 : ACode := .mask (.n .e false (.n .e false (.n .e true .e))) (c66_8)
noncomputable def c66_10 : ACode := .seq (.seq (.region none [⟨some 64, none, .move (.t 5)⟩,
   ⟨some 65, none, .idxStr (.t 64) (.c (.int .i64 0))⟩,
   ⟨some 66, none, .bin .eql (.t 65) (.c (.int .u8 45))⟩])
  (.cond (.t 66) (.region none [⟨some 67, none, .move (.t 6)⟩,
   ⟨some 68, none, .un .neg (.t 67)⟩,
   ⟨some 6, none, .move (.t 68)⟩])
  (.skip)))
  (c66_9)
noncomputable def c66_11 : ACode := .mask (.n (.n .e false (.n .e true .e)) false (.n .e false (.n .e true .e))) (c66_10)
noncomputable def c66_12 : ACode := .seq (.region none [⟨some 6, none, .move (.c (.int .i64 0))⟩])
  (.seq (.seq (.region none [⟨some 46, none, .move (.t 0)⟩,
   ⟨some 47, none, .strToBytes (.t 46)⟩,
   ⟨some 48, none, .len false (.t 47)⟩,
   ⟨some 49, none, .move (.c (.int .i64 0))⟩])
  (.block 0 (.loop (.n (.n (.n (.n (.n .e false (.n .e true .e)) false .e) false .e) false (.n (.n (.n .e false (.n .e true .e)) false .e) true .e)) false (.n (.n (.n (.n .e false (.n .e true .e)) false .e) false .e) false (.n .e true .e))) (c66_7))))
  (c66_11))
noncomputable def c66_13 : ACode := .mask (.n (.n .e false (.n .e true .e)) true .e) (c66_12)
noncomputable def c66_14 : ACode := .seq (.region none [⟨some 71, none, .move (.t 0)⟩,
   ⟨some 72, none, .call 76 [.t 71, .c (.int .i64 10), .c (.int .i64 0)]⟩,
   ⟨some 70, none, .move (.t 72)⟩,
   ⟨some 73, none, .extract (.t 70) 0⟩,
   ⟨some 74, none, .extract (.t 70) 1⟩,
   ⟨some 9, none, .move (.t 73)⟩,
   ⟨some 10, none, .move (.t 74)⟩])
  (.seq (.region none [⟨some 75, none, .move (.t 9)⟩,
   ⟨some 76, none, .move (.t 10)⟩,
   ⟨some 2, none, .move (.t 75)⟩,
   ⟨some 3, none, .move (.t 76)⟩])
  (.ret))
noncomputable def c66_15 : ACode := .mask (.n .e true .e) (c66_14)
noncomputable def c66_b : ACode := .seq (.region none [⟨some 2, none, .move (.c (.int .i64 0))⟩,
   ⟨some 3, none, .move (.c .nili)⟩])
  (.seq (.region none [⟨some 11, none, .move (.t 0)⟩,
   ⟨some 12, none, .len true (.t 11)⟩,
   ⟨some 4, none, .move (.t 12)⟩])
  (.seq (.seq (.region none [⟨some 13, none, .move (.c (.bool false))⟩,
   ⟨some 14, (some (13, true)), .move (.t 4)⟩,
   ⟨some 15, (some (13, true)), .bin .lss (.c (.int .i64 0)) (.t 14)⟩,
   ⟨some 16, (some (13, true)), .move (.t 15)⟩,
   ⟨some 17, (some (16, true)), .move (.t 4)⟩,
   ⟨some 18, (some (16, true)), .bin .lss (.t 17) (.c (.int .i64 10))⟩,
   ⟨some 19, (some (13, true)), .pick (.t 16) (.t 18) (.c (.bool false))⟩,
   ⟨some 20, none, .pick (.t 13) (.t 19) (.c (.bool false))⟩,
   ⟨some 21, none, .move (.t 20)⟩,
   ⟨some 22, (some (21, false)), .move (.c (.bool true))⟩,
   ⟨some 23, (some (22, true)), .move (.t 4)⟩,
   ⟨some 24, (some (22, true)), .bin .lss (.c (.int .i64 0)) (.t 23)⟩,
   ⟨some 25, (some (22, true)), .move (.t 24)⟩,
   ⟨some 26, (some (25, true)), .move (.t 4)⟩,
   ⟨some 27, (some (25, true)), .bin .lss (.t 26) (.c (.int .i64 19))⟩,
   ⟨some 28, (some (22, true)), .pick (.t 25) (.t 27) (.c (.bool false))⟩,
   ⟨some 29, (some (21, false)), .pick (.t 22) (.t 28) (.c (.bool false))⟩,
   ⟨some 30, none, .pick (.t 21) (.c (.bool true)) (.t 29)⟩])
  (.cond (.t 30) (.seq (.region none [⟨some 31, none, .move (.t 0)⟩,
   ⟨some 5, none, .move (.t 31)⟩])
  (.seq (.seq (.region none [⟨some 32, none, .move (.t 0)⟩,
   ⟨some 33, none, .idxStr (.t 32) (.c (.int .i64 0))⟩,
   ⟨some 34, none, .bin .eql (.t 33) (.c (.int .u8 45))⟩,
   ⟨some 35, none, .move (.t 34)⟩,
   ⟨some 36, (some (35, false)), .move (.t 0)⟩,
   ⟨some 37, (some (35, false)), .idxStr (.t 36) (.c (.int .i64 0))⟩,
   ⟨some 38, (some (35, false)), .bin .eql (.t 37) (.c (.int .u8 43))⟩,
   ⟨some 39, none, .pick (.t 35) (.c (.bool true)) (.t 38)⟩])
  (.cond (.t 39) (.seq (.region none [⟨some 40, none, .move (.t 0)⟩,
   ⟨some 41, none, .subStr (.t 40) (some (.c (.int .i64 1))) none⟩,
   ⟨some 0, none, .move (.t 41)⟩])
  (.seq (.region none [⟨some 42, none, .move (.t 0)⟩,
   ⟨some 43, none, .len true (.t 42)⟩,
   ⟨some 44, none, .bin .lss (.t 43) (.c (.int .i64 1))⟩])
  (.cond (.t 44) (.seq (.region none [⟨some 45, none, .mkIface 126 (.c (.int .i64 2))⟩,
   ⟨some 2, none, .move (.c (.int .i64 0))⟩,
   ⟨some 3, none, .move (.t 45)⟩])
  (.ret))
  (.skip))))
  (.skip)))
  (c66_13)))
  (.skip)))
  (c66_15)))
noncomputable def c66 : AFn := { np := 1, nt := 77, results := [.t 2, .t 3], keep := false, body := c66_b }
noncomputable def c67_1 : ACode := .seq (.region none [⟨some 42, none, .move (.t 4)⟩,
   ⟨some 10, none, .move (.t 42)⟩])
  (.ret)
noncomputable def c67_2 : ACode := .mask (.n .e false (.n (.n .e true .e) false .e)) (c67_1)
noncomputable def c67_b : ACode := .seq (.region none [⟨some 10, none, .move (.c .nili)⟩])
  (.seq (.seq (.region none [⟨some 11, none, .move (.t 4)⟩])
  (.block 0 (.seq (.region none [⟨some 13, none, .mkIface 126 (.c (.int .i64 2))⟩,
   ⟨some 14, none, .eq false .iface (.t 11) (.t 13)⟩,
   ⟨some 12, none, .move (.t 14)⟩])
  (.cond (.t 12) (.seq (.region none [⟨some 15, none, .move (.t 0)⟩,
   ⟨some 16, none, .move (.t 1)⟩,
   ⟨some 17, none, .call 77 [.t 15, .t 16]⟩,
   ⟨some 18, none, .mkIface 129 (.t 17)⟩,
   ⟨some 10, none, .move (.t 18)⟩])
  (.ret))
  (.seq (.region none [⟨some 20, none, .mkIface 126 (.c (.int .i64 1))⟩,
   ⟨some 21, none, .eq false .iface (.t 11) (.t 20)⟩,
   ⟨some 19, none, .move (.t 21)⟩])
  (.cond (.t 19) (.seq (.region none [⟨some 22, none, .move (.t 0)⟩,
   ⟨some 23, none, .move (.t 1)⟩,
   ⟨some 24, none, .call 78 [.t 22, .t 23]⟩,
   ⟨some 25, none, .mkIface 129 (.t 24)⟩,
   ⟨some 10, none, .move (.t 25)⟩])
  (.ret))
  (.seq (.region none [⟨some 27, none, .mkIface 126 (.c (.int .i64 3))⟩,
   ⟨some 28, none, .eq false .iface (.t 11) (.t 27)⟩,
   ⟨some 26, none, .move (.t 28)⟩])
  (.cond (.t 26) (.seq (.region none [⟨some 29, none, .move (.t 0)⟩,
   ⟨some 30, none, .move (.t 1)⟩,
   ⟨some 31, none, .move (.t 2)⟩,
   ⟨some 32, none, .call 79 [.t 29, .t 30, .t 31]⟩,
   ⟨some 33, none, .mkIface 129 (.t 32)⟩,
   ⟨some 10, none, .move (.t 33)⟩])
  (.ret))
  (.seq (.region none [⟨some 35, none, .mkIface 126 (.c (.int .i64 4))⟩,
   ⟨some 36, none, .eq false .iface (.t 11) (.t 35)⟩,
   ⟨some 34, none, .move (.t 36)⟩])
  (.cond (.t 34) (.seq (.region none [⟨some 37, none, .move (.t 0)⟩,
   ⟨some 38, none, .move (.t 1)⟩,
   ⟨some 39, none, .move (.t 3)⟩,
   ⟨some 40, none, .call 80 [.t 37, .t 38, .t 39]⟩,
   ⟨some 41, none, .mkIface 129 (.t 40)⟩,
   ⟨some 10, none, .move (.t 41)⟩])
  (.ret))
  (.skip)))))))))))
  (c67_2))
noncomputable def c67 : AFn := { np := 5, nt := 43, results := [.t 10], keep := false, body := c67_b }
noncomputable def c68_b : ACode := .seq (.region none [⟨some 2, none, .boxRo (.t 0)⟩,
   ⟨some 3, none, .boxRo (.t 1)⟩,
   ⟨some 4, none, .move (.c (.bool false))⟩])
  (.seq (.region none [⟨some 5, none, .load (some 2) (.t 2)⟩,
   ⟨some 6, none, .call 60 [.t 5]⟩,
   ⟨some 7, none, .move (.t 6)⟩,
   ⟨some 8, (some (7, true)), .load (some 2) (.t 3)⟩,
   ⟨some 9, (some (7, true)), .call 60 [.t 8]⟩,
   ⟨some 10, none, .pick (.t 7) (.t 9) (.c (.bool false))⟩,
   ⟨some 4, none, .move (.t 10)⟩])
  (.ret))
noncomputable def c68 : AFn := { np := 2, nt := 11, results := [.t 4], keep := false, body := c68_b }
noncomputable def c69_1 : ACode := .region none [⟨some 83, none, .bin .add (.t 64) (.c (.int .i64 1))⟩,
   ⟨some 64, none, .move (.t 83)⟩]
noncomputable def c69_2 : ACode := .mask (.n (.n (.n (.n (.n (.n (.n .e true .e) false .e) false .e) false .e) false (.n .e true .e)) false (.n (.n .e true .e) false .e)) false (.n (.n (.n (.n (.n (.n .e true .e) false .e) false .e) true .e) false .e) false (.n (.n .e true .e) false .e))) (c69_1)
noncomputable def c69_3 : ACode := .seq (.block 1 (.seq (.region none [⟨some 66, none, .move (.t 64)⟩,
   ⟨some 12, none, .move (.t 66)⟩])
  (.seq (.region none [⟨some 67, none, .move (.t 11)⟩,
   ⟨some 68, none, .len false (.t 67)⟩,
   ⟨some 69, none, .bin .sub (.t 68) (.c (.int .i64 1))⟩,
   ⟨some 70, none, .move (.t 12)⟩,
   ⟨some 71, none, .bin .sub (.t 69) (.t 70)⟩,
   ⟨some 13, none, .move (.t 71)⟩])
  (.region none [⟨some 72, none, .move (.t 11)⟩,
   ⟨some 73, none, .move (.t 13)⟩,
   ⟨some 74, none, .move (.t 10)⟩,
   ⟨some 75, none, .move (.t 13)⟩,
   ⟨some 76, none, .move (.t 9)⟩,
   ⟨some 77, none, .move (.t 10)⟩,
   ⟨some 78, none, .move (.t 13)⟩,
   ⟨some 79, none, .move (.t 9)⟩,
   ⟨some 80, none, .call 87 [.t 77, .t 78, .t 79]⟩,
   ⟨some 81, none, .call 86 [.t 74, .t 75, .t 76, .t 80]⟩,
   ⟨some 82, none, .idxSl 1 (.t 72) (.t 73)⟩,
   ⟨none, none, .store 1 (.t 82) (.t 81)⟩]))))
  (c69_2)
noncomputable def c69_4 : ACode := .mask (.n (.n (.n (.n (.n (.n (.n .e true .e) false .e) false .e) false .e) false (.n .e true .e)) false (.n (.n .e true .e) false .e)) false (.n (.n (.n (.n (.n (.n .e true .e) false .e) false .e) true .e) false .e) false (.n (.n .e true .e) false .e))) (c69_3)
noncomputable def c69_5 : ACode := .seq (.region none [⟨some 65, none, .bin .lss (.t 64) (.t 63)⟩])
  (.seq (.cond (.t 65) (.skip)
  (.exit 0))
  (c69_4))
noncomputable def c69_6 : ACode := .seq (.region none [⟨some 85, none, .move (.t 10)⟩,
   ⟨some 86, none, .call 83 [.t 85]⟩,
   ⟨some 87, none, .move (.t 8)⟩,
   ⟨some 88, none, .call 88 [.t 86, .t 87]⟩,
   ⟨some 84, none, .move (.t 88)⟩,
   ⟨some 89, none, .extract (.t 84) 0⟩,
   ⟨some 90, none, .extract (.t 84) 1⟩,
   ⟨some 14, none, .move (.t 89)⟩,
   ⟨some 15, none, .move (.t 90)⟩])
  (.seq (.region none [⟨some 91, none, .move (.t 11)⟩,
   ⟨some 92, none, .call 83 [.t 91]⟩,
   ⟨some 93, none, .move (.t 14)⟩,
   ⟨some 4, none, .move (.t 92)⟩,
   ⟨some 5, none, .move (.t 93)⟩])
  (.ret))
noncomputable def c69_7 : ACode := .mask (.n (.n (.n .e false (.n .e true .e)) false .e) false (.n (.n (.n .e true .e) false .e) false (.n (.n .e true .e) false .e))) (c69_6)
noncomputable def c69_8 : ACode := .seq (.region none [⟨some 36, none, .move (.t 1)⟩,
   ⟨some 37, none, .move (.t 1)⟩,
   ⟨some 38, none, .len false (.t 37)⟩,
   ⟨some 39, none, .bin .sub (.t 38) (.c (.int .i64 1))⟩,
   ⟨some 40, none, .idxSl 1 (.t 36) (.t 39)⟩,
   ⟨some 41, none, .load none (.t 40)⟩,
   ⟨some 42, none, .call 84 [.t 41]⟩,
   ⟨some 8, none, .move (.t 42)⟩])
  (.seq (.region none [⟨some 43, none, .move (.t 1)⟩,
   ⟨some 44, none, .move (.t 8)⟩,
   ⟨some 45, none, .call 85 [.t 43, .t 44]⟩,
   ⟨some 9, none, .move (.t 45)⟩])
  (.seq (.region none [⟨some 46, none, .move (.t 0)⟩,
   ⟨some 47, none, .len false (.t 46)⟩,
   ⟨some 48, none, .bin .add (.t 47) (.c (.int .i64 1))⟩,
   ⟨some 49, none, .makeSlice [.int .u32 0] 4 (.t 48) (.t 48)⟩,
   ⟨some 10, none, .move (.t 49)⟩])
  (.seq (.region none [⟨some 50, none, .move (.t 10)⟩,
   ⟨some 51, none, .move (.t 0)⟩,
   ⟨some 52, none, .move (.t 8)⟩,
   ⟨some 53, none, .call 85 [.t 51, .t 52]⟩,
   ⟨some 54, none, .copy 1 (.t 50) (.t 53)⟩])
  (.seq (.region none [⟨some 55, none, .move (.t 0)⟩,
   ⟨some 56, none, .len false (.t 55)⟩,
   ⟨some 57, none, .move (.t 1)⟩,
   ⟨some 58, none, .len false (.t 57)⟩,
   ⟨some 59, none, .bin .sub (.t 56) (.t 58)⟩,
   ⟨some 60, none, .bin .add (.t 59) (.c (.int .i64 1))⟩,
   ⟨some 61, none, .makeSlice [.int .u32 0] 4 (.t 60) (.t 60)⟩,
   ⟨some 11, none, .move (.t 61)⟩])
  (.seq (.seq (.region none [⟨some 62, none, .move (.t 11)⟩,
   ⟨some 63, none, .len false (.t 62)⟩,
   ⟨some 64, none, .move (.c (.int .i64 0))⟩])
  (.block 0 (.loop (.n (.n (.n (.n (.n (.n (.n .e true .e) false .e) false .e) false .e) false (.n .e true .e)) false (.n (.n .e true .e) false .e)) false (.n (.n (.n (.n (.n (.n .e true .e) false .e) false .e) true .e) false .e) false (.n (.n .e true .e) false .e))) (c69_5))))
  (c69_7))))))
noncomputable def c69_9 : ACode := .mask (.n (.n .e true .e) true .e) (c69_8)
noncomputable def c69_10 : ACode := .seq (.seq (.region none [⟨some 21, none, .move (.t 1)⟩,
   ⟨some 22, none, .len false (.t 21)⟩,
   ⟨some 23, none, .bin .eql (.t 22) (.c (.int .i64 1))⟩])
  (.cond (.t 23) (.seq (.region none [⟨some 25, none, .move (.t 0)⟩,
   ⟨some 26, none, .move (.t 1)⟩,
   ⟨some 27, none, .idxSl 1 (.t 26) (.c (.int .i64 0))⟩,
   ⟨some 28, none, .load none (.t 27)⟩,
   ⟨some 29, none, .call 82 [.t 25, .t 28]⟩,
   ⟨some 24, none, .move (.t 29)⟩,
   ⟨some 30, none, .extract (.t 24) 0⟩,
   ⟨some 31, none, .extract (.t 24) 1⟩,
   ⟨some 6, none, .move (.t 30)⟩,
   ⟨some 7, none, .move (.t 31)⟩])
  (.seq (.region none [⟨some 32, none, .move (.t 6)⟩,
   ⟨some 33, none, .move (.t 7)⟩,
   ⟨some 34, none, .buildSlice 1 [.t 33]⟩,
   ⟨some 35, none, .call 83 [.t 34]⟩,
   ⟨some 4, none, .move (.t 32)⟩,
   ⟨some 5, none, .move (.t 35)⟩])
  (.ret)))
  (.skip)))
  (c69_9)
noncomputable def c69_11 : ACode := .mask (.n (.n .e true .e) true .e) (c69_10)
noncomputable def c69_b : ACode := .seq (.region none [⟨some 4, none, .move (.c (.sl 1 [] .nil))⟩,
   ⟨some 5, none, .move (.c (.sl 1 [] .nil))⟩])
  (.seq (.seq (.region none [⟨some 16, none, .move (.t 0)⟩,
   ⟨some 17, none, .move (.t 1)⟩,
   ⟨some 18, none, .call 81 [.t 16, .t 17]⟩,
   ⟨some 19, none, .bin .lss (.t 18) (.c (.int .i64 0))⟩])
  (.cond (.t 19) (.seq (.region none [⟨some 20, none, .move (.t 0)⟩,
   ⟨some 4, none, .move (.c (.sl 1 [] .nil))⟩,
   ⟨some 5, none, .move (.t 20)⟩])
  (.ret))
  (.skip)))
  (c69_11))
noncomputable def c69 : AFn := { np := 2, nt := 94, results := [.t 4, .t 5], keep := false, body := c69_b }
noncomputable def c70_1 : ACode := .seq (.region none [⟨some 13, none, .move (.t 1)⟩,
   ⟨some 14, none, .len false (.t 13)⟩,
   ⟨some 15, none, .makeSlice [.int .u32 0] 4 (.t 14) (.t 14)⟩,
   ⟨some 6, none, .move (.t 15)⟩])
  (.seq (.region none [⟨some 16, none, .move (.t 6)⟩,
   ⟨some 17, none, .move (.t 1)⟩,
   ⟨some 18, none, .copy 1 (.t 16) (.t 17)⟩])
  (.seq (.region none [⟨some 19, none, .move (.t 0)⟩,
   ⟨some 20, none, .move (.t 19)⟩,
   ⟨some 21, (some (20, true)), .move (.t 1)⟩,
   ⟨some 22, (some (20, true)), .len false (.t 21)⟩,
   ⟨some 23, (some (20, true)), .bin .gtr (.t 22) (.c (.int .i64 0))⟩,
   ⟨some 24, none, .pick (.t 20) (.t 23) (.c (.bool false))⟩,
   ⟨some 25, none, .move (.t 6)⟩,
   ⟨some 26, none, .build [.bool false, .sl 1 [] .nil] [(0, 1, .t 24), (1, 1, .t 25)]⟩,
   ⟨none, none, .store 2 (.t 4) (.t 26)⟩,
   ⟨some 5, none, .move (.c (.int .i64 0))⟩])
  (.ret)))
noncomputable def c70_2 : ACode := .mask (.n (.n .e true .e) true (.n (.n .e true .e) false .e)) (c70_1)
noncomputable def c70_b : ACode := .seq (.region none [⟨some 4, none, .alloc [.bool false, .sl 1 [] .nil]⟩,
   ⟨some 5, none, .move (.c (.int .i64 0))⟩])
  (.seq (.region none [⟨some 7, none, .move (.t 1)⟩,
   ⟨some 8, none, .call 83 [.t 7]⟩,
   ⟨some 1, none, .move (.t 8)⟩])
  (.seq (.seq (.region none [⟨some 9, none, .move (.t 1)⟩,
   ⟨some 10, none, .len false (.t 9)⟩,
   ⟨some 11, none, .bin .gtr (.t 10) (.c (.int .i64 128))⟩])
  (.cond (.t 11) (.seq (.region none [⟨some 12, none, .build [.bool false, .sl 1 [] .nil] []⟩,
   ⟨none, none, .store 2 (.t 4) (.t 12)⟩,
   ⟨some 5, none, .move (.c (.int .i64 2))⟩])
  (.ret))
  (.skip)))
  (c70_2)))
noncomputable def c70 : AFn := { np := 2, nt := 27, results := [.cell 4 (some 2), .t 5], keep := false, body := c70_b }
noncomputable def c71_1 : ACode := .region none [⟨some 20, none, .bin .add (.t 7) (.c (.int .i64 1))⟩,
   ⟨some 7, none, .move (.t 20)⟩]
noncomputable def c71_2 : ACode := .mask (.n (.n (.n (.n .e true .e) true .e) false .e) true (.n .e false (.n .e true .e))) (c71_1)
noncomputable def c71_3 : ACode := .seq (.block 1 (.seq (.region none [⟨some 9, none, .move (.t 7)⟩,
   ⟨some 4, none, .move (.t 9)⟩])
  (.region none [⟨some 10, none, .move (.t 3)⟩,
   ⟨some 11, none, .move (.t 0)⟩,
   ⟨some 12, none, .move (.t 4)⟩,
   ⟨some 13, none, .idxSl 1 (.t 11) (.t 12)⟩,
   ⟨some 14, none, .load none (.t 13)⟩,
   ⟨some 15, none, .convInt .u64 (.t 14)⟩,
   ⟨some 16, none, .move (.t 4)⟩,
   ⟨some 17, none, .bin .mul (.c (.int .i64 32)) (.t 16)⟩,
   ⟨some 18, none, .bin .shl (.t 15) (.t 17)⟩,
   ⟨some 19, none, .bin .or (.t 10) (.t 18)⟩,
   ⟨some 3, none, .move (.t 19)⟩])))
  (c71_2)
noncomputable def c71_4 : ACode := .mask (.n (.n (.n (.n .e true .e) true .e) false .e) true (.n .e false (.n .e true .e))) (c71_3)
noncomputable def c71_5 : ACode := .seq (.region none [⟨some 8, none, .bin .lss (.t 7) (.t 6)⟩])
  (.seq (.cond (.t 8) (.skip)
  (.exit 0))
  (c71_4))
noncomputable def c71_6 : ACode := .seq (.region none [⟨some 21, none, .move (.t 3)⟩,
   ⟨some 2, none, .move (.t 21)⟩])
  (.ret)
noncomputable def c71_7 : ACode := .mask (.n (.n (.n .e true .e) false .e) false .e) (c71_6)
noncomputable def c71_b : ACode := .seq (.region none [⟨some 2, none, .move (.c (.int .u64 0))⟩])
  (.seq (.region none [⟨some 3, none, .move (.c (.int .u64 0))⟩])
  (.seq (.seq (.region none [⟨some 5, none, .move (.t 0)⟩,
   ⟨some 6, none, .len false (.t 5)⟩,
   ⟨some 7, none, .move (.c (.int .i64 0))⟩])
  (.block 0 (.loop (.n (.n (.n (.n .e true .e) true .e) false .e) true (.n .e false (.n .e true .e))) (c71_5))))
  (c71_7)))
noncomputable def c71 : AFn := { np := 1, nt := 22, results := [.t 2], keep := false, body := c71_b }
noncomputable def c72_1 : ACode := .seq (.region none [⟨some 9, none, .move (.t 0)⟩,
   ⟨some 10, none, .bin .mul (.t 9) (.c (.int .i64 2))⟩,
   ⟨some 11, none, .move (.t 0)⟩,
   ⟨some 12, none, .bin .mul (.t 11) (.c (.int .i64 2))⟩,
   ⟨some 13, none, .bin .add (.t 12) (.c (.int .i64 2))⟩,
   ⟨some 14, none, .subStr (.c (.str [48, 48, 48, 49, 48, 50, 48, 51, 48, 52, 48, 53, 48, 54, 48, 55, 48, 56, 48, 57, 49, 48, 49, 49, 49, 50, 49, 51, 49, 52, 49, 53, 49, 54, 49, 55, 49, 56, 49, 57, 50, 48, 50, 49, 50, 50, 50, 51, 50, 52, 50, 53, 50, 54, 50, 55, 50, 56, 50, 57, 51, 48, 51, 49, 51, 50, 51, 51, 51, 52, 51, 53, 51, 54, 51, 55, 51, 56, 51, 57, 52, 48, 52, 49, 52, 50, 52, 51, 52, 52, 52, 53, 52, 54, 52, 55, 52, 56, 52, 57, 53, 48, 53, 49, 53, 50, 53, 51, 53, 52, 53, 53, 53, 54, 53, 55, 53, 56, 53, 57, 54, 48, 54, 49, 54, 50, 54, 51, 54, 52, 54, 53, 54, 54, 54, 55, 54, 56, 54, 57, 55, 48, 55, 49, 55, 50, 55, 51, 55, 52, 55, 53, 55, 54, 55, 55, 55, 56, 55, 57, 56, 48, 56, 49, 56, 50, 56, 51, 56, 52, 56, 53, 56, 54, 56, 55, 56, 56, 56, 57, 57, 48, 57, 49, 57, 50, 57, 51, 57, 52, 57, 53, 57, 54, 57, 55, 57, 56, 57, 57])) (some (.t 10)) (some (.t 13))⟩,
   ⟨some 2, none, .move (.t 14)⟩])
  (.ret)
noncomputable def c72_2 : ACode := .mask (.n .e true .e) (c72_1)
noncomputable def c72_b : ACode := .seq (.region none [⟨some 2, none, .move (.c (.str []))⟩])
  (.seq (.seq (.region none [⟨some 3, none, .move (.t 0)⟩,
   ⟨some 4, none, .bin .lss (.t 3) (.c (.int .i64 10))⟩])
  (.cond (.t 4) (.seq (.region none [⟨some 5, none, .move (.t 0)⟩,
   ⟨some 6, none, .move (.t 0)⟩,
   ⟨some 7, none, .bin .add (.t 6) (.c (.int .i64 1))⟩,
   ⟨some 8, none, .subStr (.c (.str [48, 49, 50, 51, 52, 53, 54, 55, 56, 57, 97, 98, 99, 100, 101, 102, 103, 104, 105, 106, 107, 108, 109, 110, 111, 112, 113, 114, 115, 116, 117, 118, 119, 120, 121, 122])) (some (.t 5)) (some (.t 7))⟩,
   ⟨some 2, none, .move (.t 8)⟩])
  (.ret))
  (.skip)))
  (c72_2))
noncomputable def c72 : AFn := { np := 1, nt := 15, results := [.t 2], keep := false, body := c72_b }
noncomputable def c73_b : ACode := .seq (.region none [⟨some 2, none, .move (.c (.int .i64 0))⟩])
  (.seq (.region none [⟨some 4, none, .move (.t 0)⟩,
   ⟨some 5, none, .call 90 [.t 4]⟩,
   ⟨some 6, none, .call 89 [.t 5]⟩,
   ⟨some 3, none, .move (.t 6)⟩])
  (.seq (.region none [⟨some 7, none, .move (.t 3)⟩,
   ⟨some 8, none, .move (.t 0)⟩,
   ⟨some 9, none, .move (.t 3)⟩,
   ⟨some 10, none, .idxArr 1 20 (.g 0) (.t 9)⟩,
   ⟨some 11, none, .load none (.t 10)⟩,
   ⟨some 12, none, .bin .geq (.t 8) (.t 11)⟩,
   ⟨some 13, none, .call 91 [.t 12]⟩,
   ⟨some 14, none, .bin .add (.t 7) (.t 13)⟩,
   ⟨some 2, none, .move (.t 14)⟩])
  (.ret)))
noncomputable def c73 : AFn := { np := 1, nt := 15, results := [.t 2], keep := false, body := c73_b }
noncomputable def c74_1 : ACode := .block 1 (.seq (.region none [⟨some 21, none, .move (.t 1)⟩,
   ⟨some 22, none, .bin .rem (.t 21) (.c (.int .u64 100000000))⟩,
   ⟨some 23, none, .convInt .u32 (.t 22)⟩,
   ⟨some 5, none, .move (.t 23)⟩])
  (.seq (.region none [⟨some 24, none, .move (.t 1)⟩,
   ⟨some 25, none, .bin .quo (.t 24) (.c (.int .u64 100000000))⟩,
   ⟨some 1, none, .move (.t 25)⟩])
  (.seq (.region none [⟨some 26, none, .move (.t 5)⟩,
   ⟨some 27, none, .bin .quo (.t 26) (.c (.int .u32 10000))⟩,
   ⟨some 28, none, .move (.t 5)⟩,
   ⟨some 29, none, .bin .rem (.t 28) (.c (.int .u32 10000))⟩,
   ⟨some 6, none, .move (.t 27)⟩,
   ⟨some 7, none, .move (.t 29)⟩])
  (.seq (.region none [⟨some 30, none, .move (.t 7)⟩,
   ⟨some 31, none, .bin .quo (.t 30) (.c (.int .u32 100))⟩,
   ⟨some 32, none, .bin .mul (.t 31) (.c (.int .u32 2))⟩,
   ⟨some 33, none, .move (.t 7)⟩,
   ⟨some 34, none, .bin .rem (.t 33) (.c (.int .u32 100))⟩,
   ⟨some 35, none, .bin .mul (.t 34) (.c (.int .u32 2))⟩,
   ⟨some 8, none, .move (.t 32)⟩,
   ⟨some 9, none, .move (.t 35)⟩])
  (.seq (.region none [⟨some 36, none, .move (.t 6)⟩,
   ⟨some 37, none, .bin .quo (.t 36) (.c (.int .u32 100))⟩,
   ⟨some 38, none, .bin .mul (.t 37) (.c (.int .u32 2))⟩,
   ⟨some 39, none, .move (.t 6)⟩,
   ⟨some 40, none, .bin .rem (.t 39) (.c (.int .u32 100))⟩,
   ⟨some 41, none, .bin .mul (.t 40) (.c (.int .u32 2))⟩,
   ⟨some 10, none, .move (.t 38)⟩,
   ⟨some 11, none, .move (.t 41)⟩])
  (.seq (.region (some []) [⟨some 42, none, .move (.t 0)⟩,
   ⟨some 43, none, .move (.t 4)⟩,
   ⟨some 44, none, .bin .sub (.t 43) (.c (.int .i64 1))⟩,
   ⟨some 45, none, .move (.t 0)⟩,
   ⟨some 46, none, .move (.t 4)⟩,
   ⟨some 47, none, .bin .sub (.t 46) (.c (.int .i64 2))⟩,
   ⟨some 48, none, .move (.t 9)⟩,
   ⟨some 49, none, .bin .add (.t 48) (.c (.int .u32 1))⟩,
   ⟨some 50, none, .idxStr (.c (.str [48, 48, 48, 49, 48, 50, 48, 51, 48, 52, 48, 53, 48, 54, 48, 55, 48, 56, 48, 57, 49, 48, 49, 49, 49, 50, 49, 51, 49, 52, 49, 53, 49, 54, 49, 55, 49, 56, 49, 57, 50, 48, 50, 49, 50, 50, 50, 51, 50, 52, 50, 53, 50, 54, 50, 55, 50, 56, 50, 57, 51, 48, 51, 49, 51, 50, 51, 51, 51, 52, 51, 53, 51, 54, 51, 55, 51, 56, 51, 57, 52, 48, 52, 49, 52, 50, 52, 51, 52, 52, 52, 53, 52, 54, 52, 55, 52, 56, 52, 57, 53, 48, 53, 49, 53, 50, 53, 51, 53, 52, 53, 53, 53, 54, 53, 55, 53, 56, 53, 57, 54, 48, 54, 49, 54, 50, 54, 51, 54, 52, 54, 53, 54, 54, 54, 55, 54, 56, 54, 57, 55, 48, 55, 49, 55, 50, 55, 51, 55, 52, 55, 53, 55, 54, 55, 55, 55, 56, 55, 57, 56, 48, 56, 49, 56, 50, 56, 51, 56, 52, 56, 53, 56, 54, 56, 55, 56, 56, 56, 57, 57, 48, 57, 49, 57, 50, 57, 51, 57, 52, 57, 53, 57, 54, 57, 55, 57, 56, 57, 57])) (.t 49)⟩,
   ⟨some 51, none, .move (.t 9)⟩,
   ⟨some 52, none, .idxStr (.c (.str [48, 48, 48, 49, 48, 50, 48, 51, 48, 52, 48, 53, 48, 54, 48, 55, 48, 56, 48, 57, 49, 48, 49, 49, 49, 50, 49, 51, 49, 52, 49, 53, 49, 54, 49, 55, 49, 56, 49, 57, 50, 48, 50, 49, 50, 50, 50, 51, 50, 52, 50, 53, 50, 54, 50, 55, 50, 56, 50, 57, 51, 48, 51, 49, 51, 50, 51, 51, 51, 52, 51, 53, 51, 54, 51, 55, 51, 56, 51, 57, 52, 48, 52, 49, 52, 50, 52, 51, 52, 52, 52, 53, 52, 54, 52, 55, 52, 56, 52, 57, 53, 48, 53, 49, 53, 50, 53, 51, 53, 52, 53, 53, 53, 54, 53, 55, 53, 56, 53, 57, 54, 48, 54, 49, 54, 50, 54, 51, 54, 52, 54, 53, 54, 54, 54, 55, 54, 56, 54, 57, 55, 48, 55, 49, 55, 50, 55, 51, 55, 52, 55, 53, 55, 54, 55, 55, 55, 56, 55, 57, 56, 48, 56, 49, 56, 50, 56, 51, 56, 52, 56, 53, 56, 54, 56, 55, 56, 56, 56, 57, 57, 48, 57, 49, 57, 50, 57, 51, 57, 52, 57, 53, 57, 54, 57, 55, 57, 56, 57, 57])) (.t 51)⟩,
   ⟨some 53, none, .idxSl 1 (.t 42) (.t 44)⟩,
   ⟨none, none, .store 1 (.t 53) (.t 50)⟩,
   ⟨some 54, none, .idxSl 1 (.t 45) (.t 47)⟩,
   ⟨none, none, .store 1 (.t 54) (.t 52)⟩])
  (.seq (.region (some []) [⟨some 55, none, .move (.t 0)⟩,
   ⟨some 56, none, .move (.t 4)⟩,
   ⟨some 57, none, .bin .sub (.t 56) (.c (.int .i64 3))⟩,
   ⟨some 58, none, .move (.t 0)⟩,
   ⟨some 59, none, .move (.t 4)⟩,
   ⟨some 60, none, .bin .sub (.t 59) (.c (.int .i64 4))⟩,
   ⟨some 61, none, .move (.t 8)⟩,
   ⟨some 62, none, .bin .add (.t 61) (.c (.int .u32 1))⟩,
   ⟨some 63, none, .idxStr (.c (.str [48, 48, 48, 49, 48, 50, 48, 51, 48, 52, 48, 53, 48, 54, 48, 55, 48, 56, 48, 57, 49, 48, 49, 49, 49, 50, 49, 51, 49, 52, 49, 53, 49, 54, 49, 55, 49, 56, 49, 57, 50, 48, 50, 49, 50, 50, 50, 51, 50, 52, 50, 53, 50, 54, 50, 55, 50, 56, 50, 57, 51, 48, 51, 49, 51, 50, 51, 51, 51, 52, 51, 53, 51, 54, 51, 55, 51, 56, 51, 57, 52, 48, 52, 49, 52, 50, 52, 51, 52, 52, 52, 53, 52, 54, 52, 55, 52, 56, 52, 57, 53, 48, 53, 49, 53, 50, 53, 51, 53, 52, 53, 53, 53, 54, 53, 55, 53, 56, 53, 57, 54, 48, 54, 49, 54, 50, 54, 51, 54, 52, 54, 53, 54, 54, 54, 55, 54, 56, 54, 57, 55, 48, 55, 49, 55, 50, 55, 51, 55, 52, 55, 53, 55, 54, 55, 55, 55, 56, 55, 57, 56, 48, 56, 49, 56, 50, 56, 51, 56, 52, 56, 53, 56, 54, 56, 55, 56, 56, 56, 57, 57, 48, 57, 49, 57, 50, 57, 51, 57, 52, 57, 53, 57, 54, 57, 55, 57, 56, 57, 57])) (.t 62)⟩,
   ⟨some 64, none, .move (.t 8)⟩,
   ⟨some 65, none, .idxStr (.c (.str [48, 48, 48, 49, 48, 50, 48, 51, 48, 52, 48, 53, 48, 54, 48, 55, 48, 56, 48, 57, 49, 48, 49, 49, 49, 50, 49, 51, 49, 52, 49, 53, 49, 54, 49, 55, 49, 56, 49, 57, 50, 48, 50, 49, 50, 50, 50, 51, 50, 52, 50, 53, 50, 54, 50, 55, 50, 56, 50, 57, 51, 48, 51, 49, 51, 50, 51, 51, 51, 52, 51, 53, 51, 54, 51, 55, 51, 56, 51, 57, 52, 48, 52, 49, 52, 50, 52, 51, 52, 52, 52, 53, 52, 54, 52, 55, 52, 56, 52, 57, 53, 48, 53, 49, 53, 50, 53, 51, 53, 52, 53, 53, 53, 54, 53, 55, 53, 56, 53, 57, 54, 48, 54, 49, 54, 50, 54, 51, 54, 52, 54, 53, 54, 54, 54, 55, 54, 56, 54, 57, 55, 48, 55, 49, 55, 50, 55, 51, 55, 52, 55, 53, 55, 54, 55, 55, 55, 56, 55, 57, 56, 48, 56, 49, 56, 50, 56, 51, 56, 52, 56, 53, 56, 54, 56, 55, 56, 56, 56, 57, 57, 48, 57, 49, 57, 50, 57, 51, 57, 52, 57, 53, 57, 54, 57, 55, 57, 56, 57, 57])) (.t 64)⟩,
   ⟨some 66, none, .idxSl 1 (.t 55) (.t 57)⟩,
   ⟨none, none, .store 1 (.t 66) (.t 63)⟩,
   ⟨some 67, none, .idxSl 1 (.t 58) (.t 60)⟩,
   ⟨none, none, .store 1 (.t 67) (.t 65)⟩])
  (.seq (.region (some []) [⟨some 68, none, .move (.t 0)⟩,
   ⟨some 69, none, .move (.t 4)⟩,
   ⟨some 70, none, .bin .sub (.t 69) (.c (.int .i64 5))⟩,
   ⟨some 71, none, .move (.t 0)⟩,
   ⟨some 72, none, .move (.t 4)⟩,
   ⟨some 73, none, .bin .sub (.t 72) (.c (.int .i64 6))⟩,
   ⟨some 74, none, .move (.t 11)⟩,
   ⟨some 75, none, .bin .add (.t 74) (.c (.int .u32 1))⟩,
   ⟨some 76, none, .idxStr (.c (.str [48, 48, 48, 49, 48, 50, 48, 51, 48, 52, 48, 53, 48, 54, 48, 55, 48, 56, 48, 57, 49, 48, 49, 49, 49, 50, 49, 51, 49, 52, 49, 53, 49, 54, 49, 55, 49, 56, 49, 57, 50, 48, 50, 49, 50, 50, 50, 51, 50, 52, 50, 53, 50, 54, 50, 55, 50, 56, 50, 57, 51, 48, 51, 49, 51, 50, 51, 51, 51, 52, 51, 53, 51, 54, 51, 55, 51, 56, 51, 57, 52, 48, 52, 49, 52, 50, 52, 51, 52, 52, 52, 53, 52, 54, 52, 55, 52, 56, 52, 57, 53, 48, 53, 49, 53, 50, 53, 51, 53, 52, 53, 53, 53, 54, 53, 55, 53, 56, 53, 57, 54, 48, 54, 49, 54, 50, 54, 51, 54, 52, 54, 53, 54, 54, 54, 55, 54, 56, 54, 57, 55, 48, 55, 49, 55, 50, 55, 51, 55, 52, 55, 53, 55, 54, 55, 55, 55, 56, 55, 57, 56, 48, 56, 49, 56, 50, 56, 51, 56, 52, 56, 53, 56, 54, 56, 55, 56, 56, 56, 57, 57, 48, 57, 49, 57, 50, 57, 51, 57, 52, 57, 53, 57, 54, 57, 55, 57, 56, 57, 57])) (.t 75)⟩,
   ⟨some 77, none, .move (.t 11)⟩,
   ⟨some 78, none, .idxStr (.c (.str [48, 48, 48, 49, 48, 50, 48, 51, 48, 52, 48, 53, 48, 54, 48, 55, 48, 56, 48, 57, 49, 48, 49, 49, 49, 50, 49, 51, 49, 52, 49, 53, 49, 54, 49, 55, 49, 56, 49, 57, 50, 48, 50, 49, 50, 50, 50, 51, 50, 52, 50, 53, 50, 54, 50, 55, 50, 56, 50, 57, 51, 48, 51, 49, 51, 50, 51, 51, 51, 52, 51, 53, 51, 54, 51, 55, 51, 56, 51, 57, 52, 48, 52, 49, 52, 50, 52, 51, 52, 52, 52, 53, 52, 54, 52, 55, 52, 56, 52, 57, 53, 48, 53, 49, 53, 50, 53, 51, 53, 52, 53, 53, 53, 54, 53, 55, 53, 56, 53, 57, 54, 48, 54, 49, 54, 50, 54, 51, 54, 52, 54, 53, 54, 54, 54, 55, 54, 56, 54, 57, 55, 48, 55, 49, 55, 50, 55, 51, 55, 52, 55, 53, 55, 54, 55, 55, 55, 56, 55, 57, 56, 48, 56, 49, 56, 50, 56, 51, 56, 52, 56, 53, 56, 54, 56, 55, 56, 56, 56, 57, 57, 48, 57, 49, 57, 50, 57, 51, 57, 52, 57, 53, 57, 54, 57, 55, 57, 56, 57, 57])) (.t 77)⟩,
   ⟨some 79, none, .idxSl 1 (.t 68) (.t 70)⟩,
   ⟨none, none, .store 1 (.t 79) (.t 76)⟩,
   ⟨some 80, none, .idxSl 1 (.t 71) (.t 73)⟩,
   ⟨none, none, .store 1 (.t 80) (.t 78)⟩])
  (.seq (.region (some []) [⟨some 81, none, .move (.t 0)⟩,
   ⟨some 82, none, .move (.t 4)⟩,
   ⟨some 83, none, .bin .sub (.t 82) (.c (.int .i64 7))⟩,
   ⟨some 84, none, .move (.t 0)⟩,
   ⟨some 85, none, .move (.t 4)⟩,
   ⟨some 86, none, .bin .sub (.t 85) (.c (.int .i64 8))⟩,
   ⟨some 87, none, .move (.t 10)⟩,
   ⟨some 88, none, .bin .add (.t 87) (.c (.int .u32 1))⟩,
   ⟨some 89, none, .idxStr (.c (.str [48, 48, 48, 49, 48, 50, 48, 51, 48, 52, 48, 53, 48, 54, 48, 55, 48, 56, 48, 57, 49, 48, 49, 49, 49, 50, 49, 51, 49, 52, 49, 53, 49, 54, 49, 55, 49, 56, 49, 57, 50, 48, 50, 49, 50, 50, 50, 51, 50, 52, 50, 53, 50, 54, 50, 55, 50, 56, 50, 57, 51, 48, 51, 49, 51, 50, 51, 51, 51, 52, 51, 53, 51, 54, 51, 55, 51, 56, 51, 57, 52, 48, 52, 49, 52, 50, 52, 51, 52, 52, 52, 53, 52, 54, 52, 55, 52, 56, 52, 57, 53, 48, 53, 49, 53, 50, 53, 51, 53, 52, 53, 53, 53, 54, 53, 55, 53, 56, 53, 57, 54, 48, 54, 49, 54, 50, 54, 51, 54, 52, 54, 53, 54, 54, 54, 55, 54, 56, 54, 57, 55, 48, 55, 49, 55, 50, 55, 51, 55, 52, 55, 53, 55, 54, 55, 55, 55, 56, 55, 57, 56, 48, 56, 49, 56, 50, 56, 51, 56, 52, 56, 53, 56, 54, 56, 55, 56, 56, 56, 57, 57, 48, 57, 49, 57, 50, 57, 51, 57, 52, 57, 53, 57, 54, 57, 55, 57, 56, 57, 57])) (.t 88)⟩,
   ⟨some 90, none, .move (.t 10)⟩,
   ⟨some 91, none, .idxStr (.c (.str [48, 48, 48, 49, 48, 50, 48, 51, 48, 52, 48, 53, 48, 54, 48, 55, 48, 56, 48, 57, 49, 48, 49, 49, 49, 50, 49, 51, 49, 52, 49, 53, 49, 54, 49, 55, 49, 56, 49, 57, 50, 48, 50, 49, 50, 50, 50, 51, 50, 52, 50, 53, 50, 54, 50, 55, 50, 56, 50, 57, 51, 48, 51, 49, 51, 50, 51, 51, 51, 52, 51, 53, 51, 54, 51, 55, 51, 56, 51, 57, 52, 48, 52, 49, 52, 50, 52, 51, 52, 52, 52, 53, 52, 54, 52, 55, 52, 56, 52, 57, 53, 48, 53, 49, 53, 50, 53, 51, 53, 52, 53, 53, 53, 54, 53, 55, 53, 56, 53, 57, 54, 48, 54, 49, 54, 50, 54, 51, 54, 52, 54, 53, 54, 54, 54, 55, 54, 56, 54, 57, 55, 48, 55, 49, 55, 50, 55, 51, 55, 52, 55, 53, 55, 54, 55, 55, 55, 56, 55, 57, 56, 48, 56, 49, 56, 50, 56, 51, 56, 52, 56, 53, 56, 54, 56, 55, 56, 56, 56, 57, 57, 48, 57, 49, 57, 50, 57, 51, 57, 52, 57, 53, 57, 54, 57, 55, 57, 56, 57, 57])) (.t 90)⟩,
   ⟨some 92, none, .idxSl 1 (.t 81) (.t 83)⟩,
   ⟨none, none, .store 1 (.t 92) (.t 89)⟩,
   ⟨some 93, none, .idxSl 1 (.t 84) (.t 86)⟩,
   ⟨none, none, .store 1 (.t 93) (.t 91)⟩])
  (.region none [⟨some 94, none, .move (.t 4)⟩,
   ⟨some 95, none, .bin .sub (.t 94) (.c (.int .i64 8))⟩,
   ⟨some 4, none, .move (.t 95)⟩]))))))))))
noncomputable def c74_2 : ACode := .mask (.n (.n .e true .e) true (.n (.n .e true .e) false .e)) (c74_1)
noncomputable def c74_3 : ACode := .seq (.seq (.region none [⟨some 19, none, .move (.t 4)⟩,
   ⟨some 20, none, .bin .geq (.t 19) (.c (.int .i64 8))⟩])
  (.cond (.t 20) (.skip)
  (.exit 0)))
  (c74_2)
noncomputable def c74_4 : ACode := .seq (.region none [⟨some 160, none, .move (.t 4)⟩,
   ⟨some 161, none, .bin .gtr (.t 160) (.c (.int .i64 0))⟩])
  (.cond (.t 161) (.region none [⟨some 162, none, .move (.t 0)⟩,
   ⟨some 163, none, .move (.t 12)⟩,
   ⟨some 164, none, .bin .add (.c (.int .u32 48)) (.t 163)⟩,
   ⟨some 165, none, .convInt .u8 (.t 164)⟩,
   ⟨some 166, none, .idxSl 1 (.t 162) (.c (.int .i64 0))⟩,
   ⟨none, none, .store 1 (.t 166) (.t 165)⟩])
  (.skip))
noncomputable def c74_5 : ACode := .mask (.n .e true (.n (.n .e true (.n .e true .e)) false .e)) (c74_4)
noncomputable def c74_6 : ACode := .seq (.seq (.region none [⟨some 138, none, .move (.t 4)⟩,
   ⟨some 139, none, .bin .geq (.t 138) (.c (.int .i64 2))⟩])
  (.cond (.t 139) (.seq (.region none [⟨some 140, none, .move (.t 12)⟩,
   ⟨some 141, none, .bin .rem (.t 140) (.c (.int .u32 100))⟩,
   ⟨some 142, none, .bin .mul (.t 141) (.c (.int .u32 2))⟩,
   ⟨some 16, none, .move (.t 142)⟩])
  (.seq (.region none [⟨some 143, none, .move (.t 12)⟩,
   ⟨some 144, none, .bin .quo (.t 143) (.c (.int .u32 100))⟩,
   ⟨some 12, none, .move (.t 144)⟩])
  (.seq (.region (some []) [⟨some 145, none, .move (.t 0)⟩,
   ⟨some 146, none, .move (.t 4)⟩,
   ⟨some 147, none, .bin .sub (.t 146) (.c (.int .i64 1))⟩,
   ⟨some 148, none, .move (.t 0)⟩,
   ⟨some 149, none, .move (.t 4)⟩,
   ⟨some 150, none, .bin .sub (.t 149) (.c (.int .i64 2))⟩,
   ⟨some 151, none, .move (.t 16)⟩,
   ⟨some 152, none, .bin .add (.t 151) (.c (.int .u32 1))⟩,
   ⟨some 153, none, .idxStr (.c (.str [48, 48, 48, 49, 48, 50, 48, 51, 48, 52, 48, 53, 48, 54, 48, 55, 48, 56, 48, 57, 49, 48, 49, 49, 49, 50, 49, 51, 49, 52, 49, 53, 49, 54, 49, 55, 49, 56, 49, 57, 50, 48, 50, 49, 50, 50, 50, 51, 50, 52, 50, 53, 50, 54, 50, 55, 50, 56, 50, 57, 51, 48, 51, 49, 51, 50, 51, 51, 51, 52, 51, 53, 51, 54, 51, 55, 51, 56, 51, 57, 52, 48, 52, 49, 52, 50, 52, 51, 52, 52, 52, 53, 52, 54, 52, 55, 52, 56, 52, 57, 53, 48, 53, 49, 53, 50, 53, 51, 53, 52, 53, 53, 53, 54, 53, 55, 53, 56, 53, 57, 54, 48, 54, 49, 54, 50, 54, 51, 54, 52, 54, 53, 54, 54, 54, 55, 54, 56, 54, 57, 55, 48, 55, 49, 55, 50, 55, 51, 55, 52, 55, 53, 55, 54, 55, 55, 55, 56, 55, 57, 56, 48, 56, 49, 56, 50, 56, 51, 56, 52, 56, 53, 56, 54, 56, 55, 56, 56, 56, 57, 57, 48, 57, 49, 57, 50, 57, 51, 57, 52, 57, 53, 57, 54, 57, 55, 57, 56, 57, 57])) (.t 152)⟩,
   ⟨some 154, none, .move (.t 16)⟩,
   ⟨some 155, none, .idxStr (.c (.str [48, 48, 48, 49, 48, 50, 48, 51, 48, 52, 48, 53, 48, 54, 48, 55, 48, 56, 48, 57, 49, 48, 49, 49, 49, 50, 49, 51, 49, 52, 49, 53, 49, 54, 49, 55, 49, 56, 49, 57, 50, 48, 50, 49, 50, 50, 50, 51, 50, 52, 50, 53, 50, 54, 50, 55, 50, 56, 50, 57, 51, 48, 51, 49, 51, 50, 51, 51, 51, 52, 51, 53, 51, 54, 51, 55, 51, 56, 51, 57, 52, 48, 52, 49, 52, 50, 52, 51, 52, 52, 52, 53, 52, 54, 52, 55, 52, 56, 52, 57, 53, 48, 53, 49, 53, 50, 53, 51, 53, 52, 53, 53, 53, 54, 53, 55, 53, 56, 53, 57, 54, 48, 54, 49, 54, 50, 54, 51, 54, 52, 54, 53, 54, 54, 54, 55, 54, 56, 54, 57, 55, 48, 55, 49, 55, 50, 55, 51, 55, 52, 55, 53, 55, 54, 55, 55, 55, 56, 55, 57, 56, 48, 56, 49, 56, 50, 56, 51, 56, 52, 56, 53, 56, 54, 56, 55, 56, 56, 56, 57, 57, 48, 57, 49, 57, 50, 57, 51, 57, 52, 57, 53, 57, 54, 57, 55, 57, 56, 57, 57])) (.t 154)⟩,
   ⟨some 156, none, .idxSl 1 (.t 145) (.t 147)⟩,
   ⟨none, none, .store 1 (.t 156) (.t 153)⟩,
   ⟨some 157, none, .idxSl 1 (.t 148) (.t 150)⟩,
   ⟨none, none, .store 1 (.t 157) (.t 155)⟩])
  (.region none [⟨some 158, none, .move (.t 4)⟩,
   ⟨some 159, none, .bin .sub (.t 158) (.c (.int .i64 2))⟩,
   ⟨some 4, none, .move (.t 159)⟩]))))
  (.skip)))
  (c74_5)
noncomputable def c74_7 : ACode := .mask (.n .e true (.n (.n .e true (.n .e true .e)) false .e)) (c74_6)
noncomputable def c74_8 : ACode := .seq (.region none [⟨some 96, none, .move (.t 1)⟩,
   ⟨some 97, none, .convInt .u32 (.t 96)⟩,
   ⟨some 12, none, .move (.t 97)⟩])
  (.seq (.seq (.region none [⟨some 98, none, .move (.t 4)⟩,
   ⟨some 99, none, .bin .geq (.t 98) (.c (.int .i64 4))⟩])
  (.cond (.t 99) (.seq (.region none [⟨some 100, none, .move (.t 12)⟩,
   ⟨some 101, none, .bin .rem (.t 100) (.c (.int .u32 10000))⟩,
   ⟨some 13, none, .move (.t 101)⟩])
  (.seq (.region none [⟨some 102, none, .move (.t 12)⟩,
   ⟨some 103, none, .bin .quo (.t 102) (.c (.int .u32 10000))⟩,
   ⟨some 12, none, .move (.t 103)⟩])
  (.seq (.region none [⟨some 104, none, .move (.t 13)⟩,
   ⟨some 105, none, .bin .quo (.t 104) (.c (.int .u32 100))⟩,
   ⟨some 106, none, .bin .mul (.t 105) (.c (.int .u32 2))⟩,
   ⟨some 107, none, .move (.t 13)⟩,
   ⟨some 108, none, .bin .rem (.t 107) (.c (.int .u32 100))⟩,
   ⟨some 109, none, .bin .mul (.t 108) (.c (.int .u32 2))⟩,
   ⟨some 14, none, .move (.t 106)⟩,
   ⟨some 15, none, .move (.t 109)⟩])
  (.seq (.region (some []) [⟨some 110, none, .move (.t 0)⟩,
   ⟨some 111, none, .move (.t 4)⟩,
   ⟨some 112, none, .bin .sub (.t 111) (.c (.int .i64 1))⟩,
   ⟨some 113, none, .move (.t 0)⟩,
   ⟨some 114, none, .move (.t 4)⟩,
   ⟨some 115, none, .bin .sub (.t 114) (.c (.int .i64 2))⟩,
   ⟨some 116, none, .move (.t 15)⟩,
   ⟨some 117, none, .bin .add (.t 116) (.c (.int .u32 1))⟩,
   ⟨some 118, none, .idxStr (.c (.str [48, 48, 48, 49, 48, 50, 48, 51, 48, 52, 48, 53, 48, 54, 48, 55, 48, 56, 48, 57, 49, 48, 49, 49, 49, 50, 49, 51, 49, 52, 49, 53, 49, 54, 49, 55, 49, 56, 49, 57, 50, 48, 50, 49, 50, 50, 50, 51, 50, 52, 50, 53, 50, 54, 50, 55, 50, 56, 50, 57, 51, 48, 51, 49, 51, 50, 51, 51, 51, 52, 51, 53, 51, 54, 51, 55, 51, 56, 51, 57, 52, 48, 52, 49, 52, 50, 52, 51, 52, 52, 52, 53, 52, 54, 52, 55, 52, 56, 52, 57, 53, 48, 53, 49, 53, 50, 53, 51, 53, 52, 53, 53, 53, 54, 53, 55, 53, 56, 53, 57, 54, 48, 54, 49, 54, 50, 54, 51, 54, 52, 54, 53, 54, 54, 54, 55, 54, 56, 54, 57, 55, 48, 55, 49, 55, 50, 55, 51, 55, 52, 55, 53, 55, 54, 55, 55, 55, 56, 55, 57, 56, 48, 56, 49, 56, 50, 56, 51, 56, 52, 56, 53, 56, 54, 56, 55, 56, 56, 56, 57, 57, 48, 57, 49, 57, 50, 57, 51, 57, 52, 57, 53, 57, 54, 57, 55, 57, 56, 57, 57])) (.t 117)⟩,
   ⟨some 119, none, .move (.t 15)⟩,
   ⟨some 120, none, .idxStr (.c (.str [48, 48, 48, 49, 48, 50, 48, 51, 48, 52, 48, 53, 48, 54, 48, 55, 48, 56, 48, 57, 49, 48, 49, 49, 49, 50, 49, 51, 49, 52, 49, 53, 49, 54, 49, 55, 49, 56, 49, 57, 50, 48, 50, 49, 50, 50, 50, 51, 50, 52, 50, 53, 50, 54, 50, 55, 50, 56, 50, 57, 51, 48, 51, 49, 51, 50, 51, 51, 51, 52, 51, 53, 51, 54, 51, 55, 51, 56, 51, 57, 52, 48, 52, 49, 52, 50, 52, 51, 52, 52, 52, 53, 52, 54, 52, 55, 52, 56, 52, 57, 53, 48, 53, 49, 53, 50, 53, 51, 53, 52, 53, 53, 53, 54, 53, 55, 53, 56, 53, 57, 54, 48, 54, 49, 54, 50, 54, 51, 54, 52, 54, 53, 54, 54, 54, 55, 54, 56, 54, 57, 55, 48, 55, 49, 55, 50, 55, 51, 55, 52, 55, 53, 55, 54, 55, 55, 55, 56, 55, 57, 56, 48, 56, 49, 56, 50, 56, 51, 56, 52, 56, 53, 56, 54, 56, 55, 56, 56, 56, 57, 57, 48, 57, 49, 57, 50, 57, 51, 57, 52, 57, 53, 57, 54, 57, 55, 57, 56, 57, 57])) (.t 119)⟩,
   ⟨some 121, none, .idxSl 1 (.t 110) (.t 112)⟩,
   ⟨none, none, .store 1 (.t 121) (.t 118)⟩,
   ⟨some 122, none, .idxSl 1 (.t 113) (.t 115)⟩,
   ⟨none, none, .store 1 (.t 122) (.t 120)⟩])
  (.seq (.region (some []) [⟨some 123, none, .move (.t 0)⟩,
   ⟨some 124, none, .move (.t 4)⟩,
   ⟨some 125, none, .bin .sub (.t 124) (.c (.int .i64 3))⟩,
   ⟨some 126, none, .move (.t 0)⟩,
   ⟨some 127, none, .move (.t 4)⟩,
   ⟨some 128, none, .bin .sub (.t 127) (.c (.int .i64 4))⟩,
   ⟨some 129, none, .move (.t 14)⟩,
   ⟨some 130, none, .bin .add (.t 129) (.c (.int .u32 1))⟩,
   ⟨some 131, none, .idxStr (.c (.str [48, 48, 48, 49, 48, 50, 48, 51, 48, 52, 48, 53, 48, 54, 48, 55, 48, 56, 48, 57, 49, 48, 49, 49, 49, 50, 49, 51, 49, 52, 49, 53, 49, 54, 49, 55, 49, 56, 49, 57, 50, 48, 50, 49, 50, 50, 50, 51, 50, 52, 50, 53, 50, 54, 50, 55, 50, 56, 50, 57, 51, 48, 51, 49, 51, 50, 51, 51, 51, 52, 51, 53, 51, 54, 51, 55, 51, 56, 51, 57, 52, 48, 52, 49, 52, 50, 52, 51, 52, 52, 52, 53, 52, 54, 52, 55, 52, 56, 52, 57, 53, 48, 53, 49, 53, 50, 53, 51, 53, 52, 53, 53, 53, 54, 53, 55, 53, 56, 53, 57, 54, 48, 54, 49, 54, 50, 54, 51, 54, 52, 54, 53, 54, 54, 54, 55, 54, 56, 54, 57, 55, 48, 55, 49, 55, 50, 55, 51, 55, 52, 55, 53, 55, 54, 55, 55, 55, 56, 55, 57, 56, 48, 56, 49, 56, 50, 56, 51, 56, 52, 56, 53, 56, 54, 56, 55, 56, 56, 56, 57, 57, 48, 57, 49, 57, 50, 57, 51, 57, 52, 57, 53, 57, 54, 57, 55, 57, 56, 57, 57])) (.t 130)⟩,
   ⟨some 132, none, .move (.t 14)⟩,
   ⟨some 133, none, .idxStr (.c (.str [48, 48, 48, 49, 48, 50, 48, 51, 48, 52, 48, 53, 48, 54, 48, 55, 48, 56, 48, 57, 49, 48, 49, 49, 49, 50, 49, 51, 49, 52, 49, 53, 49, 54, 49, 55, 49, 56, 49, 57, 50, 48, 50, 49, 50, 50, 50, 51, 50, 52, 50, 53, 50, 54, 50, 55, 50, 56, 50, 57, 51, 48, 51, 49, 51, 50, 51, 51, 51, 52, 51, 53, 51, 54, 51, 55, 51, 56, 51, 57, 52, 48, 52, 49, 52, 50, 52, 51, 52, 52, 52, 53, 52, 54, 52, 55, 52, 56, 52, 57, 53, 48, 53, 49, 53, 50, 53, 51, 53, 52, 53, 53, 53, 54, 53, 55, 53, 56, 53, 57, 54, 48, 54, 49, 54, 50, 54, 51, 54, 52, 54, 53, 54, 54, 54, 55, 54, 56, 54, 57, 55, 48, 55, 49, 55, 50, 55, 51, 55, 52, 55, 53, 55, 54, 55, 55, 55, 56, 55, 57, 56, 48, 56, 49, 56, 50, 56, 51, 56, 52, 56, 53, 56, 54, 56, 55, 56, 56, 56, 57, 57, 48, 57, 49, 57, 50, 57, 51, 57, 52, 57, 53, 57, 54, 57, 55, 57, 56, 57, 57])) (.t 132)⟩,
   ⟨some 134, none, .idxSl 1 (.t 123) (.t 125)⟩,
   ⟨none, none, .store 1 (.t 134) (.t 131)⟩,
   ⟨some 135, none, .idxSl 1 (.t 126) (.t 128)⟩,
   ⟨none, none, .store 1 (.t 135) (.t 133)⟩])
  (.region none [⟨some 136, none, .move (.t 4)⟩,
   ⟨some 137, none, .bin .sub (.t 136) (.c (.int .i64 4))⟩,
   ⟨some 4, none, .move (.t 137)⟩]))))))
  (.skip)))
  (c74_7))
noncomputable def c74_9 : ACode := .mask (.n (.n .e true .e) true (.n (.n .e true .e) false .e)) (c74_8)
noncomputable def c74_b : ACode := .seq (.region none [⟨some 17, none, .move (.t 0)⟩,
   ⟨some 18, none, .len false (.t 17)⟩,
   ⟨some 4, none, .move (.t 18)⟩])
  (.seq (.block 0 (.loop (.n (.n .e true .e) true (.n (.n .e true .e) false .e)) (c74_3)))
  (c74_9))
noncomputable def c74 : AFn := { np := 2, nt := 167, results := [], keep := false, body := c74_b }
noncomputable def c75_1 : ACode := .block 1 (.seq (.region none [⟨some 47, none, .move (.t 13)⟩,
   ⟨some 48, none, .bin .sub (.t 47) (.c (.int .i64 1))⟩,
   ⟨some 13, none, .move (.t 48)⟩])
  (.seq (.region none [⟨some 49, none, .move (.t 13)⟩,
   ⟨some 50, none, .move (.t 1)⟩,
   ⟨some 51, none, .move (.t 16)⟩,
   ⟨some 52, none, .bin .and (.t 50) (.t 51)⟩,
   ⟨some 53, none, .idxStr (.c (.str [48, 49, 50, 51, 52, 53, 54, 55, 56, 57, 97, 98, 99, 100, 101, 102, 103, 104, 105, 106, 107, 108, 109, 110, 111, 112, 113, 114, 115, 116, 117, 118, 119, 120, 121, 122])) (.t 52)⟩,
   ⟨some 54, none, .idxArr 1 65 (.t 12) (.t 49)⟩,
   ⟨none, none, .store 1 (.t 54) (.t 53)⟩])
  (.region none [⟨some 55, none, .move (.t 1)⟩,
   ⟨some 56, none, .move (.t 14)⟩,
   ⟨some 57, none, .bin .shr (.t 55) (.t 56)⟩,
   ⟨some 1, none, .move (.t 57)⟩])))
noncomputable def c75_2 : ACode := .mask (.n (.n (.n (.n (.n .e true .e) false .e) true (.n .e true .e)) true (.n .e false (.n .e true .e))) true (.n (.n (.n (.n .e true .e) false .e) true (.n .e true .e)) false (.n (.n .e true .e) false (.n .e true .e)))) (c75_1)
noncomputable def c75_3 : ACode := .seq (.seq (.region none [⟨some 44, none, .move (.t 1)⟩,
   ⟨some 45, none, .move (.t 15)⟩,
   ⟨some 46, none, .bin .geq (.t 44) (.t 45)⟩])
  (.cond (.t 46) (.skip)
  (.exit 0)))
  (c75_2)
noncomputable def c75_4 : ACode := .seq (.region none [⟨some 58, none, .move (.t 13)⟩,
   ⟨some 59, none, .bin .sub (.t 58) (.c (.int .i64 1))⟩,
   ⟨some 13, none, .move (.t 59)⟩])
  (.region none [⟨some 60, none, .move (.t 13)⟩,
   ⟨some 61, none, .move (.t 1)⟩,
   ⟨some 62, none, .idxStr (.c (.str [48, 49, 50, 51, 52, 53, 54, 55, 56, 57, 97, 98, 99, 100, 101, 102, 103, 104, 105, 106, 107, 108, 109, 110, 111, 112, 113, 114, 115, 116, 117, 118, 119, 120, 121, 122])) (.t 61)⟩,
   ⟨some 63, none, .idxArr 1 65 (.t 12) (.t 60)⟩,
   ⟨none, none, .store 1 (.t 63) (.t 62)⟩])
noncomputable def c75_5 : ACode := .mask (.n (.n (.n .e true (.n .e true .e)) true (.n .e false (.n .e true .e))) true (.n (.n .e true (.n .e true .e)) false (.n (.n .e true .e) false .e))) (c75_4)
noncomputable def c75_6 : ACode := .block 3 (.seq (.region none [⟨some 69, none, .move (.t 13)⟩,
   ⟨some 70, none, .bin .sub (.t 69) (.c (.int .i64 1))⟩,
   ⟨some 13, none, .move (.t 70)⟩])
  (.seq (.region none [⟨some 71, none, .move (.t 1)⟩,
   ⟨some 72, none, .move (.t 17)⟩,
   ⟨some 73, none, .bin .quo (.t 71) (.t 72)⟩,
   ⟨some 18, none, .move (.t 73)⟩])
  (.seq (.region none [⟨some 74, none, .move (.t 13)⟩,
   ⟨some 75, none, .move (.t 1)⟩,
   ⟨some 76, none, .move (.t 18)⟩,
   ⟨some 77, none, .move (.t 17)⟩,
   ⟨some 78, none, .bin .mul (.t 76) (.t 77)⟩,
   ⟨some 79, none, .bin .sub (.t 75) (.t 78)⟩,
   ⟨some 80, none, .idxStr (.c (.str [48, 49, 50, 51, 52, 53, 54, 55, 56, 57, 97, 98, 99, 100, 101, 102, 103, 104, 105, 106, 107, 108, 109, 110, 111, 112, 113, 114, 115, 116, 117, 118, 119, 120, 121, 122])) (.t 79)⟩,
   ⟨some 81, none, .idxArr 1 65 (.t 12) (.t 74)⟩,
   ⟨none, none, .store 1 (.t 81) (.t 80)⟩])
  (.region none [⟨some 82, none, .move (.t 18)⟩,
   ⟨some 1, none, .move (.t 82)⟩]))))
noncomputable def c75_7 : ACode := .mask (.n (.n (.n .e true (.n .e true .e)) true (.n (.n (.n .e true .e) false .e) false (.n .e true .e))) true (.n (.n .e true (.n .e true .e)) false (.n (.n .e true .e) false .e))) (c75_6)
noncomputable def c75_8 : ACode := .seq (.seq (.region none [⟨some 66, none, .move (.t 1)⟩,
   ⟨some 67, none, .move (.t 17)⟩,
   ⟨some 68, none, .bin .geq (.t 66) (.t 67)⟩])
  (.cond (.t 68) (.skip)
  (.exit 2)))
  (c75_7)
noncomputable def c75_9 : ACode := .seq (.region none [⟨some 83, none, .move (.t 13)⟩,
   ⟨some 84, none, .bin .sub (.t 83) (.c (.int .i64 1))⟩,
   ⟨some 13, none, .move (.t 84)⟩])
  (.region none [⟨some 85, none, .move (.t 13)⟩,
   ⟨some 86, none, .move (.t 1)⟩,
   ⟨some 87, none, .idxStr (.c (.str [48, 49, 50, 51, 52, 53, 54, 55, 56, 57, 97, 98, 99, 100, 101, 102, 103, 104, 105, 106, 107, 108, 109, 110, 111, 112, 113, 114, 115, 116, 117, 118, 119, 120, 121, 122])) (.t 86)⟩,
   ⟨some 88, none, .idxArr 1 65 (.t 12) (.t 85)⟩,
   ⟨none, none, .store 1 (.t 88) (.t 87)⟩])
noncomputable def c75_10 : ACode := .mask (.n (.n (.n .e true (.n .e true .e)) true (.n .e false (.n .e true .e))) true (.n (.n .e true (.n .e true .e)) false (.n (.n .e true .e) false .e))) (c75_9)
noncomputable def c75_11 : ACode := .seq (.region none [⟨some 99, none, .move (.t 13)⟩,
   ⟨some 100, none, .sliceA 1 65 (.t 12) (some (.t 99)) none none⟩,
   ⟨some 101, none, .bytesToStr (.t 100)⟩,
   ⟨some 11, none, .move (.t 101)⟩])
  (.ret)
noncomputable def c75_12 : ACode := .mask (.n (.n .e false (.n .e false (.n .e true .e))) false (.n (.n .e false (.n .e true .e)) false (.n (.n .e true .e) false .e))) (c75_11)
noncomputable def c75_13 : ACode := .seq (.seq (.region none [⟨some 94, none, .move (.t 4)⟩])
  (.cond (.t 94) (.seq (.region none [⟨some 95, none, .move (.t 0)⟩,
   ⟨some 96, none, .move (.t 13)⟩,
   ⟨some 97, none, .sliceA 1 65 (.t 12) (some (.t 96)) none none⟩,
   ⟨some 98, none, .append 1 1 none (.t 95) (.t 97)⟩,
   ⟨some 10, none, .move (.t 98)⟩])
  (.ret))
  (.skip)))
  (c75_12)
noncomputable def c75_14 : ACode := .mask (.n (.n (.n .e false (.n .e true .e)) false (.n .e false (.n .e true .e))) true (.n (.n .e true (.n .e true .e)) false (.n (.n .e true .e) false .e))) (c75_13)
noncomputable def c75_15 : ACode := .seq (.seq (.region none [⟨some 89, none, .move (.t 3)⟩])
  (.cond (.t 89) (.seq (.region none [⟨some 90, none, .move (.t 13)⟩,
   ⟨some 91, none, .bin .sub (.t 90) (.c (.int .i64 1))⟩,
   ⟨some 13, none, .move (.t 91)⟩])
  (.region none [⟨some 92, none, .move (.t 13)⟩,
   ⟨some 93, none, .idxArr 1 65 (.t 12) (.t 92)⟩,
   ⟨none, none, .store 1 (.t 93) (.c (.int .u8 45))⟩]))
  (.skip)))
  (c75_14)
noncomputable def c75_16 : ACode := .mask (.n (.n (.n .e true (.n .e true .e)) false (.n .e false (.n .e true .e))) true (.n (.n .e true (.n .e true .e)) false (.n (.n .e true .e) false .e))) (c75_15)
noncomputable def c75_17 : ACode := .seq (.seq (.region none [⟨some 33, none, .move (.t 2)⟩,
   ⟨some 34, none, .call 92 [.t 33]⟩])
  (.cond (.t 34) (.seq (.region none [⟨some 35, none, .move (.t 2)⟩,
   ⟨some 36, none, .convInt .u64 (.t 35)⟩,
   ⟨some 37, none, .call 93 [.t 36]⟩,
   ⟨some 38, none, .convInt .u64 (.t 37)⟩,
   ⟨some 14, none, .move (.t 38)⟩])
  (.seq (.region none [⟨some 39, none, .move (.t 2)⟩,
   ⟨some 40, none, .convInt .u64 (.t 39)⟩,
   ⟨some 15, none, .move (.t 40)⟩])
  (.seq (.region none [⟨some 41, none, .move (.t 2)⟩,
   ⟨some 42, none, .convInt .u64 (.t 41)⟩,
   ⟨some 43, none, .bin .sub (.t 42) (.c (.int .u64 1))⟩,
   ⟨some 16, none, .move (.t 43)⟩])
  (.seq (.block 0 (.loop (.n (.n (.n (.n (.n .e true .e) false .e) true (.n .e true .e)) true (.n .e false (.n .e true .e))) true (.n (.n (.n (.n .e true .e) false .e) true (.n .e true .e)) false (.n (.n .e true .e) false (.n .e true .e)))) (c75_3)))
  (c75_5)))))
  (.seq (.region none [⟨some 64, none, .move (.t 2)⟩,
   ⟨some 65, none, .convInt .u64 (.t 64)⟩,
   ⟨some 17, none, .move (.t 65)⟩])
  (.seq (.block 2 (.loop (.n (.n (.n .e true (.n .e true .e)) true (.n (.n (.n .e true .e) false .e) false (.n .e true .e))) true (.n (.n .e true (.n .e true .e)) false (.n (.n .e true .e) false .e))) (c75_8)))
  (c75_10)))))
  (c75_16)
noncomputable def c75_18 : ACode := .mask (.n (.n (.n .e true (.n .e true .e)) true (.n .e false (.n .e true .e))) true (.n (.n .e true (.n .e true .e)) true (.n (.n .e true .e) false .e))) (c75_17)
noncomputable def c75_19 : ACode := .seq (.region none [⟨some 12, none, .alloc [.int .u8 0, .int .u8 0, .int .u8 0, .int .u8 0, .int .u8 0, .int .u8 0, .int .u8 0, .int .u8 0, .int .u8 0, .int .u8 0, .int .u8 0, .int .u8 0, .int .u8 0, .int .u8 0, .int .u8 0, .int .u8 0, .int .u8 0, .int .u8 0, .int .u8 0, .int .u8 0, .int .u8 0, .int .u8 0, .int .u8 0, .int .u8 0, .int .u8 0, .int .u8 0, .int .u8 0, .int .u8 0, .int .u8 0, .int .u8 0, .int .u8 0, .int .u8 0, .int .u8 0, .int .u8 0, .int .u8 0, .int .u8 0, .int .u8 0, .int .u8 0, .int .u8 0, .int .u8 0, .int .u8 0, .int .u8 0, .int .u8 0, .int .u8 0, .int .u8 0, .int .u8 0, .int .u8 0, .int .u8 0, .int .u8 0, .int .u8 0, .int .u8 0, .int .u8 0, .int .u8 0, .int .u8 0, .int .u8 0, .int .u8 0, .int .u8 0, .int .u8 0, .int .u8 0, .int .u8 0, .int .u8 0, .int .u8 0, .int .u8 0, .int .u8 0, .int .u8 0]⟩])
  (.seq (.region none [⟨some 13, none, .move (.c (.int .i64 65))⟩])
  (.seq (.seq (.region none [⟨some 30, none, .move (.t 3)⟩])
  (.cond (.t 30) (.region none [⟨some 31, none, .move (.t 1)⟩,
   ⟨some 32, none, .un .neg (.t 31)⟩,
   ⟨some 1, none, .move (.t 32)⟩])
  (.skip)))
  (c75_18)))
noncomputable def c75_20 : ACode := .mask (.n (.n (.n .e true (.n .e true .e)) true .e) true (.n (.n .e true .e) true (.n (.n .e true .e) false .e))) (c75_19)
noncomputable def c75_b : ACode := .seq (.region none [⟨some 10, none, .move (.c (.sl 1 [] .nil))⟩,
   ⟨some 11, none, .move (.c (.str []))⟩])
  (.seq (.seq (.region none [⟨some 19, none, .move (.t 2)⟩,
   ⟨some 20, none, .bin .lss (.t 19) (.c (.int .i64 2))⟩,
   ⟨some 21, none, .move (.t 20)⟩,
   ⟨some 22, (some (21, false)), .move (.t 2)⟩,
   ⟨some 23, (some (21, false)), .bin .eql (.t 22) (.c (.int .i64 10))⟩,
   ⟨some 24, none, .pick (.t 21) (.c (.bool true)) (.t 23)⟩,
   ⟨some 25, none, .move (.t 24)⟩,
   ⟨some 26, (some (25, false)), .move (.t 2)⟩,
   ⟨some 27, (some (25, false)), .bin .gtr (.t 26) (.c (.int .i64 36))⟩,
   ⟨some 28, none, .pick (.t 25) (.c (.bool true)) (.t 27)⟩])
  (.cond (.t 28) (.region none [⟨some 29, none, .mkIface 9 (.c (.str [115, 116, 114, 99, 111, 110, 118, 58, 32, 105, 108, 108, 101, 103, 97, 108, 32, 65, 112, 112, 101, 110, 100, 73, 110, 116, 47, 70, 111, 114, 109, 97, 116, 73, 110, 116, 32, 98, 97, 115, 101]))⟩,
   ⟨none, none, .no⟩])
  (.skip)))
  (c75_20))
noncomputable def c75 : AFn := { np := 5, nt := 102, results := [.t 10, .t 11], keep := false, body := c75_b }
noncomputable def c76_1 : ACode := .seq (.region none [⟨some 72, none, .move (.t 11)⟩,
   ⟨some 6, none, .move (.t 72)⟩,
   ⟨some 7, none, .move (.c .nili)⟩])
  (.ret)
noncomputable def c76_2 : ACode := .mask (.n (.n (.n .e false (.n .e true .e)) false .e) false .e) (c76_1)
noncomputable def c76_3 : ACode := .seq (.region none [⟨some 67, none, .move (.t 9)⟩,
   ⟨some 68, none, .convInt .i64 (.t 67)⟩,
   ⟨some 11, none, .move (.t 68)⟩])
  (.seq (.seq (.region none [⟨some 69, none, .move (.t 8)⟩])
  (.cond (.t 69) (.region none [⟨some 70, none, .move (.t 11)⟩,
   ⟨some 71, none, .un .neg (.t 70)⟩,
   ⟨some 11, none, .move (.t 71)⟩])
  (.skip)))
  (c76_2))
noncomputable def c76_4 : ACode := .mask (.n (.n .e false (.n (.n .e true .e) false .e)) false (.n (.n (.n .e true .e) false .e) false .e)) (c76_3)
noncomputable def c76_5 : ACode := .seq (.seq (.region none [⟨some 57, none, .move (.t 8)⟩,
   ⟨some 58, none, .move (.t 57)⟩,
   ⟨some 59, (some (58, true)), .move (.t 9)⟩,
   ⟨some 60, (some (58, true)), .move (.t 10)⟩,
   ⟨some 61, (some (58, true)), .bin .gtr (.t 59) (.t 60)⟩,
   ⟨some 62, none, .pick (.t 58) (.t 61) (.c (.bool false))⟩])
  (.cond (.t 62) (.seq (.region none [⟨some 63, none, .move (.t 10)⟩,
   ⟨some 64, none, .convInt .i64 (.t 63)⟩,
   ⟨some 65, none, .un .neg (.t 64)⟩,
   ⟨some 66, none, .mkIface 126 (.c (.int .i64 1))⟩,
   ⟨some 6, none, .move (.t 65)⟩,
   ⟨some 7, none, .move (.t 66)⟩])
  (.ret))
  (.skip)))
  (c76_4)
noncomputable def c76_6 : ACode := .mask (.n (.n .e false (.n (.n .e true .e) false .e)) false (.n (.n (.n .e true .e) false .e) false (.n (.n .e true .e) false .e))) (c76_5)
noncomputable def c76_7 : ACode := .seq (.region none [⟨some 42, none, .move (.t 2)⟩,
   ⟨some 43, none, .bin .sub (.t 42) (.c (.int .i64 1))⟩,
   ⟨some 44, none, .convInt .u64 (.t 43)⟩,
   ⟨some 45, none, .bin .shl (.c (.int .u64 1)) (.t 44)⟩,
   ⟨some 10, none, .move (.t 45)⟩])
  (.seq (.seq (.region none [⟨some 46, none, .move (.t 8)⟩,
   ⟨some 47, none, .un .not (.t 46)⟩,
   ⟨some 48, none, .move (.t 47)⟩,
   ⟨some 49, (some (48, true)), .move (.t 9)⟩,
   ⟨some 50, (some (48, true)), .move (.t 10)⟩,
   ⟨some 51, (some (48, true)), .bin .geq (.t 49) (.t 50)⟩,
   ⟨some 52, none, .pick (.t 48) (.t 51) (.c (.bool false))⟩])
  (.cond (.t 52) (.seq (.region none [⟨some 53, none, .move (.t 10)⟩,
   ⟨some 54, none, .bin .sub (.t 53) (.c (.int .u64 1))⟩,
   ⟨some 55, none, .convInt .i64 (.t 54)⟩,
   ⟨some 56, none, .mkIface 126 (.c (.int .i64 1))⟩,
   ⟨some 6, none, .move (.t 55)⟩,
   ⟨some 7, none, .move (.t 56)⟩])
  (.ret))
  (.skip)))
  (c76_6))
noncomputable def c76_8 : ACode := .mask (.n (.n .e false (.n (.n .e true .e) false .e)) false (.n (.n (.n .e true .e) false .e) true .e)) (c76_7)
noncomputable def c76_9 : ACode := .seq (.seq (.region none [⟨some 40, none, .move (.t 2)⟩,
   ⟨some 41, none, .bin .eql (.t 40) (.c (.int .i64 0))⟩])
  (.cond (.t 41) (.region none [⟨some 2, none, .move (.c (.int .i64 64))⟩])
  (.skip)))
  (c76_8)
noncomputable def c76_10 : ACode := .mask (.n (.n .e false (.n (.n .e true .e) false .e)) false (.n (.n (.n .e true .e) false .e) true .e)) (c76_9)
noncomputable def c76_11 : ACode := .seq (.region none [⟨some 9, none, .move (.c (.int .u64 0))⟩])
  (.seq (.region none [⟨some 26, none, .move (.t 0)⟩,
   ⟨some 27, none, .move (.t 1)⟩,
   ⟨some 28, none, .move (.t 2)⟩,
   ⟨some 29, none, .call 94 [.t 26, .t 27, .t 28]⟩,
   ⟨some 25, none, .move (.t 29)⟩,
   ⟨some 30, none, .extract (.t 25) 0⟩,
   ⟨some 31, none, .extract (.t 25) 1⟩,
   ⟨some 9, none, .move (.t 30)⟩,
   ⟨some 7, none, .move (.t 31)⟩])
  (.seq (.seq (.region none [⟨some 32, none, .move (.t 7)⟩,
   ⟨some 33, none, .nilI true (.t 32)⟩,
   ⟨some 34, none, .move (.t 33)⟩,
   ⟨some 35, (some (34, true)), .move (.t 7)⟩,
   ⟨some 36, (some (34, true)), .mkIface 126 (.c (.int .i64 1))⟩,
   ⟨some 37, (some (34, true)), .eq true .iface (.t 35) (.t 36)⟩,
   ⟨some 38, none, .pick (.t 34) (.t 37) (.c (.bool false))⟩])
  (.cond (.t 38) (.seq (.region none [⟨some 39, none, .move (.t 7)⟩,
   ⟨some 6, none, .move (.c (.int .i64 0))⟩,
   ⟨some 7, none, .move (.t 39)⟩])
  (.ret))
  (.skip)))
  (c76_10)))
noncomputable def c76_12 : ACode := .mask (.n (.n .e true .e) true (.n (.n (.n .e true .e) false .e) true .e)) (c76_11)
noncomputable def c76_13 : ACode := .seq (.region none [⟨some 8, none, .move (.c (.bool false))⟩])
  (.seq (.seq (.region none [⟨some 15, none, .move (.t 0)⟩,
   ⟨some 16, none, .idxStr (.t 15) (.c (.int .i64 0))⟩])
  (.block 0 (.seq (.region none [⟨some 18, none, .bin .eql (.t 16) (.c (.int .u8 43))⟩,
   ⟨some 17, none, .move (.t 18)⟩])
  (.cond (.t 17) (.region none [⟨some 19, none, .move (.t 0)⟩,
   ⟨some 20, none, .subStr (.t 19) (some (.c (.int .i64 1))) none⟩,
   ⟨some 0, none, .move (.t 20)⟩])
  (.seq (.region none [⟨some 22, none, .bin .eql (.t 16) (.c (.int .u8 45))⟩,
   ⟨some 21, none, .move (.t 22)⟩])
  (.cond (.t 21) (.seq (.region none [⟨some 23, none, .move (.t 0)⟩,
   ⟨some 24, none, .subStr (.t 23) (some (.c (.int .i64 1))) none⟩,
   ⟨some 0, none, .move (.t 24)⟩])
  (.region none [⟨some 8, none, .move (.c (.bool true))⟩]))
  (.skip)))))))
  (c76_12))
noncomputable def c76_14 : ACode := .mask (.n (.n .e true .e) true (.n .e true .e)) (c76_13)
noncomputable def c76_b : ACode := .seq (.region none [⟨some 6, none, .move (.c (.int .i64 0))⟩,
   ⟨some 7, none, .move (.c .nili)⟩])
  (.seq (.seq (.region none [⟨some 12, none, .move (.t 0)⟩,
   ⟨some 13, none, .bin .eql (.t 12) (.c (.str []))⟩])
  (.cond (.t 13) (.seq (.region none [⟨some 14, none, .mkIface 126 (.c (.int .i64 2))⟩,
   ⟨some 6, none, .move (.c (.int .i64 0))⟩,
   ⟨some 7, none, .move (.t 14)⟩])
  (.ret))
  (.skip)))
  (c76_14))
noncomputable def c76 : AFn := { np := 3, nt := 73, results := [.t 6, .t 7], keep := false, body := c76_b }
noncomputable def c77_b : ACode := .seq (.region none [⟨some 4, none, .move (.c .nilp)⟩])
  (.seq (.region (some []) [⟨some 5, none, .move (.t 0)⟩,
   ⟨some 6, none, .move (.t 1)⟩,
   ⟨some 7, none, .callP 95 [.t 6]⟩,
   ⟨some 8, none, .load none (.g 1)⟩,
   ⟨some 9, none, .build [.str [], .str [], .nili] [(0, 1, .t 5), (1, 1, .t 7), (2, 1, .t 8)]⟩,
   ⟨some 10, none, .boxMut (.t 9)⟩,
   ⟨some 4, none, .move (.t 10)⟩])
  (.ret))
noncomputable def c77 : AFn := { np := 2, nt := 11, results := [.t 4], keep := false, body := c77_b }
noncomputable def c78_b : ACode := .seq (.region none [⟨some 4, none, .move (.c .nilp)⟩])
  (.seq (.region (some []) [⟨some 5, none, .move (.t 0)⟩,
   ⟨some 6, none, .move (.t 1)⟩,
   ⟨some 7, none, .callP 95 [.t 6]⟩,
   ⟨some 8, none, .load none (.g 2)⟩,
   ⟨some 9, none, .build [.str [], .str [], .nili] [(0, 1, .t 5), (1, 1, .t 7), (2, 1, .t 8)]⟩,
   ⟨some 10, none, .boxMut (.t 9)⟩,
   ⟨some 4, none, .move (.t 10)⟩])
  (.ret))
noncomputable def c78 : AFn := { np := 2, nt := 11, results := [.t 4], keep := false, body := c78_b }
noncomputable def c79_b : ACode := .seq (.region none [⟨some 6, none, .move (.c .nilp)⟩])
  (.seq (.region none [⟨some 7, none, .move (.t 0)⟩,
   ⟨some 8, none, .move (.t 1)⟩,
   ⟨some 9, none, .call 95 [.t 8]⟩,
   ⟨some 10, none, .move (.t 2)⟩,
   ⟨some 11, none, .call 40 [.t 10]⟩,
   ⟨some 12, none, .bin .add (.c (.str [105, 110, 118, 97, 108, 105, 100, 32, 98, 97, 115, 101, 32])) (.t 11)⟩,
   ⟨some 13, none, .call 96 [.t 12]⟩,
   ⟨some 14, none, .build [.str [], .str [], .nili] [(0, 1, .t 7), (1, 1, .t 9), (2, 1, .t 13)]⟩,
   ⟨some 15, none, .boxMut (.t 14)⟩,
   ⟨some 6, none, .move (.t 15)⟩])
  (.ret))
noncomputable def c79 : AFn := { np := 3, nt := 16, results := [.t 6], keep := false, body := c79_b }
noncomputable def c80_b : ACode := .seq (.region none [⟨some 6, none, .move (.c .nilp)⟩])
  (.seq (.region none [⟨some 7, none, .move (.t 0)⟩,
   ⟨some 8, none, .move (.t 1)⟩,
   ⟨some 9, none, .call 95 [.t 8]⟩,
   ⟨some 10, none, .move (.t 2)⟩,
   ⟨some 11, none, .call 40 [.t 10]⟩,
   ⟨some 12, none, .bin .add (.c (.str [105, 110, 118, 97, 108, 105, 100, 32, 98, 105, 116, 32, 115, 105, 122, 101, 32])) (.t 11)⟩,
   ⟨some 13, none, .call 96 [.t 12]⟩,
   ⟨some 14, none, .build [.str [], .str [], .nili] [(0, 1, .t 7), (1, 1, .t 9), (2, 1, .t 13)]⟩,
   ⟨some 15, none, .boxMut (.t 14)⟩,
   ⟨some 6, none, .move (.t 15)⟩])
  (.ret))
noncomputable def c80 : AFn := { np := 3, nt := 16, results := [.t 6], keep := false, body := c80_b }
noncomputable def c81_1 : ACode := .seq (.region none [⟨some 4, none, .move (.c (.int .i64 1))⟩])
  (.ret)
noncomputable def c81_2 : ACode := .mask .e (c81_1)
noncomputable def c81_3 : ACode := .seq (.region none [⟨some 4, none, .move (.c (.int .i64 1))⟩])
  (.ret)
noncomputable def c81_4 : ACode := .mask .e (c81_3)
noncomputable def c81_5 : ACode := .region none [⟨some 45, none, .bin .add (.t 19) (.c (.int .i64 1))⟩,
   ⟨some 19, none, .move (.t 45)⟩]
noncomputable def c81_6 : ACode := .mask (.n (.n (.n .e false (.n (.n .e true .e) false .e)) true .e) true (.n .e false (.n (.n (.n .e true .e) false .e) false .e))) (c81_5)
noncomputable def c81_7 : ACode := .seq (.block 1 (.seq (.region none [⟨some 21, none, .move (.t 19)⟩,
   ⟨some 5, none, .move (.t 21)⟩])
  (.seq (.region none [⟨some 22, none, .move (.t 0)⟩,
   ⟨some 23, none, .len false (.t 22)⟩,
   ⟨some 24, none, .bin .sub (.t 23) (.c (.int .i64 1))⟩,
   ⟨some 25, none, .move (.t 5)⟩,
   ⟨some 26, none, .bin .sub (.t 24) (.t 25)⟩,
   ⟨some 6, none, .move (.t 26)⟩])
  (.seq (.region (some []) [⟨some 27, none, .move (.t 0)⟩,
   ⟨some 28, none, .move (.t 6)⟩,
   ⟨some 29, none, .idxSl 1 (.t 27) (.t 28)⟩,
   ⟨some 30, none, .load none (.t 29)⟩,
   ⟨some 31, none, .move (.t 1)⟩,
   ⟨some 32, none, .move (.t 6)⟩,
   ⟨some 33, none, .idxSl 1 (.t 31) (.t 32)⟩,
   ⟨some 34, none, .load none (.t 33)⟩,
   ⟨some 35, none, .bin .neq (.t 30) (.t 34)⟩])
  (.cond (.t 35) (.seq (.seq (.region (some []) [⟨some 36, none, .move (.t 0)⟩,
   ⟨some 37, none, .move (.t 6)⟩,
   ⟨some 38, none, .idxSl 1 (.t 36) (.t 37)⟩,
   ⟨some 39, none, .load none (.t 38)⟩,
   ⟨some 40, none, .move (.t 1)⟩,
   ⟨some 41, none, .move (.t 6)⟩,
   ⟨some 42, none, .idxSl 1 (.t 40) (.t 41)⟩,
   ⟨some 43, none, .load none (.t 42)⟩,
   ⟨some 44, none, .bin .lss (.t 39) (.t 43)⟩])
  (.cond (.t 44) (.seq (.region none [⟨some 4, none, .move (.c (.int .i64 (-1)))⟩])
  (.ret))
  (.skip)))
  (c81_4))
  (.skip))))))
  (c81_6)
noncomputable def c81_8 : ACode := .mask (.n (.n (.n .e false (.n (.n .e true .e) false .e)) true .e) true (.n .e false (.n (.n (.n .e true .e) false .e) false .e))) (c81_7)
noncomputable def c81_9 : ACode := .seq (.region none [⟨some 20, none, .bin .lss (.t 19) (.t 18)⟩])
  (.seq (.cond (.t 20) (.skip)
  (.exit 0))
  (c81_8))
noncomputable def c81_10 : ACode := .seq (.region none [⟨some 4, none, .move (.c (.int .i64 0))⟩])
  (.ret)
noncomputable def c81_11 : ACode := .mask .e (c81_10)
noncomputable def c81_12 : ACode := .seq (.seq (.region none [⟨some 17, none, .move (.t 0)⟩,
   ⟨some 18, none, .len false (.t 17)⟩,
   ⟨some 19, none, .move (.c (.int .i64 0))⟩])
  (.block 0 (.loop (.n (.n (.n .e false (.n (.n .e true .e) false .e)) true .e) true (.n .e false (.n (.n (.n .e true .e) false .e) false .e))) (c81_9))))
  (c81_11)
noncomputable def c81_13 : ACode := .mask (.n (.n .e true .e) true .e) (c81_12)
noncomputable def c81_b : ACode := .seq (.region none [⟨some 4, none, .move (.c (.int .i64 0))⟩])
  (.seq (.seq (.region none [⟨some 7, none, .move (.t 0)⟩,
   ⟨some 8, none, .len false (.t 7)⟩,
   ⟨some 9, none, .move (.t 1)⟩,
   ⟨some 10, none, .len false (.t 9)⟩,
   ⟨some 11, none, .bin .neq (.t 8) (.t 10)⟩])
  (.cond (.t 11) (.seq (.seq (.region none [⟨some 12, none, .move (.t 0)⟩,
   ⟨some 13, none, .len false (.t 12)⟩,
   ⟨some 14, none, .move (.t 1)⟩,
   ⟨some 15, none, .len false (.t 14)⟩,
   ⟨some 16, none, .bin .lss (.t 13) (.t 15)⟩])
  (.cond (.t 16) (.seq (.region none [⟨some 4, none, .move (.c (.int .i64 (-1)))⟩])
  (.ret))
  (.skip)))
  (c81_2))
  (.skip)))
  (c81_13))
noncomputable def c81 : AFn := { np := 2, nt := 46, results := [.t 4], keep := false, body := c81_b }
noncomputable def c82_1 : ACode := .region none [⟨some 44, none, .bin .add (.t 16) (.c (.int .i64 1))⟩,
   ⟨some 16, none, .move (.t 44)⟩]
noncomputable def c82_2 : ACode := .mask (.n (.n (.n (.n (.n .e true .e) true .e) false .e) true .e) true (.n (.n (.n (.n .e true .e) false .e) false .e) false (.n .e true .e))) (c82_1)
noncomputable def c82_3 : ACode := .seq (.block 1 (.seq (.region none [⟨some 18, none, .move (.t 16)⟩,
   ⟨some 8, none, .move (.t 18)⟩])
  (.seq (.region none [⟨some 19, none, .move (.t 0)⟩,
   ⟨some 20, none, .len false (.t 19)⟩,
   ⟨some 21, none, .bin .sub (.t 20) (.c (.int .i64 1))⟩,
   ⟨some 22, none, .move (.t 8)⟩,
   ⟨some 23, none, .bin .sub (.t 21) (.t 22)⟩,
   ⟨some 9, none, .move (.t 23)⟩])
  (.seq (.region none [⟨some 24, none, .move (.t 7)⟩,
   ⟨some 25, none, .bin .shl (.t 24) (.c (.int .u64 32))⟩,
   ⟨some 26, none, .move (.t 0)⟩,
   ⟨some 27, none, .move (.t 9)⟩,
   ⟨some 28, none, .idxSl 1 (.t 26) (.t 27)⟩,
   ⟨some 29, none, .load none (.t 28)⟩,
   ⟨some 30, none, .convInt .u64 (.t 29)⟩,
   ⟨some 31, none, .bin .or (.t 25) (.t 30)⟩,
   ⟨some 10, none, .move (.t 31)⟩])
  (.seq (.region none [⟨some 32, none, .move (.t 6)⟩,
   ⟨some 33, none, .move (.t 9)⟩,
   ⟨some 34, none, .move (.t 10)⟩,
   ⟨some 35, none, .move (.t 1)⟩,
   ⟨some 36, none, .convInt .u64 (.t 35)⟩,
   ⟨some 37, none, .bin .quo (.t 34) (.t 36)⟩,
   ⟨some 38, none, .convInt .u32 (.t 37)⟩,
   ⟨some 39, none, .idxSl 1 (.t 32) (.t 33)⟩,
   ⟨none, none, .store 1 (.t 39) (.t 38)⟩])
  (.region none [⟨some 40, none, .move (.t 10)⟩,
   ⟨some 41, none, .move (.t 1)⟩,
   ⟨some 42, none, .convInt .u64 (.t 41)⟩,
   ⟨some 43, none, .bin .rem (.t 40) (.t 42)⟩,
   ⟨some 7, none, .move (.t 43)⟩]))))))
  (c82_2)
noncomputable def c82_4 : ACode := .mask (.n (.n (.n (.n (.n .e true .e) true .e) false .e) true .e) true (.n (.n (.n (.n .e true .e) false .e) false .e) false (.n .e true .e))) (c82_3)
noncomputable def c82_5 : ACode := .seq (.region none [⟨some 17, none, .bin .lss (.t 16) (.t 15)⟩])
  (.seq (.cond (.t 17) (.skip)
  (.exit 0))
  (c82_4))
noncomputable def c82_6 : ACode := .seq (.region none [⟨some 45, none, .move (.t 6)⟩,
   ⟨some 46, none, .call 83 [.t 45]⟩,
   ⟨some 47, none, .move (.t 7)⟩,
   ⟨some 48, none, .convInt .u32 (.t 47)⟩,
   ⟨some 4, none, .move (.t 46)⟩,
   ⟨some 5, none, .move (.t 48)⟩])
  (.ret)
noncomputable def c82_7 : ACode := .mask (.n (.n (.n (.n .e true .e) false .e) false .e) false (.n .e false (.n .e true .e))) (c82_6)
noncomputable def c82_b : ACode := .seq (.region none [⟨some 4, none, .move (.c (.sl 1 [] .nil))⟩,
   ⟨some 5, none, .move (.c (.int .u32 0))⟩])
  (.seq (.region none [⟨some 11, none, .move (.t 0)⟩,
   ⟨some 12, none, .len false (.t 11)⟩,
   ⟨some 13, none, .makeSlice [.int .u32 0] 4 (.t 12) (.t 12)⟩,
   ⟨some 6, none, .move (.t 13)⟩])
  (.seq (.region none [⟨some 7, none, .move (.c (.int .u64 0))⟩])
  (.seq (.seq (.region none [⟨some 14, none, .move (.t 0)⟩,
   ⟨some 15, none, .len false (.t 14)⟩,
   ⟨some 16, none, .move (.c (.int .i64 0))⟩])
  (.block 0 (.loop (.n (.n (.n (.n (.n .e true .e) true .e) false .e) true .e) true (.n (.n (.n (.n .e true .e) false .e) false .e) false (.n .e true .e))) (c82_5))))
  (c82_7))))
noncomputable def c82 : AFn := { np := 2, nt := 49, results := [.t 4, .t 5], keep := false, body := c82_b }
noncomputable def c83_1 : ACode := .block 1 (.region none [⟨some 16, none, .move (.t 3)⟩,
   ⟨some 17, none, .bin .sub (.t 16) (.c (.int .i64 1))⟩,
   ⟨some 3, none, .move (.t 17)⟩])
noncomputable def c83_2 : ACode := .mask (.n (.n (.n .e true .e) false .e) true .e) (c83_1)
noncomputable def c83_3 : ACode := .seq (.seq (.region none [⟨some 6, none, .move (.t 3)⟩,
   ⟨some 7, none, .bin .gtr (.t 6) (.c (.int .i64 0))⟩,
   ⟨some 8, none, .move (.t 7)⟩,
   ⟨some 9, (some (8, true)), .move (.t 0)⟩,
   ⟨some 10, (some (8, true)), .move (.t 3)⟩,
   ⟨some 11, (some (8, true)), .bin .sub (.t 10) (.c (.int .i64 1))⟩,
   ⟨some 12, (some (8, true)), .idxSl 1 (.t 9) (.t 11)⟩,
   ⟨some 13, (some (8, true)), .load none (.t 12)⟩,
   ⟨some 14, (some (8, true)), .bin .eql (.t 13) (.c (.int .u32 0))⟩,
   ⟨some 15, none, .pick (.t 8) (.t 14) (.c (.bool false))⟩])
  (.cond (.t 15) (.skip)
  (.exit 0)))
  (c83_2)
noncomputable def c83_4 : ACode := .seq (.region none [⟨some 18, none, .move (.t 0)⟩,
   ⟨some 19, none, .move (.t 3)⟩,
   ⟨some 20, none, .slice 1 (.t 18) none (some (.t 19)) none⟩,
   ⟨some 2, none, .move (.t 20)⟩])
  (.ret)
noncomputable def c83_5 : ACode := .mask (.n (.n (.n .e true .e) false .e) true .e) (c83_4)
noncomputable def c83_b : ACode := .seq (.region none [⟨some 2, none, .move (.c (.sl 1 [] .nil))⟩])
  (.seq (.region none [⟨some 4, none, .move (.t 0)⟩,
   ⟨some 5, none, .len false (.t 4)⟩,
   ⟨some 3, none, .move (.t 5)⟩])
  (.seq (.block 0 (.loop (.n (.n (.n .e true .e) false .e) true .e) (c83_3)))
  (c83_5)))
noncomputable def c83 : AFn := { np := 1, nt := 21, results := [.t 2], keep := false, body := c83_b }
noncomputable def c84_b : ACode := .seq (.region none [⟨some 2, none, .move (.c (.int .i64 0))⟩])
  (.seq (.region none [⟨some 3, none, .move (.t 0)⟩,
   ⟨some 4, none, .call 97 [.t 3]⟩,
   ⟨some 5, none, .bin .sub (.c (.int .i64 32)) (.t 4)⟩,
   ⟨some 2, none, .move (.t 5)⟩])
  (.ret))
noncomputable def c84 : AFn := { np := 1, nt := 6, results := [.t 2], keep := false, body := c84_b }
noncomputable def c85_1 : ACode := .region none [⟨some 49, none, .bin .add (.t 17) (.c (.int .i64 1))⟩,
   ⟨some 17, none, .move (.t 49)⟩]
noncomputable def c85_2 : ACode := .mask (.n (.n .e true (.n (.n (.n .e true .e) false .e) true .e)) true (.n (.n (.n (.n .e true .e) false .e) false .e) false .e)) (c85_1)
noncomputable def c85_3 : ACode := .seq (.block 1 (.seq (.region none [⟨some 19, none, .move (.t 17)⟩,
   ⟨some 6, none, .move (.t 19)⟩])
  (.seq (.region none [⟨some 20, none, .move (.t 0)⟩,
   ⟨some 21, none, .move (.t 6)⟩,
   ⟨some 22, none, .idxSl 1 (.t 20) (.t 21)⟩,
   ⟨some 23, none, .load none (.t 22)⟩,
   ⟨some 24, none, .convInt .u64 (.t 23)⟩,
   ⟨some 25, none, .move (.t 1)⟩,
   ⟨some 26, none, .bin .rem (.t 25) (.c (.int .i64 32))⟩,
   ⟨some 27, none, .bin .shl (.t 24) (.t 26)⟩,
   ⟨some 7, none, .move (.t 27)⟩])
  (.seq (.region none [⟨some 28, none, .move (.t 5)⟩,
   ⟨some 29, none, .move (.t 6)⟩,
   ⟨some 30, none, .move (.t 1)⟩,
   ⟨some 31, none, .bin .quo (.t 30) (.c (.int .i64 32))⟩,
   ⟨some 32, none, .bin .add (.t 29) (.t 31)⟩,
   ⟨some 33, none, .idxSl 1 (.t 28) (.t 32)⟩,
   ⟨some 34, none, .load none (.t 33)⟩,
   ⟨some 35, none, .move (.t 7)⟩,
   ⟨some 36, none, .convInt .u32 (.t 35)⟩,
   ⟨some 37, none, .bin .or (.t 34) (.t 36)⟩,
   ⟨some 38, none, .idxSl 1 (.t 28) (.t 32)⟩,
   ⟨none, none, .store 1 (.t 38) (.t 37)⟩])
  (.region none [⟨some 39, none, .move (.t 5)⟩,
   ⟨some 40, none, .move (.t 6)⟩,
   ⟨some 41, none, .move (.t 1)⟩,
   ⟨some 42, none, .bin .quo (.t 41) (.c (.int .i64 32))⟩,
   ⟨some 43, none, .bin .add (.t 40) (.t 42)⟩,
   ⟨some 44, none, .bin .add (.t 43) (.c (.int .i64 1))⟩,
   ⟨some 45, none, .move (.t 7)⟩,
   ⟨some 46, none, .bin .shr (.t 45) (.c (.int .u64 32))⟩,
   ⟨some 47, none, .convInt .u32 (.t 46)⟩,
   ⟨some 48, none, .idxSl 1 (.t 39) (.t 44)⟩,
   ⟨none, none, .store 1 (.t 48) (.t 47)⟩])))))
  (c85_2)
noncomputable def c85_4 : ACode := .mask (.n (.n .e true (.n (.n (.n .e true .e) false .e) true .e)) true (.n (.n (.n (.n .e true .e) false .e) false .e) false .e)) (c85_3)
noncomputable def c85_5 : ACode := .seq (.region none [⟨some 18, none, .bin .lss (.t 17) (.t 16)⟩])
  (.seq (.cond (.t 18) (.skip)
  (.exit 0))
  (c85_4))
noncomputable def c85_6 : ACode := .seq (.region none [⟨some 50, none, .move (.t 5)⟩,
   ⟨some 51, none, .call 83 [.t 50]⟩,
   ⟨some 4, none, .move (.t 51)⟩])
  (.ret)
noncomputable def c85_7 : ACode := .mask (.n (.n .e false (.n .e true .e)) false .e) (c85_6)
noncomputable def c85_b : ACode := .seq (.region none [⟨some 4, none, .move (.c (.sl 1 [] .nil))⟩])
  (.seq (.region none [⟨some 8, none, .move (.t 0)⟩,
   ⟨some 9, none, .len false (.t 8)⟩,
   ⟨some 10, none, .move (.t 1)⟩,
   ⟨some 11, none, .bin .quo (.t 10) (.c (.int .i64 32))⟩,
   ⟨some 12, none, .bin .add (.t 9) (.t 11)⟩,
   ⟨some 13, none, .bin .add (.t 12) (.c (.int .i64 1))⟩,
   ⟨some 14, none, .makeSlice [.int .u32 0] 4 (.t 13) (.t 13)⟩,
   ⟨some 5, none, .move (.t 14)⟩])
  (.seq (.seq (.region none [⟨some 15, none, .move (.t 0)⟩,
   ⟨some 16, none, .len false (.t 15)⟩,
   ⟨some 17, none, .move (.c (.int .i64 0))⟩])
  (.block 0 (.loop (.n (.n .e true (.n (.n (.n .e true .e) false .e) true .e)) true (.n (.n (.n (.n .e true .e) false .e) false .e) false .e)) (c85_5))))
  (c85_7)))
noncomputable def c85 : AFn := { np := 2, nt := 52, results := [.t 4], keep := false, body := c85_b }
noncomputable def c86_1 : ACode := .region none [⟨some 54, none, .bin .add (.t 19) (.c (.int .i64 1))⟩,
   ⟨some 19, none, .move (.t 54)⟩]
noncomputable def c86_2 : ACode := .mask (.n (.n (.n .e true (.n (.n .e true .e) false .e)) true (.n (.n .e true .e) false .e)) true (.n .e true (.n (.n (.n .e true .e) true .e) false .e))) (c86_1)
noncomputable def c86_3 : ACode := .seq (.block 1 (.seq (.region none [⟨some 21, none, .move (.t 19)⟩,
   ⟨some 11, none, .move (.t 21)⟩])
  (.seq (.region none [⟨some 22, none, .move (.t 3)⟩,
   ⟨some 23, none, .move (.t 2)⟩,
   ⟨some 24, none, .move (.t 11)⟩,
   ⟨some 25, none, .idxSl 1 (.t 23) (.t 24)⟩,
   ⟨some 26, none, .load none (.t 25)⟩,
   ⟨some 27, none, .convInt .u64 (.t 26)⟩,
   ⟨some 28, none, .bin .mul (.t 22) (.t 27)⟩,
   ⟨some 29, none, .move (.t 9)⟩,
   ⟨some 30, none, .bin .add (.t 28) (.t 29)⟩,
   ⟨some 12, none, .move (.t 30)⟩])
  (.seq (.region none [⟨some 31, none, .move (.t 12)⟩,
   ⟨some 32, none, .bin .shr (.t 31) (.c (.int .u64 32))⟩,
   ⟨some 9, none, .move (.t 32)⟩])
  (.seq (.region none [⟨some 33, none, .move (.t 0)⟩,
   ⟨some 34, none, .move (.t 1)⟩,
   ⟨some 35, none, .move (.t 11)⟩,
   ⟨some 36, none, .bin .add (.t 34) (.t 35)⟩,
   ⟨some 37, none, .idxSl 1 (.t 33) (.t 36)⟩,
   ⟨some 38, none, .load none (.t 37)⟩,
   ⟨some 39, none, .convInt .u64 (.t 38)⟩,
   ⟨some 40, none, .move (.t 12)⟩,
   ⟨some 41, none, .bin .and (.t 40) (.c (.int .u64 4294967295))⟩,
   ⟨some 42, none, .bin .sub (.t 39) (.t 41)⟩,
   ⟨some 43, none, .move (.t 10)⟩,
   ⟨some 44, none, .bin .sub (.t 42) (.t 43)⟩,
   ⟨some 13, none, .move (.t 44)⟩])
  (.seq (.region none [⟨some 45, none, .move (.t 0)⟩,
   ⟨some 46, none, .move (.t 1)⟩,
   ⟨some 47, none, .move (.t 11)⟩,
   ⟨some 48, none, .bin .add (.t 46) (.t 47)⟩,
   ⟨some 49, none, .move (.t 13)⟩,
   ⟨some 50, none, .convInt .u32 (.t 49)⟩,
   ⟨some 51, none, .idxSl 1 (.t 45) (.t 48)⟩,
   ⟨none, none, .store 1 (.t 51) (.t 50)⟩])
  (.region none [⟨some 52, none, .move (.t 13)⟩,
   ⟨some 53, none, .bin .shr (.t 52) (.c (.int .u64 63))⟩,
   ⟨some 10, none, .move (.t 53)⟩])))))))
  (c86_2)
noncomputable def c86_4 : ACode := .mask (.n (.n (.n .e true (.n (.n .e true .e) false .e)) true (.n (.n .e true .e) false .e)) true (.n .e true (.n (.n (.n .e true .e) true .e) false .e))) (c86_3)
noncomputable def c86_5 : ACode := .seq (.region none [⟨some 20, none, .bin .lss (.t 19) (.t 18)⟩])
  (.seq (.cond (.t 20) (.skip)
  (.exit 0))
  (c86_4))
noncomputable def c86_6 : ACode := .region none [⟨some 109, none, .bin .add (.t 82) (.c (.int .i64 1))⟩,
   ⟨some 82, none, .move (.t 109)⟩]
noncomputable def c86_7 : ACode := .mask (.n (.n (.n .e true .e) true (.n (.n (.n .e false (.n (.n .e true .e) false .e)) true .e) false .e)) true (.n .e true (.n (.n (.n .e false (.n (.n .e true .e) false .e)) false .e) false .e))) (c86_6)
noncomputable def c86_8 : ACode := .seq (.block 3 (.seq (.region none [⟨some 84, none, .move (.t 82)⟩,
   ⟨some 15, none, .move (.t 84)⟩])
  (.seq (.region (some []) [⟨some 85, none, .move (.t 0)⟩,
   ⟨some 86, none, .move (.t 1)⟩,
   ⟨some 87, none, .move (.t 15)⟩,
   ⟨some 88, none, .bin .add (.t 86) (.t 87)⟩,
   ⟨some 89, none, .idxSl 1 (.t 85) (.t 88)⟩,
   ⟨some 90, none, .load none (.t 89)⟩,
   ⟨some 91, none, .convInt .u64 (.t 90)⟩,
   ⟨some 92, none, .move (.t 2)⟩,
   ⟨some 93, none, .move (.t 15)⟩,
   ⟨some 94, none, .idxSl 1 (.t 92) (.t 93)⟩,
   ⟨some 95, none, .load none (.t 94)⟩,
   ⟨some 96, none, .convInt .u64 (.t 95)⟩,
   ⟨some 97, none, .bin .add (.t 91) (.t 96)⟩,
   ⟨some 98, none, .move (.t 9)⟩,
   ⟨some 99, none, .bin .add (.t 97) (.t 98)⟩,
   ⟨some 16, none, .move (.t 99)⟩])
  (.seq (.region none [⟨some 100, none, .move (.t 0)⟩,
   ⟨some 101, none, .move (.t 1)⟩,
   ⟨some 102, none, .move (.t 15)⟩,
   ⟨some 103, none, .bin .add (.t 101) (.t 102)⟩,
   ⟨some 104, none, .move (.t 16)⟩,
   ⟨some 105, none, .convInt .u32 (.t 104)⟩,
   ⟨some 106, none, .idxSl 1 (.t 100) (.t 103)⟩,
   ⟨none, none, .store 1 (.t 106) (.t 105)⟩])
  (.region none [⟨some 107, none, .move (.t 16)⟩,
   ⟨some 108, none, .bin .shr (.t 107) (.c (.int .u64 32))⟩,
   ⟨some 9, none, .move (.t 108)⟩])))))
  (c86_7)
noncomputable def c86_9 : ACode := .mask (.n (.n (.n .e true .e) true (.n (.n (.n .e false (.n (.n .e true .e) false .e)) true .e) false .e)) true (.n .e true (.n (.n (.n .e false (.n (.n .e true .e) false .e)) false .e) false .e))) (c86_8)
noncomputable def c86_10 : ACode := .seq (.region none [⟨some 83, none, .bin .lss (.t 82) (.t 81)⟩])
  (.seq (.cond (.t 83) (.skip)
  (.exit 2))
  (c86_9))
noncomputable def c86_11 : ACode := .seq (.region none [⟨some 110, none, .move (.t 0)⟩,
   ⟨some 111, none, .move (.t 1)⟩,
   ⟨some 112, none, .move (.t 2)⟩,
   ⟨some 113, none, .len false (.t 112)⟩,
   ⟨some 114, none, .bin .add (.t 111) (.t 113)⟩,
   ⟨some 115, none, .idxSl 1 (.t 110) (.t 114)⟩,
   ⟨some 116, none, .load none (.t 115)⟩,
   ⟨some 117, none, .move (.t 9)⟩,
   ⟨some 118, none, .convInt .u32 (.t 117)⟩,
   ⟨some 119, none, .bin .add (.t 116) (.t 118)⟩,
   ⟨some 120, none, .idxSl 1 (.t 110) (.t 114)⟩,
   ⟨none, none, .store 1 (.t 120) (.t 119)⟩])
  (.seq (.region none [⟨some 121, none, .move (.t 3)⟩,
   ⟨some 122, none, .bin .sub (.t 121) (.c (.int .u64 1))⟩,
   ⟨some 123, none, .convInt .u32 (.t 122)⟩,
   ⟨some 8, none, .move (.t 123)⟩])
  (.ret))
noncomputable def c86_12 : ACode := .mask (.n (.n (.n .e true .e) true (.n (.n .e true .e) false .e)) true (.n .e true .e)) (c86_11)
noncomputable def c86_13 : ACode := .seq (.region none [⟨some 9, none, .move (.c (.int .u64 0))⟩])
  (.seq (.seq (.region none [⟨some 80, none, .move (.t 2)⟩,
   ⟨some 81, none, .len false (.t 80)⟩,
   ⟨some 82, none, .move (.c (.int .i64 0))⟩])
  (.block 2 (.loop (.n (.n (.n .e true .e) true (.n (.n (.n .e false (.n (.n .e true .e) false .e)) true .e) false .e)) true (.n .e true (.n (.n (.n .e false (.n (.n .e true .e) false .e)) false .e) false .e))) (c86_10))))
  (c86_12))
noncomputable def c86_14 : ACode := .mask (.n (.n (.n .e true .e) true .e) true (.n .e true .e)) (c86_13)
noncomputable def c86_15 : ACode := .seq (.region none [⟨some 55, none, .move (.t 0)⟩,
   ⟨some 56, none, .move (.t 1)⟩,
   ⟨some 57, none, .move (.t 2)⟩,
   ⟨some 58, none, .len false (.t 57)⟩,
   ⟨some 59, none, .bin .add (.t 56) (.t 58)⟩,
   ⟨some 60, none, .idxSl 1 (.t 55) (.t 59)⟩,
   ⟨some 61, none, .load none (.t 60)⟩,
   ⟨some 62, none, .convInt .u64 (.t 61)⟩,
   ⟨some 63, none, .move (.t 9)⟩,
   ⟨some 64, none, .bin .sub (.t 62) (.t 63)⟩,
   ⟨some 65, none, .move (.t 10)⟩,
   ⟨some 66, none, .bin .sub (.t 64) (.t 65)⟩,
   ⟨some 14, none, .move (.t 66)⟩])
  (.seq (.region none [⟨some 67, none, .move (.t 0)⟩,
   ⟨some 68, none, .move (.t 1)⟩,
   ⟨some 69, none, .move (.t 2)⟩,
   ⟨some 70, none, .len false (.t 69)⟩,
   ⟨some 71, none, .bin .add (.t 68) (.t 70)⟩,
   ⟨some 72, none, .move (.t 14)⟩,
   ⟨some 73, none, .convInt .u32 (.t 72)⟩,
   ⟨some 74, none, .idxSl 1 (.t 67) (.t 71)⟩,
   ⟨none, none, .store 1 (.t 74) (.t 73)⟩])
  (.seq (.seq (.region none [⟨some 75, none, .move (.t 14)⟩,
   ⟨some 76, none, .bin .shr (.t 75) (.c (.int .u64 63))⟩,
   ⟨some 77, none, .bin .eql (.t 76) (.c (.int .u64 0))⟩])
  (.cond (.t 77) (.seq (.region none [⟨some 78, none, .move (.t 3)⟩,
   ⟨some 79, none, .convInt .u32 (.t 78)⟩,
   ⟨some 8, none, .move (.t 79)⟩])
  (.ret))
  (.skip)))
  (c86_14)))
noncomputable def c86_16 : ACode := .mask (.n (.n (.n .e true .e) true (.n (.n .e true .e) false .e)) true (.n .e true (.n (.n .e true .e) false .e))) (c86_15)
noncomputable def c86_b : ACode := .seq (.region none [⟨some 8, none, .move (.c (.int .u32 0))⟩])
  (.seq (.region none [⟨some 9, none, .move (.c (.int .u64 0))⟩,
   ⟨some 10, none, .move (.c (.int .u64 0))⟩])
  (.seq (.seq (.region none [⟨some 17, none, .move (.t 2)⟩,
   ⟨some 18, none, .len false (.t 17)⟩,
   ⟨some 19, none, .move (.c (.int .i64 0))⟩])
  (.block 0 (.loop (.n (.n (.n .e true (.n (.n .e true .e) false .e)) true (.n (.n .e true .e) false .e)) true (.n .e true (.n (.n (.n .e true .e) true .e) false .e))) (c86_5))))
  (c86_16)))
noncomputable def c86 : AFn := { np := 4, nt := 124, results := [.t 8], keep := false, body := c86_b }
noncomputable def c87_1 : ACode := .block 1 (.seq (.region none [⟨some 70, none, .move (.t 9)⟩,
   ⟨some 71, none, .bin .sub (.t 70) (.c (.int .u64 1))⟩,
   ⟨some 9, none, .move (.t 71)⟩])
  (.seq (.region none [⟨some 72, none, .move (.t 10)⟩,
   ⟨some 73, none, .move (.t 2)⟩,
   ⟨some 74, none, .move (.t 7)⟩,
   ⟨some 75, none, .bin .sub (.t 74) (.c (.int .i64 1))⟩,
   ⟨some 76, none, .idxSl 1 (.t 73) (.t 75)⟩,
   ⟨some 77, none, .load none (.t 76)⟩,
   ⟨some 78, none, .convInt .u64 (.t 77)⟩,
   ⟨some 79, none, .bin .add (.t 72) (.t 78)⟩,
   ⟨some 10, none, .move (.t 79)⟩])
  (.seq (.region none [⟨some 80, none, .move (.t 10)⟩,
   ⟨some 81, none, .bin .geq (.t 80) (.c (.int .u64 4294967296))⟩])
  (.cond (.t 81) (.exit 0)
  (.skip)))))
noncomputable def c87_2 : ACode := .mask (.n (.n (.n (.n .e true .e) false .e) true (.n (.n .e true .e) false .e)) true (.n .e true (.n (.n .e true .e) false .e))) (c87_1)
noncomputable def c87_3 : ACode := .seq (.seq (.region (some []) [⟨some 46, none, .move (.t 9)⟩,
   ⟨some 47, none, .bin .geq (.t 46) (.c (.int .u64 4294967296))⟩,
   ⟨some 48, none, .move (.t 47)⟩,
   ⟨some 49, (some (48, false)), .move (.t 9)⟩,
   ⟨some 50, (some (48, false)), .move (.t 2)⟩,
   ⟨some 51, (some (48, false)), .move (.t 7)⟩,
   ⟨some 52, (some (48, false)), .bin .sub (.t 51) (.c (.int .i64 2))⟩,
   ⟨some 53, (some (48, false)), .idxSl 1 (.t 50) (.t 52)⟩,
   ⟨some 54, (some (48, false)), .load none (.t 53)⟩,
   ⟨some 55, (some (48, false)), .convInt .u64 (.t 54)⟩,
   ⟨some 56, (some (48, false)), .bin .mul (.t 49) (.t 55)⟩,
   ⟨some 57, (some (48, false)), .move (.t 10)⟩,
   ⟨some 58, (some (48, false)), .bin .shl (.t 57) (.c (.int .u64 32))⟩,
   ⟨some 59, (some (48, false)), .move (.t 0)⟩,
   ⟨some 60, (some (48, false)), .move (.t 1)⟩,
   ⟨some 61, (some (48, false)), .move (.t 7)⟩,
   ⟨some 62, (some (48, false)), .bin .add (.t 60) (.t 61)⟩,
   ⟨some 63, (some (48, false)), .bin .sub (.t 62) (.c (.int .i64 2))⟩,
   ⟨some 64, (some (48, false)), .idxSl 1 (.t 59) (.t 63)⟩,
   ⟨some 65, (some (48, false)), .load none (.t 64)⟩,
   ⟨some 66, (some (48, false)), .convInt .u64 (.t 65)⟩,
   ⟨some 67, (some (48, false)), .bin .or (.t 58) (.t 66)⟩,
   ⟨some 68, (some (48, false)), .bin .gtr (.t 56) (.t 67)⟩,
   ⟨some 69, none, .pick (.t 48) (.c (.bool true)) (.t 68)⟩])
  (.cond (.t 69) (.skip)
  (.exit 0)))
  (c87_2)
noncomputable def c87_4 : ACode := .seq (.region none [⟨some 82, none, .move (.t 9)⟩,
   ⟨some 6, none, .move (.t 82)⟩])
  (.ret)
noncomputable def c87_5 : ACode := .mask (.n (.n .e false (.n (.n .e true .e) false .e)) false .e) (c87_4)
noncomputable def c87_b : ACode := .seq (.region none [⟨some 6, none, .move (.c (.int .u64 0))⟩])
  (.seq (.region none [⟨some 11, none, .move (.t 2)⟩,
   ⟨some 12, none, .len false (.t 11)⟩,
   ⟨some 7, none, .move (.t 12)⟩])
  (.seq (.region (some []) [⟨some 13, none, .move (.t 0)⟩,
   ⟨some 14, none, .move (.t 1)⟩,
   ⟨some 15, none, .move (.t 7)⟩,
   ⟨some 16, none, .bin .add (.t 14) (.t 15)⟩,
   ⟨some 17, none, .idxSl 1 (.t 13) (.t 16)⟩,
   ⟨some 18, none, .load none (.t 17)⟩,
   ⟨some 19, none, .convInt .u64 (.t 18)⟩,
   ⟨some 20, none, .bin .shl (.t 19) (.c (.int .u64 32))⟩,
   ⟨some 21, none, .move (.t 0)⟩,
   ⟨some 22, none, .move (.t 1)⟩,
   ⟨some 23, none, .move (.t 7)⟩,
   ⟨some 24, none, .bin .add (.t 22) (.t 23)⟩,
   ⟨some 25, none, .bin .sub (.t 24) (.c (.int .i64 1))⟩,
   ⟨some 26, none, .idxSl 1 (.t 21) (.t 25)⟩,
   ⟨some 27, none, .load none (.t 26)⟩,
   ⟨some 28, none, .convInt .u64 (.t 27)⟩,
   ⟨some 29, none, .bin .or (.t 20) (.t 28)⟩,
   ⟨some 8, none, .move (.t 29)⟩])
  (.seq (.region none [⟨some 30, none, .move (.t 8)⟩,
   ⟨some 31, none, .move (.t 2)⟩,
   ⟨some 32, none, .move (.t 7)⟩,
   ⟨some 33, none, .bin .sub (.t 32) (.c (.int .i64 1))⟩,
   ⟨some 34, none, .idxSl 1 (.t 31) (.t 33)⟩,
   ⟨some 35, none, .load none (.t 34)⟩,
   ⟨some 36, none, .convInt .u64 (.t 35)⟩,
   ⟨some 37, none, .bin .quo (.t 30) (.t 36)⟩,
   ⟨some 9, none, .move (.t 37)⟩])
  (.seq (.region none [⟨some 38, none, .move (.t 8)⟩,
   ⟨some 39, none, .move (.t 2)⟩,
   ⟨some 40, none, .move (.t 7)⟩,
   ⟨some 41, none, .bin .sub (.t 40) (.c (.int .i64 1))⟩,
   ⟨some 42, none, .idxSl 1 (.t 39) (.t 41)⟩,
   ⟨some 43, none, .load none (.t 42)⟩,
   ⟨some 44, none, .convInt .u64 (.t 43)⟩,
   ⟨some 45, none, .bin .rem (.t 38) (.t 44)⟩,
   ⟨some 10, none, .move (.t 45)⟩])
  (.seq (.block 0 (.loop (.n (.n (.n (.n .e true .e) false .e) true (.n (.n .e true .e) false .e)) true (.n .e true (.n (.n .e true .e) false .e))) (c87_3)))
  (c87_5))))))
noncomputable def c87 : AFn := { np := 3, nt := 83, results := [.t 6], keep := false, body := c87_b }
noncomputable def c88_1 : ACode := .region none [⟨some 73, none, .move (.t 8)⟩,
   ⟨some 74, none, .move (.t 9)⟩,
   ⟨some 75, none, .move (.t 10)⟩,
   ⟨some 76, none, .move (.t 1)⟩,
   ⟨some 77, none, .bin .rem (.t 76) (.c (.int .i64 32))⟩,
   ⟨some 78, none, .bin .shr (.t 75) (.t 77)⟩,
   ⟨some 79, none, .convInt .u32 (.t 78)⟩,
   ⟨some 80, none, .idxSl 1 (.t 73) (.t 74)⟩,
   ⟨none, none, .store 1 (.t 80) (.t 79)⟩]
noncomputable def c88_2 : ACode := .mask (.n (.n (.n (.n .e true .e) false .e) true (.n (.n .e true .e) false (.n .e false (.n (.n .e true .e) false .e)))) true (.n (.n (.n .e true .e) false (.n .e false (.n (.n .e true .e) false .e))) false (.n (.n .e true .e) true .e))) (c88_1)
noncomputable def c88_3 : ACode := .region none [⟨some 81, none, .bin .add (.t 45) (.c (.int .i64 1))⟩,
   ⟨some 45, none, .move (.t 81)⟩]
noncomputable def c88_4 : ACode := .mask (.n (.n (.n (.n .e true .e) false .e) true (.n .e false (.n .e false (.n (.n .e true .e) false .e)))) true (.n (.n (.n .e true .e) false (.n .e false (.n (.n .e true .e) false .e))) false (.n .e true .e))) (c88_3)

end Go.AbY
