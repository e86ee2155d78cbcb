/- The abstract functions. -/
import Derived.Test.YtnafklimohmfkaaGreatDoorAbs
namespace Go.AbX
open Go.Ab
set_option maxRecDepth 100000
noncomputable def c6_b : ACode := .seq (.region none [⟨some 1, none, .boxRo (.t 0)⟩,
   ⟨some 2, none, .move (.c (.bool false))⟩])
  (.seq (.region none [⟨some 8, none, .callP 10 []⟩,
   ⟨some 3, none, .move (.t 8)⟩])
  (.seq (.region none [⟨some 10, none, .load (some 4) (.t 1)⟩,
   ⟨some 11, none, .call 33 [.t 10]⟩,
   ⟨some 9, none, .move (.t 11)⟩,
   ⟨some 12, none, .extract (.t 9) 0⟩,
   ⟨some 13, none, .extract (.t 9) 1⟩,
   ⟨some 4, none, .move (.t 12)⟩,
   ⟨some 5, none, .move (.t 13)⟩])
  (.seq (.region none [⟨some 15, none, .load (some 4) (.t 1)⟩,
   ⟨some 16, none, .call 34 [.t 15]⟩,
   ⟨some 14, none, .move (.t 16)⟩,
   ⟨some 17, none, .extract (.t 14) 0⟩,
   ⟨some 18, none, .extract (.t 14) 1⟩,
   ⟨some 6, none, .move (.t 17)⟩,
   ⟨some 7, none, .move (.t 18)⟩])
  (.seq (.region none [⟨some 19, none, .move (.t 3)⟩,
   ⟨some 20, none, .move (.t 19)⟩,
   ⟨some 21, (some (20, true)), .move (.t 4)⟩,
   ⟨some 22, (some (20, true)), .move (.t 6)⟩,
   ⟨some 23, (some (20, true)), .bin .eql (.t 21) (.t 22)⟩,
   ⟨some 24, none, .pick (.t 20) (.t 23) (.c (.bool false))⟩,
   ⟨some 25, none, .move (.t 24)⟩,
   ⟨some 26, (some (25, true)), .move (.t 5)⟩,
   ⟨some 27, (some (25, true)), .move (.t 7)⟩,
   ⟨some 28, (some (25, true)), .bin .eql (.t 26) (.t 27)⟩,
   ⟨some 29, none, .pick (.t 25) (.t 28) (.c (.bool false))⟩,
   ⟨some 2, none, .move (.t 29)⟩])
  (.ret)))))
noncomputable def c6 : AFn := { np := 1, nt := 30, results := [.t 2], keep := false, body := c6_b }
noncomputable def c10_1 : ACode := .seq (.region (some []) [⟨some 39, none, .load (some 4) (.t 2)⟩,
   ⟨some 40, none, .callP 15 [.c (.int .i64 0), .c (.int .i64 0)]⟩,
   ⟨some 41, none, .callP 20 [.t 40]⟩,
   ⟨some 42, none, .buildSlice 1 [.c (.int .i64 0), .c (.int .i64 0), .c (.int .i64 3), .c (.int .i64 4)]⟩,
   ⟨some 43, none, .call 19 [.t 39, .t 41, .t 42]⟩,
   ⟨some 38, none, .move (.t 43)⟩,
   ⟨some 44, none, .extract (.t 38) 0⟩,
   ⟨some 45, none, .extract (.t 38) 1⟩,
   ⟨some 4, none, .move (.t 44)⟩,
   ⟨some 5, none, .move (.t 45)⟩])
  (.seq (.region none [⟨some 46, none, .move (.t 5)⟩,
   ⟨some 47, none, .bin .eql (.t 46) (.c (.int .i64 0))⟩,
   ⟨some 48, none, .move (.t 47)⟩,
   ⟨some 49, (some (48, true)), .move (.t 4)⟩,
   ⟨some 50, (some (48, true)), .len false (.t 49)⟩,
   ⟨some 51, (some (48, true)), .fieldAddr 1 (.t 2)⟩,
   ⟨some 52, (some (48, true)), .load none (.t 51)⟩,
   ⟨some 53, (some (48, true)), .len false (.t 52)⟩,
   ⟨some 54, (some (48, true)), .bin .eql (.t 50) (.t 53)⟩,
   ⟨some 55, none, .pick (.t 48) (.t 54) (.c (.bool false))⟩,
   ⟨some 56, none, .move (.t 55)⟩,
   ⟨some 57, (some (56, true)), .move (.t 4)⟩,
   ⟨some 58, (some (56, true)), .fieldAddr 2 (.t 2)⟩,
   ⟨some 59, (some (56, true)), .load none (.t 58)⟩,
   ⟨some 60, (some (56, true)), .idxSl 1 (.t 59) (.c (.int .i64 2))⟩,
   ⟨some 61, (some (56, true)), .load none (.t 60)⟩,
   ⟨some 62, (some (56, true)), .idxSl 1 (.t 61) (.c (.int .i64 0))⟩,
   ⟨some 63, (some (56, true)), .load none (.t 62)⟩,
   ⟨some 64, (some (56, true)), .idxSl 1 (.t 57) (.t 63)⟩,
   ⟨some 65, (some (56, true)), .load none (.t 64)⟩,
   ⟨some 66, (some (56, true)), .bin .eql (.t 65) (.c (.int .i64 (-4)))⟩,
   ⟨some 67, none, .pick (.t 56) (.t 66) (.c (.bool false))⟩,
   ⟨some 68, none, .move (.t 67)⟩,
   ⟨some 69, (some (68, true)), .move (.t 4)⟩,
   ⟨some 70, (some (68, true)), .fieldAddr 2 (.t 2)⟩,
   ⟨some 71, (some (68, true)), .load none (.t 70)⟩,
   ⟨some 72, (some (68, true)), .idxSl 1 (.t 71) (.c (.int .i64 2))⟩,
   ⟨some 73, (some (68, true)), .load none (.t 72)⟩,
   ⟨some 74, (some (68, true)), .idxSl 1 (.t 73) (.c (.int .i64 1))⟩,
   ⟨some 75, (some (68, true)), .load none (.t 74)⟩,
   ⟨some 76, (some (68, true)), .idxSl 1 (.t 69) (.t 75)⟩,
   ⟨some 77, (some (68, true)), .load none (.t 76)⟩,
   ⟨some 78, (some (68, true)), .bin .eql (.t 77) (.c (.int .i64 3))⟩,
   ⟨some 79, none, .pick (.t 68) (.t 78) (.c (.bool false))⟩,
   ⟨some 80, none, .move (.t 79)⟩,
   ⟨some 81, (some (80, true)), .move (.t 4)⟩,
   ⟨some 82, (some (80, true)), .fieldAddr 2 (.t 2)⟩,
   ⟨some 83, (some (80, true)), .load none (.t 82)⟩,
   ⟨some 84, (some (80, true)), .idxSl 1 (.t 83) (.c (.int .i64 2))⟩,
   ⟨some 85, (some (80, true)), .load none (.t 84)⟩,
   ⟨some 86, (some (80, true)), .idxSl 1 (.t 85) (.c (.int .i64 2))⟩,
   ⟨some 87, (some (80, true)), .load none (.t 86)⟩,
   ⟨some 88, (some (80, true)), .idxSl 1 (.t 81) (.t 87)⟩,
   ⟨some 89, (some (80, true)), .load none (.t 88)⟩,
   ⟨some 90, (some (80, true)), .bin .eql (.t 89) (.c (.int .i64 0))⟩,
   ⟨some 91, none, .pick (.t 80) (.t 90) (.c (.bool false))⟩,
   ⟨some 0, none, .move (.t 91)⟩])
  (.ret))
noncomputable def c10_2 : ACode := .mask (.n .e false (.n .e true .e)) (c10_1)
noncomputable def c10_b : ACode := .seq (.region none [⟨some 0, none, .move (.c (.bool false))⟩])
  (.seq (.region none [⟨some 6, none, .call 41 [.c (.int .i64 0)]⟩,
   ⟨some 7, none, .call 41 [.c (.int .i64 0)]⟩,
   ⟨some 8, none, .build [.str [], .int .i64 0, .sl 1 [] .nil, .bool false, .sl 1 [] .nil, .bool false, .sl 1 [] .nil, .bool false, .sl 1 [] .nil, .bool false, .sl 1 [] .nil, .int .i64 0] [(0, 1, .c (.str [65])), (1, 1, .c (.int .i64 1)), (3, 4, .t 6), (7, 4, .t 7)]⟩,
   ⟨some 9, none, .call 41 [.c (.int .i64 3)]⟩,
   ⟨some 10, none, .call 41 [.c (.int .i64 4)]⟩,
   ⟨some 11, none, .build [.str [], .int .i64 0, .sl 1 [] .nil, .bool false, .sl 1 [] .nil, .bool false, .sl 1 [] .nil, .bool false, .sl 1 [] .nil, .bool false, .sl 1 [] .nil, .int .i64 0] [(0, 1, .c (.str [66])), (1, 1, .c (.int .i64 1)), (3, 4, .t 9), (7, 4, .t 10)]⟩,
   ⟨some 12, none, .buildSlice 1 [.c (.int .i64 0), .c (.int .i64 1)]⟩,
   ⟨some 13, none, .build [.bool false, .sl 1 [] .nil, .bool false, .sl 1 [] .nil] []⟩,
   ⟨some 14, none, .build [.bool false, .sl 1 [] .nil, .bool false, .sl 1 [] .nil] []⟩,
   ⟨some 15, none, .build [.str [], .int .i64 0, .sl 1 [] .nil, .bool false, .sl 1 [] .nil, .bool false, .sl 1 [] .nil, .bool false, .sl 1 [] .nil, .bool false, .sl 1 [] .nil, .int .i64 0] [(0, 1, .c (.str [108])), (1, 1, .c (.int .i64 3)), (2, 1, .t 12), (3, 4, .t 13), (7, 4, .t 14)]⟩,
   ⟨some 16, none, .buildSlice 12 [.t 8, .t 11, .t 15]⟩,
   ⟨some 1, none, .move (.t 16)⟩])
  (.seq (.region none [⟨some 18, none, .move (.t 1)⟩,
   ⟨some 19, none, .call 11 [.t 18]⟩,
   ⟨some 17, none, .move (.t 19)⟩,
   ⟨some 20, none, .extract (.t 17) 0⟩,
   ⟨some 21, none, .extract (.t 17) 1⟩,
   ⟨some 2, none, .alloc [.int .i64 0, .sl 3 [] .nil, .sl 1 [] .nil, .sl 1 [] .nil]⟩,
   ⟨none, none, .store 4 (.t 2) (.t 20)⟩,
   ⟨some 3, none, .move (.t 21)⟩])
  (.seq (.seq (.region none [⟨some 22, none, .move (.t 3)⟩,
   ⟨some 23, none, .bin .neq (.t 22) (.c (.int .i64 0))⟩,
   ⟨some 24, none, .move (.t 23)⟩,
   ⟨some 25, (some (24, false)), .fieldAddr 2 (.t 2)⟩,
   ⟨some 26, (some (24, false)), .load none (.t 25)⟩,
   ⟨some 27, (some (24, false)), .len false (.t 26)⟩,
   ⟨some 28, (some (24, false)), .bin .neq (.t 27) (.c (.int .i64 3))⟩,
   ⟨some 29, none, .pick (.t 24) (.c (.bool true)) (.t 28)⟩,
   ⟨some 30, none, .move (.t 29)⟩,
   ⟨some 31, (some (30, false)), .fieldAddr 2 (.t 2)⟩,
   ⟨some 32, (some (30, false)), .load none (.t 31)⟩,
   ⟨some 33, (some (30, false)), .idxSl 1 (.t 32) (.c (.int .i64 2))⟩,
   ⟨some 34, (some (30, false)), .load none (.t 33)⟩,
   ⟨some 35, (some (30, false)), .len false (.t 34)⟩,
   ⟨some 36, (some (30, false)), .bin .neq (.t 35) (.c (.int .i64 3))⟩,
   ⟨some 37, none, .pick (.t 30) (.c (.bool true)) (.t 36)⟩])
  (.cond (.t 37) (.seq (.region none [⟨some 0, none, .move (.c (.bool false))⟩])
  (.ret))
  (.skip)))
  (c10_2))))
noncomputable def c10 : AFn := { np := 0, nt := 92, results := [.t 0], keep := false, body := c10_b }
noncomputable def c11_1 : ACode := .region none [⟨some 57, none, .bin .add (.t 32) (.c (.int .i64 1))⟩,
   ⟨some 32, none, .move (.t 57)⟩]
noncomputable def c11_2 : ACode := .mask (.n (.n (.n (.n (.n (.n .e true .e) false .e) true (.n .e true .e)) false .e) false (.n (.n .e true (.n .e true .e)) true .e)) true (.n (.n (.n (.n (.n .e true .e) false .e) true (.n .e true .e)) false .e) true (.n .e false (.n .e false (.n .e true .e))))) (c11_1)
noncomputable def c11_3 : ACode := .seq (.block 3 (.seq (.region none [⟨some 34, none, .idxSl 1 (.t 30) (.t 32)⟩,
   ⟨some 35, none, .load none (.t 34)⟩,
   ⟨some 11, none, .move (.t 35)⟩])
  (.seq (.region none [⟨some 37, none, .move (.t 0)⟩,
   ⟨some 38, none, .move (.t 11)⟩,
   ⟨some 39, none, .call 43 [.t 37, .t 38]⟩,
   ⟨some 36, none, .move (.t 39)⟩,
   ⟨some 40, none, .extract (.t 36) 0⟩,
   ⟨some 41, none, .extract (.t 36) 1⟩,
   ⟨some 12, none, .move (.t 40)⟩,
   ⟨some 13, none, .move (.t 41)⟩])
  (.seq (.region none [⟨some 42, none, .move (.t 8)⟩,
   ⟨some 43, none, .move (.t 5)⟩,
   ⟨some 44, none, .nilCheck (.t 43)⟩,
   ⟨some 45, none, .fieldAddr 0 (.t 44)⟩,
   ⟨some 46, none, .fieldAddr 2 (.t 45)⟩,
   ⟨some 47, none, .load none (.t 46)⟩,
   ⟨some 48, none, .move (.t 11)⟩,
   ⟨some 49, none, .idxSl 1 (.t 47) (.t 48)⟩,
   ⟨some 50, none, .load none (.t 49)⟩,
   ⟨some 51, none, .buildSlice 1 [.t 50]⟩,
   ⟨some 52, none, .append 1 24 none (.t 42) (.t 51)⟩,
   ⟨some 8, none, .move (.t 52)⟩])
  (.region none [⟨some 53, none, .move (.t 9)⟩,
   ⟨some 54, none, .move (.t 12)⟩,
   ⟨some 55, none, .buildSlice 1 [.t 54]⟩,
   ⟨some 56, none, .append 1 8 none (.t 53) (.t 55)⟩,
   ⟨some 9, none, .move (.t 56)⟩])))))
  (c11_2)
noncomputable def c11_4 : ACode := .mask (.n (.n (.n (.n (.n (.n .e true .e) false .e) true (.n .e true .e)) false .e) false (.n (.n .e true (.n .e true .e)) true .e)) true (.n (.n (.n (.n (.n .e true .e) false .e) true (.n .e true .e)) false .e) true (.n .e false (.n .e false (.n .e true .e))))) (c11_3)
noncomputable def c11_5 : ACode := .seq (.region none [⟨some 33, none, .bin .lss (.t 32) (.t 31)⟩])
  (.seq (.cond (.t 33) (.skip)
  (.exit 2))
  (c11_4))
noncomputable def c11_6 : ACode := .seq (.region none [⟨some 74, none, .move (.t 9)⟩,
   ⟨some 75, none, .len false (.t 74)⟩,
   ⟨some 76, none, .bin .gtr (.t 75) (.c (.int .i64 0))⟩,
   ⟨some 77, none, .move (.t 76)⟩,
   ⟨some 78, (some (77, true)), .move (.t 9)⟩,
   ⟨some 79, (some (77, true)), .idxSl 1 (.t 78) (.c (.int .i64 0))⟩,
   ⟨some 80, (some (77, true)), .load none (.t 79)⟩,
   ⟨some 81, (some (77, true)), .bin .eql (.t 80) (.c (.int .i64 3))⟩,
   ⟨some 82, none, .pick (.t 77) (.t 81) (.c (.bool false))⟩,
   ⟨some 14, none, .move (.t 82)⟩])
  (.seq (.region none [⟨some 83, none, .move (.t 5)⟩,
   ⟨some 84, none, .move (.t 8)⟩,
   ⟨some 85, none, .move (.t 9)⟩,
   ⟨some 86, none, .fieldAddr 1 (.t 7)⟩,
   ⟨some 87, none, .load none (.t 86)⟩,
   ⟨some 88, none, .bin .eql (.t 87) (.c (.int .i64 4))⟩,
   ⟨some 89, none, .call 44 [.t 83, .t 84, .t 85, .t 88]⟩])
  (.region (some []) [⟨some 90, none, .move (.t 5)⟩,
   ⟨some 91, none, .move (.t 5)⟩,
   ⟨some 92, none, .nilCheck (.t 91)⟩,
   ⟨some 93, none, .fieldAddr 0 (.t 92)⟩,
   ⟨some 94, none, .fieldAddr 2 (.t 93)⟩,
   ⟨some 95, none, .load none (.at 94 5 2)⟩,
   ⟨some 96, none, .move (.t 5)⟩,
   ⟨some 97, none, .fieldAddr 1 (.t 7)⟩,
   ⟨some 98, none, .load none (.t 97)⟩,
   ⟨some 99, none, .move (.t 14)⟩,
   ⟨some 100, none, .callP 46 [.t 98, .t 99]⟩,
   ⟨some 101, none, .callC [(none, .adv 5 2)] 45 [.t 96, .t 100]⟩,
   ⟨some 102, none, .buildSlice 1 [.t 101]⟩,
   ⟨some 103, none, .append 1 24 none (.t 95) (.t 102)⟩,
   ⟨some 104, none, .nilCheck (.t 90)⟩,
   ⟨some 105, none, .fieldAddr 0 (.t 104)⟩,
   ⟨some 106, none, .fieldAddr 2 (.t 105)⟩,
   ⟨none, none, .store 1 (.t 106) (.t 103)⟩]))
noncomputable def c11_7 : ACode := .mask (.n (.n (.n (.n .e true (.n .e true .e)) false .e) false (.n (.n .e true (.n .e true .e)) true .e)) true (.n (.n (.n .e true (.n .e true .e)) false .e) true .e)) (c11_6)
noncomputable def c11_8 : ACode := .seq (.seq (.region none [⟨some 58, none, .fieldAddr 1 (.t 7)⟩,
   ⟨some 59, none, .load none (.t 58)⟩,
   ⟨some 60, none, .bin .eql (.t 59) (.c (.int .i64 5))⟩])
  (.cond (.t 60) (.seq (.region (some []) [⟨some 61, none, .move (.t 8)⟩,
   ⟨some 62, none, .slice 1 (.t 61) none (some (.c (.int .i64 1))) (some (.c (.int .i64 1)))⟩,
   ⟨some 63, none, .move (.t 8)⟩,
   ⟨some 64, none, .idxSl 1 (.t 63) (.c (.int .i64 0))⟩,
   ⟨some 65, none, .load none (.t 64)⟩,
   ⟨some 66, none, .move (.t 8)⟩,
   ⟨some 67, none, .idxSl 1 (.t 66) (.c (.int .i64 1))⟩,
   ⟨some 68, none, .load none (.t 67)⟩,
   ⟨some 69, none, .buildSlice 1 [.t 65, .t 68]⟩,
   ⟨some 70, none, .append 1 24 none (.t 62) (.t 69)⟩,
   ⟨some 8, none, .move (.t 70)⟩])
  (.region none [⟨some 71, none, .move (.t 9)⟩,
   ⟨some 72, none, .buildSlice 1 [.c (.int .i64 1)]⟩,
   ⟨some 73, none, .append 1 8 none (.t 71) (.t 72)⟩,
   ⟨some 9, none, .move (.t 73)⟩]))
  (.skip)))
  (c11_7)
noncomputable def c11_9 : ACode := .mask (.n (.n (.n (.n .e true (.n .e true .e)) false .e) false (.n (.n .e true (.n .e true .e)) true .e)) true (.n (.n (.n .e true (.n .e true .e)) false .e) true .e)) (c11_8)
noncomputable def c11_10 : ACode := .region none [⟨some 107, none, .bin .add (.t 25) (.c (.int .i64 1))⟩,
   ⟨some 25, none, .move (.t 107)⟩]
noncomputable def c11_11 : ACode := .mask (.n (.n (.n (.n .e false (.n .e true .e)) false .e) false (.n (.n .e false (.n .e true .e)) true .e)) true (.n (.n (.n .e false (.n .e true .e)) false .e) true .e)) (c11_10)
noncomputable def c11_12 : ACode := .seq (.block 1 (.seq (.region none [⟨some 27, none, .idxSl 12 (.t 23) (.t 25)⟩,
   ⟨some 28, none, .load (some 12) (.t 27)⟩,
   ⟨some 7, none, .alloc [.str [], .int .i64 0, .sl 1 [] .nil, .bool false, .sl 1 [] .nil, .bool false, .sl 1 [] .nil, .bool false, .sl 1 [] .nil, .bool false, .sl 1 [] .nil, .int .i64 0]⟩,
   ⟨none, none, .store 12 (.t 7) (.t 28)⟩])
  (.seq (.region none [⟨some 8, none, .move (.c (.sl 1 [] .nil))⟩])
  (.seq (.region none [⟨some 9, none, .move (.c (.sl 1 [] .nil))⟩])
  (.seq (.seq (.region none [⟨some 29, none, .fieldAddr 2 (.t 7)⟩,
   ⟨some 30, none, .load none (.t 29)⟩,
   ⟨some 31, none, .len false (.t 30)⟩,
   ⟨some 32, none, .move (.c (.int .i64 0))⟩])
  (.block 2 (.loop (.n (.n (.n (.n (.n (.n .e true .e) false .e) true (.n .e true .e)) false .e) false (.n (.n .e true (.n .e true .e)) true .e)) true (.n (.n (.n (.n (.n .e true .e) false .e) true (.n .e true .e)) false .e) true (.n .e false (.n .e false (.n .e true .e))))) (c11_5))))
  (c11_9))))))
  (c11_11)
noncomputable def c11_13 : ACode := .mask (.n (.n (.n (.n .e false (.n .e true .e)) false .e) false (.n (.n .e false (.n .e true .e)) true .e)) true (.n (.n (.n .e false (.n .e true .e)) false .e) true .e)) (c11_12)
noncomputable def c11_14 : ACode := .seq (.region none [⟨some 26, none, .bin .lss (.t 25) (.t 24)⟩])
  (.seq (.cond (.t 26) (.skip)
  (.exit 0))
  (c11_13))
noncomputable def c11_15 : ACode := .seq (.region none [⟨some 108, none, .move (.t 5)⟩,
   ⟨some 109, none, .move (.t 5)⟩,
   ⟨some 110, none, .nilCheck (.t 109)⟩,
   ⟨some 111, none, .fieldAddr 5 (.t 110)⟩,
   ⟨some 112, none, .load none (.t 111)⟩,
   ⟨some 113, none, .nilCheck (.t 108)⟩,
   ⟨some 114, none, .fieldAddr 0 (.t 113)⟩,
   ⟨some 115, none, .fieldAddr 0 (.t 114)⟩,
   ⟨none, none, .store 1 (.t 115) (.t 112)⟩])
  (.seq (.region none [⟨some 116, none, .move (.t 5)⟩,
   ⟨some 117, none, .nilCheck (.t 116)⟩,
   ⟨some 118, none, .fieldAddr 0 (.t 117)⟩,
   ⟨some 119, none, .load (some 4) (.t 118)⟩,
   ⟨none, none, .store 4 (.t 2) (.t 119)⟩,
   ⟨some 3, none, .move (.c (.int .i64 0))⟩])
  (.ret))
noncomputable def c11_16 : ACode := .mask (.n (.n .e false (.n .e true .e)) false (.n .e true .e)) (c11_15)
noncomputable def c11_17 : ACode := .seq (.region none [⟨some 21, none, .build [.int .i64 0, .sl 3 [] .nil, .sl 1 [] .nil, .sl 1 [] .nil, .nilmap, .int .i64 0] []⟩,
   ⟨some 22, none, .boxMut (.t 21)⟩,
   ⟨some 5, none, .move (.t 22)⟩])
  (.seq (.seq (.region none [⟨some 23, none, .move (.t 0)⟩,
   ⟨some 24, none, .len false (.t 23)⟩,
   ⟨some 25, none, .move (.c (.int .i64 0))⟩])
  (.block 0 (.loop (.n (.n (.n (.n .e false (.n .e true .e)) false .e) false (.n (.n .e false (.n .e true .e)) true .e)) true (.n (.n (.n .e false (.n .e true .e)) false .e) true .e)) (c11_14))))
  (c11_16))
noncomputable def c11_18 : ACode := .mask (.n .e true (.n .e true .e)) (c11_17)
noncomputable def c11_b : ACode := .seq (.region none [⟨some 2, none, .alloc [.int .i64 0, .sl 3 [] .nil, .sl 1 [] .nil, .sl 1 [] .nil]⟩,
   ⟨some 3, none, .move (.c (.int .i64 0))⟩])
  (.seq (.seq (.region none [⟨some 15, none, .move (.t 0)⟩,
   ⟨some 16, none, .call 42 [.t 15]⟩,
   ⟨some 4, none, .move (.t 16)⟩])
  (.seq (.region none [⟨some 17, none, .move (.t 4)⟩,
   ⟨some 18, none, .bin .neq (.t 17) (.c (.int .i64 0))⟩])
  (.cond (.t 18) (.seq (.region none [⟨some 19, none, .build [.int .i64 0, .sl 3 [] .nil, .sl 1 [] .nil, .sl 1 [] .nil] []⟩,
   ⟨some 20, none, .move (.t 4)⟩,
   ⟨none, none, .store 4 (.t 2) (.t 19)⟩,
   ⟨some 3, none, .move (.t 20)⟩])
  (.ret))
  (.skip))))
  (c11_18))
noncomputable def c11 : AFn := { np := 1, nt := 120, results := [.cell 2 (some 4), .t 3], keep := false, body := c11_b }
noncomputable def c15_1 : ACode := .seq (.region none [⟨some 11, none, .move (.t 0)⟩,
   ⟨some 12, none, .move (.t 1)⟩,
   ⟨some 13, none, .build [.int .i64 0, .int .i64 0, .sl 1 [] .nil] [(0, 1, .t 11), (1, 1, .t 12)]⟩,
   ⟨none, none, .store 3 (.t 4) (.t 13)⟩])
  (.ret)
noncomputable def c15_2 : ACode := .mask (.n (.n .e true .e) true (.n (.n .e true .e) false .e)) (c15_1)
noncomputable def c15_b : ACode := .seq (.region none [⟨some 4, none, .alloc [.int .i64 0, .int .i64 0, .sl 1 [] .nil]⟩])
  (.seq (.seq (.region none [⟨some 5, none, .move (.t 0)⟩,
   ⟨some 6, none, .bin .lss (.t 5) (.c (.int .i64 0))⟩,
   ⟨some 7, none, .move (.t 6)⟩,
   ⟨some 8, (some (7, false)), .move (.t 0)⟩,
   ⟨some 9, (some (7, false)), .bin .gtr (.t 8) (.c (.int .i64 2147483647))⟩,
   ⟨some 10, none, .pick (.t 7) (.c (.bool true)) (.t 9)⟩])
  (.cond (.t 10) (.region none [⟨some 0, none, .move (.c (.int .i64 0))⟩])
  (.skip)))
  (c15_2))
noncomputable def c15 : AFn := { np := 2, nt := 14, results := [.cell 4 (some 3)], keep := false, body := c15_b }
noncomputable def c16_1 : ACode := .region none [⟨some 68, none, .move (.t 3)⟩,
   ⟨some 69, none, .bin .add (.t 68) (.c (.int .i64 1))⟩,
   ⟨some 3, none, .move (.t 69)⟩]
noncomputable def c16_2 : ACode := .mask (.n (.n (.n .e true .e) true .e) false (.n (.n .e true .e) false .e)) (c16_1)
noncomputable def c16_3 : ACode := .seq (.region none [⟨some 47, none, .fieldAddr 1 (.t 1)⟩,
   ⟨some 48, none, .load none (.t 47)⟩,
   ⟨some 49, none, .move (.t 4)⟩,
   ⟨some 50, none, .idxSl 3 (.t 48) (.t 49)⟩,
   ⟨some 51, none, .fieldAddr 0 (.t 50)⟩,
   ⟨some 52, none, .load none (.t 51)⟩,
   ⟨some 53, none, .bin .eql (.t 52) (.c (.int .i64 6))⟩])
  (.cond (.t 53) (.seq (.seq (.region none [⟨some 54, none, .move (.t 3)⟩,
   ⟨some 55, none, .fieldAddr 3 (.t 1)⟩,
   ⟨some 56, none, .load none (.t 55)⟩,
   ⟨some 57, none, .len false (.t 56)⟩,
   ⟨some 58, none, .bin .geq (.t 54) (.t 57)⟩,
   ⟨some 59, none, .move (.t 58)⟩,
   ⟨some 60, (some (59, false)), .fieldAddr 3 (.t 1)⟩,
   ⟨some 61, (some (59, false)), .load none (.t 60)⟩,
   ⟨some 62, (some (59, false)), .move (.t 3)⟩,
   ⟨some 63, (some (59, false)), .idxSl 1 (.t 61) (.t 62)⟩,
   ⟨some 64, (some (59, false)), .load none (.t 63)⟩,
   ⟨some 65, (some (59, false)), .move (.t 4)⟩,
   ⟨some 66, (some (59, false)), .bin .neq (.t 64) (.t 65)⟩,
   ⟨some 67, none, .pick (.t 59) (.c (.bool true)) (.t 66)⟩])
  (.cond (.t 67) (.seq (.region none [⟨some 2, none, .move (.c (.int .i64 3))⟩])
  (.ret))
  (.skip)))
  (c16_2))
  (.skip))
noncomputable def c16_4 : ACode := .mask (.n (.n (.n .e true .e) true .e) false (.n (.n .e true .e) false .e)) (c16_3)
noncomputable def c16_5 : ACode := .region none [⟨some 34, none, .move (.t 4)⟩,
   ⟨some 35, none, .bin .add (.t 34) (.c (.int .i64 1))⟩,
   ⟨some 4, none, .move (.t 35)⟩]
noncomputable def c16_6 : ACode := .mask (.n (.n (.n .e true .e) true .e) false (.n (.n .e true .e) false .e)) (c16_5)
noncomputable def c16_7 : ACode := .seq (.block 1 (.seq (.region (some []) [⟨some 36, none, .fieldAddr 1 (.t 1)⟩,
   ⟨some 37, none, .load none (.t 36)⟩,
   ⟨some 38, none, .move (.t 4)⟩,
   ⟨some 39, none, .idxSl 3 (.t 37) (.t 38)⟩,
   ⟨some 40, none, .load (some 3) (.t 39)⟩,
   ⟨some 41, none, .move (.t 4)⟩,
   ⟨some 42, none, .fieldAddr 0 (.t 1)⟩,
   ⟨some 43, none, .load none (.t 42)⟩,
   ⟨some 44, none, .call 51 [.t 40, .t 41, .t 43]⟩,
   ⟨some 5, none, .move (.t 44)⟩])
  (.seq (.seq (.region none [⟨some 45, none, .move (.t 5)⟩,
   ⟨some 46, none, .un .not (.t 45)⟩])
  (.cond (.t 46) (.seq (.region none [⟨some 2, none, .move (.c (.int .i64 3))⟩])
  (.ret))
  (.skip)))
  (c16_4))))
  (c16_6)
noncomputable def c16_8 : ACode := .mask (.n (.n (.n .e true .e) true .e) false (.n (.n .e true .e) false .e)) (c16_7)
noncomputable def c16_9 : ACode := .seq (.seq (.region none [⟨some 29, none, .move (.t 4)⟩,
   ⟨some 30, none, .fieldAddr 1 (.t 1)⟩,
   ⟨some 31, none, .load none (.t 30)⟩,
   ⟨some 32, none, .len false (.t 31)⟩,
   ⟨some 33, none, .bin .lss (.t 29) (.t 32)⟩])
  (.cond (.t 33) (.skip)
  (.exit 0)))
  (c16_8)
noncomputable def c16_10 : ACode := .region none [⟨some 99, none, .move (.t 8)⟩,
   ⟨some 100, none, .bin .add (.t 99) (.c (.int .i64 1))⟩,
   ⟨some 8, none, .move (.t 100)⟩]
noncomputable def c16_11 : ACode := .mask (.n (.n (.n (.n .e true .e) false .e) true .e) false (.n (.n (.n .e true .e) false .e) false (.n .e true .e))) (c16_10)
noncomputable def c16_12 : ACode := .seq (.block 5 (.seq (.region (some []) [⟨some 101, none, .move (.t 7)⟩,
   ⟨some 102, none, .move (.t 8)⟩,
   ⟨some 103, none, .idxSl 1 (.t 101) (.t 102)⟩,
   ⟨some 104, none, .load none (.t 103)⟩,
   ⟨some 105, none, .bin .lss (.t 104) (.c (.int .i64 0))⟩,
   ⟨some 106, none, .move (.t 105)⟩,
   ⟨some 107, (some (106, false)), .move (.t 7)⟩,
   ⟨some 108, (some (106, false)), .move (.t 8)⟩,
   ⟨some 109, (some (106, false)), .idxSl 1 (.t 107) (.t 108)⟩,
   ⟨some 110, (some (106, false)), .load none (.t 109)⟩,
   ⟨some 111, (some (106, false)), .fieldAddr 1 (.t 1)⟩,
   ⟨some 112, (some (106, false)), .load none (.t 111)⟩,
   ⟨some 113, (some (106, false)), .len false (.t 112)⟩,
   ⟨some 114, (some (106, false)), .bin .geq (.t 110) (.t 113)⟩,
   ⟨some 115, none, .pick (.t 106) (.c (.bool true)) (.t 114)⟩])
  (.cond (.t 115) (.seq (.region none [⟨some 2, none, .move (.c (.int .i64 3))⟩])
  (.ret))
  (.skip))))
  (c16_11)
noncomputable def c16_13 : ACode := .mask (.n (.n (.n (.n .e true .e) false .e) true .e) false (.n (.n (.n .e true .e) false .e) false (.n .e true .e))) (c16_12)
noncomputable def c16_14 : ACode := .seq (.seq (.region none [⟨some 95, none, .move (.t 8)⟩,
   ⟨some 96, none, .move (.t 7)⟩,
   ⟨some 97, none, .len false (.t 96)⟩,
   ⟨some 98, none, .bin .lss (.t 95) (.t 97)⟩])
  (.cond (.t 98) (.skip)
  (.exit 4)))
  (c16_13)
noncomputable def c16_15 : ACode := .seq (.region none [⟨some 8, none, .move (.c (.int .i64 0))⟩])
  (.block 4 (.loop (.n (.n (.n (.n .e true .e) false .e) true .e) false (.n (.n (.n .e true .e) false .e) false (.n .e true .e))) (c16_14)))
noncomputable def c16_16 : ACode := .mask (.n (.n (.n (.n .e true .e) false .e) true .e) false (.n .e false (.n .e true .e))) (c16_15)
noncomputable def c16_17 : ACode := .region none [⟨some 80, none, .move (.t 6)⟩,
   ⟨some 81, none, .bin .add (.t 80) (.c (.int .i64 1))⟩,
   ⟨some 6, none, .move (.t 81)⟩]
noncomputable def c16_18 : ACode := .mask (.n (.n .e true .e) false (.n .e false (.n .e true .e))) (c16_17)
noncomputable def c16_19 : ACode := .seq (.block 3 (.seq (.region none [⟨some 82, none, .fieldAddr 2 (.t 1)⟩,
   ⟨some 83, none, .load none (.t 82)⟩,
   ⟨some 84, none, .move (.t 6)⟩,
   ⟨some 85, none, .idxSl 1 (.t 83) (.t 84)⟩,
   ⟨some 86, none, .load none (.t 85)⟩,
   ⟨some 7, none, .move (.t 86)⟩])
  (.seq (.seq (.region none [⟨some 87, none, .move (.t 7)⟩,
   ⟨some 88, none, .len false (.t 87)⟩,
   ⟨some 89, none, .bin .neq (.t 88) (.c (.int .i64 3))⟩,
   ⟨some 90, none, .move (.t 89)⟩,
   ⟨some 91, (some (90, true)), .move (.t 7)⟩,
   ⟨some 92, (some (90, true)), .len false (.t 91)⟩,
   ⟨some 93, (some (90, true)), .bin .neq (.t 92) (.c (.int .i64 7))⟩,
   ⟨some 94, none, .pick (.t 90) (.t 93) (.c (.bool false))⟩])
  (.cond (.t 94) (.seq (.region none [⟨some 2, none, .move (.c (.int .i64 3))⟩])
  (.ret))
  (.skip)))
  (c16_16))))
  (c16_18)
noncomputable def c16_20 : ACode := .mask (.n (.n .e true .e) false (.n .e false (.n .e true .e))) (c16_19)
noncomputable def c16_21 : ACode := .seq (.seq (.region none [⟨some 75, none, .move (.t 6)⟩,
   ⟨some 76, none, .fieldAddr 2 (.t 1)⟩,
   ⟨some 77, none, .load none (.t 76)⟩,
   ⟨some 78, none, .len false (.t 77)⟩,
   ⟨some 79, none, .bin .lss (.t 75) (.t 78)⟩])
  (.cond (.t 79) (.skip)
  (.exit 2)))
  (c16_20)
noncomputable def c16_22 : ACode := .seq (.region none [⟨some 2, none, .move (.c (.int .i64 0))⟩])
  (.ret)
noncomputable def c16_23 : ACode := .mask .e (c16_22)
noncomputable def c16_24 : ACode := .seq (.seq (.region none [⟨some 6, none, .move (.c (.int .i64 0))⟩])
  (.block 2 (.loop (.n (.n .e true .e) false (.n .e false (.n .e true .e))) (c16_21))))
  (c16_23)
noncomputable def c16_25 : ACode := .mask (.n (.n .e true .e) false .e) (c16_24)
noncomputable def c16_26 : ACode := .seq (.seq (.region none [⟨some 70, none, .move (.t 3)⟩,
   ⟨some 71, none, .fieldAddr 3 (.t 1)⟩,
   ⟨some 72, none, .load none (.t 71)⟩,
   ⟨some 73, none, .len false (.t 72)⟩,
   ⟨some 74, none, .bin .neq (.t 70) (.t 73)⟩])
  (.cond (.t 74) (.seq (.region none [⟨some 2, none, .move (.c (.int .i64 3))⟩])
  (.ret))
  (.skip)))
  (c16_25)
noncomputable def c16_27 : ACode := .mask (.n (.n (.n .e true .e) true .e) false .e) (c16_26)
noncomputable def c16_28 : ACode := .seq (.region none [⟨some 3, none, .move (.c (.int .i64 0))⟩])
  (.seq (.seq (.region none [⟨some 4, none, .move (.c (.int .i64 0))⟩])
  (.block 0 (.loop (.n (.n (.n .e true .e) true .e) false (.n (.n .e true .e) false .e)) (c16_9))))
  (c16_27))
noncomputable def c16_29 : ACode := .mask (.n (.n .e true .e) false .e) (c16_28)
noncomputable def c16_b : ACode := .seq (.region none [⟨some 1, none, .boxRo (.t 0)⟩,
   ⟨some 2, none, .move (.c (.int .i64 0))⟩])
  (.seq (.seq (.region none [⟨some 9, none, .fieldAddr 0 (.t 1)⟩,
   ⟨some 10, none, .load none (.t 9)⟩,
   ⟨some 11, none, .bin .lss (.t 10) (.c (.int .i64 0))⟩,
   ⟨some 12, none, .move (.t 11)⟩,
   ⟨some 13, (some (12, false)), .fieldAddr 0 (.t 1)⟩,
   ⟨some 14, (some (12, false)), .load none (.t 13)⟩,
   ⟨some 15, (some (12, false)), .bin .gtr (.t 14) (.c (.int .i64 20))⟩,
   ⟨some 16, none, .pick (.t 12) (.c (.bool true)) (.t 15)⟩,
   ⟨some 17, none, .move (.t 16)⟩,
   ⟨some 18, (some (17, false)), .fieldAddr 1 (.t 1)⟩,
   ⟨some 19, (some (17, false)), .load none (.t 18)⟩,
   ⟨some 20, (some (17, false)), .len false (.t 19)⟩,
   ⟨some 21, (some (17, false)), .bin .gtr (.t 20) (.c (.int .i64 8192))⟩,
   ⟨some 22, none, .pick (.t 17) (.c (.bool true)) (.t 21)⟩,
   ⟨some 23, none, .move (.t 22)⟩,
   ⟨some 24, (some (23, false)), .fieldAddr 3 (.t 1)⟩,
   ⟨some 25, (some (23, false)), .load none (.t 24)⟩,
   ⟨some 26, (some (23, false)), .len false (.t 25)⟩,
   ⟨some 27, (some (23, false)), .bin .gtr (.t 26) (.c (.int .i64 5))⟩,
   ⟨some 28, none, .pick (.t 23) (.c (.bool true)) (.t 27)⟩])
  (.cond (.t 28) (.seq (.region none [⟨some 2, none, .move (.c (.int .i64 3))⟩])
  (.ret))
  (.skip)))
  (c16_29))
noncomputable def c16 : AFn := { np := 1, nt := 116, results := [.t 2], keep := false, body := c16_b }
noncomputable def c18_1 : ACode := .seq (.region none [⟨some 19, none, .move (.t 1)⟩,
   ⟨some 4, none, .move (.t 19)⟩])
  (.ret)
noncomputable def c18_2 : ACode := .mask (.n (.n .e true .e) false .e) (c18_1)
noncomputable def c18_3 : ACode := .seq (.region none [⟨some 9, none, .move (.t 1)⟩,
   ⟨some 10, none, .fieldAddr 0 (.t 2)⟩,
   ⟨some 11, none, .load none (.t 10)⟩,
   ⟨some 12, none, .bin .rem (.t 9) (.t 11)⟩,
   ⟨some 1, none, .move (.t 12)⟩])
  (.seq (.seq (.region none [⟨some 13, none, .move (.t 1)⟩,
   ⟨some 14, none, .bin .lss (.t 13) (.c (.int .i64 0))⟩])
  (.cond (.t 14) (.region none [⟨some 15, none, .move (.t 1)⟩,
   ⟨some 16, none, .fieldAddr 0 (.t 2)⟩,
   ⟨some 17, none, .load none (.t 16)⟩,
   ⟨some 18, none, .bin .add (.t 15) (.t 17)⟩,
   ⟨some 1, none, .move (.t 18)⟩])
  (.skip)))
  (c18_2))
noncomputable def c18_4 : ACode := .mask (.n (.n .e true .e) false (.n .e true .e)) (c18_3)
noncomputable def c18_b : ACode := .seq (.region none [⟨some 2, none, .boxRo (.t 0)⟩,
   ⟨some 4, none, .move (.c (.int .i64 0))⟩])
  (.seq (.seq (.region none [⟨some 5, none, .fieldAddr 0 (.t 2)⟩,
   ⟨some 6, none, .load none (.t 5)⟩,
   ⟨some 7, none, .bin .leq (.t 6) (.c (.int .i64 0))⟩])
  (.cond (.t 7) (.seq (.region none [⟨some 8, none, .move (.t 1)⟩,
   ⟨some 4, none, .move (.t 8)⟩])
  (.ret))
  (.skip)))
  (c18_4))
noncomputable def c18 : AFn := { np := 2, nt := 20, results := [.t 4], keep := false, body := c18_b }
noncomputable def c19_1 : ACode := .region none [⟨some 109, none, .move (.t 9)⟩,
   ⟨some 110, none, .move (.t 13)⟩,
   ⟨some 111, none, .buildSlice 1 [.t 110]⟩,
   ⟨some 112, none, .append 1 8 none (.t 109) (.t 111)⟩,
   ⟨some 9, none, .move (.t 112)⟩]
noncomputable def c19_2 : ACode := .mask (.n (.n (.n (.n (.n (.n .e true .e) false .e) false .e) false .e) false (.n (.n .e true .e) false (.n .e true (.n .e true .e)))) false (.n (.n .e true .e) true (.n (.n .e true .e) false (.n .e false (.n .e true .e))))) (c19_1)
noncomputable def c19_3 : ACode := .region none [⟨some 113, none, .bin .add (.t 31) (.c (.int .i64 1))⟩,
   ⟨some 31, none, .move (.t 113)⟩]
noncomputable def c19_4 : ACode := .mask (.n (.n (.n (.n (.n (.n .e true .e) false .e) false .e) false .e) false (.n (.n .e true .e) false (.n .e false (.n .e true .e)))) false (.n (.n .e true .e) true (.n (.n .e true .e) false (.n .e false (.n .e true .e))))) (c19_3)
noncomputable def c19_5 : ACode := .seq (.block 1 (.seq (.region none [⟨some 33, none, .idxSl 3 (.t 29) (.t 31)⟩,
   ⟨some 34, none, .load (some 3) (.t 33)⟩,
   ⟨some 12, none, .alloc [.int .i64 0, .int .i64 0, .int .i64 0]⟩,
   ⟨none, none, .store 3 (.t 12) (.t 34)⟩])
  (.seq (.region none [⟨some 13, none, .move (.c (.int .i64 0))⟩])
  (.seq (.seq (.region none [⟨some 35, none, .fieldAddr 0 (.t 12)⟩,
   ⟨some 36, none, .load none (.t 35)⟩])
  (.block 2 (.seq (.region none [⟨some 38, none, .bin .eql (.t 36) (.c (.int .i64 1))⟩,
   ⟨some 37, none, .move (.t 38)⟩])
  (.cond (.t 37) (.region none [⟨some 39, none, .move (.t 2)⟩,
   ⟨some 40, none, .fieldAddr 1 (.t 12)⟩,
   ⟨some 41, none, .load none (.t 40)⟩,
   ⟨some 42, none, .idxSl 1 (.t 39) (.t 41)⟩,
   ⟨some 43, none, .load none (.t 42)⟩,
   ⟨some 13, none, .move (.t 43)⟩])
  (.seq (.region none [⟨some 45, none, .bin .eql (.t 36) (.c (.int .i64 2))⟩,
   ⟨some 44, none, .move (.t 45)⟩])
  (.cond (.t 44) (.region none [⟨some 46, none, .fieldAddr 0 (.t 4)⟩,
   ⟨some 47, none, .load none (.t 46)⟩,
   ⟨some 48, none, .fieldAddr 1 (.t 12)⟩,
   ⟨some 49, none, .load none (.t 48)⟩,
   ⟨some 50, none, .callV (.t 47) [.t 49]⟩,
   ⟨some 13, none, .move (.t 50)⟩])
  (.seq (.region none [⟨some 52, none, .bin .eql (.t 36) (.c (.int .i64 3))⟩,
   ⟨some 51, none, .move (.t 52)⟩])
  (.cond (.t 51) (.region (some []) [⟨some 53, none, .fieldAddr 1 (.t 4)⟩,
   ⟨some 54, none, .load none (.t 53)⟩,
   ⟨some 55, none, .move (.t 9)⟩,
   ⟨some 56, none, .fieldAddr 1 (.t 12)⟩,
   ⟨some 57, none, .load none (.t 56)⟩,
   ⟨some 58, none, .idxSl 1 (.t 55) (.t 57)⟩,
   ⟨some 59, none, .load none (.t 58)⟩,
   ⟨some 60, none, .move (.t 9)⟩,
   ⟨some 61, none, .fieldAddr 2 (.t 12)⟩,
   ⟨some 62, none, .load none (.t 61)⟩,
   ⟨some 63, none, .idxSl 1 (.t 60) (.t 62)⟩,
   ⟨some 64, none, .load none (.t 63)⟩,
   ⟨some 65, none, .callV (.t 54) [.t 59, .t 64]⟩,
   ⟨some 13, none, .move (.t 65)⟩])
  (.seq (.region none [⟨some 67, none, .bin .eql (.t 36) (.c (.int .i64 4))⟩,
   ⟨some 66, none, .move (.t 67)⟩])
  (.cond (.t 66) (.region (some []) [⟨some 68, none, .fieldAddr 2 (.t 4)⟩,
   ⟨some 69, none, .load none (.t 68)⟩,
   ⟨some 70, none, .move (.t 9)⟩,
   ⟨some 71, none, .fieldAddr 1 (.t 12)⟩,
   ⟨some 72, none, .load none (.t 71)⟩,
   ⟨some 73, none, .idxSl 1 (.t 70) (.t 72)⟩,
   ⟨some 74, none, .load none (.t 73)⟩,
   ⟨some 75, none, .move (.t 9)⟩,
   ⟨some 76, none, .fieldAddr 2 (.t 12)⟩,
   ⟨some 77, none, .load none (.t 76)⟩,
   ⟨some 78, none, .idxSl 1 (.t 75) (.t 77)⟩,
   ⟨some 79, none, .load none (.t 78)⟩,
   ⟨some 80, none, .callV (.t 69) [.t 74, .t 79]⟩,
   ⟨some 13, none, .move (.t 80)⟩])
  (.seq (.region none [⟨some 82, none, .bin .eql (.t 36) (.c (.int .i64 5))⟩,
   ⟨some 81, none, .move (.t 82)⟩])
  (.cond (.t 81) (.region (some []) [⟨some 83, none, .fieldAddr 3 (.t 4)⟩,
   ⟨some 84, none, .load none (.t 83)⟩,
   ⟨some 85, none, .move (.t 9)⟩,
   ⟨some 86, none, .fieldAddr 1 (.t 12)⟩,
   ⟨some 87, none, .load none (.t 86)⟩,
   ⟨some 88, none, .idxSl 1 (.t 85) (.t 87)⟩,
   ⟨some 89, none, .load none (.t 88)⟩,
   ⟨some 90, none, .move (.t 9)⟩,
   ⟨some 91, none, .fieldAddr 2 (.t 12)⟩,
   ⟨some 92, none, .load none (.t 91)⟩,
   ⟨some 93, none, .idxSl 1 (.t 90) (.t 92)⟩,
   ⟨some 94, none, .load none (.t 93)⟩,
   ⟨some 95, none, .callV (.t 84) [.t 89, .t 94]⟩,
   ⟨some 13, none, .move (.t 95)⟩])
  (.seq (.region none [⟨some 97, none, .bin .eql (.t 36) (.c (.int .i64 6))⟩,
   ⟨some 96, none, .move (.t 97)⟩])
  (.cond (.t 96) (.seq (.region (some []) [⟨some 98, none, .fieldAddr 4 (.t 4)⟩,
   ⟨some 99, none, .load none (.t 98)⟩,
   ⟨some 100, none, .move (.t 10)⟩,
   ⟨some 101, none, .move (.t 9)⟩,
   ⟨some 102, none, .fieldAddr 1 (.t 12)⟩,
   ⟨some 103, none, .load none (.t 102)⟩,
   ⟨some 104, none, .idxSl 1 (.t 101) (.t 103)⟩,
   ⟨some 105, none, .load none (.t 104)⟩,
   ⟨some 106, none, .callV (.t 99) [.t 100, .t 105]⟩,
   ⟨some 13, none, .move (.t 106)⟩])
  (.region none [⟨some 107, none, .move (.t 10)⟩,
   ⟨some 108, none, .bin .add (.t 107) (.c (.int .i64 1))⟩,
   ⟨some 10, none, .move (.t 108)⟩]))
  (.skip)))))))))))))))
  (c19_2)))))
  (c19_4)
noncomputable def c19_6 : ACode := .mask (.n (.n (.n (.n (.n (.n .e true .e) false .e) false .e) false .e) false (.n (.n .e true .e) false (.n .e false (.n .e true .e)))) false (.n (.n .e true .e) true (.n (.n .e true .e) false (.n .e false (.n .e true .e))))) (c19_5)
noncomputable def c19_7 : ACode := .seq (.region none [⟨some 32, none, .bin .lss (.t 31) (.t 30)⟩])
  (.seq (.cond (.t 32) (.skip)
  (.exit 0))
  (c19_6))
noncomputable def c19_8 : ACode := .seq (.region none [⟨some 114, none, .move (.t 9)⟩,
   ⟨some 6, none, .move (.t 114)⟩,
   ⟨some 7, none, .move (.c (.int .i64 0))⟩])
  (.ret)
noncomputable def c19_9 : ACode := .mask (.n (.n .e false (.n (.n .e true .e) false .e)) false .e) (c19_8)
noncomputable def c19_10 : ACode := .seq (.region none [⟨some 24, none, .fieldAddr 1 (.t 3)⟩,
   ⟨some 25, none, .load none (.t 24)⟩,
   ⟨some 26, none, .len false (.t 25)⟩,
   ⟨some 27, none, .makeSlice [.int .i64 0] 8 (.c (.int .i64 0)) (.t 26)⟩,
   ⟨some 9, none, .move (.t 27)⟩])
  (.seq (.region none [⟨some 10, none, .move (.c (.int .i64 0))⟩])
  (.seq (.seq (.region none [⟨some 28, none, .fieldAddr 1 (.t 3)⟩,
   ⟨some 29, none, .load none (.t 28)⟩,
   ⟨some 30, none, .len false (.t 29)⟩,
   ⟨some 31, none, .move (.c (.int .i64 0))⟩])
  (.block 0 (.loop (.n (.n (.n (.n (.n (.n .e true .e) false .e) false .e) false .e) false (.n (.n .e true .e) false (.n .e false (.n .e true .e)))) false (.n (.n .e true .e) true (.n (.n .e true .e) false (.n .e false (.n .e true .e))))) (c19_7))))
  (c19_9)))
noncomputable def c19_11 : ACode := .mask (.n (.n (.n .e true .e) false .e) false (.n (.n .e true .e) true .e)) (c19_10)
noncomputable def c19_12 : ACode := .seq (.seq (.region none [⟨some 19, none, .move (.t 2)⟩,
   ⟨some 20, none, .len false (.t 19)⟩,
   ⟨some 21, none, .fieldAddr 0 (.t 3)⟩,
   ⟨some 22, none, .load none (.t 21)⟩,
   ⟨some 23, none, .bin .neq (.t 20) (.t 22)⟩])
  (.cond (.t 23) (.seq (.region none [⟨some 6, none, .move (.c (.sl 1 [] .nil))⟩,
   ⟨some 7, none, .move (.c (.int .i64 1))⟩])
  (.ret))
  (.skip)))
  (c19_11)
noncomputable def c19_13 : ACode := .mask (.n (.n (.n .e true .e) false .e) false (.n (.n .e true .e) true .e)) (c19_12)
noncomputable def c19_b : ACode := .seq (.region none [⟨some 3, none, .boxRo (.t 0)⟩,
   ⟨some 4, none, .boxRo (.t 1)⟩,
   ⟨some 6, none, .move (.c (.sl 1 [] .nil))⟩,
   ⟨some 7, none, .move (.c (.int .i64 0))⟩])
  (.seq (.seq (.region none [⟨some 14, none, .load (some 4) (.t 3)⟩,
   ⟨some 15, none, .call 52 [.t 14]⟩,
   ⟨some 8, none, .move (.t 15)⟩])
  (.seq (.region none [⟨some 16, none, .move (.t 8)⟩,
   ⟨some 17, none, .bin .neq (.t 16) (.c (.int .i64 0))⟩])
  (.cond (.t 17) (.seq (.region none [⟨some 18, none, .move (.t 8)⟩,
   ⟨some 6, none, .move (.c (.sl 1 [] .nil))⟩,
   ⟨some 7, none, .move (.t 18)⟩])
  (.ret))
  (.skip))))
  (c19_13))
noncomputable def c19 : AFn := { np := 3, nt := 115, results := [.t 6, .t 7], keep := false, body := c19_b }
noncomputable def c20_b : ACode := .seq (.region none [⟨some 1, none, .boxRo (.t 0)⟩,
   ⟨some 2, none, .alloc [.nilf, .nilf, .nilf, .nilf, .nilf]⟩])
  (.seq (.region none [⟨some 3, none, .mkFunc 53 [.t 1]⟩,
   ⟨some 4, none, .mkFunc 54 [.t 1]⟩,
   ⟨some 5, none, .mkFunc 55 [.t 1]⟩,
   ⟨some 6, none, .mkFunc 56 [.t 1]⟩,
   ⟨some 7, none, .mkFunc 57 [.t 1]⟩,
   ⟨some 8, none, .build [.nilf, .nilf, .nilf, .nilf, .nilf] [(0, 1, .t 3), (1, 1, .t 4), (2, 1, .t 5), (3, 1, .t 6), (4, 1, .t 7)]⟩,
   ⟨none, none, .store 5 (.t 2) (.t 8)⟩])
  (.ret))
noncomputable def c20 : AFn := { np := 1, nt := 9, results := [.cell 2 (some 5)], keep := false, body := c20_b }
noncomputable def c24_b : ACode := .seq (.region none [⟨some 3, none, .boxRo (.t 0)⟩,
   ⟨some 6, none, .move (.c (.int .i64 0))⟩])
  (.seq (.region none [⟨some 7, none, .load (some 3) (.t 3)⟩,
   ⟨some 8, none, .move (.t 1)⟩,
   ⟨some 9, none, .move (.t 2)⟩,
   ⟨some 10, none, .bin .add (.t 8) (.t 9)⟩,
   ⟨some 11, none, .call 18 [.t 7, .t 10]⟩,
   ⟨some 6, none, .move (.t 11)⟩])
  (.ret))
noncomputable def c24 : AFn := { np := 3, nt := 12, results := [.t 6], keep := false, body := c24_b }
noncomputable def c26_b : ACode := .seq (.region none [⟨some 3, none, .boxRo (.t 0)⟩,
   ⟨some 6, none, .move (.c (.int .i64 0))⟩])
  (.seq (.region none [⟨some 7, none, .load (some 3) (.t 3)⟩,
   ⟨some 8, none, .move (.t 1)⟩,
   ⟨some 9, none, .move (.t 2)⟩,
   ⟨some 10, none, .bin .sub (.t 8) (.t 9)⟩,
   ⟨some 11, none, .call 18 [.t 7, .t 10]⟩,
   ⟨some 6, none, .move (.t 11)⟩])
  (.ret))
noncomputable def c26 : AFn := { np := 3, nt := 12, results := [.t 6], keep := false, body := c26_b }
noncomputable def c28_b : ACode := .seq (.region none [⟨some 3, none, .boxRo (.t 0)⟩,
   ⟨some 6, none, .move (.c (.int .i64 0))⟩])
  (.seq (.region none [⟨some 7, none, .load (some 3) (.t 3)⟩,
   ⟨some 8, none, .move (.t 1)⟩,
   ⟨some 9, none, .move (.t 2)⟩,
   ⟨some 10, none, .bin .mul (.t 8) (.t 9)⟩,
   ⟨some 11, none, .call 18 [.t 7, .t 10]⟩,
   ⟨some 6, none, .move (.t 11)⟩])
  (.ret))
noncomputable def c28 : AFn := { np := 3, nt := 12, results := [.t 6], keep := false, body := c28_b }
noncomputable def c30_1 : ACode := .seq (.region (some []) [⟨some 23, none, .load (some 3) (.t 3)⟩,
   ⟨some 24, none, .load (some 3) (.t 3)⟩,
   ⟨some 25, none, .load (some 3) (.t 3)⟩,
   ⟨some 26, none, .fieldAddr 1 (.t 3)⟩,
   ⟨some 27, none, .load none (.t 26)⟩,
   ⟨some 28, none, .callP 18 [.t 25, .t 27]⟩,
   ⟨some 29, none, .move (.t 2)⟩,
   ⟨some 30, none, .callP 28 [.t 24, .t 28, .t 29]⟩,
   ⟨some 31, none, .load (some 3) (.t 3)⟩,
   ⟨some 32, none, .move (.t 1)⟩,
   ⟨some 33, none, .bin .add (.t 32) (.c (.int .i64 1))⟩,
   ⟨some 34, none, .callP 18 [.t 31, .t 33]⟩,
   ⟨some 35, none, .call 24 [.t 23, .t 30, .t 34]⟩,
   ⟨some 6, none, .move (.t 35)⟩])
  (.ret)
noncomputable def c30_2 : ACode := .mask (.n (.n (.n .e true .e) true .e) false (.n .e true .e)) (c30_1)
noncomputable def c30_b : ACode := .seq (.region none [⟨some 3, none, .boxRo (.t 0)⟩,
   ⟨some 6, none, .move (.c (.int .i64 0))⟩])
  (.seq (.seq (.region none [⟨some 7, none, .move (.t 1)⟩,
   ⟨some 8, none, .bin .geq (.t 7) (.c (.int .i64 0))⟩,
   ⟨some 9, none, .move (.t 8)⟩,
   ⟨some 10, (some (9, true)), .move (.t 1)⟩,
   ⟨some 11, (some (9, true)), .fieldAddr 2 (.t 3)⟩,
   ⟨some 12, (some (9, true)), .load none (.t 11)⟩,
   ⟨some 13, (some (9, true)), .len false (.t 12)⟩,
   ⟨some 14, (some (9, true)), .bin .lss (.t 10) (.t 13)⟩,
   ⟨some 15, none, .pick (.t 9) (.t 14) (.c (.bool false))⟩])
  (.cond (.t 15) (.seq (.region (some []) [⟨some 16, none, .load (some 3) (.t 3)⟩,
   ⟨some 17, none, .fieldAddr 2 (.t 3)⟩,
   ⟨some 18, none, .load none (.t 17)⟩,
   ⟨some 19, none, .move (.t 1)⟩,
   ⟨some 20, none, .idxSl 1 (.t 18) (.t 19)⟩,
   ⟨some 21, none, .load none (.t 20)⟩,
   ⟨some 22, none, .call 18 [.t 16, .t 21]⟩,
   ⟨some 6, none, .move (.t 22)⟩])
  (.ret))
  (.skip)))
  (c30_2))
noncomputable def c30 : AFn := { np := 3, nt := 36, results := [.t 6], keep := false, body := c30_b }
noncomputable def c32_1 : ACode := .region none [⟨some 15, none, .move (.t 5)⟩,
   ⟨some 16, none, .bin .add (.t 15) (.c (.int .i64 1))⟩,
   ⟨some 5, none, .move (.t 16)⟩]
noncomputable def c32_2 : ACode := .mask (.n (.n .e true (.n .e true .e)) true .e) (c32_1)
noncomputable def c32_3 : ACode := .seq (.block 1 (.seq (.region (some []) [⟨some 17, none, .move (.t 0)⟩,
   ⟨some 18, none, .move (.t 5)⟩,
   ⟨some 19, none, .idxSl 1 (.t 17) (.t 18)⟩,
   ⟨some 20, none, .load none (.t 19)⟩,
   ⟨some 21, none, .move (.t 1)⟩,
   ⟨some 22, none, .move (.t 5)⟩,
   ⟨some 23, none, .idxSl 1 (.t 21) (.t 22)⟩,
   ⟨some 24, none, .load none (.t 23)⟩,
   ⟨some 25, none, .bin .neq (.t 20) (.t 24)⟩])
  (.cond (.t 25) (.seq (.region none [⟨some 4, none, .move (.c (.bool false))⟩])
  (.ret))
  (.skip))))
  (c32_2)
noncomputable def c32_4 : ACode := .mask (.n (.n .e true (.n .e true .e)) true .e) (c32_3)
noncomputable def c32_5 : ACode := .seq (.seq (.region none [⟨some 11, none, .move (.t 5)⟩,
   ⟨some 12, none, .move (.t 0)⟩,
   ⟨some 13, none, .len false (.t 12)⟩,
   ⟨some 14, none, .bin .lss (.t 11) (.t 13)⟩])
  (.cond (.t 14) (.skip)
  (.exit 0)))
  (c32_4)
noncomputable def c32_6 : ACode := .seq (.region none [⟨some 4, none, .move (.c (.bool true))⟩])
  (.ret)
noncomputable def c32_7 : ACode := .mask .e (c32_6)
noncomputable def c32_8 : ACode := .seq (.seq (.region none [⟨some 5, none, .move (.c (.int .i64 0))⟩])
  (.block 0 (.loop (.n (.n .e true (.n .e true .e)) true .e) (c32_5))))
  (c32_7)
noncomputable def c32_9 : ACode := .mask (.n (.n .e true .e) true .e) (c32_8)
noncomputable def c32_b : ACode := .seq (.region none [⟨some 4, none, .move (.c (.bool false))⟩])
  (.seq (.seq (.region none [⟨some 6, none, .move (.t 0)⟩,
   ⟨some 7, none, .len false (.t 6)⟩,
   ⟨some 8, none, .move (.t 1)⟩,
   ⟨some 9, none, .len false (.t 8)⟩,
   ⟨some 10, none, .bin .neq (.t 7) (.t 9)⟩])
  (.cond (.t 10) (.seq (.region none [⟨some 4, none, .move (.c (.bool false))⟩])
  (.ret))
  (.skip)))
  (c32_9))
noncomputable def c32 : AFn := { np := 2, nt := 26, results := [.t 4], keep := false, body := c32_b }
noncomputable def c33_1 : ACode := .region none [⟨some 67, none, .load none (.t 5)⟩,
   ⟨some 68, none, .buildSlice 1 [.c (.int .u8 10)]⟩,
   ⟨some 69, none, .append 1 1 none (.t 67) (.t 68)⟩,
   ⟨none, none, .store 1 (.t 5) (.t 69)⟩]
noncomputable def c33_2 : ACode := .mask (.n (.n .e false (.n (.n (.n .e true .e) false .e) true .e)) false (.n (.n (.n (.n .e true .e) false .e) false .e) false (.n (.n (.n .e true .e) false .e) true .e))) (c33_1)
noncomputable def c33_3 : ACode := .region none [⟨some 70, none, .bin .add (.t 18) (.c (.int .i64 1))⟩,
   ⟨some 18, none, .move (.t 70)⟩]
noncomputable def c33_4 : ACode := .mask (.n (.n .e false (.n (.n (.n .e true .e) false .e) true .e)) false (.n (.n (.n (.n .e true .e) false .e) false .e) false (.n (.n (.n .e true .e) false .e) true .e))) (c33_3)
noncomputable def c33_5 : ACode := .seq (.block 1 (.seq (.region none [⟨some 20, none, .move (.t 18)⟩,
   ⟨some 21, none, .idxSl 3 (.t 16) (.t 18)⟩,
   ⟨some 22, none, .load (some 3) (.t 21)⟩,
   ⟨some 8, none, .alloc [.int .i64 0, .int .i64 0, .int .i64 0]⟩,
   ⟨some 7, none, .move (.t 20)⟩,
   ⟨none, none, .store 3 (.t 8) (.t 22)⟩])
  (.seq (.region none [⟨some 23, none, .move (.t 6)⟩,
   ⟨some 24, none, .move (.t 7)⟩,
   ⟨some 25, none, .callV (.t 23) [.t 24]⟩])
  (.seq (.region none [⟨some 26, none, .load none (.t 5)⟩,
   ⟨some 27, none, .append 1 1 none (.t 26) (.c (.str [32, 61, 32]))⟩,
   ⟨none, none, .store 1 (.t 5) (.t 27)⟩])
  (.seq (.seq (.region none [⟨some 28, none, .fieldAddr 0 (.t 8)⟩,
   ⟨some 29, none, .load none (.t 28)⟩])
  (.block 2 (.seq (.region none [⟨some 46, none, .bin .eql (.t 29) (.c (.int .i64 1))⟩,
   ⟨some 45, none, .move (.t 46)⟩])
  (.cond (.t 45) (.region (some []) [⟨some 47, none, .load none (.t 5)⟩,
   ⟨some 48, none, .appendS 1 1 none (.t 47) (.c (.str [105, 110, 32]))⟩,
   ⟨some 49, none, .fieldAddr 1 (.t 8)⟩,
   ⟨some 50, none, .load none (.t 49)⟩,
   ⟨some 51, none, .call 60 [.t 48, .t 50, .c (.int .i64 10)]⟩,
   ⟨none, none, .store 1 (.t 5) (.t 51)⟩])
  (.seq (.region none [⟨some 53, none, .bin .eql (.t 29) (.c (.int .i64 2))⟩,
   ⟨some 52, none, .move (.t 53)⟩])
  (.cond (.t 52) (.region (some []) [⟨some 54, none, .load none (.t 5)⟩,
   ⟨some 55, none, .appendS 1 1 none (.t 54) (.c (.str [99, 111, 110, 115, 116, 32]))⟩,
   ⟨some 56, none, .fieldAddr 1 (.t 8)⟩,
   ⟨some 57, none, .load none (.t 56)⟩,
   ⟨some 58, none, .call 60 [.t 55, .t 57, .c (.int .i64 10)]⟩,
   ⟨none, none, .store 1 (.t 5) (.t 58)⟩])
  (.seq (.region none [⟨some 60, none, .bin .eql (.t 29) (.c (.int .i64 6))⟩,
   ⟨some 59, none, .move (.t 60)⟩])
  (.cond (.t 59) (.seq (.region none [⟨some 61, none, .load none (.t 5)⟩,
   ⟨some 62, none, .append 1 1 none (.t 61) (.c (.str [114, 111, 111, 116, 32]))⟩,
   ⟨none, none, .store 1 (.t 5) (.t 62)⟩])
  (.region none [⟨some 63, none, .move (.t 6)⟩,
   ⟨some 64, none, .fieldAddr 1 (.t 8)⟩,
   ⟨some 65, none, .load none (.t 64)⟩,
   ⟨some 66, none, .callV (.t 63) [.t 65]⟩]))
  (.seq (.region none [⟨some 30, none, .move (.t 6)⟩,
   ⟨some 31, none, .fieldAddr 1 (.t 8)⟩,
   ⟨some 32, none, .load none (.t 31)⟩,
   ⟨some 33, none, .callV (.t 30) [.t 32]⟩])
  (.seq (.region (some []) [⟨some 34, none, .load none (.t 5)⟩,
   ⟨some 35, none, .fieldAddr 0 (.t 8)⟩,
   ⟨some 36, none, .load none (.t 35)⟩,
   ⟨some 37, none, .bin .sub (.t 36) (.c (.int .i64 3))⟩,
   ⟨some 38, none, .idxStr (.c (.str [43, 45, 42])) (.t 37)⟩,
   ⟨some 39, none, .buildSlice 1 [.c (.int .u8 32), .t 38, .c (.int .u8 32)]⟩,
   ⟨some 40, none, .append 1 1 none (.t 34) (.t 39)⟩,
   ⟨none, none, .store 1 (.t 5) (.t 40)⟩])
  (.region none [⟨some 41, none, .move (.t 6)⟩,
   ⟨some 42, none, .fieldAddr 2 (.t 8)⟩,
   ⟨some 43, none, .load none (.t 42)⟩,
   ⟨some 44, none, .callV (.t 41) [.t 43]⟩])))))))))))
  (c33_2))))))
  (c33_4)
noncomputable def c33_6 : ACode := .mask (.n (.n .e false (.n (.n (.n .e true .e) false .e) true .e)) false (.n (.n (.n (.n .e true .e) false .e) false .e) false (.n (.n (.n .e true .e) false .e) true .e))) (c33_5)
noncomputable def c33_7 : ACode := .seq (.region none [⟨some 19, none, .bin .lss (.t 18) (.t 17)⟩])
  (.seq (.cond (.t 19) (.skip)
  (.exit 0))
  (c33_6))
noncomputable def c33_8 : ACode := .seq (.region none [⟨some 71, none, .load none (.t 5)⟩,
   ⟨some 72, none, .bytesToStr (.t 71)⟩,
   ⟨some 2, none, .move (.t 72)⟩,
   ⟨some 3, none, .move (.c (.int .i64 0))⟩])
  (.ret)
noncomputable def c33_9 : ACode := .mask (.n (.n .e false (.n .e true .e)) false .e) (c33_8)
noncomputable def c33_10 : ACode := .seq (.region none [⟨some 5, none, .alloc [.sl 1 [] .nil]⟩])
  (.seq (.region none [⟨some 14, none, .mkFunc 59 [.t 5]⟩,
   ⟨some 6, none, .move (.t 14)⟩])
  (.seq (.seq (.region none [⟨some 15, none, .fieldAddr 1 (.t 1)⟩,
   ⟨some 16, none, .load none (.t 15)⟩,
   ⟨some 17, none, .len false (.t 16)⟩,
   ⟨some 18, none, .move (.c (.int .i64 0))⟩])
  (.block 0 (.loop (.n (.n .e false (.n (.n (.n .e true .e) false .e) true .e)) false (.n (.n (.n (.n .e true .e) false .e) false .e) false (.n (.n (.n .e true .e) false .e) true .e))) (c33_7))))
  (c33_9)))
noncomputable def c33_11 : ACode := .mask (.n (.n .e true .e) false .e) (c33_10)
noncomputable def c33_b : ACode := .seq (.region none [⟨some 1, none, .boxRo (.t 0)⟩,
   ⟨some 2, none, .move (.c (.str []))⟩,
   ⟨some 3, none, .move (.c (.int .i64 0))⟩])
  (.seq (.seq (.region none [⟨some 9, none, .load (some 4) (.t 1)⟩,
   ⟨some 10, none, .call 52 [.t 9]⟩,
   ⟨some 4, none, .move (.t 10)⟩])
  (.seq (.region none [⟨some 11, none, .move (.t 4)⟩,
   ⟨some 12, none, .bin .neq (.t 11) (.c (.int .i64 0))⟩])
  (.cond (.t 12) (.seq (.region none [⟨some 13, none, .move (.t 4)⟩,
   ⟨some 2, none, .move (.c (.str []))⟩,
   ⟨some 3, none, .move (.t 13)⟩])
  (.ret))
  (.skip))))
  (c33_11))
noncomputable def c33 : AFn := { np := 1, nt := 73, results := [.t 2, .t 3], keep := false, body := c33_b }
noncomputable def c34_1 : ACode := .seq (.region none [⟨some 93, none, .move (.t 5)⟩,
   ⟨some 94, none, .move (.t 8)⟩,
   ⟨some 95, none, .append 1 1 none (.t 93) (.t 94)⟩,
   ⟨some 5, none, .move (.t 95)⟩])
  (.region none [⟨some 96, none, .move (.t 5)⟩,
   ⟨some 97, none, .buildSlice 1 [.c (.int .u8 10)]⟩,
   ⟨some 98, none, .append 1 1 none (.t 96) (.t 97)⟩,
   ⟨some 5, none, .move (.t 98)⟩])
noncomputable def c34_2 : ACode := .mask (.n (.n .e true (.n .e true .e)) false (.n (.n (.n .e true .e) false .e) false (.n .e true .e))) (c34_1)
noncomputable def c34_3 : ACode := .region none [⟨some 19, none, .move (.t 6)⟩,
   ⟨some 20, none, .bin .add (.t 19) (.c (.int .i64 1))⟩,
   ⟨some 6, none, .move (.t 20)⟩]
noncomputable def c34_4 : ACode := .mask (.n (.n .e true (.n .e true .e)) false (.n .e false (.n .e true .e))) (c34_3)
noncomputable def c34_5 : ACode := .seq (.block 1 (.seq (.region none [⟨some 21, none, .fieldAddr 1 (.t 1)⟩,
   ⟨some 22, none, .load none (.t 21)⟩,
   ⟨some 23, none, .move (.t 6)⟩,
   ⟨some 24, none, .idxSl 3 (.t 22) (.t 23)⟩,
   ⟨some 25, none, .load (some 3) (.t 24)⟩,
   ⟨some 7, none, .alloc [.int .i64 0, .int .i64 0, .int .i64 0]⟩,
   ⟨none, none, .store 3 (.t 7) (.t 25)⟩])
  (.seq (.region none [⟨some 26, none, .move (.t 6)⟩,
   ⟨some 27, none, .call 61 [.t 26]⟩,
   ⟨some 28, none, .bin .add (.c (.str [114])) (.t 27)⟩,
   ⟨some 29, none, .bin .add (.t 28) (.c (.str [32, 61, 32]))⟩,
   ⟨some 8, none, .move (.t 29)⟩])
  (.seq (.seq (.region none [⟨some 30, none, .fieldAddr 0 (.t 7)⟩,
   ⟨some 31, none, .load none (.t 30)⟩])
  (.block 2 (.seq (.region none [⟨some 44, none, .bin .eql (.t 31) (.c (.int .i64 1))⟩,
   ⟨some 43, none, .move (.t 44)⟩])
  (.cond (.t 43) (.region none [⟨some 45, none, .move (.t 8)⟩,
   ⟨some 46, none, .bin .add (.t 45) (.c (.str [105, 110, 32]))⟩,
   ⟨some 47, none, .fieldAddr 1 (.t 7)⟩,
   ⟨some 48, none, .load none (.t 47)⟩,
   ⟨some 49, none, .call 61 [.t 48]⟩,
   ⟨some 50, none, .bin .add (.t 46) (.t 49)⟩,
   ⟨some 8, none, .move (.t 50)⟩])
  (.seq (.region none [⟨some 52, none, .bin .eql (.t 31) (.c (.int .i64 2))⟩,
   ⟨some 51, none, .move (.t 52)⟩])
  (.cond (.t 51) (.region none [⟨some 53, none, .move (.t 8)⟩,
   ⟨some 54, none, .bin .add (.t 53) (.c (.str [99, 111, 110, 115, 116, 32]))⟩,
   ⟨some 55, none, .fieldAddr 1 (.t 7)⟩,
   ⟨some 56, none, .load none (.t 55)⟩,
   ⟨some 57, none, .call 61 [.t 56]⟩,
   ⟨some 58, none, .bin .add (.t 54) (.t 57)⟩,
   ⟨some 8, none, .move (.t 58)⟩])
  (.seq (.region none [⟨some 60, none, .bin .eql (.t 31) (.c (.int .i64 6))⟩,
   ⟨some 59, none, .move (.t 60)⟩])
  (.cond (.t 59) (.region none [⟨some 61, none, .move (.t 8)⟩,
   ⟨some 62, none, .bin .add (.t 61) (.c (.str [114, 111, 111, 116, 32, 114]))⟩,
   ⟨some 63, none, .fieldAddr 1 (.t 7)⟩,
   ⟨some 64, none, .load none (.t 63)⟩,
   ⟨some 65, none, .call 61 [.t 64]⟩,
   ⟨some 66, none, .bin .add (.t 62) (.t 65)⟩,
   ⟨some 8, none, .move (.t 66)⟩])
  (.seq (.region none [⟨some 68, none, .bin .eql (.t 31) (.c (.int .i64 3))⟩,
   ⟨some 67, none, .move (.t 68)⟩])
  (.cond (.t 67) (.region (some []) [⟨some 69, none, .move (.t 8)⟩,
   ⟨some 70, none, .bin .add (.t 69) (.c (.str [114]))⟩,
   ⟨some 71, none, .fieldAddr 1 (.t 7)⟩,
   ⟨some 72, none, .load none (.t 71)⟩,
   ⟨some 73, none, .callP 61 [.t 72]⟩,
   ⟨some 74, none, .bin .add (.t 70) (.t 73)⟩,
   ⟨some 75, none, .bin .add (.t 74) (.c (.str [32, 43, 32, 114]))⟩,
   ⟨some 76, none, .fieldAddr 2 (.t 7)⟩,
   ⟨some 77, none, .load none (.t 76)⟩,
   ⟨some 78, none, .call 61 [.t 77]⟩,
   ⟨some 79, none, .bin .add (.t 75) (.t 78)⟩,
   ⟨some 8, none, .move (.t 79)⟩])
  (.seq (.region none [⟨some 81, none, .bin .eql (.t 31) (.c (.int .i64 4))⟩,
   ⟨some 80, none, .move (.t 81)⟩])
  (.cond (.t 80) (.region (some []) [⟨some 82, none, .move (.t 8)⟩,
   ⟨some 83, none, .bin .add (.t 82) (.c (.str [114]))⟩,
   ⟨some 84, none, .fieldAddr 1 (.t 7)⟩,
   ⟨some 85, none, .load none (.t 84)⟩,
   ⟨some 86, none, .callP 61 [.t 85]⟩,
   ⟨some 87, none, .bin .add (.t 83) (.t 86)⟩,
   ⟨some 88, none, .bin .add (.t 87) (.c (.str [32, 45, 32, 114]))⟩,
   ⟨some 89, none, .fieldAddr 2 (.t 7)⟩,
   ⟨some 90, none, .load none (.t 89)⟩,
   ⟨some 91, none, .call 61 [.t 90]⟩,
   ⟨some 92, none, .bin .add (.t 88) (.t 91)⟩,
   ⟨some 8, none, .move (.t 92)⟩])
  (.region (some []) [⟨some 32, none, .move (.t 8)⟩,
   ⟨some 33, none, .bin .add (.t 32) (.c (.str [114]))⟩,
   ⟨some 34, none, .fieldAddr 1 (.t 7)⟩,
   ⟨some 35, none, .load none (.t 34)⟩,
   ⟨some 36, none, .callP 61 [.t 35]⟩,
   ⟨some 37, none, .bin .add (.t 33) (.t 36)⟩,
   ⟨some 38, none, .bin .add (.t 37) (.c (.str [32, 42, 32, 114]))⟩,
   ⟨some 39, none, .fieldAddr 2 (.t 7)⟩,
   ⟨some 40, none, .load none (.t 39)⟩,
   ⟨some 41, none, .call 61 [.t 40]⟩,
   ⟨some 42, none, .bin .add (.t 38) (.t 41)⟩,
   ⟨some 8, none, .move (.t 42)⟩])))))))))))))
  (c34_2)))))
  (c34_4)
noncomputable def c34_6 : ACode := .mask (.n (.n .e true (.n .e true .e)) false (.n .e false (.n .e true .e))) (c34_5)
noncomputable def c34_7 : ACode := .seq (.seq (.region none [⟨some 14, none, .move (.t 6)⟩,
   ⟨some 15, none, .fieldAddr 1 (.t 1)⟩,
   ⟨some 16, none, .load none (.t 15)⟩,
   ⟨some 17, none, .len false (.t 16)⟩,
   ⟨some 18, none, .bin .lss (.t 14) (.t 17)⟩])
  (.cond (.t 18) (.skip)
  (.exit 0)))
  (c34_6)
noncomputable def c34_8 : ACode := .seq (.region none [⟨some 99, none, .move (.t 5)⟩,
   ⟨some 100, none, .bytesToStr (.t 99)⟩,
   ⟨some 2, none, .move (.t 100)⟩,
   ⟨some 3, none, .move (.c (.int .i64 0))⟩])
  (.ret)
noncomputable def c34_9 : ACode := .mask (.n (.n .e false (.n .e true .e)) false .e) (c34_8)
noncomputable def c34_10 : ACode := .seq (.region none [⟨some 5, none, .move (.c (.sl 1 [] .nil))⟩])
  (.seq (.seq (.region none [⟨some 6, none, .move (.c (.int .i64 0))⟩])
  (.block 0 (.loop (.n (.n .e true (.n .e true .e)) false (.n .e false (.n .e true .e))) (c34_7))))
  (c34_9))
noncomputable def c34_11 : ACode := .mask (.n (.n .e true .e) false .e) (c34_10)
noncomputable def c34_b : ACode := .seq (.region none [⟨some 1, none, .boxRo (.t 0)⟩,
   ⟨some 2, none, .move (.c (.str []))⟩,
   ⟨some 3, none, .move (.c (.int .i64 0))⟩])
  (.seq (.region none [⟨some 9, none, .load (some 4) (.t 1)⟩,
   ⟨some 10, none, .call 16 [.t 9]⟩,
   ⟨some 4, none, .move (.t 10)⟩])
  (.seq (.seq (.region none [⟨some 11, none, .move (.t 4)⟩,
   ⟨some 12, none, .bin .neq (.t 11) (.c (.int .i64 0))⟩])
  (.cond (.t 12) (.seq (.region none [⟨some 13, none, .move (.t 4)⟩,
   ⟨some 2, none, .move (.c (.str []))⟩,
   ⟨some 3, none, .move (.t 13)⟩])
  (.ret))
  (.skip)))
  (c34_11)))
noncomputable def c34 : AFn := { np := 1, nt := 101, results := [.t 2, .t 3], keep := false, body := c34_b }
noncomputable def c41_1 : ACode := .seq (.region none [⟨some 14, none, .load (some 4) (.t 3)⟩,
   ⟨none, none, .store 4 (.t 2) (.t 14)⟩])
  (.ret)
noncomputable def c41_2 : ACode := .mask (.n (.n (.n .e true .e) false .e) false (.n .e true .e)) (c41_1)
noncomputable def c41_b : ACode := .seq (.region none [⟨some 2, none, .alloc [.bool false, .sl 1 [] .nil, .bool false, .sl 1 [] .nil]⟩])
  (.seq (.region none [⟨some 4, none, .buildSlice 1 [.c (.int .u32 1)]⟩,
   ⟨some 5, none, .build [.bool false, .sl 1 [] .nil] [(1, 1, .t 4)]⟩,
   ⟨some 6, none, .build [.bool false, .sl 1 [] .nil, .bool false, .sl 1 [] .nil] [(2, 2, .t 5)]⟩,
   ⟨some 3, none, .alloc [.bool false, .sl 1 [] .nil, .bool false, .sl 1 [] .nil]⟩,
   ⟨none, none, .store 4 (.t 3) (.t 6)⟩])
  (.seq (.seq (.region none [⟨some 7, none, .move (.t 0)⟩,
   ⟨some 8, none, .bin .gtr (.t 7) (.c (.int .i64 0))⟩])
  (.cond (.t 8) (.region none [⟨some 9, none, .move (.t 0)⟩,
   ⟨some 10, none, .convInt .u32 (.t 9)⟩,
   ⟨some 11, none, .buildSlice 1 [.t 10]⟩,
   ⟨some 12, none, .build [.bool false, .sl 1 [] .nil] [(1, 1, .t 11)]⟩,
   ⟨some 13, none, .fieldAddr 0 (.t 3)⟩,
   ⟨none, none, .store 2 (.t 13) (.t 12)⟩])
  (.skip)))
  (c41_2)))
noncomputable def c41 : AFn := { np := 1, nt := 15, results := [.cell 2 (some 4)], keep := false, body := c41_b }
noncomputable def c42_1 : ACode := .seq (.region none [⟨some 19, none, .load (some 12) (.t 5)⟩,
   ⟨some 20, none, .call 71 [.t 19]⟩])
  (.cond (.t 20) (.region none [⟨some 21, none, .move (.t 3)⟩,
   ⟨some 22, none, .bin .add (.t 21) (.c (.int .i64 1))⟩,
   ⟨some 3, none, .move (.t 22)⟩])
  (.skip))
noncomputable def c42_2 : ACode := .mask (.n (.n (.n (.n .e true .e) true .e) false (.n .e true .e)) true (.n (.n (.n .e true .e) false .e) false (.n .e true .e))) (c42_1)
noncomputable def c42_3 : ACode := .region none [⟨some 23, none, .bin .add (.t 8) (.c (.int .i64 1))⟩,
   ⟨some 8, none, .move (.t 23)⟩]
noncomputable def c42_4 : ACode := .mask (.n (.n (.n (.n .e true .e) true .e) false .e) true (.n (.n (.n .e true .e) false .e) false (.n .e true .e))) (c42_3)
noncomputable def c42_5 : ACode := .seq (.block 1 (.seq (.region none [⟨some 10, none, .move (.t 8)⟩,
   ⟨some 11, none, .idxSl 12 (.t 6) (.t 8)⟩,
   ⟨some 12, none, .load (some 12) (.t 11)⟩,
   ⟨some 5, none, .alloc [.str [], .int .i64 0, .sl 1 [] .nil, .bool false, .sl 1 [] .nil, .bool false, .sl 1 [] .nil, .bool false, .sl 1 [] .nil, .bool false, .sl 1 [] .nil, .int .i64 0]⟩,
   ⟨some 4, none, .move (.t 10)⟩,
   ⟨none, none, .store 12 (.t 5) (.t 12)⟩])
  (.seq (.seq (.region none [⟨some 13, none, .move (.t 0)⟩,
   ⟨some 14, none, .move (.t 4)⟩,
   ⟨some 15, none, .bin .add (.t 14) (.c (.int .i64 1))⟩,
   ⟨some 16, none, .slice 12 (.t 13) none (some (.t 15)) none⟩,
   ⟨some 17, none, .call 70 [.t 16]⟩,
   ⟨some 18, none, .un .not (.t 17)⟩])
  (.cond (.t 18) (.seq (.region none [⟨some 2, none, .move (.c (.int .i64 120))⟩])
  (.ret))
  (.skip)))
  (c42_2))))
  (c42_4)
noncomputable def c42_6 : ACode := .mask (.n (.n (.n (.n .e true .e) true .e) false .e) true (.n (.n (.n .e true .e) false .e) false (.n .e true .e))) (c42_5)
noncomputable def c42_7 : ACode := .seq (.region none [⟨some 9, none, .bin .lss (.t 8) (.t 7)⟩])
  (.seq (.cond (.t 9) (.skip)
  (.exit 0))
  (c42_6))
noncomputable def c42_8 : ACode := .seq (.region none [⟨some 2, none, .move (.c (.int .i64 0))⟩])
  (.ret)
noncomputable def c42_9 : ACode := .mask .e (c42_8)
noncomputable def c42_10 : ACode := .seq (.seq (.region none [⟨some 24, none, .move (.t 0)⟩,
   ⟨some 25, none, .len false (.t 24)⟩,
   ⟨some 26, none, .bin .gtr (.t 25) (.c (.int .i64 40))⟩,
   ⟨some 27, none, .move (.t 26)⟩,
   ⟨some 28, (some (27, false)), .move (.t 3)⟩,
   ⟨some 29, (some (27, false)), .bin .gtr (.t 28) (.c (.int .i64 5))⟩,
   ⟨some 30, none, .pick (.t 27) (.c (.bool true)) (.t 29)⟩,
   ⟨some 31, none, .move (.t 30)⟩,
   ⟨some 32, (some (31, false)), .move (.t 0)⟩,
   ⟨some 33, (some (31, false)), .call 72 [.t 32]⟩,
   ⟨some 34, (some (31, false)), .len false (.t 33)⟩,
   ⟨some 35, (some (31, false)), .bin .gtr (.t 34) (.c (.int .i64 20))⟩,
   ⟨some 36, none, .pick (.t 31) (.c (.bool true)) (.t 35)⟩])
  (.cond (.t 36) (.seq (.region none [⟨some 2, none, .move (.c (.int .i64 111))⟩])
  (.ret))
  (.skip)))
  (c42_9)
noncomputable def c42_11 : ACode := .mask (.n (.n (.n .e true .e) false .e) true .e) (c42_10)
noncomputable def c42_b : ACode := .seq (.region none [⟨some 2, none, .move (.c (.int .i64 0))⟩])
  (.seq (.region none [⟨some 3, none, .move (.c (.int .i64 0))⟩])
  (.seq (.seq (.region none [⟨some 6, none, .move (.t 0)⟩,
   ⟨some 7, none, .len false (.t 6)⟩,
   ⟨some 8, none, .move (.c (.int .i64 0))⟩])
  (.block 0 (.loop (.n (.n (.n (.n .e true .e) true .e) false .e) true (.n (.n (.n .e true .e) false .e) false (.n .e true .e))) (c42_7))))
  (c42_11)))
noncomputable def c42 : AFn := { np := 1, nt := 37, results := [.t 2], keep := false, body := c42_b }
noncomputable def c43_1 : ACode := .seq (.region none [⟨some 13, none, .move (.t 0)⟩,
   ⟨some 14, none, .move (.t 1)⟩,
   ⟨some 15, none, .idxSl 12 (.t 13) (.t 14)⟩,
   ⟨some 16, none, .load (some 12) (.t 15)⟩,
   ⟨some 17, none, .call 74 [.t 16]⟩,
   ⟨some 4, none, .move (.t 17)⟩,
   ⟨some 5, none, .move (.c (.int .i64 0))⟩])
  (.ret)
noncomputable def c43_2 : ACode := .mask (.n (.n .e true .e) true .e) (c43_1)
noncomputable def c43_b : ACode := .seq (.region none [⟨some 4, none, .move (.c (.int .i64 0))⟩,
   ⟨some 5, none, .move (.c (.int .i64 0))⟩])
  (.seq (.seq (.region none [⟨some 7, none, .move (.t 0)⟩,
   ⟨some 8, none, .move (.t 1)⟩,
   ⟨some 9, none, .call 73 [.t 7, .t 8]⟩,
   ⟨some 6, none, .move (.t 9)⟩])
  (.seq (.region none [⟨some 10, none, .move (.t 6)⟩,
   ⟨some 11, none, .bin .neq (.t 10) (.c (.int .i64 0))⟩])
  (.cond (.t 11) (.seq (.region none [⟨some 12, none, .move (.t 6)⟩,
   ⟨some 4, none, .move (.c (.int .i64 0))⟩,
   ⟨some 5, none, .move (.t 12)⟩])
  (.ret))
  (.skip))))
  (c43_2))
noncomputable def c43 : AFn := { np := 2, nt := 18, results := [.t 4, .t 5], keep := false, body := c43_b }
noncomputable def c44_1 : ACode := .region none [⟨some 35, none, .move (.t 11)⟩,
   ⟨some 36, none, .idxArr 1 4 (.t 8) (.t 35)⟩,
   ⟨some 37, none, .load none (.t 36)⟩,
   ⟨some 38, none, .bin .add (.t 37) (.c (.int .i64 1))⟩,
   ⟨some 39, none, .idxArr 1 4 (.t 8) (.t 35)⟩,
   ⟨none, none, .store 1 (.t 39) (.t 38)⟩]
noncomputable def c44_2 : ACode := .mask (.n (.n (.n (.n .e false (.n .e true .e)) true (.n .e true .e)) true (.n (.n .e true (.n .e true .e)) false .e)) true (.n (.n (.n .e true (.n .e true .e)) false .e) true .e)) (c44_1)
noncomputable def c44_3 : ACode := .region none [⟨some 40, none, .bin .add (.t 25) (.c (.int .i64 1))⟩,
   ⟨some 25, none, .move (.t 40)⟩]
noncomputable def c44_4 : ACode := .mask (.n (.n (.n (.n .e false (.n .e true .e)) true .e) true (.n (.n .e true (.n .e true .e)) false .e)) true (.n (.n (.n .e true (.n .e true .e)) false .e) true .e)) (c44_3)
noncomputable def c44_5 : ACode := .seq (.block 1 (.seq (.region none [⟨some 27, none, .move (.t 25)⟩,
   ⟨some 28, none, .idxSl 1 (.t 23) (.t 25)⟩,
   ⟨some 29, none, .load none (.t 28)⟩,
   ⟨some 10, none, .move (.t 27)⟩,
   ⟨some 11, none, .move (.t 29)⟩])
  (.seq (.seq (.region none [⟨some 30, none, .move (.t 3)⟩])
  (.cond (.t 30) (.seq (.region none [⟨some 11, none, .move (.c (.int .i64 1))⟩])
  (.region none [⟨some 31, none, .move (.t 2)⟩,
   ⟨some 32, none, .move (.t 10)⟩,
   ⟨some 33, none, .move (.t 11)⟩,
   ⟨some 34, none, .idxSl 1 (.t 31) (.t 32)⟩,
   ⟨none, none, .store 1 (.t 34) (.t 33)⟩]))
  (.skip)))
  (c44_2))))
  (c44_4)
noncomputable def c44_6 : ACode := .mask (.n (.n (.n (.n .e false (.n .e true .e)) true .e) true (.n (.n .e true (.n .e true .e)) false .e)) true (.n (.n (.n .e true (.n .e true .e)) false .e) true .e)) (c44_5)
noncomputable def c44_7 : ACode := .seq (.region none [⟨some 26, none, .bin .lss (.t 25) (.t 24)⟩])
  (.seq (.cond (.t 26) (.skip)
  (.exit 0))
  (c44_6))
noncomputable def c44_8 : ACode := .region none [⟨some 89, none, .bin .add (.t 71) (.c (.int .i64 1))⟩,
   ⟨some 71, none, .move (.t 89)⟩]
noncomputable def c44_9 : ACode := .mask (.n (.n (.n (.n (.n .e true (.n .e true .e)) false (.n (.n (.n .e true .e) false .e) false .e)) false .e) false (.n (.n .e true .e) false (.n (.n (.n (.n .e true .e) false .e) false .e) false (.n (.n .e true .e) false .e)))) true (.n (.n (.n (.n .e true .e) true .e) false (.n .e true .e)) true (.n .e false (.n (.n (.n (.n .e true .e) false .e) false .e) false (.n (.n .e true .e) false .e))))) (c44_8)
noncomputable def c44_10 : ACode := .seq (.block 5 (.seq (.region none [⟨some 73, none, .move (.t 71)⟩,
   ⟨some 74, none, .idxSl 1 (.t 69) (.t 71)⟩,
   ⟨some 75, none, .load none (.t 74)⟩,
   ⟨some 17, none, .move (.t 73)⟩,
   ⟨some 18, none, .move (.t 75)⟩])
  (.region (some []) [⟨some 76, none, .move (.t 0)⟩,
   ⟨some 77, none, .nilCheck (.t 76)⟩,
   ⟨some 78, none, .fieldAddr 4 (.t 77)⟩,
   ⟨some 79, none, .load none (.t 78)⟩,
   ⟨some 80, none, .move (.t 15)⟩,
   ⟨some 81, none, .idxArr 1 4 (.t 12) (.t 80)⟩,
   ⟨some 82, none, .load none (.t 81)⟩,
   ⟨some 83, none, .move (.t 17)⟩,
   ⟨some 84, none, .idxSl 1 (.t 82) (.t 83)⟩,
   ⟨some 85, none, .load none (.t 84)⟩,
   ⟨some 86, none, .move (.t 16)⟩,
   ⟨some 87, none, .bin .add (.t 85) (.t 86)⟩,
   ⟨some 88, none, .move (.t 18)⟩,
   ⟨none, none, .mapPut .str (.t 79) (.t 87) (.t 88)⟩])))
  (c44_9)
noncomputable def c44_11 : ACode := .mask (.n (.n (.n (.n (.n .e true (.n .e true .e)) false (.n (.n (.n .e true .e) false .e) false .e)) false .e) false (.n (.n .e true .e) false (.n (.n (.n (.n .e true .e) false .e) false .e) false (.n (.n .e true .e) false .e)))) true (.n (.n (.n (.n .e true .e) true .e) false (.n .e true .e)) true (.n .e false (.n (.n (.n (.n .e true .e) false .e) false .e) false (.n (.n .e true .e) false .e))))) (c44_10)
noncomputable def c44_12 : ACode := .seq (.region none [⟨some 72, none, .bin .lss (.t 71) (.t 70)⟩])
  (.seq (.cond (.t 72) (.skip)
  (.exit 4))
  (c44_11))
noncomputable def c44_13 : ACode := .seq (.region none [⟨some 69, none, .move (.t 14)⟩,
   ⟨some 70, none, .len false (.t 69)⟩,
   ⟨some 71, none, .move (.c (.int .i64 0))⟩])
  (.block 4 (.loop (.n (.n (.n (.n (.n .e true (.n .e true .e)) false (.n (.n (.n .e true .e) false .e) false .e)) false .e) false (.n (.n .e true .e) false (.n (.n (.n (.n .e true .e) false .e) false .e) false (.n (.n .e true .e) false .e)))) true (.n (.n (.n (.n .e true .e) true .e) false (.n .e true .e)) true (.n .e false (.n (.n (.n (.n .e true .e) false .e) false .e) false (.n (.n .e true .e) false .e))))) (c44_12)))
noncomputable def c44_14 : ACode := .mask (.n (.n (.n (.n (.n .e true (.n .e true .e)) false .e) false .e) false (.n (.n .e true .e) false (.n .e false (.n (.n .e true .e) false .e)))) true (.n (.n (.n (.n .e true .e) true .e) false (.n .e true .e)) true (.n .e false (.n .e true (.n (.n .e true .e) false .e))))) (c44_13)
noncomputable def c44_15 : ACode := .region none [⟨some 90, none, .bin .add (.t 47) (.c (.int .i64 1))⟩,
   ⟨some 47, none, .move (.t 90)⟩]
noncomputable def c44_16 : ACode := .mask (.n (.n (.n (.n (.n .e false (.n .e true .e)) false .e) false .e) false (.n (.n .e true .e) false (.n .e false (.n (.n .e true .e) false .e)))) true (.n (.n (.n .e true .e) false (.n .e true .e)) true (.n .e false (.n .e false (.n (.n .e true .e) false .e))))) (c44_15)
noncomputable def c44_17 : ACode := .seq (.block 3 (.seq (.region none [⟨some 49, none, .move (.t 47)⟩,
   ⟨some 50, none, .idxSl 1 (.t 45) (.t 47)⟩,
   ⟨some 51, none, .load none (.t 50)⟩,
   ⟨some 13, none, .move (.t 49)⟩,
   ⟨some 14, none, .move (.t 51)⟩])
  (.seq (.region none [⟨some 52, none, .move (.t 2)⟩,
   ⟨some 53, none, .move (.t 13)⟩,
   ⟨some 54, none, .idxSl 1 (.t 52) (.t 53)⟩,
   ⟨some 55, none, .load none (.t 54)⟩,
   ⟨some 15, none, .move (.t 55)⟩])
  (.seq (.region none [⟨some 56, none, .move (.t 15)⟩,
   ⟨some 57, none, .idxArr 1 4 (.t 9) (.t 56)⟩,
   ⟨some 58, none, .load none (.t 57)⟩,
   ⟨some 59, none, .bin .add (.t 58) (.c (.int .i64 1))⟩,
   ⟨some 60, none, .idxArr 1 4 (.t 9) (.t 56)⟩,
   ⟨none, none, .store 1 (.t 60) (.t 59)⟩])
  (.seq (.region none [⟨some 16, none, .move (.c (.str []))⟩])
  (.seq (.seq (.region none [⟨some 61, none, .move (.t 15)⟩,
   ⟨some 62, none, .idxArr 1 4 (.t 8) (.t 61)⟩,
   ⟨some 63, none, .load none (.t 62)⟩,
   ⟨some 64, none, .bin .gtr (.t 63) (.c (.int .i64 1))⟩])
  (.cond (.t 64) (.region none [⟨some 65, none, .move (.t 15)⟩,
   ⟨some 66, none, .idxArr 1 4 (.t 9) (.t 65)⟩,
   ⟨some 67, none, .load none (.t 66)⟩,
   ⟨some 68, none, .call 75 [.t 67]⟩,
   ⟨some 16, none, .move (.t 68)⟩])
  (.skip)))
  (c44_14)))))))
  (c44_16)
noncomputable def c44_18 : ACode := .mask (.n (.n (.n (.n (.n .e false (.n .e true .e)) false .e) false .e) false (.n (.n .e true .e) false (.n .e false (.n (.n .e true .e) false .e)))) true (.n (.n (.n .e true .e) false (.n .e true .e)) true (.n .e false (.n .e false (.n (.n .e true .e) false .e))))) (c44_17)
noncomputable def c44_19 : ACode := .seq (.region none [⟨some 48, none, .bin .lss (.t 47) (.t 46)⟩])
  (.seq (.cond (.t 48) (.skip)
  (.exit 2))
  (c44_18))
noncomputable def c44_20 : ACode := .seq (.region none [⟨some 41, none, .buildSlice 1 [.c (.str [120]), .c (.str [121]), .c (.str [122])]⟩,
   ⟨some 42, none, .buildSlice 1 [.c (.str [97]), .c (.str [98]), .c (.str [99])]⟩,
   ⟨some 43, none, .buildSlice 1 [.c (.str [117]), .c (.str [112]), .c (.str [113]), .c (.str [114]), .c (.str [97, 120]), .c (.str [97, 121]), .c (.str [97, 122])]⟩,
   ⟨some 44, none, .build [.sl 1 [] .nil, .sl 1 [] .nil, .sl 1 [] .nil, .sl 1 [] .nil] [(0, 1, .c (.sl 1 [] .nil)), (1, 1, .t 41), (2, 1, .t 42), (3, 1, .t 43)]⟩,
   ⟨some 12, none, .alloc [.sl 1 [] .nil, .sl 1 [] .nil, .sl 1 [] .nil, .sl 1 [] .nil]⟩,
   ⟨none, none, .store 4 (.t 12) (.t 44)⟩])
  (.seq (.region none [⟨some 45, none, .move (.t 1)⟩,
   ⟨some 46, none, .len false (.t 45)⟩,
   ⟨some 47, none, .move (.c (.int .i64 0))⟩])
  (.block 2 (.loop (.n (.n (.n (.n (.n .e false (.n .e true .e)) false .e) false .e) false (.n (.n .e true .e) false (.n .e false (.n (.n .e true .e) false .e)))) true (.n (.n (.n .e true .e) false (.n .e true .e)) true (.n .e false (.n .e false (.n (.n .e true .e) false .e))))) (c44_19))))
noncomputable def c44_21 : ACode := .mask (.n (.n .e true (.n (.n .e true .e) false .e)) true (.n (.n (.n .e true .e) false .e) true .e)) (c44_20)
noncomputable def c44_b : ACode := .seq (.region none [⟨some 19, none, .move (.t 0)⟩,
   ⟨some 20, none, .makeMap (some (.t 0))⟩,
   ⟨some 21, none, .nilCheck (.t 19)⟩,
   ⟨some 22, none, .fieldAddr 4 (.t 21)⟩,
   ⟨none, none, .store 1 (.t 22) (.t 20)⟩])
  (.seq (.region none [⟨some 8, none, .alloc [.int .i64 0, .int .i64 0, .int .i64 0, .int .i64 0]⟩,
   ⟨some 9, none, .alloc [.int .i64 0, .int .i64 0, .int .i64 0, .int .i64 0]⟩])
  (.seq (.seq (.region none [⟨some 23, none, .move (.t 2)⟩,
   ⟨some 24, none, .len false (.t 23)⟩,
   ⟨some 25, none, .move (.c (.int .i64 0))⟩])
  (.block 0 (.loop (.n (.n (.n (.n .e false (.n .e true .e)) true .e) true (.n (.n .e true (.n .e true .e)) false .e)) true (.n (.n (.n .e true (.n .e true .e)) false .e) true .e)) (c44_7))))
  (c44_21)))
noncomputable def c44 : AFn := { np := 4, nt := 91, results := [], keep := false, body := c44_b }
noncomputable def c45_1 : ACode := .region none [⟨some 17, none, .move (.t 5)⟩,
   ⟨some 18, none, .bin .add (.t 17) (.c (.int .i64 2))⟩,
   ⟨some 5, none, .move (.t 18)⟩]
noncomputable def c45_2 : ACode := .mask (.n (.n (.n .e true .e) false (.n .e true .e)) true .e) (c45_1)
noncomputable def c45_3 : ACode := .seq (.block 1 (.seq (.region (some []) [⟨some 19, none, .fieldAddr 0 (.t 3)⟩,
   ⟨some 20, none, .load none (.t 19)⟩,
   ⟨some 21, none, .move (.t 5)⟩,
   ⟨some 22, none, .idxSl 1 (.t 20) (.t 21)⟩,
   ⟨some 23, none, .load none (.t 22)⟩,
   ⟨some 24, none, .fieldAddr 0 (.t 3)⟩,
   ⟨some 25, none, .load none (.t 24)⟩,
   ⟨some 26, none, .move (.t 5)⟩,
   ⟨some 27, none, .bin .add (.t 26) (.c (.int .i64 1))⟩,
   ⟨some 28, none, .idxSl 1 (.t 25) (.t 27)⟩,
   ⟨some 29, none, .load none (.t 28)⟩,
   ⟨some 6, none, .move (.t 23)⟩,
   ⟨some 7, none, .move (.t 29)⟩])
  (.block 2 (.seq (.region none [⟨some 39, none, .move (.t 7)⟩,
   ⟨some 40, none, .bin .eql (.t 39) (.c (.str [105, 110]))⟩,
   ⟨some 38, none, .move (.t 40)⟩])
  (.cond (.t 38) (.seq (.region (some []) [⟨some 41, none, .move (.t 0)⟩,
   ⟨some 42, none, .nilCheck (.t 41)⟩,
   ⟨some 43, none, .fieldAddr 4 (.t 42)⟩,
   ⟨some 44, none, .load none (.at 43 0 4)⟩,
   ⟨some 45, none, .move (.t 6)⟩,
   ⟨some 46, none, .move (.t 0)⟩,
   ⟨some 47, none, .move (.t 0)⟩,
   ⟨some 48, none, .nilCheck (.t 47)⟩,
   ⟨some 49, none, .fieldAddr 5 (.t 48)⟩,
   ⟨some 50, none, .load none (.t 49)⟩,
   ⟨some 51, none, .callC [(none, .adv 0 4)] 76 [.t 46, .c (.int .i64 1), .t 50, .c (.int .i64 0)]⟩,
   ⟨none, none, .mapPut .str (.t 44) (.t 45) (.t 51)⟩])
  (.region none [⟨some 52, none, .move (.t 0)⟩,
   ⟨some 53, none, .nilCheck (.t 52)⟩,
   ⟨some 54, none, .fieldAddr 5 (.t 53)⟩,
   ⟨some 55, none, .load none (.t 54)⟩,
   ⟨some 56, none, .bin .add (.t 55) (.c (.int .i64 1))⟩,
   ⟨some 57, none, .nilCheck (.t 52)⟩,
   ⟨some 58, none, .fieldAddr 5 (.t 57)⟩,
   ⟨none, none, .store 1 (.t 58) (.t 56)⟩]))
  (.seq (.region none [⟨some 60, none, .move (.t 7)⟩,
   ⟨some 61, none, .idxStr (.t 60) (.c (.int .i64 0))⟩,
   ⟨some 62, none, .bin .eql (.t 61) (.c (.int .u8 33))⟩,
   ⟨some 59, none, .move (.t 62)⟩])
  (.cond (.t 59) (.seq (.region (some []) [⟨some 63, none, .move (.t 0)⟩,
   ⟨some 64, none, .nilCheck (.t 63)⟩,
   ⟨some 65, none, .fieldAddr 4 (.t 64)⟩,
   ⟨some 66, none, .load none (.at 65 0 4)⟩,
   ⟨some 67, none, .move (.t 6)⟩,
   ⟨some 68, none, .move (.t 0)⟩,
   ⟨some 69, none, .move (.t 0)⟩,
   ⟨some 70, none, .move (.t 7)⟩,
   ⟨some 71, none, .subStr (.t 70) (some (.c (.int .i64 1))) none⟩,
   ⟨some 72, none, .callC [(none, .adv 0 4)] 77 [.t 69, .t 71]⟩,
   ⟨some 73, none, .callC [(none, .adv 0 4)] 76 [.t 68, .c (.int .i64 6), .t 72, .c (.int .i64 0)]⟩,
   ⟨none, none, .mapPut .str (.t 66) (.t 67) (.t 73)⟩])
  (.region (some []) [⟨some 74, none, .move (.t 0)⟩,
   ⟨some 75, none, .move (.t 0)⟩,
   ⟨some 76, none, .nilCheck (.t 75)⟩,
   ⟨some 77, none, .fieldAddr 0 (.t 76)⟩,
   ⟨some 78, none, .fieldAddr 3 (.t 77)⟩,
   ⟨some 79, none, .load none (.t 78)⟩,
   ⟨some 80, none, .move (.t 0)⟩,
   ⟨some 81, none, .nilCheck (.t 80)⟩,
   ⟨some 82, none, .fieldAddr 4 (.t 81)⟩,
   ⟨some 83, none, .load none (.t 82)⟩,
   ⟨some 84, none, .move (.t 6)⟩,
   ⟨some 85, none, .lookup .str (.int .i64 0) false (.t 83) (.t 84)⟩,
   ⟨some 86, none, .buildSlice 1 [.t 85]⟩,
   ⟨some 87, none, .append 1 8 (some (.t 0)) (.t 79) (.t 86)⟩,
   ⟨some 88, none, .nilCheck (.t 74)⟩,
   ⟨some 89, none, .fieldAddr 0 (.t 88)⟩,
   ⟨some 90, none, .fieldAddr 3 (.t 89)⟩,
   ⟨none, none, .store 1 (.t 90) (.t 87)⟩]))
  (.region (some []) [⟨some 30, none, .move (.t 0)⟩,
   ⟨some 31, none, .nilCheck (.t 30)⟩,
   ⟨some 32, none, .fieldAddr 4 (.t 31)⟩,
   ⟨some 33, none, .load none (.at 32 0 4)⟩,
   ⟨some 34, none, .move (.t 6)⟩,
   ⟨some 35, none, .move (.t 0)⟩,
   ⟨some 36, none, .move (.t 7)⟩,
   ⟨some 37, none, .callC [(none, .adv 0 4)] 77 [.t 35, .t 36]⟩,
   ⟨none, none, .mapPut .str (.t 33) (.t 34) (.t 37)⟩]))))))))
  (c45_2)
noncomputable def c45_4 : ACode := .mask (.n (.n (.n .e true .e) false (.n .e true .e)) true .e) (c45_3)
noncomputable def c45_5 : ACode := .seq (.seq (.region none [⟨some 11, none, .move (.t 5)⟩,
   ⟨some 12, none, .bin .add (.t 11) (.c (.int .i64 1))⟩,
   ⟨some 13, none, .fieldAddr 0 (.t 3)⟩,
   ⟨some 14, none, .load none (.t 13)⟩,
   ⟨some 15, none, .len false (.t 14)⟩,
   ⟨some 16, none, .bin .lss (.t 12) (.t 15)⟩])
  (.cond (.t 16) (.skip)
  (.exit 0)))
  (c45_4)
noncomputable def c45_6 : ACode := .region none [⟨some 104, none, .bin .add (.t 94) (.c (.int .i64 1))⟩,
   ⟨some 94, none, .move (.t 104)⟩]
noncomputable def c45_7 : ACode := .mask (.n (.n .e false (.n .e false (.n .e false (.n .e false (.n (.n .e true .e) false .e))))) true (.n (.n (.n .e true .e) false (.n .e false (.n .e false (.n (.n .e true .e) false .e)))) false (.n .e false (.n .e false (.n .e false (.n (.n .e true .e) false .e)))))) (c45_6)
noncomputable def c45_8 : ACode := .seq (.block 4 (.seq (.region none [⟨some 96, none, .idxSl 1 (.t 92) (.t 94)⟩,
   ⟨some 97, none, .load none (.t 96)⟩,
   ⟨some 10, none, .move (.t 97)⟩])
  (.region none [⟨some 98, none, .move (.t 8)⟩,
   ⟨some 99, none, .move (.t 0)⟩,
   ⟨some 100, none, .move (.t 10)⟩,
   ⟨some 101, none, .call 77 [.t 99, .t 100]⟩,
   ⟨some 102, none, .buildSlice 1 [.t 101]⟩,
   ⟨some 103, none, .append 1 8 none (.t 98) (.t 102)⟩,
   ⟨some 8, none, .move (.t 103)⟩])))
  (c45_7)
noncomputable def c45_9 : ACode := .mask (.n (.n .e false (.n .e false (.n .e false (.n .e false (.n (.n .e true .e) false .e))))) true (.n (.n (.n .e true .e) false (.n .e false (.n .e false (.n (.n .e true .e) false .e)))) false (.n .e false (.n .e false (.n .e false (.n (.n .e true .e) false .e)))))) (c45_8)
noncomputable def c45_10 : ACode := .seq (.region none [⟨some 95, none, .bin .lss (.t 94) (.t 93)⟩])
  (.seq (.cond (.t 95) (.skip)
  (.exit 3))
  (c45_9))
noncomputable def c45_11 : ACode := .seq (.region none [⟨some 105, none, .move (.t 8)⟩,
   ⟨some 4, none, .move (.t 105)⟩])
  (.ret)
noncomputable def c45_12 : ACode := .mask (.n .e false (.n (.n (.n .e true .e) false .e) false .e)) (c45_11)
noncomputable def c45_13 : ACode := .seq (.region none [⟨some 8, none, .move (.c (.sl 1 [] .nil))⟩])
  (.seq (.seq (.region none [⟨some 91, none, .fieldAddr 1 (.t 3)⟩,
   ⟨some 92, none, .load none (.t 91)⟩,
   ⟨some 93, none, .len false (.t 92)⟩,
   ⟨some 94, none, .move (.c (.int .i64 0))⟩])
  (.block 3 (.loop (.n (.n .e false (.n .e false (.n .e false (.n .e false (.n (.n .e true .e) false .e))))) true (.n (.n (.n .e true .e) false (.n .e false (.n .e false (.n (.n .e true .e) false .e)))) false (.n .e false (.n .e false (.n .e false (.n (.n .e true .e) false .e)))))) (c45_10))))
  (c45_12))
noncomputable def c45_14 : ACode := .mask (.n (.n (.n .e true .e) false .e) true .e) (c45_13)
noncomputable def c45_b : ACode := .seq (.region none [⟨some 3, none, .boxRo (.t 1)⟩,
   ⟨some 4, none, .move (.c (.sl 1 [] .nil))⟩])
  (.seq (.seq (.region none [⟨some 5, none, .move (.c (.int .i64 0))⟩])
  (.block 0 (.loop (.n (.n (.n .e true .e) false (.n .e true .e)) true .e) (c45_5))))
  (c45_14))
noncomputable def c45 : AFn := { np := 2, nt := 106, results := [.t 4], keep := false, body := c45_b }
noncomputable def c46_1 : ACode := .seq (.region none [⟨some 18, none, .buildSlice 1 [.c (.str [116]), .c (.str [105, 110]), .c (.str [110]), .c (.str [97, 94, 50, 32, 43, 32, 98, 94, 50])]⟩,
   ⟨some 19, none, .buildSlice 1 [.c (.str [45, 97, 32, 99, 32, 45, 32, 116, 32, 98, 32, 110]), .c (.str [45, 98, 32, 99, 32, 43, 32, 116, 32, 97, 32, 110]), .c (.str [110])]⟩,
   ⟨some 20, none, .build [.sl 1 [] .nil, .sl 1 [] .nil] [(0, 1, .t 18), (1, 1, .t 19)]⟩,
   ⟨none, none, .store 2 (.t 4) (.t 20)⟩])
  (.ret)
noncomputable def c46_2 : ACode := .mask (.n .e false (.n (.n .e true .e) false .e)) (c46_1)
noncomputable def c46_3 : ACode := .cond (.t 26) (.seq (.region none [⟨some 29, none, .buildSlice 1 [.c (.str [119]), .c (.str [122, 50, 32, 122, 51]), .c (.str [101, 120]), .c (.str [120, 51, 32, 122, 50, 32, 45, 32, 120, 50, 32, 122, 51]), .c (.str [101, 121]), .c (.str [121, 51, 32, 122, 50, 32, 45, 32, 121, 50, 32, 122, 51]), .c (.str [100]), .c (.str [101, 120, 94, 50, 32, 43, 32, 101, 121, 94, 50]), .c (.str [118]), .c (.str [119, 94, 50]), .c (.str [103]), .c (.str [122, 49, 94, 50])]⟩,
   ⟨some 30, none, .buildSlice 1 [.c (.str [103, 32, 118]), .c (.str [45, 50, 32, 120, 49, 32, 122, 49, 32, 118]), .c (.str [45, 50, 32, 121, 49, 32, 122, 49, 32, 118]), .c (.str [40, 120, 49, 94, 50, 32, 43, 32, 121, 49, 94, 50, 41, 32, 118, 32, 45, 32, 103, 32, 100]), .c (.str [120, 49, 32, 119, 32, 43, 32, 122, 49, 32, 101, 120]), .c (.str [121, 49, 32, 119, 32, 43, 32, 122, 49, 32, 101, 121]), .c (.str [122, 49, 32, 119])]⟩,
   ⟨some 31, none, .build [.sl 1 [] .nil, .sl 1 [] .nil] [(0, 1, .t 29), (1, 1, .t 30)]⟩,
   ⟨none, none, .store 2 (.t 4) (.t 31)⟩])
  (.ret))
  (.seq (.region none [⟨some 33, none, .bin .eql (.t 6) (.c (.int .i64 7))⟩,
   ⟨some 32, none, .move (.t 33)⟩])
  (.cond (.t 32) (.seq (.region none [⟨some 34, none, .call 79 [.c (.int .i64 3)]⟩,
   ⟨some 35, none, .buildSlice 1 [.c (.str [102, 49, 32, 40, 103, 50, 32, 104, 51, 32, 45, 32, 104, 50, 32, 103, 51, 41, 32, 45, 32, 103, 49, 32, 40, 102, 50, 32, 104, 51, 32, 45, 32, 104, 50, 32, 102, 51, 41, 32, 43, 32, 104, 49, 32, 40, 102, 50, 32, 103, 51, 32, 45, 32, 103, 50, 32, 102, 51, 41]), .c (.str [45, 40, 115, 49, 32, 40, 103, 50, 32, 104, 51, 32, 45, 32, 104, 50, 32, 103, 51, 41, 32, 45, 32, 103, 49, 32, 40, 115, 50, 32, 104, 51, 32, 45, 32, 104, 50, 32, 115, 51, 41, 32, 43, 32, 104, 49, 32, 40, 115, 50, 32, 103, 51, 32, 45, 32, 103, 50, 32, 115, 51, 41, 41]), .c (.str [115, 49, 32, 40, 102, 50, 32, 104, 51, 32, 45, 32, 104, 50, 32, 102, 51, 41, 32, 45, 32, 102, 49, 32, 40, 115, 50, 32, 104, 51, 32, 45, 32, 104, 50, 32, 115, 51, 41, 32, 43, 32, 104, 49, 32, 40, 115, 50, 32, 102, 51, 32, 45, 32, 102, 50, 32, 115, 51, 41]), .c (.str [45, 40, 115, 49, 32, 40, 102, 50, 32, 103, 51, 32, 45, 32, 103, 50, 32, 102, 51, 41, 32, 45, 32, 102, 49, 32, 40, 115, 50, 32, 103, 51, 32, 45, 32, 103, 50, 32, 115, 51, 41, 32, 43, 32, 103, 49, 32, 40, 115, 50, 32, 102, 51, 32, 45, 32, 102, 50, 32, 115, 51, 41, 41]), .c (.str [120, 49]), .c (.str [121, 49]), .c (.str [122, 49])]⟩,
   ⟨some 36, none, .build [.sl 1 [] .nil, .sl 1 [] .nil] [(0, 1, .t 34), (1, 1, .t 35)]⟩,
   ⟨none, none, .store 2 (.t 4) (.t 36)⟩])
  (.ret))
  (.seq (.region none [⟨some 38, none, .bin .eql (.t 6) (.c (.int .i64 8))⟩,
   ⟨some 37, none, .move (.t 38)⟩])
  (.cond (.t 37) (.seq (.region none [⟨some 39, none, .call 80 [.c (.sl 1 [] .nil)]⟩,
   ⟨none, none, .store 2 (.t 4) (.t 39)⟩])
  (.ret))
  (.seq (.region none [⟨some 41, none, .bin .eql (.t 6) (.c (.int .i64 9))⟩,
   ⟨some 40, none, .move (.t 41)⟩])
  (.cond (.t 40) (.seq (.region none [⟨some 42, none, .buildSlice 1 [.c (.str [97]), .c (.str [117, 50, 32, 112, 49, 32, 45, 32, 117, 49, 32, 112, 50]), .c (.str [98]), .c (.str [117, 50, 32, 113, 49, 32, 45, 32, 117, 49, 32, 113, 50]), .c (.str [99]), .c (.str [117, 50, 32, 114, 49, 32, 45, 32, 117, 49, 32, 114, 50]), .c (.str [117]), .c (.str [117, 49]), .c (.str [112]), .c (.str [112, 49]), .c (.str [113]), .c (.str [113, 49]), .c (.str [114]), .c (.str [114, 49])]⟩,
   ⟨some 43, none, .call 80 [.t 42]⟩,
   ⟨none, none, .store 2 (.t 4) (.t 43)⟩])
  (.ret))
  (.seq (.region none [⟨some 45, none, .bin .eql (.t 6) (.c (.int .i64 15))⟩,
   ⟨some 44, none, .move (.t 45)⟩])
  (.cond (.t 44) (.seq (.region none [⟨some 46, none, .buildSlice 1 [.c (.str [97]), .c (.str [50, 32, 117, 32, 120, 32, 43, 32, 112, 32, 122]), .c (.str [98]), .c (.str [50, 32, 117, 32, 121, 32, 43, 32, 113, 32, 122]), .c (.str [99]), .c (.str [112, 32, 120, 32, 43, 32, 113, 32, 121, 32, 43, 32, 50, 32, 114, 32, 122])]⟩,
   ⟨some 47, none, .call 80 [.t 46]⟩,
   ⟨some 5, none, .alloc [.sl 1 [] .nil, .sl 1 [] .nil]⟩,
   ⟨none, none, .store 2 (.t 5) (.t 47)⟩])
  (.seq (.region (some []) [⟨some 48, none, .fieldAddr 0 (.t 5)⟩,
   ⟨some 49, none, .load none (.t 48)⟩,
   ⟨some 50, none, .fieldAddr 1 (.t 5)⟩,
   ⟨some 51, none, .load none (.t 50)⟩,
   ⟨some 52, none, .idxSl 1 (.t 51) (.c (.int .i64 0))⟩,
   ⟨some 53, none, .load none (.t 52)⟩,
   ⟨some 54, none, .fieldAddr 1 (.t 5)⟩,
   ⟨some 55, none, .load none (.t 54)⟩,
   ⟨some 56, none, .idxSl 1 (.t 55) (.c (.int .i64 1))⟩,
   ⟨some 57, none, .load none (.t 56)⟩,
   ⟨some 58, none, .fieldAddr 1 (.t 5)⟩,
   ⟨some 59, none, .load none (.t 58)⟩,
   ⟨some 60, none, .idxSl 1 (.t 59) (.c (.int .i64 2))⟩,
   ⟨some 61, none, .load none (.t 60)⟩,
   ⟨some 62, none, .buildSlice 1 [.c (.str [116, 120]), .t 53, .c (.str [116, 121]), .t 57, .c (.str [116, 122]), .t 61]⟩,
   ⟨some 63, none, .append 1 16 none (.t 49) (.t 62)⟩,
   ⟨some 64, none, .fieldAddr 0 (.t 5)⟩,
   ⟨none, none, .store 1 (.t 64) (.t 63)⟩])
  (.seq (.region none [⟨some 65, none, .buildSlice 1 [.c (.str [50, 32, 117, 32, 116, 120, 32, 43, 32, 112, 32, 116, 122]), .c (.str [50, 32, 117, 32, 116, 121, 32, 43, 32, 113, 32, 116, 122]), .c (.str [112, 32, 116, 120, 32, 43, 32, 113, 32, 116, 121, 32, 43, 32, 50, 32, 114, 32, 116, 122])]⟩,
   ⟨some 66, none, .fieldAddr 1 (.t 5)⟩,
   ⟨none, none, .store 1 (.t 66) (.t 65)⟩])
  (.seq (.region none [⟨some 67, none, .load (some 2) (.t 5)⟩,
   ⟨none, none, .store 2 (.t 4) (.t 67)⟩])
  (.ret)))))
  (.skip)))))))))
noncomputable def c46_4 : ACode := .mask (.n .e true (.n (.n .e true .e) false (.n (.n .e false (.n .e true .e)) true .e))) (c46_3)
noncomputable def c46_5 : ACode := .cond (.t 21) (.seq (.region none [⟨some 24, none, .call 78 []⟩,
   ⟨some 25, none, .build [.sl 1 [] .nil, .sl 1 [] .nil] [(0, 1, .c (.sl 1 [] .nil)), (1, 1, .t 24)]⟩,
   ⟨none, none, .store 2 (.t 4) (.t 25)⟩])
  (.ret))
  (.seq (.seq (.region none [⟨some 27, none, .bin .eql (.t 6) (.c (.int .i64 5))⟩,
   ⟨some 26, none, .move (.t 27)⟩])
  (.cond (.t 26) (.skip)
  (.region none [⟨some 28, none, .bin .eql (.t 6) (.c (.int .i64 6))⟩,
   ⟨some 26, none, .move (.t 28)⟩])))
  (c46_4))
noncomputable def c46_6 : ACode := .mask (.n (.n .e false (.n .e false (.n (.n .e true .e) false .e))) true (.n (.n .e true .e) false (.n .e true .e))) (c46_5)
noncomputable def c46_7 : ACode := .seq (.region none [⟨some 68, none, .move (.t 0)⟩,
   ⟨some 69, none, .call 81 [.t 68]⟩,
   ⟨none, none, .store 2 (.t 4) (.t 69)⟩])
  (.ret)
noncomputable def c46_8 : ACode := .mask (.n .e true (.n (.n .e true .e) false .e)) (c46_7)
noncomputable def c46_b : ACode := .seq (.region none [⟨some 4, none, .alloc [.sl 1 [] .nil, .sl 1 [] .nil]⟩])
  (.seq (.seq (.region none [⟨some 6, none, .move (.t 0)⟩])
  (.block 0 (.seq (.region none [⟨some 8, none, .bin .eql (.t 6) (.c (.int .i64 1))⟩,
   ⟨some 7, none, .move (.t 8)⟩])
  (.cond (.t 7) (.seq (.region none [⟨some 9, none, .buildSlice 1 [.c (.str [120, 120]), .c (.str [105, 110]), .c (.str [121, 121]), .c (.str [105, 110])]⟩,
   ⟨some 10, none, .buildSlice 1 [.c (.str [120, 120]), .c (.str [121, 121]), .c (.str [49])]⟩,
   ⟨some 11, none, .build [.sl 1 [] .nil, .sl 1 [] .nil] [(0, 1, .t 9), (1, 1, .t 10)]⟩,
   ⟨none, none, .store 2 (.t 4) (.t 11)⟩])
  (.ret))
  (.seq (.region none [⟨some 13, none, .bin .eql (.t 6) (.c (.int .i64 2))⟩,
   ⟨some 12, none, .move (.t 13)⟩])
  (.cond (.t 12) (.seq (.seq (.region none [⟨some 14, none, .move (.t 1)⟩])
  (.cond (.t 14) (.seq (.region none [⟨some 15, none, .buildSlice 1 [.c (.str [116]), .c (.str [105, 110]), .c (.str [109]), .c (.str [49, 32, 43, 32, 116, 94, 50]), .c (.str [107]), .c (.str [49, 32, 45, 32, 116, 94, 50]), .c (.str [100, 120]), .c (.str [50, 32, 117, 32, 97, 120, 32, 43, 32, 112, 32, 97, 122]), .c (.str [100, 121]), .c (.str [50, 32, 117, 32, 97, 121, 32, 43, 32, 113, 32, 97, 122])]⟩,
   ⟨some 16, none, .buildSlice 1 [.c (.str [45, 112, 32, 97, 122, 32, 109, 32, 43, 32, 107, 32, 100, 120, 32, 45, 32, 50, 32, 116, 32, 100, 121]), .c (.str [45, 113, 32, 97, 122, 32, 109, 32, 43, 32, 50, 32, 116, 32, 100, 120, 32, 43, 32, 107, 32, 100, 121]), .c (.str [50, 32, 117, 32, 97, 122, 32, 109])]⟩,
   ⟨some 17, none, .build [.sl 1 [] .nil, .sl 1 [] .nil] [(0, 1, .t 15), (1, 1, .t 16)]⟩,
   ⟨none, none, .store 2 (.t 4) (.t 17)⟩])
  (.ret))
  (.skip)))
  (c46_2))
  (.seq (.seq (.region none [⟨some 22, none, .bin .eql (.t 6) (.c (.int .i64 3))⟩,
   ⟨some 21, none, .move (.t 22)⟩])
  (.cond (.t 21) (.skip)
  (.region none [⟨some 23, none, .bin .eql (.t 6) (.c (.int .i64 4))⟩,
   ⟨some 21, none, .move (.t 23)⟩])))
  (c46_6))))))))
  (c46_8))
noncomputable def c46 : AFn := { np := 2, nt := 70, results := [.cell 4 (some 2)], keep := false, body := c46_b }
noncomputable def c51_1 : ACode := .cond (.t 60) (.seq (.region none [⟨some 64, none, .move (.t 7)⟩,
   ⟨some 65, none, .move (.t 64)⟩,
   ⟨some 66, (some (65, true)), .move (.t 8)⟩,
   ⟨some 67, none, .pick (.t 65) (.t 66) (.c (.bool false))⟩,
   ⟨some 6, none, .move (.t 67)⟩])
  (.ret))
  (.skip)
noncomputable def c51_2 : ACode := .mask (.n (.n (.n (.n .e true .e) true .e) false .e) false (.n (.n (.n .e true .e) false (.n .e false (.n .e false (.n .e true .e)))) false .e)) (c51_1)
noncomputable def c51_3 : ACode := .seq (.region none [⟨some 68, none, .fieldAddr 0 (.t 3)⟩,
   ⟨some 69, none, .load none (.t 68)⟩,
   ⟨some 70, none, .bin .eql (.t 69) (.c (.int .i64 6))⟩,
   ⟨some 71, none, .move (.t 70)⟩,
   ⟨some 72, (some (71, true)), .move (.t 7)⟩,
   ⟨some 73, none, .pick (.t 71) (.t 72) (.c (.bool false))⟩,
   ⟨some 74, none, .move (.t 73)⟩,
   ⟨some 75, (some (74, true)), .fieldAddr 2 (.t 3)⟩,
   ⟨some 76, (some (74, true)), .load none (.t 75)⟩,
   ⟨some 77, (some (74, true)), .bin .eql (.t 76) (.c (.int .i64 0))⟩,
   ⟨some 78, none, .pick (.t 74) (.t 77) (.c (.bool false))⟩,
   ⟨some 6, none, .move (.t 78)⟩])
  (.ret)
noncomputable def c51_4 : ACode := .mask (.n (.n (.n (.n .e true .e) true .e) false .e) false .e) (c51_3)
noncomputable def c51_b : ACode := .seq (.region none [⟨some 3, none, .boxRo (.t 0)⟩,
   ⟨some 6, none, .move (.c (.bool false))⟩])
  (.seq (.region none [⟨some 9, none, .fieldAddr 1 (.t 3)⟩,
   ⟨some 10, none, .load none (.t 9)⟩,
   ⟨some 11, none, .bin .geq (.t 10) (.c (.int .i64 0))⟩,
   ⟨some 12, none, .move (.t 11)⟩,
   ⟨some 13, (some (12, true)), .fieldAddr 1 (.t 3)⟩,
   ⟨some 14, (some (12, true)), .load none (.t 13)⟩,
   ⟨some 15, (some (12, true)), .move (.t 1)⟩,
   ⟨some 16, (some (12, true)), .bin .lss (.t 14) (.t 15)⟩,
   ⟨some 17, none, .pick (.t 12) (.t 16) (.c (.bool false))⟩,
   ⟨some 7, none, .move (.t 17)⟩])
  (.seq (.region none [⟨some 18, none, .fieldAddr 2 (.t 3)⟩,
   ⟨some 19, none, .load none (.t 18)⟩,
   ⟨some 20, none, .bin .geq (.t 19) (.c (.int .i64 0))⟩,
   ⟨some 21, none, .move (.t 20)⟩,
   ⟨some 22, (some (21, true)), .fieldAddr 2 (.t 3)⟩,
   ⟨some 23, (some (21, true)), .load none (.t 22)⟩,
   ⟨some 24, (some (21, true)), .move (.t 1)⟩,
   ⟨some 25, (some (21, true)), .bin .lss (.t 23) (.t 24)⟩,
   ⟨some 26, none, .pick (.t 21) (.t 25) (.c (.bool false))⟩,
   ⟨some 8, none, .move (.t 26)⟩])
  (.seq (.seq (.region none [⟨some 27, none, .fieldAddr 0 (.t 3)⟩,
   ⟨some 28, none, .load none (.t 27)⟩])
  (.block 0 (.seq (.region none [⟨some 30, none, .bin .eql (.t 28) (.c (.int .i64 1))⟩,
   ⟨some 29, none, .move (.t 30)⟩])
  (.cond (.t 29) (.seq (.region none [⟨some 31, none, .fieldAddr 1 (.t 3)⟩,
   ⟨some 32, none, .load none (.t 31)⟩,
   ⟨some 33, none, .bin .geq (.t 32) (.c (.int .i64 0))⟩,
   ⟨some 34, none, .move (.t 33)⟩,
   ⟨some 35, (some (34, true)), .fieldAddr 1 (.t 3)⟩,
   ⟨some 36, (some (34, true)), .load none (.t 35)⟩,
   ⟨some 37, (some (34, true)), .move (.t 2)⟩,
   ⟨some 38, (some (34, true)), .bin .lss (.t 36) (.t 37)⟩,
   ⟨some 39, none, .pick (.t 34) (.t 38) (.c (.bool false))⟩,
   ⟨some 40, none, .move (.t 39)⟩,
   ⟨some 41, (some (40, true)), .fieldAddr 2 (.t 3)⟩,
   ⟨some 42, (some (40, true)), .load none (.t 41)⟩,
   ⟨some 43, (some (40, true)), .bin .eql (.t 42) (.c (.int .i64 0))⟩,
   ⟨some 44, none, .pick (.t 40) (.t 43) (.c (.bool false))⟩,
   ⟨some 6, none, .move (.t 44)⟩])
  (.ret))
  (.seq (.region none [⟨some 46, none, .bin .eql (.t 28) (.c (.int .i64 2))⟩,
   ⟨some 45, none, .move (.t 46)⟩])
  (.cond (.t 45) (.seq (.region none [⟨some 47, none, .fieldAddr 1 (.t 3)⟩,
   ⟨some 48, none, .load none (.t 47)⟩,
   ⟨some 49, none, .bin .geq (.t 48) (.c (.int .i64 (-1000)))⟩,
   ⟨some 50, none, .move (.t 49)⟩,
   ⟨some 51, (some (50, true)), .fieldAddr 1 (.t 3)⟩,
   ⟨some 52, (some (50, true)), .load none (.t 51)⟩,
   ⟨some 53, (some (50, true)), .bin .leq (.t 52) (.c (.int .i64 1000))⟩,
   ⟨some 54, none, .pick (.t 50) (.t 53) (.c (.bool false))⟩,
   ⟨some 55, none, .move (.t 54)⟩,
   ⟨some 56, (some (55, true)), .fieldAddr 2 (.t 3)⟩,
   ⟨some 57, (some (55, true)), .load none (.t 56)⟩,
   ⟨some 58, (some (55, true)), .bin .eql (.t 57) (.c (.int .i64 0))⟩,
   ⟨some 59, none, .pick (.t 55) (.t 58) (.c (.bool false))⟩,
   ⟨some 6, none, .move (.t 59)⟩])
  (.ret))
  (.seq (.seq (.region none [⟨some 61, none, .bin .eql (.t 28) (.c (.int .i64 3))⟩,
   ⟨some 60, none, .move (.t 61)⟩])
  (.cond (.t 60) (.skip)
  (.seq (.region none [⟨some 62, none, .bin .eql (.t 28) (.c (.int .i64 4))⟩,
   ⟨some 60, none, .move (.t 62)⟩])
  (.cond (.t 60) (.skip)
  (.region none [⟨some 63, none, .bin .eql (.t 28) (.c (.int .i64 5))⟩,
   ⟨some 60, none, .move (.t 63)⟩])))))
  (c51_2))))))))
  (c51_4))))
noncomputable def c51 : AFn := { np := 3, nt := 79, results := [.t 6], keep := false, body := c51_b }
noncomputable def c52_1 : ACode := .region none [⟨some 61, none, .move (.t 3)⟩,
   ⟨some 62, none, .bin .add (.t 61) (.c (.int .i64 1))⟩,
   ⟨some 3, none, .move (.t 62)⟩]
noncomputable def c52_2 : ACode := .mask (.n (.n (.n (.n (.n (.n .e true .e) false .e) false .e) true .e) true (.n (.n (.n (.n .e true .e) false .e) false .e) false .e)) false (.n (.n (.n (.n (.n .e true .e) false .e) false .e) false .e) false .e)) (c52_1)
noncomputable def c52_3 : ACode := .seq (.seq (.region none [⟨some 47, none, .move (.t 3)⟩,
   ⟨some 48, none, .fieldAddr 3 (.t 1)⟩,
   ⟨some 49, none, .load none (.t 48)⟩,
   ⟨some 50, none, .len false (.t 49)⟩,
   ⟨some 51, none, .bin .eql (.t 47) (.t 50)⟩,
   ⟨some 52, none, .move (.t 51)⟩,
   ⟨some 53, (some (52, false)), .fieldAddr 3 (.t 1)⟩,
   ⟨some 54, (some (52, false)), .load none (.t 53)⟩,
   ⟨some 55, (some (52, false)), .move (.t 3)⟩,
   ⟨some 56, (some (52, false)), .idxSl 1 (.t 54) (.t 55)⟩,
   ⟨some 57, (some (52, false)), .load none (.t 56)⟩,
   ⟨some 58, (some (52, false)), .move (.t 4)⟩,
   ⟨some 59, (some (52, false)), .bin .neq (.t 57) (.t 58)⟩,
   ⟨some 60, none, .pick (.t 52) (.c (.bool true)) (.t 59)⟩])
  (.cond (.t 60) (.seq (.region none [⟨some 2, none, .move (.c (.int .i64 3))⟩])
  (.ret))
  (.skip)))
  (c52_2)
noncomputable def c52_4 : ACode := .mask (.n (.n (.n (.n (.n (.n .e true .e) false .e) false .e) true .e) true (.n (.n (.n (.n .e true .e) false .e) false .e) false .e)) false (.n (.n (.n (.n (.n .e true .e) false .e) false .e) true .e) false .e)) (c52_3)
noncomputable def c52_5 : ACode := .seq (.seq (.region none [⟨some 44, none, .fieldAddr 0 (.t 5)⟩,
   ⟨some 45, none, .load none (.t 44)⟩,
   ⟨some 46, none, .bin .neq (.t 45) (.c (.int .i64 6))⟩])
  (.cond (.t 46) (.exit 1)
  (.skip)))
  (c52_4)
noncomputable def c52_6 : ACode := .mask (.n (.n (.n (.n (.n (.n .e true .e) false .e) false .e) true .e) true (.n (.n (.n (.n .e true .e) false .e) false .e) true .e)) false (.n (.n (.n (.n (.n .e true .e) false .e) false .e) true .e) false .e)) (c52_5)
noncomputable def c52_7 : ACode := .region none [⟨some 63, none, .bin .add (.t 33) (.c (.int .i64 1))⟩,
   ⟨some 33, none, .move (.t 63)⟩]
noncomputable def c52_8 : ACode := .mask (.n (.n (.n (.n (.n (.n .e true .e) false .e) false .e) true .e) true (.n (.n (.n (.n .e true .e) false .e) false .e) false .e)) false (.n (.n (.n (.n (.n .e true .e) false .e) false .e) false .e) false .e)) (c52_7)
noncomputable def c52_9 : ACode := .seq (.block 1 (.seq (.region none [⟨some 35, none, .move (.t 33)⟩,
   ⟨some 36, none, .idxSl 3 (.t 31) (.t 33)⟩,
   ⟨some 37, none, .load (some 3) (.t 36)⟩,
   ⟨some 5, none, .alloc [.int .i64 0, .int .i64 0, .int .i64 0]⟩,
   ⟨some 4, none, .move (.t 35)⟩,
   ⟨none, none, .store 3 (.t 5) (.t 37)⟩])
  (.seq (.seq (.region none [⟨some 38, none, .load (some 3) (.t 5)⟩,
   ⟨some 39, none, .move (.t 4)⟩,
   ⟨some 40, none, .fieldAddr 0 (.t 1)⟩,
   ⟨some 41, none, .load none (.t 40)⟩,
   ⟨some 42, none, .call 88 [.t 38, .t 39, .t 41]⟩,
   ⟨some 43, none, .un .not (.t 42)⟩])
  (.cond (.t 43) (.seq (.region none [⟨some 2, none, .move (.c (.int .i64 3))⟩])
  (.ret))
  (.skip)))
  (c52_6))))
  (c52_8)
noncomputable def c52_10 : ACode := .mask (.n (.n (.n (.n (.n (.n .e true .e) false .e) false .e) true .e) true (.n (.n (.n (.n .e true .e) false .e) false .e) false .e)) false (.n (.n (.n (.n (.n .e true .e) false .e) false .e) false .e) false .e)) (c52_9)
noncomputable def c52_11 : ACode := .seq (.region none [⟨some 34, none, .bin .lss (.t 33) (.t 32)⟩])
  (.seq (.cond (.t 34) (.skip)
  (.exit 0))
  (c52_10))
noncomputable def c52_12 : ACode := .region none [⟨some 99, none, .bin .add (.t 86) (.c (.int .i64 1))⟩,
   ⟨some 86, none, .move (.t 99)⟩]
noncomputable def c52_13 : ACode := .mask (.n (.n (.n (.n .e false (.n (.n (.n .e true .e) false .e) false .e)) false .e) true (.n .e false (.n (.n .e false (.n (.n .e true .e) false .e)) false .e))) false (.n (.n (.n .e false (.n (.n (.n .e true .e) false .e) false .e)) false (.n (.n .e false (.n (.n .e true .e) false .e)) false .e)) false (.n .e false (.n (.n (.n (.n .e true .e) false .e) false (.n (.n .e true .e) false .e)) false .e)))) (c52_12)
noncomputable def c52_14 : ACode := .seq (.block 5 (.seq (.region none [⟨some 88, none, .idxSl 1 (.t 84) (.t 86)⟩,
   ⟨some 89, none, .load none (.t 88)⟩,
   ⟨some 9, none, .move (.t 89)⟩])
  (.seq (.region none [⟨some 90, none, .move (.t 9)⟩,
   ⟨some 91, none, .bin .lss (.t 90) (.c (.int .i64 0))⟩,
   ⟨some 92, none, .move (.t 91)⟩,
   ⟨some 93, (some (92, false)), .move (.t 9)⟩,
   ⟨some 94, (some (92, false)), .fieldAddr 1 (.t 1)⟩,
   ⟨some 95, (some (92, false)), .load none (.t 94)⟩,
   ⟨some 96, (some (92, false)), .len false (.t 95)⟩,
   ⟨some 97, (some (92, false)), .bin .geq (.t 93) (.t 96)⟩,
   ⟨some 98, none, .pick (.t 92) (.c (.bool true)) (.t 97)⟩])
  (.cond (.t 98) (.seq (.region none [⟨some 2, none, .move (.c (.int .i64 3))⟩])
  (.ret))
  (.skip)))))
  (c52_13)
noncomputable def c52_15 : ACode := .mask (.n (.n (.n (.n .e false (.n (.n (.n .e true .e) false .e) false .e)) false .e) true (.n .e false (.n (.n .e false (.n (.n .e true .e) false .e)) false .e))) false (.n (.n (.n .e false (.n (.n (.n .e true .e) false .e) false .e)) false (.n (.n .e false (.n (.n .e true .e) false .e)) false .e)) false (.n .e false (.n (.n (.n (.n .e true .e) false .e) false (.n (.n .e true .e) false .e)) false .e)))) (c52_14)
noncomputable def c52_16 : ACode := .seq (.region none [⟨some 87, none, .bin .lss (.t 86) (.t 85)⟩])
  (.seq (.cond (.t 87) (.skip)
  (.exit 4))
  (c52_15))
noncomputable def c52_17 : ACode := .seq (.region none [⟨some 84, none, .move (.t 7)⟩,
   ⟨some 85, none, .len false (.t 84)⟩,
   ⟨some 86, none, .move (.c (.int .i64 0))⟩])
  (.block 4 (.loop (.n (.n (.n (.n .e false (.n (.n (.n .e true .e) false .e) false .e)) false .e) true (.n .e false (.n (.n .e false (.n (.n .e true .e) false .e)) false .e))) false (.n (.n (.n .e false (.n (.n (.n .e true .e) false .e) false .e)) false (.n (.n .e false (.n (.n .e true .e) false .e)) false .e)) false (.n .e false (.n (.n (.n (.n .e true .e) false .e) false (.n (.n .e true .e) false .e)) false .e)))) (c52_16)))
noncomputable def c52_18 : ACode := .mask (.n (.n (.n (.n .e true (.n (.n (.n .e true .e) false .e) false .e)) false .e) true .e) false (.n (.n (.n .e false (.n (.n (.n .e true .e) false .e) false .e)) false .e) false (.n .e false (.n (.n (.n (.n .e true .e) false .e) false .e) false .e)))) (c52_17)
noncomputable def c52_19 : ACode := .region none [⟨some 100, none, .bin .add (.t 72) (.c (.int .i64 1))⟩,
   ⟨some 72, none, .move (.t 100)⟩]
noncomputable def c52_20 : ACode := .mask (.n (.n (.n (.n .e false (.n (.n (.n .e true .e) false .e) false .e)) false .e) true .e) false (.n (.n (.n .e false (.n (.n (.n .e true .e) false .e) false .e)) false .e) false (.n .e false (.n (.n (.n (.n .e true .e) false .e) false .e) false .e)))) (c52_19)
noncomputable def c52_21 : ACode := .seq (.block 3 (.seq (.region none [⟨some 74, none, .idxSl 1 (.t 70) (.t 72)⟩,
   ⟨some 75, none, .load none (.t 74)⟩,
   ⟨some 7, none, .move (.t 75)⟩])
  (.seq (.seq (.region none [⟨some 76, none, .move (.t 7)⟩,
   ⟨some 77, none, .len false (.t 76)⟩,
   ⟨some 78, none, .bin .neq (.t 77) (.c (.int .i64 3))⟩,
   ⟨some 79, none, .move (.t 78)⟩,
   ⟨some 80, (some (79, true)), .move (.t 7)⟩,
   ⟨some 81, (some (79, true)), .len false (.t 80)⟩,
   ⟨some 82, (some (79, true)), .bin .neq (.t 81) (.c (.int .i64 7))⟩,
   ⟨some 83, none, .pick (.t 79) (.t 82) (.c (.bool false))⟩])
  (.cond (.t 83) (.seq (.region none [⟨some 2, none, .move (.c (.int .i64 3))⟩])
  (.ret))
  (.skip)))
  (c52_18))))
  (c52_20)
noncomputable def c52_22 : ACode := .mask (.n (.n (.n (.n .e false (.n (.n (.n .e true .e) false .e) false .e)) false .e) true .e) false (.n (.n (.n .e false (.n (.n (.n .e true .e) false .e) false .e)) false .e) false (.n .e false (.n (.n (.n (.n .e true .e) false .e) false .e) false .e)))) (c52_21)
noncomputable def c52_23 : ACode := .seq (.region none [⟨some 73, none, .bin .lss (.t 72) (.t 71)⟩])
  (.seq (.cond (.t 73) (.skip)
  (.exit 2))
  (c52_22))
noncomputable def c52_24 : ACode := .seq (.region none [⟨some 2, none, .move (.c (.int .i64 0))⟩])
  (.ret)
noncomputable def c52_25 : ACode := .mask .e (c52_24)
noncomputable def c52_26 : ACode := .seq (.seq (.region none [⟨some 69, none, .fieldAddr 2 (.t 1)⟩,
   ⟨some 70, none, .load none (.t 69)⟩,
   ⟨some 71, none, .len false (.t 70)⟩,
   ⟨some 72, none, .move (.c (.int .i64 0))⟩])
  (.block 2 (.loop (.n (.n (.n (.n .e false (.n (.n (.n .e true .e) false .e) false .e)) false .e) true .e) false (.n (.n (.n .e false (.n (.n (.n .e true .e) false .e) false .e)) false .e) false (.n .e false (.n (.n (.n (.n .e true .e) false .e) false .e) false .e)))) (c52_23))))
  (c52_25)
noncomputable def c52_27 : ACode := .mask (.n (.n .e true .e) false .e) (c52_26)
noncomputable def c52_28 : ACode := .seq (.seq (.region none [⟨some 64, none, .move (.t 3)⟩,
   ⟨some 65, none, .fieldAddr 3 (.t 1)⟩,
   ⟨some 66, none, .load none (.t 65)⟩,
   ⟨some 67, none, .len false (.t 66)⟩,
   ⟨some 68, none, .bin .neq (.t 64) (.t 67)⟩])
  (.cond (.t 68) (.seq (.region none [⟨some 2, none, .move (.c (.int .i64 3))⟩])
  (.ret))
  (.skip)))
  (c52_27)
noncomputable def c52_29 : ACode := .mask (.n (.n (.n .e true .e) true .e) false .e) (c52_28)
noncomputable def c52_30 : ACode := .seq (.region none [⟨some 3, none, .move (.c (.int .i64 0))⟩])
  (.seq (.seq (.region none [⟨some 30, none, .fieldAddr 1 (.t 1)⟩,
   ⟨some 31, none, .load none (.t 30)⟩,
   ⟨some 32, none, .len false (.t 31)⟩,
   ⟨some 33, none, .move (.c (.int .i64 0))⟩])
  (.block 0 (.loop (.n (.n (.n (.n (.n (.n .e true .e) false .e) false .e) true .e) true (.n (.n (.n (.n .e true .e) false .e) false .e) false .e)) false (.n (.n (.n (.n (.n .e true .e) false .e) false .e) false .e) false .e)) (c52_11))))
  (c52_29))
noncomputable def c52_31 : ACode := .mask (.n (.n .e true .e) false .e) (c52_30)
noncomputable def c52_b : ACode := .seq (.region none [⟨some 1, none, .boxRo (.t 0)⟩,
   ⟨some 2, none, .move (.c (.int .i64 0))⟩])
  (.seq (.seq (.region none [⟨some 10, none, .fieldAddr 0 (.t 1)⟩,
   ⟨some 11, none, .load none (.t 10)⟩,
   ⟨some 12, none, .bin .lss (.t 11) (.c (.int .i64 0))⟩,
   ⟨some 13, none, .move (.t 12)⟩,
   ⟨some 14, (some (13, false)), .fieldAddr 0 (.t 1)⟩,
   ⟨some 15, (some (13, false)), .load none (.t 14)⟩,
   ⟨some 16, (some (13, false)), .bin .gtr (.t 15) (.c (.int .i64 20))⟩,
   ⟨some 17, none, .pick (.t 13) (.c (.bool true)) (.t 16)⟩,
   ⟨some 18, none, .move (.t 17)⟩,
   ⟨some 19, (some (18, false)), .fieldAddr 1 (.t 1)⟩,
   ⟨some 20, (some (18, false)), .load none (.t 19)⟩,
   ⟨some 21, (some (18, false)), .len false (.t 20)⟩,
   ⟨some 22, (some (18, false)), .bin .gtr (.t 21) (.c (.int .i64 8192))⟩,
   ⟨some 23, none, .pick (.t 18) (.c (.bool true)) (.t 22)⟩,
   ⟨some 24, none, .move (.t 23)⟩,
   ⟨some 25, (some (24, false)), .fieldAddr 3 (.t 1)⟩,
   ⟨some 26, (some (24, false)), .load none (.t 25)⟩,
   ⟨some 27, (some (24, false)), .len false (.t 26)⟩,
   ⟨some 28, (some (24, false)), .bin .gtr (.t 27) (.c (.int .i64 5))⟩,
   ⟨some 29, none, .pick (.t 24) (.c (.bool true)) (.t 28)⟩])
  (.cond (.t 29) (.seq (.region none [⟨some 2, none, .move (.c (.int .i64 3))⟩])
  (.ret))
  (.skip)))
  (c52_31))
noncomputable def c52 : AFn := { np := 1, nt := 101, results := [.t 2], keep := false, body := c52_b }
noncomputable def c53_b : ACode := .seq (.region none [⟨some 3, none, .move (.c (.int .i64 0))⟩])
  (.seq (.region none [⟨some 4, none, .load (some 3) (.t 1)⟩,
   ⟨some 5, none, .move (.t 0)⟩,
   ⟨some 6, none, .call 18 [.t 4, .t 5]⟩,
   ⟨some 3, none, .move (.t 6)⟩])
  (.ret))
noncomputable def c53 : AFn := { np := 2, nt := 7, results := [.t 3], keep := false, body := c53_b }
noncomputable def c54_b : ACode := .seq (.region none [⟨some 5, none, .move (.c (.int .i64 0))⟩])
  (.seq (.region none [⟨some 6, none, .load (some 3) (.t 2)⟩,
   ⟨some 7, none, .move (.t 0)⟩,
   ⟨some 8, none, .move (.t 1)⟩,
   ⟨some 9, none, .call 24 [.t 6, .t 7, .t 8]⟩,
   ⟨some 5, none, .move (.t 9)⟩])
  (.ret))
noncomputable def c54 : AFn := { np := 3, nt := 10, results := [.t 5], keep := false, body := c54_b }
noncomputable def c55_b : ACode := .seq (.region none [⟨some 5, none, .move (.c (.int .i64 0))⟩])
  (.seq (.region none [⟨some 6, none, .load (some 3) (.t 2)⟩,
   ⟨some 7, none, .move (.t 0)⟩,
   ⟨some 8, none, .move (.t 1)⟩,
   ⟨some 9, none, .call 26 [.t 6, .t 7, .t 8]⟩,
   ⟨some 5, none, .move (.t 9)⟩])
  (.ret))
noncomputable def c55 : AFn := { np := 3, nt := 10, results := [.t 5], keep := false, body := c55_b }
noncomputable def c56_b : ACode := .seq (.region none [⟨some 5, none, .move (.c (.int .i64 0))⟩])
  (.seq (.region none [⟨some 6, none, .load (some 3) (.t 2)⟩,
   ⟨some 7, none, .move (.t 0)⟩,
   ⟨some 8, none, .move (.t 1)⟩,
   ⟨some 9, none, .call 28 [.t 6, .t 7, .t 8]⟩,
   ⟨some 5, none, .move (.t 9)⟩])
  (.ret))
noncomputable def c56 : AFn := { np := 3, nt := 10, results := [.t 5], keep := false, body := c56_b }
noncomputable def c57_b : ACode := .seq (.region none [⟨some 5, none, .move (.c (.int .i64 0))⟩])
  (.seq (.region none [⟨some 6, none, .load (some 3) (.t 2)⟩,
   ⟨some 7, none, .move (.t 0)⟩,
   ⟨some 8, none, .move (.t 1)⟩,
   ⟨some 9, none, .call 30 [.t 6, .t 7, .t 8]⟩,
   ⟨some 5, none, .move (.t 9)⟩])
  (.ret))
noncomputable def c57 : AFn := { np := 3, nt := 10, results := [.t 5], keep := false, body := c57_b }
noncomputable def c59_b : ACode := .region none [⟨some 3, none, .load none (.t 1)⟩,
   ⟨some 4, none, .buildSlice 1 [.c (.int .u8 114)]⟩,
   ⟨some 5, none, .append 1 1 (some (.t 1)) (.t 3) (.t 4)⟩,
   ⟨some 6, none, .move (.t 0)⟩,
   ⟨some 7, none, .call 60 [.t 5, .t 6, .c (.int .i64 10)]⟩,
   ⟨none, none, .store 1 (.t 1) (.t 7)⟩]
noncomputable def c59 : AFn := { np := 2, nt := 8, results := [], keep := false, body := c59_b }
noncomputable def c60_b : ACode := .seq (.region none [⟨some 6, none, .move (.c (.sl 1 [] .nil))⟩])
  (.seq (.region none [⟨some 7, none, .move (.t 0)⟩,
   ⟨some 8, none, .move (.t 1)⟩,
   ⟨some 9, none, .move (.t 2)⟩,
   ⟨some 10, none, .call 101 [.t 7, .t 8, .t 9]⟩,
   ⟨some 6, none, .move (.t 10)⟩])
  (.ret))
noncomputable def c60 : AFn := { np := 3, nt := 11, results := [.t 6], keep := false, body := c60_b }
noncomputable def c61_1 : ACode := .seq (.region none [⟨some 23, none, .move (.t 3)⟩,
   ⟨some 2, none, .move (.t 23)⟩])
  (.ret)
noncomputable def c61_2 : ACode := .mask (.n (.n (.n .e true .e) false .e) false .e) (c61_1)
noncomputable def c61_3 : ACode := .seq (.region none [⟨some 10, none, .move (.t 0)⟩,
   ⟨some 11, none, .bin .rem (.t 10) (.c (.int .i64 10))⟩,
   ⟨some 12, none, .bin .add (.c (.int .i64 48)) (.t 11)⟩,
   ⟨some 13, none, .convInt .u8 (.t 12)⟩,
   ⟨some 14, none, .buildSlice 1 [.t 13]⟩,
   ⟨some 15, none, .bytesToStr (.t 14)⟩,
   ⟨some 3, none, .move (.t 15)⟩])
  (.seq (.seq (.region none [⟨some 16, none, .move (.t 0)⟩,
   ⟨some 17, none, .bin .geq (.t 16) (.c (.int .i64 10))⟩])
  (.cond (.t 17) (.seq (.region none [⟨some 18, none, .move (.t 0)⟩,
   ⟨some 19, none, .bin .quo (.t 18) (.c (.int .i64 10))⟩,
   ⟨some 20, none, .call 61 [.t 19]⟩,
   ⟨some 21, none, .move (.t 3)⟩,
   ⟨some 22, none, .bin .add (.t 20) (.t 21)⟩,
   ⟨some 2, none, .move (.t 22)⟩])
  (.ret))
  (.skip)))
  (c61_2))
noncomputable def c61_4 : ACode := .mask (.n .e true .e) (c61_3)
noncomputable def c61_b : ACode := .seq (.region none [⟨some 2, none, .move (.c (.str []))⟩])
  (.seq (.seq (.region none [⟨some 4, none, .move (.t 0)⟩,
   ⟨some 5, none, .bin .lss (.t 4) (.c (.int .i64 0))⟩])
  (.cond (.t 5) (.seq (.region none [⟨some 6, none, .move (.t 0)⟩,
   ⟨some 7, none, .un .neg (.t 6)⟩,
   ⟨some 8, none, .call 61 [.t 7]⟩,
   ⟨some 9, none, .bin .add (.c (.str [45])) (.t 8)⟩,
   ⟨some 2, none, .move (.t 9)⟩])
  (.ret))
  (.skip)))
  (c61_4))
noncomputable def c61 : AFn := { np := 1, nt := 24, results := [.t 2], keep := false, body := c61_b }
noncomputable def c70_1 : ACode := .region none [⟨some 69, none, .bin .add (.t 44) (.c (.int .i64 1))⟩,
   ⟨some 44, none, .move (.t 69)⟩]
noncomputable def c70_2 : ACode := .mask (.n (.n (.n (.n .e true .e) true (.n .e false (.n (.n .e true .e) false .e))) false (.n .e true .e)) true (.n (.n .e true (.n .e false (.n (.n .e true .e) false .e))) false (.n (.n .e false (.n (.n .e true .e) false .e)) false .e))) (c70_1)
noncomputable def c70_3 : ACode := .seq (.block 1 (.seq (.region none [⟨some 46, none, .move (.t 44)⟩,
   ⟨some 47, none, .idxSl 1 (.t 42) (.t 44)⟩,
   ⟨some 48, none, .load none (.t 47)⟩,
   ⟨some 8, none, .move (.t 46)⟩,
   ⟨some 9, none, .move (.t 48)⟩])
  (.seq (.region (some []) [⟨some 49, none, .move (.t 9)⟩,
   ⟨some 50, none, .bin .lss (.t 49) (.c (.int .i64 0))⟩,
   ⟨some 51, none, .move (.t 50)⟩,
   ⟨some 52, (some (51, false)), .move (.t 9)⟩,
   ⟨some 53, (some (51, false)), .move (.t 3)⟩,
   ⟨some 54, (some (51, false)), .bin .geq (.t 52) (.t 53)⟩,
   ⟨some 55, none, .pick (.t 51) (.c (.bool true)) (.t 54)⟩,
   ⟨some 56, none, .move (.t 55)⟩,
   ⟨some 57, (some (56, false)), .move (.t 5)⟩,
   ⟨some 58, (some (56, false)), .move (.t 8)⟩,
   ⟨some 59, (some (56, false)), .idxSl 1 (.t 57) (.t 58)⟩,
   ⟨some 60, (some (56, false)), .load none (.t 59)⟩,
   ⟨some 61, (some (56, false)), .move (.t 0)⟩,
   ⟨some 62, (some (56, false)), .move (.t 9)⟩,
   ⟨some 63, (some (56, false)), .idxSl 12 (.t 61) (.t 62)⟩,
   ⟨some 64, (some (56, false)), .load (some 12) (.t 63)⟩,
   ⟨some 65, (some (56, false)), .callP 74 [.t 64]⟩,
   ⟨some 66, (some (56, false)), .call 103 [.t 60, .t 65]⟩,
   ⟨some 67, (some (56, false)), .un .not (.t 66)⟩,
   ⟨some 68, none, .pick (.t 56) (.c (.bool true)) (.t 67)⟩])
  (.cond (.t 68) (.seq (.region none [⟨some 2, none, .move (.c (.bool false))⟩])
  (.ret))
  (.skip)))))
  (c70_2)
noncomputable def c70_4 : ACode := .mask (.n (.n (.n (.n .e true .e) true (.n .e false (.n (.n .e true .e) false .e))) false (.n .e true .e)) true (.n (.n .e true (.n .e false (.n (.n .e true .e) false .e))) false (.n (.n .e false (.n (.n .e true .e) false .e)) false .e))) (c70_3)
noncomputable def c70_5 : ACode := .seq (.region none [⟨some 45, none, .bin .lss (.t 44) (.t 43)⟩])
  (.seq (.cond (.t 45) (.skip)
  (.exit 0))
  (c70_4))
noncomputable def c70_6 : ACode := .seq (.region none [⟨some 136, none, .move (.t 0)⟩,
   ⟨some 137, none, .move (.t 3)⟩,
   ⟨some 138, none, .slice 12 (.t 136) none (some (.t 137)) none⟩,
   ⟨some 139, none, .mkFunc 119 [.t 4]⟩,
   ⟨some 140, none, .call 118 [.t 138, .t 139]⟩,
   ⟨some 141, none, .un .not (.t 140)⟩,
   ⟨some 2, none, .move (.t 141)⟩])
  (.ret)
noncomputable def c70_7 : ACode := .mask (.n (.n (.n .e true .e) false .e) true (.n (.n .e true .e) false .e)) (c70_6)
noncomputable def c70_8 : ACode := .seq (.region (some []) [⟨some 89, none, .fieldAddr 1 (.t 4)⟩,
   ⟨some 90, none, .load none (.t 89)⟩,
   ⟨some 91, none, .bin .eql (.t 90) (.c (.int .i64 1))⟩,
   ⟨some 92, none, .move (.t 91)⟩,
   ⟨some 93, (some (92, false)), .fieldAddr 1 (.t 4)⟩,
   ⟨some 94, (some (92, false)), .load none (.t 93)⟩,
   ⟨some 95, (some (92, false)), .bin .eql (.t 94) (.c (.int .i64 2))⟩,
   ⟨some 96, none, .pick (.t 92) (.c (.bool true)) (.t 95)⟩,
   ⟨some 97, none, .fieldAddr 1 (.t 4)⟩,
   ⟨some 98, none, .load none (.t 97)⟩,
   ⟨some 99, none, .bin .eql (.t 98) (.c (.int .i64 1))⟩,
   ⟨some 10, none, .move (.t 96)⟩,
   ⟨some 11, none, .move (.t 99)⟩])
  (.seq (.seq (.region none [⟨some 100, none, .move (.t 10)⟩,
   ⟨some 101, none, .move (.t 100)⟩,
   ⟨some 102, (some (101, true)), .fieldAddr 3 (.t 4)⟩,
   ⟨some 103, (some (101, true)), .load (some 4) (.t 102)⟩,
   ⟨some 104, (some (101, true)), .call 116 [.t 103]⟩,
   ⟨some 105, (some (101, true)), .un .not (.t 104)⟩,
   ⟨some 106, none, .pick (.t 101) (.t 105) (.c (.bool false))⟩,
   ⟨some 107, none, .move (.t 106)⟩,
   ⟨some 108, (some (107, false)), .move (.t 10)⟩,
   ⟨some 109, (some (107, false)), .un .not (.t 108)⟩,
   ⟨some 110, (some (107, false)), .move (.t 109)⟩,
   ⟨some 111, (some (110, true)), .fieldAddr 3 (.t 4)⟩,
   ⟨some 112, (some (110, true)), .load (some 4) (.t 111)⟩,
   ⟨some 113, (some (110, true)), .call 117 [.t 112]⟩,
   ⟨some 114, (some (110, true)), .un .not (.t 113)⟩,
   ⟨some 115, (some (107, false)), .pick (.t 110) (.t 114) (.c (.bool false))⟩,
   ⟨some 116, none, .pick (.t 107) (.c (.bool true)) (.t 115)⟩,
   ⟨some 117, none, .move (.t 116)⟩,
   ⟨some 118, (some (117, false)), .move (.t 11)⟩,
   ⟨some 119, (some (117, false)), .move (.t 118)⟩,
   ⟨some 120, (some (119, true)), .fieldAddr 7 (.t 4)⟩,
   ⟨some 121, (some (119, true)), .load (some 4) (.t 120)⟩,
   ⟨some 122, (some (119, true)), .call 116 [.t 121]⟩,
   ⟨some 123, (some (119, true)), .un .not (.t 122)⟩,
   ⟨some 124, (some (117, false)), .pick (.t 119) (.t 123) (.c (.bool false))⟩,
   ⟨some 125, none, .pick (.t 117) (.c (.bool true)) (.t 124)⟩,
   ⟨some 126, none, .move (.t 125)⟩,
   ⟨some 127, (some (126, false)), .move (.t 11)⟩,
   ⟨some 128, (some (126, false)), .un .not (.t 127)⟩,
   ⟨some 129, (some (126, false)), .move (.t 128)⟩,
   ⟨some 130, (some (129, true)), .fieldAddr 7 (.t 4)⟩,
   ⟨some 131, (some (129, true)), .load (some 4) (.t 130)⟩,
   ⟨some 132, (some (129, true)), .call 117 [.t 131]⟩,
   ⟨some 133, (some (129, true)), .un .not (.t 132)⟩,
   ⟨some 134, (some (126, false)), .pick (.t 129) (.t 133) (.c (.bool false))⟩,
   ⟨some 135, none, .pick (.t 126) (.c (.bool true)) (.t 134)⟩])
  (.cond (.t 135) (.seq (.region none [⟨some 2, none, .move (.c (.bool false))⟩])
  (.ret))
  (.skip)))
  (c70_7))
noncomputable def c70_9 : ACode := .mask (.n (.n (.n .e true .e) false .e) true (.n (.n .e true .e) false .e)) (c70_8)
noncomputable def c70_10 : ACode := .seq (.seq (.region none [⟨some 70, none, .move (.t 7)⟩,
   ⟨some 71, none, .fieldAddr 11 (.t 4)⟩,
   ⟨some 72, none, .load none (.t 71)⟩,
   ⟨some 73, none, .bin .eql (.t 72) (.c (.int .i64 1))⟩,
   ⟨some 74, none, .move (.t 73)⟩,
   ⟨some 75, (some (74, false)), .fieldAddr 11 (.t 4)⟩,
   ⟨some 76, (some (74, false)), .load none (.t 75)⟩,
   ⟨some 77, (some (74, false)), .bin .eql (.t 76) (.c (.int .i64 2))⟩,
   ⟨some 78, none, .pick (.t 74) (.c (.bool true)) (.t 77)⟩,
   ⟨some 79, none, .eq true .bool (.t 70) (.t 78)⟩,
   ⟨some 80, none, .move (.t 79)⟩,
   ⟨some 81, (some (80, false)), .move (.t 7)⟩,
   ⟨some 82, (some (80, false)), .un .not (.t 81)⟩,
   ⟨some 83, (some (80, false)), .move (.t 82)⟩,
   ⟨some 84, (some (83, true)), .fieldAddr 11 (.t 4)⟩,
   ⟨some 85, (some (83, true)), .load none (.t 84)⟩,
   ⟨some 86, (some (83, true)), .bin .neq (.t 85) (.c (.int .i64 0))⟩,
   ⟨some 87, (some (80, false)), .pick (.t 83) (.t 86) (.c (.bool false))⟩,
   ⟨some 88, none, .pick (.t 80) (.c (.bool true)) (.t 87)⟩])
  (.cond (.t 88) (.seq (.region none [⟨some 2, none, .move (.c (.bool false))⟩])
  (.ret))
  (.skip)))
  (c70_9)
noncomputable def c70_11 : ACode := .mask (.n (.n (.n (.n .e true .e) true .e) false .e) true (.n (.n .e true .e) false .e)) (c70_10)
noncomputable def c70_12 : ACode := .seq (.seq (.region none [⟨some 41, none, .fieldAddr 2 (.t 4)⟩,
   ⟨some 42, none, .load none (.t 41)⟩,
   ⟨some 43, none, .len false (.t 42)⟩,
   ⟨some 44, none, .move (.c (.int .i64 0))⟩])
  (.block 0 (.loop (.n (.n (.n (.n .e true .e) true (.n .e false (.n (.n .e true .e) false .e))) false (.n .e true .e)) true (.n (.n .e true (.n .e false (.n (.n .e true .e) false .e))) false (.n (.n .e false (.n (.n .e true .e) false .e)) false .e))) (c70_5))))
  (c70_11)
noncomputable def c70_13 : ACode := .mask (.n (.n (.n (.n .e true .e) true .e) false (.n .e true .e)) true (.n (.n .e true .e) false .e)) (c70_12)
noncomputable def c70_b : ACode := .seq (.region none [⟨some 2, none, .move (.c (.bool false))⟩])
  (.seq (.region none [⟨some 12, none, .move (.t 0)⟩,
   ⟨some 13, none, .len false (.t 12)⟩,
   ⟨some 14, none, .bin .sub (.t 13) (.c (.int .i64 1))⟩,
   ⟨some 3, none, .move (.t 14)⟩])
  (.seq (.region none [⟨some 15, none, .move (.t 0)⟩,
   ⟨some 16, none, .move (.t 3)⟩,
   ⟨some 17, none, .idxSl 12 (.t 15) (.t 16)⟩,
   ⟨some 18, none, .load (some 12) (.t 17)⟩,
   ⟨some 4, none, .alloc [.str [], .int .i64 0, .sl 1 [] .nil, .bool false, .sl 1 [] .nil, .bool false, .sl 1 [] .nil, .bool false, .sl 1 [] .nil, .bool false, .sl 1 [] .nil, .int .i64 0]⟩,
   ⟨none, none, .store 12 (.t 4) (.t 18)⟩])
  (.seq (.region none [⟨some 20, none, .fieldAddr 1 (.t 4)⟩,
   ⟨some 21, none, .load none (.t 20)⟩,
   ⟨some 22, none, .call 115 [.t 21]⟩,
   ⟨some 19, none, .move (.t 22)⟩,
   ⟨some 23, none, .extract (.t 19) 0⟩,
   ⟨some 24, none, .extract (.t 19) 1⟩,
   ⟨some 25, none, .extract (.t 19) 2⟩,
   ⟨some 5, none, .move (.t 23)⟩,
   ⟨some 6, none, .move (.t 24)⟩,
   ⟨some 7, none, .move (.t 25)⟩])
  (.seq (.seq (.region none [⟨some 26, none, .move (.t 6)⟩,
   ⟨some 27, none, .bin .eql (.t 26) (.c (.int .i64 0))⟩,
   ⟨some 28, none, .move (.t 27)⟩,
   ⟨some 29, (some (28, false)), .move (.t 5)⟩,
   ⟨some 30, (some (28, false)), .len false (.t 29)⟩,
   ⟨some 31, (some (28, false)), .fieldAddr 2 (.t 4)⟩,
   ⟨some 32, (some (28, false)), .load none (.t 31)⟩,
   ⟨some 33, (some (28, false)), .len false (.t 32)⟩,
   ⟨some 34, (some (28, false)), .bin .neq (.t 30) (.t 33)⟩,
   ⟨some 35, none, .pick (.t 28) (.c (.bool true)) (.t 34)⟩,
   ⟨some 36, none, .move (.t 35)⟩,
   ⟨some 37, (some (36, false)), .fieldAddr 0 (.t 4)⟩,
   ⟨some 38, (some (36, false)), .load none (.t 37)⟩,
   ⟨some 39, (some (36, false)), .bin .eql (.t 38) (.c (.str []))⟩,
   ⟨some 40, none, .pick (.t 36) (.c (.bool true)) (.t 39)⟩])
  (.cond (.t 40) (.seq (.region none [⟨some 2, none, .move (.c (.bool false))⟩])
  (.ret))
  (.skip)))
  (c70_13)))))
noncomputable def c70 : AFn := { np := 1, nt := 142, results := [.t 2], keep := false, body := c70_b }
noncomputable def c71_b : ACode := .seq (.region none [⟨some 1, none, .boxRo (.t 0)⟩,
   ⟨some 2, none, .move (.c (.bool false))⟩])
  (.seq (.region none [⟨some 7, none, .fieldAddr 1 (.t 1)⟩,
   ⟨some 8, none, .load none (.t 7)⟩,
   ⟨some 9, none, .call 115 [.t 8]⟩,
   ⟨some 6, none, .move (.t 9)⟩,
   ⟨some 10, none, .extract (.t 6) 0⟩,
   ⟨some 11, none, .extract (.t 6) 1⟩,
   ⟨some 12, none, .extract (.t 6) 2⟩,
   ⟨some 3, none, .move (.t 10)⟩,
   ⟨some 4, none, .move (.t 11)⟩,
   ⟨some 5, none, .move (.t 12)⟩])
  (.seq (.region none [⟨some 13, none, .move (.t 5)⟩,
   ⟨some 2, none, .move (.t 13)⟩])
  (.ret)))
noncomputable def c71 : AFn := { np := 1, nt := 14, results := [.t 2], keep := false, body := c71_b }
noncomputable def c72_1 : ACode := .region none [⟨some 31, none, .bin .add (.t 8) (.c (.int .i64 1))⟩,
   ⟨some 8, none, .move (.t 31)⟩]
noncomputable def c72_2 : ACode := .mask (.n (.n (.n (.n .e true .e) true .e) false .e) false (.n (.n (.n .e true .e) false .e) false (.n .e true .e))) (c72_1)
noncomputable def c72_3 : ACode := .seq (.block 1 (.seq (.region none [⟨some 10, none, .move (.t 8)⟩,
   ⟨some 11, none, .idxSl 12 (.t 6) (.t 8)⟩,
   ⟨some 12, none, .load (some 12) (.t 11)⟩,
   ⟨some 5, none, .alloc [.str [], .int .i64 0, .sl 1 [] .nil, .bool false, .sl 1 [] .nil, .bool false, .sl 1 [] .nil, .bool false, .sl 1 [] .nil, .bool false, .sl 1 [] .nil, .int .i64 0]⟩,
   ⟨some 4, none, .move (.t 10)⟩,
   ⟨none, none, .store 12 (.t 5) (.t 12)⟩])
  (.seq (.region none [⟨some 13, none, .fieldAddr 1 (.t 5)⟩,
   ⟨some 14, none, .load none (.t 13)⟩])
  (.block 2 (.seq (.region none [⟨some 16, none, .bin .eql (.t 14) (.c (.int .i64 1))⟩,
   ⟨some 15, none, .move (.t 16)⟩])
  (.cond (.t 15) (.region none [⟨some 17, none, .move (.t 3)⟩,
   ⟨some 18, none, .move (.t 4)⟩,
   ⟨some 19, none, .build [.int .i64 0, .int .i64 0] [(0, 1, .t 18), (1, 1, .c (.int .i64 0))]⟩,
   ⟨some 20, none, .move (.t 4)⟩,
   ⟨some 21, none, .build [.int .i64 0, .int .i64 0] [(0, 1, .t 20), (1, 1, .c (.int .i64 1))]⟩,
   ⟨some 22, none, .buildSlice 2 [.t 19, .t 21]⟩,
   ⟨some 23, none, .append 2 16 none (.t 17) (.t 22)⟩,
   ⟨some 3, none, .move (.t 23)⟩])
  (.seq (.region none [⟨some 25, none, .bin .eql (.t 14) (.c (.int .i64 2))⟩,
   ⟨some 24, none, .move (.t 25)⟩])
  (.cond (.t 24) (.region none [⟨some 26, none, .move (.t 3)⟩,
   ⟨some 27, none, .move (.t 4)⟩,
   ⟨some 28, none, .build [.int .i64 0, .int .i64 0] [(0, 1, .t 27), (1, 1, .c (.int .i64 0))]⟩,
   ⟨some 29, none, .buildSlice 2 [.t 28]⟩,
   ⟨some 30, none, .append 2 16 none (.t 26) (.t 29)⟩,
   ⟨some 3, none, .move (.t 30)⟩])
  (.skip)))))))))
  (c72_2)
noncomputable def c72_4 : ACode := .mask (.n (.n (.n (.n .e true .e) true .e) false .e) false (.n (.n (.n .e true .e) false .e) false (.n .e true .e))) (c72_3)
noncomputable def c72_5 : ACode := .seq (.region none [⟨some 9, none, .bin .lss (.t 8) (.t 7)⟩])
  (.seq (.cond (.t 9) (.skip)
  (.exit 0))
  (c72_4))
noncomputable def c72_6 : ACode := .seq (.region none [⟨some 32, none, .move (.t 3)⟩,
   ⟨some 2, none, .move (.t 32)⟩])
  (.ret)
noncomputable def c72_7 : ACode := .mask (.n (.n (.n .e true .e) false .e) false .e) (c72_6)
noncomputable def c72_b : ACode := .seq (.region none [⟨some 2, none, .move (.c (.sl 2 [] .nil))⟩])
  (.seq (.region none [⟨some 3, none, .move (.c (.sl 2 [] .nil))⟩])
  (.seq (.seq (.region none [⟨some 6, none, .move (.t 0)⟩,
   ⟨some 7, none, .len false (.t 6)⟩,
   ⟨some 8, none, .move (.c (.int .i64 0))⟩])
  (.block 0 (.loop (.n (.n (.n (.n .e true .e) true .e) false .e) false (.n (.n (.n .e true .e) false .e) false (.n .e true .e))) (c72_5))))
  (c72_7)))
noncomputable def c72 : AFn := { np := 1, nt := 33, results := [.t 2], keep := false, body := c72_b }
noncomputable def c73_1 : ACode := .seq (.region none [⟨some 4, none, .move (.c (.int .i64 0))⟩])
  (.ret)
noncomputable def c73_2 : ACode := .mask .e (c73_1)
noncomputable def c73_3 : ACode := .seq (.seq (.region none [⟨some 11, none, .move (.t 1)⟩,
   ⟨some 12, none, .bin .lss (.t 11) (.c (.int .i64 0))⟩,
   ⟨some 13, none, .move (.t 12)⟩,
   ⟨some 14, (some (13, false)), .move (.t 1)⟩,
   ⟨some 15, (some (13, false)), .move (.t 0)⟩,
   ⟨some 16, (some (13, false)), .len false (.t 15)⟩,
   ⟨some 17, (some (13, false)), .bin .geq (.t 14) (.t 16)⟩,
   ⟨some 18, none, .pick (.t 13) (.c (.bool true)) (.t 17)⟩])
  (.cond (.t 18) (.seq (.region none [⟨some 4, none, .move (.c (.int .i64 1))⟩])
  (.ret))
  (.skip)))
  (c73_2)
noncomputable def c73_4 : ACode := .mask (.n (.n .e true .e) true .e) (c73_3)
noncomputable def c73_b : ACode := .seq (.region none [⟨some 4, none, .move (.c (.int .i64 0))⟩])
  (.seq (.seq (.region none [⟨some 6, none, .move (.t 0)⟩,
   ⟨some 7, none, .call 42 [.t 6]⟩,
   ⟨some 5, none, .move (.t 7)⟩])
  (.seq (.region none [⟨some 8, none, .move (.t 5)⟩,
   ⟨some 9, none, .bin .neq (.t 8) (.c (.int .i64 0))⟩])
  (.cond (.t 9) (.seq (.region none [⟨some 10, none, .move (.t 5)⟩,
   ⟨some 4, none, .move (.t 10)⟩])
  (.ret))
  (.skip))))
  (c73_4))
noncomputable def c73 : AFn := { np := 2, nt := 19, results := [.t 4], keep := false, body := c73_b }
noncomputable def c74_b : ACode := .seq (.region none [⟨some 1, none, .boxRo (.t 0)⟩,
   ⟨some 2, none, .move (.c (.int .i64 0))⟩])
  (.seq (.region none [⟨some 7, none, .fieldAddr 1 (.t 1)⟩,
   ⟨some 8, none, .load none (.t 7)⟩,
   ⟨some 9, none, .call 115 [.t 8]⟩,
   ⟨some 6, none, .move (.t 9)⟩,
   ⟨some 10, none, .extract (.t 6) 0⟩,
   ⟨some 11, none, .extract (.t 6) 1⟩,
   ⟨some 12, none, .extract (.t 6) 2⟩,
   ⟨some 3, none, .move (.t 10)⟩,
   ⟨some 4, none, .move (.t 11)⟩,
   ⟨some 5, none, .move (.t 12)⟩])
  (.seq (.region none [⟨some 13, none, .move (.t 4)⟩,
   ⟨some 2, none, .move (.t 13)⟩])
  (.ret)))
noncomputable def c74 : AFn := { np := 1, nt := 14, results := [.t 2], keep := false, body := c74_b }
noncomputable def c75_b : ACode := .seq (.region none [⟨some 2, none, .move (.c (.str []))⟩])
  (.seq (.region none [⟨some 3, none, .move (.t 0)⟩,
   ⟨some 4, none, .call 120 [.t 3]⟩,
   ⟨some 2, none, .move (.t 4)⟩])
  (.ret))
noncomputable def c75 : AFn := { np := 1, nt := 5, results := [.t 2], keep := false, body := c75_b }
noncomputable def c76_b : ACode := .seq (.region none [⟨some 8, none, .move (.c (.int .i64 0))⟩])
  (.seq (.region none [⟨some 9, none, .move (.t 0)⟩,
   ⟨some 10, none, .move (.t 0)⟩,
   ⟨some 11, none, .nilCheck (.t 10)⟩,
   ⟨some 12, none, .fieldAddr 0 (.t 11)⟩,
   ⟨some 13, none, .fieldAddr 1 (.t 12)⟩,
   ⟨some 14, none, .load none (.t 13)⟩,
   ⟨some 15, none, .move (.t 1)⟩,
   ⟨some 16, none, .move (.t 2)⟩,
   ⟨some 17, none, .move (.t 3)⟩,
   ⟨some 18, none, .build [.int .i64 0, .int .i64 0, .int .i64 0] [(0, 1, .t 15), (1, 1, .t 16), (2, 1, .t 17)]⟩,
   ⟨some 19, none, .buildSlice 3 [.t 18]⟩,
   ⟨some 20, none, .append 3 24 (some (.t 0)) (.t 14) (.t 19)⟩,
   ⟨some 21, none, .nilCheck (.t 9)⟩,
   ⟨some 22, none, .fieldAddr 0 (.t 21)⟩,
   ⟨some 23, none, .fieldAddr 1 (.t 22)⟩,
   ⟨none, none, .store 1 (.t 23) (.t 20)⟩])
  (.seq (.region none [⟨some 24, none, .move (.t 0)⟩,
   ⟨some 25, none, .nilCheck (.t 24)⟩,
   ⟨some 26, none, .fieldAddr 0 (.t 25)⟩,
   ⟨some 27, none, .fieldAddr 1 (.t 26)⟩,
   ⟨some 28, none, .load none (.t 27)⟩,
   ⟨some 29, none, .len false (.t 28)⟩,
   ⟨some 30, none, .bin .sub (.t 29) (.c (.int .i64 1))⟩,
   ⟨some 8, none, .move (.t 30)⟩])
  (.ret)))
noncomputable def c76 : AFn := { np := 4, nt := 31, results := [.t 8], keep := false, body := c76_b }
noncomputable def c77_b : ACode := .seq (.region none [⟨some 2, none, .boxRo (.t 0)⟩,
   ⟨some 4, none, .move (.c (.int .i64 0))⟩])
  (.seq (.region none [⟨some 9, none, .move (.t 1)⟩,
   ⟨some 10, none, .build [.str [], .int .i64 0] [(0, 1, .t 9)]⟩,
   ⟨some 11, none, .boxMut (.t 10)⟩,
   ⟨some 5, none, .alloc [.nilp]⟩,
   ⟨none, none, .store 1 (.t 5) (.t 11)⟩])
  (.seq (.region none [⟨some 6, none, .alloc [.nilf]⟩])
  (.seq (.region none [⟨some 12, none, .mkFunc 121 [.t 5, .t 6, .t 2]⟩,
   ⟨some 7, none, .alloc [.nilf]⟩,
   ⟨none, none, .store 1 (.t 7) (.t 12)⟩])
  (.seq (.region none [⟨some 13, none, .mkFunc 125 [.t 7, .t 5, .t 2]⟩,
   ⟨some 8, none, .alloc [.nilf]⟩,
   ⟨none, none, .store 1 (.t 8) (.t 13)⟩])
  (.seq (.region none [⟨some 14, none, .mkFunc 126 [.t 5, .t 2, .t 8]⟩,
   ⟨none, none, .store 1 (.t 6) (.t 14)⟩])
  (.seq (.region none [⟨some 15, none, .load none (.t 6)⟩,
   ⟨some 16, none, .callV (.t 15) []⟩,
   ⟨some 4, none, .move (.t 16)⟩])
  (.ret)))))))
noncomputable def c77 : AFn := { np := 2, nt := 17, results := [.t 4], keep := false, body := c77_b }
noncomputable def c78_b : ACode := .seq (.region none [⟨some 0, none, .move (.c (.sl 1 [] .nil))⟩])
  (.seq (.region none [⟨some 1, none, .buildSlice 1 [.c (.str [121, 49, 32, 122, 50, 32, 45, 32, 122, 49, 32, 121, 50]), .c (.str [122, 49, 32, 120, 50, 32, 45, 32, 120, 49, 32, 122, 50]), .c (.str [120, 49, 32, 121, 50, 32, 45, 32, 121, 49, 32, 120, 50])]⟩,
   ⟨some 0, none, .move (.t 1)⟩])
  (.ret))
noncomputable def c78 : AFn := { np := 0, nt := 2, results := [.t 0], keep := false, body := c78_b }
noncomputable def c79_1 : ACode := .region none [⟨some 9, none, .move (.t 4)⟩,
   ⟨some 10, none, .bin .add (.t 9) (.c (.int .i64 1))⟩,
   ⟨some 4, none, .move (.t 10)⟩]
noncomputable def c79_2 : ACode := .mask (.n (.n (.n .e true .e) false .e) true (.n (.n .e true .e) false .e)) (c79_1)
noncomputable def c79_3 : ACode := .seq (.block 1 (.seq (.region none [⟨some 11, none, .move (.t 4)⟩,
   ⟨some 12, none, .call 75 [.t 11]⟩,
   ⟨some 5, none, .move (.t 12)⟩])
  (.region none [⟨some 13, none, .move (.t 3)⟩,
   ⟨some 14, none, .move (.t 5)⟩,
   ⟨some 15, none, .bin .add (.c (.str [115])) (.t 14)⟩,
   ⟨some 16, none, .move (.t 5)⟩,
   ⟨some 17, none, .bin .add (.c (.str [120])) (.t 16)⟩,
   ⟨some 18, none, .bin .add (.t 17) (.c (.str [94, 50, 32, 43, 32, 121]))⟩,
   ⟨some 19, none, .move (.t 5)⟩,
   ⟨some 20, none, .bin .add (.t 18) (.t 19)⟩,
   ⟨some 21, none, .bin .add (.t 20) (.c (.str [94, 50]))⟩,
   ⟨some 22, none, .move (.t 5)⟩,
   ⟨some 23, none, .bin .add (.c (.str [102])) (.t 22)⟩,
   ⟨some 24, none, .move (.t 5)⟩,
   ⟨some 25, none, .bin .add (.c (.str [120])) (.t 24)⟩,
   ⟨some 26, none, .bin .add (.t 25) (.c (.str [32, 122]))⟩,
   ⟨some 27, none, .move (.t 5)⟩,
   ⟨some 28, none, .bin .add (.t 26) (.t 27)⟩,
   ⟨some 29, none, .move (.t 5)⟩,
   ⟨some 30, none, .bin .add (.c (.str [103])) (.t 29)⟩,
   ⟨some 31, none, .move (.t 5)⟩,
   ⟨some 32, none, .bin .add (.c (.str [121])) (.t 31)⟩,
   ⟨some 33, none, .bin .add (.t 32) (.c (.str [32, 122]))⟩,
   ⟨some 34, none, .move (.t 5)⟩,
   ⟨some 35, none, .bin .add (.t 33) (.t 34)⟩,
   ⟨some 36, none, .move (.t 5)⟩,
   ⟨some 37, none, .bin .add (.c (.str [104])) (.t 36)⟩,
   ⟨some 38, none, .move (.t 5)⟩,
   ⟨some 39, none, .bin .add (.c (.str [122])) (.t 38)⟩,
   ⟨some 40, none, .bin .add (.t 39) (.c (.str [94, 50]))⟩,
   ⟨some 41, none, .buildSlice 1 [.t 15, .t 21, .t 23, .t 28, .t 30, .t 35, .t 37, .t 40]⟩,
   ⟨some 42, none, .append 1 16 none (.t 13) (.t 41)⟩,
   ⟨some 3, none, .move (.t 42)⟩])))
  (c79_2)
noncomputable def c79_4 : ACode := .mask (.n (.n (.n .e true .e) false .e) true (.n (.n .e true .e) false .e)) (c79_3)
noncomputable def c79_5 : ACode := .seq (.seq (.region none [⟨some 6, none, .move (.t 4)⟩,
   ⟨some 7, none, .move (.t 0)⟩,
   ⟨some 8, none, .bin .leq (.t 6) (.t 7)⟩])
  (.cond (.t 8) (.skip)
  (.exit 0)))
  (c79_4)
noncomputable def c79_6 : ACode := .seq (.region none [⟨some 43, none, .move (.t 3)⟩,
   ⟨some 2, none, .move (.t 43)⟩])
  (.ret)
noncomputable def c79_7 : ACode := .mask (.n (.n (.n .e true .e) false .e) false .e) (c79_6)
noncomputable def c79_b : ACode := .seq (.region none [⟨some 2, none, .move (.c (.sl 1 [] .nil))⟩])
  (.seq (.region none [⟨some 3, none, .move (.c (.sl 1 [] .nil))⟩])
  (.seq (.seq (.region none [⟨some 4, none, .move (.c (.int .i64 1))⟩])
  (.block 0 (.loop (.n (.n (.n .e true .e) false .e) true (.n (.n .e true .e) false .e)) (c79_5))))
  (c79_7)))
noncomputable def c79 : AFn := { np := 1, nt := 44, results := [.t 2], keep := false, body := c79_b }
noncomputable def c80_b : ACode := .seq (.region none [⟨some 2, none, .alloc [.sl 1 [] .nil, .sl 1 [] .nil]⟩])
  (.seq (.region none [⟨some 3, none, .move (.t 0)⟩,
   ⟨some 4, none, .buildSlice 1 [.c (.str [110]), .c (.str [97, 94, 50, 32, 43, 32, 98, 94, 50]), .c (.str [107]), .c (.str [50, 32, 117, 32, 99, 32, 45, 32, 97, 32, 112, 32, 45, 32, 98, 32, 113]), .c (.str [100]), .c (.str [112, 94, 50, 32, 43, 32, 113, 94, 50, 32, 45, 32, 52, 32, 117, 32, 114]), .c (.str [115]), .c (.str [33, 110, 32, 100, 32, 45, 32, 107, 94, 50])]⟩,
   ⟨some 5, none, .append 1 16 none (.t 3) (.t 4)⟩,
   ⟨some 6, none, .buildSlice 1 [.c (.str [45, 110, 32, 112, 32, 45, 32, 107, 32, 97, 32, 45, 32, 115, 32, 98]), .c (.str [45, 110, 32, 113, 32, 45, 32, 107, 32, 98, 32, 43, 32, 115, 32, 97]), .c (.str [50, 32, 110, 32, 117])]⟩,
   ⟨some 7, none, .build [.sl 1 [] .nil, .sl 1 [] .nil] [(0, 1, .t 5), (1, 1, .t 6)]⟩,
   ⟨none, none, .store 2 (.t 2) (.t 7)⟩])
  (.ret))
noncomputable def c80 : AFn := { np := 1, nt := 8, results := [.cell 2 (some 2)], keep := false, body := c80_b }
noncomputable def c81_1 : ACode := .seq (.region none [⟨some 28, none, .buildSlice 1 [.c (.str [45, 112]), .c (.str [45, 113]), .c (.str [50, 32, 117])]⟩,
   ⟨some 29, none, .build [.sl 1 [] .nil, .sl 1 [] .nil] [(0, 1, .c (.sl 1 [] .nil)), (1, 1, .t 28)]⟩,
   ⟨none, none, .store 2 (.t 2) (.t 29)⟩])
  (.ret)
noncomputable def c81_2 : ACode := .mask (.n .e false (.n .e true .e)) (c81_1)
noncomputable def c81_b : ACode := .seq (.region none [⟨some 2, none, .alloc [.sl 1 [] .nil, .sl 1 [] .nil]⟩])
  (.seq (.seq (.region none [⟨some 3, none, .move (.t 0)⟩])
  (.block 0 (.seq (.region none [⟨some 5, none, .bin .eql (.t 3) (.c (.int .i64 10))⟩,
   ⟨some 4, none, .move (.t 5)⟩])
  (.cond (.t 4) (.seq (.region none [⟨some 6, none, .buildSlice 1 [.c (.str [111]), .c (.str [48])]⟩,
   ⟨some 7, none, .buildSlice 1 [.c (.str [121, 32, 111, 32, 45, 32, 122, 32, 98]), .c (.str [122, 32, 97, 32, 45, 32, 120, 32, 111]), .c (.str [120, 32, 98, 32, 45, 32, 121, 32, 97])]⟩,
   ⟨some 8, none, .build [.sl 1 [] .nil, .sl 1 [] .nil] [(0, 1, .t 6), (1, 1, .t 7)]⟩,
   ⟨none, none, .store 2 (.t 2) (.t 8)⟩])
  (.ret))
  (.seq (.region none [⟨some 10, none, .bin .eql (.t 3) (.c (.int .i64 11))⟩,
   ⟨some 9, none, .move (.t 10)⟩])
  (.cond (.t 9) (.seq (.region none [⟨some 11, none, .buildSlice 1 [.c (.str [111]), .c (.str [48]), .c (.str [101]), .c (.str [111, 32, 45, 32, 98])]⟩,
   ⟨some 12, none, .buildSlice 1 [.c (.str [121, 32, 111, 32, 45, 32, 122, 32, 97]), .c (.str [122, 32, 101, 32, 45, 32, 120, 32, 111]), .c (.str [120, 32, 97, 32, 45, 32, 121, 32, 101])]⟩,
   ⟨some 13, none, .build [.sl 1 [] .nil, .sl 1 [] .nil] [(0, 1, .t 11), (1, 1, .t 12)]⟩,
   ⟨none, none, .store 2 (.t 2) (.t 13)⟩])
  (.ret))
  (.seq (.region none [⟨some 15, none, .bin .eql (.t 3) (.c (.int .i64 12))⟩,
   ⟨some 14, none, .move (.t 15)⟩])
  (.cond (.t 14) (.seq (.region none [⟨some 16, none, .buildSlice 1 [.c (.str [120, 49, 32, 122, 50, 32, 43, 32, 120, 50, 32, 122, 49]), .c (.str [121, 49, 32, 122, 50, 32, 43, 32, 121, 50, 32, 122, 49]), .c (.str [50, 32, 122, 49, 32, 122, 50])]⟩,
   ⟨some 17, none, .build [.sl 1 [] .nil, .sl 1 [] .nil] [(0, 1, .c (.sl 1 [] .nil)), (1, 1, .t 16)]⟩,
   ⟨none, none, .store 2 (.t 2) (.t 17)⟩])
  (.ret))
  (.seq (.region none [⟨some 19, none, .bin .eql (.t 3) (.c (.int .i64 13))⟩,
   ⟨some 18, none, .move (.t 19)⟩])
  (.cond (.t 18) (.seq (.region none [⟨some 20, none, .buildSlice 1 [.c (.str [110]), .c (.str [97, 94, 50, 32, 43, 32, 98, 94, 50]), .c (.str [107]), .c (.str [97, 32, 120, 32, 43, 32, 98, 32, 121, 32, 43, 32, 99, 32, 122])]⟩,
   ⟨some 21, none, .buildSlice 1 [.c (.str [110, 32, 120, 32, 45, 32, 50, 32, 97, 32, 107]), .c (.str [110, 32, 121, 32, 45, 32, 50, 32, 98, 32, 107]), .c (.str [110, 32, 122])]⟩,
   ⟨some 22, none, .build [.sl 1 [] .nil, .sl 1 [] .nil] [(0, 1, .t 20), (1, 1, .t 21)]⟩,
   ⟨none, none, .store 2 (.t 2) (.t 22)⟩])
  (.ret))
  (.seq (.region none [⟨some 24, none, .bin .eql (.t 3) (.c (.int .i64 14))⟩,
   ⟨some 23, none, .move (.t 24)⟩])
  (.cond (.t 23) (.seq (.region none [⟨some 25, none, .buildSlice 1 [.c (.str [118, 120]), .c (.str [120, 49, 32, 122, 50, 32, 45, 32, 120, 50, 32, 122, 49]), .c (.str [118, 121]), .c (.str [121, 49, 32, 122, 50, 32, 45, 32, 121, 50, 32, 122, 49]), .c (.str [119, 120]), .c (.str [120, 51, 32, 122, 50, 32, 45, 32, 120, 50, 32, 122, 51]), .c (.str [119, 121]), .c (.str [121, 51, 32, 122, 50, 32, 45, 32, 121, 50, 32, 122, 51]), .c (.str [118]), .c (.str [118, 120, 94, 50, 32, 43, 32, 118, 121, 94, 50]), .c (.str [119]), .c (.str [119, 120, 94, 50, 32, 43, 32, 119, 121, 94, 50]), .c (.str [115]), .c (.str [33, 118, 32, 119]), .c (.str [100, 120]), .c (.str [119, 32, 118, 120, 32, 43, 32, 115, 32, 119, 120]), .c (.str [100, 121]), .c (.str [119, 32, 118, 121, 32, 43, 32, 115, 32, 119, 121])]⟩,
   ⟨some 26, none, .buildSlice 1 [.c (.str [45, 122, 50, 32, 100, 121]), .c (.str [122, 50, 32, 100, 120]), .c (.str [120, 50, 32, 100, 121, 32, 45, 32, 121, 50, 32, 100, 120])]⟩,
   ⟨some 27, none, .build [.sl 1 [] .nil, .sl 1 [] .nil] [(0, 1, .t 25), (1, 1, .t 26)]⟩,
   ⟨none, none, .store 2 (.t 2) (.t 27)⟩])
  (.ret))
  (.skip)))))))))))))
  (c81_2))
noncomputable def c81 : AFn := { np := 1, nt := 30, results := [.cell 2 (some 2)], keep := false, body := c81_b }
noncomputable def c88_1 : ACode := .cond (.t 42) (.seq (.region none [⟨some 46, none, .move (.t 7)⟩,
   ⟨some 47, none, .fieldAddr 1 (.t 3)⟩,
   ⟨some 48, none, .load none (.t 47)⟩,
   ⟨some 49, none, .callV (.t 46) [.t 48]⟩,
   ⟨some 50, none, .move (.t 49)⟩,
   ⟨some 51, (some (50, true)), .move (.t 7)⟩,
   ⟨some 52, (some (50, true)), .fieldAddr 2 (.t 3)⟩,
   ⟨some 53, (some (50, true)), .load none (.t 52)⟩,
   ⟨some 54, (some (50, true)), .callV (.t 51) [.t 53]⟩,
   ⟨some 55, none, .pick (.t 50) (.t 54) (.c (.bool false))⟩,
   ⟨some 6, none, .move (.t 55)⟩])
  (.ret))
  (.seq (.region none [⟨some 57, none, .bin .eql (.t 10) (.c (.int .i64 6))⟩,
   ⟨some 56, none, .move (.t 57)⟩])
  (.cond (.t 56) (.seq (.region none [⟨some 58, none, .move (.t 7)⟩,
   ⟨some 59, none, .fieldAddr 1 (.t 3)⟩,
   ⟨some 60, none, .load none (.t 59)⟩,
   ⟨some 61, none, .callV (.t 58) [.t 60]⟩,
   ⟨some 62, none, .move (.t 61)⟩,
   ⟨some 63, (some (62, true)), .fieldAddr 2 (.t 3)⟩,
   ⟨some 64, (some (62, true)), .load none (.t 63)⟩,
   ⟨some 65, (some (62, true)), .bin .eql (.t 64) (.c (.int .i64 0))⟩,
   ⟨some 66, none, .pick (.t 62) (.t 65) (.c (.bool false))⟩,
   ⟨some 6, none, .move (.t 66)⟩])
  (.ret))
  (.skip)))
noncomputable def c88_2 : ACode := .mask (.n (.n (.n (.n .e true .e) true .e) false .e) false (.n .e false (.n (.n .e true (.n (.n .e true .e) false .e)) false .e))) (c88_1)
noncomputable def c88_3 : ACode := .seq (.region none [⟨some 6, none, .move (.c (.bool false))⟩])
  (.ret)
noncomputable def c88_4 : ACode := .mask .e (c88_3)
noncomputable def c88_b : ACode := .seq (.region none [⟨some 3, none, .boxRo (.t 0)⟩,
   ⟨some 4, none, .boxRo (.t 1)⟩,
   ⟨some 6, none, .move (.c (.bool false))⟩])
  (.seq (.region none [⟨some 8, none, .mkFunc 138 [.t 4]⟩,
   ⟨some 7, none, .move (.t 8)⟩])
  (.seq (.seq (.region none [⟨some 9, none, .fieldAddr 0 (.t 3)⟩,
   ⟨some 10, none, .load none (.t 9)⟩])
  (.block 0 (.seq (.region none [⟨some 12, none, .bin .eql (.t 10) (.c (.int .i64 1))⟩,
   ⟨some 11, none, .move (.t 12)⟩])
  (.cond (.t 11) (.seq (.region none [⟨some 13, none, .fieldAddr 1 (.t 3)⟩,
   ⟨some 14, none, .load none (.t 13)⟩,
   ⟨some 15, none, .bin .geq (.t 14) (.c (.int .i64 0))⟩,
   ⟨some 16, none, .move (.t 15)⟩,
   ⟨some 17, (some (16, true)), .fieldAddr 1 (.t 3)⟩,
   ⟨some 18, (some (16, true)), .load none (.t 17)⟩,
   ⟨some 19, (some (16, true)), .move (.t 2)⟩,
   ⟨some 20, (some (16, true)), .bin .lss (.t 18) (.t 19)⟩,
   ⟨some 21, none, .pick (.t 16) (.t 20) (.c (.bool false))⟩,
   ⟨some 22, none, .move (.t 21)⟩,
   ⟨some 23, (some (22, true)), .fieldAddr 2 (.t 3)⟩,
   ⟨some 24, (some (22, true)), .load none (.t 23)⟩,
   ⟨some 25, (some (22, true)), .bin .eql (.t 24) (.c (.int .i64 0))⟩,
   ⟨some 26, none, .pick (.t 22) (.t 25) (.c (.bool false))⟩,
   ⟨some 6, none, .move (.t 26)⟩])
  (.ret))
  (.seq (.region none [⟨some 28, none, .bin .eql (.t 10) (.c (.int .i64 2))⟩,
   ⟨some 27, none, .move (.t 28)⟩])
  (.cond (.t 27) (.seq (.region none [⟨some 29, none, .fieldAddr 1 (.t 3)⟩,
   ⟨some 30, none, .load none (.t 29)⟩,
   ⟨some 31, none, .bin .geq (.t 30) (.c (.int .i64 (-1000)))⟩,
   ⟨some 32, none, .move (.t 31)⟩,
   ⟨some 33, (some (32, true)), .fieldAddr 1 (.t 3)⟩,
   ⟨some 34, (some (32, true)), .load none (.t 33)⟩,
   ⟨some 35, (some (32, true)), .bin .leq (.t 34) (.c (.int .i64 1000))⟩,
   ⟨some 36, none, .pick (.t 32) (.t 35) (.c (.bool false))⟩,
   ⟨some 37, none, .move (.t 36)⟩,
   ⟨some 38, (some (37, true)), .fieldAddr 2 (.t 3)⟩,
   ⟨some 39, (some (37, true)), .load none (.t 38)⟩,
   ⟨some 40, (some (37, true)), .bin .eql (.t 39) (.c (.int .i64 0))⟩,
   ⟨some 41, none, .pick (.t 37) (.t 40) (.c (.bool false))⟩,
   ⟨some 6, none, .move (.t 41)⟩])
  (.ret))
  (.seq (.seq (.region none [⟨some 43, none, .bin .eql (.t 10) (.c (.int .i64 3))⟩,
   ⟨some 42, none, .move (.t 43)⟩])
  (.cond (.t 42) (.skip)
  (.seq (.region none [⟨some 44, none, .bin .eql (.t 10) (.c (.int .i64 4))⟩,
   ⟨some 42, none, .move (.t 44)⟩])
  (.cond (.t 42) (.skip)
  (.region none [⟨some 45, none, .bin .eql (.t 10) (.c (.int .i64 5))⟩,
   ⟨some 42, none, .move (.t 45)⟩])))))
  (c88_2))))))))
  (c88_4)))
noncomputable def c88 : AFn := { np := 3, nt := 67, results := [.t 6], keep := false, body := c88_b }
noncomputable def c101_1 : ACode := .seq (.region none [⟨some 17, none, .move (.t 0)⟩,
   ⟨some 18, none, .move (.t 7)⟩,
   ⟨some 19, none, .move (.t 2)⟩,
   ⟨some 20, none, .call 143 [.t 17, .t 18, .t 19]⟩,
   ⟨some 6, none, .move (.t 20)⟩])
  (.ret)
noncomputable def c101_2 : ACode := .mask (.n (.n (.n (.n .e true .e) false .e) false .e) true (.n .e true .e)) (c101_1)
noncomputable def c101_b : ACode := .seq (.region none [⟨some 6, none, .move (.c (.sl 1 [] .nil))⟩])
  (.seq (.region none [⟨some 8, none, .move (.t 1)⟩,
   ⟨some 9, none, .convInt .u64 (.t 8)⟩,
   ⟨some 7, none, .move (.t 9)⟩])
  (.seq (.seq (.region none [⟨some 10, none, .move (.t 1)⟩,
   ⟨some 11, none, .bin .lss (.t 10) (.c (.int .i64 0))⟩])
  (.cond (.t 11) (.seq (.region none [⟨some 12, none, .move (.t 0)⟩,
   ⟨some 13, none, .buildSlice 1 [.c (.int .u8 45)]⟩,
   ⟨some 14, none, .append 1 1 none (.t 12) (.t 13)⟩,
   ⟨some 0, none, .move (.t 14)⟩])
  (.region none [⟨some 15, none, .move (.t 7)⟩,
   ⟨some 16, none, .un .neg (.t 15)⟩,
   ⟨some 7, none, .move (.t 16)⟩]))
  (.skip)))
  (c101_2)))
noncomputable def c101 : AFn := { np := 3, nt := 21, results := [.t 6], keep := false, body := c101_b }
noncomputable def c103_b : ACode := .seq (.region none [⟨some 4, none, .move (.c (.bool false))⟩])
  (.seq (.region none [⟨some 5, none, .move (.t 1)⟩,
   ⟨some 6, none, .move (.t 0)⟩,
   ⟨some 7, none, .bin .eql (.t 5) (.t 6)⟩,
   ⟨some 8, none, .move (.t 7)⟩,
   ⟨some 9, (some (8, false)), .move (.t 0)⟩,
   ⟨some 10, (some (8, false)), .bin .eql (.t 9) (.c (.int .i64 0))⟩,
   ⟨some 11, (some (8, false)), .move (.t 10)⟩,
   ⟨some 12, (some (11, true)), .move (.t 1)⟩,
   ⟨some 13, (some (11, true)), .bin .eql (.t 12) (.c (.int .i64 2))⟩,
   ⟨some 14, (some (11, true)), .move (.t 13)⟩,
   ⟨some 15, (some (14, false)), .move (.t 1)⟩,
   ⟨some 16, (some (14, false)), .bin .eql (.t 15) (.c (.int .i64 3))⟩,
   ⟨some 17, (some (11, true)), .pick (.t 14) (.c (.bool true)) (.t 16)⟩,
   ⟨some 18, (some (8, false)), .pick (.t 11) (.t 17) (.c (.bool false))⟩,
   ⟨some 19, none, .pick (.t 8) (.c (.bool true)) (.t 18)⟩,
   ⟨some 4, none, .move (.t 19)⟩])
  (.ret))
noncomputable def c103 : AFn := { np := 2, nt := 20, results := [.t 4], keep := false, body := c103_b }
noncomputable def c115_1 : ACode := .cond (.t 30) (.seq (.region none [⟨some 33, none, .buildSlice 1 [.c (.int .i64 1), .c (.int .i64 2)]⟩,
   ⟨some 2, none, .move (.t 33)⟩,
   ⟨some 3, none, .move (.c (.int .i64 2))⟩,
   ⟨some 4, none, .move (.c (.bool false))⟩])
  (.ret))
  (.seq (.region none [⟨some 35, none, .bin .eql (.t 5) (.c (.int .i64 12))⟩,
   ⟨some 34, none, .move (.t 35)⟩])
  (.cond (.t 34) (.seq (.region none [⟨some 36, none, .buildSlice 1 [.c (.int .i64 1), .c (.int .i64 1)]⟩,
   ⟨some 2, none, .move (.t 36)⟩,
   ⟨some 3, none, .move (.c (.int .i64 1))⟩,
   ⟨some 4, none, .move (.c (.bool false))⟩])
  (.ret))
  (.seq (.region none [⟨some 38, none, .bin .eql (.t 5) (.c (.int .i64 13))⟩,
   ⟨some 37, none, .move (.t 38)⟩])
  (.cond (.t 37) (.seq (.region none [⟨some 39, none, .buildSlice 1 [.c (.int .i64 1), .c (.int .i64 2)]⟩,
   ⟨some 2, none, .move (.t 39)⟩,
   ⟨some 3, none, .move (.c (.int .i64 1))⟩,
   ⟨some 4, none, .move (.c (.bool false))⟩])
  (.ret))
  (.seq (.region none [⟨some 41, none, .bin .eql (.t 5) (.c (.int .i64 14))⟩,
   ⟨some 40, none, .move (.t 41)⟩])
  (.cond (.t 40) (.seq (.region none [⟨some 42, none, .buildSlice 1 [.c (.int .i64 1), .c (.int .i64 1), .c (.int .i64 1)]⟩,
   ⟨some 2, none, .move (.t 42)⟩,
   ⟨some 3, none, .move (.c (.int .i64 2))⟩,
   ⟨some 4, none, .move (.c (.bool true))⟩])
  (.ret))
  (.seq (.region none [⟨some 44, none, .bin .eql (.t 5) (.c (.int .i64 15))⟩,
   ⟨some 43, none, .move (.t 44)⟩])
  (.cond (.t 43) (.seq (.region none [⟨some 45, none, .buildSlice 1 [.c (.int .i64 1), .c (.int .i64 3)]⟩,
   ⟨some 2, none, .move (.t 45)⟩,
   ⟨some 3, none, .move (.c (.int .i64 2))⟩,
   ⟨some 4, none, .move (.c (.bool true))⟩])
  (.ret))
  (.seq (.region none [⟨some 47, none, .bin .eql (.t 5) (.c (.int .i64 16))⟩,
   ⟨some 46, none, .move (.t 47)⟩])
  (.cond (.t 46) (.seq (.region none [⟨some 48, none, .buildSlice 1 [.c (.int .i64 3)]⟩,
   ⟨some 2, none, .move (.t 48)⟩,
   ⟨some 3, none, .move (.c (.int .i64 1))⟩,
   ⟨some 4, none, .move (.c (.bool false))⟩])
  (.ret))
  (.skip)))))))))))
noncomputable def c115_2 : ACode := .mask (.n (.n .e false (.n .e true .e)) false (.n .e false (.n .e false (.n .e false (.n .e true .e))))) (c115_1)
noncomputable def c115_3 : ACode := .cond (.t 20) (.seq (.region none [⟨some 23, none, .buildSlice 1 [.c (.int .i64 1), .c (.int .i64 1), .c (.int .i64 1)]⟩,
   ⟨some 2, none, .move (.t 23)⟩,
   ⟨some 3, none, .move (.c (.int .i64 3))⟩,
   ⟨some 4, none, .move (.c (.bool false))⟩])
  (.ret))
  (.seq (.region none [⟨some 25, none, .bin .eql (.t 5) (.c (.int .i64 8))⟩,
   ⟨some 24, none, .move (.t 25)⟩])
  (.cond (.t 24) (.seq (.region none [⟨some 26, none, .buildSlice 1 [.c (.int .i64 2), .c (.int .i64 3)]⟩,
   ⟨some 2, none, .move (.t 26)⟩,
   ⟨some 3, none, .move (.c (.int .i64 1))⟩,
   ⟨some 4, none, .move (.c (.bool true))⟩])
  (.ret))
  (.seq (.region none [⟨some 28, none, .bin .eql (.t 5) (.c (.int .i64 9))⟩,
   ⟨some 27, none, .move (.t 28)⟩])
  (.cond (.t 27) (.seq (.region none [⟨some 29, none, .buildSlice 1 [.c (.int .i64 3), .c (.int .i64 3)]⟩,
   ⟨some 2, none, .move (.t 29)⟩,
   ⟨some 3, none, .move (.c (.int .i64 1))⟩,
   ⟨some 4, none, .move (.c (.bool true))⟩])
  (.ret))
  (.seq (.seq (.region none [⟨some 31, none, .bin .eql (.t 5) (.c (.int .i64 10))⟩,
   ⟨some 30, none, .move (.t 31)⟩])
  (.cond (.t 30) (.skip)
  (.region none [⟨some 32, none, .bin .eql (.t 5) (.c (.int .i64 11))⟩,
   ⟨some 30, none, .move (.t 32)⟩])))
  (c115_2))))))
noncomputable def c115_4 : ACode := .mask (.n (.n .e false (.n .e true .e)) false (.n (.n .e false (.n (.n .e true .e) false .e)) false .e)) (c115_3)
noncomputable def c115_5 : ACode := .seq (.region none [⟨some 2, none, .move (.c (.sl 1 [] .nil))⟩,
   ⟨some 3, none, .move (.c (.int .i64 0))⟩,
   ⟨some 4, none, .move (.c (.bool false))⟩])
  (.ret)
noncomputable def c115_6 : ACode := .mask .e (c115_5)
noncomputable def c115_b : ACode := .seq (.region none [⟨some 2, none, .move (.c (.sl 1 [] .nil))⟩,
   ⟨some 3, none, .move (.c (.int .i64 0))⟩,
   ⟨some 4, none, .move (.c (.bool false))⟩])
  (.seq (.seq (.region none [⟨some 5, none, .move (.t 0)⟩])
  (.block 0 (.seq (.region none [⟨some 7, none, .bin .eql (.t 5) (.c (.int .i64 1))⟩,
   ⟨some 6, none, .move (.t 7)⟩])
  (.cond (.t 6) (.seq (.region none [⟨some 2, none, .move (.c (.sl 1 [] .nil))⟩,
   ⟨some 3, none, .move (.c (.int .i64 1))⟩,
   ⟨some 4, none, .move (.c (.bool false))⟩])
  (.ret))
  (.seq (.region none [⟨some 9, none, .bin .eql (.t 5) (.c (.int .i64 2))⟩,
   ⟨some 8, none, .move (.t 9)⟩])
  (.cond (.t 8) (.seq (.region none [⟨some 10, none, .buildSlice 1 [.c (.int .i64 0)]⟩,
   ⟨some 2, none, .move (.t 10)⟩,
   ⟨some 3, none, .move (.c (.int .i64 1))⟩,
   ⟨some 4, none, .move (.c (.bool false))⟩])
  (.ret))
  (.seq (.region none [⟨some 12, none, .bin .eql (.t 5) (.c (.int .i64 3))⟩,
   ⟨some 11, none, .move (.t 12)⟩])
  (.cond (.t 11) (.seq (.region none [⟨some 13, none, .buildSlice 1 [.c (.int .i64 1), .c (.int .i64 1)]⟩,
   ⟨some 2, none, .move (.t 13)⟩,
   ⟨some 3, none, .move (.c (.int .i64 2))⟩,
   ⟨some 4, none, .move (.c (.bool false))⟩])
  (.ret))
  (.seq (.region none [⟨some 15, none, .bin .eql (.t 5) (.c (.int .i64 4))⟩,
   ⟨some 14, none, .move (.t 15)⟩])
  (.cond (.t 14) (.seq (.region none [⟨some 16, none, .buildSlice 1 [.c (.int .i64 2), .c (.int .i64 2)]⟩,
   ⟨some 2, none, .move (.t 16)⟩,
   ⟨some 3, none, .move (.c (.int .i64 1))⟩,
   ⟨some 4, none, .move (.c (.bool false))⟩])
  (.ret))
  (.seq (.region none [⟨some 18, none, .bin .eql (.t 5) (.c (.int .i64 5))⟩,
   ⟨some 17, none, .move (.t 18)⟩])
  (.cond (.t 17) (.seq (.region none [⟨some 19, none, .buildSlice 1 [.c (.int .i64 1), .c (.int .i64 1)]⟩,
   ⟨some 2, none, .move (.t 19)⟩,
   ⟨some 3, none, .move (.c (.int .i64 3))⟩,
   ⟨some 4, none, .move (.c (.bool false))⟩])
  (.ret))
  (.seq (.seq (.region none [⟨some 21, none, .bin .eql (.t 5) (.c (.int .i64 6))⟩,
   ⟨some 20, none, .move (.t 21)⟩])
  (.cond (.t 20) (.skip)
  (.region none [⟨some 22, none, .bin .eql (.t 5) (.c (.int .i64 7))⟩,
   ⟨some 20, none, .move (.t 22)⟩])))
  (c115_4))))))))))))))
  (c115_6))
noncomputable def c115 : AFn := { np := 1, nt := 49, results := [.t 2, .t 3, .t 4], keep := false, body := c115_b }
noncomputable def c116_1 : ACode := .seq (.region none [⟨some 29, none, .fieldAddr 0 (.t 1)⟩,
   ⟨some 30, none, .load (some 2) (.t 29)⟩,
   ⟨some 31, none, .fieldAddr 2 (.t 1)⟩,
   ⟨some 32, none, .load (some 2) (.t 31)⟩,
   ⟨some 33, none, .call 150 [.t 30, .t 32]⟩,
   ⟨some 28, none, .move (.t 33)⟩,
   ⟨some 34, none, .extract (.t 28) 0⟩,
   ⟨some 35, none, .extract (.t 28) 1⟩,
   ⟨some 3, none, .alloc [.bool false, .sl 1 [] .nil]⟩,
   ⟨none, none, .store 2 (.t 3) (.t 34)⟩,
   ⟨some 4, none, .move (.t 35)⟩])
  (.seq (.region none [⟨some 36, none, .load (some 2) (.t 3)⟩,
   ⟨some 37, none, .call 149 [.t 36]⟩,
   ⟨some 2, none, .move (.t 37)⟩])
  (.ret))
noncomputable def c116_2 : ACode := .mask (.n (.n .e true .e) false .e) (c116_1)
noncomputable def c116_3 : ACode := .seq (.seq (.region none [⟨some 25, none, .fieldAddr 2 (.t 1)⟩,
   ⟨some 26, none, .load (some 2) (.t 25)⟩,
   ⟨some 27, none, .call 149 [.t 26]⟩])
  (.cond (.t 27) (.seq (.region none [⟨some 2, none, .move (.c (.bool true))⟩])
  (.ret))
  (.skip)))
  (c116_2)
noncomputable def c116_4 : ACode := .mask (.n (.n .e true .e) false .e) (c116_3)
noncomputable def c116_b : ACode := .seq (.region none [⟨some 1, none, .boxRo (.t 0)⟩,
   ⟨some 2, none, .move (.c (.bool false))⟩])
  (.seq (.seq (.region none [⟨some 5, none, .fieldAddr 0 (.t 1)⟩,
   ⟨some 6, none, .load (some 2) (.t 5)⟩,
   ⟨some 7, none, .call 147 [.t 6]⟩,
   ⟨some 8, none, .un .not (.t 7)⟩,
   ⟨some 9, none, .move (.t 8)⟩,
   ⟨some 10, (some (9, false)), .fieldAddr 2 (.t 1)⟩,
   ⟨some 11, (some (9, false)), .load (some 2) (.t 10)⟩,
   ⟨some 12, (some (9, false)), .call 147 [.t 11]⟩,
   ⟨some 13, (some (9, false)), .un .not (.t 12)⟩,
   ⟨some 14, none, .pick (.t 9) (.c (.bool true)) (.t 13)⟩,
   ⟨some 15, none, .move (.t 14)⟩,
   ⟨some 16, (some (15, false)), .fieldAddr 2 (.t 1)⟩,
   ⟨some 17, (some (15, false)), .fieldAddr 0 (.t 16)⟩,
   ⟨some 18, (some (15, false)), .load none (.t 17)⟩,
   ⟨some 19, none, .pick (.t 15) (.c (.bool true)) (.t 18)⟩,
   ⟨some 20, none, .move (.t 19)⟩,
   ⟨some 21, (some (20, false)), .fieldAddr 2 (.t 1)⟩,
   ⟨some 22, (some (20, false)), .load (some 2) (.t 21)⟩,
   ⟨some 23, (some (20, false)), .call 148 [.t 22]⟩,
   ⟨some 24, none, .pick (.t 20) (.c (.bool true)) (.t 23)⟩])
  (.cond (.t 24) (.seq (.region none [⟨some 2, none, .move (.c (.bool false))⟩])
  (.ret))
  (.skip)))
  (c116_4))
noncomputable def c116 : AFn := { np := 1, nt := 38, results := [.t 2], keep := false, body := c116_b }
noncomputable def c117_b : ACode := .seq (.region none [⟨some 1, none, .boxRo (.t 0)⟩,
   ⟨some 2, none, .move (.c (.bool false))⟩])
  (.seq (.region none [⟨some 3, none, .fieldAddr 0 (.t 1)⟩,
   ⟨some 4, none, .fieldAddr 0 (.t 3)⟩,
   ⟨some 5, none, .load none (.t 4)⟩,
   ⟨some 6, none, .un .not (.t 5)⟩,
   ⟨some 7, none, .move (.t 6)⟩,
   ⟨some 8, (some (7, true)), .fieldAddr 2 (.t 1)⟩,
   ⟨some 9, (some (7, true)), .fieldAddr 0 (.t 8)⟩,
   ⟨some 10, (some (7, true)), .load none (.t 9)⟩,
   ⟨some 11, (some (7, true)), .un .not (.t 10)⟩,
   ⟨some 12, none, .pick (.t 7) (.t 11) (.c (.bool false))⟩,
   ⟨some 13, none, .move (.t 12)⟩,
   ⟨some 14, (some (13, true)), .fieldAddr 0 (.t 1)⟩,
   ⟨some 15, (some (13, true)), .fieldAddr 1 (.t 14)⟩,
   ⟨some 16, (some (13, true)), .load none (.t 15)⟩,
   ⟨some 17, (some (13, true)), .len false (.t 16)⟩,
   ⟨some 18, (some (13, true)), .bin .eql (.t 17) (.c (.int .i64 0))⟩,
   ⟨some 19, none, .pick (.t 13) (.t 18) (.c (.bool false))⟩,
   ⟨some 20, none, .move (.t 19)⟩,
   ⟨some 21, (some (20, true)), .fieldAddr 2 (.t 1)⟩,
   ⟨some 22, (some (20, true)), .fieldAddr 1 (.t 21)⟩,
   ⟨some 23, (some (20, true)), .load none (.t 22)⟩,
   ⟨some 24, (some (20, true)), .len false (.t 23)⟩,
   ⟨some 25, (some (20, true)), .bin .eql (.t 24) (.c (.int .i64 0))⟩,
   ⟨some 26, none, .pick (.t 20) (.t 25) (.c (.bool false))⟩,
   ⟨some 2, none, .move (.t 26)⟩])
  (.ret))
noncomputable def c117 : AFn := { np := 1, nt := 27, results := [.t 2], keep := false, body := c117_b }
noncomputable def c118_b : ACode := .seq (.region none [⟨some 4, none, .move (.c (.bool false))⟩])
  (.seq (.region none [⟨some 5, none, .move (.t 0)⟩,
   ⟨some 6, none, .move (.t 1)⟩,
   ⟨some 7, none, .call 151 [.t 5, .t 6]⟩,
   ⟨some 8, none, .bin .geq (.t 7) (.c (.int .i64 0))⟩,
   ⟨some 4, none, .move (.t 8)⟩])
  (.ret))
noncomputable def c118 : AFn := { np := 2, nt := 9, results := [.t 4], keep := false, body := c118_b }
noncomputable def c119_b : ACode := .seq (.region none [⟨some 2, none, .boxRo (.t 0)⟩,
   ⟨some 3, none, .move (.c (.bool false))⟩])
  (.seq (.region none [⟨some 4, none, .fieldAddr 0 (.t 2)⟩,
   ⟨some 5, none, .load none (.t 4)⟩,
   ⟨some 6, none, .fieldAddr 0 (.t 1)⟩,
   ⟨some 7, none, .load none (.t 6)⟩,
   ⟨some 8, none, .bin .eql (.t 5) (.t 7)⟩,
   ⟨some 3, none, .move (.t 8)⟩])
  (.ret))
noncomputable def c119 : AFn := { np := 2, nt := 9, results := [.t 3], keep := false, body := c119_b }
noncomputable def c120_b : ACode := .seq (.region none [⟨some 2, none, .move (.c (.str []))⟩])
  (.seq (.region none [⟨some 3, none, .move (.t 0)⟩,
   ⟨some 4, none, .call 152 [.t 3, .c (.int .i64 10)]⟩,
   ⟨some 2, none, .move (.t 4)⟩])
  (.ret))
noncomputable def c120 : AFn := { np := 1, nt := 5, results := [.t 2], keep := false, body := c120_b }
noncomputable def c121_1 : ACode := .seq (.region none [⟨some 81, none, .move (.t 4)⟩,
   ⟨some 3, none, .move (.t 81)⟩])
  (.ret)
noncomputable def c121_2 : ACode := .mask (.n .e false (.n (.n .e true .e) false .e)) (c121_1)
noncomputable def c121_3 : ACode := .seq (.seq (.region (some []) [⟨some 48, none, .load none (.t 0)⟩,
   ⟨some 49, none, .nilCheck (.t 48)⟩,
   ⟨some 50, none, .fieldAddr 1 (.t 49)⟩,
   ⟨some 51, none, .load none (.t 50)⟩,
   ⟨some 52, none, .load none (.t 0)⟩,
   ⟨some 53, none, .nilCheck (.t 52)⟩,
   ⟨some 54, none, .fieldAddr 0 (.t 53)⟩,
   ⟨some 55, none, .load none (.t 54)⟩,
   ⟨some 56, none, .len true (.t 55)⟩,
   ⟨some 57, none, .bin .lss (.t 51) (.t 56)⟩,
   ⟨some 58, none, .move (.t 57)⟩,
   ⟨some 59, (some (58, true)), .load none (.t 0)⟩,
   ⟨some 60, (some (58, true)), .nilCheck (.t 59)⟩,
   ⟨some 61, (some (58, true)), .fieldAddr 0 (.t 60)⟩,
   ⟨some 62, (some (58, true)), .load none (.t 61)⟩,
   ⟨some 63, (some (58, true)), .load none (.t 0)⟩,
   ⟨some 64, (some (58, true)), .nilCheck (.t 63)⟩,
   ⟨some 65, (some (58, true)), .fieldAddr 1 (.t 64)⟩,
   ⟨some 66, (some (58, true)), .load none (.t 65)⟩,
   ⟨some 67, (some (58, true)), .idxStr (.t 62) (.t 66)⟩,
   ⟨some 68, (some (58, true)), .bin .eql (.t 67) (.c (.int .u8 94))⟩,
   ⟨some 69, none, .pick (.t 58) (.t 68) (.c (.bool false))⟩])
  (.cond (.t 69) (.seq (.region none [⟨some 70, none, .load none (.t 0)⟩,
   ⟨some 71, none, .nilCheck (.t 70)⟩,
   ⟨some 72, none, .fieldAddr 1 (.t 71)⟩,
   ⟨some 73, none, .load none (.t 72)⟩,
   ⟨some 74, none, .bin .add (.t 73) (.c (.int .i64 2))⟩,
   ⟨some 75, none, .nilCheck (.t 70)⟩,
   ⟨some 76, none, .fieldAddr 1 (.t 75)⟩,
   ⟨none, none, .store 1 (.t 76) (.t 74)⟩])
  (.region none [⟨some 77, none, .load none (.t 2)⟩,
   ⟨some 78, none, .move (.t 4)⟩,
   ⟨some 79, none, .move (.t 4)⟩,
   ⟨some 80, none, .call 76 [.t 77, .c (.int .i64 5), .t 78, .t 79]⟩,
   ⟨some 4, none, .move (.t 80)⟩]))
  (.skip)))
  (c121_2)
noncomputable def c121_4 : ACode := .mask (.n .e true (.n (.n .e true .e) true .e)) (c121_3)
noncomputable def c121_b : ACode := .seq (.region none [⟨some 3, none, .move (.c (.int .i64 0))⟩])
  (.seq (.region none [⟨some 4, none, .move (.c (.int .i64 0))⟩])
  (.seq (.seq (.region none [⟨some 8, none, .load none (.t 0)⟩,
   ⟨some 9, none, .call 122 [.t 8]⟩,
   ⟨some 10, none, .bin .eql (.t 9) (.c (.int .u8 40))⟩])
  (.cond (.t 10) (.seq (.region none [⟨some 11, none, .load none (.t 0)⟩,
   ⟨some 12, none, .nilCheck (.t 11)⟩,
   ⟨some 13, none, .fieldAddr 1 (.t 12)⟩,
   ⟨some 14, none, .load none (.t 13)⟩,
   ⟨some 15, none, .bin .add (.t 14) (.c (.int .i64 1))⟩,
   ⟨some 16, none, .nilCheck (.t 11)⟩,
   ⟨some 17, none, .fieldAddr 1 (.t 16)⟩,
   ⟨none, none, .store 1 (.t 17) (.t 15)⟩])
  (.seq (.region none [⟨some 18, none, .load none (.t 1)⟩,
   ⟨some 19, none, .callV (.t 18) []⟩,
   ⟨some 4, none, .move (.t 19)⟩])
  (.seq (.region none [⟨some 20, none, .load none (.t 0)⟩,
   ⟨some 21, none, .call 122 [.t 20]⟩])
  (.region none [⟨some 22, none, .load none (.t 0)⟩,
   ⟨some 23, none, .nilCheck (.t 22)⟩,
   ⟨some 24, none, .fieldAddr 1 (.t 23)⟩,
   ⟨some 25, none, .load none (.t 24)⟩,
   ⟨some 26, none, .bin .add (.t 25) (.c (.int .i64 1))⟩,
   ⟨some 27, none, .nilCheck (.t 22)⟩,
   ⟨some 28, none, .fieldAddr 1 (.t 27)⟩,
   ⟨none, none, .store 1 (.t 28) (.t 26)⟩]))))
  (.seq (.region none [⟨some 29, none, .load none (.t 0)⟩,
   ⟨some 30, none, .call 123 [.t 29]⟩,
   ⟨some 5, none, .move (.t 30)⟩])
  (.seq (.region none [⟨some 31, none, .move (.t 5)⟩,
   ⟨some 32, none, .idxStr (.t 31) (.c (.int .i64 0))⟩,
   ⟨some 33, none, .bin .leq (.t 32) (.c (.int .u8 57))⟩])
  (.cond (.t 33) (.seq (.region none [⟨some 35, none, .move (.t 5)⟩,
   ⟨some 36, none, .call 124 [.t 35]⟩,
   ⟨some 34, none, .move (.t 36)⟩,
   ⟨some 37, none, .extract (.t 34) 0⟩,
   ⟨some 38, none, .extract (.t 34) 1⟩,
   ⟨some 6, none, .move (.t 37)⟩,
   ⟨some 7, none, .move (.t 38)⟩])
  (.region none [⟨some 39, none, .load none (.t 2)⟩,
   ⟨some 40, none, .move (.t 6)⟩,
   ⟨some 41, none, .call 76 [.t 39, .c (.int .i64 2), .t 40, .c (.int .i64 0)]⟩,
   ⟨some 4, none, .move (.t 41)⟩]))
  (.region none [⟨some 42, none, .load none (.t 2)⟩,
   ⟨some 43, none, .nilCheck (.t 42)⟩,
   ⟨some 44, none, .fieldAddr 4 (.t 43)⟩,
   ⟨some 45, none, .load none (.t 44)⟩,
   ⟨some 46, none, .move (.t 5)⟩,
   ⟨some 47, none, .lookup .str (.int .i64 0) false (.t 45) (.t 46)⟩,
   ⟨some 4, none, .move (.t 47)⟩]))))))
  (c121_4)))
noncomputable def c121 : AFn := { np := 3, nt := 82, results := [.t 3], keep := false, body := c121_b }
noncomputable def c122_1 : ACode := .block 1 (.region none [⟨some 25, none, .move (.t 0)⟩,
   ⟨some 26, none, .nilCheck (.t 25)⟩,
   ⟨some 27, none, .fieldAddr 1 (.t 26)⟩,
   ⟨some 28, none, .load none (.t 27)⟩,
   ⟨some 29, none, .bin .add (.t 28) (.c (.int .i64 1))⟩,
   ⟨some 30, none, .nilCheck (.t 25)⟩,
   ⟨some 31, none, .fieldAddr 1 (.t 30)⟩,
   ⟨none, none, .store 1 (.t 31) (.t 29)⟩])
noncomputable def c122_2 : ACode := .mask (.n .e true .e) (c122_1)
noncomputable def c122_3 : ACode := .seq (.seq (.region (some []) [⟨some 3, none, .move (.t 0)⟩,
   ⟨some 4, none, .nilCheck (.t 3)⟩,
   ⟨some 5, none, .fieldAddr 1 (.t 4)⟩,
   ⟨some 6, none, .load none (.t 5)⟩,
   ⟨some 7, none, .move (.t 0)⟩,
   ⟨some 8, none, .nilCheck (.t 7)⟩,
   ⟨some 9, none, .fieldAddr 0 (.t 8)⟩,
   ⟨some 10, none, .load none (.t 9)⟩,
   ⟨some 11, none, .len true (.t 10)⟩,
   ⟨some 12, none, .bin .lss (.t 6) (.t 11)⟩,
   ⟨some 13, none, .move (.t 12)⟩,
   ⟨some 14, (some (13, true)), .move (.t 0)⟩,
   ⟨some 15, (some (13, true)), .nilCheck (.t 14)⟩,
   ⟨some 16, (some (13, true)), .fieldAddr 0 (.t 15)⟩,
   ⟨some 17, (some (13, true)), .load none (.t 16)⟩,
   ⟨some 18, (some (13, true)), .move (.t 0)⟩,
   ⟨some 19, (some (13, true)), .nilCheck (.t 18)⟩,
   ⟨some 20, (some (13, true)), .fieldAddr 1 (.t 19)⟩,
   ⟨some 21, (some (13, true)), .load none (.t 20)⟩,
   ⟨some 22, (some (13, true)), .idxStr (.t 17) (.t 21)⟩,
   ⟨some 23, (some (13, true)), .bin .eql (.t 22) (.c (.int .u8 32))⟩,
   ⟨some 24, none, .pick (.t 13) (.t 23) (.c (.bool false))⟩])
  (.cond (.t 24) (.skip)
  (.exit 0)))
  (c122_2)
noncomputable def c122_4 : ACode := .seq (.region (some []) [⟨some 42, none, .move (.t 0)⟩,
   ⟨some 43, none, .nilCheck (.t 42)⟩,
   ⟨some 44, none, .fieldAddr 0 (.t 43)⟩,
   ⟨some 45, none, .load none (.t 44)⟩,
   ⟨some 46, none, .move (.t 0)⟩,
   ⟨some 47, none, .nilCheck (.t 46)⟩,
   ⟨some 48, none, .fieldAddr 1 (.t 47)⟩,
   ⟨some 49, none, .load none (.t 48)⟩,
   ⟨some 50, none, .idxStr (.t 45) (.t 49)⟩,
   ⟨some 2, none, .move (.t 50)⟩])
  (.ret)
noncomputable def c122_5 : ACode := .mask (.n .e true .e) (c122_4)
noncomputable def c122_6 : ACode := .seq (.seq (.region (some []) [⟨some 32, none, .move (.t 0)⟩,
   ⟨some 33, none, .nilCheck (.t 32)⟩,
   ⟨some 34, none, .fieldAddr 1 (.t 33)⟩,
   ⟨some 35, none, .load none (.t 34)⟩,
   ⟨some 36, none, .move (.t 0)⟩,
   ⟨some 37, none, .nilCheck (.t 36)⟩,
   ⟨some 38, none, .fieldAddr 0 (.t 37)⟩,
   ⟨some 39, none, .load none (.t 38)⟩,
   ⟨some 40, none, .len true (.t 39)⟩,
   ⟨some 41, none, .bin .eql (.t 35) (.t 40)⟩])
  (.cond (.t 41) (.seq (.region none [⟨some 2, none, .move (.c (.int .u8 0))⟩])
  (.ret))
  (.skip)))
  (c122_5)
noncomputable def c122_7 : ACode := .mask (.n .e true .e) (c122_6)
noncomputable def c122_b : ACode := .seq (.region none [⟨some 2, none, .move (.c (.int .u8 0))⟩])
  (.seq (.block 0 (.loop (.n .e true .e) (c122_3)))
  (c122_7))
noncomputable def c122 : AFn := { np := 1, nt := 51, results := [.t 2], keep := false, body := c122_b }
noncomputable def c123_1 : ACode := .region none [⟨some 44, none, .move (.t 0)⟩,
   ⟨some 45, none, .nilCheck (.t 44)⟩,
   ⟨some 46, none, .fieldAddr 1 (.t 45)⟩,
   ⟨some 47, none, .load none (.t 46)⟩,
   ⟨some 48, none, .bin .add (.t 47) (.c (.int .i64 1))⟩,
   ⟨some 49, none, .nilCheck (.t 44)⟩,
   ⟨some 50, none, .fieldAddr 1 (.t 49)⟩,
   ⟨none, none, .store 1 (.t 50) (.t 48)⟩]
noncomputable def c123_2 : ACode := .mask (.n (.n (.n .e true .e) false .e) true .e) (c123_1)
noncomputable def c123_3 : ACode := .block 1 (.seq (.region (some []) [⟨some 21, none, .move (.t 0)⟩,
   ⟨some 22, none, .nilCheck (.t 21)⟩,
   ⟨some 23, none, .fieldAddr 0 (.t 22)⟩,
   ⟨some 24, none, .load none (.t 23)⟩,
   ⟨some 25, none, .move (.t 0)⟩,
   ⟨some 26, none, .nilCheck (.t 25)⟩,
   ⟨some 27, none, .fieldAddr 1 (.t 26)⟩,
   ⟨some 28, none, .load none (.t 27)⟩,
   ⟨some 29, none, .idxStr (.t 24) (.t 28)⟩,
   ⟨some 4, none, .move (.t 29)⟩])
  (.seq (.seq (.region none [⟨some 30, none, .move (.t 4)⟩,
   ⟨some 31, none, .bin .lss (.t 30) (.c (.int .u8 97))⟩,
   ⟨some 32, none, .move (.t 31)⟩,
   ⟨some 33, (some (32, false)), .move (.t 4)⟩,
   ⟨some 34, (some (32, false)), .bin .gtr (.t 33) (.c (.int .u8 122))⟩,
   ⟨some 35, none, .pick (.t 32) (.c (.bool true)) (.t 34)⟩,
   ⟨some 36, none, .move (.t 35)⟩,
   ⟨some 37, (some (36, true)), .move (.t 4)⟩,
   ⟨some 38, (some (36, true)), .bin .lss (.t 37) (.c (.int .u8 48))⟩,
   ⟨some 39, (some (36, true)), .move (.t 38)⟩,
   ⟨some 40, (some (39, false)), .move (.t 4)⟩,
   ⟨some 41, (some (39, false)), .bin .gtr (.t 40) (.c (.int .u8 57))⟩,
   ⟨some 42, (some (36, true)), .pick (.t 39) (.c (.bool true)) (.t 41)⟩,
   ⟨some 43, none, .pick (.t 36) (.t 42) (.c (.bool false))⟩])
  (.cond (.t 43) (.exit 0)
  (.skip)))
  (c123_2)))
noncomputable def c123_4 : ACode := .mask (.n (.n (.n .e true .e) false .e) true .e) (c123_3)
noncomputable def c123_5 : ACode := .seq (.seq (.region (some []) [⟨some 11, none, .move (.t 0)⟩,
   ⟨some 12, none, .nilCheck (.t 11)⟩,
   ⟨some 13, none, .fieldAddr 1 (.t 12)⟩,
   ⟨some 14, none, .load none (.t 13)⟩,
   ⟨some 15, none, .move (.t 0)⟩,
   ⟨some 16, none, .nilCheck (.t 15)⟩,
   ⟨some 17, none, .fieldAddr 0 (.t 16)⟩,
   ⟨some 18, none, .load none (.t 17)⟩,
   ⟨some 19, none, .len true (.t 18)⟩,
   ⟨some 20, none, .bin .lss (.t 14) (.t 19)⟩])
  (.cond (.t 20) (.skip)
  (.exit 0)))
  (c123_4)
noncomputable def c123_6 : ACode := .seq (.region (some []) [⟨some 51, none, .move (.t 0)⟩,
   ⟨some 52, none, .nilCheck (.t 51)⟩,
   ⟨some 53, none, .fieldAddr 0 (.t 52)⟩,
   ⟨some 54, none, .load none (.t 53)⟩,
   ⟨some 55, none, .move (.t 3)⟩,
   ⟨some 56, none, .move (.t 0)⟩,
   ⟨some 57, none, .nilCheck (.t 56)⟩,
   ⟨some 58, none, .fieldAddr 1 (.t 57)⟩,
   ⟨some 59, none, .load none (.t 58)⟩,
   ⟨some 60, none, .subStr (.t 54) (some (.t 55)) (some (.t 59))⟩,
   ⟨some 2, none, .move (.t 60)⟩])
  (.ret)
noncomputable def c123_7 : ACode := .mask (.n (.n (.n .e true .e) false .e) true .e) (c123_6)
noncomputable def c123_b : ACode := .seq (.region none [⟨some 2, none, .move (.c (.str []))⟩])
  (.seq (.region none [⟨some 5, none, .move (.t 0)⟩,
   ⟨some 6, none, .call 122 [.t 5]⟩])
  (.seq (.region none [⟨some 7, none, .move (.t 0)⟩,
   ⟨some 8, none, .nilCheck (.t 7)⟩,
   ⟨some 9, none, .fieldAddr 1 (.t 8)⟩,
   ⟨some 10, none, .load none (.t 9)⟩,
   ⟨some 3, none, .move (.t 10)⟩])
  (.seq (.block 0 (.loop (.n (.n (.n .e true .e) false .e) true .e) (c123_5)))
  (c123_7))))
noncomputable def c123 : AFn := { np := 1, nt := 61, results := [.t 2], keep := false, body := c123_b }
noncomputable def c124_1 : ACode := .seq (.region none [⟨some 17, none, .move (.t 4)⟩,
   ⟨some 2, none, .move (.t 17)⟩,
   ⟨some 3, none, .move (.c .nili)⟩])
  (.ret)
noncomputable def c124_2 : ACode := .mask (.n .e false (.n (.n .e true .e) false .e)) (c124_1)
noncomputable def c124_b : ACode := .seq (.region none [⟨some 2, none, .move (.c (.int .i64 0))⟩,
   ⟨some 3, none, .move (.c .nili)⟩])
  (.seq (.region none [⟨some 7, none, .move (.t 0)⟩,
   ⟨some 8, none, .call 153 [.t 7]⟩,
   ⟨some 6, none, .move (.t 8)⟩,
   ⟨some 9, none, .extract (.t 6) 0⟩,
   ⟨some 10, none, .extract (.t 6) 1⟩,
   ⟨some 4, none, .move (.t 9)⟩,
   ⟨some 5, none, .move (.t 10)⟩])
  (.seq (.seq (.region none [⟨some 11, none, .move (.t 5)⟩,
   ⟨some 12, none, .nilI true (.t 11)⟩])
  (.cond (.t 12) (.seq (.region none [⟨some 13, none, .move (.t 4)⟩,
   ⟨some 14, none, .move (.t 0)⟩,
   ⟨some 15, none, .move (.t 5)⟩,
   ⟨some 16, none, .call 154 [.c (.str [65, 116, 111, 105]), .t 14, .c (.int .i64 0), .c (.int .i64 0), .t 15]⟩,
   ⟨some 2, none, .move (.t 13)⟩,
   ⟨some 3, none, .move (.t 16)⟩])
  (.ret))
  (.skip)))
  (c124_2)))
noncomputable def c124 : AFn := { np := 1, nt := 18, results := [.t 2, .t 3], keep := false, body := c124_b }
noncomputable def c125_1 : ACode := .region none [⟨some 25, none, .load none (.t 1)⟩,
   ⟨some 26, none, .call 122 [.t 25]⟩,
   ⟨some 5, none, .move (.t 26)⟩]
noncomputable def c125_2 : ACode := .mask (.n (.n .e true .e) true (.n (.n .e true .e) true .e)) (c125_1)
noncomputable def c125_3 : ACode := .seq (.block 1 (.seq (.region none [⟨some 27, none, .load none (.t 0)⟩,
   ⟨some 28, none, .callV (.t 27) []⟩,
   ⟨some 6, none, .move (.t 28)⟩])
  (.region none [⟨some 29, none, .load none (.t 2)⟩,
   ⟨some 30, none, .move (.t 4)⟩,
   ⟨some 31, none, .move (.t 6)⟩,
   ⟨some 32, none, .call 76 [.t 29, .c (.int .i64 5), .t 30, .t 31]⟩,
   ⟨some 4, none, .move (.t 32)⟩])))
  (c125_2)
noncomputable def c125_4 : ACode := .mask (.n (.n .e true .e) true (.n (.n .e true .e) true .e)) (c125_3)
noncomputable def c125_5 : ACode := .seq (.seq (.region none [⟨some 11, none, .move (.t 5)⟩,
   ⟨some 12, none, .bin .neq (.t 11) (.c (.int .u8 0))⟩,
   ⟨some 13, none, .move (.t 12)⟩,
   ⟨some 14, (some (13, true)), .move (.t 5)⟩,
   ⟨some 15, (some (13, true)), .bin .neq (.t 14) (.c (.int .u8 43))⟩,
   ⟨some 16, none, .pick (.t 13) (.t 15) (.c (.bool false))⟩,
   ⟨some 17, none, .move (.t 16)⟩,
   ⟨some 18, (some (17, true)), .move (.t 5)⟩,
   ⟨some 19, (some (17, true)), .bin .neq (.t 18) (.c (.int .u8 45))⟩,
   ⟨some 20, none, .pick (.t 17) (.t 19) (.c (.bool false))⟩,
   ⟨some 21, none, .move (.t 20)⟩,
   ⟨some 22, (some (21, true)), .move (.t 5)⟩,
   ⟨some 23, (some (21, true)), .bin .neq (.t 22) (.c (.int .u8 41))⟩,
   ⟨some 24, none, .pick (.t 21) (.t 23) (.c (.bool false))⟩])
  (.cond (.t 24) (.skip)
  (.exit 0)))
  (c125_4)
noncomputable def c125_6 : ACode := .seq (.region none [⟨some 33, none, .move (.t 4)⟩,
   ⟨some 3, none, .move (.t 33)⟩])
  (.ret)
noncomputable def c125_7 : ACode := .mask (.n .e false (.n (.n .e true .e) false .e)) (c125_6)
noncomputable def c125_b : ACode := .seq (.region none [⟨some 3, none, .move (.c (.int .i64 0))⟩])
  (.seq (.region none [⟨some 7, none, .load none (.t 0)⟩,
   ⟨some 8, none, .callV (.t 7) []⟩,
   ⟨some 4, none, .move (.t 8)⟩])
  (.seq (.seq (.region none [⟨some 9, none, .load none (.t 1)⟩,
   ⟨some 10, none, .call 122 [.t 9]⟩,
   ⟨some 5, none, .move (.t 10)⟩])
  (.block 0 (.loop (.n (.n .e true (.n .e true .e)) true (.n (.n .e true .e) true .e)) (c125_5))))
  (c125_7)))
noncomputable def c125 : AFn := { np := 3, nt := 34, results := [.t 3], keep := false, body := c125_b }
noncomputable def c126_1 : ACode := .region none [⟨some 49, none, .load none (.t 1)⟩,
   ⟨some 50, none, .move (.t 8)⟩,
   ⟨some 51, none, .move (.t 4)⟩,
   ⟨some 52, none, .move (.t 7)⟩,
   ⟨some 53, none, .call 76 [.t 49, .t 50, .t 51, .t 52]⟩,
   ⟨some 4, none, .move (.t 53)⟩]
noncomputable def c126_2 : ACode := .mask (.n (.n (.n (.n .e true .e) false .e) true .e) true (.n (.n (.n .e true .e) true .e) true .e)) (c126_1)
noncomputable def c126_3 : ACode := .region none [⟨some 36, none, .load none (.t 0)⟩,
   ⟨some 37, none, .call 122 [.t 36]⟩,
   ⟨some 6, none, .move (.t 37)⟩]
noncomputable def c126_4 : ACode := .mask (.n (.n .e true .e) true (.n (.n .e true .e) true .e)) (c126_3)
noncomputable def c126_5 : ACode := .seq (.block 1 (.seq (.region none [⟨some 38, none, .load none (.t 0)⟩,
   ⟨some 39, none, .nilCheck (.t 38)⟩,
   ⟨some 40, none, .fieldAddr 1 (.t 39)⟩,
   ⟨some 41, none, .load none (.t 40)⟩,
   ⟨some 42, none, .bin .add (.t 41) (.c (.int .i64 1))⟩,
   ⟨some 43, none, .nilCheck (.t 38)⟩,
   ⟨some 44, none, .fieldAddr 1 (.t 43)⟩,
   ⟨none, none, .store 1 (.t 44) (.t 42)⟩])
  (.seq (.region none [⟨some 45, none, .load none (.t 2)⟩,
   ⟨some 46, none, .callV (.t 45) []⟩,
   ⟨some 7, none, .move (.t 46)⟩])
  (.seq (.region none [⟨some 8, none, .move (.c (.int .i64 3))⟩])
  (.seq (.seq (.region none [⟨some 47, none, .move (.t 6)⟩,
   ⟨some 48, none, .bin .eql (.t 47) (.c (.int .u8 45))⟩])
  (.cond (.t 48) (.region none [⟨some 8, none, .move (.c (.int .i64 4))⟩])
  (.skip)))
  (c126_2))))))
  (c126_4)
noncomputable def c126_6 : ACode := .mask (.n (.n .e true .e) true (.n (.n .e true .e) true (.n .e true .e))) (c126_5)
noncomputable def c126_7 : ACode := .seq (.seq (.region none [⟨some 30, none, .move (.t 6)⟩,
   ⟨some 31, none, .bin .eql (.t 30) (.c (.int .u8 43))⟩,
   ⟨some 32, none, .move (.t 31)⟩,
   ⟨some 33, (some (32, false)), .move (.t 6)⟩,
   ⟨some 34, (some (32, false)), .bin .eql (.t 33) (.c (.int .u8 45))⟩,
   ⟨some 35, none, .pick (.t 32) (.c (.bool true)) (.t 34)⟩])
  (.cond (.t 35) (.skip)
  (.exit 0)))
  (c126_6)
noncomputable def c126_8 : ACode := .seq (.region none [⟨some 54, none, .move (.t 4)⟩,
   ⟨some 3, none, .move (.t 54)⟩])
  (.ret)
noncomputable def c126_9 : ACode := .mask (.n .e false (.n (.n .e true .e) false .e)) (c126_8)
noncomputable def c126_10 : ACode := .seq (.seq (.region none [⟨some 28, none, .load none (.t 0)⟩,
   ⟨some 29, none, .call 122 [.t 28]⟩,
   ⟨some 6, none, .move (.t 29)⟩])
  (.block 0 (.loop (.n (.n .e true .e) true (.n (.n .e true .e) true (.n .e true .e))) (c126_7))))
  (c126_9)
noncomputable def c126_11 : ACode := .mask (.n (.n .e true .e) true (.n (.n .e true .e) true .e)) (c126_10)
noncomputable def c126_b : ACode := .seq (.region none [⟨some 3, none, .move (.c (.int .i64 0))⟩])
  (.seq (.region none [⟨some 4, none, .move (.c (.int .i64 0))⟩])
  (.seq (.seq (.region none [⟨some 9, none, .load none (.t 0)⟩,
   ⟨some 10, none, .call 122 [.t 9]⟩,
   ⟨some 11, none, .bin .eql (.t 10) (.c (.int .u8 45))⟩])
  (.cond (.t 11) (.seq (.region none [⟨some 12, none, .load none (.t 0)⟩,
   ⟨some 13, none, .nilCheck (.t 12)⟩,
   ⟨some 14, none, .fieldAddr 1 (.t 13)⟩,
   ⟨some 15, none, .load none (.t 14)⟩,
   ⟨some 16, none, .bin .add (.t 15) (.c (.int .i64 1))⟩,
   ⟨some 17, none, .nilCheck (.t 12)⟩,
   ⟨some 18, none, .fieldAddr 1 (.t 17)⟩,
   ⟨none, none, .store 1 (.t 18) (.t 16)⟩])
  (.seq (.region none [⟨some 19, none, .load none (.t 1)⟩,
   ⟨some 20, none, .call 76 [.t 19, .c (.int .i64 2), .c (.int .i64 0), .c (.int .i64 0)]⟩,
   ⟨some 5, none, .move (.t 20)⟩])
  (.region (some []) [⟨some 21, none, .load none (.t 1)⟩,
   ⟨some 22, none, .move (.t 5)⟩,
   ⟨some 23, none, .load none (.t 2)⟩,
   ⟨some 24, none, .callVC [(none, .t 1)] (.t 23) []⟩,
   ⟨some 25, none, .call 76 [.t 21, .c (.int .i64 4), .t 22, .t 24]⟩,
   ⟨some 4, none, .move (.t 25)⟩])))
  (.region none [⟨some 26, none, .load none (.t 2)⟩,
   ⟨some 27, none, .callV (.t 26) []⟩,
   ⟨some 4, none, .move (.t 27)⟩])))
  (c126_11)))
noncomputable def c126 : AFn := { np := 3, nt := 55, results := [.t 3], keep := false, body := c126_b }
noncomputable def c138_b : ACode := .seq (.region none [⟨some 3, none, .move (.c (.bool false))⟩])
  (.seq (.region none [⟨some 4, none, .move (.t 0)⟩,
   ⟨some 5, none, .bin .geq (.t 4) (.c (.int .i64 0))⟩,
   ⟨some 6, none, .move (.t 5)⟩,
   ⟨some 7, (some (6, true)), .move (.t 0)⟩,
   ⟨some 8, (some (6, true)), .load none (.t 1)⟩,
   ⟨some 9, (some (6, true)), .bin .lss (.t 7) (.t 8)⟩,
   ⟨some 10, none, .pick (.t 6) (.t 9) (.c (.bool false))⟩,
   ⟨some 3, none, .move (.t 10)⟩])
  (.ret))
noncomputable def c138 : AFn := { np := 2, nt := 11, results := [.t 3], keep := false, body := c138_b }
noncomputable def c143_1 : ACode := .seq (.region none [⟨some 7, none, .alloc [.int .u8 0, .int .u8 0, .int .u8 0, .int .u8 0, .int .u8 0, .int .u8 0, .int .u8 0, .int .u8 0, .int .u8 0, .int .u8 0, .int .u8 0, .int .u8 0, .int .u8 0, .int .u8 0, .int .u8 0, .int .u8 0, .int .u8 0, .int .u8 0, .int .u8 0, .int .u8 0, .int .u8 0, .int .u8 0, .int .u8 0, .int .u8 0]⟩])
  (.seq (.region none [⟨some 18, none, .move (.t 1)⟩,
   ⟨some 19, none, .call 164 [.t 18]⟩,
   ⟨some 8, none, .move (.t 19)⟩])
  (.seq (.region none [⟨some 20, none, .move (.t 8)⟩,
   ⟨some 21, none, .sliceA 1 24 (.t 7) none (some (.t 20)) none⟩,
   ⟨some 22, none, .move (.t 1)⟩,
   ⟨some 23, none, .call 165 [.t 21, .t 22]⟩])
  (.seq (.region none [⟨some 24, none, .move (.t 0)⟩,
   ⟨some 25, none, .move (.t 8)⟩,
   ⟨some 26, none, .sliceA 1 24 (.t 7) none (some (.t 25)) none⟩,
   ⟨some 27, none, .append 1 1 none (.t 24) (.t 26)⟩,
   ⟨some 6, none, .move (.t 27)⟩])
  (.ret))))
noncomputable def c143_2 : ACode := .mask (.n (.n .e true .e) true .e) (c143_1)
noncomputable def c143_3 : ACode := .seq (.region none [⟨some 29, none, .move (.t 0)⟩,
   ⟨some 30, none, .move (.t 1)⟩,
   ⟨some 31, none, .move (.t 2)⟩,
   ⟨some 32, none, .call 166 [.t 29, .t 30, .t 31, .c (.bool false), .c (.bool true)]⟩,
   ⟨some 28, none, .move (.t 32)⟩,
   ⟨some 33, none, .extract (.t 28) 0⟩,
   ⟨some 34, none, .extract (.t 28) 1⟩,
   ⟨some 0, none, .move (.t 33)⟩])
  (.seq (.region none [⟨some 35, none, .move (.t 0)⟩,
   ⟨some 6, none, .move (.t 35)⟩])
  (.ret))
noncomputable def c143_4 : ACode := .mask (.n (.n .e true .e) true (.n .e true .e)) (c143_3)
noncomputable def c143_b : ACode := .seq (.region none [⟨some 6, none, .move (.c (.sl 1 [] .nil))⟩])
  (.seq (.seq (.region none [⟨some 9, none, .move (.t 2)⟩,
   ⟨some 10, none, .bin .eql (.t 9) (.c (.int .i64 10))⟩])
  (.cond (.t 10) (.seq (.seq (.region none [⟨some 11, none, .move (.t 1)⟩,
   ⟨some 12, none, .bin .lss (.t 11) (.c (.int .u64 100))⟩])
  (.cond (.t 12) (.seq (.region none [⟨some 13, none, .move (.t 0)⟩,
   ⟨some 14, none, .move (.t 1)⟩,
   ⟨some 15, none, .convInt .i64 (.t 14)⟩,
   ⟨some 16, none, .call 163 [.t 15]⟩,
   ⟨some 17, none, .append 1 1 none (.t 13) (.t 16)⟩,
   ⟨some 6, none, .move (.t 17)⟩])
  (.ret))
  (.skip)))
  (c143_2))
  (.skip)))
  (c143_4))
noncomputable def c143 : AFn := { np := 3, nt := 36, results := [.t 6], keep := false, body := c143_b }
noncomputable def c147_1 : ACode := .seq (.region none [⟨some 12, none, .move (.t 3)⟩,
   ⟨some 13, none, .bin .leq (.t 12) (.c (.int .i64 128))⟩,
   ⟨some 14, none, .move (.t 13)⟩,
   ⟨some 15, (some (14, true)), .fieldAddr 1 (.t 1)⟩,
   ⟨some 16, (some (14, true)), .load none (.t 15)⟩,
   ⟨some 17, (some (14, true)), .move (.t 3)⟩,
   ⟨some 18, (some (14, true)), .bin .sub (.t 17) (.c (.int .i64 1))⟩,
   ⟨some 19, (some (14, true)), .idxSl 1 (.t 16) (.t 18)⟩,
   ⟨some 20, (some (14, true)), .load none (.t 19)⟩,
   ⟨some 21, (some (14, true)), .bin .neq (.t 20) (.c (.int .u32 0))⟩,
   ⟨some 22, none, .pick (.t 14) (.t 21) (.c (.bool false))⟩,
   ⟨some 2, none, .move (.t 22)⟩])
  (.ret)
noncomputable def c147_2 : ACode := .mask (.n (.n (.n .e true .e) true .e) false .e) (c147_1)
noncomputable def c147_b : ACode := .seq (.region none [⟨some 1, none, .boxRo (.t 0)⟩,
   ⟨some 2, none, .move (.c (.bool false))⟩])
  (.seq (.region none [⟨some 4, none, .fieldAddr 1 (.t 1)⟩,
   ⟨some 5, none, .load none (.t 4)⟩,
   ⟨some 6, none, .len false (.t 5)⟩,
   ⟨some 3, none, .move (.t 6)⟩])
  (.seq (.seq (.region none [⟨some 7, none, .move (.t 3)⟩,
   ⟨some 8, none, .bin .eql (.t 7) (.c (.int .i64 0))⟩])
  (.cond (.t 8) (.seq (.region none [⟨some 9, none, .fieldAddr 0 (.t 1)⟩,
   ⟨some 10, none, .load none (.t 9)⟩,
   ⟨some 11, none, .un .not (.t 10)⟩,
   ⟨some 2, none, .move (.t 11)⟩])
  (.ret))
  (.skip)))
  (c147_2)))
noncomputable def c147 : AFn := { np := 1, nt := 23, results := [.t 2], keep := false, body := c147_b }
noncomputable def c148_b : ACode := .seq (.region none [⟨some 1, none, .boxRo (.t 0)⟩,
   ⟨some 2, none, .move (.c (.bool false))⟩])
  (.seq (.region none [⟨some 3, none, .fieldAddr 1 (.t 1)⟩,
   ⟨some 4, none, .load none (.t 3)⟩,
   ⟨some 5, none, .len false (.t 4)⟩,
   ⟨some 6, none, .bin .eql (.t 5) (.c (.int .i64 0))⟩,
   ⟨some 2, none, .move (.t 6)⟩])
  (.ret))
noncomputable def c148 : AFn := { np := 1, nt := 7, results := [.t 2], keep := false, body := c148_b }
noncomputable def c149_b : ACode := .seq (.region none [⟨some 1, none, .boxRo (.t 0)⟩,
   ⟨some 2, none, .move (.c (.bool false))⟩])
  (.seq (.region none [⟨some 3, none, .fieldAddr 0 (.t 1)⟩,
   ⟨some 4, none, .load none (.t 3)⟩,
   ⟨some 5, none, .un .not (.t 4)⟩,
   ⟨some 6, none, .move (.t 5)⟩,
   ⟨some 7, (some (6, true)), .fieldAddr 1 (.t 1)⟩,
   ⟨some 8, (some (6, true)), .load none (.t 7)⟩,
   ⟨some 9, (some (6, true)), .len false (.t 8)⟩,
   ⟨some 10, (some (6, true)), .bin .eql (.t 9) (.c (.int .i64 1))⟩,
   ⟨some 11, none, .pick (.t 6) (.t 10) (.c (.bool false))⟩,
   ⟨some 12, none, .move (.t 11)⟩,
   ⟨some 13, (some (12, true)), .fieldAddr 1 (.t 1)⟩,
   ⟨some 14, (some (12, true)), .load none (.t 13)⟩,
   ⟨some 15, (some (12, true)), .idxSl 1 (.t 14) (.c (.int .i64 0))⟩,
   ⟨some 16, (some (12, true)), .load none (.t 15)⟩,
   ⟨some 17, (some (12, true)), .bin .eql (.t 16) (.c (.int .u32 1))⟩,
   ⟨some 18, none, .pick (.t 12) (.t 17) (.c (.bool false))⟩,
   ⟨some 2, none, .move (.t 18)⟩])
  (.ret))
noncomputable def c149 : AFn := { np := 1, nt := 19, results := [.t 2], keep := false, body := c149_b }
noncomputable def c150_1 : ACode := .block 1 (.seq (.region none [⟨some 35, none, .move (.t 6)⟩,
   ⟨some 36, none, .move (.t 7)⟩,
   ⟨some 37, none, .call 170 [.t 35, .t 36]⟩,
   ⟨some 34, none, .move (.t 37)⟩,
   ⟨some 38, none, .extract (.t 34) 0⟩,
   ⟨some 39, none, .extract (.t 34) 1⟩,
   ⟨some 8, none, .move (.t 38)⟩,
   ⟨some 9, none, .move (.t 39)⟩])
  (.region none [⟨some 40, none, .move (.t 7)⟩,
   ⟨some 41, none, .move (.t 9)⟩,
   ⟨some 6, none, .move (.t 40)⟩,
   ⟨some 7, none, .move (.t 41)⟩]))
noncomputable def c150_2 : ACode := .mask (.n (.n (.n (.n .e true .e) false .e) false .e) false (.n (.n .e true .e) false (.n .e true .e))) (c150_1)
noncomputable def c150_3 : ACode := .seq (.seq (.region none [⟨some 21, none, .move (.t 7)⟩,
   ⟨some 22, none, .len false (.t 21)⟩,
   ⟨some 23, none, .bin .gtr (.t 22) (.c (.int .i64 0))⟩,
   ⟨some 24, none, .move (.t 23)⟩,
   ⟨some 25, (some (24, true)), .move (.t 6)⟩,
   ⟨some 26, (some (24, true)), .len false (.t 25)⟩,
   ⟨some 27, (some (24, true)), .bin .gtr (.t 26) (.c (.int .i64 2))⟩,
   ⟨some 28, (some (24, true)), .move (.t 27)⟩,
   ⟨some 29, (some (28, false)), .move (.t 7)⟩,
   ⟨some 30, (some (28, false)), .len false (.t 29)⟩,
   ⟨some 31, (some (28, false)), .bin .gtr (.t 30) (.c (.int .i64 2))⟩,
   ⟨some 32, (some (24, true)), .pick (.t 28) (.c (.bool true)) (.t 31)⟩,
   ⟨some 33, none, .pick (.t 24) (.t 32) (.c (.bool false))⟩])
  (.cond (.t 33) (.skip)
  (.exit 0)))
  (c150_2)
noncomputable def c150_4 : ACode := .block 3 (.region (some []) [⟨some 55, none, .move (.t 11)⟩,
   ⟨some 56, none, .move (.t 10)⟩,
   ⟨some 57, none, .move (.t 11)⟩,
   ⟨some 58, none, .bin .rem (.t 56) (.t 57)⟩,
   ⟨some 10, none, .move (.t 55)⟩,
   ⟨some 11, none, .move (.t 58)⟩])
noncomputable def c150_5 : ACode := .mask (.n (.n (.n .e false (.n .e true .e)) false .e) false (.n (.n .e true .e) false (.n (.n .e true .e) false .e))) (c150_4)
noncomputable def c150_6 : ACode := .seq (.seq (.region none [⟨some 53, none, .move (.t 11)⟩,
   ⟨some 54, none, .bin .gtr (.t 53) (.c (.int .u64 0))⟩])
  (.cond (.t 54) (.skip)
  (.exit 2)))
  (c150_5)
noncomputable def c150_7 : ACode := .seq (.region none [⟨some 59, none, .move (.t 10)⟩,
   ⟨some 60, none, .convInt .u32 (.t 59)⟩,
   ⟨some 61, none, .move (.t 10)⟩,
   ⟨some 62, none, .bin .shr (.t 61) (.c (.int .u64 32))⟩,
   ⟨some 63, none, .convInt .u32 (.t 62)⟩,
   ⟨some 64, none, .buildSlice 1 [.t 60, .t 63]⟩,
   ⟨some 65, none, .call 171 [.c (.bool false), .t 64]⟩,
   ⟨some 66, none, .extract (.t 65) 0⟩,
   ⟨some 67, none, .extract (.t 65) 1⟩,
   ⟨none, none, .store 2 (.t 4) (.t 66)⟩,
   ⟨some 5, none, .move (.t 67)⟩])
  (.ret)
noncomputable def c150_8 : ACode := .mask (.n .e false (.n (.n .e true .e) false (.n (.n .e true .e) false .e))) (c150_7)
noncomputable def c150_9 : ACode := .seq (.region none [⟨some 49, none, .move (.t 6)⟩,
   ⟨some 50, none, .call 172 [.t 49]⟩,
   ⟨some 51, none, .move (.t 7)⟩,
   ⟨some 52, none, .call 172 [.t 51]⟩,
   ⟨some 10, none, .move (.t 50)⟩,
   ⟨some 11, none, .move (.t 52)⟩])
  (.seq (.block 2 (.loop (.n (.n (.n .e false (.n .e true .e)) false .e) false (.n (.n .e true .e) false (.n (.n .e true .e) false .e))) (c150_6)))
  (c150_8))
noncomputable def c150_10 : ACode := .mask (.n (.n (.n (.n .e true .e) false .e) false .e) false (.n (.n .e true .e) false (.n .e true .e))) (c150_9)
noncomputable def c150_11 : ACode := .seq (.seq (.region none [⟨some 42, none, .move (.t 6)⟩,
   ⟨some 43, none, .len false (.t 42)⟩,
   ⟨some 44, none, .bin .gtr (.t 43) (.c (.int .i64 2))⟩])
  (.cond (.t 44) (.seq (.region none [⟨some 45, none, .move (.t 6)⟩,
   ⟨some 46, none, .call 171 [.c (.bool false), .t 45]⟩,
   ⟨some 47, none, .extract (.t 46) 0⟩,
   ⟨some 48, none, .extract (.t 46) 1⟩,
   ⟨none, none, .store 2 (.t 4) (.t 47)⟩,
   ⟨some 5, none, .move (.t 48)⟩])
  (.ret))
  (.skip)))
  (c150_10)
noncomputable def c150_12 : ACode := .mask (.n (.n (.n (.n .e true .e) false .e) false .e) false (.n (.n .e true .e) false (.n .e true .e))) (c150_11)
noncomputable def c150_13 : ACode := .seq (.region (some []) [⟨some 17, none, .fieldAddr 1 (.t 2)⟩,
   ⟨some 18, none, .load none (.t 17)⟩,
   ⟨some 19, none, .fieldAddr 1 (.t 3)⟩,
   ⟨some 20, none, .load none (.t 19)⟩,
   ⟨some 6, none, .move (.t 18)⟩,
   ⟨some 7, none, .move (.t 20)⟩])
  (.seq (.block 0 (.loop (.n (.n (.n (.n .e true .e) false .e) false .e) false (.n (.n .e true .e) false (.n .e true .e))) (c150_3)))
  (c150_12))
noncomputable def c150_14 : ACode := .mask (.n (.n (.n .e true .e) false .e) false (.n (.n .e true .e) true .e)) (c150_13)
noncomputable def c150_b : ACode := .seq (.region none [⟨some 2, none, .boxRo (.t 0)⟩,
   ⟨some 3, none, .boxRo (.t 1)⟩,
   ⟨some 4, none, .alloc [.bool false, .sl 1 [] .nil]⟩,
   ⟨some 5, none, .move (.c (.int .i64 0))⟩])
  (.seq (.seq (.region none [⟨some 12, none, .load (some 2) (.t 2)⟩,
   ⟨some 13, none, .load (some 2) (.t 3)⟩,
   ⟨some 14, none, .call 169 [.t 12, .t 13]⟩,
   ⟨some 15, none, .un .not (.t 14)⟩])
  (.cond (.t 15) (.seq (.region none [⟨some 16, none, .build [.bool false, .sl 1 [] .nil] []⟩,
   ⟨none, none, .store 2 (.t 4) (.t 16)⟩,
   ⟨some 5, none, .move (.c (.int .i64 1))⟩])
  (.ret))
  (.skip)))
  (c150_14))
noncomputable def c150 : AFn := { np := 2, nt := 68, results := [.cell 4 (some 2), .t 5], keep := false, body := c150_b }
noncomputable def c151_1 : ACode := .region none [⟨some 18, none, .bin .add (.t 8) (.c (.int .i64 1))⟩,
   ⟨some 8, none, .move (.t 18)⟩]
noncomputable def c151_2 : ACode := .mask (.n (.n (.n (.n .e true .e) false .e) true .e) true (.n (.n (.n .e true .e) false .e) false .e)) (c151_1)
noncomputable def c151_3 : ACode := .seq (.block 1 (.seq (.region none [⟨some 10, none, .move (.t 8)⟩,
   ⟨some 5, none, .move (.t 10)⟩])
  (.seq (.region none [⟨some 11, none, .move (.t 1)⟩,
   ⟨some 12, none, .move (.t 0)⟩,
   ⟨some 13, none, .move (.t 5)⟩,
   ⟨some 14, none, .idxSl 12 (.t 12) (.t 13)⟩,
   ⟨some 15, none, .load (some 12) (.t 14)⟩,
   ⟨some 16, none, .callV (.t 11) [.t 15]⟩])
  (.cond (.t 16) (.seq (.region none [⟨some 17, none, .move (.t 5)⟩,
   ⟨some 4, none, .move (.t 17)⟩])
  (.ret))
  (.skip)))))
  (c151_2)
noncomputable def c151_4 : ACode := .mask (.n (.n (.n (.n .e true .e) false .e) true .e) true (.n (.n (.n .e true .e) false .e) false .e)) (c151_3)
noncomputable def c151_5 : ACode := .seq (.region none [⟨some 9, none, .bin .lss (.t 8) (.t 7)⟩])
  (.seq (.cond (.t 9) (.skip)
  (.exit 0))
  (c151_4))
noncomputable def c151_6 : ACode := .seq (.region none [⟨some 4, none, .move (.c (.int .i64 (-1)))⟩])
  (.ret)
noncomputable def c151_7 : ACode := .mask .e (c151_6)
noncomputable def c151_b : ACode := .seq (.region none [⟨some 4, none, .move (.c (.int .i64 0))⟩])
  (.seq (.seq (.region none [⟨some 6, none, .move (.t 0)⟩,
   ⟨some 7, none, .len false (.t 6)⟩,
   ⟨some 8, none, .move (.c (.int .i64 0))⟩])
  (.block 0 (.loop (.n (.n (.n (.n .e true .e) false .e) true .e) true (.n (.n (.n .e true .e) false .e) false .e)) (c151_5))))
  (c151_7))
noncomputable def c151 : AFn := { np := 2, nt := 19, results := [.t 4], keep := false, body := c151_b }
noncomputable def c152_1 : ACode := .seq (.region none [⟨some 40, none, .move (.t 7)⟩,
   ⟨some 41, none, .bin .add (.c (.int .i64 1)) (.t 40)⟩,
   ⟨some 42, none, .sliceA 1 24 (.t 5) (some (.c (.int .i64 1))) (some (.t 41)) none⟩,
   ⟨some 43, none, .bytesToStr (.t 42)⟩,
   ⟨some 4, none, .move (.t 43)⟩])
  (.ret)
noncomputable def c152_2 : ACode := .mask (.n (.n (.n (.n .e true .e) false .e) false (.n .e true .e)) false .e) (c152_1)
noncomputable def c152_3 : ACode := .seq (.region none [⟨some 26, none, .move (.t 6)⟩,
   ⟨some 27, none, .call 164 [.t 26]⟩,
   ⟨some 7, none, .move (.t 27)⟩])
  (.seq (.region none [⟨some 28, none, .move (.t 7)⟩,
   ⟨some 29, none, .bin .add (.c (.int .i64 1)) (.t 28)⟩,
   ⟨some 30, none, .sliceA 1 24 (.t 5) (some (.c (.int .i64 1))) (some (.t 29)) none⟩,
   ⟨some 31, none, .move (.t 6)⟩,
   ⟨some 32, none, .call 165 [.t 30, .t 31]⟩])
  (.seq (.seq (.region none [⟨some 33, none, .move (.t 0)⟩,
   ⟨some 34, none, .bin .lss (.t 33) (.c (.int .i64 0))⟩])
  (.cond (.t 34) (.seq (.region none [⟨some 35, none, .idxArr 1 24 (.t 5) (.c (.int .i64 0))⟩,
   ⟨none, none, .store 1 (.t 35) (.c (.int .u8 45))⟩])
  (.seq (.region none [⟨some 36, none, .move (.t 7)⟩,
   ⟨some 37, none, .bin .add (.c (.int .i64 1)) (.t 36)⟩,
   ⟨some 38, none, .sliceA 1 24 (.t 5) none (some (.t 37)) none⟩,
   ⟨some 39, none, .bytesToStr (.t 38)⟩,
   ⟨some 4, none, .move (.t 39)⟩])
  (.ret)))
  (.skip)))
  (c152_2)))
noncomputable def c152_4 : ACode := .mask (.n (.n .e false (.n .e true .e)) true (.n .e false (.n .e true .e))) (c152_3)
noncomputable def c152_5 : ACode := .seq (.region none [⟨some 5, none, .alloc [.int .u8 0, .int .u8 0, .int .u8 0, .int .u8 0, .int .u8 0, .int .u8 0, .int .u8 0, .int .u8 0, .int .u8 0, .int .u8 0, .int .u8 0, .int .u8 0, .int .u8 0, .int .u8 0, .int .u8 0, .int .u8 0, .int .u8 0, .int .u8 0, .int .u8 0, .int .u8 0, .int .u8 0, .int .u8 0, .int .u8 0, .int .u8 0]⟩])
  (.seq (.region none [⟨some 20, none, .move (.t 0)⟩,
   ⟨some 21, none, .convInt .u64 (.t 20)⟩,
   ⟨some 6, none, .move (.t 21)⟩])
  (.seq (.seq (.region none [⟨some 22, none, .move (.t 0)⟩,
   ⟨some 23, none, .bin .lss (.t 22) (.c (.int .i64 0))⟩])
  (.cond (.t 23) (.region none [⟨some 24, none, .move (.t 6)⟩,
   ⟨some 25, none, .un .neg (.t 24)⟩,
   ⟨some 6, none, .move (.t 25)⟩])
  (.skip)))
  (c152_4)))
noncomputable def c152_6 : ACode := .mask (.n .e true .e) (c152_5)
noncomputable def c152_7 : ACode := .seq (.region none [⟨some 45, none, .move (.t 0)⟩,
   ⟨some 46, none, .convInt .u64 (.t 45)⟩,
   ⟨some 47, none, .move (.t 1)⟩,
   ⟨some 48, none, .move (.t 0)⟩,
   ⟨some 49, none, .bin .lss (.t 48) (.c (.int .i64 0))⟩,
   ⟨some 50, none, .call 166 [.c (.sl 1 [] .nil), .t 46, .t 47, .t 49, .c (.bool false)]⟩,
   ⟨some 44, none, .move (.t 50)⟩,
   ⟨some 51, none, .extract (.t 44) 0⟩,
   ⟨some 52, none, .extract (.t 44) 1⟩,
   ⟨some 8, none, .move (.t 51)⟩,
   ⟨some 9, none, .move (.t 52)⟩])
  (.seq (.region none [⟨some 53, none, .move (.t 9)⟩,
   ⟨some 4, none, .move (.t 53)⟩])
  (.ret))
noncomputable def c152_8 : ACode := .mask (.n (.n .e true .e) true .e) (c152_7)
noncomputable def c152_b : ACode := .seq (.region none [⟨some 4, none, .move (.c (.str []))⟩])
  (.seq (.seq (.region none [⟨some 10, none, .move (.t 1)⟩,
   ⟨some 11, none, .bin .eql (.t 10) (.c (.int .i64 10))⟩])
  (.cond (.t 11) (.seq (.seq (.region none [⟨some 12, none, .move (.t 0)⟩,
   ⟨some 13, none, .bin .leq (.c (.int .i64 0)) (.t 12)⟩,
   ⟨some 14, none, .move (.t 13)⟩,
   ⟨some 15, (some (14, true)), .move (.t 0)⟩,
   ⟨some 16, (some (14, true)), .bin .lss (.t 15) (.c (.int .i64 100))⟩,
   ⟨some 17, none, .pick (.t 14) (.t 16) (.c (.bool false))⟩])
  (.cond (.t 17) (.seq (.region none [⟨some 18, none, .move (.t 0)⟩,
   ⟨some 19, none, .call 163 [.t 18]⟩,
   ⟨some 4, none, .move (.t 19)⟩])
  (.ret))
  (.skip)))
  (c152_6))
  (.skip)))
  (c152_8))
noncomputable def c152 : AFn := { np := 2, nt := 54, results := [.t 4], keep := false, body := c152_b }
noncomputable def c153_1 : ACode := .region none [⟨some 58, none, .move (.t 6)⟩,
   ⟨some 59, none, .bin .mul (.t 58) (.c (.int .i64 10))⟩,
   ⟨some 60, none, .move (.t 8)⟩,
   ⟨some 61, none, .convInt .i64 (.t 60)⟩,
   ⟨some 62, none, .bin .add (.t 59) (.t 61)⟩,
   ⟨some 6, none, .move (.t 62)⟩]
noncomputable def c153_2 : ACode := .mask (.n (.n (.n (.n (.n .e false (.n .e true .e)) false .e) false .e) false (.n (.n (.n .e false (.n .e true .e)) false .e) true .e)) false (.n (.n (.n (.n .e false (.n .e true .e)) true .e) false .e) false (.n .e true .e))) (c153_1)
noncomputable def c153_3 : ACode := .region none [⟨some 63, none, .bin .add (.t 49) (.c (.int .i64 1))⟩,
   ⟨some 49, none, .move (.t 63)⟩]
noncomputable def c153_4 : ACode := .mask (.n (.n (.n (.n (.n .e false (.n .e true .e)) false .e) false .e) false (.n (.n (.n .e false (.n .e true .e)) false .e) true .e)) false (.n (.n (.n (.n .e false (.n .e true .e)) false .e) false .e) false (.n .e true .e))) (c153_3)
noncomputable def c153_5 : ACode := .seq (.block 1 (.seq (.region none [⟨some 51, none, .idxSl 1 (.t 47) (.t 49)⟩,
   ⟨some 52, none, .load none (.t 51)⟩,
   ⟨some 8, none, .move (.t 52)⟩])
  (.seq (.region none [⟨some 53, none, .move (.t 8)⟩,
   ⟨some 54, none, .bin .sub (.t 53) (.c (.int .u8 48))⟩,
   ⟨some 8, none, .move (.t 54)⟩])
  (.seq (.seq (.region none [⟨some 55, none, .move (.t 8)⟩,
   ⟨some 56, none, .bin .gtr (.t 55) (.c (.int .u8 9))⟩])
  (.cond (.t 56) (.seq (.region none [⟨some 57, none, .mkIface 188 (.c (.int .i64 2))⟩,
   ⟨some 2, none, .move (.c (.int .i64 0))⟩,
   ⟨some 3, none, .move (.t 57)⟩])
  (.ret))
  (.skip)))
  (c153_2)))))
  (c153_4)
noncomputable def c153_6 : ACode := .mask (.n (.n (.n (.n (.n .e false (.n .e true .e)) false .e) false .e) false (.n (.n (.n .e false (.n .e true .e)) false .e) true .e)) false (.n (.n (.n (.n .e false (.n .e true .e)) false .e) false .e) false (.n .e true .e))) (c153_5)
noncomputable def c153_7 : ACode := .seq (.region none [⟨some 50, none, .bin .lss (.t 49) (.t 48)⟩])
  (.seq (.cond (.t 50) (.skip)
  (.exit 0))
  (c153_6))
noncomputable def c153_8 : ACode := .seq (.region none [⟨some 69, none, .move (.t 6)⟩,
   ⟨some 2, none, .move (.t 69)⟩,
   ⟨some 3, none, .move (.c .nili)⟩])
  (.ret)
noncomputable def c153_9 : ACode := .mask (.n .e false (.n .e false (.n .e true .e))) (c153_8)
noncomputable def c153_10 : ACode := .seq (.seq (.region none [⟨some 64, none, .move (.t 5)⟩,
   ⟨some 65, none, .idxStr (.t 64) (.c (.int .i64 0))⟩,
   ⟨some 66, none, .bin .eql (.t 65) (.c (.int .u8 45))⟩])
  (.cond (.t 66) (.region none [⟨some 67, none, .move (.t 6)⟩,
   ⟨some 68, none, .un .neg (.t 67)⟩,
   ⟨some 6, none, .move (.t 68)⟩])
  (.skip)))
  (c153_9)
noncomputable def c153_11 : ACode := .mask (.n (.n .e false (.n .e true .e)) false (.n .e false (.n .e true .e))) (c153_10)
noncomputable def c153_12 : ACode := .seq (.region none [⟨some 6, none, .move (.c (.int .i64 0))⟩])
  (.seq (.seq (.region none [⟨some 46, none, .move (.t 0)⟩,
   ⟨some 47, none, .strToBytes (.t 46)⟩,
   ⟨some 48, none, .len false (.t 47)⟩,
   ⟨some 49, none, .move (.c (.int .i64 0))⟩])
  (.block 0 (.loop (.n (.n (.n (.n (.n .e false (.n .e true .e)) false .e) false .e) false (.n (.n (.n .e false (.n .e true .e)) false .e) true .e)) false (.n (.n (.n (.n .e false (.n .e true .e)) false .e) false .e) false (.n .e true .e))) (c153_7))))
  (c153_11))
noncomputable def c153_13 : ACode := .mask (.n (.n .e false (.n .e true .e)) true .e) (c153_12)
noncomputable def c153_14 : ACode := .seq (.region none [⟨some 71, none, .move (.t 0)⟩,
   ⟨some 72, none, .call 173 [.t 71, .c (.int .i64 10), .c (.int .i64 0)]⟩,
   ⟨some 70, none, .move (.t 72)⟩,
   ⟨some 73, none, .extract (.t 70) 0⟩,
   ⟨some 74, none, .extract (.t 70) 1⟩,
   ⟨some 9, none, .move (.t 73)⟩,
   ⟨some 10, none, .move (.t 74)⟩])
  (.seq (.region none [⟨some 75, none, .move (.t 9)⟩,
   ⟨some 76, none, .move (.t 10)⟩,
   ⟨some 2, none, .move (.t 75)⟩,
   ⟨some 3, none, .move (.t 76)⟩])
  (.ret))
noncomputable def c153_15 : ACode := .mask (.n .e true .e) (c153_14)
noncomputable def c153_b : ACode := .seq (.region none [⟨some 2, none, .move (.c (.int .i64 0))⟩,
   ⟨some 3, none, .move (.c .nili)⟩])
  (.seq (.region none [⟨some 11, none, .move (.t 0)⟩,
   ⟨some 12, none, .len true (.t 11)⟩,
   ⟨some 4, none, .move (.t 12)⟩])
  (.seq (.seq (.region none [⟨some 13, none, .move (.c (.bool false))⟩,
   ⟨some 14, (some (13, true)), .move (.t 4)⟩,
   ⟨some 15, (some (13, true)), .bin .lss (.c (.int .i64 0)) (.t 14)⟩,
   ⟨some 16, (some (13, true)), .move (.t 15)⟩,
   ⟨some 17, (some (16, true)), .move (.t 4)⟩,
   ⟨some 18, (some (16, true)), .bin .lss (.t 17) (.c (.int .i64 10))⟩,
   ⟨some 19, (some (13, true)), .pick (.t 16) (.t 18) (.c (.bool false))⟩,
   ⟨some 20, none, .pick (.t 13) (.t 19) (.c (.bool false))⟩,
   ⟨some 21, none, .move (.t 20)⟩,
   ⟨some 22, (some (21, false)), .move (.c (.bool true))⟩,
   ⟨some 23, (some (22, true)), .move (.t 4)⟩,
   ⟨some 24, (some (22, true)), .bin .lss (.c (.int .i64 0)) (.t 23)⟩,
   ⟨some 25, (some (22, true)), .move (.t 24)⟩,
   ⟨some 26, (some (25, true)), .move (.t 4)⟩,
   ⟨some 27, (some (25, true)), .bin .lss (.t 26) (.c (.int .i64 19))⟩,
   ⟨some 28, (some (22, true)), .pick (.t 25) (.t 27) (.c (.bool false))⟩,
   ⟨some 29, (some (21, false)), .pick (.t 22) (.t 28) (.c (.bool false))⟩,
   ⟨some 30, none, .pick (.t 21) (.c (.bool true)) (.t 29)⟩])
  (.cond (.t 30) (.seq (.region none [⟨some 31, none, .move (.t 0)⟩,
   ⟨some 5, none, .move (.t 31)⟩])
  (.seq (.seq (.region none [⟨some 32, none, .move (.t 0)⟩,
   ⟨some 33, none, .idxStr (.t 32) (.c (.int .i64 0))⟩,
   ⟨some 34, none, .bin .eql (.t 33) (.c (.int .u8 45))⟩,
   ⟨some 35, none, .move (.t 34)⟩,
   ⟨some 36, (some (35, false)), .move (.t 0)⟩,
   ⟨some 37, (some (35, false)), .idxStr (.t 36) (.c (.int .i64 0))⟩,
   ⟨some 38, (some (35, false)), .bin .eql (.t 37) (.c (.int .u8 43))⟩,
   ⟨some 39, none, .pick (.t 35) (.c (.bool true)) (.t 38)⟩])
  (.cond (.t 39) (.seq (.region none [⟨some 40, none, .move (.t 0)⟩,
   ⟨some 41, none, .subStr (.t 40) (some (.c (.int .i64 1))) none⟩,
   ⟨some 0, none, .move (.t 41)⟩])
  (.seq (.region none [⟨some 42, none, .move (.t 0)⟩,
   ⟨some 43, none, .len true (.t 42)⟩,
   ⟨some 44, none, .bin .lss (.t 43) (.c (.int .i64 1))⟩])
  (.cond (.t 44) (.seq (.region none [⟨some 45, none, .mkIface 188 (.c (.int .i64 2))⟩,
   ⟨some 2, none, .move (.c (.int .i64 0))⟩,
   ⟨some 3, none, .move (.t 45)⟩])
  (.ret))
  (.skip))))
  (.skip)))
  (c153_13)))
  (.skip)))
  (c153_15)))
noncomputable def c153 : AFn := { np := 1, nt := 77, results := [.t 2, .t 3], keep := false, body := c153_b }
noncomputable def c154_1 : ACode := .seq (.region none [⟨some 42, none, .move (.t 4)⟩,
   ⟨some 10, none, .move (.t 42)⟩])
  (.ret)
noncomputable def c154_2 : ACode := .mask (.n .e false (.n (.n .e true .e) false .e)) (c154_1)
noncomputable def c154_b : ACode := .seq (.region none [⟨some 10, none, .move (.c .nili)⟩])
  (.seq (.seq (.region none [⟨some 11, none, .move (.t 4)⟩])
  (.block 0 (.seq (.region none [⟨some 13, none, .mkIface 188 (.c (.int .i64 2))⟩,
   ⟨some 14, none, .eq false .iface (.t 11) (.t 13)⟩,
   ⟨some 12, none, .move (.t 14)⟩])
  (.cond (.t 12) (.seq (.region none [⟨some 15, none, .move (.t 0)⟩,
   ⟨some 16, none, .move (.t 1)⟩,
   ⟨some 17, none, .call 174 [.t 15, .t 16]⟩,
   ⟨some 18, none, .mkIface 191 (.t 17)⟩,
   ⟨some 10, none, .move (.t 18)⟩])
  (.ret))
  (.seq (.region none [⟨some 20, none, .mkIface 188 (.c (.int .i64 1))⟩,
   ⟨some 21, none, .eq false .iface (.t 11) (.t 20)⟩,
   ⟨some 19, none, .move (.t 21)⟩])
  (.cond (.t 19) (.seq (.region none [⟨some 22, none, .move (.t 0)⟩,
   ⟨some 23, none, .move (.t 1)⟩,
   ⟨some 24, none, .call 175 [.t 22, .t 23]⟩,
   ⟨some 25, none, .mkIface 191 (.t 24)⟩,
   ⟨some 10, none, .move (.t 25)⟩])
  (.ret))
  (.seq (.region none [⟨some 27, none, .mkIface 188 (.c (.int .i64 3))⟩,
   ⟨some 28, none, .eq false .iface (.t 11) (.t 27)⟩,
   ⟨some 26, none, .move (.t 28)⟩])
  (.cond (.t 26) (.seq (.region none [⟨some 29, none, .move (.t 0)⟩,
   ⟨some 30, none, .move (.t 1)⟩,
   ⟨some 31, none, .move (.t 2)⟩,
   ⟨some 32, none, .call 176 [.t 29, .t 30, .t 31]⟩,
   ⟨some 33, none, .mkIface 191 (.t 32)⟩,
   ⟨some 10, none, .move (.t 33)⟩])
  (.ret))
  (.seq (.region none [⟨some 35, none, .mkIface 188 (.c (.int .i64 4))⟩,
   ⟨some 36, none, .eq false .iface (.t 11) (.t 35)⟩,
   ⟨some 34, none, .move (.t 36)⟩])
  (.cond (.t 34) (.seq (.region none [⟨some 37, none, .move (.t 0)⟩,
   ⟨some 38, none, .move (.t 1)⟩,
   ⟨some 39, none, .move (.t 3)⟩,
   ⟨some 40, none, .call 177 [.t 37, .t 38, .t 39]⟩,
   ⟨some 41, none, .mkIface 191 (.t 40)⟩,
   ⟨some 10, none, .move (.t 41)⟩])
  (.ret))
  (.skip)))))))))))
  (c154_2))
noncomputable def c154 : AFn := { np := 5, nt := 43, results := [.t 10], keep := false, body := c154_b }
noncomputable def c163_1 : ACode := .seq (.region none [⟨some 9, none, .move (.t 0)⟩,
   ⟨some 10, none, .bin .mul (.t 9) (.c (.int .i64 2))⟩,
   ⟨some 11, none, .move (.t 0)⟩,
   ⟨some 12, none, .bin .mul (.t 11) (.c (.int .i64 2))⟩,
   ⟨some 13, none, .bin .add (.t 12) (.c (.int .i64 2))⟩,
   ⟨some 14, none, .subStr (.c (.str [48, 48, 48, 49, 48, 50, 48, 51, 48, 52, 48, 53, 48, 54, 48, 55, 48, 56, 48, 57, 49, 48, 49, 49, 49, 50, 49, 51, 49, 52, 49, 53, 49, 54, 49, 55, 49, 56, 49, 57, 50, 48, 50, 49, 50, 50, 50, 51, 50, 52, 50, 53, 50, 54, 50, 55, 50, 56, 50, 57, 51, 48, 51, 49, 51, 50, 51, 51, 51, 52, 51, 53, 51, 54, 51, 55, 51, 56, 51, 57, 52, 48, 52, 49, 52, 50, 52, 51, 52, 52, 52, 53, 52, 54, 52, 55, 52, 56, 52, 57, 53, 48, 53, 49, 53, 50, 53, 51, 53, 52, 53, 53, 53, 54, 53, 55, 53, 56, 53, 57, 54, 48, 54, 49, 54, 50, 54, 51, 54, 52, 54, 53, 54, 54, 54, 55, 54, 56, 54, 57, 55, 48, 55, 49, 55, 50, 55, 51, 55, 52, 55, 53, 55, 54, 55, 55, 55, 56, 55, 57, 56, 48, 56, 49, 56, 50, 56, 51, 56, 52, 56, 53, 56, 54, 56, 55, 56, 56, 56, 57, 57, 48, 57, 49, 57, 50, 57, 51, 57, 52, 57, 53, 57, 54, 57, 55, 57, 56, 57, 57])) (some (.t 10)) (some (.t 13))⟩,
   ⟨some 2, none, .move (.t 14)⟩])
  (.ret)
noncomputable def c163_2 : ACode := .mask (.n .e true .e) (c163_1)
noncomputable def c163_b : ACode := .seq (.region none [⟨some 2, none, .move (.c (.str []))⟩])
  (.seq (.seq (.region none [⟨some 3, none, .move (.t 0)⟩,
   ⟨some 4, none, .bin .lss (.t 3) (.c (.int .i64 10))⟩])
  (.cond (.t 4) (.seq (.region none [⟨some 5, none, .move (.t 0)⟩,
   ⟨some 6, none, .move (.t 0)⟩,
   ⟨some 7, none, .bin .add (.t 6) (.c (.int .i64 1))⟩,
   ⟨some 8, none, .subStr (.c (.str [48, 49, 50, 51, 52, 53, 54, 55, 56, 57, 97, 98, 99, 100, 101, 102, 103, 104, 105, 106, 107, 108, 109, 110, 111, 112, 113, 114, 115, 116, 117, 118, 119, 120, 121, 122])) (some (.t 5)) (some (.t 7))⟩,
   ⟨some 2, none, .move (.t 8)⟩])
  (.ret))
  (.skip)))
  (c163_2))
noncomputable def c163 : AFn := { np := 1, nt := 15, results := [.t 2], keep := false, body := c163_b }
noncomputable def c164_b : ACode := .seq (.region none [⟨some 2, none, .move (.c (.int .i64 0))⟩])
  (.seq (.region none [⟨some 4, none, .move (.t 0)⟩,
   ⟨some 5, none, .call 181 [.t 4]⟩,
   ⟨some 6, none, .call 180 [.t 5]⟩,
   ⟨some 3, none, .move (.t 6)⟩])
  (.seq (.region none [⟨some 7, none, .move (.t 3)⟩,
   ⟨some 8, none, .move (.t 0)⟩,
   ⟨some 9, none, .move (.t 3)⟩,
   ⟨some 10, none, .idxArr 1 20 (.g 0) (.t 9)⟩,
   ⟨some 11, none, .load none (.t 10)⟩,
   ⟨some 12, none, .bin .geq (.t 8) (.t 11)⟩,
   ⟨some 13, none, .call 182 [.t 12]⟩,
   ⟨some 14, none, .bin .add (.t 7) (.t 13)⟩,
   ⟨some 2, none, .move (.t 14)⟩])
  (.ret)))
noncomputable def c164 : AFn := { np := 1, nt := 15, results := [.t 2], keep := false, body := c164_b }
noncomputable def c165_1 : ACode := .block 1 (.seq (.region none [⟨some 21, none, .move (.t 1)⟩,
   ⟨some 22, none, .bin .rem (.t 21) (.c (.int .u64 100000000))⟩,
   ⟨some 23, none, .convInt .u32 (.t 22)⟩,
   ⟨some 5, none, .move (.t 23)⟩])
  (.seq (.region none [⟨some 24, none, .move (.t 1)⟩,
   ⟨some 25, none, .bin .quo (.t 24) (.c (.int .u64 100000000))⟩,
   ⟨some 1, none, .move (.t 25)⟩])
  (.seq (.region none [⟨some 26, none, .move (.t 5)⟩,
   ⟨some 27, none, .bin .quo (.t 26) (.c (.int .u32 10000))⟩,
   ⟨some 28, none, .move (.t 5)⟩,
   ⟨some 29, none, .bin .rem (.t 28) (.c (.int .u32 10000))⟩,
   ⟨some 6, none, .move (.t 27)⟩,
   ⟨some 7, none, .move (.t 29)⟩])
  (.seq (.region none [⟨some 30, none, .move (.t 7)⟩,
   ⟨some 31, none, .bin .quo (.t 30) (.c (.int .u32 100))⟩,
   ⟨some 32, none, .bin .mul (.t 31) (.c (.int .u32 2))⟩,
   ⟨some 33, none, .move (.t 7)⟩,
   ⟨some 34, none, .bin .rem (.t 33) (.c (.int .u32 100))⟩,
   ⟨some 35, none, .bin .mul (.t 34) (.c (.int .u32 2))⟩,
   ⟨some 8, none, .move (.t 32)⟩,
   ⟨some 9, none, .move (.t 35)⟩])
  (.seq (.region none [⟨some 36, none, .move (.t 6)⟩,
   ⟨some 37, none, .bin .quo (.t 36) (.c (.int .u32 100))⟩,
   ⟨some 38, none, .bin .mul (.t 37) (.c (.int .u32 2))⟩,
   ⟨some 39, none, .move (.t 6)⟩,
   ⟨some 40, none, .bin .rem (.t 39) (.c (.int .u32 100))⟩,
   ⟨some 41, none, .bin .mul (.t 40) (.c (.int .u32 2))⟩,
   ⟨some 10, none, .move (.t 38)⟩,
   ⟨some 11, none, .move (.t 41)⟩])
  (.seq (.region (some []) [⟨some 42, none, .move (.t 0)⟩,
   ⟨some 43, none, .move (.t 4)⟩,
   ⟨some 44, none, .bin .sub (.t 43) (.c (.int .i64 1))⟩,
   ⟨some 45, none, .move (.t 0)⟩,
   ⟨some 46, none, .move (.t 4)⟩,
   ⟨some 47, none, .bin .sub (.t 46) (.c (.int .i64 2))⟩,
   ⟨some 48, none, .move (.t 9)⟩,
   ⟨some 49, none, .bin .add (.t 48) (.c (.int .u32 1))⟩,
   ⟨some 50, none, .idxStr (.c (.str [48, 48, 48, 49, 48, 50, 48, 51, 48, 52, 48, 53, 48, 54, 48, 55, 48, 56, 48, 57, 49, 48, 49, 49, 49, 50, 49, 51, 49, 52, 49, 53, 49, 54, 49, 55, 49, 56, 49, 57, 50, 48, 50, 49, 50, 50, 50, 51, 50, 52, 50, 53, 50, 54, 50, 55, 50, 56, 50, 57, 51, 48, 51, 49, 51, 50, 51, 51, 51, 52, 51, 53, 51, 54, 51, 55, 51, 56, 51, 57, 52, 48, 52, 49, 52, 50, 52, 51, 52, 52, 52, 53, 52, 54, 52, 55, 52, 56, 52, 57, 53, 48, 53, 49, 53, 50, 53, 51, 53, 52, 53, 53, 53, 54, 53, 55, 53, 56, 53, 57, 54, 48, 54, 49, 54, 50, 54, 51, 54, 52, 54, 53, 54, 54, 54, 55, 54, 56, 54, 57, 55, 48, 55, 49, 55, 50, 55, 51, 55, 52, 55, 53, 55, 54, 55, 55, 55, 56, 55, 57, 56, 48, 56, 49, 56, 50, 56, 51, 56, 52, 56, 53, 56, 54, 56, 55, 56, 56, 56, 57, 57, 48, 57, 49, 57, 50, 57, 51, 57, 52, 57, 53, 57, 54, 57, 55, 57, 56, 57, 57])) (.t 49)⟩,
   ⟨some 51, none, .move (.t 9)⟩,
   ⟨some 52, none, .idxStr (.c (.str [48, 48, 48, 49, 48, 50, 48, 51, 48, 52, 48, 53, 48, 54, 48, 55, 48, 56, 48, 57, 49, 48, 49, 49, 49, 50, 49, 51, 49, 52, 49, 53, 49, 54, 49, 55, 49, 56, 49, 57, 50, 48, 50, 49, 50, 50, 50, 51, 50, 52, 50, 53, 50, 54, 50, 55, 50, 56, 50, 57, 51, 48, 51, 49, 51, 50, 51, 51, 51, 52, 51, 53, 51, 54, 51, 55, 51, 56, 51, 57, 52, 48, 52, 49, 52, 50, 52, 51, 52, 52, 52, 53, 52, 54, 52, 55, 52, 56, 52, 57, 53, 48, 53, 49, 53, 50, 53, 51, 53, 52, 53, 53, 53, 54, 53, 55, 53, 56, 53, 57, 54, 48, 54, 49, 54, 50, 54, 51, 54, 52, 54, 53, 54, 54, 54, 55, 54, 56, 54, 57, 55, 48, 55, 49, 55, 50, 55, 51, 55, 52, 55, 53, 55, 54, 55, 55, 55, 56, 55, 57, 56, 48, 56, 49, 56, 50, 56, 51, 56, 52, 56, 53, 56, 54, 56, 55, 56, 56, 56, 57, 57, 48, 57, 49, 57, 50, 57, 51, 57, 52, 57, 53, 57, 54, 57, 55, 57, 56, 57, 57])) (.t 51)⟩,
   ⟨some 53, none, .idxSl 1 (.t 42) (.t 44)⟩,
   ⟨none, none, .store 1 (.t 53) (.t 50)⟩,
   ⟨some 54, none, .idxSl 1 (.t 45) (.t 47)⟩,
   ⟨none, none, .store 1 (.t 54) (.t 52)⟩])
  (.seq (.region (some []) [⟨some 55, none, .move (.t 0)⟩,
   ⟨some 56, none, .move (.t 4)⟩,
   ⟨some 57, none, .bin .sub (.t 56) (.c (.int .i64 3))⟩,
   ⟨some 58, none, .move (.t 0)⟩,
   ⟨some 59, none, .move (.t 4)⟩,
   ⟨some 60, none, .bin .sub (.t 59) (.c (.int .i64 4))⟩,
   ⟨some 61, none, .move (.t 8)⟩,
   ⟨some 62, none, .bin .add (.t 61) (.c (.int .u32 1))⟩,
   ⟨some 63, none, .idxStr (.c (.str [48, 48, 48, 49, 48, 50, 48, 51, 48, 52, 48, 53, 48, 54, 48, 55, 48, 56, 48, 57, 49, 48, 49, 49, 49, 50, 49, 51, 49, 52, 49, 53, 49, 54, 49, 55, 49, 56, 49, 57, 50, 48, 50, 49, 50, 50, 50, 51, 50, 52, 50, 53, 50, 54, 50, 55, 50, 56, 50, 57, 51, 48, 51, 49, 51, 50, 51, 51, 51, 52, 51, 53, 51, 54, 51, 55, 51, 56, 51, 57, 52, 48, 52, 49, 52, 50, 52, 51, 52, 52, 52, 53, 52, 54, 52, 55, 52, 56, 52, 57, 53, 48, 53, 49, 53, 50, 53, 51, 53, 52, 53, 53, 53, 54, 53, 55, 53, 56, 53, 57, 54, 48, 54, 49, 54, 50, 54, 51, 54, 52, 54, 53, 54, 54, 54, 55, 54, 56, 54, 57, 55, 48, 55, 49, 55, 50, 55, 51, 55, 52, 55, 53, 55, 54, 55, 55, 55, 56, 55, 57, 56, 48, 56, 49, 56, 50, 56, 51, 56, 52, 56, 53, 56, 54, 56, 55, 56, 56, 56, 57, 57, 48, 57, 49, 57, 50, 57, 51, 57, 52, 57, 53, 57, 54, 57, 55, 57, 56, 57, 57])) (.t 62)⟩,
   ⟨some 64, none, .move (.t 8)⟩,
   ⟨some 65, none, .idxStr (.c (.str [48, 48, 48, 49, 48, 50, 48, 51, 48, 52, 48, 53, 48, 54, 48, 55, 48, 56, 48, 57, 49, 48, 49, 49, 49, 50, 49, 51, 49, 52, 49, 53, 49, 54, 49, 55, 49, 56, 49, 57, 50, 48, 50, 49, 50, 50, 50, 51, 50, 52, 50, 53, 50, 54, 50, 55, 50, 56, 50, 57, 51, 48, 51, 49, 51, 50, 51, 51, 51, 52, 51, 53, 51, 54, 51, 55, 51, 56, 51, 57, 52, 48, 52, 49, 52, 50, 52, 51, 52, 52, 52, 53, 52, 54, 52, 55, 52, 56, 52, 57, 53, 48, 53, 49, 53, 50, 53, 51, 53, 52, 53, 53, 53, 54, 53, 55, 53, 56, 53, 57, 54, 48, 54, 49, 54, 50, 54, 51, 54, 52, 54, 53, 54, 54, 54, 55, 54, 56, 54, 57, 55, 48, 55, 49, 55, 50, 55, 51, 55, 52, 55, 53, 55, 54, 55, 55, 55, 56, 55, 57, 56, 48, 56, 49, 56, 50, 56, 51, 56, 52, 56, 53, 56, 54, 56, 55, 56, 56, 56, 57, 57, 48, 57, 49, 57, 50, 57, 51, 57, 52, 57, 53, 57, 54, 57, 55, 57, 56, 57, 57])) (.t 64)⟩,
   ⟨some 66, none, .idxSl 1 (.t 55) (.t 57)⟩,
   ⟨none, none, .store 1 (.t 66) (.t 63)⟩,
   ⟨some 67, none, .idxSl 1 (.t 58) (.t 60)⟩,
   ⟨none, none, .store 1 (.t 67) (.t 65)⟩])
  (.seq (.region (some []) [⟨some 68, none, .move (.t 0)⟩,
   ⟨some 69, none, .move (.t 4)⟩,
   ⟨some 70, none, .bin .sub (.t 69) (.c (.int .i64 5))⟩,
   ⟨some 71, none, .move (.t 0)⟩,
   ⟨some 72, none, .move (.t 4)⟩,
   ⟨some 73, none, .bin .sub (.t 72) (.c (.int .i64 6))⟩,
   ⟨some 74, none, .move (.t 11)⟩,
   ⟨some 75, none, .bin .add (.t 74) (.c (.int .u32 1))⟩,
   ⟨some 76, none, .idxStr (.c (.str [48, 48, 48, 49, 48, 50, 48, 51, 48, 52, 48, 53, 48, 54, 48, 55, 48, 56, 48, 57, 49, 48, 49, 49, 49, 50, 49, 51, 49, 52, 49, 53, 49, 54, 49, 55, 49, 56, 49, 57, 50, 48, 50, 49, 50, 50, 50, 51, 50, 52, 50, 53, 50, 54, 50, 55, 50, 56, 50, 57, 51, 48, 51, 49, 51, 50, 51, 51, 51, 52, 51, 53, 51, 54, 51, 55, 51, 56, 51, 57, 52, 48, 52, 49, 52, 50, 52, 51, 52, 52, 52, 53, 52, 54, 52, 55, 52, 56, 52, 57, 53, 48, 53, 49, 53, 50, 53, 51, 53, 52, 53, 53, 53, 54, 53, 55, 53, 56, 53, 57, 54, 48, 54, 49, 54, 50, 54, 51, 54, 52, 54, 53, 54, 54, 54, 55, 54, 56, 54, 57, 55, 48, 55, 49, 55, 50, 55, 51, 55, 52, 55, 53, 55, 54, 55, 55, 55, 56, 55, 57, 56, 48, 56, 49, 56, 50, 56, 51, 56, 52, 56, 53, 56, 54, 56, 55, 56, 56, 56, 57, 57, 48, 57, 49, 57, 50, 57, 51, 57, 52, 57, 53, 57, 54, 57, 55, 57, 56, 57, 57])) (.t 75)⟩,
   ⟨some 77, none, .move (.t 11)⟩,
   ⟨some 78, none, .idxStr (.c (.str [48, 48, 48, 49, 48, 50, 48, 51, 48, 52, 48, 53, 48, 54, 48, 55, 48, 56, 48, 57, 49, 48, 49, 49, 49, 50, 49, 51, 49, 52, 49, 53, 49, 54, 49, 55, 49, 56, 49, 57, 50, 48, 50, 49, 50, 50, 50, 51, 50, 52, 50, 53, 50, 54, 50, 55, 50, 56, 50, 57, 51, 48, 51, 49, 51, 50, 51, 51, 51, 52, 51, 53, 51, 54, 51, 55, 51, 56, 51, 57, 52, 48, 52, 49, 52, 50, 52, 51, 52, 52, 52, 53, 52, 54, 52, 55, 52, 56, 52, 57, 53, 48, 53, 49, 53, 50, 53, 51, 53, 52, 53, 53, 53, 54, 53, 55, 53, 56, 53, 57, 54, 48, 54, 49, 54, 50, 54, 51, 54, 52, 54, 53, 54, 54, 54, 55, 54, 56, 54, 57, 55, 48, 55, 49, 55, 50, 55, 51, 55, 52, 55, 53, 55, 54, 55, 55, 55, 56, 55, 57, 56, 48, 56, 49, 56, 50, 56, 51, 56, 52, 56, 53, 56, 54, 56, 55, 56, 56, 56, 57, 57, 48, 57, 49, 57, 50, 57, 51, 57, 52, 57, 53, 57, 54, 57, 55, 57, 56, 57, 57])) (.t 77)⟩,
   ⟨some 79, none, .idxSl 1 (.t 68) (.t 70)⟩,
   ⟨none, none, .store 1 (.t 79) (.t 76)⟩,
   ⟨some 80, none, .idxSl 1 (.t 71) (.t 73)⟩,
   ⟨none, none, .store 1 (.t 80) (.t 78)⟩])
  (.seq (.region (some []) [⟨some 81, none, .move (.t 0)⟩,
   ⟨some 82, none, .move (.t 4)⟩,
   ⟨some 83, none, .bin .sub (.t 82) (.c (.int .i64 7))⟩,
   ⟨some 84, none, .move (.t 0)⟩,
   ⟨some 85, none, .move (.t 4)⟩,
   ⟨some 86, none, .bin .sub (.t 85) (.c (.int .i64 8))⟩,
   ⟨some 87, none, .move (.t 10)⟩,
   ⟨some 88, none, .bin .add (.t 87) (.c (.int .u32 1))⟩,
   ⟨some 89, none, .idxStr (.c (.str [48, 48, 48, 49, 48, 50, 48, 51, 48, 52, 48, 53, 48, 54, 48, 55, 48, 56, 48, 57, 49, 48, 49, 49, 49, 50, 49, 51, 49, 52, 49, 53, 49, 54, 49, 55, 49, 56, 49, 57, 50, 48, 50, 49, 50, 50, 50, 51, 50, 52, 50, 53, 50, 54, 50, 55, 50, 56, 50, 57, 51, 48, 51, 49, 51, 50, 51, 51, 51, 52, 51, 53, 51, 54, 51, 55, 51, 56, 51, 57, 52, 48, 52, 49, 52, 50, 52, 51, 52, 52, 52, 53, 52, 54, 52, 55, 52, 56, 52, 57, 53, 48, 53, 49, 53, 50, 53, 51, 53, 52, 53, 53, 53, 54, 53, 55, 53, 56, 53, 57, 54, 48, 54, 49, 54, 50, 54, 51, 54, 52, 54, 53, 54, 54, 54, 55, 54, 56, 54, 57, 55, 48, 55, 49, 55, 50, 55, 51, 55, 52, 55, 53, 55, 54, 55, 55, 55, 56, 55, 57, 56, 48, 56, 49, 56, 50, 56, 51, 56, 52, 56, 53, 56, 54, 56, 55, 56, 56, 56, 57, 57, 48, 57, 49, 57, 50, 57, 51, 57, 52, 57, 53, 57, 54, 57, 55, 57, 56, 57, 57])) (.t 88)⟩,
   ⟨some 90, none, .move (.t 10)⟩,
   ⟨some 91, none, .idxStr (.c (.str [48, 48, 48, 49, 48, 50, 48, 51, 48, 52, 48, 53, 48, 54, 48, 55, 48, 56, 48, 57, 49, 48, 49, 49, 49, 50, 49, 51, 49, 52, 49, 53, 49, 54, 49, 55, 49, 56, 49, 57, 50, 48, 50, 49, 50, 50, 50, 51, 50, 52, 50, 53, 50, 54, 50, 55, 50, 56, 50, 57, 51, 48, 51, 49, 51, 50, 51, 51, 51, 52, 51, 53, 51, 54, 51, 55, 51, 56, 51, 57, 52, 48, 52, 49, 52, 50, 52, 51, 52, 52, 52, 53, 52, 54, 52, 55, 52, 56, 52, 57, 53, 48, 53, 49, 53, 50, 53, 51, 53, 52, 53, 53, 53, 54, 53, 55, 53, 56, 53, 57, 54, 48, 54, 49, 54, 50, 54, 51, 54, 52, 54, 53, 54, 54, 54, 55, 54, 56, 54, 57, 55, 48, 55, 49, 55, 50, 55, 51, 55, 52, 55, 53, 55, 54, 55, 55, 55, 56, 55, 57, 56, 48, 56, 49, 56, 50, 56, 51, 56, 52, 56, 53, 56, 54, 56, 55, 56, 56, 56, 57, 57, 48, 57, 49, 57, 50, 57, 51, 57, 52, 57, 53, 57, 54, 57, 55, 57, 56, 57, 57])) (.t 90)⟩,
   ⟨some 92, none, .idxSl 1 (.t 81) (.t 83)⟩,
   ⟨none, none, .store 1 (.t 92) (.t 89)⟩,
   ⟨some 93, none, .idxSl 1 (.t 84) (.t 86)⟩,
   ⟨none, none, .store 1 (.t 93) (.t 91)⟩])
  (.region none [⟨some 94, none, .move (.t 4)⟩,
   ⟨some 95, none, .bin .sub (.t 94) (.c (.int .i64 8))⟩,
   ⟨some 4, none, .move (.t 95)⟩]))))))))))
noncomputable def c165_2 : ACode := .mask (.n (.n .e true .e) true (.n (.n .e true .e) false .e)) (c165_1)
noncomputable def c165_3 : ACode := .seq (.seq (.region none [⟨some 19, none, .move (.t 4)⟩,
   ⟨some 20, none, .bin .geq (.t 19) (.c (.int .i64 8))⟩])
  (.cond (.t 20) (.skip)
  (.exit 0)))
  (c165_2)
noncomputable def c165_4 : ACode := .seq (.region none [⟨some 160, none, .move (.t 4)⟩,
   ⟨some 161, none, .bin .gtr (.t 160) (.c (.int .i64 0))⟩])
  (.cond (.t 161) (.region none [⟨some 162, none, .move (.t 0)⟩,
   ⟨some 163, none, .move (.t 12)⟩,
   ⟨some 164, none, .bin .add (.c (.int .u32 48)) (.t 163)⟩,
   ⟨some 165, none, .convInt .u8 (.t 164)⟩,
   ⟨some 166, none, .idxSl 1 (.t 162) (.c (.int .i64 0))⟩,
   ⟨none, none, .store 1 (.t 166) (.t 165)⟩])
  (.skip))
noncomputable def c165_5 : ACode := .mask (.n .e true (.n (.n .e true (.n .e true .e)) false .e)) (c165_4)
noncomputable def c165_6 : ACode := .seq (.seq (.region none [⟨some 138, none, .move (.t 4)⟩,
   ⟨some 139, none, .bin .geq (.t 138) (.c (.int .i64 2))⟩])
  (.cond (.t 139) (.seq (.region none [⟨some 140, none, .move (.t 12)⟩,
   ⟨some 141, none, .bin .rem (.t 140) (.c (.int .u32 100))⟩,
   ⟨some 142, none, .bin .mul (.t 141) (.c (.int .u32 2))⟩,
   ⟨some 16, none, .move (.t 142)⟩])
  (.seq (.region none [⟨some 143, none, .move (.t 12)⟩,
   ⟨some 144, none, .bin .quo (.t 143) (.c (.int .u32 100))⟩,
   ⟨some 12, none, .move (.t 144)⟩])
  (.seq (.region (some []) [⟨some 145, none, .move (.t 0)⟩,
   ⟨some 146, none, .move (.t 4)⟩,
   ⟨some 147, none, .bin .sub (.t 146) (.c (.int .i64 1))⟩,
   ⟨some 148, none, .move (.t 0)⟩,
   ⟨some 149, none, .move (.t 4)⟩,
   ⟨some 150, none, .bin .sub (.t 149) (.c (.int .i64 2))⟩,
   ⟨some 151, none, .move (.t 16)⟩,
   ⟨some 152, none, .bin .add (.t 151) (.c (.int .u32 1))⟩,
   ⟨some 153, none, .idxStr (.c (.str [48, 48, 48, 49, 48, 50, 48, 51, 48, 52, 48, 53, 48, 54, 48, 55, 48, 56, 48, 57, 49, 48, 49, 49, 49, 50, 49, 51, 49, 52, 49, 53, 49, 54, 49, 55, 49, 56, 49, 57, 50, 48, 50, 49, 50, 50, 50, 51, 50, 52, 50, 53, 50, 54, 50, 55, 50, 56, 50, 57, 51, 48, 51, 49, 51, 50, 51, 51, 51, 52, 51, 53, 51, 54, 51, 55, 51, 56, 51, 57, 52, 48, 52, 49, 52, 50, 52, 51, 52, 52, 52, 53, 52, 54, 52, 55, 52, 56, 52, 57, 53, 48, 53, 49, 53, 50, 53, 51, 53, 52, 53, 53, 53, 54, 53, 55, 53, 56, 53, 57, 54, 48, 54, 49, 54, 50, 54, 51, 54, 52, 54, 53, 54, 54, 54, 55, 54, 56, 54, 57, 55, 48, 55, 49, 55, 50, 55, 51, 55, 52, 55, 53, 55, 54, 55, 55, 55, 56, 55, 57, 56, 48, 56, 49, 56, 50, 56, 51, 56, 52, 56, 53, 56, 54, 56, 55, 56, 56, 56, 57, 57, 48, 57, 49, 57, 50, 57, 51, 57, 52, 57, 53, 57, 54, 57, 55, 57, 56, 57, 57])) (.t 152)⟩,
   ⟨some 154, none, .move (.t 16)⟩,
   ⟨some 155, none, .idxStr (.c (.str [48, 48, 48, 49, 48, 50, 48, 51, 48, 52, 48, 53, 48, 54, 48, 55, 48, 56, 48, 57, 49, 48, 49, 49, 49, 50, 49, 51, 49, 52, 49, 53, 49, 54, 49, 55, 49, 56, 49, 57, 50, 48, 50, 49, 50, 50, 50, 51, 50, 52, 50, 53, 50, 54, 50, 55, 50, 56, 50, 57, 51, 48, 51, 49, 51, 50, 51, 51, 51, 52, 51, 53, 51, 54, 51, 55, 51, 56, 51, 57, 52, 48, 52, 49, 52, 50, 52, 51, 52, 52, 52, 53, 52, 54, 52, 55, 52, 56, 52, 57, 53, 48, 53, 49, 53, 50, 53, 51, 53, 52, 53, 53, 53, 54, 53, 55, 53, 56, 53, 57, 54, 48, 54, 49, 54, 50, 54, 51, 54, 52, 54, 53, 54, 54, 54, 55, 54, 56, 54, 57, 55, 48, 55, 49, 55, 50, 55, 51, 55, 52, 55, 53, 55, 54, 55, 55, 55, 56, 55, 57, 56, 48, 56, 49, 56, 50, 56, 51, 56, 52, 56, 53, 56, 54, 56, 55, 56, 56, 56, 57, 57, 48, 57, 49, 57, 50, 57, 51, 57, 52, 57, 53, 57, 54, 57, 55, 57, 56, 57, 57])) (.t 154)⟩,
   ⟨some 156, none, .idxSl 1 (.t 145) (.t 147)⟩,
   ⟨none, none, .store 1 (.t 156) (.t 153)⟩,
   ⟨some 157, none, .idxSl 1 (.t 148) (.t 150)⟩,
   ⟨none, none, .store 1 (.t 157) (.t 155)⟩])
  (.region none [⟨some 158, none, .move (.t 4)⟩,
   ⟨some 159, none, .bin .sub (.t 158) (.c (.int .i64 2))⟩,
   ⟨some 4, none, .move (.t 159)⟩]))))
  (.skip)))
  (c165_5)
noncomputable def c165_7 : ACode := .mask (.n .e true (.n (.n .e true (.n .e true .e)) false .e)) (c165_6)
noncomputable def c165_8 : ACode := .seq (.region none [⟨some 96, none, .move (.t 1)⟩,
   ⟨some 97, none, .convInt .u32 (.t 96)⟩,
   ⟨some 12, none, .move (.t 97)⟩])
  (.seq (.seq (.region none [⟨some 98, none, .move (.t 4)⟩,
   ⟨some 99, none, .bin .geq (.t 98) (.c (.int .i64 4))⟩])
  (.cond (.t 99) (.seq (.region none [⟨some 100, none, .move (.t 12)⟩,
   ⟨some 101, none, .bin .rem (.t 100) (.c (.int .u32 10000))⟩,
   ⟨some 13, none, .move (.t 101)⟩])
  (.seq (.region none [⟨some 102, none, .move (.t 12)⟩,
   ⟨some 103, none, .bin .quo (.t 102) (.c (.int .u32 10000))⟩,
   ⟨some 12, none, .move (.t 103)⟩])
  (.seq (.region none [⟨some 104, none, .move (.t 13)⟩,
   ⟨some 105, none, .bin .quo (.t 104) (.c (.int .u32 100))⟩,
   ⟨some 106, none, .bin .mul (.t 105) (.c (.int .u32 2))⟩,
   ⟨some 107, none, .move (.t 13)⟩,
   ⟨some 108, none, .bin .rem (.t 107) (.c (.int .u32 100))⟩,
   ⟨some 109, none, .bin .mul (.t 108) (.c (.int .u32 2))⟩,
   ⟨some 14, none, .move (.t 106)⟩,
   ⟨some 15, none, .move (.t 109)⟩])
  (.seq (.region (some []) [⟨some 110, none, .move (.t 0)⟩,
   ⟨some 111, none, .move (.t 4)⟩,
   ⟨some 112, none, .bin .sub (.t 111) (.c (.int .i64 1))⟩,
   ⟨some 113, none, .move (.t 0)⟩,
   ⟨some 114, none, .move (.t 4)⟩,
   ⟨some 115, none, .bin .sub (.t 114) (.c (.int .i64 2))⟩,
   ⟨some 116, none, .move (.t 15)⟩,
   ⟨some 117, none, .bin .add (.t 116) (.c (.int .u32 1))⟩,
   ⟨some 118, none, .idxStr (.c (.str [48, 48, 48, 49, 48, 50, 48, 51, 48, 52, 48, 53, 48, 54, 48, 55, 48, 56, 48, 57, 49, 48, 49, 49, 49, 50, 49, 51, 49, 52, 49, 53, 49, 54, 49, 55, 49, 56, 49, 57, 50, 48, 50, 49, 50, 50, 50, 51, 50, 52, 50, 53, 50, 54, 50, 55, 50, 56, 50, 57, 51, 48, 51, 49, 51, 50, 51, 51, 51, 52, 51, 53, 51, 54, 51, 55, 51, 56, 51, 57, 52, 48, 52, 49, 52, 50, 52, 51, 52, 52, 52, 53, 52, 54, 52, 55, 52, 56, 52, 57, 53, 48, 53, 49, 53, 50, 53, 51, 53, 52, 53, 53, 53, 54, 53, 55, 53, 56, 53, 57, 54, 48, 54, 49, 54, 50, 54, 51, 54, 52, 54, 53, 54, 54, 54, 55, 54, 56, 54, 57, 55, 48, 55, 49, 55, 50, 55, 51, 55, 52, 55, 53, 55, 54, 55, 55, 55, 56, 55, 57, 56, 48, 56, 49, 56, 50, 56, 51, 56, 52, 56, 53, 56, 54, 56, 55, 56, 56, 56, 57, 57, 48, 57, 49, 57, 50, 57, 51, 57, 52, 57, 53, 57, 54, 57, 55, 57, 56, 57, 57])) (.t 117)⟩,
   ⟨some 119, none, .move (.t 15)⟩,
   ⟨some 120, none, .idxStr (.c (.str [48, 48, 48, 49, 48, 50, 48, 51, 48, 52, 48, 53, 48, 54, 48, 55, 48, 56, 48, 57, 49, 48, 49, 49, 49, 50, 49, 51, 49, 52, 49, 53, 49, 54, 49, 55, 49, 56, 49, 57, 50, 48, 50, 49, 50, 50, 50, 51, 50, 52, 50, 53, 50, 54, 50, 55, 50, 56, 50, 57, 51, 48, 51, 49, 51, 50, 51, 51, 51, 52, 51, 53, 51, 54, 51, 55, 51, 56, 51, 57, 52, 48, 52, 49, 52, 50, 52, 51, 52, 52, 52, 53, 52, 54, 52, 55, 52, 56, 52, 57, 53, 48, 53, 49, 53, 50, 53, 51, 53, 52, 53, 53, 53, 54, 53, 55, 53, 56, 53, 57, 54, 48, 54, 49, 54, 50, 54, 51, 54, 52, 54, 53, 54, 54, 54, 55, 54, 56, 54, 57, 55, 48, 55, 49, 55, 50, 55, 51, 55, 52, 55, 53, 55, 54, 55, 55, 55, 56, 55, 57, 56, 48, 56, 49, 56, 50, 56, 51, 56, 52, 56, 53, 56, 54, 56, 55, 56, 56, 56, 57, 57, 48, 57, 49, 57, 50, 57, 51, 57, 52, 57, 53, 57, 54, 57, 55, 57, 56, 57, 57])) (.t 119)⟩,
   ⟨some 121, none, .idxSl 1 (.t 110) (.t 112)⟩,
   ⟨none, none, .store 1 (.t 121) (.t 118)⟩,
   ⟨some 122, none, .idxSl 1 (.t 113) (.t 115)⟩,
   ⟨none, none, .store 1 (.t 122) (.t 120)⟩])
  (.seq (.region (some []) [⟨some 123, none, .move (.t 0)⟩,
   ⟨some 124, none, .move (.t 4)⟩,
   ⟨some 125, none, .bin .sub (.t 124) (.c (.int .i64 3))⟩,
   ⟨some 126, none, .move (.t 0)⟩,
   ⟨some 127, none, .move (.t 4)⟩,
   ⟨some 128, none, .bin .sub (.t 127) (.c (.int .i64 4))⟩,
   ⟨some 129, none, .move (.t 14)⟩,
   ⟨some 130, none, .bin .add (.t 129) (.c (.int .u32 1))⟩,
   ⟨some 131, none, .idxStr (.c (.str [48, 48, 48, 49, 48, 50, 48, 51, 48, 52, 48, 53, 48, 54, 48, 55, 48, 56, 48, 57, 49, 48, 49, 49, 49, 50, 49, 51, 49, 52, 49, 53, 49, 54, 49, 55, 49, 56, 49, 57, 50, 48, 50, 49, 50, 50, 50, 51, 50, 52, 50, 53, 50, 54, 50, 55, 50, 56, 50, 57, 51, 48, 51, 49, 51, 50, 51, 51, 51, 52, 51, 53, 51, 54, 51, 55, 51, 56, 51, 57, 52, 48, 52, 49, 52, 50, 52, 51, 52, 52, 52, 53, 52, 54, 52, 55, 52, 56, 52, 57, 53, 48, 53, 49, 53, 50, 53, 51, 53, 52, 53, 53, 53, 54, 53, 55, 53, 56, 53, 57, 54, 48, 54, 49, 54, 50, 54, 51, 54, 52, 54, 53, 54, 54, 54, 55, 54, 56, 54, 57, 55, 48, 55, 49, 55, 50, 55, 51, 55, 52, 55, 53, 55, 54, 55, 55, 55, 56, 55, 57, 56, 48, 56, 49, 56, 50, 56, 51, 56, 52, 56, 53, 56, 54, 56, 55, 56, 56, 56, 57, 57, 48, 57, 49, 57, 50, 57, 51, 57, 52, 57, 53, 57, 54, 57, 55, 57, 56, 57, 57])) (.t 130)⟩,
   ⟨some 132, none, .move (.t 14)⟩,
   ⟨some 133, none, .idxStr (.c (.str [48, 48, 48, 49, 48, 50, 48, 51, 48, 52, 48, 53, 48, 54, 48, 55, 48, 56, 48, 57, 49, 48, 49, 49, 49, 50, 49, 51, 49, 52, 49, 53, 49, 54, 49, 55, 49, 56, 49, 57, 50, 48, 50, 49, 50, 50, 50, 51, 50, 52, 50, 53, 50, 54, 50, 55, 50, 56, 50, 57, 51, 48, 51, 49, 51, 50, 51, 51, 51, 52, 51, 53, 51, 54, 51, 55, 51, 56, 51, 57, 52, 48, 52, 49, 52, 50, 52, 51, 52, 52, 52, 53, 52, 54, 52, 55, 52, 56, 52, 57, 53, 48, 53, 49, 53, 50, 53, 51, 53, 52, 53, 53, 53, 54, 53, 55, 53, 56, 53, 57, 54, 48, 54, 49, 54, 50, 54, 51, 54, 52, 54, 53, 54, 54, 54, 55, 54, 56, 54, 57, 55, 48, 55, 49, 55, 50, 55, 51, 55, 52, 55, 53, 55, 54, 55, 55, 55, 56, 55, 57, 56, 48, 56, 49, 56, 50, 56, 51, 56, 52, 56, 53, 56, 54, 56, 55, 56, 56, 56, 57, 57, 48, 57, 49, 57, 50, 57, 51, 57, 52, 57, 53, 57, 54, 57, 55, 57, 56, 57, 57])) (.t 132)⟩,
   ⟨some 134, none, .idxSl 1 (.t 123) (.t 125)⟩,
   ⟨none, none, .store 1 (.t 134) (.t 131)⟩,
   ⟨some 135, none, .idxSl 1 (.t 126) (.t 128)⟩,
   ⟨none, none, .store 1 (.t 135) (.t 133)⟩])
  (.region none [⟨some 136, none, .move (.t 4)⟩,
   ⟨some 137, none, .bin .sub (.t 136) (.c (.int .i64 4))⟩,
   ⟨some 4, none, .move (.t 137)⟩]))))))
  (.skip)))
  (c165_7))
noncomputable def c165_9 : ACode := .mask (.n (.n .e true .e) true (.n (.n .e true .e) false .e)) (c165_8)
noncomputable def c165_b : ACode := .seq (.region none [⟨some 17, none, .move (.t 0)⟩,
   ⟨some 18, none, .len false (.t 17)⟩,
   ⟨some 4, none, .move (.t 18)⟩])
  (.seq (.block 0 (.loop (.n (.n .e true .e) true (.n (.n .e true .e) false .e)) (c165_3)))
  (c165_9))
noncomputable def c165 : AFn := { np := 2, nt := 167, results := [], keep := false, body := c165_b }
noncomputable def c166_1 : ACode := .block 1 (.seq (.region none [⟨some 47, none, .move (.t 13)⟩,
   ⟨some 48, none, .bin .sub (.t 47) (.c (.int .i64 1))⟩,
   ⟨some 13, none, .move (.t 48)⟩])
  (.seq (.region none [⟨some 49, none, .move (.t 13)⟩,
   ⟨some 50, none, .move (.t 1)⟩,
   ⟨some 51, none, .move (.t 16)⟩,
   ⟨some 52, none, .bin .and (.t 50) (.t 51)⟩,
   ⟨some 53, none, .idxStr (.c (.str [48, 49, 50, 51, 52, 53, 54, 55, 56, 57, 97, 98, 99, 100, 101, 102, 103, 104, 105, 106, 107, 108, 109, 110, 111, 112, 113, 114, 115, 116, 117, 118, 119, 120, 121, 122])) (.t 52)⟩,
   ⟨some 54, none, .idxArr 1 65 (.t 12) (.t 49)⟩,
   ⟨none, none, .store 1 (.t 54) (.t 53)⟩])
  (.region none [⟨some 55, none, .move (.t 1)⟩,
   ⟨some 56, none, .move (.t 14)⟩,
   ⟨some 57, none, .bin .shr (.t 55) (.t 56)⟩,
   ⟨some 1, none, .move (.t 57)⟩])))
noncomputable def c166_2 : ACode := .mask (.n (.n (.n (.n (.n .e true .e) false .e) true (.n .e true .e)) true (.n .e false (.n .e true .e))) true (.n (.n (.n (.n .e true .e) false .e) true (.n .e true .e)) false (.n (.n .e true .e) false (.n .e true .e)))) (c166_1)
noncomputable def c166_3 : ACode := .seq (.seq (.region none [⟨some 44, none, .move (.t 1)⟩,
   ⟨some 45, none, .move (.t 15)⟩,
   ⟨some 46, none, .bin .geq (.t 44) (.t 45)⟩])
  (.cond (.t 46) (.skip)
  (.exit 0)))
  (c166_2)
noncomputable def c166_4 : ACode := .seq (.region none [⟨some 58, none, .move (.t 13)⟩,
   ⟨some 59, none, .bin .sub (.t 58) (.c (.int .i64 1))⟩,
   ⟨some 13, none, .move (.t 59)⟩])
  (.region none [⟨some 60, none, .move (.t 13)⟩,
   ⟨some 61, none, .move (.t 1)⟩,
   ⟨some 62, none, .idxStr (.c (.str [48, 49, 50, 51, 52, 53, 54, 55, 56, 57, 97, 98, 99, 100, 101, 102, 103, 104, 105, 106, 107, 108, 109, 110, 111, 112, 113, 114, 115, 116, 117, 118, 119, 120, 121, 122])) (.t 61)⟩,
   ⟨some 63, none, .idxArr 1 65 (.t 12) (.t 60)⟩,
   ⟨none, none, .store 1 (.t 63) (.t 62)⟩])
noncomputable def c166_5 : ACode := .mask (.n (.n (.n .e true (.n .e true .e)) true (.n .e false (.n .e true .e))) true (.n (.n .e true (.n .e true .e)) false (.n (.n .e true .e) false .e))) (c166_4)
noncomputable def c166_6 : ACode := .block 3 (.seq (.region none [⟨some 69, none, .move (.t 13)⟩,
   ⟨some 70, none, .bin .sub (.t 69) (.c (.int .i64 1))⟩,
   ⟨some 13, none, .move (.t 70)⟩])
  (.seq (.region none [⟨some 71, none, .move (.t 1)⟩,
   ⟨some 72, none, .move (.t 17)⟩,
   ⟨some 73, none, .bin .quo (.t 71) (.t 72)⟩,
   ⟨some 18, none, .move (.t 73)⟩])
  (.seq (.region none [⟨some 74, none, .move (.t 13)⟩,
   ⟨some 75, none, .move (.t 1)⟩,
   ⟨some 76, none, .move (.t 18)⟩,
   ⟨some 77, none, .move (.t 17)⟩,
   ⟨some 78, none, .bin .mul (.t 76) (.t 77)⟩,
   ⟨some 79, none, .bin .sub (.t 75) (.t 78)⟩,
   ⟨some 80, none, .idxStr (.c (.str [48, 49, 50, 51, 52, 53, 54, 55, 56, 57, 97, 98, 99, 100, 101, 102, 103, 104, 105, 106, 107, 108, 109, 110, 111, 112, 113, 114, 115, 116, 117, 118, 119, 120, 121, 122])) (.t 79)⟩,
   ⟨some 81, none, .idxArr 1 65 (.t 12) (.t 74)⟩,
   ⟨none, none, .store 1 (.t 81) (.t 80)⟩])
  (.region none [⟨some 82, none, .move (.t 18)⟩,
   ⟨some 1, none, .move (.t 82)⟩]))))
noncomputable def c166_7 : ACode := .mask (.n (.n (.n .e true (.n .e true .e)) true (.n (.n (.n .e true .e) false .e) false (.n .e true .e))) true (.n (.n .e true (.n .e true .e)) false (.n (.n .e true .e) false .e))) (c166_6)
noncomputable def c166_8 : ACode := .seq (.seq (.region none [⟨some 66, none, .move (.t 1)⟩,
   ⟨some 67, none, .move (.t 17)⟩,
   ⟨some 68, none, .bin .geq (.t 66) (.t 67)⟩])
  (.cond (.t 68) (.skip)
  (.exit 2)))
  (c166_7)
noncomputable def c166_9 : ACode := .seq (.region none [⟨some 83, none, .move (.t 13)⟩,
   ⟨some 84, none, .bin .sub (.t 83) (.c (.int .i64 1))⟩,
   ⟨some 13, none, .move (.t 84)⟩])
  (.region none [⟨some 85, none, .move (.t 13)⟩,
   ⟨some 86, none, .move (.t 1)⟩,
   ⟨some 87, none, .idxStr (.c (.str [48, 49, 50, 51, 52, 53, 54, 55, 56, 57, 97, 98, 99, 100, 101, 102, 103, 104, 105, 106, 107, 108, 109, 110, 111, 112, 113, 114, 115, 116, 117, 118, 119, 120, 121, 122])) (.t 86)⟩,
   ⟨some 88, none, .idxArr 1 65 (.t 12) (.t 85)⟩,
   ⟨none, none, .store 1 (.t 88) (.t 87)⟩])
noncomputable def c166_10 : ACode := .mask (.n (.n (.n .e true (.n .e true .e)) true (.n .e false (.n .e true .e))) true (.n (.n .e true (.n .e true .e)) false (.n (.n .e true .e) false .e))) (c166_9)
noncomputable def c166_11 : ACode := .seq (.region none [⟨some 99, none, .move (.t 13)⟩,
   ⟨some 100, none, .sliceA 1 65 (.t 12) (some (.t 99)) none none⟩,
   ⟨some 101, none, .bytesToStr (.t 100)⟩,
   ⟨some 11, none, .move (.t 101)⟩])
  (.ret)
noncomputable def c166_12 : ACode := .mask (.n (.n .e false (.n .e false (.n .e true .e))) false (.n (.n .e false (.n .e true .e)) false (.n (.n .e true .e) false .e))) (c166_11)
noncomputable def c166_13 : ACode := .seq (.seq (.region none [⟨some 94, none, .move (.t 4)⟩])
  (.cond (.t 94) (.seq (.region none [⟨some 95, none, .move (.t 0)⟩,
   ⟨some 96, none, .move (.t 13)⟩,
   ⟨some 97, none, .sliceA 1 65 (.t 12) (some (.t 96)) none none⟩,
   ⟨some 98, none, .append 1 1 none (.t 95) (.t 97)⟩,
   ⟨some 10, none, .move (.t 98)⟩])
  (.ret))
  (.skip)))
  (c166_12)
noncomputable def c166_14 : ACode := .mask (.n (.n (.n .e false (.n .e true .e)) false (.n .e false (.n .e true .e))) true (.n (.n .e true (.n .e true .e)) false (.n (.n .e true .e) false .e))) (c166_13)
noncomputable def c166_15 : ACode := .seq (.seq (.region none [⟨some 89, none, .move (.t 3)⟩])
  (.cond (.t 89) (.seq (.region none [⟨some 90, none, .move (.t 13)⟩,
   ⟨some 91, none, .bin .sub (.t 90) (.c (.int .i64 1))⟩,
   ⟨some 13, none, .move (.t 91)⟩])
  (.region none [⟨some 92, none, .move (.t 13)⟩,
   ⟨some 93, none, .idxArr 1 65 (.t 12) (.t 92)⟩,
   ⟨none, none, .store 1 (.t 93) (.c (.int .u8 45))⟩]))
  (.skip)))
  (c166_14)
noncomputable def c166_16 : ACode := .mask (.n (.n (.n .e true (.n .e true .e)) false (.n .e false (.n .e true .e))) true (.n (.n .e true (.n .e true .e)) false (.n (.n .e true .e) false .e))) (c166_15)
noncomputable def c166_17 : ACode := .seq (.seq (.region none [⟨some 33, none, .move (.t 2)⟩,
   ⟨some 34, none, .call 183 [.t 33]⟩])
  (.cond (.t 34) (.seq (.region none [⟨some 35, none, .move (.t 2)⟩,
   ⟨some 36, none, .convInt .u64 (.t 35)⟩,
   ⟨some 37, none, .call 184 [.t 36]⟩,
   ⟨some 38, none, .convInt .u64 (.t 37)⟩,
   ⟨some 14, none, .move (.t 38)⟩])
  (.seq (.region none [⟨some 39, none, .move (.t 2)⟩,
   ⟨some 40, none, .convInt .u64 (.t 39)⟩,
   ⟨some 15, none, .move (.t 40)⟩])
  (.seq (.region none [⟨some 41, none, .move (.t 2)⟩,
   ⟨some 42, none, .convInt .u64 (.t 41)⟩,
   ⟨some 43, none, .bin .sub (.t 42) (.c (.int .u64 1))⟩,
   ⟨some 16, none, .move (.t 43)⟩])
  (.seq (.block 0 (.loop (.n (.n (.n (.n (.n .e true .e) false .e) true (.n .e true .e)) true (.n .e false (.n .e true .e))) true (.n (.n (.n (.n .e true .e) false .e) true (.n .e true .e)) false (.n (.n .e true .e) false (.n .e true .e)))) (c166_3)))
  (c166_5)))))
  (.seq (.region none [⟨some 64, none, .move (.t 2)⟩,
   ⟨some 65, none, .convInt .u64 (.t 64)⟩,
   ⟨some 17, none, .move (.t 65)⟩])
  (.seq (.block 2 (.loop (.n (.n (.n .e true (.n .e true .e)) true (.n (.n (.n .e true .e) false .e) false (.n .e true .e))) true (.n (.n .e true (.n .e true .e)) false (.n (.n .e true .e) false .e))) (c166_8)))
  (c166_10)))))
  (c166_16)
noncomputable def c166_18 : ACode := .mask (.n (.n (.n .e true (.n .e true .e)) true (.n .e false (.n .e true .e))) true (.n (.n .e true (.n .e true .e)) true (.n (.n .e true .e) false .e))) (c166_17)
noncomputable def c166_19 : ACode := .seq (.region none [⟨some 12, none, .alloc [.int .u8 0, .int .u8 0, .int .u8 0, .int .u8 0, .int .u8 0, .int .u8 0, .int .u8 0, .int .u8 0, .int .u8 0, .int .u8 0, .int .u8 0, .int .u8 0, .int .u8 0, .int .u8 0, .int .u8 0, .int .u8 0, .int .u8 0, .int .u8 0, .int .u8 0, .int .u8 0, .int .u8 0, .int .u8 0, .int .u8 0, .int .u8 0, .int .u8 0, .int .u8 0, .int .u8 0, .int .u8 0, .int .u8 0, .int .u8 0, .int .u8 0, .int .u8 0, .int .u8 0, .int .u8 0, .int .u8 0, .int .u8 0, .int .u8 0, .int .u8 0, .int .u8 0, .int .u8 0, .int .u8 0, .int .u8 0, .int .u8 0, .int .u8 0, .int .u8 0, .int .u8 0, .int .u8 0, .int .u8 0, .int .u8 0, .int .u8 0, .int .u8 0, .int .u8 0, .int .u8 0, .int .u8 0, .int .u8 0, .int .u8 0, .int .u8 0, .int .u8 0, .int .u8 0, .int .u8 0, .int .u8 0, .int .u8 0, .int .u8 0, .int .u8 0, .int .u8 0]⟩])
  (.seq (.region none [⟨some 13, none, .move (.c (.int .i64 65))⟩])
  (.seq (.seq (.region none [⟨some 30, none, .move (.t 3)⟩])
  (.cond (.t 30) (.region none [⟨some 31, none, .move (.t 1)⟩,
   ⟨some 32, none, .un .neg (.t 31)⟩,
   ⟨some 1, none, .move (.t 32)⟩])
  (.skip)))
  (c166_18)))
noncomputable def c166_20 : ACode := .mask (.n (.n (.n .e true (.n .e true .e)) true .e) true (.n (.n .e true .e) true (.n (.n .e true .e) false .e))) (c166_19)
noncomputable def c166_b : ACode := .seq (.region none [⟨some 10, none, .move (.c (.sl 1 [] .nil))⟩,
   ⟨some 11, none, .move (.c (.str []))⟩])
  (.seq (.seq (.region none [⟨some 19, none, .move (.t 2)⟩,
   ⟨some 20, none, .bin .lss (.t 19) (.c (.int .i64 2))⟩,
   ⟨some 21, none, .move (.t 20)⟩,
   ⟨some 22, (some (21, false)), .move (.t 2)⟩,
   ⟨some 23, (some (21, false)), .bin .eql (.t 22) (.c (.int .i64 10))⟩,
   ⟨some 24, none, .pick (.t 21) (.c (.bool true)) (.t 23)⟩,
   ⟨some 25, none, .move (.t 24)⟩,
   ⟨some 26, (some (25, false)), .move (.t 2)⟩,
   ⟨some 27, (some (25, false)), .bin .gtr (.t 26) (.c (.int .i64 36))⟩,
   ⟨some 28, none, .pick (.t 25) (.c (.bool true)) (.t 27)⟩])
  (.cond (.t 28) (.region none [⟨some 29, none, .mkIface 9 (.c (.str [115, 116, 114, 99, 111, 110, 118, 58, 32, 105, 108, 108, 101, 103, 97, 108, 32, 65, 112, 112, 101, 110, 100, 73, 110, 116, 47, 70, 111, 114, 109, 97, 116, 73, 110, 116, 32, 98, 97, 115, 101]))⟩,
   ⟨none, none, .no⟩])
  (.skip)))
  (c166_20))
noncomputable def c166 : AFn := { np := 5, nt := 102, results := [.t 10, .t 11], keep := false, body := c166_b }
noncomputable def c169_b : ACode := .seq (.region none [⟨some 2, none, .boxRo (.t 0)⟩,
   ⟨some 3, none, .boxRo (.t 1)⟩,
   ⟨some 4, none, .move (.c (.bool false))⟩])
  (.seq (.region none [⟨some 5, none, .load (some 2) (.t 2)⟩,
   ⟨some 6, none, .call 147 [.t 5]⟩,
   ⟨some 7, none, .move (.t 6)⟩,
   ⟨some 8, (some (7, true)), .load (some 2) (.t 3)⟩,
   ⟨some 9, (some (7, true)), .call 147 [.t 8]⟩,
   ⟨some 10, none, .pick (.t 7) (.t 9) (.c (.bool false))⟩,
   ⟨some 4, none, .move (.t 10)⟩])
  (.ret))
noncomputable def c169 : AFn := { np := 2, nt := 11, results := [.t 4], keep := false, body := c169_b }
noncomputable def c170_1 : ACode := .region none [⟨some 83, none, .bin .add (.t 64) (.c (.int .i64 1))⟩,
   ⟨some 64, none, .move (.t 83)⟩]
noncomputable def c170_2 : ACode := .mask (.n (.n (.n (.n (.n (.n (.n .e true .e) false .e) false .e) false .e) false (.n .e true .e)) false (.n (.n .e true .e) false .e)) false (.n (.n (.n (.n (.n (.n .e true .e) false .e) false .e) true .e) false .e) false (.n (.n .e true .e) false .e))) (c170_1)
noncomputable def c170_3 : ACode := .seq (.block 1 (.seq (.region none [⟨some 66, none, .move (.t 64)⟩,
   ⟨some 12, none, .move (.t 66)⟩])
  (.seq (.region none [⟨some 67, none, .move (.t 11)⟩,
   ⟨some 68, none, .len false (.t 67)⟩,
   ⟨some 69, none, .bin .sub (.t 68) (.c (.int .i64 1))⟩,
   ⟨some 70, none, .move (.t 12)⟩,
   ⟨some 71, none, .bin .sub (.t 69) (.t 70)⟩,
   ⟨some 13, none, .move (.t 71)⟩])
  (.region none [⟨some 72, none, .move (.t 11)⟩,
   ⟨some 73, none, .move (.t 13)⟩,
   ⟨some 74, none, .move (.t 10)⟩,
   ⟨some 75, none, .move (.t 13)⟩,
   ⟨some 76, none, .move (.t 9)⟩,
   ⟨some 77, none, .move (.t 10)⟩,
   ⟨some 78, none, .move (.t 13)⟩,
   ⟨some 79, none, .move (.t 9)⟩,
   ⟨some 80, none, .call 195 [.t 77, .t 78, .t 79]⟩,
   ⟨some 81, none, .call 194 [.t 74, .t 75, .t 76, .t 80]⟩,
   ⟨some 82, none, .idxSl 1 (.t 72) (.t 73)⟩,
   ⟨none, none, .store 1 (.t 82) (.t 81)⟩]))))
  (c170_2)
noncomputable def c170_4 : ACode := .mask (.n (.n (.n (.n (.n (.n (.n .e true .e) false .e) false .e) false .e) false (.n .e true .e)) false (.n (.n .e true .e) false .e)) false (.n (.n (.n (.n (.n (.n .e true .e) false .e) false .e) true .e) false .e) false (.n (.n .e true .e) false .e))) (c170_3)
noncomputable def c170_5 : ACode := .seq (.region none [⟨some 65, none, .bin .lss (.t 64) (.t 63)⟩])
  (.seq (.cond (.t 65) (.skip)
  (.exit 0))
  (c170_4))
noncomputable def c170_6 : ACode := .seq (.region none [⟨some 85, none, .move (.t 10)⟩,
   ⟨some 86, none, .call 191 [.t 85]⟩,
   ⟨some 87, none, .move (.t 8)⟩,
   ⟨some 88, none, .call 196 [.t 86, .t 87]⟩,
   ⟨some 84, none, .move (.t 88)⟩,
   ⟨some 89, none, .extract (.t 84) 0⟩,
   ⟨some 90, none, .extract (.t 84) 1⟩,
   ⟨some 14, none, .move (.t 89)⟩,
   ⟨some 15, none, .move (.t 90)⟩])
  (.seq (.region none [⟨some 91, none, .move (.t 11)⟩,
   ⟨some 92, none, .call 191 [.t 91]⟩,
   ⟨some 93, none, .move (.t 14)⟩,
   ⟨some 4, none, .move (.t 92)⟩,
   ⟨some 5, none, .move (.t 93)⟩])
  (.ret))
noncomputable def c170_7 : ACode := .mask (.n (.n (.n .e false (.n .e true .e)) false .e) false (.n (.n (.n .e true .e) false .e) false (.n (.n .e true .e) false .e))) (c170_6)
noncomputable def c170_8 : ACode := .seq (.region none [⟨some 36, none, .move (.t 1)⟩,
   ⟨some 37, none, .move (.t 1)⟩,
   ⟨some 38, none, .len false (.t 37)⟩,
   ⟨some 39, none, .bin .sub (.t 38) (.c (.int .i64 1))⟩,
   ⟨some 40, none, .idxSl 1 (.t 36) (.t 39)⟩,
   ⟨some 41, none, .load none (.t 40)⟩,
   ⟨some 42, none, .call 192 [.t 41]⟩,
   ⟨some 8, none, .move (.t 42)⟩])
  (.seq (.region none [⟨some 43, none, .move (.t 1)⟩,
   ⟨some 44, none, .move (.t 8)⟩,
   ⟨some 45, none, .call 193 [.t 43, .t 44]⟩,
   ⟨some 9, none, .move (.t 45)⟩])
  (.seq (.region none [⟨some 46, none, .move (.t 0)⟩,
   ⟨some 47, none, .len false (.t 46)⟩,
   ⟨some 48, none, .bin .add (.t 47) (.c (.int .i64 1))⟩,
   ⟨some 49, none, .makeSlice [.int .u32 0] 4 (.t 48) (.t 48)⟩,
   ⟨some 10, none, .move (.t 49)⟩])
  (.seq (.region none [⟨some 50, none, .move (.t 10)⟩,
   ⟨some 51, none, .move (.t 0)⟩,
   ⟨some 52, none, .move (.t 8)⟩,
   ⟨some 53, none, .call 193 [.t 51, .t 52]⟩,
   ⟨some 54, none, .copy 1 (.t 50) (.t 53)⟩])
  (.seq (.region none [⟨some 55, none, .move (.t 0)⟩,
   ⟨some 56, none, .len false (.t 55)⟩,
   ⟨some 57, none, .move (.t 1)⟩,
   ⟨some 58, none, .len false (.t 57)⟩,
   ⟨some 59, none, .bin .sub (.t 56) (.t 58)⟩,
   ⟨some 60, none, .bin .add (.t 59) (.c (.int .i64 1))⟩,
   ⟨some 61, none, .makeSlice [.int .u32 0] 4 (.t 60) (.t 60)⟩,
   ⟨some 11, none, .move (.t 61)⟩])
  (.seq (.seq (.region none [⟨some 62, none, .move (.t 11)⟩,
   ⟨some 63, none, .len false (.t 62)⟩,
   ⟨some 64, none, .move (.c (.int .i64 0))⟩])
  (.block 0 (.loop (.n (.n (.n (.n (.n (.n (.n .e true .e) false .e) false .e) false .e) false (.n .e true .e)) false (.n (.n .e true .e) false .e)) false (.n (.n (.n (.n (.n (.n .e true .e) false .e) false .e) true .e) false .e) false (.n (.n .e true .e) false .e))) (c170_5))))
  (c170_7))))))
noncomputable def c170_9 : ACode := .mask (.n (.n .e true .e) true .e) (c170_8)
noncomputable def c170_10 : ACode := .seq (.seq (.region none [⟨some 21, none, .move (.t 1)⟩,
   ⟨some 22, none, .len false (.t 21)⟩,
   ⟨some 23, none, .bin .eql (.t 22) (.c (.int .i64 1))⟩])
  (.cond (.t 23) (.seq (.region none [⟨some 25, none, .move (.t 0)⟩,
   ⟨some 26, none, .move (.t 1)⟩,
   ⟨some 27, none, .idxSl 1 (.t 26) (.c (.int .i64 0))⟩,
   ⟨some 28, none, .load none (.t 27)⟩,
   ⟨some 29, none, .call 190 [.t 25, .t 28]⟩,
   ⟨some 24, none, .move (.t 29)⟩,
   ⟨some 30, none, .extract (.t 24) 0⟩,
   ⟨some 31, none, .extract (.t 24) 1⟩,
   ⟨some 6, none, .move (.t 30)⟩,
   ⟨some 7, none, .move (.t 31)⟩])
  (.seq (.region none [⟨some 32, none, .move (.t 6)⟩,
   ⟨some 33, none, .move (.t 7)⟩,
   ⟨some 34, none, .buildSlice 1 [.t 33]⟩,
   ⟨some 35, none, .call 191 [.t 34]⟩,
   ⟨some 4, none, .move (.t 32)⟩,
   ⟨some 5, none, .move (.t 35)⟩])
  (.ret)))
  (.skip)))
  (c170_9)
noncomputable def c170_11 : ACode := .mask (.n (.n .e true .e) true .e) (c170_10)
noncomputable def c170_b : ACode := .seq (.region none [⟨some 4, none, .move (.c (.sl 1 [] .nil))⟩,
   ⟨some 5, none, .move (.c (.sl 1 [] .nil))⟩])
  (.seq (.seq (.region none [⟨some 16, none, .move (.t 0)⟩,
   ⟨some 17, none, .move (.t 1)⟩,
   ⟨some 18, none, .call 189 [.t 16, .t 17]⟩,
   ⟨some 19, none, .bin .lss (.t 18) (.c (.int .i64 0))⟩])
  (.cond (.t 19) (.seq (.region none [⟨some 20, none, .move (.t 0)⟩,
   ⟨some 4, none, .move (.c (.sl 1 [] .nil))⟩,
   ⟨some 5, none, .move (.t 20)⟩])
  (.ret))
  (.skip)))
  (c170_11))
noncomputable def c170 : AFn := { np := 2, nt := 94, results := [.t 4, .t 5], keep := false, body := c170_b }
noncomputable def c171_1 : ACode := .seq (.region none [⟨some 13, none, .move (.t 1)⟩,
   ⟨some 14, none, .len false (.t 13)⟩,
   ⟨some 15, none, .makeSlice [.int .u32 0] 4 (.t 14) (.t 14)⟩,
   ⟨some 6, none, .move (.t 15)⟩])
  (.seq (.region none [⟨some 16, none, .move (.t 6)⟩,
   ⟨some 17, none, .move (.t 1)⟩,
   ⟨some 18, none, .copy 1 (.t 16) (.t 17)⟩])
  (.seq (.region none [⟨some 19, none, .move (.t 0)⟩,
   ⟨some 20, none, .move (.t 19)⟩,
   ⟨some 21, (some (20, true)), .move (.t 1)⟩,
   ⟨some 22, (some (20, true)), .len false (.t 21)⟩,
   ⟨some 23, (some (20, true)), .bin .gtr (.t 22) (.c (.int .i64 0))⟩,
   ⟨some 24, none, .pick (.t 20) (.t 23) (.c (.bool false))⟩,
   ⟨some 25, none, .move (.t 6)⟩,
   ⟨some 26, none, .build [.bool false, .sl 1 [] .nil] [(0, 1, .t 24), (1, 1, .t 25)]⟩,
   ⟨none, none, .store 2 (.t 4) (.t 26)⟩,
   ⟨some 5, none, .move (.c (.int .i64 0))⟩])
  (.ret)))
noncomputable def c171_2 : ACode := .mask (.n (.n .e true .e) true (.n (.n .e true .e) false .e)) (c171_1)
noncomputable def c171_b : ACode := .seq (.region none [⟨some 4, none, .alloc [.bool false, .sl 1 [] .nil]⟩,
   ⟨some 5, none, .move (.c (.int .i64 0))⟩])
  (.seq (.region none [⟨some 7, none, .move (.t 1)⟩,
   ⟨some 8, none, .call 191 [.t 7]⟩,
   ⟨some 1, none, .move (.t 8)⟩])
  (.seq (.seq (.region none [⟨some 9, none, .move (.t 1)⟩,
   ⟨some 10, none, .len false (.t 9)⟩,
   ⟨some 11, none, .bin .gtr (.t 10) (.c (.int .i64 128))⟩])
  (.cond (.t 11) (.seq (.region none [⟨some 12, none, .build [.bool false, .sl 1 [] .nil] []⟩,
   ⟨none, none, .store 2 (.t 4) (.t 12)⟩,
   ⟨some 5, none, .move (.c (.int .i64 2))⟩])
  (.ret))
  (.skip)))
  (c171_2)))
noncomputable def c171 : AFn := { np := 2, nt := 27, results := [.cell 4 (some 2), .t 5], keep := false, body := c171_b }
noncomputable def c172_1 : ACode := .region none [⟨some 20, none, .bin .add (.t 7) (.c (.int .i64 1))⟩,
   ⟨some 7, none, .move (.t 20)⟩]
noncomputable def c172_2 : ACode := .mask (.n (.n (.n (.n .e true .e) true .e) false .e) true (.n .e false (.n .e true .e))) (c172_1)
noncomputable def c172_3 : ACode := .seq (.block 1 (.seq (.region none [⟨some 9, none, .move (.t 7)⟩,
   ⟨some 4, none, .move (.t 9)⟩])
  (.region none [⟨some 10, none, .move (.t 3)⟩,
   ⟨some 11, none, .move (.t 0)⟩,
   ⟨some 12, none, .move (.t 4)⟩,
   ⟨some 13, none, .idxSl 1 (.t 11) (.t 12)⟩,
   ⟨some 14, none, .load none (.t 13)⟩,
   ⟨some 15, none, .convInt .u64 (.t 14)⟩,
   ⟨some 16, none, .move (.t 4)⟩,
   ⟨some 17, none, .bin .mul (.c (.int .i64 32)) (.t 16)⟩,
   ⟨some 18, none, .bin .shl (.t 15) (.t 17)⟩,
   ⟨some 19, none, .bin .or (.t 10) (.t 18)⟩,
   ⟨some 3, none, .move (.t 19)⟩])))
  (c172_2)
noncomputable def c172_4 : ACode := .mask (.n (.n (.n (.n .e true .e) true .e) false .e) true (.n .e false (.n .e true .e))) (c172_3)
noncomputable def c172_5 : ACode := .seq (.region none [⟨some 8, none, .bin .lss (.t 7) (.t 6)⟩])
  (.seq (.cond (.t 8) (.skip)
  (.exit 0))
  (c172_4))
noncomputable def c172_6 : ACode := .seq (.region none [⟨some 21, none, .move (.t 3)⟩,
   ⟨some 2, none, .move (.t 21)⟩])
  (.ret)
noncomputable def c172_7 : ACode := .mask (.n (.n (.n .e true .e) false .e) false .e) (c172_6)
noncomputable def c172_b : ACode := .seq (.region none [⟨some 2, none, .move (.c (.int .u64 0))⟩])
  (.seq (.region none [⟨some 3, none, .move (.c (.int .u64 0))⟩])
  (.seq (.seq (.region none [⟨some 5, none, .move (.t 0)⟩,
   ⟨some 6, none, .len false (.t 5)⟩,
   ⟨some 7, none, .move (.c (.int .i64 0))⟩])
  (.block 0 (.loop (.n (.n (.n (.n .e true .e) true .e) false .e) true (.n .e false (.n .e true .e))) (c172_5))))
  (c172_7)))
noncomputable def c172 : AFn := { np := 1, nt := 22, results := [.t 2], keep := false, body := c172_b }
noncomputable def c173_1 : ACode := .seq (.region none [⟨some 72, none, .move (.t 11)⟩,
   ⟨some 6, none, .move (.t 72)⟩,
   ⟨some 7, none, .move (.c .nili)⟩])
  (.ret)
noncomputable def c173_2 : ACode := .mask (.n (.n (.n .e false (.n .e true .e)) false .e) false .e) (c173_1)
noncomputable def c173_3 : ACode := .seq (.region none [⟨some 67, none, .move (.t 9)⟩,
   ⟨some 68, none, .convInt .i64 (.t 67)⟩,
   ⟨some 11, none, .move (.t 68)⟩])
  (.seq (.seq (.region none [⟨some 69, none, .move (.t 8)⟩])
  (.cond (.t 69) (.region none [⟨some 70, none, .move (.t 11)⟩,
   ⟨some 71, none, .un .neg (.t 70)⟩,
   ⟨some 11, none, .move (.t 71)⟩])
  (.skip)))
  (c173_2))
noncomputable def c173_4 : ACode := .mask (.n (.n .e false (.n (.n .e true .e) false .e)) false (.n (.n (.n .e true .e) false .e) false .e)) (c173_3)
noncomputable def c173_5 : ACode := .seq (.seq (.region none [⟨some 57, none, .move (.t 8)⟩,
   ⟨some 58, none, .move (.t 57)⟩,
   ⟨some 59, (some (58, true)), .move (.t 9)⟩,
   ⟨some 60, (some (58, true)), .move (.t 10)⟩,
   ⟨some 61, (some (58, true)), .bin .gtr (.t 59) (.t 60)⟩,
   ⟨some 62, none, .pick (.t 58) (.t 61) (.c (.bool false))⟩])
  (.cond (.t 62) (.seq (.region none [⟨some 63, none, .move (.t 10)⟩,
   ⟨some 64, none, .convInt .i64 (.t 63)⟩,
   ⟨some 65, none, .un .neg (.t 64)⟩,
   ⟨some 66, none, .mkIface 188 (.c (.int .i64 1))⟩,
   ⟨some 6, none, .move (.t 65)⟩,
   ⟨some 7, none, .move (.t 66)⟩])
  (.ret))
  (.skip)))
  (c173_4)
noncomputable def c173_6 : ACode := .mask (.n (.n .e false (.n (.n .e true .e) false .e)) false (.n (.n (.n .e true .e) false .e) false (.n (.n .e true .e) false .e))) (c173_5)
noncomputable def c173_7 : ACode := .seq (.region none [⟨some 42, none, .move (.t 2)⟩,
   ⟨some 43, none, .bin .sub (.t 42) (.c (.int .i64 1))⟩,
   ⟨some 44, none, .convInt .u64 (.t 43)⟩,
   ⟨some 45, none, .bin .shl (.c (.int .u64 1)) (.t 44)⟩,
   ⟨some 10, none, .move (.t 45)⟩])
  (.seq (.seq (.region none [⟨some 46, none, .move (.t 8)⟩,
   ⟨some 47, none, .un .not (.t 46)⟩,
   ⟨some 48, none, .move (.t 47)⟩,
   ⟨some 49, (some (48, true)), .move (.t 9)⟩,
   ⟨some 50, (some (48, true)), .move (.t 10)⟩,
   ⟨some 51, (some (48, true)), .bin .geq (.t 49) (.t 50)⟩,
   ⟨some 52, none, .pick (.t 48) (.t 51) (.c (.bool false))⟩])
  (.cond (.t 52) (.seq (.region none [⟨some 53, none, .move (.t 10)⟩,
   ⟨some 54, none, .bin .sub (.t 53) (.c (.int .u64 1))⟩,
   ⟨some 55, none, .convInt .i64 (.t 54)⟩,
   ⟨some 56, none, .mkIface 188 (.c (.int .i64 1))⟩,
   ⟨some 6, none, .move (.t 55)⟩,
   ⟨some 7, none, .move (.t 56)⟩])
  (.ret))
  (.skip)))
  (c173_6))
noncomputable def c173_8 : ACode := .mask (.n (.n .e false (.n (.n .e true .e) false .e)) false (.n (.n (.n .e true .e) false .e) true .e)) (c173_7)
noncomputable def c173_9 : ACode := .seq (.seq (.region none [⟨some 40, none, .move (.t 2)⟩,
   ⟨some 41, none, .bin .eql (.t 40) (.c (.int .i64 0))⟩])
  (.cond (.t 41) (.region none [⟨some 2, none, .move (.c (.int .i64 64))⟩])
  (.skip)))
  (c173_8)
noncomputable def c173_10 : ACode := .mask (.n (.n .e false (.n (.n .e true .e) false .e)) false (.n (.n (.n .e true .e) false .e) true .e)) (c173_9)
noncomputable def c173_11 : ACode := .seq (.region none [⟨some 9, none, .move (.c (.int .u64 0))⟩])
  (.seq (.region none [⟨some 26, none, .move (.t 0)⟩,
   ⟨some 27, none, .move (.t 1)⟩,
   ⟨some 28, none, .move (.t 2)⟩,
   ⟨some 29, none, .call 197 [.t 26, .t 27, .t 28]⟩,
   ⟨some 25, none, .move (.t 29)⟩,
   ⟨some 30, none, .extract (.t 25) 0⟩,
   ⟨some 31, none, .extract (.t 25) 1⟩,
   ⟨some 9, none, .move (.t 30)⟩,
   ⟨some 7, none, .move (.t 31)⟩])
  (.seq (.seq (.region none [⟨some 32, none, .move (.t 7)⟩,
   ⟨some 33, none, .nilI true (.t 32)⟩,
   ⟨some 34, none, .move (.t 33)⟩,
   ⟨some 35, (some (34, true)), .move (.t 7)⟩,
   ⟨some 36, (some (34, true)), .mkIface 188 (.c (.int .i64 1))⟩,
   ⟨some 37, (some (34, true)), .eq true .iface (.t 35) (.t 36)⟩,
   ⟨some 38, none, .pick (.t 34) (.t 37) (.c (.bool false))⟩])
  (.cond (.t 38) (.seq (.region none [⟨some 39, none, .move (.t 7)⟩,
   ⟨some 6, none, .move (.c (.int .i64 0))⟩,
   ⟨some 7, none, .move (.t 39)⟩])
  (.ret))
  (.skip)))
  (c173_10)))
noncomputable def c173_12 : ACode := .mask (.n (.n .e true .e) true (.n (.n (.n .e true .e) false .e) true .e)) (c173_11)
noncomputable def c173_13 : ACode := .seq (.region none [⟨some 8, none, .move (.c (.bool false))⟩])
  (.seq (.seq (.region none [⟨some 15, none, .move (.t 0)⟩,
   ⟨some 16, none, .idxStr (.t 15) (.c (.int .i64 0))⟩])
  (.block 0 (.seq (.region none [⟨some 18, none, .bin .eql (.t 16) (.c (.int .u8 43))⟩,
   ⟨some 17, none, .move (.t 18)⟩])
  (.cond (.t 17) (.region none [⟨some 19, none, .move (.t 0)⟩,
   ⟨some 20, none, .subStr (.t 19) (some (.c (.int .i64 1))) none⟩,
   ⟨some 0, none, .move (.t 20)⟩])
  (.seq (.region none [⟨some 22, none, .bin .eql (.t 16) (.c (.int .u8 45))⟩,
   ⟨some 21, none, .move (.t 22)⟩])
  (.cond (.t 21) (.seq (.region none [⟨some 23, none, .move (.t 0)⟩,
   ⟨some 24, none, .subStr (.t 23) (some (.c (.int .i64 1))) none⟩,
   ⟨some 0, none, .move (.t 24)⟩])
  (.region none [⟨some 8, none, .move (.c (.bool true))⟩]))
  (.skip)))))))
  (c173_12))
noncomputable def c173_14 : ACode := .mask (.n (.n .e true .e) true (.n .e true .e)) (c173_13)
noncomputable def c173_b : ACode := .seq (.region none [⟨some 6, none, .move (.c (.int .i64 0))⟩,
   ⟨some 7, none, .move (.c .nili)⟩])
  (.seq (.seq (.region none [⟨some 12, none, .move (.t 0)⟩,
   ⟨some 13, none, .bin .eql (.t 12) (.c (.str []))⟩])
  (.cond (.t 13) (.seq (.region none [⟨some 14, none, .mkIface 188 (.c (.int .i64 2))⟩,
   ⟨some 6, none, .move (.c (.int .i64 0))⟩,
   ⟨some 7, none, .move (.t 14)⟩])
  (.ret))
  (.skip)))
  (c173_14))
noncomputable def c173 : AFn := { np := 3, nt := 73, results := [.t 6, .t 7], keep := false, body := c173_b }
noncomputable def c174_b : ACode := .seq (.region none [⟨some 4, none, .move (.c .nilp)⟩])
  (.seq (.region (some []) [⟨some 5, none, .move (.t 0)⟩,
   ⟨some 6, none, .move (.t 1)⟩,
   ⟨some 7, none, .callP 198 [.t 6]⟩,
   ⟨some 8, none, .load none (.g 1)⟩,
   ⟨some 9, none, .build [.str [], .str [], .nili] [(0, 1, .t 5), (1, 1, .t 7), (2, 1, .t 8)]⟩,
   ⟨some 10, none, .boxMut (.t 9)⟩,
   ⟨some 4, none, .move (.t 10)⟩])
  (.ret))
noncomputable def c174 : AFn := { np := 2, nt := 11, results := [.t 4], keep := false, body := c174_b }
noncomputable def c175_b : ACode := .seq (.region none [⟨some 4, none, .move (.c .nilp)⟩])
  (.seq (.region (some []) [⟨some 5, none, .move (.t 0)⟩,
   ⟨some 6, none, .move (.t 1)⟩,
   ⟨some 7, none, .callP 198 [.t 6]⟩,
   ⟨some 8, none, .load none (.g 2)⟩,
   ⟨some 9, none, .build [.str [], .str [], .nili] [(0, 1, .t 5), (1, 1, .t 7), (2, 1, .t 8)]⟩,
   ⟨some 10, none, .boxMut (.t 9)⟩,
   ⟨some 4, none, .move (.t 10)⟩])
  (.ret))
noncomputable def c175 : AFn := { np := 2, nt := 11, results := [.t 4], keep := false, body := c175_b }
noncomputable def c176_b : ACode := .seq (.region none [⟨some 6, none, .move (.c .nilp)⟩])
  (.seq (.region none [⟨some 7, none, .move (.t 0)⟩,
   ⟨some 8, none, .move (.t 1)⟩,
   ⟨some 9, none, .call 198 [.t 8]⟩,
   ⟨some 10, none, .move (.t 2)⟩,
   ⟨some 11, none, .call 75 [.t 10]⟩,
   ⟨some 12, none, .bin .add (.c (.str [105, 110, 118, 97, 108, 105, 100, 32, 98, 97, 115, 101, 32])) (.t 11)⟩,
   ⟨some 13, none, .call 199 [.t 12]⟩,
   ⟨some 14, none, .build [.str [], .str [], .nili] [(0, 1, .t 7), (1, 1, .t 9), (2, 1, .t 13)]⟩,
   ⟨some 15, none, .boxMut (.t 14)⟩,
   ⟨some 6, none, .move (.t 15)⟩])
  (.ret))
noncomputable def c176 : AFn := { np := 3, nt := 16, results := [.t 6], keep := false, body := c176_b }
noncomputable def c177_b : ACode := .seq (.region none [⟨some 6, none, .move (.c .nilp)⟩])
  (.seq (.region none [⟨some 7, none, .move (.t 0)⟩,
   ⟨some 8, none, .move (.t 1)⟩,
   ⟨some 9, none, .call 198 [.t 8]⟩,
   ⟨some 10, none, .move (.t 2)⟩,
   ⟨some 11, none, .call 75 [.t 10]⟩,
   ⟨some 12, none, .bin .add (.c (.str [105, 110, 118, 97, 108, 105, 100, 32, 98, 105, 116, 32, 115, 105, 122, 101, 32])) (.t 11)⟩,
   ⟨some 13, none, .call 199 [.t 12]⟩,
   ⟨some 14, none, .build [.str [], .str [], .nili] [(0, 1, .t 7), (1, 1, .t 9), (2, 1, .t 13)]⟩,
   ⟨some 15, none, .boxMut (.t 14)⟩,
   ⟨some 6, none, .move (.t 15)⟩])
  (.ret))
noncomputable def c177 : AFn := { np := 3, nt := 16, results := [.t 6], keep := false, body := c177_b }
noncomputable def c180_b : ACode := .seq (.region none [⟨some 2, none, .move (.c (.int .i64 0))⟩])
  (.seq (.region none [⟨some 3, none, .move (.t 0)⟩,
   ⟨some 4, none, .bin .mul (.t 3) (.c (.int .i64 78913))⟩,
   ⟨some 5, none, .bin .shr (.t 4) (.c (.int .u64 18))⟩,
   ⟨some 2, none, .move (.t 5)⟩])
  (.ret))
noncomputable def c180 : AFn := { np := 1, nt := 6, results := [.t 2], keep := false, body := c180_b }
noncomputable def c181_1 : ACode := .seq (.region none [⟨some 19, none, .move (.t 2)⟩,
   ⟨some 20, none, .move (.t 0)⟩,
   ⟨some 21, none, .convInt .u8 (.t 20)⟩,
   ⟨some 22, none, .idxStr (.c (.str [0, 1, 2, 2, 3, 3, 3, 3, 4, 4, 4, 4, 4, 4, 4, 4, 5, 5, 5, 5, 5, 5, 5, 5, 5, 5, 5, 5, 5, 5, 5, 5, 6, 6, 6, 6, 6, 6, 6, 6, 6, 6, 6, 6, 6, 6, 6, 6, 6, 6, 6, 6, 6, 6, 6, 6, 6, 6, 6, 6, 6, 6, 6, 6, 7, 7, 7, 7, 7, 7, 7, 7, 7, 7, 7, 7, 7, 7, 7, 7, 7, 7, 7, 7, 7, 7, 7, 7, 7, 7, 7, 7, 7, 7, 7, 7, 7, 7, 7, 7, 7, 7, 7, 7, 7, 7, 7, 7, 7, 7, 7, 7, 7, 7, 7, 7, 7, 7, 7, 7, 7, 7, 7, 7, 7, 7, 7, 7, 8, 8, 8, 8, 8, 8, 8, 8, 8, 8, 8, 8, 8, 8, 8, 8, 8, 8, 8, 8, 8, 8, 8, 8, 8, 8, 8, 8, 8, 8, 8, 8, 8, 8, 8, 8, 8, 8, 8, 8, 8, 8, 8, 8, 8, 8, 8, 8, 8, 8, 8, 8, 8, 8, 8, 8, 8, 8, 8, 8, 8, 8, 8, 8, 8, 8, 8, 8, 8, 8, 8, 8, 8, 8, 8, 8, 8, 8, 8, 8, 8, 8, 8, 8, 8, 8, 8, 8, 8, 8, 8, 8, 8, 8, 8, 8, 8, 8, 8, 8, 8, 8, 8, 8, 8, 8, 8, 8, 8, 8, 8, 8, 8, 8, 8, 8, 8, 8, 8, 8, 8, 8, 8, 8, 8, 8, 8, 8])) (.t 21)⟩,
   ⟨some 23, none, .convInt .i64 (.t 22)⟩,
   ⟨some 24, none, .bin .add (.t 19) (.t 23)⟩,
   ⟨some 2, none, .move (.t 24)⟩])
  (.ret)
noncomputable def c181_2 : ACode := .mask (.n .e true (.n .e true .e)) (c181_1)
noncomputable def c181_3 : ACode := .seq (.seq (.region none [⟨some 13, none, .move (.t 0)⟩,
   ⟨some 14, none, .bin .geq (.t 13) (.c (.int .u64 256))⟩])
  (.cond (.t 14) (.seq (.region none [⟨some 15, none, .move (.t 0)⟩,
   ⟨some 16, none, .bin .shr (.t 15) (.c (.int .u64 8))⟩,
   ⟨some 0, none, .move (.t 16)⟩])
  (.region none [⟨some 17, none, .move (.t 2)⟩,
   ⟨some 18, none, .bin .add (.t 17) (.c (.int .i64 8))⟩,
   ⟨some 2, none, .move (.t 18)⟩]))
  (.skip)))
  (c181_2)
noncomputable def c181_4 : ACode := .mask (.n .e true (.n .e true .e)) (c181_3)
noncomputable def c181_5 : ACode := .seq (.seq (.region none [⟨some 7, none, .move (.t 0)⟩,
   ⟨some 8, none, .bin .geq (.t 7) (.c (.int .u64 65536))⟩])
  (.cond (.t 8) (.seq (.region none [⟨some 9, none, .move (.t 0)⟩,
   ⟨some 10, none, .bin .shr (.t 9) (.c (.int .u64 16))⟩,
   ⟨some 0, none, .move (.t 10)⟩])
  (.region none [⟨some 11, none, .move (.t 2)⟩,
   ⟨some 12, none, .bin .add (.t 11) (.c (.int .i64 16))⟩,
   ⟨some 2, none, .move (.t 12)⟩]))
  (.skip)))
  (c181_4)
noncomputable def c181_6 : ACode := .mask (.n .e true (.n .e true .e)) (c181_5)
noncomputable def c181_b : ACode := .seq (.region none [⟨some 2, none, .move (.c (.int .i64 0))⟩])
  (.seq (.seq (.region none [⟨some 3, none, .move (.t 0)⟩,
   ⟨some 4, none, .bin .geq (.t 3) (.c (.int .u64 4294967296))⟩])
  (.cond (.t 4) (.seq (.region none [⟨some 5, none, .move (.t 0)⟩,
   ⟨some 6, none, .bin .shr (.t 5) (.c (.int .u64 32))⟩,
   ⟨some 0, none, .move (.t 6)⟩])
  (.region none [⟨some 2, none, .move (.c (.int .i64 32))⟩]))
  (.skip)))
  (c181_6))
noncomputable def c181 : AFn := { np := 1, nt := 25, results := [.t 2], keep := false, body := c181_b }
noncomputable def c182_1 : ACode := .seq (.region none [⟨some 2, none, .move (.c (.int .i64 0))⟩])
  (.ret)
noncomputable def c182_2 : ACode := .mask .e (c182_1)
noncomputable def c182_b : ACode := .seq (.region none [⟨some 2, none, .move (.c (.int .i64 0))⟩])
  (.seq (.seq (.region none [⟨some 3, none, .move (.t 0)⟩])
  (.cond (.t 3) (.seq (.region none [⟨some 2, none, .move (.c (.int .i64 1))⟩])
  (.ret))
  (.skip)))
  (c182_2))
noncomputable def c182 : AFn := { np := 1, nt := 4, results := [.t 2], keep := false, body := c182_b }
noncomputable def c183_b : ACode := .seq (.region none [⟨some 2, none, .move (.c (.bool false))⟩])
  (.seq (.region none [⟨some 3, none, .move (.t 0)⟩,
   ⟨some 4, none, .move (.t 0)⟩,
   ⟨some 5, none, .bin .sub (.t 4) (.c (.int .i64 1))⟩,
   ⟨some 6, none, .bin .and (.t 3) (.t 5)⟩,
   ⟨some 7, none, .bin .eql (.t 6) (.c (.int .i64 0))⟩,
   ⟨some 2, none, .move (.t 7)⟩])
  (.ret))
noncomputable def c183 : AFn := { np := 1, nt := 8, results := [.t 2], keep := false, body := c183_b }
noncomputable def c184_1 : ACode := .seq (.region none [⟨some 6, none, .move (.t 0)⟩,
   ⟨some 7, none, .call 201 [.t 6]⟩,
   ⟨some 2, none, .move (.t 7)⟩])
  (.ret)
noncomputable def c184_2 : ACode := .mask (.n .e true .e) (c184_1)
noncomputable def c184_b : ACode := .seq (.region none [⟨some 2, none, .move (.c (.int .i64 0))⟩])
  (.seq (.cond (.c (.bool false)) (.seq (.region none [⟨some 3, none, .move (.t 0)⟩,
   ⟨some 4, none, .convInt .u32 (.t 3)⟩,
   ⟨some 5, none, .call 200 [.t 4]⟩,
   ⟨some 2, none, .move (.t 5)⟩])
  (.ret))
  (.skip))
  (c184_2))
noncomputable def c184 : AFn := { np := 1, nt := 8, results := [.t 2], keep := false, body := c184_b }
noncomputable def c189_1 : ACode := .seq (.region none [⟨some 4, none, .move (.c (.int .i64 1))⟩])
  (.ret)
noncomputable def c189_2 : ACode := .mask .e (c189_1)
noncomputable def c189_3 : ACode := .seq (.region none [⟨some 4, none, .move (.c (.int .i64 1))⟩])
  (.ret)
noncomputable def c189_4 : ACode := .mask .e (c189_3)
noncomputable def c189_5 : ACode := .region none [⟨some 45, none, .bin .add (.t 19) (.c (.int .i64 1))⟩,
   ⟨some 19, none, .move (.t 45)⟩]
noncomputable def c189_6 : ACode := .mask (.n (.n (.n .e false (.n (.n .e true .e) false .e)) true .e) true (.n .e false (.n (.n (.n .e true .e) false .e) false .e))) (c189_5)
noncomputable def c189_7 : ACode := .seq (.block 1 (.seq (.region none [⟨some 21, none, .move (.t 19)⟩,
   ⟨some 5, none, .move (.t 21)⟩])
  (.seq (.region none [⟨some 22, none, .move (.t 0)⟩,
   ⟨some 23, none, .len false (.t 22)⟩,
   ⟨some 24, none, .bin .sub (.t 23) (.c (.int .i64 1))⟩,
   ⟨some 25, none, .move (.t 5)⟩,
   ⟨some 26, none, .bin .sub (.t 24) (.t 25)⟩,
   ⟨some 6, none, .move (.t 26)⟩])
  (.seq (.region (some []) [⟨some 27, none, .move (.t 0)⟩,
   ⟨some 28, none, .move (.t 6)⟩,
   ⟨some 29, none, .idxSl 1 (.t 27) (.t 28)⟩,
   ⟨some 30, none, .load none (.t 29)⟩,
   ⟨some 31, none, .move (.t 1)⟩,
   ⟨some 32, none, .move (.t 6)⟩,
   ⟨some 33, none, .idxSl 1 (.t 31) (.t 32)⟩,
   ⟨some 34, none, .load none (.t 33)⟩,
   ⟨some 35, none, .bin .neq (.t 30) (.t 34)⟩])
  (.cond (.t 35) (.seq (.seq (.region (some []) [⟨some 36, none, .move (.t 0)⟩,
   ⟨some 37, none, .move (.t 6)⟩,
   ⟨some 38, none, .idxSl 1 (.t 36) (.t 37)⟩,
   ⟨some 39, none, .load none (.t 38)⟩,
   ⟨some 40, none, .move (.t 1)⟩,
   ⟨some 41, none, .move (.t 6)⟩,
   ⟨some 42, none, .idxSl 1 (.t 40) (.t 41)⟩,
   ⟨some 43, none, .load none (.t 42)⟩,
   ⟨some 44, none, .bin .lss (.t 39) (.t 43)⟩])
  (.cond (.t 44) (.seq (.region none [⟨some 4, none, .move (.c (.int .i64 (-1)))⟩])
  (.ret))
  (.skip)))
  (c189_4))
  (.skip))))))
  (c189_6)
noncomputable def c189_8 : ACode := .mask (.n (.n (.n .e false (.n (.n .e true .e) false .e)) true .e) true (.n .e false (.n (.n (.n .e true .e) false .e) false .e))) (c189_7)
noncomputable def c189_9 : ACode := .seq (.region none [⟨some 20, none, .bin .lss (.t 19) (.t 18)⟩])
  (.seq (.cond (.t 20) (.skip)
  (.exit 0))
  (c189_8))
noncomputable def c189_10 : ACode := .seq (.region none [⟨some 4, none, .move (.c (.int .i64 0))⟩])
  (.ret)
noncomputable def c189_11 : ACode := .mask .e (c189_10)
noncomputable def c189_12 : ACode := .seq (.seq (.region none [⟨some 17, none, .move (.t 0)⟩,
   ⟨some 18, none, .len false (.t 17)⟩,
   ⟨some 19, none, .move (.c (.int .i64 0))⟩])
  (.block 0 (.loop (.n (.n (.n .e false (.n (.n .e true .e) false .e)) true .e) true (.n .e false (.n (.n (.n .e true .e) false .e) false .e))) (c189_9))))
  (c189_11)
noncomputable def c189_13 : ACode := .mask (.n (.n .e true .e) true .e) (c189_12)
noncomputable def c189_b : ACode := .seq (.region none [⟨some 4, none, .move (.c (.int .i64 0))⟩])
  (.seq (.seq (.region none [⟨some 7, none, .move (.t 0)⟩,
   ⟨some 8, none, .len false (.t 7)⟩,
   ⟨some 9, none, .move (.t 1)⟩,
   ⟨some 10, none, .len false (.t 9)⟩,
   ⟨some 11, none, .bin .neq (.t 8) (.t 10)⟩])
  (.cond (.t 11) (.seq (.seq (.region none [⟨some 12, none, .move (.t 0)⟩,
   ⟨some 13, none, .len false (.t 12)⟩,
   ⟨some 14, none, .move (.t 1)⟩,
   ⟨some 15, none, .len false (.t 14)⟩,
   ⟨some 16, none, .bin .lss (.t 13) (.t 15)⟩])
  (.cond (.t 16) (.seq (.region none [⟨some 4, none, .move (.c (.int .i64 (-1)))⟩])
  (.ret))
  (.skip)))
  (c189_2))
  (.skip)))
  (c189_13))
noncomputable def c189 : AFn := { np := 2, nt := 46, results := [.t 4], keep := false, body := c189_b }
noncomputable def c190_1 : ACode := .region none [⟨some 44, none, .bin .add (.t 16) (.c (.int .i64 1))⟩,
   ⟨some 16, none, .move (.t 44)⟩]
noncomputable def c190_2 : ACode := .mask (.n (.n (.n (.n (.n .e true .e) true .e) false .e) true .e) true (.n (.n (.n (.n .e true .e) false .e) false .e) false (.n .e true .e))) (c190_1)
noncomputable def c190_3 : ACode := .seq (.block 1 (.seq (.region none [⟨some 18, none, .move (.t 16)⟩,
   ⟨some 8, none, .move (.t 18)⟩])
  (.seq (.region none [⟨some 19, none, .move (.t 0)⟩,
   ⟨some 20, none, .len false (.t 19)⟩,
   ⟨some 21, none, .bin .sub (.t 20) (.c (.int .i64 1))⟩,
   ⟨some 22, none, .move (.t 8)⟩,
   ⟨some 23, none, .bin .sub (.t 21) (.t 22)⟩,
   ⟨some 9, none, .move (.t 23)⟩])
  (.seq (.region none [⟨some 24, none, .move (.t 7)⟩,
   ⟨some 25, none, .bin .shl (.t 24) (.c (.int .u64 32))⟩,
   ⟨some 26, none, .move (.t 0)⟩,
   ⟨some 27, none, .move (.t 9)⟩,
   ⟨some 28, none, .idxSl 1 (.t 26) (.t 27)⟩,
   ⟨some 29, none, .load none (.t 28)⟩,
   ⟨some 30, none, .convInt .u64 (.t 29)⟩,
   ⟨some 31, none, .bin .or (.t 25) (.t 30)⟩,
   ⟨some 10, none, .move (.t 31)⟩])
  (.seq (.region none [⟨some 32, none, .move (.t 6)⟩,
   ⟨some 33, none, .move (.t 9)⟩,
   ⟨some 34, none, .move (.t 10)⟩,
   ⟨some 35, none, .move (.t 1)⟩,
   ⟨some 36, none, .convInt .u64 (.t 35)⟩,
   ⟨some 37, none, .bin .quo (.t 34) (.t 36)⟩,
   ⟨some 38, none, .convInt .u32 (.t 37)⟩,
   ⟨some 39, none, .idxSl 1 (.t 32) (.t 33)⟩,
   ⟨none, none, .store 1 (.t 39) (.t 38)⟩])
  (.region none [⟨some 40, none, .move (.t 10)⟩,
   ⟨some 41, none, .move (.t 1)⟩,
   ⟨some 42, none, .convInt .u64 (.t 41)⟩,
   ⟨some 43, none, .bin .rem (.t 40) (.t 42)⟩,
   ⟨some 7, none, .move (.t 43)⟩]))))))
  (c190_2)
noncomputable def c190_4 : ACode := .mask (.n (.n (.n (.n (.n .e true .e) true .e) false .e) true .e) true (.n (.n (.n (.n .e true .e) false .e) false .e) false (.n .e true .e))) (c190_3)
noncomputable def c190_5 : ACode := .seq (.region none [⟨some 17, none, .bin .lss (.t 16) (.t 15)⟩])
  (.seq (.cond (.t 17) (.skip)
  (.exit 0))
  (c190_4))
noncomputable def c190_6 : ACode := .seq (.region none [⟨some 45, none, .move (.t 6)⟩,
   ⟨some 46, none, .call 191 [.t 45]⟩,
   ⟨some 47, none, .move (.t 7)⟩,
   ⟨some 48, none, .convInt .u32 (.t 47)⟩,
   ⟨some 4, none, .move (.t 46)⟩,
   ⟨some 5, none, .move (.t 48)⟩])
  (.ret)
noncomputable def c190_7 : ACode := .mask (.n (.n (.n (.n .e true .e) false .e) false .e) false (.n .e false (.n .e true .e))) (c190_6)

end Go.AbX
