/- The abstract functions. -/
import Derived.Test.YtnafklimohmfkaaDoorTabYp0
namespace Go.AbY
open Go.Ab
set_option maxRecDepth 100000
noncomputable def c88_5 : ACode := .seq (.block 1 (.seq (.region none [⟨some 47, none, .move (.t 45)⟩,
   ⟨some 9, none, .move (.t 47)⟩])
  (.seq (.region none [⟨some 48, none, .move (.t 0)⟩,
   ⟨some 49, none, .move (.t 9)⟩,
   ⟨some 50, none, .move (.t 6)⟩,
   ⟨some 51, none, .bin .add (.t 49) (.t 50)⟩,
   ⟨some 52, none, .idxSl 1 (.t 48) (.t 51)⟩,
   ⟨some 53, none, .load none (.t 52)⟩,
   ⟨some 54, none, .convInt .u64 (.t 53)⟩,
   ⟨some 10, none, .move (.t 54)⟩])
  (.seq (.seq (.region none [⟨some 55, none, .move (.t 9)⟩,
   ⟨some 56, none, .move (.t 6)⟩,
   ⟨some 57, none, .bin .add (.t 55) (.t 56)⟩,
   ⟨some 58, none, .bin .add (.t 57) (.c (.int .i64 1))⟩,
   ⟨some 59, none, .move (.t 0)⟩,
   ⟨some 60, none, .len false (.t 59)⟩,
   ⟨some 61, none, .bin .lss (.t 58) (.t 60)⟩])
  (.cond (.t 61) (.region none [⟨some 62, none, .move (.t 10)⟩,
   ⟨some 63, none, .move (.t 0)⟩,
   ⟨some 64, none, .move (.t 9)⟩,
   ⟨some 65, none, .move (.t 6)⟩,
   ⟨some 66, none, .bin .add (.t 64) (.t 65)⟩,
   ⟨some 67, none, .bin .add (.t 66) (.c (.int .i64 1))⟩,
   ⟨some 68, none, .idxSl 1 (.t 63) (.t 67)⟩,
   ⟨some 69, none, .load none (.t 68)⟩,
   ⟨some 70, none, .convInt .u64 (.t 69)⟩,
   ⟨some 71, none, .bin .shl (.t 70) (.c (.int .u64 32))⟩,
   ⟨some 72, none, .bin .or (.t 62) (.t 71)⟩,
   ⟨some 10, none, .move (.t 72)⟩])
  (.skip)))
  (c88_2)))))
  (c88_4)
noncomputable def c88_6 : ACode := .mask (.n (.n (.n (.n .e true .e) false .e) true (.n .e false (.n .e false (.n (.n .e true .e) false .e)))) true (.n (.n (.n .e true .e) false (.n .e false (.n (.n .e true .e) false .e))) false (.n .e true .e))) (c88_5)
noncomputable def c88_7 : ACode := .seq (.region none [⟨some 46, none, .bin .lss (.t 45) (.t 44)⟩])
  (.seq (.cond (.t 46) (.skip)
  (.exit 0))
  (c88_6))
noncomputable def c88_8 : ACode := .seq (.region none [⟨some 82, none, .move (.t 8)⟩,
   ⟨some 83, none, .call 83 [.t 82]⟩,
   ⟨some 84, none, .move (.t 7)⟩,
   ⟨some 4, none, .move (.t 83)⟩,
   ⟨some 5, none, .move (.t 84)⟩])
  (.ret)
noncomputable def c88_9 : ACode := .mask (.n (.n (.n (.n .e true .e) false .e) false .e) false (.n (.n (.n .e true .e) false .e) false .e)) (c88_8)
noncomputable def c88_10 : ACode := .seq (.region (some []) [⟨some 20, none, .move (.t 0)⟩,
   ⟨some 21, none, .move (.t 6)⟩,
   ⟨some 22, none, .slice 1 (.t 20) none (some (.t 21)) none⟩,
   ⟨some 23, none, .call 83 [.t 22]⟩,
   ⟨some 24, none, .len false (.t 23)⟩,
   ⟨some 25, none, .bin .gtr (.t 24) (.c (.int .i64 0))⟩,
   ⟨some 26, none, .move (.t 25)⟩,
   ⟨some 27, (some (26, false)), .move (.t 0)⟩,
   ⟨some 28, (some (26, false)), .move (.t 6)⟩,
   ⟨some 29, (some (26, false)), .idxSl 1 (.t 27) (.t 28)⟩,
   ⟨some 30, (some (26, false)), .load none (.t 29)⟩,
   ⟨some 31, (some (26, false)), .move (.t 1)⟩,
   ⟨some 32, (some (26, false)), .bin .rem (.t 31) (.c (.int .i64 32))⟩,
   ⟨some 33, (some (26, false)), .bin .shl (.c (.int .u32 1)) (.t 32)⟩,
   ⟨some 34, (some (26, false)), .bin .sub (.t 33) (.c (.int .u32 1))⟩,
   ⟨some 35, (some (26, false)), .bin .and (.t 30) (.t 34)⟩,
   ⟨some 36, (some (26, false)), .bin .neq (.t 35) (.c (.int .u32 0))⟩,
   ⟨some 37, none, .pick (.t 26) (.c (.bool true)) (.t 36)⟩,
   ⟨some 7, none, .move (.t 37)⟩])
  (.seq (.region none [⟨some 38, none, .move (.t 0)⟩,
   ⟨some 39, none, .len false (.t 38)⟩,
   ⟨some 40, none, .move (.t 6)⟩,
   ⟨some 41, none, .bin .sub (.t 39) (.t 40)⟩,
   ⟨some 42, none, .makeSlice [.int .u32 0] 4 (.t 41) (.t 41)⟩,
   ⟨some 8, none, .move (.t 42)⟩])
  (.seq (.seq (.region none [⟨some 43, none, .move (.t 8)⟩,
   ⟨some 44, none, .len false (.t 43)⟩,
   ⟨some 45, none, .move (.c (.int .i64 0))⟩])
  (.block 0 (.loop (.n (.n (.n (.n .e true .e) false .e) true (.n .e false (.n .e false (.n (.n .e true .e) false .e)))) true (.n (.n (.n .e true .e) false (.n .e false (.n (.n .e true .e) false .e))) false (.n .e true .e))) (c88_7))))
  (c88_9)))
noncomputable def c88_11 : ACode := .mask (.n (.n .e true .e) true (.n .e false (.n .e true .e))) (c88_10)
noncomputable def c88_b : ACode := .seq (.region none [⟨some 4, none, .move (.c (.sl 1 [] .nil))⟩,
   ⟨some 5, none, .move (.c (.bool false))⟩])
  (.seq (.region none [⟨some 11, none, .move (.t 1)⟩,
   ⟨some 12, none, .bin .quo (.t 11) (.c (.int .i64 32))⟩,
   ⟨some 6, none, .move (.t 12)⟩])
  (.seq (.seq (.region none [⟨some 13, none, .move (.t 6)⟩,
   ⟨some 14, none, .move (.t 0)⟩,
   ⟨some 15, none, .len false (.t 14)⟩,
   ⟨some 16, none, .bin .geq (.t 13) (.t 15)⟩])
  (.cond (.t 16) (.seq (.region none [⟨some 17, none, .move (.t 0)⟩,
   ⟨some 18, none, .len false (.t 17)⟩,
   ⟨some 19, none, .bin .gtr (.t 18) (.c (.int .i64 0))⟩,
   ⟨some 4, none, .move (.c (.sl 1 [] .nil))⟩,
   ⟨some 5, none, .move (.t 19)⟩])
  (.ret))
  (.skip)))
  (c88_11)))
noncomputable def c88 : AFn := { np := 2, nt := 85, results := [.t 4, .t 5], keep := false, body := c88_b }
noncomputable def c89_b : ACode := .seq (.region none [⟨some 2, none, .move (.c (.int .i64 0))⟩])
  (.seq (.region none [⟨some 3, none, .move (.t 0)⟩,
   ⟨some 4, none, .bin .mul (.t 3) (.c (.int .i64 78913))⟩,
   ⟨some 5, none, .bin .shr (.t 4) (.c (.int .u64 18))⟩,
   ⟨some 2, none, .move (.t 5)⟩])
  (.ret))
noncomputable def c89 : AFn := { np := 1, nt := 6, results := [.t 2], keep := false, body := c89_b }
noncomputable def c90_1 : ACode := .seq (.region none [⟨some 19, none, .move (.t 2)⟩,
   ⟨some 20, none, .move (.t 0)⟩,
   ⟨some 21, none, .convInt .u8 (.t 20)⟩,
   ⟨some 22, none, .idxStr (.c (.str [0, 1, 2, 2, 3, 3, 3, 3, 4, 4, 4, 4, 4, 4, 4, 4, 5, 5, 5, 5, 5, 5, 5, 5, 5, 5, 5, 5, 5, 5, 5, 5, 6, 6, 6, 6, 6, 6, 6, 6, 6, 6, 6, 6, 6, 6, 6, 6, 6, 6, 6, 6, 6, 6, 6, 6, 6, 6, 6, 6, 6, 6, 6, 6, 7, 7, 7, 7, 7, 7, 7, 7, 7, 7, 7, 7, 7, 7, 7, 7, 7, 7, 7, 7, 7, 7, 7, 7, 7, 7, 7, 7, 7, 7, 7, 7, 7, 7, 7, 7, 7, 7, 7, 7, 7, 7, 7, 7, 7, 7, 7, 7, 7, 7, 7, 7, 7, 7, 7, 7, 7, 7, 7, 7, 7, 7, 7, 7, 8, 8, 8, 8, 8, 8, 8, 8, 8, 8, 8, 8, 8, 8, 8, 8, 8, 8, 8, 8, 8, 8, 8, 8, 8, 8, 8, 8, 8, 8, 8, 8, 8, 8, 8, 8, 8, 8, 8, 8, 8, 8, 8, 8, 8, 8, 8, 8, 8, 8, 8, 8, 8, 8, 8, 8, 8, 8, 8, 8, 8, 8, 8, 8, 8, 8, 8, 8, 8, 8, 8, 8, 8, 8, 8, 8, 8, 8, 8, 8, 8, 8, 8, 8, 8, 8, 8, 8, 8, 8, 8, 8, 8, 8, 8, 8, 8, 8, 8, 8, 8, 8, 8, 8, 8, 8, 8, 8, 8, 8, 8, 8, 8, 8, 8, 8, 8, 8, 8, 8, 8, 8, 8, 8, 8, 8, 8, 8])) (.t 21)⟩,
   ⟨some 23, none, .convInt .i64 (.t 22)⟩,
   ⟨some 24, none, .bin .add (.t 19) (.t 23)⟩,
   ⟨some 2, none, .move (.t 24)⟩])
  (.ret)
noncomputable def c90_2 : ACode := .mask (.n .e true (.n .e true .e)) (c90_1)
noncomputable def c90_3 : ACode := .seq (.seq (.region none [⟨some 13, none, .move (.t 0)⟩,
   ⟨some 14, none, .bin .geq (.t 13) (.c (.int .u64 256))⟩])
  (.cond (.t 14) (.seq (.region none [⟨some 15, none, .move (.t 0)⟩,
   ⟨some 16, none, .bin .shr (.t 15) (.c (.int .u64 8))⟩,
   ⟨some 0, none, .move (.t 16)⟩])
  (.region none [⟨some 17, none, .move (.t 2)⟩,
   ⟨some 18, none, .bin .add (.t 17) (.c (.int .i64 8))⟩,
   ⟨some 2, none, .move (.t 18)⟩]))
  (.skip)))
  (c90_2)
noncomputable def c90_4 : ACode := .mask (.n .e true (.n .e true .e)) (c90_3)
noncomputable def c90_5 : ACode := .seq (.seq (.region none [⟨some 7, none, .move (.t 0)⟩,
   ⟨some 8, none, .bin .geq (.t 7) (.c (.int .u64 65536))⟩])
  (.cond (.t 8) (.seq (.region none [⟨some 9, none, .move (.t 0)⟩,
   ⟨some 10, none, .bin .shr (.t 9) (.c (.int .u64 16))⟩,
   ⟨some 0, none, .move (.t 10)⟩])
  (.region none [⟨some 11, none, .move (.t 2)⟩,
   ⟨some 12, none, .bin .add (.t 11) (.c (.int .i64 16))⟩,
   ⟨some 2, none, .move (.t 12)⟩]))
  (.skip)))
  (c90_4)
noncomputable def c90_6 : ACode := .mask (.n .e true (.n .e true .e)) (c90_5)
noncomputable def c90_b : ACode := .seq (.region none [⟨some 2, none, .move (.c (.int .i64 0))⟩])
  (.seq (.seq (.region none [⟨some 3, none, .move (.t 0)⟩,
   ⟨some 4, none, .bin .geq (.t 3) (.c (.int .u64 4294967296))⟩])
  (.cond (.t 4) (.seq (.region none [⟨some 5, none, .move (.t 0)⟩,
   ⟨some 6, none, .bin .shr (.t 5) (.c (.int .u64 32))⟩,
   ⟨some 0, none, .move (.t 6)⟩])
  (.region none [⟨some 2, none, .move (.c (.int .i64 32))⟩]))
  (.skip)))
  (c90_6))
noncomputable def c90 : AFn := { np := 1, nt := 25, results := [.t 2], keep := false, body := c90_b }
noncomputable def c91_1 : ACode := .seq (.region none [⟨some 2, none, .move (.c (.int .i64 0))⟩])
  (.ret)
noncomputable def c91_2 : ACode := .mask .e (c91_1)
noncomputable def c91_b : ACode := .seq (.region none [⟨some 2, none, .move (.c (.int .i64 0))⟩])
  (.seq (.seq (.region none [⟨some 3, none, .move (.t 0)⟩])
  (.cond (.t 3) (.seq (.region none [⟨some 2, none, .move (.c (.int .i64 1))⟩])
  (.ret))
  (.skip)))
  (c91_2))
noncomputable def c91 : AFn := { np := 1, nt := 4, results := [.t 2], keep := false, body := c91_b }
noncomputable def c92_b : ACode := .seq (.region none [⟨some 2, none, .move (.c (.bool false))⟩])
  (.seq (.region none [⟨some 3, none, .move (.t 0)⟩,
   ⟨some 4, none, .move (.t 0)⟩,
   ⟨some 5, none, .bin .sub (.t 4) (.c (.int .i64 1))⟩,
   ⟨some 6, none, .bin .and (.t 3) (.t 5)⟩,
   ⟨some 7, none, .bin .eql (.t 6) (.c (.int .i64 0))⟩,
   ⟨some 2, none, .move (.t 7)⟩])
  (.ret))
noncomputable def c92 : AFn := { np := 1, nt := 8, results := [.t 2], keep := false, body := c92_b }
noncomputable def c93_1 : ACode := .seq (.region none [⟨some 6, none, .move (.t 0)⟩,
   ⟨some 7, none, .call 99 [.t 6]⟩,
   ⟨some 2, none, .move (.t 7)⟩])
  (.ret)
noncomputable def c93_2 : ACode := .mask (.n .e true .e) (c93_1)
noncomputable def c93_b : ACode := .seq (.region none [⟨some 2, none, .move (.c (.int .i64 0))⟩])
  (.seq (.cond (.c (.bool false)) (.seq (.region none [⟨some 3, none, .move (.t 0)⟩,
   ⟨some 4, none, .convInt .u32 (.t 3)⟩,
   ⟨some 5, none, .call 98 [.t 4]⟩,
   ⟨some 2, none, .move (.t 5)⟩])
  (.ret))
  (.skip))
  (c93_2))
noncomputable def c93 : AFn := { np := 1, nt := 8, results := [.t 2], keep := false, body := c93_b }
noncomputable def c94_1 : ACode := .region none [⟨some 162, none, .move (.t 17)⟩,
   ⟨some 13, none, .move (.t 162)⟩]
noncomputable def c94_2 : ACode := .mask (.n (.n (.n .e false (.n (.n (.n .e false (.n .e true .e)) false .e) true .e)) true (.n (.n (.n .e true .e) true .e) false (.n (.n (.n .e false (.n .e true .e)) false .e) false .e))) false (.n (.n (.n .e true .e) false (.n (.n (.n .e false (.n .e true .e)) false .e) true .e)) false (.n (.n .e true .e) false .e))) (c94_1)
noncomputable def c94_3 : ACode := .seq (.region none [⟨some 144, none, .move (.t 13)⟩,
   ⟨some 145, none, .move (.t 1)⟩,
   ⟨some 146, none, .convInt .u64 (.t 145)⟩,
   ⟨some 147, none, .bin .mul (.t 144) (.t 146)⟩,
   ⟨some 13, none, .move (.t 147)⟩])
  (.seq (.region none [⟨some 148, none, .move (.t 13)⟩,
   ⟨some 149, none, .move (.t 16)⟩,
   ⟨some 150, none, .convInt .u64 (.t 149)⟩,
   ⟨some 151, none, .bin .add (.t 148) (.t 150)⟩,
   ⟨some 17, none, .move (.t 151)⟩])
  (.seq (.seq (.region none [⟨some 152, none, .move (.t 17)⟩,
   ⟨some 153, none, .move (.t 13)⟩,
   ⟨some 154, none, .bin .lss (.t 152) (.t 153)⟩,
   ⟨some 155, none, .move (.t 154)⟩,
   ⟨some 156, (some (155, false)), .move (.t 17)⟩,
   ⟨some 157, (some (155, false)), .move (.t 11)⟩,
   ⟨some 158, (some (155, false)), .bin .gtr (.t 156) (.t 157)⟩,
   ⟨some 159, none, .pick (.t 155) (.c (.bool true)) (.t 158)⟩])
  (.cond (.t 159) (.seq (.region none [⟨some 160, none, .move (.t 11)⟩,
   ⟨some 161, none, .mkIface 126 (.c (.int .i64 1))⟩,
   ⟨some 6, none, .move (.t 160)⟩,
   ⟨some 7, none, .move (.t 161)⟩])
  (.ret))
  (.skip)))
  (c94_2)))
noncomputable def c94_4 : ACode := .mask (.n (.n (.n .e false (.n (.n (.n .e false (.n .e true .e)) false .e) true .e)) true (.n (.n .e true .e) false (.n (.n (.n .e false (.n .e true .e)) false .e) true .e))) false (.n (.n (.n (.n .e true .e) true .e) false (.n (.n (.n .e false (.n .e true .e)) false .e) true .e)) false (.n (.n .e true .e) false .e))) (c94_3)
noncomputable def c94_5 : ACode := .seq (.seq (.region none [⟨some 139, none, .move (.t 13)⟩,
   ⟨some 140, none, .move (.t 10)⟩,
   ⟨some 141, none, .bin .geq (.t 139) (.t 140)⟩])
  (.cond (.t 141) (.seq (.region none [⟨some 142, none, .move (.t 11)⟩,
   ⟨some 143, none, .mkIface 126 (.c (.int .i64 1))⟩,
   ⟨some 6, none, .move (.t 142)⟩,
   ⟨some 7, none, .move (.t 143)⟩])
  (.ret))
  (.skip)))
  (c94_4)
noncomputable def c94_6 : ACode := .mask (.n (.n (.n .e false (.n (.n (.n .e false (.n .e true .e)) false .e) true .e)) true (.n (.n .e true .e) false (.n (.n (.n .e false (.n .e true .e)) false .e) true .e))) false (.n (.n (.n (.n .e true .e) true .e) false (.n (.n (.n .e false (.n .e true .e)) false .e) true .e)) false (.n (.n .e true .e) false .e))) (c94_5)
noncomputable def c94_7 : ACode := .seq (.seq (.region none [⟨some 134, none, .move (.t 16)⟩,
   ⟨some 135, none, .move (.t 1)⟩,
   ⟨some 136, none, .convInt .u8 (.t 135)⟩,
   ⟨some 137, none, .bin .geq (.t 134) (.t 136)⟩])
  (.cond (.t 137) (.seq (.region none [⟨some 138, none, .mkIface 126 (.c (.int .i64 2))⟩,
   ⟨some 6, none, .move (.c (.int .u64 0))⟩,
   ⟨some 7, none, .move (.t 138)⟩])
  (.ret))
  (.skip)))
  (c94_6)
noncomputable def c94_8 : ACode := .mask (.n (.n (.n .e false (.n (.n (.n .e false (.n .e true .e)) false .e) true .e)) true (.n (.n .e true .e) false (.n (.n (.n .e false (.n .e true .e)) false .e) true .e))) false (.n (.n (.n (.n .e true .e) true .e) false (.n (.n (.n .e false (.n .e true .e)) false .e) true .e)) false (.n (.n .e true .e) false .e))) (c94_7)
noncomputable def c94_9 : ACode := .region none [⟨some 163, none, .bin .add (.t 101) (.c (.int .i64 1))⟩,
   ⟨some 101, none, .move (.t 163)⟩]
noncomputable def c94_10 : ACode := .mask (.n (.n (.n .e false (.n (.n (.n .e false (.n .e true .e)) false .e) true .e)) true (.n (.n .e true .e) false (.n (.n (.n .e false (.n .e true .e)) false .e) true .e))) false (.n (.n (.n .e true .e) false (.n (.n (.n .e false (.n .e true .e)) false .e) true .e)) false (.n (.n .e true .e) false .e))) (c94_9)
noncomputable def c94_11 : ACode := .seq (.block 4 (.seq (.region none [⟨some 103, none, .idxSl 1 (.t 99) (.t 101)⟩,
   ⟨some 104, none, .load none (.t 103)⟩,
   ⟨some 15, none, .move (.t 104)⟩])
  (.seq (.region none [⟨some 16, none, .move (.c (.int .u8 0))⟩])
  (.seq (.block 5 (.seq (.region none [⟨some 107, none, .move (.t 15)⟩,
   ⟨some 108, none, .bin .eql (.t 107) (.c (.int .u8 95))⟩,
   ⟨some 109, none, .move (.t 108)⟩,
   ⟨some 110, (some (109, true)), .move (.t 8)⟩,
   ⟨some 111, none, .pick (.t 109) (.t 110) (.c (.bool false))⟩,
   ⟨some 106, none, .move (.t 111)⟩])
  (.cond (.t 106) (.seq (.region none [⟨some 12, none, .move (.c (.bool true))⟩])
  (.exit 4))
  (.seq (.region none [⟨some 113, none, .move (.t 15)⟩,
   ⟨some 114, none, .bin .leq (.c (.int .u8 48)) (.t 113)⟩,
   ⟨some 115, none, .move (.t 114)⟩,
   ⟨some 116, (some (115, true)), .move (.t 15)⟩,
   ⟨some 117, (some (115, true)), .bin .leq (.t 116) (.c (.int .u8 57))⟩,
   ⟨some 118, none, .pick (.t 115) (.t 117) (.c (.bool false))⟩,
   ⟨some 112, none, .move (.t 118)⟩])
  (.cond (.t 112) (.region none [⟨some 119, none, .move (.t 15)⟩,
   ⟨some 120, none, .bin .sub (.t 119) (.c (.int .u8 48))⟩,
   ⟨some 16, none, .move (.t 120)⟩])
  (.seq (.region none [⟨some 122, none, .move (.t 15)⟩,
   ⟨some 123, none, .call 100 [.t 122]⟩,
   ⟨some 124, none, .bin .leq (.c (.int .u8 97)) (.t 123)⟩,
   ⟨some 125, none, .move (.t 124)⟩,
   ⟨some 126, (some (125, true)), .move (.t 15)⟩,
   ⟨some 127, (some (125, true)), .call 100 [.t 126]⟩,
   ⟨some 128, (some (125, true)), .bin .leq (.t 127) (.c (.int .u8 122))⟩,
   ⟨some 129, none, .pick (.t 125) (.t 128) (.c (.bool false))⟩,
   ⟨some 121, none, .move (.t 129)⟩])
  (.cond (.t 121) (.region none [⟨some 130, none, .move (.t 15)⟩,
   ⟨some 131, none, .call 100 [.t 130]⟩,
   ⟨some 132, none, .bin .sub (.t 131) (.c (.int .u8 97))⟩,
   ⟨some 133, none, .bin .add (.t 132) (.c (.int .u8 10))⟩,
   ⟨some 16, none, .move (.t 133)⟩])
  (.seq (.region none [⟨some 105, none, .mkIface 126 (.c (.int .i64 2))⟩,
   ⟨some 6, none, .move (.c (.int .u64 0))⟩,
   ⟨some 7, none, .move (.t 105)⟩])
  (.ret)))))))))
  (c94_8)))))
  (c94_10)
noncomputable def c94_12 : ACode := .mask (.n (.n (.n .e false (.n (.n (.n .e false (.n .e true .e)) false .e) true .e)) true (.n (.n .e true .e) false (.n (.n (.n .e false (.n .e true .e)) false .e) true .e))) false (.n (.n (.n .e true .e) false (.n (.n (.n .e false (.n .e true .e)) false .e) true .e)) false (.n (.n .e true .e) false .e))) (c94_11)
noncomputable def c94_13 : ACode := .seq (.region none [⟨some 102, none, .bin .lss (.t 101) (.t 100)⟩])
  (.seq (.cond (.t 102) (.skip)
  (.exit 3))
  (c94_12))
noncomputable def c94_14 : ACode := .seq (.region none [⟨some 171, none, .move (.t 13)⟩,
   ⟨some 6, none, .move (.t 171)⟩,
   ⟨some 7, none, .move (.c .nili)⟩])
  (.ret)
noncomputable def c94_15 : ACode := .mask (.n (.n .e false (.n .e false (.n .e true .e))) false .e) (c94_14)
noncomputable def c94_16 : ACode := .seq (.seq (.region none [⟨some 164, none, .move (.t 12)⟩,
   ⟨some 165, none, .move (.t 164)⟩,
   ⟨some 166, (some (165, true)), .move (.t 9)⟩,
   ⟨some 167, (some (165, true)), .call 101 [.t 166]⟩,
   ⟨some 168, (some (165, true)), .un .not (.t 167)⟩,
   ⟨some 169, none, .pick (.t 165) (.t 168) (.c (.bool false))⟩])
  (.cond (.t 169) (.seq (.region none [⟨some 170, none, .mkIface 126 (.c (.int .i64 2))⟩,
   ⟨some 6, none, .move (.c (.int .u64 0))⟩,
   ⟨some 7, none, .move (.t 170)⟩])
  (.ret))
  (.skip)))
  (c94_15)
noncomputable def c94_17 : ACode := .mask (.n (.n .e false (.n (.n .e true .e) false (.n .e true .e))) false (.n (.n .e false (.n .e true .e)) false .e)) (c94_16)
noncomputable def c94_18 : ACode := .seq (.region none [⟨some 94, none, .move (.t 2)⟩,
   ⟨some 95, none, .convInt .u64 (.t 94)⟩,
   ⟨some 96, none, .bin .shl (.c (.int .u64 1)) (.t 95)⟩,
   ⟨some 97, none, .bin .sub (.t 96) (.c (.int .u64 1))⟩,
   ⟨some 11, none, .move (.t 97)⟩])
  (.seq (.region none [⟨some 12, none, .move (.c (.bool false))⟩])
  (.seq (.region none [⟨some 13, none, .move (.c (.int .u64 0))⟩])
  (.seq (.seq (.region none [⟨some 98, none, .move (.t 0)⟩,
   ⟨some 99, none, .strToBytes (.t 98)⟩,
   ⟨some 100, none, .len false (.t 99)⟩,
   ⟨some 101, none, .move (.c (.int .i64 0))⟩])
  (.block 3 (.loop (.n (.n (.n .e false (.n (.n (.n .e false (.n .e true .e)) false .e) true .e)) true (.n (.n .e true .e) false (.n (.n (.n .e false (.n .e true .e)) false .e) true .e))) false (.n (.n (.n .e true .e) false (.n (.n (.n .e false (.n .e true .e)) false .e) true .e)) false (.n (.n .e true .e) false .e))) (c94_13))))
  (c94_17))))
noncomputable def c94_19 : ACode := .mask (.n (.n .e true (.n (.n .e true .e) false .e)) true (.n (.n (.n .e true .e) false .e) true (.n (.n .e true .e) false .e))) (c94_18)
noncomputable def c94_20 : ACode := .seq (.region none [⟨some 10, none, .move (.c (.int .u64 0))⟩])
  (.seq (.seq (.region none [⟨some 85, none, .move (.t 1)⟩])
  (.block 2 (.seq (.region none [⟨some 91, none, .bin .eql (.t 85) (.c (.int .i64 10))⟩,
   ⟨some 90, none, .move (.t 91)⟩])
  (.cond (.t 90) (.region none [⟨some 10, none, .move (.c (.int .u64 1844674407370955162))⟩])
  (.seq (.region none [⟨some 93, none, .bin .eql (.t 85) (.c (.int .i64 16))⟩,
   ⟨some 92, none, .move (.t 93)⟩])
  (.cond (.t 92) (.region none [⟨some 10, none, .move (.c (.int .u64 1152921504606846976))⟩])
  (.region none [⟨some 86, none, .move (.t 1)⟩,
   ⟨some 87, none, .convInt .u64 (.t 86)⟩,
   ⟨some 88, none, .bin .quo (.c (.int .u64 18446744073709551615)) (.t 87)⟩,
   ⟨some 89, none, .bin .add (.t 88) (.c (.int .u64 1))⟩,
   ⟨some 10, none, .move (.t 89)⟩])))))))
  (c94_19))
noncomputable def c94_21 : ACode := .mask (.n (.n .e true (.n (.n .e true .e) false .e)) true (.n (.n (.n .e true .e) false .e) true .e)) (c94_20)
noncomputable def c94_22 : ACode := .seq (.seq (.region none [⟨some 76, none, .move (.t 2)⟩,
   ⟨some 77, none, .bin .eql (.t 76) (.c (.int .i64 0))⟩])
  (.cond (.t 77) (.region none [⟨some 2, none, .move (.c (.int .i64 64))⟩])
  (.seq (.region none [⟨some 78, none, .move (.t 2)⟩,
   ⟨some 79, none, .bin .lss (.t 78) (.c (.int .i64 0))⟩,
   ⟨some 80, none, .move (.t 79)⟩,
   ⟨some 81, (some (80, false)), .move (.t 2)⟩,
   ⟨some 82, (some (80, false)), .bin .gtr (.t 81) (.c (.int .i64 64))⟩,
   ⟨some 83, none, .pick (.t 80) (.c (.bool true)) (.t 82)⟩])
  (.cond (.t 83) (.seq (.region none [⟨some 84, none, .mkIface 126 (.c (.int .i64 4))⟩,
   ⟨some 6, none, .move (.c (.int .u64 0))⟩,
   ⟨some 7, none, .move (.t 84)⟩])
  (.ret))
  (.skip)))))
  (c94_21)
noncomputable def c94_23 : ACode := .mask (.n (.n .e true (.n (.n .e true .e) false .e)) true (.n (.n (.n .e true .e) false .e) true .e)) (c94_22)
noncomputable def c94_24 : ACode := .seq (.region none [⟨some 21, none, .move (.t 1)⟩,
   ⟨some 22, none, .bin .eql (.t 21) (.c (.int .i64 0))⟩,
   ⟨some 8, none, .move (.t 22)⟩])
  (.seq (.region none [⟨some 23, none, .move (.t 0)⟩,
   ⟨some 9, none, .move (.t 23)⟩])
  (.seq (.block 0 (.seq (.region none [⟨some 26, none, .move (.t 1)⟩,
   ⟨some 27, none, .bin .leq (.c (.int .i64 2)) (.t 26)⟩,
   ⟨some 28, none, .move (.t 27)⟩,
   ⟨some 29, (some (28, true)), .move (.t 1)⟩,
   ⟨some 30, (some (28, true)), .bin .leq (.t 29) (.c (.int .i64 36))⟩,
   ⟨some 31, none, .pick (.t 28) (.t 30) (.c (.bool false))⟩,
   ⟨some 25, none, .move (.t 31)⟩])
  (.cond (.t 25) (.skip)
  (.seq (.region none [⟨some 33, none, .move (.t 1)⟩,
   ⟨some 34, none, .bin .eql (.t 33) (.c (.int .i64 0))⟩,
   ⟨some 32, none, .move (.t 34)⟩])
  (.cond (.t 32) (.seq (.region none [⟨some 1, none, .move (.c (.int .i64 10))⟩])
  (.seq (.region none [⟨some 35, none, .move (.t 0)⟩,
   ⟨some 36, none, .idxStr (.t 35) (.c (.int .i64 0))⟩,
   ⟨some 37, none, .bin .eql (.t 36) (.c (.int .u8 48))⟩])
  (.cond (.t 37) (.block 1 (.seq (.region none [⟨some 41, none, .move (.t 0)⟩,
   ⟨some 42, none, .len true (.t 41)⟩,
   ⟨some 43, none, .bin .geq (.t 42) (.c (.int .i64 3))⟩,
   ⟨some 44, none, .move (.t 43)⟩,
   ⟨some 45, (some (44, true)), .move (.t 0)⟩,
   ⟨some 46, (some (44, true)), .idxStr (.t 45) (.c (.int .i64 1))⟩,
   ⟨some 47, (some (44, true)), .call 100 [.t 46]⟩,
   ⟨some 48, (some (44, true)), .bin .eql (.t 47) (.c (.int .u8 98))⟩,
   ⟨some 49, none, .pick (.t 44) (.t 48) (.c (.bool false))⟩,
   ⟨some 40, none, .move (.t 49)⟩])
  (.cond (.t 40) (.seq (.region none [⟨some 1, none, .move (.c (.int .i64 2))⟩])
  (.region none [⟨some 50, none, .move (.t 0)⟩,
   ⟨some 51, none, .subStr (.t 50) (some (.c (.int .i64 2))) none⟩,
   ⟨some 0, none, .move (.t 51)⟩]))
  (.seq (.region none [⟨some 53, none, .move (.t 0)⟩,
   ⟨some 54, none, .len true (.t 53)⟩,
   ⟨some 55, none, .bin .geq (.t 54) (.c (.int .i64 3))⟩,
   ⟨some 56, none, .move (.t 55)⟩,
   ⟨some 57, (some (56, true)), .move (.t 0)⟩,
   ⟨some 58, (some (56, true)), .idxStr (.t 57) (.c (.int .i64 1))⟩,
   ⟨some 59, (some (56, true)), .call 100 [.t 58]⟩,
   ⟨some 60, (some (56, true)), .bin .eql (.t 59) (.c (.int .u8 111))⟩,
   ⟨some 61, none, .pick (.t 56) (.t 60) (.c (.bool false))⟩,
   ⟨some 52, none, .move (.t 61)⟩])
  (.cond (.t 52) (.seq (.region none [⟨some 1, none, .move (.c (.int .i64 8))⟩])
  (.region none [⟨some 62, none, .move (.t 0)⟩,
   ⟨some 63, none, .subStr (.t 62) (some (.c (.int .i64 2))) none⟩,
   ⟨some 0, none, .move (.t 63)⟩]))
  (.seq (.region none [⟨some 65, none, .move (.t 0)⟩,
   ⟨some 66, none, .len true (.t 65)⟩,
   ⟨some 67, none, .bin .geq (.t 66) (.c (.int .i64 3))⟩,
   ⟨some 68, none, .move (.t 67)⟩,
   ⟨some 69, (some (68, true)), .move (.t 0)⟩,
   ⟨some 70, (some (68, true)), .idxStr (.t 69) (.c (.int .i64 1))⟩,
   ⟨some 71, (some (68, true)), .call 100 [.t 70]⟩,
   ⟨some 72, (some (68, true)), .bin .eql (.t 71) (.c (.int .u8 120))⟩,
   ⟨some 73, none, .pick (.t 68) (.t 72) (.c (.bool false))⟩,
   ⟨some 64, none, .move (.t 73)⟩])
  (.cond (.t 64) (.seq (.region none [⟨some 1, none, .move (.c (.int .i64 16))⟩])
  (.region none [⟨some 74, none, .move (.t 0)⟩,
   ⟨some 75, none, .subStr (.t 74) (some (.c (.int .i64 2))) none⟩,
   ⟨some 0, none, .move (.t 75)⟩]))
  (.seq (.region none [⟨some 1, none, .move (.c (.int .i64 8))⟩])
  (.region none [⟨some 38, none, .move (.t 0)⟩,
   ⟨some 39, none, .subStr (.t 38) (some (.c (.int .i64 1))) none⟩,
   ⟨some 0, none, .move (.t 39)⟩])))))))))
  (.skip))))
  (.seq (.region none [⟨some 24, none, .mkIface 126 (.c (.int .i64 3))⟩,
   ⟨some 6, none, .move (.c (.int .u64 0))⟩,
   ⟨some 7, none, .move (.t 24)⟩])
  (.ret)))))))
  (c94_23)))
noncomputable def c94_25 : ACode := .mask (.n (.n .e true .e) true (.n .e true .e)) (c94_24)
noncomputable def c94_b : ACode := .seq (.region none [⟨some 6, none, .move (.c (.int .u64 0))⟩,
   ⟨some 7, none, .move (.c .nili)⟩])
  (.seq (.seq (.region none [⟨some 18, none, .move (.t 0)⟩,
   ⟨some 19, none, .bin .eql (.t 18) (.c (.str []))⟩])
  (.cond (.t 19) (.seq (.region none [⟨some 20, none, .mkIface 126 (.c (.int .i64 2))⟩,
   ⟨some 6, none, .move (.c (.int .u64 0))⟩,
   ⟨some 7, none, .move (.t 20)⟩])
  (.ret))
  (.skip)))
  (c94_25))
noncomputable def c94 : AFn := { np := 3, nt := 172, results := [.t 6, .t 7], keep := false, body := c94_b }
noncomputable def c95_1 : ACode := .seq (.region none [⟨some 7, none, .move (.t 0)⟩,
   ⟨some 8, none, .len true (.t 7)⟩,
   ⟨some 9, none, .makeSlice [.int .u8 0] 1 (.t 8) (.t 8)⟩,
   ⟨some 3, none, .move (.t 9)⟩])
  (.seq (.region none [⟨some 10, none, .move (.t 3)⟩,
   ⟨some 11, none, .move (.t 0)⟩,
   ⟨some 12, none, .copy 1 (.t 10) (.t 11)⟩])
  (.seq (.region none [⟨some 13, none, .move (.t 3)⟩,
   ⟨some 14, none, .idxSl 1 (.t 13) (.c (.int .i64 0))⟩,
   ⟨some 15, none, .move (.t 3)⟩,
   ⟨some 16, none, .len false (.t 15)⟩,
   ⟨some 17, none, .no⟩,
   ⟨some 2, none, .move (.t 17)⟩])
  (.ret)))
noncomputable def c95_2 : ACode := .mask (.n .e true .e) (c95_1)
noncomputable def c95_b : ACode := .seq (.region none [⟨some 2, none, .move (.c (.str []))⟩])
  (.seq (.seq (.region none [⟨some 4, none, .move (.t 0)⟩,
   ⟨some 5, none, .len true (.t 4)⟩,
   ⟨some 6, none, .bin .eql (.t 5) (.c (.int .i64 0))⟩])
  (.cond (.t 6) (.seq (.region none [⟨some 2, none, .move (.c (.str []))⟩])
  (.ret))
  (.skip)))
  (c95_2))
noncomputable def c95 : AFn := { np := 1, nt := 18, results := [.t 2], keep := false, body := c95_b }
noncomputable def c96_b : ACode := .seq (.region none [⟨some 2, none, .move (.c .nili)⟩])
  (.seq (.region none [⟨some 3, none, .move (.t 0)⟩,
   ⟨some 4, none, .build [.str []] [(0, 1, .t 3)]⟩,
   ⟨some 5, none, .boxMut (.t 4)⟩,
   ⟨some 6, none, .mkIface 155 (.t 5)⟩,
   ⟨some 2, none, .move (.t 6)⟩])
  (.ret))
noncomputable def c96 : AFn := { np := 1, nt := 7, results := [.t 2], keep := false, body := c96_b }
noncomputable def c97_1 : ACode := .seq (.region none [⟨some 13, none, .move (.t 2)⟩,
   ⟨some 14, none, .move (.t 0)⟩,
   ⟨some 15, none, .convInt .u8 (.t 14)⟩,
   ⟨some 16, none, .idxStr (.c (.str [0, 1, 2, 2, 3, 3, 3, 3, 4, 4, 4, 4, 4, 4, 4, 4, 5, 5, 5, 5, 5, 5, 5, 5, 5, 5, 5, 5, 5, 5, 5, 5, 6, 6, 6, 6, 6, 6, 6, 6, 6, 6, 6, 6, 6, 6, 6, 6, 6, 6, 6, 6, 6, 6, 6, 6, 6, 6, 6, 6, 6, 6, 6, 6, 7, 7, 7, 7, 7, 7, 7, 7, 7, 7, 7, 7, 7, 7, 7, 7, 7, 7, 7, 7, 7, 7, 7, 7, 7, 7, 7, 7, 7, 7, 7, 7, 7, 7, 7, 7, 7, 7, 7, 7, 7, 7, 7, 7, 7, 7, 7, 7, 7, 7, 7, 7, 7, 7, 7, 7, 7, 7, 7, 7, 7, 7, 7, 7, 8, 8, 8, 8, 8, 8, 8, 8, 8, 8, 8, 8, 8, 8, 8, 8, 8, 8, 8, 8, 8, 8, 8, 8, 8, 8, 8, 8, 8, 8, 8, 8, 8, 8, 8, 8, 8, 8, 8, 8, 8, 8, 8, 8, 8, 8, 8, 8, 8, 8, 8, 8, 8, 8, 8, 8, 8, 8, 8, 8, 8, 8, 8, 8, 8, 8, 8, 8, 8, 8, 8, 8, 8, 8, 8, 8, 8, 8, 8, 8, 8, 8, 8, 8, 8, 8, 8, 8, 8, 8, 8, 8, 8, 8, 8, 8, 8, 8, 8, 8, 8, 8, 8, 8, 8, 8, 8, 8, 8, 8, 8, 8, 8, 8, 8, 8, 8, 8, 8, 8, 8, 8, 8, 8, 8, 8, 8, 8])) (.t 15)⟩,
   ⟨some 17, none, .convInt .i64 (.t 16)⟩,
   ⟨some 18, none, .bin .add (.t 13) (.t 17)⟩,
   ⟨some 2, none, .move (.t 18)⟩])
  (.ret)
noncomputable def c97_2 : ACode := .mask (.n .e true (.n .e true .e)) (c97_1)
noncomputable def c97_3 : ACode := .seq (.seq (.region none [⟨some 7, none, .move (.t 0)⟩,
   ⟨some 8, none, .bin .geq (.t 7) (.c (.int .u32 256))⟩])
  (.cond (.t 8) (.seq (.region none [⟨some 9, none, .move (.t 0)⟩,
   ⟨some 10, none, .bin .shr (.t 9) (.c (.int .u64 8))⟩,
   ⟨some 0, none, .move (.t 10)⟩])
  (.region none [⟨some 11, none, .move (.t 2)⟩,
   ⟨some 12, none, .bin .add (.t 11) (.c (.int .i64 8))⟩,
   ⟨some 2, none, .move (.t 12)⟩]))
  (.skip)))
  (c97_2)
noncomputable def c97_4 : ACode := .mask (.n .e true (.n .e true .e)) (c97_3)
noncomputable def c97_b : ACode := .seq (.region none [⟨some 2, none, .move (.c (.int .i64 0))⟩])
  (.seq (.seq (.region none [⟨some 3, none, .move (.t 0)⟩,
   ⟨some 4, none, .bin .geq (.t 3) (.c (.int .u32 65536))⟩])
  (.cond (.t 4) (.seq (.region none [⟨some 5, none, .move (.t 0)⟩,
   ⟨some 6, none, .bin .shr (.t 5) (.c (.int .u64 16))⟩,
   ⟨some 0, none, .move (.t 6)⟩])
  (.region none [⟨some 2, none, .move (.c (.int .i64 16))⟩]))
  (.skip)))
  (c97_4))
noncomputable def c97 : AFn := { np := 1, nt := 19, results := [.t 2], keep := false, body := c97_b }
noncomputable def c98_1 : ACode := .seq (.region none [⟨some 5, none, .move (.t 0)⟩,
   ⟨some 6, none, .move (.t 0)⟩,
   ⟨some 7, none, .un .neg (.t 6)⟩,
   ⟨some 8, none, .bin .and (.t 5) (.t 7)⟩,
   ⟨some 9, none, .bin .mul (.t 8) (.c (.int .u32 125613361))⟩,
   ⟨some 10, none, .bin .shr (.t 9) (.c (.int .u64 27))⟩,
   ⟨some 11, none, .idxArr 1 32 (.g 3) (.t 10)⟩,
   ⟨some 12, none, .load none (.t 11)⟩,
   ⟨some 13, none, .convInt .i64 (.t 12)⟩,
   ⟨some 2, none, .move (.t 13)⟩])
  (.ret)
noncomputable def c98_2 : ACode := .mask (.n .e true .e) (c98_1)
noncomputable def c98_b : ACode := .seq (.region none [⟨some 2, none, .move (.c (.int .i64 0))⟩])
  (.seq (.seq (.region none [⟨some 3, none, .move (.t 0)⟩,
   ⟨some 4, none, .bin .eql (.t 3) (.c (.int .u32 0))⟩])
  (.cond (.t 4) (.seq (.region none [⟨some 2, none, .move (.c (.int .i64 32))⟩])
  (.ret))
  (.skip)))
  (c98_2))
noncomputable def c98 : AFn := { np := 1, nt := 14, results := [.t 2], keep := false, body := c98_b }
noncomputable def c99_1 : ACode := .seq (.region none [⟨some 5, none, .move (.t 0)⟩,
   ⟨some 6, none, .move (.t 0)⟩,
   ⟨some 7, none, .un .neg (.t 6)⟩,
   ⟨some 8, none, .bin .and (.t 5) (.t 7)⟩,
   ⟨some 9, none, .bin .mul (.t 8) (.c (.int .u64 285870213051353865))⟩,
   ⟨some 10, none, .bin .shr (.t 9) (.c (.int .u64 58))⟩,
   ⟨some 11, none, .idxArr 1 64 (.g 4) (.t 10)⟩,
   ⟨some 12, none, .load none (.t 11)⟩,
   ⟨some 13, none, .convInt .i64 (.t 12)⟩,
   ⟨some 2, none, .move (.t 13)⟩])
  (.ret)
noncomputable def c99_2 : ACode := .mask (.n .e true .e) (c99_1)
noncomputable def c99_b : ACode := .seq (.region none [⟨some 2, none, .move (.c (.int .i64 0))⟩])
  (.seq (.seq (.region none [⟨some 3, none, .move (.t 0)⟩,
   ⟨some 4, none, .bin .eql (.t 3) (.c (.int .u64 0))⟩])
  (.cond (.t 4) (.seq (.region none [⟨some 2, none, .move (.c (.int .i64 64))⟩])
  (.ret))
  (.skip)))
  (c99_2))
noncomputable def c99 : AFn := { np := 1, nt := 14, results := [.t 2], keep := false, body := c99_b }
noncomputable def c100_b : ACode := .seq (.region none [⟨some 2, none, .move (.c (.int .u8 0))⟩])
  (.seq (.region none [⟨some 3, none, .move (.t 0)⟩,
   ⟨some 4, none, .bin .or (.t 3) (.c (.int .u8 32))⟩,
   ⟨some 2, none, .move (.t 4)⟩])
  (.ret))
noncomputable def c100 : AFn := { np := 1, nt := 5, results := [.t 2], keep := false, body := c100_b }
noncomputable def c101_1 : ACode := .seq (.region none [⟨some 3, none, .move (.c (.int .i32 95))⟩])
  (.exit 1)
noncomputable def c101_2 : ACode := .mask (.n (.n .e false (.n .e true .e)) true (.n (.n .e true .e) false .e)) (c101_1)
noncomputable def c101_3 : ACode := .region none [⟨some 3, none, .move (.c (.int .i32 33))⟩]
noncomputable def c101_4 : ACode := .mask (.n (.n .e false (.n .e true .e)) true (.n (.n .e true .e) false .e)) (c101_3)
noncomputable def c101_5 : ACode := .seq (.seq (.region none [⟨some 90, none, .move (.t 3)⟩,
   ⟨some 91, none, .bin .eql (.t 90) (.c (.int .i32 95))⟩])
  (.cond (.t 91) (.seq (.region none [⟨some 2, none, .move (.c (.bool false))⟩])
  (.ret))
  (.skip)))
  (c101_4)
noncomputable def c101_6 : ACode := .mask (.n (.n (.n .e true .e) false (.n .e true .e)) true (.n (.n .e true .e) false .e)) (c101_5)
noncomputable def c101_7 : ACode := .seq (.seq (.region none [⟨some 84, none, .move (.t 0)⟩,
   ⟨some 85, none, .move (.t 4)⟩,
   ⟨some 86, none, .idxStr (.t 84) (.t 85)⟩,
   ⟨some 87, none, .bin .eql (.t 86) (.c (.int .u8 95))⟩])
  (.cond (.t 87) (.seq (.seq (.region none [⟨some 88, none, .move (.t 3)⟩,
   ⟨some 89, none, .bin .neq (.t 88) (.c (.int .i32 48))⟩])
  (.cond (.t 89) (.seq (.region none [⟨some 2, none, .move (.c (.bool false))⟩])
  (.ret))
  (.skip)))
  (c101_2))
  (.skip)))
  (c101_6)
noncomputable def c101_8 : ACode := .mask (.n (.n (.n .e true .e) false (.n .e true .e)) true (.n (.n .e true .e) false .e)) (c101_7)
noncomputable def c101_9 : ACode := .region none [⟨some 55, none, .move (.t 4)⟩,
   ⟨some 56, none, .bin .add (.t 55) (.c (.int .i64 1))⟩,
   ⟨some 4, none, .move (.t 56)⟩]
noncomputable def c101_10 : ACode := .mask (.n (.n (.n .e true .e) false (.n .e true .e)) true (.n (.n .e true .e) false .e)) (c101_9)
noncomputable def c101_11 : ACode := .seq (.block 1 (.seq (.seq (.region none [⟨some 57, none, .move (.t 0)⟩,
   ⟨some 58, none, .move (.t 4)⟩,
   ⟨some 59, none, .idxStr (.t 57) (.t 58)⟩,
   ⟨some 60, none, .bin .leq (.c (.int .u8 48)) (.t 59)⟩,
   ⟨some 61, none, .move (.t 60)⟩,
   ⟨some 62, (some (61, true)), .move (.t 0)⟩,
   ⟨some 63, (some (61, true)), .move (.t 4)⟩,
   ⟨some 64, (some (61, true)), .idxStr (.t 62) (.t 63)⟩,
   ⟨some 65, (some (61, true)), .bin .leq (.t 64) (.c (.int .u8 57))⟩,
   ⟨some 66, none, .pick (.t 61) (.t 65) (.c (.bool false))⟩,
   ⟨some 67, none, .move (.t 66)⟩,
   ⟨some 68, (some (67, false)), .move (.t 5)⟩,
   ⟨some 69, (some (67, false)), .move (.t 68)⟩,
   ⟨some 70, (some (69, true)), .move (.t 0)⟩,
   ⟨some 71, (some (69, true)), .move (.t 4)⟩,
   ⟨some 72, (some (69, true)), .idxStr (.t 70) (.t 71)⟩,
   ⟨some 73, (some (69, true)), .call 100 [.t 72]⟩,
   ⟨some 74, (some (69, true)), .bin .leq (.c (.int .u8 97)) (.t 73)⟩,
   ⟨some 75, (some (67, false)), .pick (.t 69) (.t 74) (.c (.bool false))⟩,
   ⟨some 76, (some (67, false)), .move (.t 75)⟩,
   ⟨some 77, (some (76, true)), .move (.t 0)⟩,
   ⟨some 78, (some (76, true)), .move (.t 4)⟩,
   ⟨some 79, (some (76, true)), .idxStr (.t 77) (.t 78)⟩,
   ⟨some 80, (some (76, true)), .call 100 [.t 79]⟩,
   ⟨some 81, (some (76, true)), .bin .leq (.t 80) (.c (.int .u8 102))⟩,
   ⟨some 82, (some (67, false)), .pick (.t 76) (.t 81) (.c (.bool false))⟩,
   ⟨some 83, none, .pick (.t 67) (.c (.bool true)) (.t 82)⟩])
  (.cond (.t 83) (.seq (.region none [⟨some 3, none, .move (.c (.int .i32 48))⟩])
  (.exit 1))
  (.skip)))
  (c101_8)))
  (c101_10)
noncomputable def c101_12 : ACode := .mask (.n (.n (.n .e true .e) false (.n .e true .e)) true (.n (.n .e true .e) false .e)) (c101_11)
noncomputable def c101_13 : ACode := .seq (.seq (.region none [⟨some 51, none, .move (.t 4)⟩,
   ⟨some 52, none, .move (.t 0)⟩,
   ⟨some 53, none, .len true (.t 52)⟩,
   ⟨some 54, none, .bin .lss (.t 51) (.t 53)⟩])
  (.cond (.t 54) (.skip)
  (.exit 0)))
  (c101_12)
noncomputable def c101_14 : ACode := .seq (.region none [⟨some 92, none, .move (.t 3)⟩,
   ⟨some 93, none, .bin .neq (.t 92) (.c (.int .i32 95))⟩,
   ⟨some 2, none, .move (.t 93)⟩])
  (.ret)
noncomputable def c101_15 : ACode := .mask (.n (.n (.n .e true .e) false .e) false .e) (c101_14)
noncomputable def c101_16 : ACode := .seq (.block 0 (.loop (.n (.n (.n .e true .e) false (.n .e true .e)) true (.n (.n .e true .e) false .e)) (c101_13)))
  (c101_15)
noncomputable def c101_17 : ACode := .mask (.n (.n (.n .e true .e) false (.n .e true .e)) true (.n (.n .e true .e) false .e)) (c101_16)
noncomputable def c101_18 : ACode := .seq (.region none [⟨some 5, none, .move (.c (.bool false))⟩])
  (.seq (.seq (.region none [⟨some 21, none, .move (.t 0)⟩,
   ⟨some 22, none, .len true (.t 21)⟩,
   ⟨some 23, none, .bin .geq (.t 22) (.c (.int .i64 2))⟩,
   ⟨some 24, none, .move (.t 23)⟩,
   ⟨some 25, (some (24, true)), .move (.t 0)⟩,
   ⟨some 26, (some (24, true)), .idxStr (.t 25) (.c (.int .i64 0))⟩,
   ⟨some 27, (some (24, true)), .bin .eql (.t 26) (.c (.int .u8 48))⟩,
   ⟨some 28, none, .pick (.t 24) (.t 27) (.c (.bool false))⟩,
   ⟨some 29, none, .move (.t 28)⟩,
   ⟨some 30, (some (29, true)), .move (.t 0)⟩,
   ⟨some 31, (some (29, true)), .idxStr (.t 30) (.c (.int .i64 1))⟩,
   ⟨some 32, (some (29, true)), .call 100 [.t 31]⟩,
   ⟨some 33, (some (29, true)), .bin .eql (.t 32) (.c (.int .u8 98))⟩,
   ⟨some 34, (some (29, true)), .move (.t 33)⟩,
   ⟨some 35, (some (34, false)), .move (.t 0)⟩,
   ⟨some 36, (some (34, false)), .idxStr (.t 35) (.c (.int .i64 1))⟩,
   ⟨some 37, (some (34, false)), .call 100 [.t 36]⟩,
   ⟨some 38, (some (34, false)), .bin .eql (.t 37) (.c (.int .u8 111))⟩,
   ⟨some 39, (some (29, true)), .pick (.t 34) (.c (.bool true)) (.t 38)⟩,
   ⟨some 40, (some (29, true)), .move (.t 39)⟩,
   ⟨some 41, (some (40, false)), .move (.t 0)⟩,
   ⟨some 42, (some (40, false)), .idxStr (.t 41) (.c (.int .i64 1))⟩,
   ⟨some 43, (some (40, false)), .call 100 [.t 42]⟩,
   ⟨some 44, (some (40, false)), .bin .eql (.t 43) (.c (.int .u8 120))⟩,
   ⟨some 45, (some (29, true)), .pick (.t 40) (.c (.bool true)) (.t 44)⟩,
   ⟨some 46, none, .pick (.t 29) (.t 45) (.c (.bool false))⟩])
  (.cond (.t 46) (.seq (.region none [⟨some 4, none, .move (.c (.int .i64 2))⟩])
  (.seq (.region none [⟨some 3, none, .move (.c (.int .i32 48))⟩])
  (.region none [⟨some 47, none, .move (.t 0)⟩,
   ⟨some 48, none, .idxStr (.t 47) (.c (.int .i64 1))⟩,
   ⟨some 49, none, .call 100 [.t 48]⟩,
   ⟨some 50, none, .bin .eql (.t 49) (.c (.int .u8 120))⟩,
   ⟨some 5, none, .move (.t 50)⟩])))
  (.skip)))
  (c101_17))
noncomputable def c101_19 : ACode := .mask (.n (.n (.n .e true .e) false .e) true (.n (.n .e true .e) false .e)) (c101_18)
noncomputable def c101_b : ACode := .seq (.region none [⟨some 2, none, .move (.c (.bool false))⟩])
  (.seq (.region none [⟨some 3, none, .move (.c (.int .i32 94))⟩])
  (.seq (.region none [⟨some 4, none, .move (.c (.int .i64 0))⟩])
  (.seq (.seq (.region none [⟨some 6, none, .move (.t 0)⟩,
   ⟨some 7, none, .len true (.t 6)⟩,
   ⟨some 8, none, .bin .geq (.t 7) (.c (.int .i64 1))⟩,
   ⟨some 9, none, .move (.t 8)⟩,
   ⟨some 10, (some (9, true)), .move (.t 0)⟩,
   ⟨some 11, (some (9, true)), .idxStr (.t 10) (.c (.int .i64 0))⟩,
   ⟨some 12, (some (9, true)), .bin .eql (.t 11) (.c (.int .u8 45))⟩,
   ⟨some 13, (some (9, true)), .move (.t 12)⟩,
   ⟨some 14, (some (13, false)), .move (.t 0)⟩,
   ⟨some 15, (some (13, false)), .idxStr (.t 14) (.c (.int .i64 0))⟩,
   ⟨some 16, (some (13, false)), .bin .eql (.t 15) (.c (.int .u8 43))⟩,
   ⟨some 17, (some (9, true)), .pick (.t 13) (.c (.bool true)) (.t 16)⟩,
   ⟨some 18, none, .pick (.t 9) (.t 17) (.c (.bool false))⟩])
  (.cond (.t 18) (.region none [⟨some 19, none, .move (.t 0)⟩,
   ⟨some 20, none, .subStr (.t 19) (some (.c (.int .i64 1))) none⟩,
   ⟨some 0, none, .move (.t 20)⟩])
  (.skip)))
  (c101_19))))
noncomputable def c101 : AFn := { np := 1, nt := 94, results := [.t 2], keep := false, body := c101_b }
noncomputable def L1 : List (Nat × AFn) := [(5, c5), (6, c6), (7, c7), (8, c8), (9, c9), (10, c10), (11, c11), (15, c15), (16, c16), (17, c17), (18, c18), (19, c19), (20, c20), (21, c21), (22, c22), (23, c23), (24, c24), (25, c25), (26, c26), (27, c27), (29, c29), (30, c30), (31, c31), (32, c32), (33, c33), (34, c34), (35, c35), (36, c36), (37, c37), (38, c38), (39, c39), (40, c40), (41, c41), (42, c42), (43, c43), (44, c44), (45, c45), (46, c46), (47, c47), (48, c48), (49, c49), (50, c50), (51, c51), (52, c52), (53, c53), (54, c54), (55, c55), (56, c56), (57, c57), (58, c58), (59, c59), (60, c60), (61, c61), (62, c62), (63, c63), (64, c64), (65, c65), (66, c66), (67, c67), (68, c68), (69, c69), (70, c70), (71, c71), (72, c72), (73, c73), (74, c74), (75, c75), (76, c76), (77, c77), (78, c78), (79, c79), (80, c80), (81, c81), (82, c82), (83, c83), (84, c84), (85, c85), (86, c86), (87, c87), (88, c88), (89, c89), (90, c90), (91, c91), (92, c92), (93, c93), (94, c94), (95, c95), (96, c96), (97, c97), (98, c98), (99, c99), (100, c100), (101, c101)]
noncomputable def T1 : Nat → Option AFn := fun f => lookFn f L1
end Go.AbY
