/- The abstract functions. -/
import Derived.Test.YtnafklimohmfkaaGreatDoorTabXp0
namespace Go.AbX
open Go.Ab
set_option maxRecDepth 100000
noncomputable def c190_b : ACode := .seq (.region none [⟨some 4, none, .move (.c (.sl 1 [] .nil))⟩,
   ⟨some 5, none, .move (.c (.int .u32 0))⟩])
  (.seq (.region none [⟨some 11, none, .move (.t 0)⟩,
   ⟨some 12, none, .len false (.t 11)⟩,
   ⟨some 13, none, .makeSlice [.int .u32 0] 4 (.t 12) (.t 12)⟩,
   ⟨some 6, none, .move (.t 13)⟩])
  (.seq (.region none [⟨some 7, none, .move (.c (.int .u64 0))⟩])
  (.seq (.seq (.region none [⟨some 14, none, .move (.t 0)⟩,
   ⟨some 15, none, .len false (.t 14)⟩,
   ⟨some 16, none, .move (.c (.int .i64 0))⟩])
  (.block 0 (.loop (.n (.n (.n (.n (.n .e true .e) true .e) false .e) true .e) true (.n (.n (.n (.n .e true .e) false .e) false .e) false (.n .e true .e))) (c190_5))))
  (c190_7))))
noncomputable def c190 : AFn := { np := 2, nt := 49, results := [.t 4, .t 5], keep := false, body := c190_b }
noncomputable def c191_1 : ACode := .block 1 (.region none [⟨some 16, none, .move (.t 3)⟩,
   ⟨some 17, none, .bin .sub (.t 16) (.c (.int .i64 1))⟩,
   ⟨some 3, none, .move (.t 17)⟩])
noncomputable def c191_2 : ACode := .mask (.n (.n (.n .e true .e) false .e) true .e) (c191_1)
noncomputable def c191_3 : ACode := .seq (.seq (.region none [⟨some 6, none, .move (.t 3)⟩,
   ⟨some 7, none, .bin .gtr (.t 6) (.c (.int .i64 0))⟩,
   ⟨some 8, none, .move (.t 7)⟩,
   ⟨some 9, (some (8, true)), .move (.t 0)⟩,
   ⟨some 10, (some (8, true)), .move (.t 3)⟩,
   ⟨some 11, (some (8, true)), .bin .sub (.t 10) (.c (.int .i64 1))⟩,
   ⟨some 12, (some (8, true)), .idxSl 1 (.t 9) (.t 11)⟩,
   ⟨some 13, (some (8, true)), .load none (.t 12)⟩,
   ⟨some 14, (some (8, true)), .bin .eql (.t 13) (.c (.int .u32 0))⟩,
   ⟨some 15, none, .pick (.t 8) (.t 14) (.c (.bool false))⟩])
  (.cond (.t 15) (.skip)
  (.exit 0)))
  (c191_2)
noncomputable def c191_4 : ACode := .seq (.region none [⟨some 18, none, .move (.t 0)⟩,
   ⟨some 19, none, .move (.t 3)⟩,
   ⟨some 20, none, .slice 1 (.t 18) none (some (.t 19)) none⟩,
   ⟨some 2, none, .move (.t 20)⟩])
  (.ret)
noncomputable def c191_5 : ACode := .mask (.n (.n (.n .e true .e) false .e) true .e) (c191_4)
noncomputable def c191_b : ACode := .seq (.region none [⟨some 2, none, .move (.c (.sl 1 [] .nil))⟩])
  (.seq (.region none [⟨some 4, none, .move (.t 0)⟩,
   ⟨some 5, none, .len false (.t 4)⟩,
   ⟨some 3, none, .move (.t 5)⟩])
  (.seq (.block 0 (.loop (.n (.n (.n .e true .e) false .e) true .e) (c191_3)))
  (c191_5)))
noncomputable def c191 : AFn := { np := 1, nt := 21, results := [.t 2], keep := false, body := c191_b }
noncomputable def c192_b : ACode := .seq (.region none [⟨some 2, none, .move (.c (.int .i64 0))⟩])
  (.seq (.region none [⟨some 3, none, .move (.t 0)⟩,
   ⟨some 4, none, .call 204 [.t 3]⟩,
   ⟨some 5, none, .bin .sub (.c (.int .i64 32)) (.t 4)⟩,
   ⟨some 2, none, .move (.t 5)⟩])
  (.ret))
noncomputable def c192 : AFn := { np := 1, nt := 6, results := [.t 2], keep := false, body := c192_b }
noncomputable def c193_1 : ACode := .region none [⟨some 49, none, .bin .add (.t 17) (.c (.int .i64 1))⟩,
   ⟨some 17, none, .move (.t 49)⟩]
noncomputable def c193_2 : ACode := .mask (.n (.n .e true (.n (.n (.n .e true .e) false .e) true .e)) true (.n (.n (.n (.n .e true .e) false .e) false .e) false .e)) (c193_1)
noncomputable def c193_3 : ACode := .seq (.block 1 (.seq (.region none [⟨some 19, none, .move (.t 17)⟩,
   ⟨some 6, none, .move (.t 19)⟩])
  (.seq (.region none [⟨some 20, none, .move (.t 0)⟩,
   ⟨some 21, none, .move (.t 6)⟩,
   ⟨some 22, none, .idxSl 1 (.t 20) (.t 21)⟩,
   ⟨some 23, none, .load none (.t 22)⟩,
   ⟨some 24, none, .convInt .u64 (.t 23)⟩,
   ⟨some 25, none, .move (.t 1)⟩,
   ⟨some 26, none, .bin .rem (.t 25) (.c (.int .i64 32))⟩,
   ⟨some 27, none, .bin .shl (.t 24) (.t 26)⟩,
   ⟨some 7, none, .move (.t 27)⟩])
  (.seq (.region none [⟨some 28, none, .move (.t 5)⟩,
   ⟨some 29, none, .move (.t 6)⟩,
   ⟨some 30, none, .move (.t 1)⟩,
   ⟨some 31, none, .bin .quo (.t 30) (.c (.int .i64 32))⟩,
   ⟨some 32, none, .bin .add (.t 29) (.t 31)⟩,
   ⟨some 33, none, .idxSl 1 (.t 28) (.t 32)⟩,
   ⟨some 34, none, .load none (.t 33)⟩,
   ⟨some 35, none, .move (.t 7)⟩,
   ⟨some 36, none, .convInt .u32 (.t 35)⟩,
   ⟨some 37, none, .bin .or (.t 34) (.t 36)⟩,
   ⟨some 38, none, .idxSl 1 (.t 28) (.t 32)⟩,
   ⟨none, none, .store 1 (.t 38) (.t 37)⟩])
  (.region none [⟨some 39, none, .move (.t 5)⟩,
   ⟨some 40, none, .move (.t 6)⟩,
   ⟨some 41, none, .move (.t 1)⟩,
   ⟨some 42, none, .bin .quo (.t 41) (.c (.int .i64 32))⟩,
   ⟨some 43, none, .bin .add (.t 40) (.t 42)⟩,
   ⟨some 44, none, .bin .add (.t 43) (.c (.int .i64 1))⟩,
   ⟨some 45, none, .move (.t 7)⟩,
   ⟨some 46, none, .bin .shr (.t 45) (.c (.int .u64 32))⟩,
   ⟨some 47, none, .convInt .u32 (.t 46)⟩,
   ⟨some 48, none, .idxSl 1 (.t 39) (.t 44)⟩,
   ⟨none, none, .store 1 (.t 48) (.t 47)⟩])))))
  (c193_2)
noncomputable def c193_4 : ACode := .mask (.n (.n .e true (.n (.n (.n .e true .e) false .e) true .e)) true (.n (.n (.n (.n .e true .e) false .e) false .e) false .e)) (c193_3)
noncomputable def c193_5 : ACode := .seq (.region none [⟨some 18, none, .bin .lss (.t 17) (.t 16)⟩])
  (.seq (.cond (.t 18) (.skip)
  (.exit 0))
  (c193_4))
noncomputable def c193_6 : ACode := .seq (.region none [⟨some 50, none, .move (.t 5)⟩,
   ⟨some 51, none, .call 191 [.t 50]⟩,
   ⟨some 4, none, .move (.t 51)⟩])
  (.ret)
noncomputable def c193_7 : ACode := .mask (.n (.n .e false (.n .e true .e)) false .e) (c193_6)
noncomputable def c193_b : ACode := .seq (.region none [⟨some 4, none, .move (.c (.sl 1 [] .nil))⟩])
  (.seq (.region none [⟨some 8, none, .move (.t 0)⟩,
   ⟨some 9, none, .len false (.t 8)⟩,
   ⟨some 10, none, .move (.t 1)⟩,
   ⟨some 11, none, .bin .quo (.t 10) (.c (.int .i64 32))⟩,
   ⟨some 12, none, .bin .add (.t 9) (.t 11)⟩,
   ⟨some 13, none, .bin .add (.t 12) (.c (.int .i64 1))⟩,
   ⟨some 14, none, .makeSlice [.int .u32 0] 4 (.t 13) (.t 13)⟩,
   ⟨some 5, none, .move (.t 14)⟩])
  (.seq (.seq (.region none [⟨some 15, none, .move (.t 0)⟩,
   ⟨some 16, none, .len false (.t 15)⟩,
   ⟨some 17, none, .move (.c (.int .i64 0))⟩])
  (.block 0 (.loop (.n (.n .e true (.n (.n (.n .e true .e) false .e) true .e)) true (.n (.n (.n (.n .e true .e) false .e) false .e) false .e)) (c193_5))))
  (c193_7)))
noncomputable def c193 : AFn := { np := 2, nt := 52, results := [.t 4], keep := false, body := c193_b }
noncomputable def c194_1 : ACode := .region none [⟨some 54, none, .bin .add (.t 19) (.c (.int .i64 1))⟩,
   ⟨some 19, none, .move (.t 54)⟩]
noncomputable def c194_2 : ACode := .mask (.n (.n (.n .e true (.n (.n .e true .e) false .e)) true (.n (.n .e true .e) false .e)) true (.n .e true (.n (.n (.n .e true .e) true .e) false .e))) (c194_1)
noncomputable def c194_3 : ACode := .seq (.block 1 (.seq (.region none [⟨some 21, none, .move (.t 19)⟩,
   ⟨some 11, none, .move (.t 21)⟩])
  (.seq (.region none [⟨some 22, none, .move (.t 3)⟩,
   ⟨some 23, none, .move (.t 2)⟩,
   ⟨some 24, none, .move (.t 11)⟩,
   ⟨some 25, none, .idxSl 1 (.t 23) (.t 24)⟩,
   ⟨some 26, none, .load none (.t 25)⟩,
   ⟨some 27, none, .convInt .u64 (.t 26)⟩,
   ⟨some 28, none, .bin .mul (.t 22) (.t 27)⟩,
   ⟨some 29, none, .move (.t 9)⟩,
   ⟨some 30, none, .bin .add (.t 28) (.t 29)⟩,
   ⟨some 12, none, .move (.t 30)⟩])
  (.seq (.region none [⟨some 31, none, .move (.t 12)⟩,
   ⟨some 32, none, .bin .shr (.t 31) (.c (.int .u64 32))⟩,
   ⟨some 9, none, .move (.t 32)⟩])
  (.seq (.region none [⟨some 33, none, .move (.t 0)⟩,
   ⟨some 34, none, .move (.t 1)⟩,
   ⟨some 35, none, .move (.t 11)⟩,
   ⟨some 36, none, .bin .add (.t 34) (.t 35)⟩,
   ⟨some 37, none, .idxSl 1 (.t 33) (.t 36)⟩,
   ⟨some 38, none, .load none (.t 37)⟩,
   ⟨some 39, none, .convInt .u64 (.t 38)⟩,
   ⟨some 40, none, .move (.t 12)⟩,
   ⟨some 41, none, .bin .and (.t 40) (.c (.int .u64 4294967295))⟩,
   ⟨some 42, none, .bin .sub (.t 39) (.t 41)⟩,
   ⟨some 43, none, .move (.t 10)⟩,
   ⟨some 44, none, .bin .sub (.t 42) (.t 43)⟩,
   ⟨some 13, none, .move (.t 44)⟩])
  (.seq (.region none [⟨some 45, none, .move (.t 0)⟩,
   ⟨some 46, none, .move (.t 1)⟩,
   ⟨some 47, none, .move (.t 11)⟩,
   ⟨some 48, none, .bin .add (.t 46) (.t 47)⟩,
   ⟨some 49, none, .move (.t 13)⟩,
   ⟨some 50, none, .convInt .u32 (.t 49)⟩,
   ⟨some 51, none, .idxSl 1 (.t 45) (.t 48)⟩,
   ⟨none, none, .store 1 (.t 51) (.t 50)⟩])
  (.region none [⟨some 52, none, .move (.t 13)⟩,
   ⟨some 53, none, .bin .shr (.t 52) (.c (.int .u64 63))⟩,
   ⟨some 10, none, .move (.t 53)⟩])))))))
  (c194_2)
noncomputable def c194_4 : ACode := .mask (.n (.n (.n .e true (.n (.n .e true .e) false .e)) true (.n (.n .e true .e) false .e)) true (.n .e true (.n (.n (.n .e true .e) true .e) false .e))) (c194_3)
noncomputable def c194_5 : ACode := .seq (.region none [⟨some 20, none, .bin .lss (.t 19) (.t 18)⟩])
  (.seq (.cond (.t 20) (.skip)
  (.exit 0))
  (c194_4))
noncomputable def c194_6 : ACode := .region none [⟨some 109, none, .bin .add (.t 82) (.c (.int .i64 1))⟩,
   ⟨some 82, none, .move (.t 109)⟩]
noncomputable def c194_7 : ACode := .mask (.n (.n (.n .e true .e) true (.n (.n (.n .e false (.n (.n .e true .e) false .e)) true .e) false .e)) true (.n .e true (.n (.n (.n .e false (.n (.n .e true .e) false .e)) false .e) false .e))) (c194_6)
noncomputable def c194_8 : ACode := .seq (.block 3 (.seq (.region none [⟨some 84, none, .move (.t 82)⟩,
   ⟨some 15, none, .move (.t 84)⟩])
  (.seq (.region (some []) [⟨some 85, none, .move (.t 0)⟩,
   ⟨some 86, none, .move (.t 1)⟩,
   ⟨some 87, none, .move (.t 15)⟩,
   ⟨some 88, none, .bin .add (.t 86) (.t 87)⟩,
   ⟨some 89, none, .idxSl 1 (.t 85) (.t 88)⟩,
   ⟨some 90, none, .load none (.t 89)⟩,
   ⟨some 91, none, .convInt .u64 (.t 90)⟩,
   ⟨some 92, none, .move (.t 2)⟩,
   ⟨some 93, none, .move (.t 15)⟩,
   ⟨some 94, none, .idxSl 1 (.t 92) (.t 93)⟩,
   ⟨some 95, none, .load none (.t 94)⟩,
   ⟨some 96, none, .convInt .u64 (.t 95)⟩,
   ⟨some 97, none, .bin .add (.t 91) (.t 96)⟩,
   ⟨some 98, none, .move (.t 9)⟩,
   ⟨some 99, none, .bin .add (.t 97) (.t 98)⟩,
   ⟨some 16, none, .move (.t 99)⟩])
  (.seq (.region none [⟨some 100, none, .move (.t 0)⟩,
   ⟨some 101, none, .move (.t 1)⟩,
   ⟨some 102, none, .move (.t 15)⟩,
   ⟨some 103, none, .bin .add (.t 101) (.t 102)⟩,
   ⟨some 104, none, .move (.t 16)⟩,
   ⟨some 105, none, .convInt .u32 (.t 104)⟩,
   ⟨some 106, none, .idxSl 1 (.t 100) (.t 103)⟩,
   ⟨none, none, .store 1 (.t 106) (.t 105)⟩])
  (.region none [⟨some 107, none, .move (.t 16)⟩,
   ⟨some 108, none, .bin .shr (.t 107) (.c (.int .u64 32))⟩,
   ⟨some 9, none, .move (.t 108)⟩])))))
  (c194_7)
noncomputable def c194_9 : ACode := .mask (.n (.n (.n .e true .e) true (.n (.n (.n .e false (.n (.n .e true .e) false .e)) true .e) false .e)) true (.n .e true (.n (.n (.n .e false (.n (.n .e true .e) false .e)) false .e) false .e))) (c194_8)
noncomputable def c194_10 : ACode := .seq (.region none [⟨some 83, none, .bin .lss (.t 82) (.t 81)⟩])
  (.seq (.cond (.t 83) (.skip)
  (.exit 2))
  (c194_9))
noncomputable def c194_11 : ACode := .seq (.region none [⟨some 110, none, .move (.t 0)⟩,
   ⟨some 111, none, .move (.t 1)⟩,
   ⟨some 112, none, .move (.t 2)⟩,
   ⟨some 113, none, .len false (.t 112)⟩,
   ⟨some 114, none, .bin .add (.t 111) (.t 113)⟩,
   ⟨some 115, none, .idxSl 1 (.t 110) (.t 114)⟩,
   ⟨some 116, none, .load none (.t 115)⟩,
   ⟨some 117, none, .move (.t 9)⟩,
   ⟨some 118, none, .convInt .u32 (.t 117)⟩,
   ⟨some 119, none, .bin .add (.t 116) (.t 118)⟩,
   ⟨some 120, none, .idxSl 1 (.t 110) (.t 114)⟩,
   ⟨none, none, .store 1 (.t 120) (.t 119)⟩])
  (.seq (.region none [⟨some 121, none, .move (.t 3)⟩,
   ⟨some 122, none, .bin .sub (.t 121) (.c (.int .u64 1))⟩,
   ⟨some 123, none, .convInt .u32 (.t 122)⟩,
   ⟨some 8, none, .move (.t 123)⟩])
  (.ret))
noncomputable def c194_12 : ACode := .mask (.n (.n (.n .e true .e) true (.n (.n .e true .e) false .e)) true (.n .e true .e)) (c194_11)
noncomputable def c194_13 : ACode := .seq (.region none [⟨some 9, none, .move (.c (.int .u64 0))⟩])
  (.seq (.seq (.region none [⟨some 80, none, .move (.t 2)⟩,
   ⟨some 81, none, .len false (.t 80)⟩,
   ⟨some 82, none, .move (.c (.int .i64 0))⟩])
  (.block 2 (.loop (.n (.n (.n .e true .e) true (.n (.n (.n .e false (.n (.n .e true .e) false .e)) true .e) false .e)) true (.n .e true (.n (.n (.n .e false (.n (.n .e true .e) false .e)) false .e) false .e))) (c194_10))))
  (c194_12))
noncomputable def c194_14 : ACode := .mask (.n (.n (.n .e true .e) true .e) true (.n .e true .e)) (c194_13)
noncomputable def c194_15 : ACode := .seq (.region none [⟨some 55, none, .move (.t 0)⟩,
   ⟨some 56, none, .move (.t 1)⟩,
   ⟨some 57, none, .move (.t 2)⟩,
   ⟨some 58, none, .len false (.t 57)⟩,
   ⟨some 59, none, .bin .add (.t 56) (.t 58)⟩,
   ⟨some 60, none, .idxSl 1 (.t 55) (.t 59)⟩,
   ⟨some 61, none, .load none (.t 60)⟩,
   ⟨some 62, none, .convInt .u64 (.t 61)⟩,
   ⟨some 63, none, .move (.t 9)⟩,
   ⟨some 64, none, .bin .sub (.t 62) (.t 63)⟩,
   ⟨some 65, none, .move (.t 10)⟩,
   ⟨some 66, none, .bin .sub (.t 64) (.t 65)⟩,
   ⟨some 14, none, .move (.t 66)⟩])
  (.seq (.region none [⟨some 67, none, .move (.t 0)⟩,
   ⟨some 68, none, .move (.t 1)⟩,
   ⟨some 69, none, .move (.t 2)⟩,
   ⟨some 70, none, .len false (.t 69)⟩,
   ⟨some 71, none, .bin .add (.t 68) (.t 70)⟩,
   ⟨some 72, none, .move (.t 14)⟩,
   ⟨some 73, none, .convInt .u32 (.t 72)⟩,
   ⟨some 74, none, .idxSl 1 (.t 67) (.t 71)⟩,
   ⟨none, none, .store 1 (.t 74) (.t 73)⟩])
  (.seq (.seq (.region none [⟨some 75, none, .move (.t 14)⟩,
   ⟨some 76, none, .bin .shr (.t 75) (.c (.int .u64 63))⟩,
   ⟨some 77, none, .bin .eql (.t 76) (.c (.int .u64 0))⟩])
  (.cond (.t 77) (.seq (.region none [⟨some 78, none, .move (.t 3)⟩,
   ⟨some 79, none, .convInt .u32 (.t 78)⟩,
   ⟨some 8, none, .move (.t 79)⟩])
  (.ret))
  (.skip)))
  (c194_14)))
noncomputable def c194_16 : ACode := .mask (.n (.n (.n .e true .e) true (.n (.n .e true .e) false .e)) true (.n .e true (.n (.n .e true .e) false .e))) (c194_15)
noncomputable def c194_b : ACode := .seq (.region none [⟨some 8, none, .move (.c (.int .u32 0))⟩])
  (.seq (.region none [⟨some 9, none, .move (.c (.int .u64 0))⟩,
   ⟨some 10, none, .move (.c (.int .u64 0))⟩])
  (.seq (.seq (.region none [⟨some 17, none, .move (.t 2)⟩,
   ⟨some 18, none, .len false (.t 17)⟩,
   ⟨some 19, none, .move (.c (.int .i64 0))⟩])
  (.block 0 (.loop (.n (.n (.n .e true (.n (.n .e true .e) false .e)) true (.n (.n .e true .e) false .e)) true (.n .e true (.n (.n (.n .e true .e) true .e) false .e))) (c194_5))))
  (c194_16)))
noncomputable def c194 : AFn := { np := 4, nt := 124, results := [.t 8], keep := false, body := c194_b }
noncomputable def c195_1 : ACode := .block 1 (.seq (.region none [⟨some 70, none, .move (.t 9)⟩,
   ⟨some 71, none, .bin .sub (.t 70) (.c (.int .u64 1))⟩,
   ⟨some 9, none, .move (.t 71)⟩])
  (.seq (.region none [⟨some 72, none, .move (.t 10)⟩,
   ⟨some 73, none, .move (.t 2)⟩,
   ⟨some 74, none, .move (.t 7)⟩,
   ⟨some 75, none, .bin .sub (.t 74) (.c (.int .i64 1))⟩,
   ⟨some 76, none, .idxSl 1 (.t 73) (.t 75)⟩,
   ⟨some 77, none, .load none (.t 76)⟩,
   ⟨some 78, none, .convInt .u64 (.t 77)⟩,
   ⟨some 79, none, .bin .add (.t 72) (.t 78)⟩,
   ⟨some 10, none, .move (.t 79)⟩])
  (.seq (.region none [⟨some 80, none, .move (.t 10)⟩,
   ⟨some 81, none, .bin .geq (.t 80) (.c (.int .u64 4294967296))⟩])
  (.cond (.t 81) (.exit 0)
  (.skip)))))
noncomputable def c195_2 : ACode := .mask (.n (.n (.n (.n .e true .e) false .e) true (.n (.n .e true .e) false .e)) true (.n .e true (.n (.n .e true .e) false .e))) (c195_1)
noncomputable def c195_3 : ACode := .seq (.seq (.region (some []) [⟨some 46, none, .move (.t 9)⟩,
   ⟨some 47, none, .bin .geq (.t 46) (.c (.int .u64 4294967296))⟩,
   ⟨some 48, none, .move (.t 47)⟩,
   ⟨some 49, (some (48, false)), .move (.t 9)⟩,
   ⟨some 50, (some (48, false)), .move (.t 2)⟩,
   ⟨some 51, (some (48, false)), .move (.t 7)⟩,
   ⟨some 52, (some (48, false)), .bin .sub (.t 51) (.c (.int .i64 2))⟩,
   ⟨some 53, (some (48, false)), .idxSl 1 (.t 50) (.t 52)⟩,
   ⟨some 54, (some (48, false)), .load none (.t 53)⟩,
   ⟨some 55, (some (48, false)), .convInt .u64 (.t 54)⟩,
   ⟨some 56, (some (48, false)), .bin .mul (.t 49) (.t 55)⟩,
   ⟨some 57, (some (48, false)), .move (.t 10)⟩,
   ⟨some 58, (some (48, false)), .bin .shl (.t 57) (.c (.int .u64 32))⟩,
   ⟨some 59, (some (48, false)), .move (.t 0)⟩,
   ⟨some 60, (some (48, false)), .move (.t 1)⟩,
   ⟨some 61, (some (48, false)), .move (.t 7)⟩,
   ⟨some 62, (some (48, false)), .bin .add (.t 60) (.t 61)⟩,
   ⟨some 63, (some (48, false)), .bin .sub (.t 62) (.c (.int .i64 2))⟩,
   ⟨some 64, (some (48, false)), .idxSl 1 (.t 59) (.t 63)⟩,
   ⟨some 65, (some (48, false)), .load none (.t 64)⟩,
   ⟨some 66, (some (48, false)), .convInt .u64 (.t 65)⟩,
   ⟨some 67, (some (48, false)), .bin .or (.t 58) (.t 66)⟩,
   ⟨some 68, (some (48, false)), .bin .gtr (.t 56) (.t 67)⟩,
   ⟨some 69, none, .pick (.t 48) (.c (.bool true)) (.t 68)⟩])
  (.cond (.t 69) (.skip)
  (.exit 0)))
  (c195_2)
noncomputable def c195_4 : ACode := .seq (.region none [⟨some 82, none, .move (.t 9)⟩,
   ⟨some 6, none, .move (.t 82)⟩])
  (.ret)
noncomputable def c195_5 : ACode := .mask (.n (.n .e false (.n (.n .e true .e) false .e)) false .e) (c195_4)
noncomputable def c195_b : ACode := .seq (.region none [⟨some 6, none, .move (.c (.int .u64 0))⟩])
  (.seq (.region none [⟨some 11, none, .move (.t 2)⟩,
   ⟨some 12, none, .len false (.t 11)⟩,
   ⟨some 7, none, .move (.t 12)⟩])
  (.seq (.region (some []) [⟨some 13, none, .move (.t 0)⟩,
   ⟨some 14, none, .move (.t 1)⟩,
   ⟨some 15, none, .move (.t 7)⟩,
   ⟨some 16, none, .bin .add (.t 14) (.t 15)⟩,
   ⟨some 17, none, .idxSl 1 (.t 13) (.t 16)⟩,
   ⟨some 18, none, .load none (.t 17)⟩,
   ⟨some 19, none, .convInt .u64 (.t 18)⟩,
   ⟨some 20, none, .bin .shl (.t 19) (.c (.int .u64 32))⟩,
   ⟨some 21, none, .move (.t 0)⟩,
   ⟨some 22, none, .move (.t 1)⟩,
   ⟨some 23, none, .move (.t 7)⟩,
   ⟨some 24, none, .bin .add (.t 22) (.t 23)⟩,
   ⟨some 25, none, .bin .sub (.t 24) (.c (.int .i64 1))⟩,
   ⟨some 26, none, .idxSl 1 (.t 21) (.t 25)⟩,
   ⟨some 27, none, .load none (.t 26)⟩,
   ⟨some 28, none, .convInt .u64 (.t 27)⟩,
   ⟨some 29, none, .bin .or (.t 20) (.t 28)⟩,
   ⟨some 8, none, .move (.t 29)⟩])
  (.seq (.region none [⟨some 30, none, .move (.t 8)⟩,
   ⟨some 31, none, .move (.t 2)⟩,
   ⟨some 32, none, .move (.t 7)⟩,
   ⟨some 33, none, .bin .sub (.t 32) (.c (.int .i64 1))⟩,
   ⟨some 34, none, .idxSl 1 (.t 31) (.t 33)⟩,
   ⟨some 35, none, .load none (.t 34)⟩,
   ⟨some 36, none, .convInt .u64 (.t 35)⟩,
   ⟨some 37, none, .bin .quo (.t 30) (.t 36)⟩,
   ⟨some 9, none, .move (.t 37)⟩])
  (.seq (.region none [⟨some 38, none, .move (.t 8)⟩,
   ⟨some 39, none, .move (.t 2)⟩,
   ⟨some 40, none, .move (.t 7)⟩,
   ⟨some 41, none, .bin .sub (.t 40) (.c (.int .i64 1))⟩,
   ⟨some 42, none, .idxSl 1 (.t 39) (.t 41)⟩,
   ⟨some 43, none, .load none (.t 42)⟩,
   ⟨some 44, none, .convInt .u64 (.t 43)⟩,
   ⟨some 45, none, .bin .rem (.t 38) (.t 44)⟩,
   ⟨some 10, none, .move (.t 45)⟩])
  (.seq (.block 0 (.loop (.n (.n (.n (.n .e true .e) false .e) true (.n (.n .e true .e) false .e)) true (.n .e true (.n (.n .e true .e) false .e))) (c195_3)))
  (c195_5))))))
noncomputable def c195 : AFn := { np := 3, nt := 83, results := [.t 6], keep := false, body := c195_b }
noncomputable def c196_1 : ACode := .region none [⟨some 73, none, .move (.t 8)⟩,
   ⟨some 74, none, .move (.t 9)⟩,
   ⟨some 75, none, .move (.t 10)⟩,
   ⟨some 76, none, .move (.t 1)⟩,
   ⟨some 77, none, .bin .rem (.t 76) (.c (.int .i64 32))⟩,
   ⟨some 78, none, .bin .shr (.t 75) (.t 77)⟩,
   ⟨some 79, none, .convInt .u32 (.t 78)⟩,
   ⟨some 80, none, .idxSl 1 (.t 73) (.t 74)⟩,
   ⟨none, none, .store 1 (.t 80) (.t 79)⟩]
noncomputable def c196_2 : ACode := .mask (.n (.n (.n (.n .e true .e) false .e) true (.n (.n .e true .e) false (.n .e false (.n (.n .e true .e) false .e)))) true (.n (.n (.n .e true .e) false (.n .e false (.n (.n .e true .e) false .e))) false (.n (.n .e true .e) true .e))) (c196_1)
noncomputable def c196_3 : ACode := .region none [⟨some 81, none, .bin .add (.t 45) (.c (.int .i64 1))⟩,
   ⟨some 45, none, .move (.t 81)⟩]
noncomputable def c196_4 : ACode := .mask (.n (.n (.n (.n .e true .e) false .e) true (.n .e false (.n .e false (.n (.n .e true .e) false .e)))) true (.n (.n (.n .e true .e) false (.n .e false (.n (.n .e true .e) false .e))) false (.n .e true .e))) (c196_3)
noncomputable def c196_5 : ACode := .seq (.block 1 (.seq (.region none [⟨some 47, none, .move (.t 45)⟩,
   ⟨some 9, none, .move (.t 47)⟩])
  (.seq (.region none [⟨some 48, none, .move (.t 0)⟩,
   ⟨some 49, none, .move (.t 9)⟩,
   ⟨some 50, none, .move (.t 6)⟩,
   ⟨some 51, none, .bin .add (.t 49) (.t 50)⟩,
   ⟨some 52, none, .idxSl 1 (.t 48) (.t 51)⟩,
   ⟨some 53, none, .load none (.t 52)⟩,
   ⟨some 54, none, .convInt .u64 (.t 53)⟩,
   ⟨some 10, none, .move (.t 54)⟩])
  (.seq (.seq (.region none [⟨some 55, none, .move (.t 9)⟩,
   ⟨some 56, none, .move (.t 6)⟩,
   ⟨some 57, none, .bin .add (.t 55) (.t 56)⟩,
   ⟨some 58, none, .bin .add (.t 57) (.c (.int .i64 1))⟩,
   ⟨some 59, none, .move (.t 0)⟩,
   ⟨some 60, none, .len false (.t 59)⟩,
   ⟨some 61, none, .bin .lss (.t 58) (.t 60)⟩])
  (.cond (.t 61) (.region none [⟨some 62, none, .move (.t 10)⟩,
   ⟨some 63, none, .move (.t 0)⟩,
   ⟨some 64, none, .move (.t 9)⟩,
   ⟨some 65, none, .move (.t 6)⟩,
   ⟨some 66, none, .bin .add (.t 64) (.t 65)⟩,
   ⟨some 67, none, .bin .add (.t 66) (.c (.int .i64 1))⟩,
   ⟨some 68, none, .idxSl 1 (.t 63) (.t 67)⟩,
   ⟨some 69, none, .load none (.t 68)⟩,
   ⟨some 70, none, .convInt .u64 (.t 69)⟩,
   ⟨some 71, none, .bin .shl (.t 70) (.c (.int .u64 32))⟩,
   ⟨some 72, none, .bin .or (.t 62) (.t 71)⟩,
   ⟨some 10, none, .move (.t 72)⟩])
  (.skip)))
  (c196_2)))))
  (c196_4)
noncomputable def c196_6 : ACode := .mask (.n (.n (.n (.n .e true .e) false .e) true (.n .e false (.n .e false (.n (.n .e true .e) false .e)))) true (.n (.n (.n .e true .e) false (.n .e false (.n (.n .e true .e) false .e))) false (.n .e true .e))) (c196_5)
noncomputable def c196_7 : ACode := .seq (.region none [⟨some 46, none, .bin .lss (.t 45) (.t 44)⟩])
  (.seq (.cond (.t 46) (.skip)
  (.exit 0))
  (c196_6))
noncomputable def c196_8 : ACode := .seq (.region none [⟨some 82, none, .move (.t 8)⟩,
   ⟨some 83, none, .call 191 [.t 82]⟩,
   ⟨some 84, none, .move (.t 7)⟩,
   ⟨some 4, none, .move (.t 83)⟩,
   ⟨some 5, none, .move (.t 84)⟩])
  (.ret)
noncomputable def c196_9 : ACode := .mask (.n (.n (.n (.n .e true .e) false .e) false .e) false (.n (.n (.n .e true .e) false .e) false .e)) (c196_8)
noncomputable def c196_10 : ACode := .seq (.region (some []) [⟨some 20, none, .move (.t 0)⟩,
   ⟨some 21, none, .move (.t 6)⟩,
   ⟨some 22, none, .slice 1 (.t 20) none (some (.t 21)) none⟩,
   ⟨some 23, none, .call 191 [.t 22]⟩,
   ⟨some 24, none, .len false (.t 23)⟩,
   ⟨some 25, none, .bin .gtr (.t 24) (.c (.int .i64 0))⟩,
   ⟨some 26, none, .move (.t 25)⟩,
   ⟨some 27, (some (26, false)), .move (.t 0)⟩,
   ⟨some 28, (some (26, false)), .move (.t 6)⟩,
   ⟨some 29, (some (26, false)), .idxSl 1 (.t 27) (.t 28)⟩,
   ⟨some 30, (some (26, false)), .load none (.t 29)⟩,
   ⟨some 31, (some (26, false)), .move (.t 1)⟩,
   ⟨some 32, (some (26, false)), .bin .rem (.t 31) (.c (.int .i64 32))⟩,
   ⟨some 33, (some (26, false)), .bin .shl (.c (.int .u32 1)) (.t 32)⟩,
   ⟨some 34, (some (26, false)), .bin .sub (.t 33) (.c (.int .u32 1))⟩,
   ⟨some 35, (some (26, false)), .bin .and (.t 30) (.t 34)⟩,
   ⟨some 36, (some (26, false)), .bin .neq (.t 35) (.c (.int .u32 0))⟩,
   ⟨some 37, none, .pick (.t 26) (.c (.bool true)) (.t 36)⟩,
   ⟨some 7, none, .move (.t 37)⟩])
  (.seq (.region none [⟨some 38, none, .move (.t 0)⟩,
   ⟨some 39, none, .len false (.t 38)⟩,
   ⟨some 40, none, .move (.t 6)⟩,
   ⟨some 41, none, .bin .sub (.t 39) (.t 40)⟩,
   ⟨some 42, none, .makeSlice [.int .u32 0] 4 (.t 41) (.t 41)⟩,
   ⟨some 8, none, .move (.t 42)⟩])
  (.seq (.seq (.region none [⟨some 43, none, .move (.t 8)⟩,
   ⟨some 44, none, .len false (.t 43)⟩,
   ⟨some 45, none, .move (.c (.int .i64 0))⟩])
  (.block 0 (.loop (.n (.n (.n (.n .e true .e) false .e) true (.n .e false (.n .e false (.n (.n .e true .e) false .e)))) true (.n (.n (.n .e true .e) false (.n .e false (.n (.n .e true .e) false .e))) false (.n .e true .e))) (c196_7))))
  (c196_9)))
noncomputable def c196_11 : ACode := .mask (.n (.n .e true .e) true (.n .e false (.n .e true .e))) (c196_10)
noncomputable def c196_b : ACode := .seq (.region none [⟨some 4, none, .move (.c (.sl 1 [] .nil))⟩,
   ⟨some 5, none, .move (.c (.bool false))⟩])
  (.seq (.region none [⟨some 11, none, .move (.t 1)⟩,
   ⟨some 12, none, .bin .quo (.t 11) (.c (.int .i64 32))⟩,
   ⟨some 6, none, .move (.t 12)⟩])
  (.seq (.seq (.region none [⟨some 13, none, .move (.t 6)⟩,
   ⟨some 14, none, .move (.t 0)⟩,
   ⟨some 15, none, .len false (.t 14)⟩,
   ⟨some 16, none, .bin .geq (.t 13) (.t 15)⟩])
  (.cond (.t 16) (.seq (.region none [⟨some 17, none, .move (.t 0)⟩,
   ⟨some 18, none, .len false (.t 17)⟩,
   ⟨some 19, none, .bin .gtr (.t 18) (.c (.int .i64 0))⟩,
   ⟨some 4, none, .move (.c (.sl 1 [] .nil))⟩,
   ⟨some 5, none, .move (.t 19)⟩])
  (.ret))
  (.skip)))
  (c196_11)))
noncomputable def c196 : AFn := { np := 2, nt := 85, results := [.t 4, .t 5], keep := false, body := c196_b }
noncomputable def c197_1 : ACode := .region none [⟨some 162, none, .move (.t 17)⟩,
   ⟨some 13, none, .move (.t 162)⟩]
noncomputable def c197_2 : ACode := .mask (.n (.n (.n .e false (.n (.n (.n .e false (.n .e true .e)) false .e) true .e)) true (.n (.n (.n .e true .e) true .e) false (.n (.n (.n .e false (.n .e true .e)) false .e) false .e))) false (.n (.n (.n .e true .e) false (.n (.n (.n .e false (.n .e true .e)) false .e) true .e)) false (.n (.n .e true .e) false .e))) (c197_1)
noncomputable def c197_3 : ACode := .seq (.region none [⟨some 144, none, .move (.t 13)⟩,
   ⟨some 145, none, .move (.t 1)⟩,
   ⟨some 146, none, .convInt .u64 (.t 145)⟩,
   ⟨some 147, none, .bin .mul (.t 144) (.t 146)⟩,
   ⟨some 13, none, .move (.t 147)⟩])
  (.seq (.region none [⟨some 148, none, .move (.t 13)⟩,
   ⟨some 149, none, .move (.t 16)⟩,
   ⟨some 150, none, .convInt .u64 (.t 149)⟩,
   ⟨some 151, none, .bin .add (.t 148) (.t 150)⟩,
   ⟨some 17, none, .move (.t 151)⟩])
  (.seq (.seq (.region none [⟨some 152, none, .move (.t 17)⟩,
   ⟨some 153, none, .move (.t 13)⟩,
   ⟨some 154, none, .bin .lss (.t 152) (.t 153)⟩,
   ⟨some 155, none, .move (.t 154)⟩,
   ⟨some 156, (some (155, false)), .move (.t 17)⟩,
   ⟨some 157, (some (155, false)), .move (.t 11)⟩,
   ⟨some 158, (some (155, false)), .bin .gtr (.t 156) (.t 157)⟩,
   ⟨some 159, none, .pick (.t 155) (.c (.bool true)) (.t 158)⟩])
  (.cond (.t 159) (.seq (.region none [⟨some 160, none, .move (.t 11)⟩,
   ⟨some 161, none, .mkIface 188 (.c (.int .i64 1))⟩,
   ⟨some 6, none, .move (.t 160)⟩,
   ⟨some 7, none, .move (.t 161)⟩])
  (.ret))
  (.skip)))
  (c197_2)))
noncomputable def c197_4 : ACode := .mask (.n (.n (.n .e false (.n (.n (.n .e false (.n .e true .e)) false .e) true .e)) true (.n (.n .e true .e) false (.n (.n (.n .e false (.n .e true .e)) false .e) true .e))) false (.n (.n (.n (.n .e true .e) true .e) false (.n (.n (.n .e false (.n .e true .e)) false .e) true .e)) false (.n (.n .e true .e) false .e))) (c197_3)
noncomputable def c197_5 : ACode := .seq (.seq (.region none [⟨some 139, none, .move (.t 13)⟩,
   ⟨some 140, none, .move (.t 10)⟩,
   ⟨some 141, none, .bin .geq (.t 139) (.t 140)⟩])
  (.cond (.t 141) (.seq (.region none [⟨some 142, none, .move (.t 11)⟩,
   ⟨some 143, none, .mkIface 188 (.c (.int .i64 1))⟩,
   ⟨some 6, none, .move (.t 142)⟩,
   ⟨some 7, none, .move (.t 143)⟩])
  (.ret))
  (.skip)))
  (c197_4)
noncomputable def c197_6 : ACode := .mask (.n (.n (.n .e false (.n (.n (.n .e false (.n .e true .e)) false .e) true .e)) true (.n (.n .e true .e) false (.n (.n (.n .e false (.n .e true .e)) false .e) true .e))) false (.n (.n (.n (.n .e true .e) true .e) false (.n (.n (.n .e false (.n .e true .e)) false .e) true .e)) false (.n (.n .e true .e) false .e))) (c197_5)
noncomputable def c197_7 : ACode := .seq (.seq (.region none [⟨some 134, none, .move (.t 16)⟩,
   ⟨some 135, none, .move (.t 1)⟩,
   ⟨some 136, none, .convInt .u8 (.t 135)⟩,
   ⟨some 137, none, .bin .geq (.t 134) (.t 136)⟩])
  (.cond (.t 137) (.seq (.region none [⟨some 138, none, .mkIface 188 (.c (.int .i64 2))⟩,
   ⟨some 6, none, .move (.c (.int .u64 0))⟩,
   ⟨some 7, none, .move (.t 138)⟩])
  (.ret))
  (.skip)))
  (c197_6)
noncomputable def c197_8 : ACode := .mask (.n (.n (.n .e false (.n (.n (.n .e false (.n .e true .e)) false .e) true .e)) true (.n (.n .e true .e) false (.n (.n (.n .e false (.n .e true .e)) false .e) true .e))) false (.n (.n (.n (.n .e true .e) true .e) false (.n (.n (.n .e false (.n .e true .e)) false .e) true .e)) false (.n (.n .e true .e) false .e))) (c197_7)
noncomputable def c197_9 : ACode := .region none [⟨some 163, none, .bin .add (.t 101) (.c (.int .i64 1))⟩,
   ⟨some 101, none, .move (.t 163)⟩]
noncomputable def c197_10 : ACode := .mask (.n (.n (.n .e false (.n (.n (.n .e false (.n .e true .e)) false .e) true .e)) true (.n (.n .e true .e) false (.n (.n (.n .e false (.n .e true .e)) false .e) true .e))) false (.n (.n (.n .e true .e) false (.n (.n (.n .e false (.n .e true .e)) false .e) true .e)) false (.n (.n .e true .e) false .e))) (c197_9)
noncomputable def c197_11 : ACode := .seq (.block 4 (.seq (.region none [⟨some 103, none, .idxSl 1 (.t 99) (.t 101)⟩,
   ⟨some 104, none, .load none (.t 103)⟩,
   ⟨some 15, none, .move (.t 104)⟩])
  (.seq (.region none [⟨some 16, none, .move (.c (.int .u8 0))⟩])
  (.seq (.block 5 (.seq (.region none [⟨some 107, none, .move (.t 15)⟩,
   ⟨some 108, none, .bin .eql (.t 107) (.c (.int .u8 95))⟩,
   ⟨some 109, none, .move (.t 108)⟩,
   ⟨some 110, (some (109, true)), .move (.t 8)⟩,
   ⟨some 111, none, .pick (.t 109) (.t 110) (.c (.bool false))⟩,
   ⟨some 106, none, .move (.t 111)⟩])
  (.cond (.t 106) (.seq (.region none [⟨some 12, none, .move (.c (.bool true))⟩])
  (.exit 4))
  (.seq (.region none [⟨some 113, none, .move (.t 15)⟩,
   ⟨some 114, none, .bin .leq (.c (.int .u8 48)) (.t 113)⟩,
   ⟨some 115, none, .move (.t 114)⟩,
   ⟨some 116, (some (115, true)), .move (.t 15)⟩,
   ⟨some 117, (some (115, true)), .bin .leq (.t 116) (.c (.int .u8 57))⟩,
   ⟨some 118, none, .pick (.t 115) (.t 117) (.c (.bool false))⟩,
   ⟨some 112, none, .move (.t 118)⟩])
  (.cond (.t 112) (.region none [⟨some 119, none, .move (.t 15)⟩,
   ⟨some 120, none, .bin .sub (.t 119) (.c (.int .u8 48))⟩,
   ⟨some 16, none, .move (.t 120)⟩])
  (.seq (.region none [⟨some 122, none, .move (.t 15)⟩,
   ⟨some 123, none, .call 205 [.t 122]⟩,
   ⟨some 124, none, .bin .leq (.c (.int .u8 97)) (.t 123)⟩,
   ⟨some 125, none, .move (.t 124)⟩,
   ⟨some 126, (some (125, true)), .move (.t 15)⟩,
   ⟨some 127, (some (125, true)), .call 205 [.t 126]⟩,
   ⟨some 128, (some (125, true)), .bin .leq (.t 127) (.c (.int .u8 122))⟩,
   ⟨some 129, none, .pick (.t 125) (.t 128) (.c (.bool false))⟩,
   ⟨some 121, none, .move (.t 129)⟩])
  (.cond (.t 121) (.region none [⟨some 130, none, .move (.t 15)⟩,
   ⟨some 131, none, .call 205 [.t 130]⟩,
   ⟨some 132, none, .bin .sub (.t 131) (.c (.int .u8 97))⟩,
   ⟨some 133, none, .bin .add (.t 132) (.c (.int .u8 10))⟩,
   ⟨some 16, none, .move (.t 133)⟩])
  (.seq (.region none [⟨some 105, none, .mkIface 188 (.c (.int .i64 2))⟩,
   ⟨some 6, none, .move (.c (.int .u64 0))⟩,
   ⟨some 7, none, .move (.t 105)⟩])
  (.ret)))))))))
  (c197_8)))))
  (c197_10)
noncomputable def c197_12 : ACode := .mask (.n (.n (.n .e false (.n (.n (.n .e false (.n .e true .e)) false .e) true .e)) true (.n (.n .e true .e) false (.n (.n (.n .e false (.n .e true .e)) false .e) true .e))) false (.n (.n (.n .e true .e) false (.n (.n (.n .e false (.n .e true .e)) false .e) true .e)) false (.n (.n .e true .e) false .e))) (c197_11)
noncomputable def c197_13 : ACode := .seq (.region none [⟨some 102, none, .bin .lss (.t 101) (.t 100)⟩])
  (.seq (.cond (.t 102) (.skip)
  (.exit 3))
  (c197_12))
noncomputable def c197_14 : ACode := .seq (.region none [⟨some 171, none, .move (.t 13)⟩,
   ⟨some 6, none, .move (.t 171)⟩,
   ⟨some 7, none, .move (.c .nili)⟩])
  (.ret)
noncomputable def c197_15 : ACode := .mask (.n (.n .e false (.n .e false (.n .e true .e))) false .e) (c197_14)
noncomputable def c197_16 : ACode := .seq (.seq (.region none [⟨some 164, none, .move (.t 12)⟩,
   ⟨some 165, none, .move (.t 164)⟩,
   ⟨some 166, (some (165, true)), .move (.t 9)⟩,
   ⟨some 167, (some (165, true)), .call 206 [.t 166]⟩,
   ⟨some 168, (some (165, true)), .un .not (.t 167)⟩,
   ⟨some 169, none, .pick (.t 165) (.t 168) (.c (.bool false))⟩])
  (.cond (.t 169) (.seq (.region none [⟨some 170, none, .mkIface 188 (.c (.int .i64 2))⟩,
   ⟨some 6, none, .move (.c (.int .u64 0))⟩,
   ⟨some 7, none, .move (.t 170)⟩])
  (.ret))
  (.skip)))
  (c197_15)
noncomputable def c197_17 : ACode := .mask (.n (.n .e false (.n (.n .e true .e) false (.n .e true .e))) false (.n (.n .e false (.n .e true .e)) false .e)) (c197_16)
noncomputable def c197_18 : ACode := .seq (.region none [⟨some 94, none, .move (.t 2)⟩,
   ⟨some 95, none, .convInt .u64 (.t 94)⟩,
   ⟨some 96, none, .bin .shl (.c (.int .u64 1)) (.t 95)⟩,
   ⟨some 97, none, .bin .sub (.t 96) (.c (.int .u64 1))⟩,
   ⟨some 11, none, .move (.t 97)⟩])
  (.seq (.region none [⟨some 12, none, .move (.c (.bool false))⟩])
  (.seq (.region none [⟨some 13, none, .move (.c (.int .u64 0))⟩])
  (.seq (.seq (.region none [⟨some 98, none, .move (.t 0)⟩,
   ⟨some 99, none, .strToBytes (.t 98)⟩,
   ⟨some 100, none, .len false (.t 99)⟩,
   ⟨some 101, none, .move (.c (.int .i64 0))⟩])
  (.block 3 (.loop (.n (.n (.n .e false (.n (.n (.n .e false (.n .e true .e)) false .e) true .e)) true (.n (.n .e true .e) false (.n (.n (.n .e false (.n .e true .e)) false .e) true .e))) false (.n (.n (.n .e true .e) false (.n (.n (.n .e false (.n .e true .e)) false .e) true .e)) false (.n (.n .e true .e) false .e))) (c197_13))))
  (c197_17))))
noncomputable def c197_19 : ACode := .mask (.n (.n .e true (.n (.n .e true .e) false .e)) true (.n (.n (.n .e true .e) false .e) true (.n (.n .e true .e) false .e))) (c197_18)
noncomputable def c197_20 : ACode := .seq (.region none [⟨some 10, none, .move (.c (.int .u64 0))⟩])
  (.seq (.seq (.region none [⟨some 85, none, .move (.t 1)⟩])
  (.block 2 (.seq (.region none [⟨some 91, none, .bin .eql (.t 85) (.c (.int .i64 10))⟩,
   ⟨some 90, none, .move (.t 91)⟩])
  (.cond (.t 90) (.region none [⟨some 10, none, .move (.c (.int .u64 1844674407370955162))⟩])
  (.seq (.region none [⟨some 93, none, .bin .eql (.t 85) (.c (.int .i64 16))⟩,
   ⟨some 92, none, .move (.t 93)⟩])
  (.cond (.t 92) (.region none [⟨some 10, none, .move (.c (.int .u64 1152921504606846976))⟩])
  (.region none [⟨some 86, none, .move (.t 1)⟩,
   ⟨some 87, none, .convInt .u64 (.t 86)⟩,
   ⟨some 88, none, .bin .quo (.c (.int .u64 18446744073709551615)) (.t 87)⟩,
   ⟨some 89, none, .bin .add (.t 88) (.c (.int .u64 1))⟩,
   ⟨some 10, none, .move (.t 89)⟩])))))))
  (c197_19))
noncomputable def c197_21 : ACode := .mask (.n (.n .e true (.n (.n .e true .e) false .e)) true (.n (.n (.n .e true .e) false .e) true .e)) (c197_20)
noncomputable def c197_22 : ACode := .seq (.seq (.region none [⟨some 76, none, .move (.t 2)⟩,
   ⟨some 77, none, .bin .eql (.t 76) (.c (.int .i64 0))⟩])
  (.cond (.t 77) (.region none [⟨some 2, none, .move (.c (.int .i64 64))⟩])
  (.seq (.region none [⟨some 78, none, .move (.t 2)⟩,
   ⟨some 79, none, .bin .lss (.t 78) (.c (.int .i64 0))⟩,
   ⟨some 80, none, .move (.t 79)⟩,
   ⟨some 81, (some (80, false)), .move (.t 2)⟩,
   ⟨some 82, (some (80, false)), .bin .gtr (.t 81) (.c (.int .i64 64))⟩,
   ⟨some 83, none, .pick (.t 80) (.c (.bool true)) (.t 82)⟩])
  (.cond (.t 83) (.seq (.region none [⟨some 84, none, .mkIface 188 (.c (.int .i64 4))⟩,
   ⟨some 6, none, .move (.c (.int .u64 0))⟩,
   ⟨some 7, none, .move (.t 84)⟩])
  (.ret))
  (.skip)))))
  (c197_21)
noncomputable def c197_23 : ACode := .mask (.n (.n .e true (.n (.n .e true .e) false .e)) true (.n (.n (.n .e true .e) false .e) true .e)) (c197_22)
noncomputable def c197_24 : ACode := .seq (.region none [⟨some 21, none, .move (.t 1)⟩,
   ⟨some 22, none, .bin .eql (.t 21) (.c (.int .i64 0))⟩,
   ⟨some 8, none, .move (.t 22)⟩])
  (.seq (.region none [⟨some 23, none, .move (.t 0)⟩,
   ⟨some 9, none, .move (.t 23)⟩])
  (.seq (.block 0 (.seq (.region none [⟨some 26, none, .move (.t 1)⟩,
   ⟨some 27, none, .bin .leq (.c (.int .i64 2)) (.t 26)⟩,
   ⟨some 28, none, .move (.t 27)⟩,
   ⟨some 29, (some (28, true)), .move (.t 1)⟩,
   ⟨some 30, (some (28, true)), .bin .leq (.t 29) (.c (.int .i64 36))⟩,
   ⟨some 31, none, .pick (.t 28) (.t 30) (.c (.bool false))⟩,
   ⟨some 25, none, .move (.t 31)⟩])
  (.cond (.t 25) (.skip)
  (.seq (.region none [⟨some 33, none, .move (.t 1)⟩,
   ⟨some 34, none, .bin .eql (.t 33) (.c (.int .i64 0))⟩,
   ⟨some 32, none, .move (.t 34)⟩])
  (.cond (.t 32) (.seq (.region none [⟨some 1, none, .move (.c (.int .i64 10))⟩])
  (.seq (.region none [⟨some 35, none, .move (.t 0)⟩,
   ⟨some 36, none, .idxStr (.t 35) (.c (.int .i64 0))⟩,
   ⟨some 37, none, .bin .eql (.t 36) (.c (.int .u8 48))⟩])
  (.cond (.t 37) (.block 1 (.seq (.region none [⟨some 41, none, .move (.t 0)⟩,
   ⟨some 42, none, .len true (.t 41)⟩,
   ⟨some 43, none, .bin .geq (.t 42) (.c (.int .i64 3))⟩,
   ⟨some 44, none, .move (.t 43)⟩,
   ⟨some 45, (some (44, true)), .move (.t 0)⟩,
   ⟨some 46, (some (44, true)), .idxStr (.t 45) (.c (.int .i64 1))⟩,
   ⟨some 47, (some (44, true)), .call 205 [.t 46]⟩,
   ⟨some 48, (some (44, true)), .bin .eql (.t 47) (.c (.int .u8 98))⟩,
   ⟨some 49, none, .pick (.t 44) (.t 48) (.c (.bool false))⟩,
   ⟨some 40, none, .move (.t 49)⟩])
  (.cond (.t 40) (.seq (.region none [⟨some 1, none, .move (.c (.int .i64 2))⟩])
  (.region none [⟨some 50, none, .move (.t 0)⟩,
   ⟨some 51, none, .subStr (.t 50) (some (.c (.int .i64 2))) none⟩,
   ⟨some 0, none, .move (.t 51)⟩]))
  (.seq (.region none [⟨some 53, none, .move (.t 0)⟩,
   ⟨some 54, none, .len true (.t 53)⟩,
   ⟨some 55, none, .bin .geq (.t 54) (.c (.int .i64 3))⟩,
   ⟨some 56, none, .move (.t 55)⟩,
   ⟨some 57, (some (56, true)), .move (.t 0)⟩,
   ⟨some 58, (some (56, true)), .idxStr (.t 57) (.c (.int .i64 1))⟩,
   ⟨some 59, (some (56, true)), .call 205 [.t 58]⟩,
   ⟨some 60, (some (56, true)), .bin .eql (.t 59) (.c (.int .u8 111))⟩,
   ⟨some 61, none, .pick (.t 56) (.t 60) (.c (.bool false))⟩,
   ⟨some 52, none, .move (.t 61)⟩])
  (.cond (.t 52) (.seq (.region none [⟨some 1, none, .move (.c (.int .i64 8))⟩])
  (.region none [⟨some 62, none, .move (.t 0)⟩,
   ⟨some 63, none, .subStr (.t 62) (some (.c (.int .i64 2))) none⟩,
   ⟨some 0, none, .move (.t 63)⟩]))
  (.seq (.region none [⟨some 65, none, .move (.t 0)⟩,
   ⟨some 66, none, .len true (.t 65)⟩,
   ⟨some 67, none, .bin .geq (.t 66) (.c (.int .i64 3))⟩,
   ⟨some 68, none, .move (.t 67)⟩,
   ⟨some 69, (some (68, true)), .move (.t 0)⟩,
   ⟨some 70, (some (68, true)), .idxStr (.t 69) (.c (.int .i64 1))⟩,
   ⟨some 71, (some (68, true)), .call 205 [.t 70]⟩,
   ⟨some 72, (some (68, true)), .bin .eql (.t 71) (.c (.int .u8 120))⟩,
   ⟨some 73, none, .pick (.t 68) (.t 72) (.c (.bool false))⟩,
   ⟨some 64, none, .move (.t 73)⟩])
  (.cond (.t 64) (.seq (.region none [⟨some 1, none, .move (.c (.int .i64 16))⟩])
  (.region none [⟨some 74, none, .move (.t 0)⟩,
   ⟨some 75, none, .subStr (.t 74) (some (.c (.int .i64 2))) none⟩,
   ⟨some 0, none, .move (.t 75)⟩]))
  (.seq (.region none [⟨some 1, none, .move (.c (.int .i64 8))⟩])
  (.region none [⟨some 38, none, .move (.t 0)⟩,
   ⟨some 39, none, .subStr (.t 38) (some (.c (.int .i64 1))) none⟩,
   ⟨some 0, none, .move (.t 39)⟩])))))))))
  (.skip))))
  (.seq (.region none [⟨some 24, none, .mkIface 188 (.c (.int .i64 3))⟩,
   ⟨some 6, none, .move (.c (.int .u64 0))⟩,
   ⟨some 7, none, .move (.t 24)⟩])
  (.ret)))))))
  (c197_23)))
noncomputable def c197_25 : ACode := .mask (.n (.n .e true .e) true (.n .e true .e)) (c197_24)
noncomputable def c197_b : ACode := .seq (.region none [⟨some 6, none, .move (.c (.int .u64 0))⟩,
   ⟨some 7, none, .move (.c .nili)⟩])
  (.seq (.seq (.region none [⟨some 18, none, .move (.t 0)⟩,
   ⟨some 19, none, .bin .eql (.t 18) (.c (.str []))⟩])
  (.cond (.t 19) (.seq (.region none [⟨some 20, none, .mkIface 188 (.c (.int .i64 2))⟩,
   ⟨some 6, none, .move (.c (.int .u64 0))⟩,
   ⟨some 7, none, .move (.t 20)⟩])
  (.ret))
  (.skip)))
  (c197_25))
noncomputable def c197 : AFn := { np := 3, nt := 172, results := [.t 6, .t 7], keep := false, body := c197_b }
noncomputable def c198_1 : ACode := .seq (.region none [⟨some 7, none, .move (.t 0)⟩,
   ⟨some 8, none, .len true (.t 7)⟩,
   ⟨some 9, none, .makeSlice [.int .u8 0] 1 (.t 8) (.t 8)⟩,
   ⟨some 3, none, .move (.t 9)⟩])
  (.seq (.region none [⟨some 10, none, .move (.t 3)⟩,
   ⟨some 11, none, .move (.t 0)⟩,
   ⟨some 12, none, .copy 1 (.t 10) (.t 11)⟩])
  (.seq (.region none [⟨some 13, none, .move (.t 3)⟩,
   ⟨some 14, none, .idxSl 1 (.t 13) (.c (.int .i64 0))⟩,
   ⟨some 15, none, .move (.t 3)⟩,
   ⟨some 16, none, .len false (.t 15)⟩,
   ⟨some 17, none, .no⟩,
   ⟨some 2, none, .move (.t 17)⟩])
  (.ret)))
noncomputable def c198_2 : ACode := .mask (.n .e true .e) (c198_1)
noncomputable def c198_b : ACode := .seq (.region none [⟨some 2, none, .move (.c (.str []))⟩])
  (.seq (.seq (.region none [⟨some 4, none, .move (.t 0)⟩,
   ⟨some 5, none, .len true (.t 4)⟩,
   ⟨some 6, none, .bin .eql (.t 5) (.c (.int .i64 0))⟩])
  (.cond (.t 6) (.seq (.region none [⟨some 2, none, .move (.c (.str []))⟩])
  (.ret))
  (.skip)))
  (c198_2))
noncomputable def c198 : AFn := { np := 1, nt := 18, results := [.t 2], keep := false, body := c198_b }
noncomputable def c199_b : ACode := .seq (.region none [⟨some 2, none, .move (.c .nili)⟩])
  (.seq (.region none [⟨some 3, none, .move (.t 0)⟩,
   ⟨some 4, none, .build [.str []] [(0, 1, .t 3)]⟩,
   ⟨some 5, none, .boxMut (.t 4)⟩,
   ⟨some 6, none, .mkIface 219 (.t 5)⟩,
   ⟨some 2, none, .move (.t 6)⟩])
  (.ret))
noncomputable def c199 : AFn := { np := 1, nt := 7, results := [.t 2], keep := false, body := c199_b }
noncomputable def c200_1 : ACode := .seq (.region none [⟨some 5, none, .move (.t 0)⟩,
   ⟨some 6, none, .move (.t 0)⟩,
   ⟨some 7, none, .un .neg (.t 6)⟩,
   ⟨some 8, none, .bin .and (.t 5) (.t 7)⟩,
   ⟨some 9, none, .bin .mul (.t 8) (.c (.int .u32 125613361))⟩,
   ⟨some 10, none, .bin .shr (.t 9) (.c (.int .u64 27))⟩,
   ⟨some 11, none, .idxArr 1 32 (.g 3) (.t 10)⟩,
   ⟨some 12, none, .load none (.t 11)⟩,
   ⟨some 13, none, .convInt .i64 (.t 12)⟩,
   ⟨some 2, none, .move (.t 13)⟩])
  (.ret)
noncomputable def c200_2 : ACode := .mask (.n .e true .e) (c200_1)
noncomputable def c200_b : ACode := .seq (.region none [⟨some 2, none, .move (.c (.int .i64 0))⟩])
  (.seq (.seq (.region none [⟨some 3, none, .move (.t 0)⟩,
   ⟨some 4, none, .bin .eql (.t 3) (.c (.int .u32 0))⟩])
  (.cond (.t 4) (.seq (.region none [⟨some 2, none, .move (.c (.int .i64 32))⟩])
  (.ret))
  (.skip)))
  (c200_2))
noncomputable def c200 : AFn := { np := 1, nt := 14, results := [.t 2], keep := false, body := c200_b }
noncomputable def c201_1 : ACode := .seq (.region none [⟨some 5, none, .move (.t 0)⟩,
   ⟨some 6, none, .move (.t 0)⟩,
   ⟨some 7, none, .un .neg (.t 6)⟩,
   ⟨some 8, none, .bin .and (.t 5) (.t 7)⟩,
   ⟨some 9, none, .bin .mul (.t 8) (.c (.int .u64 285870213051353865))⟩,
   ⟨some 10, none, .bin .shr (.t 9) (.c (.int .u64 58))⟩,
   ⟨some 11, none, .idxArr 1 64 (.g 4) (.t 10)⟩,
   ⟨some 12, none, .load none (.t 11)⟩,
   ⟨some 13, none, .convInt .i64 (.t 12)⟩,
   ⟨some 2, none, .move (.t 13)⟩])
  (.ret)
noncomputable def c201_2 : ACode := .mask (.n .e true .e) (c201_1)
noncomputable def c201_b : ACode := .seq (.region none [⟨some 2, none, .move (.c (.int .i64 0))⟩])
  (.seq (.seq (.region none [⟨some 3, none, .move (.t 0)⟩,
   ⟨some 4, none, .bin .eql (.t 3) (.c (.int .u64 0))⟩])
  (.cond (.t 4) (.seq (.region none [⟨some 2, none, .move (.c (.int .i64 64))⟩])
  (.ret))
  (.skip)))
  (c201_2))
noncomputable def c201 : AFn := { np := 1, nt := 14, results := [.t 2], keep := false, body := c201_b }
noncomputable def c204_1 : ACode := .seq (.region none [⟨some 13, none, .move (.t 2)⟩,
   ⟨some 14, none, .move (.t 0)⟩,
   ⟨some 15, none, .convInt .u8 (.t 14)⟩,
   ⟨some 16, none, .idxStr (.c (.str [0, 1, 2, 2, 3, 3, 3, 3, 4, 4, 4, 4, 4, 4, 4, 4, 5, 5, 5, 5, 5, 5, 5, 5, 5, 5, 5, 5, 5, 5, 5, 5, 6, 6, 6, 6, 6, 6, 6, 6, 6, 6, 6, 6, 6, 6, 6, 6, 6, 6, 6, 6, 6, 6, 6, 6, 6, 6, 6, 6, 6, 6, 6, 6, 7, 7, 7, 7, 7, 7, 7, 7, 7, 7, 7, 7, 7, 7, 7, 7, 7, 7, 7, 7, 7, 7, 7, 7, 7, 7, 7, 7, 7, 7, 7, 7, 7, 7, 7, 7, 7, 7, 7, 7, 7, 7, 7, 7, 7, 7, 7, 7, 7, 7, 7, 7, 7, 7, 7, 7, 7, 7, 7, 7, 7, 7, 7, 7, 8, 8, 8, 8, 8, 8, 8, 8, 8, 8, 8, 8, 8, 8, 8, 8, 8, 8, 8, 8, 8, 8, 8, 8, 8, 8, 8, 8, 8, 8, 8, 8, 8, 8, 8, 8, 8, 8, 8, 8, 8, 8, 8, 8, 8, 8, 8, 8, 8, 8, 8, 8, 8, 8, 8, 8, 8, 8, 8, 8, 8, 8, 8, 8, 8, 8, 8, 8, 8, 8, 8, 8, 8, 8, 8, 8, 8, 8, 8, 8, 8, 8, 8, 8, 8, 8, 8, 8, 8, 8, 8, 8, 8, 8, 8, 8, 8, 8, 8, 8, 8, 8, 8, 8, 8, 8, 8, 8, 8, 8, 8, 8, 8, 8, 8, 8, 8, 8, 8, 8, 8, 8, 8, 8, 8, 8, 8, 8])) (.t 15)⟩,
   ⟨some 17, none, .convInt .i64 (.t 16)⟩,
   ⟨some 18, none, .bin .add (.t 13) (.t 17)⟩,
   ⟨some 2, none, .move (.t 18)⟩])
  (.ret)
noncomputable def c204_2 : ACode := .mask (.n .e true (.n .e true .e)) (c204_1)
noncomputable def c204_3 : ACode := .seq (.seq (.region none [⟨some 7, none, .move (.t 0)⟩,
   ⟨some 8, none, .bin .geq (.t 7) (.c (.int .u32 256))⟩])
  (.cond (.t 8) (.seq (.region none [⟨some 9, none, .move (.t 0)⟩,
   ⟨some 10, none, .bin .shr (.t 9) (.c (.int .u64 8))⟩,
   ⟨some 0, none, .move (.t 10)⟩])
  (.region none [⟨some 11, none, .move (.t 2)⟩,
   ⟨some 12, none, .bin .add (.t 11) (.c (.int .i64 8))⟩,
   ⟨some 2, none, .move (.t 12)⟩]))
  (.skip)))
  (c204_2)
noncomputable def c204_4 : ACode := .mask (.n .e true (.n .e true .e)) (c204_3)
noncomputable def c204_b : ACode := .seq (.region none [⟨some 2, none, .move (.c (.int .i64 0))⟩])
  (.seq (.seq (.region none [⟨some 3, none, .move (.t 0)⟩,
   ⟨some 4, none, .bin .geq (.t 3) (.c (.int .u32 65536))⟩])
  (.cond (.t 4) (.seq (.region none [⟨some 5, none, .move (.t 0)⟩,
   ⟨some 6, none, .bin .shr (.t 5) (.c (.int .u64 16))⟩,
   ⟨some 0, none, .move (.t 6)⟩])
  (.region none [⟨some 2, none, .move (.c (.int .i64 16))⟩]))
  (.skip)))
  (c204_4))
noncomputable def c204 : AFn := { np := 1, nt := 19, results := [.t 2], keep := false, body := c204_b }
noncomputable def c205_b : ACode := .seq (.region none [⟨some 2, none, .move (.c (.int .u8 0))⟩])
  (.seq (.region none [⟨some 3, none, .move (.t 0)⟩,
   ⟨some 4, none, .bin .or (.t 3) (.c (.int .u8 32))⟩,
   ⟨some 2, none, .move (.t 4)⟩])
  (.ret))
noncomputable def c205 : AFn := { np := 1, nt := 5, results := [.t 2], keep := false, body := c205_b }
noncomputable def c206_1 : ACode := .seq (.region none [⟨some 3, none, .move (.c (.int .i32 95))⟩])
  (.exit 1)
noncomputable def c206_2 : ACode := .mask (.n (.n .e false (.n .e true .e)) true (.n (.n .e true .e) false .e)) (c206_1)
noncomputable def c206_3 : ACode := .region none [⟨some 3, none, .move (.c (.int .i32 33))⟩]
noncomputable def c206_4 : ACode := .mask (.n (.n .e false (.n .e true .e)) true (.n (.n .e true .e) false .e)) (c206_3)
noncomputable def c206_5 : ACode := .seq (.seq (.region none [⟨some 90, none, .move (.t 3)⟩,
   ⟨some 91, none, .bin .eql (.t 90) (.c (.int .i32 95))⟩])
  (.cond (.t 91) (.seq (.region none [⟨some 2, none, .move (.c (.bool false))⟩])
  (.ret))
  (.skip)))
  (c206_4)
noncomputable def c206_6 : ACode := .mask (.n (.n (.n .e true .e) false (.n .e true .e)) true (.n (.n .e true .e) false .e)) (c206_5)
noncomputable def c206_7 : ACode := .seq (.seq (.region none [⟨some 84, none, .move (.t 0)⟩,
   ⟨some 85, none, .move (.t 4)⟩,
   ⟨some 86, none, .idxStr (.t 84) (.t 85)⟩,
   ⟨some 87, none, .bin .eql (.t 86) (.c (.int .u8 95))⟩])
  (.cond (.t 87) (.seq (.seq (.region none [⟨some 88, none, .move (.t 3)⟩,
   ⟨some 89, none, .bin .neq (.t 88) (.c (.int .i32 48))⟩])
  (.cond (.t 89) (.seq (.region none [⟨some 2, none, .move (.c (.bool false))⟩])
  (.ret))
  (.skip)))
  (c206_2))
  (.skip)))
  (c206_6)
noncomputable def c206_8 : ACode := .mask (.n (.n (.n .e true .e) false (.n .e true .e)) true (.n (.n .e true .e) false .e)) (c206_7)
noncomputable def c206_9 : ACode := .region none [⟨some 55, none, .move (.t 4)⟩,
   ⟨some 56, none, .bin .add (.t 55) (.c (.int .i64 1))⟩,
   ⟨some 4, none, .move (.t 56)⟩]
noncomputable def c206_10 : ACode := .mask (.n (.n (.n .e true .e) false (.n .e true .e)) true (.n (.n .e true .e) false .e)) (c206_9)
noncomputable def c206_11 : ACode := .seq (.block 1 (.seq (.seq (.region none [⟨some 57, none, .move (.t 0)⟩,
   ⟨some 58, none, .move (.t 4)⟩,
   ⟨some 59, none, .idxStr (.t 57) (.t 58)⟩,
   ⟨some 60, none, .bin .leq (.c (.int .u8 48)) (.t 59)⟩,
   ⟨some 61, none, .move (.t 60)⟩,
   ⟨some 62, (some (61, true)), .move (.t 0)⟩,
   ⟨some 63, (some (61, true)), .move (.t 4)⟩,
   ⟨some 64, (some (61, true)), .idxStr (.t 62) (.t 63)⟩,
   ⟨some 65, (some (61, true)), .bin .leq (.t 64) (.c (.int .u8 57))⟩,
   ⟨some 66, none, .pick (.t 61) (.t 65) (.c (.bool false))⟩,
   ⟨some 67, none, .move (.t 66)⟩,
   ⟨some 68, (some (67, false)), .move (.t 5)⟩,
   ⟨some 69, (some (67, false)), .move (.t 68)⟩,
   ⟨some 70, (some (69, true)), .move (.t 0)⟩,
   ⟨some 71, (some (69, true)), .move (.t 4)⟩,
   ⟨some 72, (some (69, true)), .idxStr (.t 70) (.t 71)⟩,
   ⟨some 73, (some (69, true)), .call 205 [.t 72]⟩,
   ⟨some 74, (some (69, true)), .bin .leq (.c (.int .u8 97)) (.t 73)⟩,
   ⟨some 75, (some (67, false)), .pick (.t 69) (.t 74) (.c (.bool false))⟩,
   ⟨some 76, (some (67, false)), .move (.t 75)⟩,
   ⟨some 77, (some (76, true)), .move (.t 0)⟩,
   ⟨some 78, (some (76, true)), .move (.t 4)⟩,
   ⟨some 79, (some (76, true)), .idxStr (.t 77) (.t 78)⟩,
   ⟨some 80, (some (76, true)), .call 205 [.t 79]⟩,
   ⟨some 81, (some (76, true)), .bin .leq (.t 80) (.c (.int .u8 102))⟩,
   ⟨some 82, (some (67, false)), .pick (.t 76) (.t 81) (.c (.bool false))⟩,
   ⟨some 83, none, .pick (.t 67) (.c (.bool true)) (.t 82)⟩])
  (.cond (.t 83) (.seq (.region none [⟨some 3, none, .move (.c (.int .i32 48))⟩])
  (.exit 1))
  (.skip)))
  (c206_8)))
  (c206_10)
noncomputable def c206_12 : ACode := .mask (.n (.n (.n .e true .e) false (.n .e true .e)) true (.n (.n .e true .e) false .e)) (c206_11)
noncomputable def c206_13 : ACode := .seq (.seq (.region none [⟨some 51, none, .move (.t 4)⟩,
   ⟨some 52, none, .move (.t 0)⟩,
   ⟨some 53, none, .len true (.t 52)⟩,
   ⟨some 54, none, .bin .lss (.t 51) (.t 53)⟩])
  (.cond (.t 54) (.skip)
  (.exit 0)))
  (c206_12)
noncomputable def c206_14 : ACode := .seq (.region none [⟨some 92, none, .move (.t 3)⟩,
   ⟨some 93, none, .bin .neq (.t 92) (.c (.int .i32 95))⟩,
   ⟨some 2, none, .move (.t 93)⟩])
  (.ret)
noncomputable def c206_15 : ACode := .mask (.n (.n (.n .e true .e) false .e) false .e) (c206_14)
noncomputable def c206_16 : ACode := .seq (.block 0 (.loop (.n (.n (.n .e true .e) false (.n .e true .e)) true (.n (.n .e true .e) false .e)) (c206_13)))
  (c206_15)
noncomputable def c206_17 : ACode := .mask (.n (.n (.n .e true .e) false (.n .e true .e)) true (.n (.n .e true .e) false .e)) (c206_16)
noncomputable def c206_18 : ACode := .seq (.region none [⟨some 5, none, .move (.c (.bool false))⟩])
  (.seq (.seq (.region none [⟨some 21, none, .move (.t 0)⟩,
   ⟨some 22, none, .len true (.t 21)⟩,
   ⟨some 23, none, .bin .geq (.t 22) (.c (.int .i64 2))⟩,
   ⟨some 24, none, .move (.t 23)⟩,
   ⟨some 25, (some (24, true)), .move (.t 0)⟩,
   ⟨some 26, (some (24, true)), .idxStr (.t 25) (.c (.int .i64 0))⟩,
   ⟨some 27, (some (24, true)), .bin .eql (.t 26) (.c (.int .u8 48))⟩,
   ⟨some 28, none, .pick (.t 24) (.t 27) (.c (.bool false))⟩,
   ⟨some 29, none, .move (.t 28)⟩,
   ⟨some 30, (some (29, true)), .move (.t 0)⟩,
   ⟨some 31, (some (29, true)), .idxStr (.t 30) (.c (.int .i64 1))⟩,
   ⟨some 32, (some (29, true)), .call 205 [.t 31]⟩,
   ⟨some 33, (some (29, true)), .bin .eql (.t 32) (.c (.int .u8 98))⟩,
   ⟨some 34, (some (29, true)), .move (.t 33)⟩,
   ⟨some 35, (some (34, false)), .move (.t 0)⟩,
   ⟨some 36, (some (34, false)), .idxStr (.t 35) (.c (.int .i64 1))⟩,
   ⟨some 37, (some (34, false)), .call 205 [.t 36]⟩,
   ⟨some 38, (some (34, false)), .bin .eql (.t 37) (.c (.int .u8 111))⟩,
   ⟨some 39, (some (29, true)), .pick (.t 34) (.c (.bool true)) (.t 38)⟩,
   ⟨some 40, (some (29, true)), .move (.t 39)⟩,
   ⟨some 41, (some (40, false)), .move (.t 0)⟩,
   ⟨some 42, (some (40, false)), .idxStr (.t 41) (.c (.int .i64 1))⟩,
   ⟨some 43, (some (40, false)), .call 205 [.t 42]⟩,
   ⟨some 44, (some (40, false)), .bin .eql (.t 43) (.c (.int .u8 120))⟩,
   ⟨some 45, (some (29, true)), .pick (.t 40) (.c (.bool true)) (.t 44)⟩,
   ⟨some 46, none, .pick (.t 29) (.t 45) (.c (.bool false))⟩])
  (.cond (.t 46) (.seq (.region none [⟨some 4, none, .move (.c (.int .i64 2))⟩])
  (.seq (.region none [⟨some 3, none, .move (.c (.int .i32 48))⟩])
  (.region none [⟨some 47, none, .move (.t 0)⟩,
   ⟨some 48, none, .idxStr (.t 47) (.c (.int .i64 1))⟩,
   ⟨some 49, none, .call 205 [.t 48]⟩,
   ⟨some 50, none, .bin .eql (.t 49) (.c (.int .u8 120))⟩,
   ⟨some 5, none, .move (.t 50)⟩])))
  (.skip)))
  (c206_17))
noncomputable def c206_19 : ACode := .mask (.n (.n (.n .e true .e) false .e) true (.n (.n .e true .e) false .e)) (c206_18)
noncomputable def c206_b : ACode := .seq (.region none [⟨some 2, none, .move (.c (.bool false))⟩])
  (.seq (.region none [⟨some 3, none, .move (.c (.int .i32 94))⟩])
  (.seq (.region none [⟨some 4, none, .move (.c (.int .i64 0))⟩])
  (.seq (.seq (.region none [⟨some 6, none, .move (.t 0)⟩,
   ⟨some 7, none, .len true (.t 6)⟩,
   ⟨some 8, none, .bin .geq (.t 7) (.c (.int .i64 1))⟩,
   ⟨some 9, none, .move (.t 8)⟩,
   ⟨some 10, (some (9, true)), .move (.t 0)⟩,
   ⟨some 11, (some (9, true)), .idxStr (.t 10) (.c (.int .i64 0))⟩,
   ⟨some 12, (some (9, true)), .bin .eql (.t 11) (.c (.int .u8 45))⟩,
   ⟨some 13, (some (9, true)), .move (.t 12)⟩,
   ⟨some 14, (some (13, false)), .move (.t 0)⟩,
   ⟨some 15, (some (13, false)), .idxStr (.t 14) (.c (.int .i64 0))⟩,
   ⟨some 16, (some (13, false)), .bin .eql (.t 15) (.c (.int .u8 43))⟩,
   ⟨some 17, (some (9, true)), .pick (.t 13) (.c (.bool true)) (.t 16)⟩,
   ⟨some 18, none, .pick (.t 9) (.t 17) (.c (.bool false))⟩])
  (.cond (.t 18) (.region none [⟨some 19, none, .move (.t 0)⟩,
   ⟨some 20, none, .subStr (.t 19) (some (.c (.int .i64 1))) none⟩,
   ⟨some 0, none, .move (.t 20)⟩])
  (.skip)))
  (c206_19))))
noncomputable def c206 : AFn := { np := 1, nt := 94, results := [.t 2], keep := false, body := c206_b }
noncomputable def L1 : List (Nat × AFn) := [(6, c6), (10, c10), (11, c11), (15, c15), (16, c16), (18, c18), (19, c19), (20, c20), (24, c24), (26, c26), (28, c28), (30, c30), (32, c32), (33, c33), (34, c34), (41, c41), (42, c42), (43, c43), (44, c44), (45, c45), (46, c46), (51, c51), (52, c52), (53, c53), (54, c54), (55, c55), (56, c56), (57, c57), (59, c59), (60, c60), (61, c61), (70, c70), (71, c71), (72, c72), (73, c73), (74, c74), (75, c75), (76, c76), (77, c77), (78, c78), (79, c79), (80, c80), (81, c81), (88, c88), (101, c101), (103, c103), (115, c115), (116, c116), (117, c117), (118, c118), (119, c119), (120, c120), (121, c121), (122, c122), (123, c123), (124, c124), (125, c125), (126, c126), (138, c138), (143, c143), (147, c147), (148, c148), (149, c149), (150, c150), (151, c151), (152, c152), (153, c153), (154, c154), (163, c163), (164, c164), (165, c165), (166, c166), (169, c169), (170, c170), (171, c171), (172, c172), (173, c173), (174, c174), (175, c175), (176, c176), (177, c177), (180, c180), (181, c181), (182, c182), (183, c183), (184, c184), (189, c189), (190, c190), (191, c191), (192, c192), (193, c193), (194, c194), (195, c195), (196, c196), (197, c197), (198, c198), (199, c199), (200, c200), (201, c201), (204, c204), (205, c205), (206, c206)]
noncomputable def T1 : Nat → Option AFn := fun f => lookFn f L1
end Go.AbX
