/- Some functions of the program, as the abstract evaluator runs them at given arguments: no condition. -/
import Derived.Test.YtnafklimohmfkaaGreatDoorTabZ
import Derived.Test.YtnafklimohmfkaaGreatDoorTwP
import Derived.Test.YtnafklimohmfkaaGreatDoorRunZ
import Derived.Test.YtnafklimohmfkaaGreatDoorSub
namespace Go.AbZ
open Go.Ab
set_option maxRecDepth 1000000
def rat0 : List AV := [.bool false, .sl 1 [] .nil, .bool false, .sl 1 [] .nil]
def wh0 : List AV := [.bool false, .sl 1 [] .nil, .bool false, .sl 1 [.int .u32 1] .exact]
def wh (n : Int) : List AV := [.bool false, .sl 1 [.int .u32 n] .exact, .bool false, .sl 1 [.int .u32 1] .exact]
theorem r41_0 : call Force.full T1 (fun _ => .dead) X0 1000 41 [.int .i64 0] noSt = .ok (.agg wh0) noSt := by kernel_rfl
theorem r41_1 : call Force.full T1 (fun _ => .dead) X0 1000 41 [.int .i64 1] noSt = .ok (.agg (wh 1)) noSt := by kernel_rfl
theorem r41_2 : call Force.full T1 (fun _ => .dead) X0 1000 41 [.int .i64 2] noSt = .ok (.agg (wh 2)) noSt := by kernel_rfl
theorem r41_4 : call Force.full T1 (fun _ => .dead) X0 1000 41 [.int .i64 4] noSt = .ok (.agg (wh 4)) noSt := by kernel_rfl
def twStep (nm : Nat) (op : Int) (args : List Int) (g : Gr) (x y : List AV) : AV := .agg ([.str [nm], .int .i64 op, sl1 args g] ++ x ++ y ++ [.int .i64 0])
def tw3 : List AV := [twStep 65 1 [] .nil wh0 wh0, twStep 66 1 [] .nil (wh 1) (wh 1), twStep 67 1 [] .nil (wh 2) (wh 4)]
def tw6 : List AV := tw3 ++ [twStep 108 3 [0, 1] .exact rat0 rat0, twStep 80 13 [2, 3] .exact rat0 rat0, twStep 81 13 [4, 3] .exact rat0 rat0]
def tw8 : List AV := tw6 ++ [twStep 99 6 [2, 0, 1] .exact rat0 rat0, twStep 77 16 [6] .exact rat0 rat0]
def twRel (l : List Int) : AV := .agg [.int .i64 1, sl1 l .exact]
abbrev twL : AV := .sl 12 tw8 (.buf (.g 1 0))

theorem r42_2 (a b c : List AObj) : call Force.half T1 (fun _ => .dead) X0 1000 42 [twL] { own := a, up := [b, c], ro := [] } = .ok (.int .i64 0) { own := a, up := [b, c], ro := [] } := by kernel_rfl
theorem r42_3 (a b c d : List AObj) : call Force.half T1 (fun _ => .dead) X0 1000 42 [twL] { own := a, up := [b, c, d], ro := [] } = .ok (.int .i64 0) { own := a, up := [b, c, d], ro := [] } := by kernel_rfl
theorem r42_4 (a b c d e : List AObj) : call Force.half T1 (fun _ => .dead) X0 1000 42 [twL] { own := a, up := [b, c, d, e], ro := [] } = .ok (.int .i64 0) { own := a, up := [b, c, d, e], ro := [] } := by kernel_rfl
theorem chk_0 : tp0.check = 0 := by kernel_rfl
theorem chk_1 : tp1.check = 0 := by kernel_rfl
end Go.AbZ
