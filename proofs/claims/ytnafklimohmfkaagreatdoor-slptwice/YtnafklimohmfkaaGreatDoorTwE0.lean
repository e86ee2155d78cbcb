/- One call of compile, as the abstract evaluator runs it: whatever lies in the frame of the law. -/
import Derived.Test.YtnafklimohmfkaaGreatDoorTw0
namespace Go.AbZ
open Go.Ab
set_option maxRecDepth 1000000
def ea0 : List AV := [.ref (.g 2 2) 0, .agg [.sl 1 [.str [120, 120], .str [105, 110], .str [121, 121], .str [105, 110]] .exact, .sl 1 [.str [120, 120], .str [121, 121], .str [49]] .exact]]
def eo0 : List AObj := [.cells [I 0, .sl 3 [] .nil, .sl 1 [] .nil, .sl 1 [] .nil], .cells [I 0, .sl 3 [] .nil, .sl 1 [] .nil, .sl 1 [] .nil], .cells [I 0, .sl 3 [] .nil, .sl 1 [] .nil, .sl 1 [] .nil, .map (.g 2 4), I 0], .cells [.str [65], I 1, .sl 1 [] .nil, .bool false, .sl 1 [] .nil, .bool false, .sl 1 [.int .u32 1] .exact, .bool false, .sl 1 [] .nil, .bool false, .sl 1 [.int .u32 1] .exact, I 0], .map []]
def ev0 : AV := .sl 1 [I 0, I 1, I 2] .any
def ep0 : List AObj := [.cells [I 0, .sl 3 [] .nil, .sl 1 [] .nil, .sl 1 [] .nil], .cells [I 0, .sl 3 [] .nil, .sl 1 [] .nil, .sl 1 [] .nil], .cells [I 0, .sl 3 [.agg [I 1, I 0, I 0], .agg [I 1, I 1, I 0], .agg [I 2, I 1, I 0]] (.buf (.g 2 5)), .sl 1 [] .nil, .sl 1 [] .nil, .map (.g 2 4), I 2], .cells [.str [65], I 1, .sl 1 [] .nil, .bool false, .sl 1 [] .nil, .bool false, .sl 1 [.int .u32 1] .exact, .bool false, .sl 1 [] .nil, .bool false, .sl 1 [.int .u32 1] .exact, I 0], .map [(.str [120, 120], I 0), (.str [121, 121], I 1)], .tok 3]
theorem en0 (o : List AObj) : call Force.two T1 (fun _ => .dead) X0 1000 45 ea0 { own := eo0, up := [o, []], ro := [] } = .ok ev0 { own := ep0, up := [o, []], ro := [] } := by kernel_rfl
end Go.AbZ
