/- What a program says of its types, as the check asks it. -/
import Derived.Test.YtnafklimohmfkaaDoorCall3
namespace Go.Ab
def absV : Value → AV
  | .bool b => .bool b
  | .int k n => .int k n
  | .string _ => .str []
  | .pointer _ => .nilp
  | .slice _ _ _ => .sl 0 [] .nil
  | .map _ => .nilmap
  | .nilFunc => .nilf
  | .nilIface => .nili
  | _ => .dead
noncomputable def TDof (P : Program) : TT := { und := fun t => P.underlying t, info := fun t => (P.info? t).bind fun i => i.zero.map fun z => (i.size, i.bytes, z), az := fun t => match (P.info? t).bind (·.zero) with | some z => z.cells.toList.map absV | none => [] }
theorem info_OK {o : Option TypeInfo} {n b : Nat} {z : Value} (h : (o.bind fun i => i.zero.map fun z => (i.size, i.bytes, z)) = some (n, b, z)) : ∃ i, o = some i ∧ i.size = n ∧ i.bytes = b ∧ i.zero = some z := by
  obtain ⟨i, hi, h⟩ := Option.bind_eq_some_iff.1 h
  obtain ⟨z', hz, h⟩ := Option.map_eq_some_iff.1 h
  cases h
  exact ⟨i, hi, rfl, rfl, hz⟩
theorem TDof_OK (P : Program) : (TDof P).OK P where
  und := fun _ _ h => h
  info := fun t _ _ _ h => info_OK (o := P.info? t) h
end Go.Ab
