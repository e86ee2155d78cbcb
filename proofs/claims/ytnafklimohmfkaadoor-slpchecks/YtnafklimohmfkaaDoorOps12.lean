/- Each operation of the abstract side is the machine's (12): a string of bytes, min and max. -/
import Derived.Test.YtnafklimohmfkaaDoorOps11
namespace Go.Ab
set_option linter.unusedSimpArgs false

theorem natBytes_inv : ∀ (es : List AV) (bs : List Nat), natBytes es = some bs → ∃ ns : List Int, es = ns.map (AV.int .u8) ∧ bs = ns.map Int.toNat ∧ ∀ n, n ∈ ns → n.toNat < 256
  | [], bs, h => by
    simp only [natBytes, Option.some.injEq] at h
    subst h
    exact ⟨[], rfl, rfl, fun _ hn => by cases hn⟩
  | e :: es, bs, h => by
    unfold natBytes at h
    split at h
    · rename_i heq
      simp at heq
    · rename_i n es' heq
      simp only [List.cons.injEq] at heq
      obtain ⟨rfl, rfl⟩ := heq
      split at h
      · rename_i hlt
        cases hb : natBytes es with
        | none => rw [hb] at h; cases h
        | some l =>
          rw [hb] at h
          simp only [Option.map_some, Option.some.injEq] at h
          subst h
          obtain ⟨ns, h1, h2, h3⟩ := natBytes_inv es l hb
          exact ⟨n :: ns, by rw [h1]; rfl, by rw [h2]; rfl, fun m hm => by
            rcases List.mem_cons.1 hm with rfl | hm
            · exact hlt
            · exact h3 m hm⟩
      · cases h
    · cases h

theorem foldl_push : ∀ (ns : List Int) (s : ByteArray), (ns.foldl (fun r n => r.push (UInt8.ofNat n.toNat)) s).data.toList = s.data.toList ++ ns.map fun n => UInt8.ofNat n.toNat
  | [], s => by simp
  | n :: ns, s => by
    simp only [List.foldl_cons]
    rw [foldl_push ns]
    simp [ByteArray.push]

section
variable {P : Program} {ty : TypeId} {ρ : Operand → Value} {κ : Kap} {s : St} {w : World} (hs : Sim κ s w)
include hs

theorem gives_bytesToStr {E : Env} (hE : E.F = .not) {k : AV → St → Res} {r : Res} (hf : r ≠ .fail) {src dst el : TypeId} {x : Operand} {v : AV} (hsrc : P.underlying src = some (.slice el)) (hel : P.underlying el = some (.int .u8)) (hdst : P.underlying dst = some .string)
    (hx : VR κ (s.depth + 1) (v.pub s.depth) (ρ x)) (hr : bytesToStrV E s k v = r) : ∃ v', k v' s = r ∧ Gives P (.convert src dst x) ty ρ κ s w v' s := by
  have hne : ∀ bs, v ≠ .str bs := fun bs h => by subst h; exact absurd hr.symm hf
  have hr' : (match elemsOf s v with
    | some (_, es) => oV E s k ((natBytes es).map .str)
    | none => .fail) = r := by
    unfold bytesToStrV at hr
    split at hr
    · exact absurd hr.symm hf
    · exact hr
  cases hel' : elemsOf s v with
  | none => rw [hel'] at hr'; exact absurd hr'.symm hf
  | some p =>
    obtain ⟨z, es⟩ := p
    rw [hel'] at hr'
    simp only at hr'
    cases hb : natBytes es with
    | none => rw [hb] at hr'; exact absurd hr'.symm hf
    | some bs =>
      rw [hb] at hr'
      simp only [Option.map_some, oV, hE, Force.not] at hr'
      refine ⟨_, hr', ?_⟩
      obtain ⟨ns, h1, h2, h3⟩ := natBytes_inv es bs hb
      obtain ⟨hform, _, _⟩ := elems_cells hs hx hel'
      rcases hform with ⟨bs', a, rfl, _⟩ | ⟨A, c, hX, hA0, hrd⟩
      · exact absurd rfl (hne bs')
      have hfl : es.flatMap AV.cells = ns.map (AV.int .u8) := by
        rw [h1]
        clear h1 h2 h3 hb hel' hrd hA0 hX
        induction ns with
        | nil => rfl
        | cons n ns ih => simp [List.flatMap_cons, ih, AV.cells]
      have hlen : es.length = ns.length := by rw [h1, List.length_map]
      have hfin : (ns.map fun n => UInt8.ofNat n.toNat).map UInt8.toNat = bs := by
        rw [h2, List.map_map]
        refine List.map_congr_left (fun n hn => ?_)
        simp only [Function.comp, UInt8.toNat_ofNat']
        exact Nat.mod_eq_of_lt (h3 n hn)
      cases A with
      | none =>
        have : es = [] := hA0 rfl
        have hns : ns = [] := List.eq_nil_of_length_eq_zero (by rw [← hlen, this]; rfl)
        subst hns
        refine gives_same hs (.string .empty) (fun _ _ _ _ => ?_) ?_
        · simp only [execOp, hX]
          have e1 := run_convert_bytes_string (P := P) w src dst el none es.length c hsrc hel hdst
          have e2 : (Conv.bytesToString (.slice none es.length c)).run P w = .ok (.string .empty) w := by simp [Conv.bytesToString]
          rw [e2] at e1
          simp [e1]
        · exact .str _ _ (by rw [← hfin]; rfl)
      | some a =>
        obtain ⟨vals, r1, r2⟩ := hrd a rfl
        have hcell : ∀ j v, (ns.map (Value.int .u8))[j]? = some v → w.cell? (a.add j) = some v := fun j v hj => by
          rw [List.getElem?_map] at hj
          cases hq : ns[j]? with
          | none => rw [hq] at hj; cases hj
          | some n =>
            rw [hq] at hj
            simp only [Option.map_some, Option.some.injEq] at hj
            have hj' := (List.getElem?_eq_some_iff.1 hq).1
            rw [r1 j (by rw [hfl, List.length_map]; exact hj')]
            have := r2 j (.int .u8 n) (by rw [hfl, List.getElem?_map, hq]; rfl)
            rw [this.int_inv, ← hj]
        have hl := run_loadCells_list (P := P) w a (ns.map (Value.int .u8)) hcell
        rw [List.length_map, ← hlen] at hl
        refine gives_same hs _ (fun _ _ _ _ => ?_) (.str _ (ns.foldl (fun r n => r.push (UInt8.ofNat n.toNat)) ByteArray.empty) ?_)
        · simp only [execOp, hX]
          have e1 := run_convert_bytes_string (P := P) w src dst el (some a) es.length c hsrc hel hdst
          rw [run_bytesToString w a es.length c ns hl] at e1
          simp [e1]
        · rw [foldl_push]
          rw [List.map_append, hfin]
          rfl
end
end Go.Ab
