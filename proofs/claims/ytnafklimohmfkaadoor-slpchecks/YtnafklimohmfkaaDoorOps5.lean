/- Each operation of the abstract side is the machine's (5): slices and strings in part, comparisons with nil, what is boxed and built. -/
import Derived.Test.YtnafklimohmfkaaDoorOps4
namespace Go.Ab
set_option linter.unusedSimpArgs false

section
variable {P : Program} {ty : TypeId} {ρ : Operand → Value} {κ : Kap} {s : St} {w : World} (hs : Sim κ s w)

theorem take_drop_bytes (a : ByteArray) (l h : Nat) : (a.extract l h).data.toList = (a.data.toList.drop l).take (h - l) := by
  simp [List.extract_eq_take_drop]

include hs
theorem gives_subStr {E : Env} (hE : E.F = .not) {k : AV → St → Res} {r : Res} (hf : r ≠ .fail) {fr : Nat → AV} {a : Act} (hfr : FR κ s fr a) (hG : GOK κ E.glob) {t : TypeId} {x : AOpd} {y : Operand} {lo hi : Option AOpd} {plo phi : Option Operand} (ht : P.underlying t = some .string)
    (hxy : okOpd x y = true) (hlo : okOpdO lo plo = true) (hhi : okOpdO hi phi = true) (hr : subStrV E fr s k (opnd E.glob fr x) lo hi = r) : ∃ v', k v' s = r ∧ Gives P (.slice t y plo phi none) ty a.eval κ s w v' s := by
  have hx := opnd_VR hfr hG hxy
  generalize hv : opnd E.glob fr x = v at hx hr
  cases v <;> simp only [AV.pub] at hx <;> simp only [subStrV] at hr <;> try exact absurd hr.symm hf
  rename_i bs
  cases bl : bound E.glob fr lo 0 with
  | none => simp only [bl] at hr; exact absurd hr.symm hf
  | some l =>
    cases bh : bound E.glob fr hi bs.length with
    | none => simp only [bl, bh] at hr; exact absurd hr.symm hf
    | some h =>
      simp only [bl, bh, hE, Force.not] at hr
      obtain ⟨hb, hr1⟩ := bif_cases hr hf
      rw [Bool.and_eq_true] at hb
      have h1 := Nat.le_of_ble_eq_true hb.1
      have h2 := Nat.le_of_ble_eq_true hb.2
      obtain ⟨c, ex, hc⟩ := hx.str_inv
      have hsz : c.size = bs.length := by have := congrArg List.length hc; rw [List.length_map, Array.length_toList] at this; exact this
      refine ⟨_, hr1, gives_same hs (.string (c.extract l h)) (fun _ _ _ _ => ?_) (.str _ _ ?_)⟩
      · have hsb := run_sliceBounds (P := P) (w := w) hfr hG hlo hhi (show okOpdO none none = true from rfl) (len := c.size) (cap := c.size) bl (by rw [hsz]; exact bh) (m := c.size) rfl h1 (by omega) (Nat.le_refl _) (by simp) false
        simp only [Option.map_none] at hsb
        simp [execOp, Instr.sliceAt, Instr.slice, run_underlying ht, ex, hsb]
      · rw [take_drop_bytes, List.map_take, List.map_drop, hc]

theorem gives_slice {E : Env} (hE : E.F = .not) {k : AV → St → Res} {r : Res} (hf : r ≠ .fail) {fr : Nat → AV} {a : Act} (hfr : FR κ s fr a) (hG : GOK κ E.glob) {t e : TypeId} {sz : Nat} {x : AOpd} {y : Operand} {lo hi mx : Option AOpd} {plo phi pmx : Option Operand} (ht : P.underlying t = some (.slice e)) (hz : tySize P e = some sz)
    (hxy : okOpd x y = true) (hlo : okOpdO lo plo = true) (hhi : okOpdO hi phi = true) (hmx : okOpdO mx pmx = true) (hno : mx.isSome = true → hi.isSome = true) (hr : sliceV E fr s k sz (opnd E.glob fr x) lo hi mx = r) : ∃ v', k v' s = r ∧ Gives P (.slice t y plo phi pmx) ty a.eval κ s w v' s := by
  have hx := opnd_VR hfr hG hxy
  generalize hv : opnd E.glob fr x = v at hx hr
  have run : ∀ (A : Option Addr) (len cap l h m : Nat), a.eval y = .slice A len cap → (Instr.sliceBounds true len cap (plo.map a.eval) (phi.map a.eval) (pmx.map a.eval)).run P w = .ok (l, h, m) w → ∀ dst pos after guard, (execOp a.eval ⟨dst, .slice t y plo phi pmx, ty, pos, after, guard⟩).run P w = .ok (.value (.slice (if m = l then A else A.map (·.add (l * sz))) (h - l) (m - l))) w := by
    intro A len cap l h m ex hb dst pos after guard
    simp [execOp, Instr.sliceAt, Instr.slice, run_underlying ht, ex, hb, run_sizeOfB hz]
  cases v <;> simp only [AV.pub] at hx <;> simp only [sliceV] at hr <;> try exact absurd hr.symm hf
  case sl z es g =>
    cases bl : bound E.glob fr lo 0 with
    | none => simp only [bl] at hr; exact absurd hr.symm hf
    | some l =>
      cases bh : bound E.glob fr hi es.length with
      | none => simp only [bl, bh] at hr; exact absurd hr.symm hf
      | some h =>
        simp only [bl, bh, hE, Force.not] at hr
        -- what the part reads as
        have part : ∀ (A : Addr) (cap : Nat) (vals : Nat → Value) (g' : Gr), (es ≠ [] → A.spot = none) → (∀ e, e ∈ es → e.cells.length = sz) → (∀ e, e ∈ es → e.refless = true) →
            (∀ j, j < (es.flatMap AV.cells).length → κ.F (A.add j) = some (vals j)) → (∀ (j : Nat) (c : AV), (es.flatMap AV.cells)[j]? = some c → VR κ (s.depth + 1) c (vals j)) → l ≤ h → h ≤ es.length → ∀ m, h ≤ m → 
            GrOK κ (s.depth + 1) sz (g'.pub s.depth) (h - l) (if m = l then A else A.add (l * sz)) (m - l) → g'.pub s.depth ≠ .nil →
            VR κ (s.depth + 1) ((AV.sl sz ((es.drop l).take (h - l)) g').pub s.depth) (.slice (some (if m = l then A else A.add (l * sz))) (h - l) (m - l)) := by
          intro A cap vals g' hA h4 h5 h6 h7 hlh hhl m hhm hg hgn
          have hlen : ((es.drop l).take (h - l)).length = h - l := by simp; omega
          simp only [AV.pub]
          have hmem : ∀ e, e ∈ (es.drop l).take (h - l) → e ∈ es := fun e he => List.mem_of_mem_drop (List.mem_of_mem_take he)
          have hflat := flat_len es sz h4
          have hfl2 := flat_len _ sz (fun e he => h4 e (hmem e he))
          have hget : ∀ j, j < (h - l) * sz → ((((es.drop l).take (h - l))).flatMap AV.cells)[j]? = (es.flatMap AV.cells)[l * sz + j]? := by
            intro j hj
            have hsz0 : 0 < sz := Nat.pos_of_ne_zero (fun h0 => by rw [h0] at hj; simp at hj)
            have hq : j / sz < h - l := Nat.div_lt_of_lt_mul (by rw [Nat.mul_comm]; exact hj)
            have hr' : j % sz < sz := Nat.mod_lt _ hsz0
            have hj' : j = j / sz * sz + j % sz := by rw [Nat.mul_comm]; exact (Nat.div_add_mod j sz).symm
            have hle : l + j / sz < es.length := by omega
            have e1 : ((es.drop l).take (h - l))[j / sz]? = some es[l + j / sz] := by
              rw [List.getElem?_take, if_pos hq, List.getElem?_drop, List.getElem?_eq_getElem hle]
            have e2 : es[l + j / sz]? = some es[l + j / sz] := List.getElem?_eq_getElem hle
            have f1 := flat_get _ sz _ _ (fun e he => h4 e (hmem e he)) e1 (j % sz) hr'
            have f2 := flat_get es sz _ _ h4 e2 (j % sz) hr'
            rw [← hj'] at f1
            rw [f1, ← f2]
            congr 1
            rw [Nat.add_mul]
            omega
          by_cases hml : m = l
          · have h0 : h - l = 0 := by omega
            rw [if_pos hml] at hg ⊢
            have hnil : (es.drop l).take (h - l) = [] := by rw [h0]; simp
            rw [hnil]
            rw [h0] at hg ⊢
            exact .sl sz [] _ A _ vals hg (Nat.zero_le _) (fun h => absurd rfl h) (fun e he => by simp at he) (fun e he => by simp at he) (fun j hj => by simp at hj) (fun j c hc => by simp at hc)
          · rw [if_neg hml] at hg ⊢
            have key : VR κ (s.depth + 1) (AV.sl sz ((es.drop l).take (h - l)) (g'.pub s.depth)) (.slice (some (A.add (l * sz))) ((es.drop l).take (h - l)).length (m - l)) := by
             refine .sl sz _ _ _ _ (fun j => vals (l * sz + j)) (by rw [hlen]; exact hg) (by rw [hlen]; omega) (fun hne => add_spot' (hA (fun e0 => hne (by simp [e0]))) _) (fun e he => h4 e (hmem e he)) (fun e he => h5 e (hmem e he)) (fun j hj => ?_) (fun j c hc => ?_)
             · rw [add_add]
               refine h6 _ ?_
               rw [hfl2, hlen] at hj
               rw [hflat]
               have : h * sz ≤ es.length * sz := Nat.mul_le_mul_right _ hhl
               have e3 : l * sz + (h - l) * sz = h * sz := by rw [← Nat.add_mul]; congr 1; omega
               omega
             · have hj := (List.getElem?_eq_some_iff.1 hc).1
               rw [hfl2, hlen] at hj
               rw [hget j hj] at hc
               exact h7 _ c hc
            rw [hlen] at key
            exact key
        cases mx with
        | none =>
          cases pmx with
          | some y => simp [okOpdO] at hmx
          | none =>
          simp only at hr
          obtain ⟨hb, hr1⟩ := bif_cases hr hf
          rw [Bool.and_eq_true, Bool.and_eq_true] at hb
          have hzz : z = sz := (Nat.eq_of_beq_eq_true hb.1.1).symm
          subst hzz
          have h1 := Nat.le_of_ble_eq_true hb.1.2
          have h2 := Nat.le_of_ble_eq_true hb.2
          refine ⟨_, hr1, ?_⟩
          rcases hx.sl_inv with ⟨rfl, hg, ex⟩ | ⟨A, cap, vals, ex, hg, hn, hA, h4, h5, h6, h7⟩
          · have hgn : g = .nil := by cases g <;> simp_all [Gr.pub]
            subst hgn
            simp only [List.length_nil, Nat.le_zero_eq] at h2
            subst h2
            simp only [Nat.le_zero_eq] at h1
            subst h1
            have hsb := run_sliceBounds (P := P) (w := w) hfr hG hlo hhi hmx (len := 0) (cap := 0) bl bh (m := 0) rfl (Nat.le_refl _) (Nat.le_refl _) (Nat.le_refl _) (by simp) true
            exact gives_same hs _ (run _ _ _ _ _ _ ex hsb) (by simp; exact .slNil z)
          · have hsb := run_sliceBounds (P := P) (w := w) hfr hG hlo hhi hmx (len := es.length) (cap := cap) bl bh (m := cap) rfl h1 (by omega) (Nat.le_refl _) (by simp) true
            refine gives_same hs _ (run _ _ _ _ _ _ ex hsb) ?_
            have hp := fun g' hg' hgn => part A cap vals g' hA h4 h5 h6 h7 h1 h2 cap (by omega) hg' hgn
            have e1 : (if cap = l then some A else Option.map (fun x => x.add (l * z)) (some A)) = some (if cap = l then A else A.add (l * z)) := by split <;> rfl
            rw [e1]
            cases g with
            | nil => simp [Gr.pub, GrOK] at hg
            | any => exact hp .any trivial (by simp [Gr.pub])
            | exact =>
              simp only [Gr.pub, GrOK] at hg
              subst hg
              by_cases hh : h = es.length
              · subst hh; simp only [↓reduceIte]; exact hp .exact rfl (by simp [Gr.pub])
              · simp only [hh, ↓reduceIte]; exact hp .any trivial (by simp [Gr.pub])
            | buf b =>
              by_cases hh : l = 0 ∧ h = es.length
              · obtain ⟨rfl, rfl⟩ := hh
                simp only [true_and, ↓reduceIte]
                refine hp (.buf b) ?_ (by simp [Gr.pub])
                simp only [Nat.sub_zero, Nat.zero_mul, Addr.add, ↓reduceIte]
                simpa using hg
              · simp only [hh, ↓reduceIte]; exact hp .any trivial (by simp [Gr.pub])
        | some xm =>
          cases pmx with
          | none => simp [okOpdO] at hmx
          | some ym =>
          cases bm : asNat (opnd E.glob fr xm) with
          | none =>
            simp only [bm] at hr
            cases g <;> simp only at hr <;> exact absurd hr.symm hf
          | some m =>
            simp only [bm] at hr
            have hgn : g ≠ .nil := by rintro rfl; exact absurd hr.symm hf
            have hr' : (bif Nat.beq sz z && Nat.ble l h && Nat.ble h m && Nat.ble m es.length then k (.sl z ((es.drop l).take (h - l)) (if h = m then .exact else .any)) s else .fail) = r := by
              cases g <;> first | exact absurd rfl hgn | exact hr
            obtain ⟨hb, hr1⟩ := bif_cases hr' hf
            simp only [Bool.and_eq_true] at hb
            have hzz : z = sz := (Nat.eq_of_beq_eq_true hb.1.1.1).symm
            subst hzz
            have h1 := Nat.le_of_ble_eq_true hb.1.1.2
            have h2 := Nat.le_of_ble_eq_true hb.1.2
            have h3 := Nat.le_of_ble_eq_true hb.2
            refine ⟨_, hr1, ?_⟩
            rcases hx.sl_inv with ⟨rfl, hg, ex⟩ | ⟨A, cap, vals, ex, hg, hn, hA, h4, h5, h6, h7⟩
            · exact absurd (by cases g <;> simp_all [Gr.pub]) hgn
            · have hsb := run_sliceBounds (P := P) (w := w) hfr hG hlo hhi hmx (len := es.length) (cap := cap) bl bh (m := m) bm h1 h2 (by omega) hno true
              refine gives_same hs _ (run _ _ _ _ _ _ ex hsb) ?_
              have hp := fun g' hg' hgn => part A cap vals g' hA h4 h5 h6 h7 h1 (by omega) m h2 hg' hgn
              have e1 : (if m = l then some A else Option.map (fun x => x.add (l * z)) (some A)) = some (if m = l then A else A.add (l * z)) := by split <;> rfl
              rw [e1]
              by_cases hh : h = m
              · subst hh; simp only [↓reduceIte]; exact hp .exact rfl (by simp [Gr.pub])
              · simp only [hh, ↓reduceIte]; exact hp .any trivial (by simp [Gr.pub])
  case msl b off len cap z =>
    cases bl : bound E.glob fr lo 0 with
    | none => simp only [bl] at hr; exact absurd hr.symm hf
    | some l =>
      cases bh : bound E.glob fr hi len with
      | none => simp only [bl, bh] at hr; exact absurd hr.symm hf
      | some h =>
        cases bm : bound E.glob fr mx cap with
        | none => simp only [bl, bh, bm] at hr; exact absurd hr.symm hf
        | some m =>
          simp only [bl, bh, bm, hE, Force.not] at hr
          obtain ⟨hb, hr1⟩ := bif_cases hr hf
          simp only [Bool.and_eq_true] at hb
          have hzz : z = sz := (Nat.eq_of_beq_eq_true hb.1.1.1).symm
          subst hzz
          have h1 := Nat.le_of_ble_eq_true hb.1.1.2
          have h2 := Nat.le_of_ble_eq_true hb.1.2
          have h3 := Nat.le_of_ble_eq_true hb.2
          refine ⟨_, hr1, ?_⟩
          cases ha : b.pub s.depth with
          | l i => cases b <;> simp [Loc.pub] at ha
          | g d j =>
            rw [ha] at hx
            obtain ⟨ex, hd, hj, _⟩ := hx.msl_inv
            have hsb := run_sliceBounds (P := P) (w := w) hfr hG hlo hhi hmx (len := len) (cap := cap) bl bh bm h1 h2 h3 hno true
            refine gives_same hs _ (run _ _ _ _ _ _ ex hsb) ?_
            simp only [AV.pub, ha]
            have : (if m = l then some (⟨κ.loc d j, off, none⟩ : Addr) else Option.map (fun (x : Addr) => x.add (l * z)) (some ⟨κ.loc d j, off, none⟩)) = some ⟨κ.loc d j, if m = l then off else off + l * z, none⟩ := by
              split
              · rfl
              · simp [add_spot]
            rw [this]
            exact .msl d j _ _ _ z hd hj (by omega)
end
end Go.Ab
