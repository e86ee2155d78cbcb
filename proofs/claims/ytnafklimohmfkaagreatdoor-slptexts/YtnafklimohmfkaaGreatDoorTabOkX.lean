/- The table of abstract functions is the program's. -/
import Derived.Test.YtnafklimohmfkaaGreatDoorChkX
import Derived.Test.YtnafklimohmfkaaGreatDoorRunX
import Derived.Test.YtnafklimohmfkaaGreatDoorCall
import Derived.Test.YtnafklimohmfkaaGreatDoorCards
import Derived.Eval
import Derived.OpenShut
import Derived.MakeChecks
import Derived.Test.YtnafklimohmfkaaGreatDoorRows
namespace Go.AbX
open Go.Ab Go.Proofs
theorem tdOK : TD.OK Tryz.prog := by unfold TD; exact TDof_OK _
set_option maxRecDepth 100000
theorem tabOK : TabOK Tryz.prog TD T1 := fun f afn h => by
  have all : ∀ x ∈ L1, ∃ fn, Tryz.prog.funcs[x.1]? = some fn ∧ okFn TD x.2 fn = true :=
    List.forall_mem_cons.2 ⟨⟨_, Tryz.func6, k6⟩,
    List.forall_mem_cons.2 ⟨⟨_, Tryz.func10, k10⟩,
    List.forall_mem_cons.2 ⟨⟨_, Tryz.func11, k11⟩,
    List.forall_mem_cons.2 ⟨⟨_, Tryz.func15, k15⟩,
    List.forall_mem_cons.2 ⟨⟨_, Tryz.func16, k16⟩,
    List.forall_mem_cons.2 ⟨⟨_, Tryz.func18, k18⟩,
    List.forall_mem_cons.2 ⟨⟨_, Tryz.func19, k19⟩,
    List.forall_mem_cons.2 ⟨⟨_, Tryz.func20, k20⟩,
    List.forall_mem_cons.2 ⟨⟨_, Tryz.func24, k24⟩,
    List.forall_mem_cons.2 ⟨⟨_, Tryz.func26, k26⟩,
    List.forall_mem_cons.2 ⟨⟨_, Tryz.func28, k28⟩,
    List.forall_mem_cons.2 ⟨⟨_, Tryz.func30, k30⟩,
    List.forall_mem_cons.2 ⟨⟨_, Tryz.func32, k32⟩,
    List.forall_mem_cons.2 ⟨⟨_, Tryz.func33, k33⟩,
    List.forall_mem_cons.2 ⟨⟨_, Tryz.func34, k34⟩,
    List.forall_mem_cons.2 ⟨⟨_, Tryz.func41, k41⟩,
    List.forall_mem_cons.2 ⟨⟨_, Tryz.func42, k42⟩,
    List.forall_mem_cons.2 ⟨⟨_, Tryz.func43, k43⟩,
    List.forall_mem_cons.2 ⟨⟨_, Tryz.func44, k44⟩,
    List.forall_mem_cons.2 ⟨⟨_, Tryz.func45, k45⟩,
    List.forall_mem_cons.2 ⟨⟨_, Tryz.func46, k46⟩,
    List.forall_mem_cons.2 ⟨⟨_, Tryz.func51, k51⟩,
    List.forall_mem_cons.2 ⟨⟨_, Tryz.func52, k52⟩,
    List.forall_mem_cons.2 ⟨⟨_, Tryz.func53, k53⟩,
    List.forall_mem_cons.2 ⟨⟨_, Tryz.func54, k54⟩,
    List.forall_mem_cons.2 ⟨⟨_, Tryz.func55, k55⟩,
    List.forall_mem_cons.2 ⟨⟨_, Tryz.func56, k56⟩,
    List.forall_mem_cons.2 ⟨⟨_, Tryz.func57, k57⟩,
    List.forall_mem_cons.2 ⟨⟨_, Tryz.func59, k59⟩,
    List.forall_mem_cons.2 ⟨⟨_, Tryz.func60, k60⟩,
    List.forall_mem_cons.2 ⟨⟨_, Tryz.func61, k61⟩,
    List.forall_mem_cons.2 ⟨⟨_, Tryz.func70, k70⟩,
    List.forall_mem_cons.2 ⟨⟨_, Tryz.func71, k71⟩,
    List.forall_mem_cons.2 ⟨⟨_, Tryz.func72, k72⟩,
    List.forall_mem_cons.2 ⟨⟨_, Tryz.func73, k73⟩,
    List.forall_mem_cons.2 ⟨⟨_, Tryz.func74, k74⟩,
    List.forall_mem_cons.2 ⟨⟨_, Tryz.func75, k75⟩,
    List.forall_mem_cons.2 ⟨⟨_, Tryz.func76, k76⟩,
    List.forall_mem_cons.2 ⟨⟨_, Tryz.func77, k77⟩,
    List.forall_mem_cons.2 ⟨⟨_, Tryz.func78, k78⟩,
    List.forall_mem_cons.2 ⟨⟨_, Tryz.func79, k79⟩,
    List.forall_mem_cons.2 ⟨⟨_, Tryz.func80, k80⟩,
    List.forall_mem_cons.2 ⟨⟨_, Tryz.func81, k81⟩,
    List.forall_mem_cons.2 ⟨⟨_, Tryz.func88, k88⟩,
    List.forall_mem_cons.2 ⟨⟨_, Tryz.func101, k101⟩,
    List.forall_mem_cons.2 ⟨⟨_, Tryz.func103, k103⟩,
    List.forall_mem_cons.2 ⟨⟨_, Tryz.func115, k115⟩,
    List.forall_mem_cons.2 ⟨⟨_, Tryz.func116, k116⟩,
    List.forall_mem_cons.2 ⟨⟨_, Tryz.func117, k117⟩,
    List.forall_mem_cons.2 ⟨⟨_, Tryz.func118, k118⟩,
    List.forall_mem_cons.2 ⟨⟨_, Tryz.func119, k119⟩,
    List.forall_mem_cons.2 ⟨⟨_, Tryz.func120, k120⟩,
    List.forall_mem_cons.2 ⟨⟨_, Tryz.func121, k121⟩,
    List.forall_mem_cons.2 ⟨⟨_, Tryz.func122, k122⟩,
    List.forall_mem_cons.2 ⟨⟨_, Tryz.func123, k123⟩,
    List.forall_mem_cons.2 ⟨⟨_, Tryz.func124, k124⟩,
    List.forall_mem_cons.2 ⟨⟨_, Tryz.func125, k125⟩,
    List.forall_mem_cons.2 ⟨⟨_, Tryz.func126, k126⟩,
    List.forall_mem_cons.2 ⟨⟨_, Tryz.func138, k138⟩,
    List.forall_mem_cons.2 ⟨⟨_, Tryz.func143, k143⟩,
    List.forall_mem_cons.2 ⟨⟨_, Tryz.func147, k147⟩,
    List.forall_mem_cons.2 ⟨⟨_, Tryz.func148, k148⟩,
    List.forall_mem_cons.2 ⟨⟨_, Tryz.func149, k149⟩,
    List.forall_mem_cons.2 ⟨⟨_, Tryz.func150, k150⟩,
    List.forall_mem_cons.2 ⟨⟨_, Tryz.func151, k151⟩,
    List.forall_mem_cons.2 ⟨⟨_, Tryz.func152, k152⟩,
    List.forall_mem_cons.2 ⟨⟨_, Tryz.func153, k153⟩,
    List.forall_mem_cons.2 ⟨⟨_, Tryz.func154, k154⟩,
    List.forall_mem_cons.2 ⟨⟨_, Tryz.func163, k163⟩,
    List.forall_mem_cons.2 ⟨⟨_, Tryz.func164, k164⟩,
    List.forall_mem_cons.2 ⟨⟨_, Tryz.func165, k165⟩,
    List.forall_mem_cons.2 ⟨⟨_, Tryz.func166, k166⟩,
    List.forall_mem_cons.2 ⟨⟨_, Tryz.func169, k169⟩,
    List.forall_mem_cons.2 ⟨⟨_, Tryz.func170, k170⟩,
    List.forall_mem_cons.2 ⟨⟨_, Tryz.func171, k171⟩,
    List.forall_mem_cons.2 ⟨⟨_, Tryz.func172, k172⟩,
    List.forall_mem_cons.2 ⟨⟨_, Tryz.func173, k173⟩,
    List.forall_mem_cons.2 ⟨⟨_, Tryz.func174, k174⟩,
    List.forall_mem_cons.2 ⟨⟨_, Tryz.func175, k175⟩,
    List.forall_mem_cons.2 ⟨⟨_, Tryz.func176, k176⟩,
    List.forall_mem_cons.2 ⟨⟨_, Tryz.func177, k177⟩,
    List.forall_mem_cons.2 ⟨⟨_, Tryz.func180, k180⟩,
    List.forall_mem_cons.2 ⟨⟨_, Tryz.func181, k181⟩,
    List.forall_mem_cons.2 ⟨⟨_, Tryz.func182, k182⟩,
    List.forall_mem_cons.2 ⟨⟨_, Tryz.func183, k183⟩,
    List.forall_mem_cons.2 ⟨⟨_, Tryz.func184, k184⟩,
    List.forall_mem_cons.2 ⟨⟨_, Tryz.func189, k189⟩,
    List.forall_mem_cons.2 ⟨⟨_, Tryz.func190, k190⟩,
    List.forall_mem_cons.2 ⟨⟨_, Tryz.func191, k191⟩,
    List.forall_mem_cons.2 ⟨⟨_, Tryz.func192, k192⟩,
    List.forall_mem_cons.2 ⟨⟨_, Tryz.func193, k193⟩,
    List.forall_mem_cons.2 ⟨⟨_, Tryz.func194, k194⟩,
    List.forall_mem_cons.2 ⟨⟨_, Tryz.func195, k195⟩,
    List.forall_mem_cons.2 ⟨⟨_, Tryz.func196, k196⟩,
    List.forall_mem_cons.2 ⟨⟨_, Tryz.func197, k197⟩,
    List.forall_mem_cons.2 ⟨⟨_, Tryz.func198, k198⟩,
    List.forall_mem_cons.2 ⟨⟨_, Tryz.func199, k199⟩,
    List.forall_mem_cons.2 ⟨⟨_, Tryz.func200, k200⟩,
    List.forall_mem_cons.2 ⟨⟨_, Tryz.func201, k201⟩,
    List.forall_mem_cons.2 ⟨⟨_, Tryz.func204, k204⟩,
    List.forall_mem_cons.2 ⟨⟨_, Tryz.func205, k205⟩,
    List.forall_mem_cons.2 ⟨⟨_, Tryz.func206, k206⟩,
    List.forall_mem_nil _⟩⟩⟩⟩⟩⟩⟩⟩⟩⟩⟩⟩⟩⟩⟩⟩⟩⟩⟩⟩⟩⟩⟩⟩⟩⟩⟩⟩⟩⟩⟩⟩⟩⟩⟩⟩⟩⟩⟩⟩⟩⟩⟩⟩⟩⟩⟩⟩⟩⟩⟩⟩⟩⟩⟩⟩⟩⟩⟩⟩⟩⟩⟩⟩⟩⟩⟩⟩⟩⟩⟩⟩⟩⟩⟩⟩⟩⟩⟩⟩⟩⟩⟩⟩⟩⟩⟩⟩⟩⟩⟩⟩⟩⟩⟩⟩⟩⟩⟩⟩⟩⟩
  exact all _ (lookFn_mem h)
theorem xOK : XOK Tryz.prog T1 GX X0 := ⟨(fun _ _ _ _ _ h => by cases h), (fun _ _ _ _ _ _ _ _ _ h => by cases h)⟩
theorem laid_cells {w : World} {laid : List (String × DataW Unit)} (h : laidMet Tryz.prog laid w) {d : DataW Unit} (hm : ("internal/strconv.uint64pow10", d) ∈ laid) :
    ∃ cs fuel p, w.var? Tryz.prog "internal/strconv.uint64pow10" = some cs ∧ DataW.trod (fun _ => ()) Tryz.prog w 0 (fun _ => true) false fuel 197 cs.toList = some (d, p) := by
  obtain ⟨ps, hv, hx⟩ := h
  clear hx
  induction laid generalizing ps with
  | nil => cases hm
  | cons x r ih =>
    obtain ⟨n, e⟩ := x
    simp only [DataW.LaidVars] at hv
    obtain ⟨g, t, cs, fuel, p, q, hg, ht, hvar, htr, hr, _⟩ := hv
    rcases List.mem_cons.1 hm with heq | hmem
    · cases heq
      have e1 : Tryz.prog.globalNamed "internal/strconv.uint64pow10" = some 0 := by kernel_rfl
      rw [e1] at hg
      cases hg
      have e2 : (Tryz.prog.globals[0]?).map (·.type) = some 197 := by kernel_rfl
      rw [e2] at ht
      cases ht
      exact ⟨cs, fuel, p, hvar, htr⟩
    · exact ih hmem q hr
theorem pow_get {w : World} {laid : List (String × DataW Unit)} (h : laidMet Tryz.prog laid w) {d : DataW Unit} (hm : ("internal/strconv.uint64pow10", d) ∈ laid) (hd : d = .agg (pows.map fun n => .lit (.int .u64 n))) :
    ∀ i, i < 20 → w.cell? ⟨0, i, none⟩ = some (.int .u64 (pows.getD i 0)) := by
  obtain ⟨cs, fuel, p, hvar, htr⟩ := laid_cells h hm
  have hu : Tryz.prog.underlying 197 = some (.array 20 165) := by kernel_rfl
  have hu2 : Tryz.prog.underlying 165 = some (.int .u64) := by kernel_rfl
  have hc : Tryz.prog.cellsOf 165 = 1 := by kernel_rfl
  obtain ⟨xs, m, _, hx, hl, hxl, hi⟩ := DataW.trod_array hu htr
  intro i hlt
  have h1 := hi i hlt
  rw [hc, Nat.mul_one] at h1
  have hix : i < xs.length := by omega
  rw [List.getElem?_eq_getElem hix] at h1
  obtain ⟨n, e1, e2, _⟩ := DataW.trod_int hu2 h1
  have hxm : xs.map (·.1) = pows.map fun n => DataW.lit (.int .u64 n) := by
    have := congrArg Prod.fst hx
    simp only at this
    rw [hd] at this
    exact (DataW.agg.inj this).symm
  have hi20 : i < pows.length := hlt
  have e3 : (xs.map (·.1))[i]? = some (DataW.lit (.int .u64 (pows.getD i 0))) := by
    rw [hxm]
    simp [List.getD, hi20]
  rw [List.getElem?_map, List.getElem?_eq_getElem hix, e2] at e3
  simp only [Option.map_some, Option.some.injEq, DataW.lit.injEq, Lit.int.injEq, true_and] at e3
  have e4 : cs.toList[i]? = some (.int .u64 n) := by
    have := congrArg (fun l => l[0]?) e1
    simpa [List.getElem?_take, List.getElem?_drop] using this
  have e5 : cs[i]? = some (.int .u64 n) := by simpa using e4
  simp only [World.var?] at hvar
  have eg : Tryz.prog.globalNamed "internal/strconv.uint64pow10" = some 0 := by kernel_rfl
  rw [eg] at hvar
  simp only [Option.bind_some] at hvar
  unfold World.cell?
  simp only
  split at hvar
  · rename_i c t2 n2 hh
    cases hvar
    rw [hh]
    simp [e5, e3]
  · cases hvar
theorem gxOK {w : World} {laid : List (String × DataW Unit)} (h : laidMet Tryz.prog laid w) {d : DataW Unit} (hm : ("internal/strconv.uint64pow10", d) ∈ laid) (hd : d = .agg (pows.map fun n => .lit (.int .u64 n))) : GOK (initKap w) GX := fun n => by
  have hp := pow_get h hm hd
  unfold GX
  cases hn : Nat.beq n 0 with
  | false => exact ⟨.dead _, rfl⟩
  | true =>
    have := Nat.eq_of_beq_eq_true hn
    subst this
    simp only [cond_true]
    refine ⟨.vptr powCs _ (fun j => .int .u64 (pows.getD j 0)) rfl (fun j hj => ?_) (fun j c hc => ?_), rfl⟩
    · have hj' : j < 20 := hj
      have ea : (⟨0, 0, none⟩ : Addr).add j = ⟨0, j, none⟩ := by
        unfold Addr.add
        split
        · rename_i hz; subst hz; rfl
        · simp
      rw [ea]
      simp only [initKap, if_true]
      exact hp j hj'
    · have hj := (List.getElem?_eq_some_iff.1 hc).1
      have hj' : j < 20 := hj
      have hj2 : j < pows.length := hj
      have : powCs[j]? = some (.int .u64 (pows.getD j 0)) := by
        unfold powCs
        simp [List.getD, hj2]
      rw [this] at hc
      cases hc
      exact .int _ _
theorem mixed : Tryz.prog.follows .mixedOrders = true := Tryz.checked.mixed
theorem ok10 : ∃ s', callω T1 GX X0 10 [] { own := [], up := [], ro := [] } = .ok (.bool true) s' := by
  have h := r10
  rw [Force.full_eq] at h
  unfold okT at h
  split at h
  · rename_i b s' e
    subst h
    exact ⟨s', callω_of T1 GX X0 (fun h => by cases h) e⟩
  · cases h
end Go.AbX
