/- The table of abstract functions is the program's. -/
import Derived.Test.YtnafklimohmfkaaDoorChkY
import Derived.Test.YtnafklimohmfkaaDoorRunY
import Derived.Test.YtnafklimohmfkaaDoorCall
import Derived.Test.YtnafklimohmfkaaDoorCards
import Derived.Eval
namespace Go.AbY
open Go.Ab Go.Proofs
theorem tdOK : TD.OK Tryd.prog := by unfold TD; exact TDof_OK _
set_option maxRecDepth 100000
theorem tabOK : TabOK Tryd.prog TD T1 := fun f afn h => by
  have all : ∀ x ∈ L1, ∃ fn, Tryd.prog.funcs[x.1]? = some fn ∧ okFn TD x.2 fn = true :=
    List.forall_mem_cons.2 ⟨⟨_, Tryd.func5, k5⟩,
    List.forall_mem_cons.2 ⟨⟨_, Tryd.func6, k6⟩,
    List.forall_mem_cons.2 ⟨⟨_, Tryd.func7, k7⟩,
    List.forall_mem_cons.2 ⟨⟨_, Tryd.func8, k8⟩,
    List.forall_mem_cons.2 ⟨⟨_, Tryd.func9, k9⟩,
    List.forall_mem_cons.2 ⟨⟨_, Tryd.func10, k10⟩,
    List.forall_mem_cons.2 ⟨⟨_, Tryd.func11, k11⟩,
    List.forall_mem_cons.2 ⟨⟨_, Tryd.func15, k15⟩,
    List.forall_mem_cons.2 ⟨⟨_, Tryd.func16, k16⟩,
    List.forall_mem_cons.2 ⟨⟨_, Tryd.func17, k17⟩,
    List.forall_mem_cons.2 ⟨⟨_, Tryd.func18, k18⟩,
    List.forall_mem_cons.2 ⟨⟨_, Tryd.func19, k19⟩,
    List.forall_mem_cons.2 ⟨⟨_, Tryd.func20, k20⟩,
    List.forall_mem_cons.2 ⟨⟨_, Tryd.func21, k21⟩,
    List.forall_mem_cons.2 ⟨⟨_, Tryd.func22, k22⟩,
    List.forall_mem_cons.2 ⟨⟨_, Tryd.func23, k23⟩,
    List.forall_mem_cons.2 ⟨⟨_, Tryd.func24, k24⟩,
    List.forall_mem_cons.2 ⟨⟨_, Tryd.func25, k25⟩,
    List.forall_mem_cons.2 ⟨⟨_, Tryd.func26, k26⟩,
    List.forall_mem_cons.2 ⟨⟨_, Tryd.func27, k27⟩,
    List.forall_mem_cons.2 ⟨⟨_, Tryd.func29, k29⟩,
    List.forall_mem_cons.2 ⟨⟨_, Tryd.func30, k30⟩,
    List.forall_mem_cons.2 ⟨⟨_, Tryd.func31, k31⟩,
    List.forall_mem_cons.2 ⟨⟨_, Tryd.func32, k32⟩,
    List.forall_mem_cons.2 ⟨⟨_, Tryd.func33, k33⟩,
    List.forall_mem_cons.2 ⟨⟨_, Tryd.func34, k34⟩,
    List.forall_mem_cons.2 ⟨⟨_, Tryd.func35, k35⟩,
    List.forall_mem_cons.2 ⟨⟨_, Tryd.func36, k36⟩,
    List.forall_mem_cons.2 ⟨⟨_, Tryd.func37, k37⟩,
    List.forall_mem_cons.2 ⟨⟨_, Tryd.func38, k38⟩,
    List.forall_mem_cons.2 ⟨⟨_, Tryd.func39, k39⟩,
    List.forall_mem_cons.2 ⟨⟨_, Tryd.func40, k40⟩,
    List.forall_mem_cons.2 ⟨⟨_, Tryd.func41, k41⟩,
    List.forall_mem_cons.2 ⟨⟨_, Tryd.func42, k42⟩,
    List.forall_mem_cons.2 ⟨⟨_, Tryd.func43, k43⟩,
    List.forall_mem_cons.2 ⟨⟨_, Tryd.func44, k44⟩,
    List.forall_mem_cons.2 ⟨⟨_, Tryd.func45, k45⟩,
    List.forall_mem_cons.2 ⟨⟨_, Tryd.func46, k46⟩,
    List.forall_mem_cons.2 ⟨⟨_, Tryd.func47, k47⟩,
    List.forall_mem_cons.2 ⟨⟨_, Tryd.func48, k48⟩,
    List.forall_mem_cons.2 ⟨⟨_, Tryd.func49, k49⟩,
    List.forall_mem_cons.2 ⟨⟨_, Tryd.func50, k50⟩,
    List.forall_mem_cons.2 ⟨⟨_, Tryd.func51, k51⟩,
    List.forall_mem_cons.2 ⟨⟨_, Tryd.func52, k52⟩,
    List.forall_mem_cons.2 ⟨⟨_, Tryd.func53, k53⟩,
    List.forall_mem_cons.2 ⟨⟨_, Tryd.func54, k54⟩,
    List.forall_mem_cons.2 ⟨⟨_, Tryd.func55, k55⟩,
    List.forall_mem_cons.2 ⟨⟨_, Tryd.func56, k56⟩,
    List.forall_mem_cons.2 ⟨⟨_, Tryd.func57, k57⟩,
    List.forall_mem_cons.2 ⟨⟨_, Tryd.func58, k58⟩,
    List.forall_mem_cons.2 ⟨⟨_, Tryd.func59, k59⟩,
    List.forall_mem_cons.2 ⟨⟨_, Tryd.func60, k60⟩,
    List.forall_mem_cons.2 ⟨⟨_, Tryd.func61, k61⟩,
    List.forall_mem_cons.2 ⟨⟨_, Tryd.func62, k62⟩,
    List.forall_mem_cons.2 ⟨⟨_, Tryd.func63, k63⟩,
    List.forall_mem_cons.2 ⟨⟨_, Tryd.func64, k64⟩,
    List.forall_mem_cons.2 ⟨⟨_, Tryd.func65, k65⟩,
    List.forall_mem_cons.2 ⟨⟨_, Tryd.func66, k66⟩,
    List.forall_mem_cons.2 ⟨⟨_, Tryd.func67, k67⟩,
    List.forall_mem_cons.2 ⟨⟨_, Tryd.func68, k68⟩,
    List.forall_mem_cons.2 ⟨⟨_, Tryd.func69, k69⟩,
    List.forall_mem_cons.2 ⟨⟨_, Tryd.func70, k70⟩,
    List.forall_mem_cons.2 ⟨⟨_, Tryd.func71, k71⟩,
    List.forall_mem_cons.2 ⟨⟨_, Tryd.func72, k72⟩,
    List.forall_mem_cons.2 ⟨⟨_, Tryd.func73, k73⟩,
    List.forall_mem_cons.2 ⟨⟨_, Tryd.func74, k74⟩,
    List.forall_mem_cons.2 ⟨⟨_, Tryd.func75, k75⟩,
    List.forall_mem_cons.2 ⟨⟨_, Tryd.func76, k76⟩,
    List.forall_mem_cons.2 ⟨⟨_, Tryd.func77, k77⟩,
    List.forall_mem_cons.2 ⟨⟨_, Tryd.func78, k78⟩,
    List.forall_mem_cons.2 ⟨⟨_, Tryd.func79, k79⟩,
    List.forall_mem_cons.2 ⟨⟨_, Tryd.func80, k80⟩,
    List.forall_mem_cons.2 ⟨⟨_, Tryd.func81, k81⟩,
    List.forall_mem_cons.2 ⟨⟨_, Tryd.func82, k82⟩,
    List.forall_mem_cons.2 ⟨⟨_, Tryd.func83, k83⟩,
    List.forall_mem_cons.2 ⟨⟨_, Tryd.func84, k84⟩,
    List.forall_mem_cons.2 ⟨⟨_, Tryd.func85, k85⟩,
    List.forall_mem_cons.2 ⟨⟨_, Tryd.func86, k86⟩,
    List.forall_mem_cons.2 ⟨⟨_, Tryd.func87, k87⟩,
    List.forall_mem_cons.2 ⟨⟨_, Tryd.func88, k88⟩,
    List.forall_mem_cons.2 ⟨⟨_, Tryd.func89, k89⟩,
    List.forall_mem_cons.2 ⟨⟨_, Tryd.func90, k90⟩,
    List.forall_mem_cons.2 ⟨⟨_, Tryd.func91, k91⟩,
    List.forall_mem_cons.2 ⟨⟨_, Tryd.func92, k92⟩,
    List.forall_mem_cons.2 ⟨⟨_, Tryd.func93, k93⟩,
    List.forall_mem_cons.2 ⟨⟨_, Tryd.func94, k94⟩,
    List.forall_mem_cons.2 ⟨⟨_, Tryd.func95, k95⟩,
    List.forall_mem_cons.2 ⟨⟨_, Tryd.func96, k96⟩,
    List.forall_mem_cons.2 ⟨⟨_, Tryd.func97, k97⟩,
    List.forall_mem_cons.2 ⟨⟨_, Tryd.func98, k98⟩,
    List.forall_mem_cons.2 ⟨⟨_, Tryd.func99, k99⟩,
    List.forall_mem_cons.2 ⟨⟨_, Tryd.func100, k100⟩,
    List.forall_mem_cons.2 ⟨⟨_, Tryd.func101, k101⟩,
    List.forall_mem_nil _⟩⟩⟩⟩⟩⟩⟩⟩⟩⟩⟩⟩⟩⟩⟩⟩⟩⟩⟩⟩⟩⟩⟩⟩⟩⟩⟩⟩⟩⟩⟩⟩⟩⟩⟩⟩⟩⟩⟩⟩⟩⟩⟩⟩⟩⟩⟩⟩⟩⟩⟩⟩⟩⟩⟩⟩⟩⟩⟩⟩⟩⟩⟩⟩⟩⟩⟩⟩⟩⟩⟩⟩⟩⟩⟩⟩⟩⟩⟩⟩⟩⟩⟩⟩⟩⟩⟩⟩⟩⟩⟩⟩⟩
  exact all _ (lookFn_mem h)
def G0 : Nat → AV := fun _ => .dead
theorem g0OK (κ : Kap) : GOK κ G0 := fun _ => ⟨.dead _, rfl⟩
theorem xOK : XOK Tryd.prog T1 G0 X0 := ⟨(fun _ _ _ _ _ h => by cases h), (fun _ _ _ _ _ _ _ _ _ h => by cases h)⟩
theorem mixed : Tryd.prog.follows .mixedOrders = true := Tryd.checked.mixed
theorem ok6 : ∃ s', callω T1 G0 X0 6 [] { own := [], up := [], ro := [] } = .ok (.bool true) s' := by
  have h := r6
  rw [Force.full_eq] at h
  unfold okT at h
  split at h
  · rename_i b s' e
    subst h
    exact ⟨s', callω_of T1 G0 X0 (fun h => by cases h) e⟩
  · cases h
end Go.AbY
