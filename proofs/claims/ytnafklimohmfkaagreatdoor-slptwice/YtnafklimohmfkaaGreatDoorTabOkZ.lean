/- The table of abstract functions is the program's. -/
import Derived.Test.YtnafklimohmfkaaGreatDoorChkZ
import Derived.Test.YtnafklimohmfkaaGreatDoorRunZ
import Derived.Test.YtnafklimohmfkaaGreatDoorCall
import Derived.Test.YtnafklimohmfkaaGreatDoorCards
import Derived.Eval
namespace Go.AbZ
open Go.Ab Go.Proofs
theorem tdOK : TD.OK Tryz.prog := by unfold TD; exact TDof_OK _
set_option maxRecDepth 100000
theorem tabOK : TabOK Tryz.prog TD T1 := fun f afn h => by
  have all : ∀ x ∈ L1, ∃ fn, Tryz.prog.funcs[x.1]? = some fn ∧ okFn TD x.2 fn = true :=
    List.forall_mem_cons.2 ⟨⟨_, Tryz.func9, k9⟩,
    List.forall_mem_cons.2 ⟨⟨_, Tryz.func10, k10⟩,
    List.forall_mem_cons.2 ⟨⟨_, Tryz.func11, k11⟩,
    List.forall_mem_cons.2 ⟨⟨_, Tryz.func15, k15⟩,
    List.forall_mem_cons.2 ⟨⟨_, Tryz.func16, k16⟩,
    List.forall_mem_cons.2 ⟨⟨_, Tryz.func17, k17⟩,
    List.forall_mem_cons.2 ⟨⟨_, Tryz.func18, k18⟩,
    List.forall_mem_cons.2 ⟨⟨_, Tryz.func19, k19⟩,
    List.forall_mem_cons.2 ⟨⟨_, Tryz.func20, k20⟩,
    List.forall_mem_cons.2 ⟨⟨_, Tryz.func24, k24⟩,
    List.forall_mem_cons.2 ⟨⟨_, Tryz.func26, k26⟩,
    List.forall_mem_cons.2 ⟨⟨_, Tryz.func28, k28⟩,
    List.forall_mem_cons.2 ⟨⟨_, Tryz.func30, k30⟩,
    List.forall_mem_cons.2 ⟨⟨_, Tryz.func32, k32⟩,
    List.forall_mem_cons.2 ⟨⟨_, Tryz.func35, k35⟩,
    List.forall_mem_cons.2 ⟨⟨_, Tryz.func37, k37⟩,
    List.forall_mem_cons.2 ⟨⟨_, Tryz.func41, k41⟩,
    List.forall_mem_cons.2 ⟨⟨_, Tryz.func42, k42⟩,
    List.forall_mem_cons.2 ⟨⟨_, Tryz.func43, k43⟩,
    List.forall_mem_cons.2 ⟨⟨_, Tryz.func44, k44⟩,
    List.forall_mem_cons.2 ⟨⟨_, Tryz.func45, k45⟩,
    List.forall_mem_cons.2 ⟨⟨_, Tryz.func46, k46⟩,
    List.forall_mem_cons.2 ⟨⟨_, Tryz.func51, k51⟩,
    List.forall_mem_cons.2 ⟨⟨_, Tryz.func52, k52⟩,
    List.forall_mem_cons.2 ⟨⟨_, Tryz.func53, k53⟩,
    List.forall_mem_cons.2 ⟨⟨_, Tryz.func54, k54⟩,
    List.forall_mem_cons.2 ⟨⟨_, Tryz.func55, k55⟩,
    List.forall_mem_cons.2 ⟨⟨_, Tryz.func56, k56⟩,
    List.forall_mem_cons.2 ⟨⟨_, Tryz.func57, k57⟩,
    List.forall_mem_cons.2 ⟨⟨_, Tryz.func62, k62⟩,
    List.forall_mem_cons.2 ⟨⟨_, Tryz.func63, k63⟩,
    List.forall_mem_cons.2 ⟨⟨_, Tryz.func70, k70⟩,
    List.forall_mem_cons.2 ⟨⟨_, Tryz.func71, k71⟩,
    List.forall_mem_cons.2 ⟨⟨_, Tryz.func72, k72⟩,
    List.forall_mem_cons.2 ⟨⟨_, Tryz.func73, k73⟩,
    List.forall_mem_cons.2 ⟨⟨_, Tryz.func74, k74⟩,
    List.forall_mem_cons.2 ⟨⟨_, Tryz.func75, k75⟩,
    List.forall_mem_cons.2 ⟨⟨_, Tryz.func76, k76⟩,
    List.forall_mem_cons.2 ⟨⟨_, Tryz.func77, k77⟩,
    List.forall_mem_cons.2 ⟨⟨_, Tryz.func78, k78⟩,
    List.forall_mem_cons.2 ⟨⟨_, Tryz.func79, k79⟩,
    List.forall_mem_cons.2 ⟨⟨_, Tryz.func80, k80⟩,
    List.forall_mem_cons.2 ⟨⟨_, Tryz.func81, k81⟩,
    List.forall_mem_cons.2 ⟨⟨_, Tryz.func88, k88⟩,
    List.forall_mem_cons.2 ⟨⟨_, Tryz.func102, k102⟩,
    List.forall_mem_cons.2 ⟨⟨_, Tryz.func103, k103⟩,
    List.forall_mem_cons.2 ⟨⟨_, Tryz.func104, k104⟩,
    List.forall_mem_cons.2 ⟨⟨_, Tryz.func115, k115⟩,
    List.forall_mem_cons.2 ⟨⟨_, Tryz.func116, k116⟩,
    List.forall_mem_cons.2 ⟨⟨_, Tryz.func117, k117⟩,
    List.forall_mem_cons.2 ⟨⟨_, Tryz.func118, k118⟩,
    List.forall_mem_cons.2 ⟨⟨_, Tryz.func119, k119⟩,
    List.forall_mem_cons.2 ⟨⟨_, Tryz.func120, k120⟩,
    List.forall_mem_cons.2 ⟨⟨_, Tryz.func121, k121⟩,
    List.forall_mem_cons.2 ⟨⟨_, Tryz.func122, k122⟩,
    List.forall_mem_cons.2 ⟨⟨_, Tryz.func123, k123⟩,
    List.forall_mem_cons.2 ⟨⟨_, Tryz.func124, k124⟩,
    List.forall_mem_cons.2 ⟨⟨_, Tryz.func125, k125⟩,
    List.forall_mem_cons.2 ⟨⟨_, Tryz.func126, k126⟩,
    List.forall_mem_cons.2 ⟨⟨_, Tryz.func138, k138⟩,
    List.forall_mem_cons.2 ⟨⟨_, Tryz.func144, k144⟩,
    List.forall_mem_cons.2 ⟨⟨_, Tryz.func147, k147⟩,
    List.forall_mem_cons.2 ⟨⟨_, Tryz.func148, k148⟩,
    List.forall_mem_cons.2 ⟨⟨_, Tryz.func149, k149⟩,
    List.forall_mem_cons.2 ⟨⟨_, Tryz.func150, k150⟩,
    List.forall_mem_cons.2 ⟨⟨_, Tryz.func151, k151⟩,
    List.forall_mem_cons.2 ⟨⟨_, Tryz.func152, k152⟩,
    List.forall_mem_cons.2 ⟨⟨_, Tryz.func153, k153⟩,
    List.forall_mem_cons.2 ⟨⟨_, Tryz.func154, k154⟩,
    List.forall_mem_cons.2 ⟨⟨_, Tryz.func163, k163⟩,
    List.forall_mem_cons.2 ⟨⟨_, Tryz.func164, k164⟩,
    List.forall_mem_cons.2 ⟨⟨_, Tryz.func165, k165⟩,
    List.forall_mem_cons.2 ⟨⟨_, Tryz.func166, k166⟩,
    List.forall_mem_cons.2 ⟨⟨_, Tryz.func167, k167⟩,
    List.forall_mem_cons.2 ⟨⟨_, Tryz.func169, k169⟩,
    List.forall_mem_cons.2 ⟨⟨_, Tryz.func170, k170⟩,
    List.forall_mem_cons.2 ⟨⟨_, Tryz.func171, k171⟩,
    List.forall_mem_cons.2 ⟨⟨_, Tryz.func172, k172⟩,
    List.forall_mem_cons.2 ⟨⟨_, Tryz.func173, k173⟩,
    List.forall_mem_cons.2 ⟨⟨_, Tryz.func174, k174⟩,
    List.forall_mem_cons.2 ⟨⟨_, Tryz.func175, k175⟩,
    List.forall_mem_cons.2 ⟨⟨_, Tryz.func176, k176⟩,
    List.forall_mem_cons.2 ⟨⟨_, Tryz.func177, k177⟩,
    List.forall_mem_cons.2 ⟨⟨_, Tryz.func180, k180⟩,
    List.forall_mem_cons.2 ⟨⟨_, Tryz.func181, k181⟩,
    List.forall_mem_cons.2 ⟨⟨_, Tryz.func182, k182⟩,
    List.forall_mem_cons.2 ⟨⟨_, Tryz.func183, k183⟩,
    List.forall_mem_cons.2 ⟨⟨_, Tryz.func184, k184⟩,
    List.forall_mem_cons.2 ⟨⟨_, Tryz.func185, k185⟩,
    List.forall_mem_cons.2 ⟨⟨_, Tryz.func186, k186⟩,
    List.forall_mem_cons.2 ⟨⟨_, Tryz.func189, k189⟩,
    List.forall_mem_cons.2 ⟨⟨_, Tryz.func190, k190⟩,
    List.forall_mem_cons.2 ⟨⟨_, Tryz.func191, k191⟩,
    List.forall_mem_cons.2 ⟨⟨_, Tryz.func192, k192⟩,
    List.forall_mem_cons.2 ⟨⟨_, Tryz.func193, k193⟩,
    List.forall_mem_cons.2 ⟨⟨_, Tryz.func194, k194⟩,
    List.forall_mem_cons.2 ⟨⟨_, Tryz.func195, k195⟩,
    List.forall_mem_cons.2 ⟨⟨_, Tryz.func196, k196⟩,
    List.forall_mem_cons.2 ⟨⟨_, Tryz.func197, k197⟩,
    List.forall_mem_cons.2 ⟨⟨_, Tryz.func198, k198⟩,
    List.forall_mem_cons.2 ⟨⟨_, Tryz.func199, k199⟩,
    List.forall_mem_cons.2 ⟨⟨_, Tryz.func200, k200⟩,
    List.forall_mem_cons.2 ⟨⟨_, Tryz.func201, k201⟩,
    List.forall_mem_cons.2 ⟨⟨_, Tryz.func204, k204⟩,
    List.forall_mem_cons.2 ⟨⟨_, Tryz.func205, k205⟩,
    List.forall_mem_cons.2 ⟨⟨_, Tryz.func206, k206⟩,
    List.forall_mem_nil _⟩⟩⟩⟩⟩⟩⟩⟩⟩⟩⟩⟩⟩⟩⟩⟩⟩⟩⟩⟩⟩⟩⟩⟩⟩⟩⟩⟩⟩⟩⟩⟩⟩⟩⟩⟩⟩⟩⟩⟩⟩⟩⟩⟩⟩⟩⟩⟩⟩⟩⟩⟩⟩⟩⟩⟩⟩⟩⟩⟩⟩⟩⟩⟩⟩⟩⟩⟩⟩⟩⟩⟩⟩⟩⟩⟩⟩⟩⟩⟩⟩⟩⟩⟩⟩⟩⟩⟩⟩⟩⟩⟩⟩⟩⟩⟩⟩⟩⟩⟩⟩⟩⟩⟩⟩⟩
  exact all _ (lookFn_mem h)
def G0 : Nat → AV := fun _ => .dead
theorem g0OK (κ : Kap) : GOK κ G0 := fun _ => ⟨.dead _, rfl⟩
theorem xOK : XOK Tryz.prog T1 G0 X0 := ⟨(fun _ _ _ _ _ h => by cases h), (fun _ _ _ _ _ _ _ _ _ h => by cases h)⟩
theorem mixed : Tryz.prog.follows .mixedOrders = true := Tryz.checked.mixed
theorem ok10 : ∃ s', callω T1 G0 X0 10 [] { own := [], up := [], ro := [] } = .ok (.bool true) s' := by
  have h := r10
  rw [Force.full_eq] at h
  unfold okT at h
  split at h
  · rename_i b s' e
    subst h
    exact ⟨s', callω_of T1 G0 X0 (fun h => by cases h) e⟩
  · cases h
end Go.AbZ
