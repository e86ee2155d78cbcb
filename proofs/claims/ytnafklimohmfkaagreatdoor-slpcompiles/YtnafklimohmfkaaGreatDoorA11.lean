/- What the claim's texts say of a part of the evaluator and of the program's functions: for every argument that they name. -/
import Derived.Test.YtnafklimohmfkaaGreatDoorA3
import Derived.Test.YtnafklimohmfkaaGreatDoorA2
import Derived.KernelRfl
import Derived.Test.YtnafklimohmfkaaGreatDoorProg
import Derived.Test.YtnafklimohmfkaaGreatDoorA10
import Derived.Test.YtnafklimohmfkaaGreatDoorCards
import Derived.Eval
set_option linter.unusedSectionVars false
set_option linter.unusedSimpArgs false
set_option linter.unusedVariables false
namespace Go.jY
open Go.Ab Go.Proofs
noncomputable def TD:TT:=axJ Tryz.prog
theorem aQ{f:Nat}{c:bT}{fn:Func}{r:List (Nat×bT)}(h1:Tryz.prog.funcs[f]? =some fn)(h3:∀x∈r,∃fn,Tryz.prog.funcs[x.1]? =some fn∧EA TD x.2 fn=true)(h2:EA TD c fn=true:=by kernel_rfl):∀x∈(f,c) :: r,∃fn,Tryz.prog.funcs[x.1]? =some fn∧EA TD x.2 fn=true:=List.forall_mem_cons.2 ⟨⟨fn,h1,h2⟩,h3⟩
theorem aFM:TD.OK Tryz.prog:=by unfold TD;exact aiL _
set_option maxRecDepth 1000000
open Tryz in
theorem aC8:Uq Tryz.prog TD T1:=fun f lc h=>by
 have all:∀x∈L1,∃fn,Tryz.prog.funcs[x.1]? =some fn∧EA TD x.2 fn=true:=
  aQ func3 (aQ func10 (aQ func11 (aQ func12 (aQ func13 (aQ func14 (aQ func15 (aQ func18 (aQ func19 (aQ func20 (aQ func24 (aQ func26 (aQ func28 (aQ func30 (aQ func32 (aQ func41 (aQ func42 (aQ func43 (aQ func44 (aQ func45 (aQ func46 (aQ func47 (aQ func48 (aQ func49 (aQ func50 (aQ func52 (aQ func53 (aQ func54 (aQ func55 (aQ func56 (aQ func57 (aQ func65 (aQ func66 (aQ func70 (aQ func71 (aQ func72 (aQ func73 (aQ func74 (aQ func75 (aQ func76 (aQ func77 (aQ func78 (aQ func79 (aQ func80 (aQ func81 (aQ func82 (aQ func83 (aQ func84 (aQ func85 (aQ func86 (aQ func87 (aQ func88 (aQ func103 (aQ func106 (aQ func107 (aQ func108 (aQ func109 (aQ func110 (aQ func111 (aQ func115 (aQ func116 (aQ func117 (aQ func118 (aQ func119 (aQ func120 (aQ func121 (aQ func122 (aQ func123 (aQ func124 (aQ func125 (aQ func126 (aQ func127 (aQ func128 (aQ func129 (aQ func130 (aQ func131 (aQ func132 (aQ func133 (aQ func134 (aQ func135 (aQ func136 (aQ func137 (aQ func138 (aQ func145 (aQ func146 (aQ func147 (aQ func148 (aQ func149 (aQ func150 (aQ func151 (aQ func152 (aQ func153 (aQ func154 (aQ func155 (aQ func156 (aQ func157 (aQ func158 (aQ func159 (aQ func160 (aQ func161 (aQ func162 (aQ func163 (aQ func164 (aQ func165 (aQ func166 (aQ func168 (aQ func169 (aQ func170 (aQ func171 (aQ func172 (aQ func173 (aQ func174 (aQ func175 (aQ func176 (aQ func177 (aQ func178 (aQ func179 (aQ func180 (aQ func181 (aQ func182 (aQ func183 (aQ func184 (aQ func187 (aQ func188 (aQ func189 (aQ func190 (aQ func191 (aQ func192 (aQ func193 (aQ func194 (aQ func195 (aQ func196 (aQ func197 (aQ func198 (aQ func199 (aQ func200 (aQ func201 (aQ func202 (aQ func203 (aQ func204 (aQ func205 (aQ func206 (aQ func207 (aQ func208 (List.forall_mem_nil _))))))))))))))))))))))))))))))))))))))))))))))))))))))))))))))))))))))))))))))))))))))))))))))))))))))))))))))))))))))))))))))))))))))))))))))))
 exact all _ (Bp h)
def G0:Nat→AV:=fun _=>.dead
theorem aFN(κ:bR):nV κ G0:=fun _=>⟨.dead _,rfl⟩
theorem xOK:XOK Tryz.prog T1 G0 X0:=⟨(fun _ _ _ _ _ h=>by cases h),(fun _ _ _ _ _ _ _ _ _ h=>by cases h)⟩
theorem mixed:Tryz.prog.follows .mixedOrders=true:=Tryz.checked.mixed
theorem aFO:∃s',aJ T1 G0 X0 10 [] {own:=[],up:=[],ro:=[]}= .ok (.bool true) s':=by
 have h:=r10
 rw[a6.ah8] at h
 unfold okT at h
 split at h
 ·rename_i b s' e
  subst h
  exact⟨s',u7 T1 G0 X0 (fun h=>by cases h) e⟩
 ·cases h
end Go.jY
