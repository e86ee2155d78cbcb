/- A part of the proof: no condition. -/
import Derived.Test.YtnafklimohmfkaaGreatDoorA3
import Derived.Test.YtnafklimohmfkaaGreatDoorA2
import Derived.KernelRfl
import Derived.Test.YtnafklimohmfkaaGreatDoorProg
import Derived.Test.YtnafklimohmfkaaGreatDoorA10
import Derived.Test.YtnafklimohmfkaaGreatDoorCards
import Derived.Eval
set_option linter.unusedSectionVars false
namespace Go.h6
open Go.Ab Go.Proofs
noncomputable def avt:mQ:=aqO Tryz.prog
theorem aN{f:Nat}{c:bY}{fn:Func}{r:List (Nat×bY)}(aD:Tryz.prog.funcs[f]? =some fn)(bz:∀x∈r,∃fn,Tryz.prog.funcs[x.1]? =some fn∧yM avt x.2 fn=true)(aG:yM avt c fn=true:=by kernel_rfl):∀x∈(f,c)::r,∃fn,Tryz.prog.funcs[x.1]? =some fn∧yM avt x.2 fn=true:=List.forall_mem_cons.2 ⟨⟨fn,aD,aG⟩,bz⟩
theorem awo:avt.uO Tryz.prog:=by unfold avt;exact abB _
set_option maxRecDepth 1000000
open Tryz in
theorem avu:Nf Tryz.prog avt au:=fun f e h=>by
 have all:∀x∈aw7,∃fn,Tryz.prog.funcs[x.1]? =some fn∧yM avt x.2 fn=true:=
  aN func7 (aN func10 (aN func11 (aN func12 (aN func13 (aN func14 (aN func15 (aN func18 (aN func19 (aN func20 (aN func24 (aN func26 (aN func28 (aN func30 (aN func32 (aN func35 (aN func36 (aN func41 (aN func42 (aN func43 (aN func44 (aN func45 (aN func46 (aN func47 (aN func48 (aN func49 (aN func50 (aN func52 (aN func53 (aN func54 (aN func55 (aN func56 (aN func57 (aN func62 (aN func63 (aN func64 (aN func65 (aN func66 (aN func67 (aN func70 (aN func71 (aN func72 (aN func73 (aN func74 (aN func75 (aN func76 (aN func77 (aN func78 (aN func79 (aN func80 (aN func81 (aN func82 (aN func83 (aN func84 (aN func85 (aN func86 (aN func87 (aN func88 (aN func102 (aN func103 (aN func104 (aN func105 (aN func106 (aN func107 (aN func108 (aN func109 (aN func110 (aN func111 (aN func115 (aN func116 (aN func117 (aN func118 (aN func119 (aN func120 (aN func121 (aN func122 (aN func123 (aN func124 (aN func125 (aN func126 (aN func127 (aN func128 (aN func129 (aN func130 (aN func131 (aN func132 (aN func133 (aN func134 (aN func135 (aN func136 (aN func137 (aN func138 (aN func144 (aN func145 (aN func146 (aN func147 (aN func148 (aN func149 (aN func150 (aN func151 (aN func152 (aN func153 (aN func154 (aN func155 (aN func156 (aN func157 (aN func158 (aN func159 (aN func160 (aN func161 (aN func162 (aN func163 (aN func164 (aN func165 (aN func166 (aN func167 (aN func168 (aN func169 (aN func170 (aN func171 (aN func172 (aN func173 (aN func174 (aN func175 (aN func176 (aN func177 (aN func178 (aN func179 (aN func180 (aN func181 (aN func182 (aN func183 (aN func184 (aN func185 (aN func186 (aN func187 (aN func188 (aN func189 (aN func190 (aN func191 (aN func192 (aN func193 (aN func194 (aN func195 (aN func196 (aN func197 (aN func198 (aN func199 (aN func200 (aN func201 (aN func202 (aN func203 (aN func204 (aN func205 (aN func206 (aN func207 (aN func208 (List.forall_mem_nil _)))))))))))))))))))))))))))))))))))))))))))))))))))))))))))))))))))))))))))))))))))))))))))))))))))))))))))))))))))))))))))))))))))))))))))))))))))))))))))))
 exact all _ (vB h)
def avA:Nat→ai:=fun _=>.dead
theorem awp(κ:b9):ly κ avA:=fun _=>⟨.dead _,rfl⟩
theorem aw6:aqW Tryz.prog au avA avz:=⟨(fun _ _ _ _ _ h=>by cases h),(fun _ _ _ _ _ _ _ _ _ h=>by cases h)⟩
theorem mixed:Tryz.prog.follows .mixedOrders=true:=Tryz.checked.mixed
theorem awq:∃s',az au avA avz 10 [] {own:=[],up:=[],ro:=[]}=.ok (.bool true) s':=by
 have h:=aw5;rw[bb.abj] at h;unfold awn at h;split at h
 ·rename_i b s' e;subst h;exact⟨s',lC au avA avz (fun h=>by cases h) e⟩
 ·cases h
end Go.h6
