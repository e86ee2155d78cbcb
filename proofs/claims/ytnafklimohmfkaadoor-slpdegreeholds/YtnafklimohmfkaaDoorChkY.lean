/- Each function's abstract code is the program's own code: no condition. -/
import Derived.Test.YtnafklimohmfkaaDoorTabY
import Derived.Test.YtnafklimohmfkaaDoorTd
import Derived.KernelRfl
import Derived.Test.YtnafklimohmfkaaDoorProg
namespace Go.AbY
open Go.Ab Go.Proofs
noncomputable def TD : TT := TDof Tryd.prog
set_option maxRecDepth 1000000
theorem k5 : okFn TD c5 Tryd.f5 = true := by kernel_rfl
theorem k6 : okFn TD c6 Tryd.f6 = true := by kernel_rfl
theorem k7 : okFn TD c7 Tryd.f7 = true := by kernel_rfl
theorem k8 : okFn TD c8 Tryd.f8 = true := by kernel_rfl
theorem k9 : okFn TD c9 Tryd.f9 = true := by kernel_rfl
theorem k10 : okFn TD c10 Tryd.f10 = true := by kernel_rfl
theorem k11 : okFn TD c11 Tryd.f11 = true := by kernel_rfl
theorem k15 : okFn TD c15 Tryd.f15 = true := by kernel_rfl
theorem k16 : okFn TD c16 Tryd.f16 = true := by kernel_rfl
theorem k17 : okFn TD c17 Tryd.f17 = true := by kernel_rfl
theorem k18 : okFn TD c18 Tryd.f18 = true := by kernel_rfl
theorem k19 : okFn TD c19 Tryd.f19 = true := by kernel_rfl
theorem k20 : okFn TD c20 Tryd.f20 = true := by kernel_rfl
theorem k21 : okFn TD c21 Tryd.f21 = true := by kernel_rfl
theorem k22 : okFn TD c22 Tryd.f22 = true := by kernel_rfl
theorem k23 : okFn TD c23 Tryd.f23 = true := by kernel_rfl
theorem k24 : okFn TD c24 Tryd.f24 = true := by kernel_rfl
theorem k25 : okFn TD c25 Tryd.f25 = true := by kernel_rfl
theorem k26 : okFn TD c26 Tryd.f26 = true := by kernel_rfl
theorem k27 : okFn TD c27 Tryd.f27 = true := by kernel_rfl
theorem k29 : okFn TD c29 Tryd.f29 = true := by kernel_rfl
theorem k30 : okFn TD c30 Tryd.f30 = true := by kernel_rfl
theorem k31 : okFn TD c31 Tryd.f31 = true := by kernel_rfl
theorem k32 : okFn TD c32 Tryd.f32 = true := by kernel_rfl
theorem k33 : okFn TD c33 Tryd.f33 = true := by kernel_rfl
theorem k34 : okFn TD c34 Tryd.f34 = true := by kernel_rfl
theorem k35 : okFn TD c35 Tryd.f35 = true := by kernel_rfl
theorem k36 : okFn TD c36 Tryd.f36 = true := by kernel_rfl
theorem k37 : okFn TD c37 Tryd.f37 = true := by kernel_rfl
theorem k38 : okFn TD c38 Tryd.f38 = true := by kernel_rfl
theorem k39 : okFn TD c39 Tryd.f39 = true := by kernel_rfl
theorem k40 : okFn TD c40 Tryd.f40 = true := by kernel_rfl
theorem k41 : okFn TD c41 Tryd.f41 = true := by kernel_rfl
theorem k42 : okFn TD c42 Tryd.f42 = true := by kernel_rfl
theorem k43 : okFn TD c43 Tryd.f43 = true := by kernel_rfl
theorem k44 : okFn TD c44 Tryd.f44 = true := by kernel_rfl
theorem k45 : okFn TD c45 Tryd.f45 = true := by kernel_rfl
theorem k46 : okFn TD c46 Tryd.f46 = true := by kernel_rfl
theorem k47 : okFn TD c47 Tryd.f47 = true := by kernel_rfl
theorem k48 : okFn TD c48 Tryd.f48 = true := by kernel_rfl
theorem k49 : okFn TD c49 Tryd.f49 = true := by kernel_rfl
theorem k50 : okFn TD c50 Tryd.f50 = true := by kernel_rfl
theorem k51 : okFn TD c51 Tryd.f51 = true := by kernel_rfl
theorem k52 : okFn TD c52 Tryd.f52 = true := by kernel_rfl
theorem k53 : okFn TD c53 Tryd.f53 = true := by kernel_rfl
theorem k54 : okFn TD c54 Tryd.f54 = true := by kernel_rfl
theorem k55 : okFn TD c55 Tryd.f55 = true := by kernel_rfl
theorem k56 : okFn TD c56 Tryd.f56 = true := by kernel_rfl
theorem k57 : okFn TD c57 Tryd.f57 = true := by kernel_rfl
theorem k58 : okFn TD c58 Tryd.f58 = true := by kernel_rfl
theorem k59 : okFn TD c59 Tryd.f59 = true := by kernel_rfl
theorem k60 : okFn TD c60 Tryd.f60 = true := by kernel_rfl
theorem k61 : okFn TD c61 Tryd.f61 = true := by kernel_rfl
theorem k62 : okFn TD c62 Tryd.f62 = true := by kernel_rfl
theorem k63 : okFn TD c63 Tryd.f63 = true := by kernel_rfl
theorem k64 : okFn TD c64 Tryd.f64 = true := by kernel_rfl
theorem k65 : okFn TD c65 Tryd.f65 = true := by kernel_rfl
theorem k66 : okFn TD c66 Tryd.f66 = true := by kernel_rfl
theorem k67 : okFn TD c67 Tryd.f67 = true := by kernel_rfl
theorem k68 : okFn TD c68 Tryd.f68 = true := by kernel_rfl
theorem k69 : okFn TD c69 Tryd.f69 = true := by kernel_rfl
theorem k70 : okFn TD c70 Tryd.f70 = true := by kernel_rfl
theorem k71 : okFn TD c71 Tryd.f71 = true := by kernel_rfl
theorem k72 : okFn TD c72 Tryd.f72 = true := by kernel_rfl
theorem k73 : okFn TD c73 Tryd.f73 = true := by kernel_rfl
theorem k74 : okFn TD c74 Tryd.f74 = true := by kernel_rfl
theorem k75 : okFn TD c75 Tryd.f75 = true := by kernel_rfl
theorem k76 : okFn TD c76 Tryd.f76 = true := by kernel_rfl
theorem k77 : okFn TD c77 Tryd.f77 = true := by kernel_rfl
theorem k78 : okFn TD c78 Tryd.f78 = true := by kernel_rfl
theorem k79 : okFn TD c79 Tryd.f79 = true := by kernel_rfl
theorem k80 : okFn TD c80 Tryd.f80 = true := by kernel_rfl
theorem k81 : okFn TD c81 Tryd.f81 = true := by kernel_rfl
theorem k82 : okFn TD c82 Tryd.f82 = true := by kernel_rfl
theorem k83 : okFn TD c83 Tryd.f83 = true := by kernel_rfl
theorem k84 : okFn TD c84 Tryd.f84 = true := by kernel_rfl
theorem k85 : okFn TD c85 Tryd.f85 = true := by kernel_rfl
theorem k86 : okFn TD c86 Tryd.f86 = true := by kernel_rfl
theorem k87 : okFn TD c87 Tryd.f87 = true := by kernel_rfl
theorem k88 : okFn TD c88 Tryd.f88 = true := by kernel_rfl
theorem k89 : okFn TD c89 Tryd.f89 = true := by kernel_rfl
theorem k90 : okFn TD c90 Tryd.f90 = true := by kernel_rfl
theorem k91 : okFn TD c91 Tryd.f91 = true := by kernel_rfl
theorem k92 : okFn TD c92 Tryd.f92 = true := by kernel_rfl
theorem k93 : okFn TD c93 Tryd.f93 = true := by kernel_rfl
theorem k94 : okFn TD c94 Tryd.f94 = true := by kernel_rfl
theorem k95 : okFn TD c95 Tryd.f95 = true := by kernel_rfl
theorem k96 : okFn TD c96 Tryd.f96 = true := by kernel_rfl
theorem k97 : okFn TD c97 Tryd.f97 = true := by kernel_rfl
theorem k98 : okFn TD c98 Tryd.f98 = true := by kernel_rfl
theorem k99 : okFn TD c99 Tryd.f99 = true := by kernel_rfl
theorem k100 : okFn TD c100 Tryd.f100 = true := by kernel_rfl
theorem k101 : okFn TD c101 Tryd.f101 = true := by kernel_rfl
end Go.AbY
