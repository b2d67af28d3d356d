/- Each function in simplified code is the program's function. -/
import Derived.Test.YteiajndkjnlmiaaGreatDoorXT09A
import Derived.Test.YteiajndkjnlmiaaGreatDoorXeComp
import Derived.Test.YteiajndkjnlmiaaGreatDoorProg
set_option linter.unusedVariables false
set_option linter.unusedSimpArgs false
namespace Go.Abs.T09
open Go Go.Abs Go.Proofs
noncomputable def C (g : Nat → Option Obj) : Ctx := { P := Tryz.prog, fidx := some, raw := fun i => i == 63, glob := g }
theorem c3 (g : Nat → Option Obj) : (C g).func Tryz.f3 false = some F3 := by kernel_rfl
theorem c4 (g : Nat → Option Obj) : (C g).func Tryz.f4 false = some F4 := by kernel_rfl
theorem c5 (g : Nat → Option Obj) : (C g).func Tryz.f5 false = some F5 := by kernel_rfl
theorem c6 (g : Nat → Option Obj) : (C g).func Tryz.f6 false = some F6 := by kernel_rfl
theorem c7 (g : Nat → Option Obj) : (C g).func Tryz.f7 false = some F7 := by kernel_rfl
theorem c8 (g : Nat → Option Obj) : (C g).func Tryz.f8 false = some F8 := by kernel_rfl
theorem c9 (g : Nat → Option Obj) : (C g).func Tryz.f9 false = some F9 := by kernel_rfl
theorem c10 (g : Nat → Option Obj) : (C g).func Tryz.f10 false = some F10 := by kernel_rfl
theorem c11 (g : Nat → Option Obj) : (C g).func Tryz.f11 false = some F11 := by kernel_rfl
theorem c12 (g : Nat → Option Obj) : (C g).func Tryz.f12 false = some F12 := by kernel_rfl
theorem c13 (g : Nat → Option Obj) : (C g).func Tryz.f13 false = some F13 := by kernel_rfl
theorem c14 (g : Nat → Option Obj) : (C g).func Tryz.f14 false = some F14 := by kernel_rfl
theorem c15 (g : Nat → Option Obj) : (C g).func Tryz.f15 false = some F15 := by kernel_rfl
theorem c16 (g : Nat → Option Obj) : (C g).func Tryz.f16 false = some F16 := by kernel_rfl
theorem c17 (g : Nat → Option Obj) : (C g).func Tryz.f17 false = some F17 := by kernel_rfl
theorem c18 (g : Nat → Option Obj) : (C g).func Tryz.f18 false = some F18 := by kernel_rfl
theorem c20 (g : Nat → Option Obj) : (C g).func Tryz.f20 false = some F20 := by kernel_rfl
theorem c21 (g : Nat → Option Obj) : (C g).func Tryz.f21 false = some F21 := by kernel_rfl
theorem c22 (g : Nat → Option Obj) : (C g).func Tryz.f22 false = some F22 := by kernel_rfl
theorem c23 (g : Nat → Option Obj) : (C g).func Tryz.f23 false = some F23 := by kernel_rfl
theorem c24 (g : Nat → Option Obj) : (C g).func Tryz.f24 false = some F24 := by kernel_rfl
theorem c25 (g : Nat → Option Obj) : (C g).func Tryz.f25 false = some F25 := by kernel_rfl
theorem c26 (g : Nat → Option Obj) : (C g).func Tryz.f26 false = some F26 := by kernel_rfl
theorem c27 (g : Nat → Option Obj) : (C g).func Tryz.f27 false = some F27 := by kernel_rfl
theorem c28 (g : Nat → Option Obj) : (C g).func Tryz.f28 false = some F28 := by kernel_rfl
theorem c29 (g : Nat → Option Obj) : (C g).func Tryz.f29 false = some F29 := by kernel_rfl
theorem c30 (g : Nat → Option Obj) : (C g).func Tryz.f30 false = some F30 := by kernel_rfl
theorem c31 (g : Nat → Option Obj) : (C g).func Tryz.f31 false = some F31 := by kernel_rfl
theorem c32 (g : Nat → Option Obj) : (C g).func Tryz.f32 false = some F32 := by kernel_rfl
theorem c33 (g : Nat → Option Obj) : (C g).func Tryz.f33 false = some F33 := by kernel_rfl
theorem c34 (g : Nat → Option Obj) : (C g).func Tryz.f34 false = some F34 := by kernel_rfl
theorem c35 (g : Nat → Option Obj) : (C g).func Tryz.f35 false = some F35 := by kernel_rfl
theorem c36 (g : Nat → Option Obj) : (C g).func Tryz.f36 false = some F36 := by kernel_rfl
theorem c37 (g : Nat → Option Obj) : (C g).func Tryz.f37 false = some F37 := by kernel_rfl
theorem c38 (g : Nat → Option Obj) : (C g).func Tryz.f38 false = some F38 := by kernel_rfl
theorem c39 (g : Nat → Option Obj) : (C g).func Tryz.f39 false = some F39 := by kernel_rfl
theorem c40 (g : Nat → Option Obj) : (C g).func Tryz.f40 false = some F40 := by kernel_rfl
theorem c41 (g : Nat → Option Obj) : (C g).func Tryz.f41 false = some F41 := by kernel_rfl
theorem c42 (g : Nat → Option Obj) : (C g).func Tryz.f42 false = some F42 := by kernel_rfl
theorem c43 (g : Nat → Option Obj) : (C g).func Tryz.f43 false = some F43 := by kernel_rfl
theorem c44 (g : Nat → Option Obj) : (C g).func Tryz.f44 false = some F44 := by kernel_rfl
theorem c49 (g : Nat → Option Obj) : (C g).func Tryz.f49 false = some F49 := by kernel_rfl
theorem c50 (g : Nat → Option Obj) : (C g).func Tryz.f50 false = some F50 := by kernel_rfl
theorem c51 (g : Nat → Option Obj) : (C g).func Tryz.f51 false = some F51 := by kernel_rfl
theorem c52 (g : Nat → Option Obj) : (C g).func Tryz.f52 false = some F52 := by kernel_rfl
theorem c53 (g : Nat → Option Obj) : (C g).func Tryz.f53 false = some F53 := by kernel_rfl
theorem c54 (g : Nat → Option Obj) : (C g).func Tryz.f54 false = some F54 := by kernel_rfl
theorem c55 (g : Nat → Option Obj) : (C g).func Tryz.f55 false = some F55 := by kernel_rfl
theorem c56 (g : Nat → Option Obj) : (C g).func Tryz.f56 false = some F56 := by kernel_rfl
theorem c57 (g : Nat → Option Obj) : (C g).func Tryz.f57 true = some F57 := by kernel_rfl
theorem c58 (g : Nat → Option Obj) : (C g).func Tryz.f58 false = some F58 := by kernel_rfl
theorem c59 (g : Nat → Option Obj) : (C g).func Tryz.f59 false = some F59 := by kernel_rfl
theorem c60 (g : Nat → Option Obj) : (C g).func Tryz.f60 false = some F60 := by kernel_rfl
theorem c61 (g : Nat → Option Obj) : (C g).func Tryz.f61 false = some F61 := by kernel_rfl
theorem c62 (g : Nat → Option Obj) : (C g).func Tryz.f62 false = some F62 := by kernel_rfl
theorem c63 (g : Nat → Option Obj) : (C g).func Tryz.f63 false = some F63 := by kernel_rfl
theorem c67 (g : Nat → Option Obj) : (C g).func Tryz.f67 false = some F67 := by kernel_rfl
theorem c68 (g : Nat → Option Obj) : (C g).func Tryz.f68 false = some F68 := by kernel_rfl
theorem c69 (g : Nat → Option Obj) : (C g).func Tryz.f69 false = some F69 := by kernel_rfl
theorem c70 (g : Nat → Option Obj) : (C g).func Tryz.f70 false = some F70 := by kernel_rfl
theorem c71 (g : Nat → Option Obj) : (C g).func Tryz.f71 false = some F71 := by kernel_rfl
theorem c72 (g : Nat → Option Obj) : (C g).func Tryz.f72 false = some F72 := by kernel_rfl
theorem c73 (g : Nat → Option Obj) : (C g).func Tryz.f73 false = some F73 := by kernel_rfl
theorem c74 (g : Nat → Option Obj) : (C g).func Tryz.f74 false = some F74 := by kernel_rfl
theorem c75 (g : Nat → Option Obj) : (C g).func Tryz.f75 false = some F75 := by kernel_rfl
theorem c76 (g : Nat → Option Obj) : (C g).func Tryz.f76 false = some F76 := by kernel_rfl
theorem c78 (g : Nat → Option Obj) : (C g).func Tryz.f78 false = some F78 := by kernel_rfl
theorem c79 (g : Nat → Option Obj) : (C g).func Tryz.f79 false = some F79 := by kernel_rfl
theorem c80 (g : Nat → Option Obj) : (C g).func Tryz.f80 false = some F80 := by kernel_rfl
theorem c81 (g : Nat → Option Obj) : (C g).func Tryz.f81 false = some F81 := by kernel_rfl
theorem c82 (g : Nat → Option Obj) : (C g).func Tryz.f82 false = some F82 := by kernel_rfl
theorem c87 (g : Nat → Option Obj) : (C g).func Tryz.f87 false = some F87 := by kernel_rfl
theorem c88 (g : Nat → Option Obj) : (C g).func Tryz.f88 false = some F88 := by kernel_rfl
theorem c94 (g : Nat → Option Obj) : (C g).func Tryz.f94 false = some F94 := by kernel_rfl
theorem c101 (g : Nat → Option Obj) : (C g).func Tryz.f101 false = some F101 := by kernel_rfl
end Go.Abs.T09
