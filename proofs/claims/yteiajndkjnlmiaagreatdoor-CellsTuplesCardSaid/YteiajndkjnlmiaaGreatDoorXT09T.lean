/- The table of the executor's functions is the program's. -/
import Derived.Test.YteiajndkjnlmiaaGreatDoorXT09E
set_option linter.unusedVariables false
set_option linter.unusedSimpArgs false
namespace Go.Abs.T09
open Go Go.Abs Go.Proofs
variable {g : Nat → Option Obj}

set_option maxRecDepth 100000 in
theorem tab_code (i : Nat) (f : AFunc) (h : tab i = some (.code f)) : ∃ fn, (C g).P.funcs[id i]? = some fn ∧ (C g).func fn f.fresh = some f := by
  unfold tab at h
  split at h
  · cases h; exact ⟨_, Tryz.func3, c3 g⟩
  · cases h; exact ⟨_, Tryz.func4, c4 g⟩
  · cases h; exact ⟨_, Tryz.func5, c5 g⟩
  · cases h; exact ⟨_, Tryz.func6, c6 g⟩
  · cases h; exact ⟨_, Tryz.func7, c7 g⟩
  · cases h; exact ⟨_, Tryz.func8, c8 g⟩
  · cases h; exact ⟨_, Tryz.func9, c9 g⟩
  · cases h; exact ⟨_, Tryz.func10, c10 g⟩
  · cases h; exact ⟨_, Tryz.func11, c11 g⟩
  · cases h; exact ⟨_, Tryz.func12, c12 g⟩
  · cases h; exact ⟨_, Tryz.func13, c13 g⟩
  · cases h; exact ⟨_, Tryz.func14, c14 g⟩
  · cases h; exact ⟨_, Tryz.func15, c15 g⟩
  · cases h; exact ⟨_, Tryz.func16, c16 g⟩
  · cases h; exact ⟨_, Tryz.func17, c17 g⟩
  · cases h; exact ⟨_, Tryz.func18, c18 g⟩
  · cases h
  · cases h; exact ⟨_, Tryz.func20, c20 g⟩
  · cases h; exact ⟨_, Tryz.func21, c21 g⟩
  · cases h; exact ⟨_, Tryz.func22, c22 g⟩
  · cases h; exact ⟨_, Tryz.func23, c23 g⟩
  · cases h; exact ⟨_, Tryz.func24, c24 g⟩
  · cases h; exact ⟨_, Tryz.func25, c25 g⟩
  · cases h; exact ⟨_, Tryz.func26, c26 g⟩
  · cases h; exact ⟨_, Tryz.func27, c27 g⟩
  · cases h; exact ⟨_, Tryz.func28, c28 g⟩
  · cases h; exact ⟨_, Tryz.func29, c29 g⟩
  · cases h; exact ⟨_, Tryz.func30, c30 g⟩
  · cases h; exact ⟨_, Tryz.func31, c31 g⟩
  · cases h; exact ⟨_, Tryz.func32, c32 g⟩
  · cases h; exact ⟨_, Tryz.func33, c33 g⟩
  · cases h; exact ⟨_, Tryz.func34, c34 g⟩
  · cases h; exact ⟨_, Tryz.func35, c35 g⟩
  · cases h; exact ⟨_, Tryz.func36, c36 g⟩
  · cases h; exact ⟨_, Tryz.func37, c37 g⟩
  · cases h; exact ⟨_, Tryz.func38, c38 g⟩
  · cases h; exact ⟨_, Tryz.func39, c39 g⟩
  · cases h; exact ⟨_, Tryz.func40, c40 g⟩
  · cases h; exact ⟨_, Tryz.func41, c41 g⟩
  · cases h; exact ⟨_, Tryz.func42, c42 g⟩
  · cases h; exact ⟨_, Tryz.func43, c43 g⟩
  · cases h; exact ⟨_, Tryz.func44, c44 g⟩
  · cases h; exact ⟨_, Tryz.func49, c49 g⟩
  · cases h; exact ⟨_, Tryz.func50, c50 g⟩
  · cases h; exact ⟨_, Tryz.func51, c51 g⟩
  · cases h; exact ⟨_, Tryz.func52, c52 g⟩
  · cases h; exact ⟨_, Tryz.func53, c53 g⟩
  · cases h; exact ⟨_, Tryz.func54, c54 g⟩
  · cases h; exact ⟨_, Tryz.func55, c55 g⟩
  · cases h; exact ⟨_, Tryz.func56, c56 g⟩
  · cases h; exact ⟨_, Tryz.func57, c57 g⟩
  · cases h; exact ⟨_, Tryz.func58, c58 g⟩
  · cases h; exact ⟨_, Tryz.func59, c59 g⟩
  · cases h; exact ⟨_, Tryz.func60, c60 g⟩
  · cases h; exact ⟨_, Tryz.func61, c61 g⟩
  · cases h; exact ⟨_, Tryz.func62, c62 g⟩
  · cases h; exact ⟨_, Tryz.func63, c63 g⟩
  · cases h; exact ⟨_, Tryz.func67, c67 g⟩
  · cases h; exact ⟨_, Tryz.func68, c68 g⟩
  · cases h; exact ⟨_, Tryz.func69, c69 g⟩
  · cases h; exact ⟨_, Tryz.func70, c70 g⟩
  · cases h; exact ⟨_, Tryz.func71, c71 g⟩
  · cases h; exact ⟨_, Tryz.func72, c72 g⟩
  · cases h; exact ⟨_, Tryz.func73, c73 g⟩
  · cases h; exact ⟨_, Tryz.func74, c74 g⟩
  · cases h; exact ⟨_, Tryz.func75, c75 g⟩
  · cases h; exact ⟨_, Tryz.func76, c76 g⟩
  · cases h
  · cases h; exact ⟨_, Tryz.func78, c78 g⟩
  · cases h; exact ⟨_, Tryz.func79, c79 g⟩
  · cases h; exact ⟨_, Tryz.func80, c80 g⟩
  · cases h; exact ⟨_, Tryz.func81, c81 g⟩
  · cases h; exact ⟨_, Tryz.func82, c82 g⟩
  · cases h
  · cases h; exact ⟨_, Tryz.func87, c87 g⟩
  · cases h; exact ⟨_, Tryz.func88, c88 g⟩
  · cases h
  · cases h; exact ⟨_, Tryz.func94, c94 g⟩
  · cases h; exact ⟨_, Tryz.func101, c101 g⟩
  · cases h

set_option maxRecDepth 100000 in
theorem tab_ext (htab : ∀ (G : Gh) (H : Heap) (w : World), RelH (C g) id G H w → Lib.TabIs Tryz.prog w "strings.asciiSpace" .u8 Lib.asciiSpaceTab) (i : Nat) (spec : List V → Option V) (h : tab i = some (.ext spec)) : ExtOk (C g) id i spec := by
  unfold tab at h
  split at h
  · cases h
  · cases h
  · cases h
  · cases h
  · cases h
  · cases h
  · cases h
  · cases h
  · cases h
  · cases h
  · cases h
  · cases h
  · cases h
  · cases h
  · cases h
  · cases h
  · cases h; exact join_ok
  · cases h
  · cases h
  · cases h
  · cases h
  · cases h
  · cases h
  · cases h
  · cases h
  · cases h
  · cases h
  · cases h
  · cases h
  · cases h
  · cases h
  · cases h
  · cases h
  · cases h
  · cases h
  · cases h
  · cases h
  · cases h
  · cases h
  · cases h
  · cases h
  · cases h
  · cases h
  · cases h
  · cases h
  · cases h
  · cases h
  · cases h
  · cases h
  · cases h
  · cases h
  · cases h
  · cases h
  · cases h
  · cases h
  · cases h
  · cases h
  · cases h
  · cases h
  · cases h
  · cases h
  · cases h
  · cases h
  · cases h
  · cases h
  · cases h
  · cases h
  · cases h; exact atoi_ok
  · cases h
  · cases h
  · cases h
  · cases h
  · cases h
  · cases h; exact fields_ok htab
  · cases h
  · cases h
  · cases h; exact indexByte_ok
  · cases h
  · cases h
  · cases h

set_option maxRecDepth 100000 in
theorem tab_ok (htab : ∀ (G : Gh) (H : Heap) (w : World), RelH (C g) id G H w → Lib.TabIs Tryz.prog w "strings.asciiSpace" .u8 Lib.asciiSpaceTab) : TabOk (C g) id tab := ⟨tab_code, tab_ext htab⟩
theorem ctx_ok : CtxOk (C g) id := ⟨fun f i h => by cases h; rfl⟩
end Go.Abs.T09
