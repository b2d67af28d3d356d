/- Texts of this claim, joined. -/
import Derived.Test.YteiajndkjnlmiaaGreatDoorP04
import Derived.KernelRfl
import Derived.Lib.Fields
import Derived.Lib.Atoi
import Derived.Lib.Bytealg
import Derived.Lib.Join
import Derived.Test.YteiajndkjnlmiaaGreatDoorP00
import Derived.Test.YteiajndkjnlmiaaGreatDoorProg
import Derived.Shelf.Strings.OnBuilder
import Derived.Shelf.Small.Strs
import Derived.Shelf.Strconv.Atoi
import Derived.Shelf.Strings.Fields
import Derived.Shelf.Strconv.Itoa3
import Derived.Test.YteiajndkjnlmiaaGreatDoorP03
import Derived.Lib.ItoaNum
import Derived.Below
import Derived.Test.YteiajndkjnlmiaaGreatDoorCards
import Derived.Test.YteiajndkjnlmiaaGreatDoorTie
import Derived.WalkKit
import Derived.ProofKit
import Derived.OpenShut
import Derived.ChangeSlices
import Derived.ChangeStays
import Derived.SizedLaws
import Derived.Deep.DeepHandedRow
import Derived.Deep.DeepLaidRun
import Derived.Lib.LaidTab
import Derived.ChangeBears
set_option linter.unusedVariables false
set_option linter.unusedSimpArgs false
namespace Go.Abs.T09
open Go Go.Abs

def xFields : List V → Option V
  | [.str s] => if s.all (fun b => b < 128) && decide (s.length < 4294967281) then some (if (Lib.fields s).isEmpty then .emp else .list 1 ((Lib.fields s).map .str)) else none
  | _ => none
def xAtoi : List V → Option V
  | [.str s] => if s.length ≤ 18 then (Lib.atoi s).map fun n => .tup [.int .i64 n, .nili] else none
  | _ => none
def xIndexByte : List V → Option V
  | [.str s, .int .u8 c] => some (.int .i64 (Lib.indexByte s (UInt8.ofNat c.toNat)))
  | _ => none
def strs : List V → Option (List (List UInt8))
  | [] => some []
  | .str s :: r => (strs r).map (s :: ·)
  | _ => none
def xJoin : List V → Option V
  | [.nil0, .str _] => some (.str [])
  | [.list es ds, .str sep] => match strs ds with
    | some l => if es = 1 ∧ l ≠ [] ∧ l.length ≤ 4096 ∧ (Lib.join l sep).length ≤ 1000000 then some (.str (Lib.join l sep)) else none
    | none => none
  | _ => none
def xItoa : List V → Option V
  | [.int .i64 n] => if 0 ≤ n ∧ n < 10 then some (.str [UInt8.ofNat (48 + n.toNat)]) else none
  | _ => none

def tab : Nat → Option Fun
  | 3 => some (.code F3) | 4 => some (.code F4) | 5 => some (.code F5) | 6 => some (.code F6) | 7 => some (.code F7) | 8 => some (.code F8) | 9 => some (.code F9)
  | 10 => some (.code F10) | 11 => some (.code F11) | 12 => some (.code F12) | 13 => some (.code F13) | 14 => some (.code F14) | 15 => some (.code F15) | 16 => some (.code F16) | 17 => some (.code F17) | 18 => some (.code F18)
  | 19 => some (.ext xJoin) | 20 => some (.code F20) | 21 => some (.code F21) | 22 => some (.code F22) | 23 => some (.code F23) | 24 => some (.code F24) | 25 => some (.code F25) | 26 => some (.code F26) | 27 => some (.code F27)
  | 28 => some (.code F28) | 29 => some (.code F29) | 30 => some (.code F30) | 31 => some (.code F31) | 32 => some (.code F32) | 33 => some (.code F33) | 34 => some (.code F34) | 35 => some (.code F35) | 36 => some (.code F36)
  | 37 => some (.code F37) | 38 => some (.code F38) | 39 => some (.code F39) | 40 => some (.code F40) | 41 => some (.code F41) | 42 => some (.code F42) | 43 => some (.code F43) | 44 => some (.code F44)
  | 49 => some (.code F49) | 50 => some (.code F50) | 51 => some (.code F51) | 52 => some (.code F52) | 53 => some (.code F53) | 54 => some (.code F54) | 55 => some (.code F55) | 56 => some (.code F56) | 57 => some (.code F57)
  | 58 => some (.code F58) | 59 => some (.code F59) | 60 => some (.code F60) | 61 => some (.code F61) | 62 => some (.code F62) | 63 => some (.code F63) | 67 => some (.code F67) | 68 => some (.code F68) | 69 => some (.code F69)
  | 70 => some (.code F70) | 71 => some (.code F71) | 72 => some (.code F72) | 73 => some (.code F73) | 74 => some (.code F74) | 75 => some (.code F75) | 76 => some (.code F76) | 77 => some (.ext xAtoi) | 78 => some (.code F78)
  | 79 => some (.code F79) | 80 => some (.code F80) | 81 => some (.code F81) | 82 => some (.code F82) | 86 => some (.ext xFields) | 87 => some (.code F87) | 88 => some (.code F88) | 89 => some (.ext xIndexByte)
  | 94 => some (.code F94) | 101 => some (.code F101) | 92 => some (.code F92) | 108 => some (.code F108) | 109 => some (.code F109) | 120 => some (.code F120) | 121 => some (.code F121) | 122 => some (.code F122)
  | 123 => some (.code F123) | 124 => some (.code F124) | 125 => some (.code F125) | 132 => some (.code F132) | 45 => some (.ext xItoa) | _ => none
end Go.Abs.T09
/- Each function in simplified code is the program's function. -/
namespace Go.Abs.T09
open Go Go.Abs Go.Proofs
noncomputable def C (g : Nat → Option Obj) : Ctx := { P := Tryz.prog, fidx := some, raw := fun i => i == 63, glob := g }
theorem c3 (g : Nat → Option Obj) : (C g).func Tryz.f3 false = some F3 := by kernel_rfl
theorem c4 (g : Nat → Option Obj) : (C g).func Tryz.f4 false = some F4 := by kernel_rfl
theorem c5 (g : Nat → Option Obj) : (C g).func Tryz.f5 false = some F5 := by kernel_rfl
theorem c6 (g : Nat → Option Obj) : (C g).func Tryz.f6 false = some F6 := by kernel_rfl
theorem c7 (g : Nat → Option Obj) : (C g).func Tryz.f7 false = some F7 := by kernel_rfl
theorem c8 (g : Nat → Option Obj) : (C g).func Tryz.f8 false = some F8 := by kernel_rfl
theorem c9 (g : Nat → Option Obj) : (C g).func Tryz.f9 false = some F9 := by kernel_rfl
theorem c10 (g : Nat → Option Obj) : (C g).func Tryz.f10 false = some F10 := by kernel_rfl
theorem c11 (g : Nat → Option Obj) : (C g).func Tryz.f11 false = some F11 := by kernel_rfl
theorem c12 (g : Nat → Option Obj) : (C g).func Tryz.f12 false = some F12 := by kernel_rfl
theorem c13 (g : Nat → Option Obj) : (C g).func Tryz.f13 false = some F13 := by kernel_rfl
theorem c14 (g : Nat → Option Obj) : (C g).func Tryz.f14 false = some F14 := by kernel_rfl
theorem c15 (g : Nat → Option Obj) : (C g).func Tryz.f15 false = some F15 := by kernel_rfl
theorem c16 (g : Nat → Option Obj) : (C g).func Tryz.f16 false = some F16 := by kernel_rfl
theorem c17 (g : Nat → Option Obj) : (C g).func Tryz.f17 false = some F17 := by kernel_rfl
theorem c18 (g : Nat → Option Obj) : (C g).func Tryz.f18 false = some F18 := by kernel_rfl
theorem c20 (g : Nat → Option Obj) : (C g).func Tryz.f20 false = some F20 := by kernel_rfl
theorem c21 (g : Nat → Option Obj) : (C g).func Tryz.f21 false = some F21 := by kernel_rfl
theorem c22 (g : Nat → Option Obj) : (C g).func Tryz.f22 false = some F22 := by kernel_rfl
theorem c23 (g : Nat → Option Obj) : (C g).func Tryz.f23 false = some F23 := by kernel_rfl
theorem c24 (g : Nat → Option Obj) : (C g).func Tryz.f24 false = some F24 := by kernel_rfl
theorem c25 (g : Nat → Option Obj) : (C g).func Tryz.f25 false = some F25 := by kernel_rfl
theorem c26 (g : Nat → Option Obj) : (C g).func Tryz.f26 false = some F26 := by kernel_rfl
theorem c27 (g : Nat → Option Obj) : (C g).func Tryz.f27 false = some F27 := by kernel_rfl
theorem c28 (g : Nat → Option Obj) : (C g).func Tryz.f28 false = some F28 := by kernel_rfl
theorem c29 (g : Nat → Option Obj) : (C g).func Tryz.f29 false = some F29 := by kernel_rfl
theorem c30 (g : Nat → Option Obj) : (C g).func Tryz.f30 false = some F30 := by kernel_rfl
theorem c31 (g : Nat → Option Obj) : (C g).func Tryz.f31 false = some F31 := by kernel_rfl
theorem c32 (g : Nat → Option Obj) : (C g).func Tryz.f32 false = some F32 := by kernel_rfl
theorem c33 (g : Nat → Option Obj) : (C g).func Tryz.f33 false = some F33 := by kernel_rfl
theorem c34 (g : Nat → Option Obj) : (C g).func Tryz.f34 false = some F34 := by kernel_rfl
theorem c35 (g : Nat → Option Obj) : (C g).func Tryz.f35 false = some F35 := by kernel_rfl
theorem c36 (g : Nat → Option Obj) : (C g).func Tryz.f36 false = some F36 := by kernel_rfl
theorem c37 (g : Nat → Option Obj) : (C g).func Tryz.f37 false = some F37 := by kernel_rfl
theorem c38 (g : Nat → Option Obj) : (C g).func Tryz.f38 false = some F38 := by kernel_rfl
theorem c39 (g : Nat → Option Obj) : (C g).func Tryz.f39 false = some F39 := by kernel_rfl
theorem c40 (g : Nat → Option Obj) : (C g).func Tryz.f40 false = some F40 := by kernel_rfl
theorem c41 (g : Nat → Option Obj) : (C g).func Tryz.f41 false = some F41 := by kernel_rfl
theorem c42 (g : Nat → Option Obj) : (C g).func Tryz.f42 false = some F42 := by kernel_rfl
theorem c43 (g : Nat → Option Obj) : (C g).func Tryz.f43 false = some F43 := by kernel_rfl
theorem c44 (g : Nat → Option Obj) : (C g).func Tryz.f44 false = some F44 := by kernel_rfl
theorem c49 (g : Nat → Option Obj) : (C g).func Tryz.f49 false = some F49 := by kernel_rfl
theorem c50 (g : Nat → Option Obj) : (C g).func Tryz.f50 false = some F50 := by kernel_rfl
theorem c51 (g : Nat → Option Obj) : (C g).func Tryz.f51 false = some F51 := by kernel_rfl
theorem c52 (g : Nat → Option Obj) : (C g).func Tryz.f52 false = some F52 := by kernel_rfl
theorem c53 (g : Nat → Option Obj) : (C g).func Tryz.f53 false = some F53 := by kernel_rfl
theorem c54 (g : Nat → Option Obj) : (C g).func Tryz.f54 false = some F54 := by kernel_rfl
theorem c55 (g : Nat → Option Obj) : (C g).func Tryz.f55 false = some F55 := by kernel_rfl
theorem c56 (g : Nat → Option Obj) : (C g).func Tryz.f56 false = some F56 := by kernel_rfl
theorem c57 (g : Nat → Option Obj) : (C g).func Tryz.f57 true = some F57 := by kernel_rfl
theorem c58 (g : Nat → Option Obj) : (C g).func Tryz.f58 false = some F58 := by kernel_rfl
theorem c59 (g : Nat → Option Obj) : (C g).func Tryz.f59 false = some F59 := by kernel_rfl
theorem c60 (g : Nat → Option Obj) : (C g).func Tryz.f60 false = some F60 := by kernel_rfl
theorem c61 (g : Nat → Option Obj) : (C g).func Tryz.f61 false = some F61 := by kernel_rfl
theorem c62 (g : Nat → Option Obj) : (C g).func Tryz.f62 false = some F62 := by kernel_rfl
theorem c63 (g : Nat → Option Obj) : (C g).func Tryz.f63 false = some F63 := by kernel_rfl
theorem c67 (g : Nat → Option Obj) : (C g).func Tryz.f67 false = some F67 := by kernel_rfl
theorem c68 (g : Nat → Option Obj) : (C g).func Tryz.f68 false = some F68 := by kernel_rfl
theorem c69 (g : Nat → Option Obj) : (C g).func Tryz.f69 false = some F69 := by kernel_rfl
theorem c70 (g : Nat → Option Obj) : (C g).func Tryz.f70 false = some F70 := by kernel_rfl
theorem c71 (g : Nat → Option Obj) : (C g).func Tryz.f71 false = some F71 := by kernel_rfl
theorem c72 (g : Nat → Option Obj) : (C g).func Tryz.f72 false = some F72 := by kernel_rfl
theorem c73 (g : Nat → Option Obj) : (C g).func Tryz.f73 false = some F73 := by kernel_rfl
theorem c74 (g : Nat → Option Obj) : (C g).func Tryz.f74 false = some F74 := by kernel_rfl
theorem c75 (g : Nat → Option Obj) : (C g).func Tryz.f75 false = some F75 := by kernel_rfl
theorem c76 (g : Nat → Option Obj) : (C g).func Tryz.f76 false = some F76 := by kernel_rfl
theorem c78 (g : Nat → Option Obj) : (C g).func Tryz.f78 false = some F78 := by kernel_rfl
theorem c79 (g : Nat → Option Obj) : (C g).func Tryz.f79 false = some F79 := by kernel_rfl
theorem c80 (g : Nat → Option Obj) : (C g).func Tryz.f80 false = some F80 := by kernel_rfl
theorem c81 (g : Nat → Option Obj) : (C g).func Tryz.f81 false = some F81 := by kernel_rfl
theorem c82 (g : Nat → Option Obj) : (C g).func Tryz.f82 false = some F82 := by kernel_rfl
theorem c87 (g : Nat → Option Obj) : (C g).func Tryz.f87 false = some F87 := by kernel_rfl
theorem c88 (g : Nat → Option Obj) : (C g).func Tryz.f88 false = some F88 := by kernel_rfl
theorem c94 (g : Nat → Option Obj) : (C g).func Tryz.f94 false = some F94 := by kernel_rfl
theorem c101 (g : Nat → Option Obj) : (C g).func Tryz.f101 false = some F101 := by kernel_rfl
theorem c92 (g : Nat → Option Obj) : (C g).func Tryz.f92 false = some F92 := by kernel_rfl
theorem c108 (g : Nat → Option Obj) : (C g).func Tryz.f108 false = some F108 := by kernel_rfl
theorem c109 (g : Nat → Option Obj) : (C g).func Tryz.f109 false = some F109 := by kernel_rfl
theorem c120 (g : Nat → Option Obj) : (C g).func Tryz.f120 false = some F120 := by kernel_rfl
theorem c121 (g : Nat → Option Obj) : (C g).func Tryz.f121 false = some F121 := by kernel_rfl
theorem c122 (g : Nat → Option Obj) : (C g).func Tryz.f122 false = some F122 := by kernel_rfl
theorem c123 (g : Nat → Option Obj) : (C g).func Tryz.f123 false = some F123 := by kernel_rfl
theorem c124 (g : Nat → Option Obj) : (C g).func Tryz.f124 false = some F124 := by kernel_rfl
theorem c125 (g : Nat → Option Obj) : (C g).func Tryz.f125 false = some F125 := by kernel_rfl
theorem c132 (g : Nat → Option Obj) : (C g).func Tryz.f132 false = some F132 := by kernel_rfl
end Go.Abs.T09
/- The contracts of the kit's shelf that this claim leans on, laid at this program in plain words: written by the kit's own tools lay-shelf and lay-plain, cut to what is used. -/
namespace Go.Proofs
open Go.Shelf
def Tryz.lays156_ren : Go.Shelf.Ren := ⟨fun | 156 => 19 | 165 => 46 | 166 => 47 | 169 => 48 | 240 => 65 | 241 => 66 | 276 => 84 | 277 => 85 | n => n, fun | 31 => 43 | 9 => 9 | 3 => 3 | 4 => 4 | 0 => 0 | 20 => 20 | 72 => 75 | 76 => 79 | 70 => 72 | 37 => 73 | 75 => 78 | 127 => 95 | 164 => 106 | 5 => 5 | 80 => 81 | n => n, fun | n => n⟩
theorem Tryz.lays156 : Go.Proofs.Lays.n156 Tryz.prog Tryz.lays156_ren := {
  mixed := by kernel_rfl
  f156 := Tryz.func19.trans (congrArg some (by kernel_rfl))
  f165 := Tryz.func46.trans (congrArg some (by kernel_rfl))
  f166 := Tryz.func47.trans (congrArg some (by kernel_rfl))
  f169 := Tryz.func48.trans (congrArg some (by kernel_rfl))
  f240 := Tryz.func65.trans (congrArg some (by kernel_rfl))
  f241 := Tryz.func66.trans (congrArg some (by kernel_rfl))
  f276 := Tryz.func84.trans (congrArg some (by kernel_rfl))
  f277 := Tryz.func85.trans (congrArg some (by kernel_rfl))
  t0 := Tryz.underlying0
  a0 := Tryz.isAgg0
  z0 := Tryz.sizeOf0
  v0 := Tryz.zeroValue0
  t3 := Tryz.underlying3
  a3 := Tryz.isAgg3
  z3 := Tryz.sizeOf3
  v3 := Tryz.zeroValue3
  t4 := Tryz.underlying4
  a4 := Tryz.isAgg4
  z4 := Tryz.sizeOf4
  v4 := Tryz.zeroValue4
  t9 := Tryz.underlying9
  a9 := Tryz.isAgg9
  z9 := Tryz.sizeOf9
  v9 := Tryz.zeroValue9
  t20 := Tryz.underlying20
  a20 := Tryz.isAgg20
  z20 := Tryz.sizeOf20
  v20 := Tryz.zeroValue20
  t31 := Tryz.underlying43
  a31 := Tryz.isAgg43
  z31 := Tryz.sizeOf43
  v31 := Tryz.zeroValue43
  t37 := Tryz.underlying73
  a37 := Tryz.isAgg73
  z37 := Tryz.sizeOf73
  v37 := Tryz.zeroValue73
  t70 := Tryz.underlying72
  a70 := Tryz.isAgg72
  z70 := Tryz.sizeOf72
  v70 := Tryz.zeroValue72
  t72 := Tryz.underlying75
  a72 := Tryz.isAgg75
  z72 := Tryz.sizeOf75
  v72 := Tryz.zeroValue75
  t75 := Tryz.underlying78
  a75 := Tryz.isAgg78
  z75 := Tryz.sizeOf78
  v75 := Tryz.zeroValue78
  t76 := Tryz.underlying79
  a76 := Tryz.isAgg79
  z76 := Tryz.sizeOf79
  v76 := Tryz.zeroValue79
  t127 := Tryz.underlying95
  a127 := Tryz.isAgg95
  z127 := Tryz.sizeOf95
  v127 := Tryz.zeroValue95
  t164 := Tryz.underlying106
  a164 := Tryz.isAgg106
  z164 := Tryz.sizeOf106
  v164 := Tryz.zeroValue106 }
theorem Tryz.Builder_Extra_156 : Builder.Extra Tryz.prog Tryz.lays156_ren := {
  sizeBuilder := by kernel_rfl
  liesBuilder := by kernel_rfl
  t5 := Tryz.underlying5
  a5 := Tryz.isAgg5
  z5 := Tryz.sizeOf5
  v5 := Tryz.zeroValue5
  infoByte := by kernel_rfl
  cellsByte := by kernel_rfl
  sizeByte := by kernel_rfl
  neB5 := by decide }
open Go.RowKit in
/-- No element: the empty string; the world is as it was. (Whatever the slice's address and capacity: a nil slice too.) (LAID: no walk: one application.) -/
theorem Tryz.strings_Join_none (a : Option Addr) (c : Nat) (sep : ByteArray) (w : World) :
    Calls Tryz.prog 19 #[.slice a 0 c, .string sep] w fun e w' => e = .returned (.string ⟨#[]⟩) ∧ w' = w := Any.strings_Join_none Tryz.lays156 Tryz.Builder_Extra_156 a c sep w
def Tryz.lays137_ren : Go.Shelf.Ren := ⟨fun | 137 => 89 | 217 => 102 | 266 => 116 | n => n, fun | 9 => 9 | 5 => 5 | 3 => 3 | n => n, fun | n => n⟩
theorem Tryz.lays137 : Go.Proofs.Lays.n137 Tryz.prog Tryz.lays137_ren := {
  mixed := by kernel_rfl
  f137 := Tryz.func89.trans (congrArg some (by kernel_rfl))
  f217 := Tryz.func102.trans (congrArg some (by kernel_rfl))
  f266 := Tryz.func116.trans (congrArg some (by kernel_rfl))
  t3 := Tryz.underlying3
  a3 := Tryz.isAgg3
  z3 := Tryz.sizeOf3
  v3 := Tryz.zeroValue3
  t5 := Tryz.underlying5
  a5 := Tryz.isAgg5
  z5 := Tryz.sizeOf5
  v5 := Tryz.zeroValue5
  t9 := Tryz.underlying9
  a9 := Tryz.isAgg9
  z9 := Tryz.sizeOf9
  v9 := Tryz.zeroValue9 }
open Go.RowKit in
/-- strings.IndexByte: "IndexByte returns the index of the first instance of c in s, or -1 if c is not present in s.": IT RETURNS 'Lib.indexByte s c'; the world is as it was. (LAID: no walk: one application.) -/
theorem Tryz.strings_IndexByte (s : ByteArray) (c : Int) (w : World) :
    Calls Tryz.prog 89 #[.string s, .int .u8 c] w fun e w' => e = .returned (.int .i64 (Lib.indexByte s.data.toList c.toNat.toUInt8)) ∧ w' = w := Any.strings_IndexByte Tryz.lays137 s c w
def Tryz.lays172_ren : Go.Shelf.Ren := ⟨fun | 172 => 77 | 244 => 90 | 245 => 91 | 247 => 103 | 279 => 104 | 280 => 105 | 281 => 106 | 282 => 107 | 287 => 117 | 316 => 118 | 171 => 45 | 205 => 119 | 321 => 130 | 322 => 131 | 243 => 64 | 246 => 83 | 283 => 95 | 284 => 96 | 285 => 97 | 286 => 98 | 129 => 111 | 317 => 110 | 318 => 112 | 319 => 113 | 320 => 114 | 337 => 126 | 338 => 127 | n => n, fun | 9 => 9 | 3 => 3 | 75 => 78 | 76 => 79 | 4 => 4 | 5 => 5 | 167 => 129 | 37 => 73 | 0 => 0 | 85 => 130 | 2 => 2 | 168 => 132 | 53 => 118 | 175 => 148 | 46 => 100 | 210 => 152 | 127 => 95 | 145 => 171 | 143 => 169 | 21 => 21 | 171 => 121 | 173 => 124 | 212 => 140 | 51 => 115 | 20 => 20 | 213 => 141 | 232 => 172 | 233 => 173 | 80 => 81 | n => n, fun | 15 => 4 | 16 => 5 | 17 => 2 | 18 => 6 | 19 => 7 | n => n⟩
theorem Tryz.lays172 : Go.Proofs.Lays.n172 Tryz.prog Tryz.lays172_ren := {
  mixed := by kernel_rfl
  f129 := Tryz.func111.trans (congrArg some (by kernel_rfl))
  f171 := Tryz.func45.trans (congrArg some (by kernel_rfl))
  f172 := Tryz.func77.trans (congrArg some (by kernel_rfl))
  f205 := Tryz.func119.trans (congrArg some (by kernel_rfl))
  f243 := Tryz.func64.trans (congrArg some (by kernel_rfl))
  f244 := Tryz.func90.trans (congrArg some (by kernel_rfl))
  f245 := Tryz.func91.trans (congrArg some (by kernel_rfl))
  f246 := Tryz.func83.trans (congrArg some (by kernel_rfl))
  f247 := Tryz.func103.trans (congrArg some (by kernel_rfl))
  f279 := Tryz.func104.trans (congrArg some (by kernel_rfl))
  f280 := Tryz.func105.trans (congrArg some (by kernel_rfl))
  f281 := Tryz.func106.trans (congrArg some (by kernel_rfl))
  f282 := Tryz.func107.trans (congrArg some (by kernel_rfl))
  f283 := Tryz.func95.trans (congrArg some (by kernel_rfl))
  f284 := Tryz.func96.trans (congrArg some (by kernel_rfl))
  f285 := Tryz.func97.trans (congrArg some (by kernel_rfl))
  f286 := Tryz.func98.trans (congrArg some (by kernel_rfl))
  f287 := Tryz.func117.trans (congrArg some (by kernel_rfl))
  f316 := Tryz.func118.trans (congrArg some (by kernel_rfl))
  f317 := Tryz.func110.trans (congrArg some (by kernel_rfl))
  f318 := Tryz.func112.trans (congrArg some (by kernel_rfl))
  f319 := Tryz.func113.trans (congrArg some (by kernel_rfl))
  f320 := Tryz.func114.trans (congrArg some (by kernel_rfl))
  f321 := Tryz.func130.trans (congrArg some (by kernel_rfl))
  f322 := Tryz.func131.trans (congrArg some (by kernel_rfl))
  f337 := Tryz.func126.trans (congrArg some (by kernel_rfl))
  f338 := Tryz.func127.trans (congrArg some (by kernel_rfl))
  t0 := Tryz.underlying0
  a0 := Tryz.isAgg0
  z0 := Tryz.sizeOf0
  v0 := Tryz.zeroValue0
  t2 := Tryz.underlying2
  a2 := Tryz.isAgg2
  z2 := Tryz.sizeOf2
  v2 := Tryz.zeroValue2
  t3 := Tryz.underlying3
  a3 := Tryz.isAgg3
  z3 := Tryz.sizeOf3
  v3 := Tryz.zeroValue3
  t4 := Tryz.underlying4
  a4 := Tryz.isAgg4
  z4 := Tryz.sizeOf4
  v4 := Tryz.zeroValue4
  t5 := Tryz.underlying5
  a5 := Tryz.isAgg5
  z5 := Tryz.sizeOf5
  v5 := Tryz.zeroValue5
  t9 := Tryz.underlying9
  a9 := Tryz.isAgg9
  z9 := Tryz.sizeOf9
  v9 := Tryz.zeroValue9
  t20 := Tryz.underlying20
  a20 := Tryz.isAgg20
  z20 := Tryz.sizeOf20
  v20 := Tryz.zeroValue20
  t21 := Tryz.underlying21
  a21 := Tryz.isAgg21
  z21 := Tryz.sizeOf21
  v21 := Tryz.zeroValue21
  t37 := Tryz.underlying73
  a37 := Tryz.isAgg73
  z37 := Tryz.sizeOf73
  v37 := Tryz.zeroValue73
  t46 := Tryz.underlying100
  a46 := Tryz.isAgg100
  z46 := Tryz.sizeOf100
  v46 := Tryz.zeroValue100
  t51 := Tryz.underlying115
  a51 := Tryz.isAgg115
  z51 := Tryz.sizeOf115
  v51 := Tryz.zeroValue115
  t53 := Tryz.underlying118
  a53 := Tryz.isAgg118
  z53 := Tryz.sizeOf118
  v53 := Tryz.zeroValue118
  t75 := Tryz.underlying78
  a75 := Tryz.isAgg78
  z75 := Tryz.sizeOf78
  v75 := Tryz.zeroValue78
  t76 := Tryz.underlying79
  a76 := Tryz.isAgg79
  z76 := Tryz.sizeOf79
  v76 := Tryz.zeroValue79
  t85 := Tryz.underlying130
  a85 := Tryz.isAgg130
  z85 := Tryz.sizeOf130
  v85 := Tryz.zeroValue130
  t127 := Tryz.underlying95
  a127 := Tryz.isAgg95
  z127 := Tryz.sizeOf95
  v127 := Tryz.zeroValue95
  t143 := Tryz.underlying169
  a143 := Tryz.isAgg169
  z143 := Tryz.sizeOf169
  v143 := Tryz.zeroValue169
  t145 := Tryz.underlying171
  a145 := Tryz.isAgg171
  z145 := Tryz.sizeOf171
  v145 := Tryz.zeroValue171
  t167 := Tryz.underlying129
  a167 := Tryz.isAgg129
  z167 := Tryz.sizeOf129
  v167 := Tryz.zeroValue129
  t168 := Tryz.underlying132
  a168 := Tryz.isAgg132
  z168 := Tryz.sizeOf132
  v168 := Tryz.zeroValue132
  t171 := Tryz.underlying121
  a171 := Tryz.isAgg121
  z171 := Tryz.sizeOf121
  v171 := Tryz.zeroValue121
  t173 := Tryz.underlying124
  a173 := Tryz.isAgg124
  z173 := Tryz.sizeOf124
  v173 := Tryz.zeroValue124
  t175 := Tryz.underlying148
  a175 := Tryz.isAgg148
  z175 := Tryz.sizeOf148
  v175 := Tryz.zeroValue148
  t210 := Tryz.underlying152
  a210 := Tryz.isAgg152
  z210 := Tryz.sizeOf152
  v210 := Tryz.zeroValue152
  t212 := Tryz.underlying140
  a212 := Tryz.isAgg140
  z212 := Tryz.sizeOf140
  v212 := Tryz.zeroValue140
  t213 := Tryz.underlying141
  a213 := Tryz.isAgg141
  z213 := Tryz.sizeOf141
  t232 := Tryz.underlying172
  a232 := Tryz.isAgg172
  z232 := Tryz.sizeOf172
  v232 := Tryz.zeroValue172
  t233 := Tryz.underlying173
  a233 := Tryz.isAgg173
  z233 := Tryz.sizeOf173
  v233 := Tryz.zeroValue173
  g15 := by kernel_rfl
  g16 := by kernel_rfl
  g17 := by kernel_rfl
  g18 := by kernel_rfl
  g19 := by kernel_rfl }
open Go.RowKit in
/-- strconv.Atoi: "Atoi is equivalent to ParseInt(s, 10, 0), converted to type int.": AT A DECIMAL NUMERAL OF AT MOST 18 BYTES: its value, and a nil error. The world behind the call: the one new row that the library's '[]byte(s)' lays. (LAID: no walk: one application.) -/
theorem Tryz.strconv_Atoi (s : ByteArray) (n : Int) (hl : s.size ≤ 18) (h : Lib.atoi s.data.toList = some n) (w : World) :
    Calls Tryz.prog 77 #[.string s] w fun e w' => e = .returned (.tuple #[.int .i64 n, .nilIface]) ∧ ∃ t, w' = Lib.bytesWorld w 5 t := Any.strconv_Atoi Tryz.lays172 s n hl h w
def Tryz.lays157_ren : Go.Shelf.Ren := ⟨fun | 157 => 86 | 229 => 99 | 199 => 100 | 261 => 115 | 311 => 128 | 312 => 129 | n => n, fun | 9 => 9 | 31 => 43 | 3 => 3 | 5 => 5 | 4 => 4 | 119 => 126 | 0 => 0 | 40 => 128 | 152 => 143 | 21 => 21 | 154 => 145 | 51 => 115 | 141 => 147 | 196 => 160 | 193 => 157 | 198 => 163 | 49 => 161 | 194 => 158 | 201 => 166 | 226 => 174 | 46 => 100 | 227 => 175 | n => n, fun | 0 => 1 | 6 => 3 | n => n⟩
theorem Tryz.lays157 : Go.Proofs.Lays.n157 Tryz.prog Tryz.lays157_ren := {
  mixed := by kernel_rfl
  f157 := Tryz.func86.trans (congrArg some (by kernel_rfl))
  f199 := Tryz.func100.trans (congrArg some (by kernel_rfl))
  f229 := Tryz.func99.trans (congrArg some (by kernel_rfl))
  f261 := Tryz.func115.trans (congrArg some (by kernel_rfl))
  f311 := Tryz.func128.trans (congrArg some (by kernel_rfl))
  f312 := Tryz.func129.trans (congrArg some (by kernel_rfl))
  t0 := Tryz.underlying0
  a0 := Tryz.isAgg0
  z0 := Tryz.sizeOf0
  v0 := Tryz.zeroValue0
  t3 := Tryz.underlying3
  a3 := Tryz.isAgg3
  z3 := Tryz.sizeOf3
  v3 := Tryz.zeroValue3
  t4 := Tryz.underlying4
  a4 := Tryz.isAgg4
  z4 := Tryz.sizeOf4
  v4 := Tryz.zeroValue4
  t5 := Tryz.underlying5
  a5 := Tryz.isAgg5
  z5 := Tryz.sizeOf5
  v5 := Tryz.zeroValue5
  t9 := Tryz.underlying9
  a9 := Tryz.isAgg9
  z9 := Tryz.sizeOf9
  v9 := Tryz.zeroValue9
  t21 := Tryz.underlying21
  a21 := Tryz.isAgg21
  z21 := Tryz.sizeOf21
  v21 := Tryz.zeroValue21
  t31 := Tryz.underlying43
  a31 := Tryz.isAgg43
  z31 := Tryz.sizeOf43
  v31 := Tryz.zeroValue43
  t40 := Tryz.underlying128
  a40 := Tryz.isAgg128
  z40 := Tryz.sizeOf128
  v40 := Tryz.zeroValue128
  t46 := Tryz.underlying100
  a46 := Tryz.isAgg100
  z46 := Tryz.sizeOf100
  v46 := Tryz.zeroValue100
  t49 := Tryz.underlying161
  a49 := Tryz.isAgg161
  z49 := Tryz.sizeOf161
  v49 := Tryz.zeroValue161
  t51 := Tryz.underlying115
  a51 := Tryz.isAgg115
  z51 := Tryz.sizeOf115
  v51 := Tryz.zeroValue115
  t119 := Tryz.underlying126
  a119 := Tryz.isAgg126
  z119 := Tryz.sizeOf126
  t141 := Tryz.underlying147
  a141 := Tryz.isAgg147
  z141 := Tryz.sizeOf147
  v141 := Tryz.zeroValue147
  t152 := Tryz.underlying143
  a152 := Tryz.isAgg143
  z152 := Tryz.sizeOf143
  v152 := Tryz.zeroValue143
  t154 := Tryz.underlying145
  a154 := Tryz.isAgg145
  z154 := Tryz.sizeOf145
  v154 := Tryz.zeroValue145
  t193 := Tryz.underlying157
  a193 := Tryz.isAgg157
  z193 := Tryz.sizeOf157
  v193 := Tryz.zeroValue157
  t194 := Tryz.underlying158
  a194 := Tryz.isAgg158
  z194 := Tryz.sizeOf158
  v194 := Tryz.zeroValue158
  t196 := Tryz.underlying160
  a196 := Tryz.isAgg160
  z196 := Tryz.sizeOf160
  v196 := Tryz.zeroValue160
  t198 := Tryz.underlying163
  a198 := Tryz.isAgg163
  z198 := Tryz.sizeOf163
  v198 := Tryz.zeroValue163
  t201 := Tryz.underlying166
  a201 := Tryz.isAgg166
  z201 := Tryz.sizeOf166
  v201 := Tryz.zeroValue166
  t226 := Tryz.underlying174
  a226 := Tryz.isAgg174
  z226 := Tryz.sizeOf174
  v226 := Tryz.zeroValue174
  t227 := Tryz.underlying175
  a227 := Tryz.isAgg175
  z227 := Tryz.sizeOf175
  v227 := Tryz.zeroValue175
  g0 := by kernel_rfl
  g6 := by kernel_rfl }
open Go.RowKit Go.Lib in
/-- strings.Fields, the table by 'Lib.TabIs' (as strings.TrimSpace's contract). 'hg': the table's number, by its name: at a dump 'by kernel_rfl'. (LAID: no walk: one application.) -/
theorem Tryz.strings_Fields (s : ByteArray) (w : World) (hs : s.size < 4294967281) (hascii : ∀ (j : Nat) b, s.data.toList[j]? = some b → b.toNat < 128) (htab : Lib.TabIs Tryz.prog w "strings.asciiSpace" .u8 Lib.asciiSpaceTab) :
    Calls Tryz.prog 86 #[.string s] w fun e w' =>
      e = .returned (.slice (some ⟨w.heap.size, 0, none⟩) (Lib.fields s.data.toList).length (Lib.fields s.data.toList).length) ∧ w' = w.alloc (.cells ((Lib.fields s.data.toList).map fun l => Value.string ⟨l.toArray⟩).toArray 9) := Any.strings_Fields Tryz.lays157 (by kernel_rfl) (by kernel_rfl) s w hs hascii htab
end Go.Proofs
/- Two more contracts of the kit's shelf, laid at this program in plain words: strings.Join at any list, strconv.Itoa at small numbers. -/
namespace Go.Proofs
open Go.Shelf
def Tryz.lays171_ren : Go.Shelf.Ren := ⟨fun | 171 => 45 | 243 => 64 | 246 => 83 | 283 => 95 | 284 => 96 | 285 => 97 | 286 => 98 | 129 => 111 | 317 => 110 | 318 => 112 | 319 => 113 | 320 => 114 | 337 => 126 | 338 => 127 | n => n, fun | 3 => 3 | 9 => 9 | 2 => 2 | 4 => 4 | 171 => 121 | 0 => 0 | 53 => 118 | 37 => 73 | 5 => 5 | 173 => 124 | 212 => 140 | 51 => 115 | 20 => 20 | 213 => 141 | 46 => 100 | 232 => 172 | 233 => 173 | n => n, fun | 17 => 2 | 18 => 6 | 19 => 7 | n => n⟩
theorem Tryz.lays171 : Go.Proofs.Lays.n171 Tryz.prog Tryz.lays171_ren := {
  mixed := by kernel_rfl
  f129 := Tryz.func111.trans (congrArg some (by kernel_rfl))
  f171 := Tryz.func45.trans (congrArg some (by kernel_rfl))
  f243 := Tryz.func64.trans (congrArg some (by kernel_rfl))
  f246 := Tryz.func83.trans (congrArg some (by kernel_rfl))
  f283 := Tryz.func95.trans (congrArg some (by kernel_rfl))
  f284 := Tryz.func96.trans (congrArg some (by kernel_rfl))
  f285 := Tryz.func97.trans (congrArg some (by kernel_rfl))
  f286 := Tryz.func98.trans (congrArg some (by kernel_rfl))
  f317 := Tryz.func110.trans (congrArg some (by kernel_rfl))
  f318 := Tryz.func112.trans (congrArg some (by kernel_rfl))
  f319 := Tryz.func113.trans (congrArg some (by kernel_rfl))
  f320 := Tryz.func114.trans (congrArg some (by kernel_rfl))
  f337 := Tryz.func126.trans (congrArg some (by kernel_rfl))
  f338 := Tryz.func127.trans (congrArg some (by kernel_rfl))
  t0 := Tryz.underlying0
  a0 := Tryz.isAgg0
  z0 := Tryz.sizeOf0
  v0 := Tryz.zeroValue0
  t2 := Tryz.underlying2
  a2 := Tryz.isAgg2
  z2 := Tryz.sizeOf2
  v2 := Tryz.zeroValue2
  t3 := Tryz.underlying3
  a3 := Tryz.isAgg3
  z3 := Tryz.sizeOf3
  v3 := Tryz.zeroValue3
  t4 := Tryz.underlying4
  a4 := Tryz.isAgg4
  z4 := Tryz.sizeOf4
  v4 := Tryz.zeroValue4
  t5 := Tryz.underlying5
  a5 := Tryz.isAgg5
  z5 := Tryz.sizeOf5
  v5 := Tryz.zeroValue5
  t9 := Tryz.underlying9
  a9 := Tryz.isAgg9
  z9 := Tryz.sizeOf9
  v9 := Tryz.zeroValue9
  t20 := Tryz.underlying20
  a20 := Tryz.isAgg20
  z20 := Tryz.sizeOf20
  v20 := Tryz.zeroValue20
  t37 := Tryz.underlying73
  a37 := Tryz.isAgg73
  z37 := Tryz.sizeOf73
  v37 := Tryz.zeroValue73
  t46 := Tryz.underlying100
  a46 := Tryz.isAgg100
  z46 := Tryz.sizeOf100
  v46 := Tryz.zeroValue100
  t51 := Tryz.underlying115
  a51 := Tryz.isAgg115
  z51 := Tryz.sizeOf115
  v51 := Tryz.zeroValue115
  t53 := Tryz.underlying118
  a53 := Tryz.isAgg118
  z53 := Tryz.sizeOf118
  v53 := Tryz.zeroValue118
  t171 := Tryz.underlying121
  a171 := Tryz.isAgg121
  z171 := Tryz.sizeOf121
  v171 := Tryz.zeroValue121
  t173 := Tryz.underlying124
  a173 := Tryz.isAgg124
  z173 := Tryz.sizeOf124
  v173 := Tryz.zeroValue124
  t212 := Tryz.underlying140
  a212 := Tryz.isAgg140
  z212 := Tryz.sizeOf140
  v212 := Tryz.zeroValue140
  t213 := Tryz.underlying141
  a213 := Tryz.isAgg141
  z213 := Tryz.sizeOf141
  t232 := Tryz.underlying172
  a232 := Tryz.isAgg172
  z232 := Tryz.sizeOf172
  v232 := Tryz.zeroValue172
  t233 := Tryz.underlying173
  a233 := Tryz.isAgg173
  z233 := Tryz.sizeOf173
  v233 := Tryz.zeroValue173
  g17 := by kernel_rfl
  g18 := by kernel_rfl
  g19 := by kernel_rfl }
open Go.RowKit Go.Sort Go.Lib in
/-- THE ROAD WITHOUT THE TABLE: 0 <= i < 100: NO PREMISE ON THE WORLD, AND THE WORLD IS AS IT WAS: a row that keeps its argument in that range need list no table ('laid = []'). (LAID: no walk: one application.) -/
theorem Tryz.strconv_Itoa_small (i : Nat) (hi : i < 100) (w : World) :
    Calls Tryz.prog 45 #[.int .i64 i] w fun e w' => e = .returned (.string ⟨(Lib.decDigits i).toArray⟩) ∧ w' = w := Any.strconv_Itoa_small Tryz.lays171 i hi w
open Go.RowKit in
theorem Tryz.strings_Join (bk o c : Nat) (xs : List ByteArray) (sep : ByteArray) (w : World) (hcells : ∀ (j : Nat) x, xs[j]? = some x → w.cell? ⟨bk, o + j, none⟩ = some (.string x)) (hbk : bk < w.heap.size) (hN : xs.length ≤ 140737488355328) (hcap : xs.length ≤ c) (hlen : (Lib.join (xs.map (·.data.toList)) sep.data.toList).length ≤ 140737488355328) :
    Calls Tryz.prog 19 #[.slice (some ⟨bk, o, none⟩) xs.length c, .string sep] w fun e w' => e = .returned (.string ⟨(Lib.join (xs.map (·.data.toList)) sep.data.toList).toArray⟩) ∧ Below w.heap.size w w' := Any.strings_Join Tryz.lays156 Tryz.Builder_Extra_156 bk o c xs sep w hcells hbk hN hcap hlen
end Go.Proofs
/- The functions of the library that the program calls: the executor's words for them are the shelf's contracts. -/
namespace Go.Abs.T09
open Go Go.Abs Go.Proofs

variable {fid : Nat → Nat} {g : Nat → Option Obj}

set_option maxRecDepth 100000 in
theorem ext_of_calls {i : Nat} {fn : Func} (hf : Tryz.prog.funcs[i]? = some fn) (hb : fn.body.isSome = true) (hn : (fn.name == "runtime.NumGoroutine") = false) {R : Value → World → Prop} {xs : List Value} {w : World}
    (h : Calls Tryz.prog i ⟨xs⟩ w fun e w' => ∃ x, e = .returned x ∧ R x w') : NextRuns (C g).P R ((callFunc i ⟨xs⟩).run (C g).P w) := by
  obtain ⟨c, hc⟩ := Option.isSome_iff_exists.1 hb
  rw [callFunc_run (C := C g) hf hc hn]; exact h

theorem pstr {w : World} {I : Nat → Prop} {s : List UInt8} {x : Value} (h : PRel w I (.str s) x) : x = .string ⟨⟨s⟩⟩ := by cases h; rfl

theorem body19 : Tryz.f19.body.isSome = true := by kernel_rfl
theorem name19 : (Tryz.f19.name == "runtime.NumGoroutine") = false := by kernel_rfl
theorem body89 : Tryz.f89.body.isSome = true := by kernel_rfl
theorem name89 : (Tryz.f89.name == "runtime.NumGoroutine") = false := by kernel_rfl
theorem body77 : Tryz.f77.body.isSome = true := by kernel_rfl
theorem name77 : (Tryz.f77.name == "runtime.NumGoroutine") = false := by kernel_rfl
theorem body86 : Tryz.f86.body.isSome = true := by kernel_rfl
theorem name86 : (Tryz.f86.name == "runtime.NumGoroutine") = false := by kernel_rfl

theorem strs_map {ds : List V} {l : List (List UInt8)} (h : strs ds = some l) : ds = l.map .str := by
  induction ds generalizing l with
  | nil => cases h; rfl
  | cons v r ih =>
    cases v <;> first | (cases h; done) | skip
    simp only [strs] at h
    obtain ⟨m, hm, rfl⟩ := Option.map_eq_some_iff.1 h
    rw [ih hm]; rfl

theorem strs_rels {w : World} {I : Nat → Prop} : ∀ {l : List (List UInt8)} {vals : List Value}, PRels w I ((l.map V.str).flatMap cellsV) vals → vals = l.map fun s => Value.string ⟨⟨s⟩⟩
  | [], vals, h => by cases h; rfl
  | s :: r, vals, h => by
    rw [List.map_cons, List.flatMap_cons] at h
    cases h with
    | cons _ x _ xs h1 h2 =>
      obtain rfl := pstr h1
      rw [strs_rels h2]; rfl

set_option maxRecDepth 100000 in
theorem join_ok : ExtOk (C g) id 19 xJoin := by
  intro G H w args v xs hR hxs hs
  unfold xJoin at hs
  split at hs
  · rename_i sep
    cases hs
    cases hxs with
    | cons _ x _ xs h1 hs1 =>
      cases hs1 with
      | cons _ y _ ys h2 hs2 =>
        cases hs2
        cases h1
        obtain rfl := pstr h2
        refine ext_of_calls Tryz.func19 body19 name19 ((Tryz.strings_Join_none none 0 _ w).mono ?_)
        rintro e w' ⟨rfl, rfl⟩
        exact ⟨_, rfl, G, hR, fun m _ => .refl _ _ _ _, .p _ _ (.str [])⟩
  · rename_i es ds sep
    split at hs
    · rename_i l hl
      split at hs
      · rename_i hc
        obtain ⟨rfl, hne, hll, hjl⟩ := hc
        cases hs
        obtain rfl := strs_map hl
        cases hxs with
        | cons _ x _ xs h1 hs1 =>
          cases hs1 with
          | cons _ y _ ys h2 hs2 =>
            cases hs2
            obtain rfl := pstr h2
            generalize hD : l.map V.str = D at h1
            cases h1 with
            | list0 _ a cap => exact absurd (List.map_eq_nil_iff.1 hD) hne
            | list _ _ b o cap vals hI hcl hu hr hcp =>
              subst hD
              obtain rfl := strs_rels hr
              have hmap : ((l.map fun s => (⟨⟨s⟩⟩ : ByteArray)).map (·.data.toList)) = l := by rw [List.map_map]; exact List.map_id l
              have hj := Tryz.strings_Join b o cap (l.map fun s => ⟨⟨s⟩⟩) ⟨⟨sep⟩⟩ w (fun j y hy => by
                  refine hcl j _ ?_
                  simp only [List.getElem?_map] at hy ⊢
                  cases hz : l[j]? with
                  | none => rw [hz] at hy; cases hy
                  | some z => rw [hz] at hy; cases hy; rfl) (hR.imm b hI).1 (by simp; omega) (by simpa using hcp) (by rw [hmap]; simp only [List.toList_toArray]; omega)
              rw [hmap] at hj
              simp only [List.length_map] at hj ⊢
              refine ext_of_calls Tryz.func19 body19 name19 (hj.mono ?_)
              rintro e w' ⟨rfl, hb⟩
              exact ⟨_, rfl, G, hR.restore hb.size hb.block, fun m _ => .restore hb.size hb.block hb.os hb.tape hb.output m _, .p _ _ (.str (Lib.join l sep))⟩
      · cases hs
    · cases hs
  · cases hs

theorem body45 : Tryz.f45.body.isSome = true := by kernel_rfl
theorem name45 : (Tryz.f45.name == "runtime.NumGoroutine") = false := by kernel_rfl
set_option maxRecDepth 100000 in
theorem itoa_ok : ExtOk (C g) id 45 xItoa := by
  intro G H w args v xs hR hxs hs
  unfold xItoa at hs
  split at hs
  · rename_i n
    split at hs
    · rename_i hn
      cases hs
      obtain ⟨k, rfl⟩ := Int.eq_ofNat_of_zero_le hn.1
      cases hxs with
      | cons _ x _ xs h1 hs1 =>
        cases hs1
        cases h1
        have hk : k < 10 := by omega
        refine ext_of_calls Tryz.func45 body45 name45 ((Tryz.strconv_Itoa_small k (by omega) w).mono ?_)
        rintro e w' ⟨rfl, rfl⟩
        rw [Lib.decDigits_one hk]
        exact ⟨_, rfl, G, hR, fun m _ => .refl _ _ _ _, .p _ _ (.str _)⟩
    · cases hs
  · cases hs

set_option maxRecDepth 100000 in
theorem indexByte_ok : ExtOk (C g) id 89 xIndexByte := by
  intro G H w args v xs hR hxs hs
  unfold xIndexByte at hs
  split at hs
  · rename_i s c
    cases hs
    cases hxs with
    | cons _ x _ xs h1 hs1 =>
      cases hs1 with
      | cons _ y _ ys h2 hs2 =>
        cases hs2
        cases h2
        obtain rfl := pstr h1
        refine ext_of_calls Tryz.func89 body89 name89 ((Tryz.strings_IndexByte _ c w).mono ?_)
        rintro e w' ⟨rfl, rfl⟩
        exact ⟨_, rfl, G, hR, fun m _ => .refl _ _ _ _, .p _ _ (.int .i64 _)⟩
  · cases hs

set_option maxRecDepth 100000 in
theorem atoi_ok : ExtOk (C g) id 77 xAtoi := by
  intro G H w args v xs hR hxs hs
  unfold xAtoi at hs
  split at hs
  · rename_i s
    split at hs
    · rename_i hl
      obtain ⟨n, hn, rfl⟩ := Option.map_eq_some_iff.1 hs
      cases hxs with
      | cons _ x _ xs h1 hs1 =>
        cases hs1
        obtain rfl := pstr h1
        refine ext_of_calls Tryz.func77 body77 name77 ((Tryz.strconv_Atoi ⟨⟨s⟩⟩ n hl hn w).mono ?_)
        rintro e w' ⟨rfl, t, rfl⟩
        have hsz : w.heap.size ≤ (Lib.bytesWorld w 5 t).heap.size := by
          unfold Lib.bytesWorld World.freeze
          have h0 : w.drew.heap = w.heap := rfl
          split <;> simp [h0]
        have hk : ∀ b, b < w.heap.size → (Lib.bytesWorld w 5 t).heap[b]? = w.heap[b]? := fun b hb => by
          have h1 : (w.drew.alloc (.cells (Lib.bytesCells w 5 t) 5)).heap[b]? = w.heap[b]? := alloc_old (w := w.drew) hb
          unfold Lib.bytesWorld World.freeze
          split
          · exact h1
          · show (Array.modify _ _ _)[b]? = _
            rw [Array.getElem?_modify, if_neg (fun e => by have e' : w.heap.size = b := e
                                                           omega)]
            exact h1
        have hos : (Lib.bytesWorld w 5 t).os = w.os ∧ (Lib.bytesWorld w 5 t).tape = w.tape ∧ (Lib.bytesWorld w 5 t).output = w.output := by
          unfold Lib.bytesWorld World.freeze
          split <;> exact ⟨rfl, rfl, rfl⟩
        refine ⟨_, rfl, G, hR.restore hsz hk, fun m _ => .restore hsz hk hos.1 hos.2.1 hos.2.2 m _, .p _ _ (.tup _ _ (.cons _ _ _ _ (.int .i64 n) (.cons _ _ _ _ .nili .nil)))⟩
    · cases hs
  · cases hs

theorem fields_rels {w : World} {I : Nat → Prop} : ∀ (l : List (List UInt8)), PRels w I ((l.map V.str).flatMap cellsV) (l.map fun x => Value.string ⟨x.toArray⟩)
  | [] => .nil
  | a :: l => .cons _ _ _ _ (.str a) (fields_rels l)

set_option maxRecDepth 100000 in
theorem fields_ok (htab : ∀ (G : Gh) (H : Heap) (w : World), RelH (C g) id G H w → Lib.TabIs Tryz.prog w "strings.asciiSpace" .u8 Lib.asciiSpaceTab) : ExtOk (C g) id 86 xFields := by
  intro G H w args v xs hR hxs hs
  unfold xFields at hs
  split at hs
  · rename_i s
    split at hs
    · rename_i hc
      simp only [Bool.and_eq_true, decide_eq_true_eq] at hc
      cases hs
      cases hxs with
      | cons _ x _ xs h1 hs1 =>
        cases hs1
        obtain rfl := pstr h1
        refine ext_of_calls Tryz.func86 body86 name86 ((Tryz.strings_Fields ⟨⟨s⟩⟩ w hc.2 (fun j b hb => ?_) (htab G H w hR)).mono ?_)
        · have := List.all_eq_true.1 hc.1 b (List.mem_of_getElem? hb)
          have h' := UInt8.lt_iff_toNat_lt.1 (of_decide_eq_true this)
          simpa using h'
        rintro e w' ⟨rfl, rfl⟩
        refine ⟨_, rfl, ⟨G.β, fun b => G.I b ∨ (b = w.heap.size ∧ True)⟩, hR.allocI _ True, fun m _ => .allocI _ True m _, ?_⟩
        refine .p _ _ ?_
        cases hf : Lib.fields s with
        | nil => simp only [List.isEmpty_nil, if_true, List.length_nil]; exact .emp _
        | cons a r =>
          simp only [List.isEmpty_cons, Bool.false_eq_true, if_false]
          rw [← List.length_map (f := V.str)]
          refine .list 1 _ _ 0 _ _ (.inr ⟨rfl, trivial⟩) ?_ (fun d hd => ?_) (fields_rels (a :: r)) (Nat.le_refl _)
          · intro j x hx
            rw [cell_of_cells (alloc_new w _), Nat.zero_add, ← Array.getElem?_toList]
            exact hx
          · obtain ⟨y, -, rfl⟩ := List.mem_map.1 hd
            rfl
    · cases hs
  · cases hs

end Go.Abs.T09
/- The table of the executor's functions is the program's. -/
namespace Go.Abs.T09
open Go Go.Abs Go.Proofs
variable {g : Nat → Option Obj}

set_option maxRecDepth 100000 in
theorem tab_code (i : Nat) (f : AFunc) (h : tab i = some (.code f)) : ∃ fn, (C g).P.funcs[id i]? = some fn ∧ (C g).func fn f.fresh = some f := by
  unfold tab at h
  split at h
  · cases h; exact ⟨_, Tryz.func3, c3 g⟩
  · cases h; exact ⟨_, Tryz.func4, c4 g⟩
  · cases h; exact ⟨_, Tryz.func5, c5 g⟩
  · cases h; exact ⟨_, Tryz.func6, c6 g⟩
  · cases h; exact ⟨_, Tryz.func7, c7 g⟩
  · cases h; exact ⟨_, Tryz.func8, c8 g⟩
  · cases h; exact ⟨_, Tryz.func9, c9 g⟩
  · cases h; exact ⟨_, Tryz.func10, c10 g⟩
  · cases h; exact ⟨_, Tryz.func11, c11 g⟩
  · cases h; exact ⟨_, Tryz.func12, c12 g⟩
  · cases h; exact ⟨_, Tryz.func13, c13 g⟩
  · cases h; exact ⟨_, Tryz.func14, c14 g⟩
  · cases h; exact ⟨_, Tryz.func15, c15 g⟩
  · cases h; exact ⟨_, Tryz.func16, c16 g⟩
  · cases h; exact ⟨_, Tryz.func17, c17 g⟩
  · cases h; exact ⟨_, Tryz.func18, c18 g⟩
  · cases h
  · cases h; exact ⟨_, Tryz.func20, c20 g⟩
  · cases h; exact ⟨_, Tryz.func21, c21 g⟩
  · cases h; exact ⟨_, Tryz.func22, c22 g⟩
  · cases h; exact ⟨_, Tryz.func23, c23 g⟩
  · cases h; exact ⟨_, Tryz.func24, c24 g⟩
  · cases h; exact ⟨_, Tryz.func25, c25 g⟩
  · cases h; exact ⟨_, Tryz.func26, c26 g⟩
  · cases h; exact ⟨_, Tryz.func27, c27 g⟩
  · cases h; exact ⟨_, Tryz.func28, c28 g⟩
  · cases h; exact ⟨_, Tryz.func29, c29 g⟩
  · cases h; exact ⟨_, Tryz.func30, c30 g⟩
  · cases h; exact ⟨_, Tryz.func31, c31 g⟩
  · cases h; exact ⟨_, Tryz.func32, c32 g⟩
  · cases h; exact ⟨_, Tryz.func33, c33 g⟩
  · cases h; exact ⟨_, Tryz.func34, c34 g⟩
  · cases h; exact ⟨_, Tryz.func35, c35 g⟩
  · cases h; exact ⟨_, Tryz.func36, c36 g⟩
  · cases h; exact ⟨_, Tryz.func37, c37 g⟩
  · cases h; exact ⟨_, Tryz.func38, c38 g⟩
  · cases h; exact ⟨_, Tryz.func39, c39 g⟩
  · cases h; exact ⟨_, Tryz.func40, c40 g⟩
  · cases h; exact ⟨_, Tryz.func41, c41 g⟩
  · cases h; exact ⟨_, Tryz.func42, c42 g⟩
  · cases h; exact ⟨_, Tryz.func43, c43 g⟩
  · cases h; exact ⟨_, Tryz.func44, c44 g⟩
  · cases h; exact ⟨_, Tryz.func49, c49 g⟩
  · cases h; exact ⟨_, Tryz.func50, c50 g⟩
  · cases h; exact ⟨_, Tryz.func51, c51 g⟩
  · cases h; exact ⟨_, Tryz.func52, c52 g⟩
  · cases h; exact ⟨_, Tryz.func53, c53 g⟩
  · cases h; exact ⟨_, Tryz.func54, c54 g⟩
  · cases h; exact ⟨_, Tryz.func55, c55 g⟩
  · cases h; exact ⟨_, Tryz.func56, c56 g⟩
  · cases h; exact ⟨_, Tryz.func57, c57 g⟩
  · cases h; exact ⟨_, Tryz.func58, c58 g⟩
  · cases h; exact ⟨_, Tryz.func59, c59 g⟩
  · cases h; exact ⟨_, Tryz.func60, c60 g⟩
  · cases h; exact ⟨_, Tryz.func61, c61 g⟩
  · cases h; exact ⟨_, Tryz.func62, c62 g⟩
  · cases h; exact ⟨_, Tryz.func63, c63 g⟩
  · cases h; exact ⟨_, Tryz.func67, c67 g⟩
  · cases h; exact ⟨_, Tryz.func68, c68 g⟩
  · cases h; exact ⟨_, Tryz.func69, c69 g⟩
  · cases h; exact ⟨_, Tryz.func70, c70 g⟩
  · cases h; exact ⟨_, Tryz.func71, c71 g⟩
  · cases h; exact ⟨_, Tryz.func72, c72 g⟩
  · cases h; exact ⟨_, Tryz.func73, c73 g⟩
  · cases h; exact ⟨_, Tryz.func74, c74 g⟩
  · cases h; exact ⟨_, Tryz.func75, c75 g⟩
  · cases h; exact ⟨_, Tryz.func76, c76 g⟩
  · cases h
  · cases h; exact ⟨_, Tryz.func78, c78 g⟩
  · cases h; exact ⟨_, Tryz.func79, c79 g⟩
  · cases h; exact ⟨_, Tryz.func80, c80 g⟩
  · cases h; exact ⟨_, Tryz.func81, c81 g⟩
  · cases h; exact ⟨_, Tryz.func82, c82 g⟩
  · cases h
  · cases h; exact ⟨_, Tryz.func87, c87 g⟩
  · cases h; exact ⟨_, Tryz.func88, c88 g⟩
  · cases h
  · cases h; exact ⟨_, Tryz.func94, c94 g⟩
  · cases h; exact ⟨_, Tryz.func101, c101 g⟩
  · cases h; exact ⟨_, Tryz.func92, c92 g⟩
  · cases h; exact ⟨_, Tryz.func108, c108 g⟩
  · cases h; exact ⟨_, Tryz.func109, c109 g⟩
  · cases h; exact ⟨_, Tryz.func120, c120 g⟩
  · cases h; exact ⟨_, Tryz.func121, c121 g⟩
  · cases h; exact ⟨_, Tryz.func122, c122 g⟩
  · cases h; exact ⟨_, Tryz.func123, c123 g⟩
  · cases h; exact ⟨_, Tryz.func124, c124 g⟩
  · cases h; exact ⟨_, Tryz.func125, c125 g⟩
  · cases h; exact ⟨_, Tryz.func132, c132 g⟩
  · cases h
  · cases h

set_option maxRecDepth 100000 in
theorem tab_ext (htab : ∀ (G : Gh) (H : Heap) (w : World), RelH (C g) id G H w → Lib.TabIs Tryz.prog w "strings.asciiSpace" .u8 Lib.asciiSpaceTab) (i : Nat) (spec : List V → Option V) (h : tab i = some (.ext spec)) : ExtOk (C g) id i spec := by
  unfold tab at h
  split at h
  · cases h
  · cases h
  · cases h
  · cases h
  · cases h
  · cases h
  · cases h
  · cases h
  · cases h
  · cases h
  · cases h
  · cases h
  · cases h
  · cases h
  · cases h
  · cases h
  · cases h; exact join_ok
  · cases h
  · cases h
  · cases h
  · cases h
  · cases h
  · cases h
  · cases h
  · cases h
  · cases h
  · cases h
  · cases h
  · cases h
  · cases h
  · cases h
  · cases h
  · cases h
  · cases h
  · cases h
  · cases h
  · cases h
  · cases h
  · cases h
  · cases h
  · cases h
  · cases h
  · cases h
  · cases h
  · cases h
  · cases h
  · cases h
  · cases h
  · cases h
  · cases h
  · cases h
  · cases h
  · cases h
  · cases h
  · cases h
  · cases h
  · cases h
  · cases h
  · cases h
  · cases h
  · cases h
  · cases h
  · cases h
  · cases h
  · cases h
  · cases h
  · cases h
  · cases h; exact atoi_ok
  · cases h
  · cases h
  · cases h
  · cases h
  · cases h
  · cases h; exact fields_ok htab
  · cases h
  · cases h
  · cases h; exact indexByte_ok
  · cases h
  · cases h
  · cases h
  · cases h
  · cases h
  · cases h
  · cases h
  · cases h
  · cases h
  · cases h
  · cases h
  · cases h
  · cases h; exact itoa_ok
  · cases h

set_option maxRecDepth 100000 in
theorem tab_ok (htab : ∀ (G : Gh) (H : Heap) (w : World), RelH (C g) id G H w → Lib.TabIs Tryz.prog w "strings.asciiSpace" .u8 Lib.asciiSpaceTab) : TabOk (C g) id tab := ⟨tab_code, tab_ext htab⟩
theorem ctx_ok : CtxOk (C g) id := ⟨fun f i h => by cases h; rfl⟩
end Go.Abs.T09
/- From the arguments' reading to the executor, and back. -/
namespace Go.Abs.T09
open Go Go.Abs Go.Proofs
set_option maxRecDepth 100000

/-- At the start: every block stands, and none is an object of the executor's. -/
def G0 (W : World) : Gh := ⟨fun _ => none, fun b => b < W.heap.size⟩

theorem start_rel (W : World) : RelH (C fun b => W.heap[b]?) id (G0 W) [] W where
  obj l h e := by cases e
  inj l l' h h' e := by cases e
  blk l h e := by cases e
  imm b hb := ⟨hb, fun l h e => by cases e⟩
  fzI l h e := by cases e
  glob b o h := ⟨by
    rcases Nat.lt_or_ge b W.heap.size with q | q
    · exact q
    · simp [C, Array.getElem?_eq_none q] at h, h⟩

/-- What was there is as it was. -/
theorem old_kept {W w' : World} {G' : Gh} {H' : Heap} (hR : RelH (C fun b => W.heap[b]?) id G' H' w') {b : Nat} (hb : b < W.heap.size) : w'.heap[b]? = W.heap[b]? := by
  have h : W.heap[b]? = some W.heap[b] := by simp [hb]
  rw [(hR.glob b _ h).2, h]

theorem cell_old {W w' : World} {G' : Gh} {H' : Heap} (hR : RelH (C fun b => W.heap[b]?) id G' H' w') {b off : Nat} (hb : b < W.heap.size) : w'.cell? ⟨b, off, none⟩ = W.cell? ⟨b, off, none⟩ := by
  unfold World.cell?; rw [old_kept hR hb]

theorem kept_of {W w' : World} {G' : Gh} {H' : Heap} (hR : RelH (C fun b => W.heap[b]?) id G' H' w') (ho : w'.os = W.os) (hp : w'.output = W.output) (may : MemPlace → Prop) : W.keptBut w' may := by
  refine ⟨ho, hp, fun i hi => ?_⟩
  rw [old_kept hR hi]
  cases h : W.heap[i]? with
  | none => simp
  | some o => cases o <;> simp

theorem laid_mem {P : Program} {w : World} {n : String} {d : DataW Unit} : ∀ {l : List (String × DataW Unit)} {ps : List MemPlace}, DataW.LaidVars P w l ps → (n, d) ∈ l →
    ∃ g t cs fuel p, P.globalNamed n = some g ∧ (P.globals[g]?).map (·.type) = some t ∧ w.var? P n = some cs ∧ DataW.trod (fun _ => ()) P w 0 (fun _ => true) false fuel t cs.toList = some (d, p)
  | [], _, _, h => by cases h
  | (m, e) :: r, ps, h, hm => by
    obtain ⟨g, t, cs, fuel, p, q, h1, h2, h3, h4, h5, -⟩ := h
    rcases List.mem_cons.1 hm with hm | hm
    · cases hm; exact ⟨g, t, cs, fuel, p, h1, h2, h3, h4⟩
    · exact laid_mem h5 hm

theorem tabIs_of_mem {P : Program} {W : World} {name : String} {k : IntKind} {zs : List Int} {l : List (String × DataW Unit)} {g : Nat} {t e : TypeId} {n : Nat}
    (hg : P.globalNamed name = some g) (hty : (P.globals[g]?).map (·.type) = some t) (ht : P.underlying t = some (.array n e)) (he : P.underlying e = some (.int k)) (hce : P.cellsOf e = 1) (hct : P.cellsOf t = n)
    (h : laidMet P l W) (hm : (name, Lib.tabData k zs) ∈ l) : Lib.TabIs P W name k zs := by
  obtain ⟨ps, hv, -⟩ := h
  obtain ⟨g', t', cs, fuel, p, hg', ht', hvar, hd⟩ := laid_mem hv hm
  obtain rfl := Option.some.inj (hg.symm.trans hg')
  obtain rfl := Option.some.inj (hty.symm.trans ht')
  unfold Lib.TabIs
  rw [hvar, ← Lib.cells_of_tab ht he hce hct hd]

theorem tabIs_old {W w' : World} {G' : Gh} {H' : Heap} (hR : RelH (C fun b => W.heap[b]?) id G' H' w') {name : String} {k : IntKind} {zs : List Int} (h : Lib.TabIs Tryz.prog W name k zs) : Lib.TabIs Tryz.prog w' name k zs := by
  unfold Lib.TabIs World.var? at h ⊢
  cases hg : Tryz.prog.globalNamed name with
  | none => rw [hg] at h; cases h
  | some g =>
    rw [hg] at h
    simp only [Option.bind_some] at h ⊢
    have hb : g < W.heap.size := by
      rcases Nat.lt_or_ge g W.heap.size with q | q
      · exact q
      · rw [Array.getElem?_eq_none q] at h; cases h
    rw [old_kept hR hb]; exact h

/-! ### the arguments -/

section
variable {W : World} {H : Type} {enc : TypeId × Value → H}

theorem not_agg {t e : TypeId} (ht : Tryz.prog.underlying t = some (.slice e)) {b : Nat} {v : Value} (hval : Value.okWide Tryz.prog W .any b t v) : v.cells.toList = [v] := by
  unfold Value.okWide at hval
  rw [ht] at hval
  simp only [Cell.okWide, ht] at hval
  cases v <;> first | rfl | (simp [Cell.ok, ht] at hval)

/-- A slice of ints that came in. -/
theorem open_vi {t e : TypeId} (ht : Tryz.prog.underlying t = some (.slice e)) (he : Tryz.prog.underlying e = some (.int .i64)) (hc : Tryz.prog.cellsOf e = 1) {b : Nat} {v : Value} (hval : Value.okWide Tryz.prog W .any b t v)
    {d : DataW H} {p : List MemPlace} {held : Bool} (hd : DataW.Trod enc Tryz.prog W 0 (fun _ => true) held t v d p) (hlen : ∀ elems spare, d = .slice elems spare → elems.length < 4611686018427387904) :
    ∃ (sv : V) (l : List Int), PRel W (G0 W).I sv v ∧ slE 1 sv = true ∧ el sv = l.map (.int .i64) ∧ l.length < 4611686018427387904 := by
  obtain ⟨fuel, hd⟩ := hd
  rw [not_agg ht hval] at hd
  rcases ChangeShapes.open_ints ht he hc hd with ⟨hcs, -⟩ | ⟨a, len, cap, zs, hcs, -, hl, -, hz, hx, hcell, -⟩
  · simp only [List.cons.injEq, and_true] at hcs
    subst hcs
    exact ⟨.nil0, [], .nil0, rfl, rfl, by decide⟩
  · simp only [List.cons.injEq, and_true] at hcs
    subst hcs
    simp only [if_true] at hz
    have hlz : len ≤ zs.length := by omega
    have hx1 : d = .slice (ChangeShapes.lits .i64 (zs.take len)) (ChangeShapes.lits .i64 (zs.drop len)) := by
      have := congrArg Prod.fst hx; exact this
    have hll := hlen _ _ hx1
    have hll' : len < 4611686018427387904 := by
      simp [ChangeShapes.lits] at hll; omega
    have htl : (zs.take len).length = len := by rw [List.length_take]; omega
    refine ⟨.list 1 ((zs.take len).map (.int .i64)), zs.take len, ?_, rfl, rfl, by omega⟩
    cases hlen0 : len with
    | zero => simp only [List.take_zero, List.map_nil]; exact .list0 1 a cap
    | succ n =>
      rw [← hlen0]
      have h0 := hcell 0 (by omega)
      have hspot : a.spot = none ∧ a.block < W.heap.size := by
        unfold World.cell? at h0
        split at h0
        · rename_i c e f hh
          split at h0
          · cases h0
          · rename_i hs
            refine ⟨by simpa [Addr.add] using hs, ?_⟩
            rcases Nat.lt_or_ge a.block W.heap.size with q | q
            · exact q
            · have : W.heap[(a.add 0).block]? = none := Array.getElem?_eq_none q
              rw [this] at hh; cases hh
        · cases h0
      obtain ⟨ab, ao, asp⟩ := a
      obtain ⟨rfl, hb⟩ := hspot
      have hlm : ((zs.take len).map (V.int .i64)).length = len := by rw [List.length_map, htl]
      have key : PRel W (G0 W).I (.list 1 ((zs.take len).map (.int .i64))) (.slice (some ⟨ab, ao, none⟩) ((zs.take len).map (V.int .i64)).length cap) := by
        refine .list 1 _ ab ao cap ((zs.take len).map (Value.int .i64)) hb ?_ (fun d hd => ?_) ?_ (by rw [hlm]; exact hl)
        · intro j x hj
          rw [List.getElem?_map, List.getElem?_take] at hj
          split at hj
          · rename_i hjl
            cases hzj : zs[j]? with
            | none => rw [hzj] at hj; cases hj
            | some z =>
              rw [hzj] at hj
              cases hj
              have := hcell j (by omega)
              rw [List.getD_eq_getElem?_getD, hzj] at this
              by_cases hj0 : j = 0
              · subst hj0; simpa [Addr.add] using this
              · simpa [Addr.add, hj0] using this
          · cases hj
        · obtain ⟨z, -, rfl⟩ := List.mem_map.1 hd; rfl
        · generalize zs.take len = ys
          induction ys with
          | nil => exact .nil
          | cons y ys ih => exact .cons _ _ _ _ (.int .i64 y) ih
      rw [hlm] at key
      exact key

theorem bytes_pos {l : Nat} {n : Nat} (h : l * 8 ≤ reachBytes) : l < 4611686018427387904 := by
  have := reachBytes_lt
  omega

theorem stays_all {w' : World} {T : TypeId → Prop} (K : Kids Tryz.prog T) (hsz : ∀ {t e : TypeId}, T t → Tryz.prog.underlying t = some (.slice e) → 0 < Tryz.prog.cellsOf e) {sp' : Nat → Bool} :
    ∀ {ts : List TypeId} {vs : List Value} {ds : List (DataW H)} {p : List MemPlace}, (∀ t ∈ ts, T t) → DataW.TrodAll enc Tryz.prog W 0 (fun _ => true) true ts vs ds p → (∀ q ∈ p, W.sameAt w' q) → (∀ q ∈ p, sp' q.block = true) →
      DataW.TrodAll enc Tryz.prog w' 0 sp' true ts vs ds p
  | [], vs, ds, p, _, h, _, _ => by
    obtain ⟨rfl, rfl, rfl⟩ := ChangeShapes.trodAll_nil h
    rfl
  | t :: ts, vs, ds, p, hT, h, hs, hp => by
    obtain ⟨v, vs', d, ds', a, b, rfl, rfl, rfl, ⟨fuel, h1⟩, h2⟩ := ChangeShapes.trodAll_cons h
    refine ⟨a, b, ⟨fuel, DataW.trod_stays K hsz (fun h => by cases h) (hT t (by simp)) h1 (fun q hq => hs q (by simp [hq])) (fun q hq => hp q (by simp [hq]))⟩, stays_all K hsz (fun u hu => hT u (by simp [hu])) h2 (fun q hq => hs q (by simp [hq])) (fun q hq => hp q (by simp [hq])), rfl⟩

end

set_option maxRecDepth 100000 in
theorem laidOut : laidOutB Tryz.prog = true := by kernel_rfl
theorem rowed : mapsRowed Tryz.prog = true := by kernel_rfl
theorem kids : Kids Tryz.prog (· < Tryz.prog.types.size) := kids_rows laidOut rowed
theorem slicesB : ((List.range Tryz.prog.types.size).all fun t => match Tryz.prog.underlying t with | some (.slice e) => decide (0 < Tryz.prog.cellsOf e) | _ => true) = true := by kernel_rfl
theorem slices_pos {t e : TypeId} (h : t < Tryz.prog.types.size) (hu : Tryz.prog.underlying t = some (.slice e)) : 0 < Tryz.prog.cellsOf e := by
  have := List.all_eq_true.1 slicesB t (List.mem_range.2 h)
  rw [hu] at this
  simpa using this

theorem sameAt_old {W w' : World} {G' : Gh} {H' : Heap} (hR : RelH (C fun b => W.heap[b]?) id G' H' w') {q : MemPlace} (hb : q.block < W.heap.size) : W.sameAt w' q := by
  cases q with
  | cell b off => exact cell_old hR hb
  | map b => exact old_kept hR hb

theorem frozen_old {W w' : World} {G' : Gh} {H' : Heap} (hR : RelH (C fun b => W.heap[b]?) id G' H' w') {a : Addr} (hb : a.block < W.heap.size) : w'.frozen? a = W.frozen? a := by
  unfold World.frozen?; rw [old_kept hR hb]
end Go.Abs.T09
/- What a reading of plain data (numbers, words, slices and structs of them) is for the executor. -/
namespace Go.Abs
open Go Go.ChangeShapes

/-- An element of these cells. -/
def mkV : List V → V
  | [x] => x
  | vs => .agg vs

theorem cellsV_one {x : V} (h : cellOk x = true) : cellsV x = [x] := by cases x <;> simp_all [cellOk, cellsV]
theorem cellsV_mk {l : List V} (h : cellsOk l = true) : cellsV (mkV l) = l := by
  match l, h with
  | [], _ => rfl
  | [x], h => simp only [cellsOk, Bool.and_true] at h; exact cellsV_one h
  | _ :: _ :: _, _ => rfl

/-- The reading d of type t as cells. -/
inductive RD {H : Type} (P : Program) : TypeId → DataW H → List V → Prop
  | bool (t : TypeId) (b : Bool) (ht : P.underlying t = some .bool) : RD P t (.lit (.bool b)) [.bool b]
  | int (t : TypeId) (k : IntKind) (n : Int) (ht : P.underlying t = some (.int k)) (hw : (Lit.int k n).wf = true) : RD P t (.lit (.int k n)) [.int k n]
  | str (t : TypeId) (s : List UInt8) (ht : P.underlying t = some .string) : RD P t (.lit (.string s)) [.str s]
  | nil (t e : TypeId) (ht : P.underlying t = some (.slice e)) : RD P t .nil [.nil0]
  | slice (t e : TypeId) (elems spare : List (DataW H)) (ls : List (List V)) (ht : P.underlying t = some (.slice e)) (hl : ls.length = elems.length)
      (h : ∀ (i : Nat) d l, elems[i]? = some d → ls[i]? = some l → RD P e d l) : RD P t (.slice elems spare) [.list (P.cellsOf e) (ls.map mkV)]
  | struct (t : TypeId) (fs : Array Field) (parts : List (DataW H)) (ls : List (List V)) (ht : P.underlying t = some (.struct fs)) (hp : parts.length = fs.size) (hl : ls.length = fs.size)
      (h : ∀ (i : Nat) (f : Field) d l, fs[i]? = some f → parts[i]? = some d → ls[i]? = some l → RD P f.type d l) : RD P t (.agg parts) ls.flatten

/-- Plain data: what this text reads. -/
def frag (P : Program) : Nat → TypeId → Bool
  | 0, _ => false
  | n + 1, t => match P.underlying t with
    | some .bool | some (.int _) | some .string => P.cellsOf t == 1
    | some (.slice e) => P.cellsOf t == 1 && decide (0 < P.cellsOf e) && frag P n e
    | some (.struct fs) => fs.toList.all fun f => frag P n f.type
    | _ => false

theorem prels_append {w : World} {I : Nat → Prop} : ∀ {vs : List V} {xs : List Value} {us : List V} {ys : List Value}, PRels w I vs xs → PRels w I us ys → PRels w I (vs ++ us) (xs ++ ys)
  | _, _, _, _, .nil, h => h
  | _, _, _, _, .cons v x vs xs h hs, k => .cons v x _ _ h (prels_append hs k)
theorem cellsOk_append {a b : List V} : cellsOk (a ++ b) = (cellsOk a && cellsOk b) := by
  induction a with
  | nil => simp [cellsOk]
  | cons x a ih => simp [cellsOk, ih, Bool.and_assoc]

theorem list_choose {α : Type} {p : Nat → α → Prop} : ∀ n, (∀ i, i < n → ∃ a, p i a) → ∃ l : List α, l.length = n ∧ ∀ i a, l[i]? = some a → p i a
  | 0, _ => ⟨[], rfl, fun i a h => by simp at h⟩
  | n + 1, h => by
    obtain ⟨l, hl, hp⟩ := list_choose n (fun i hi => h i (by omega))
    obtain ⟨a, ha⟩ := h n (by omega)
    refine ⟨l ++ [a], by simp [hl], fun i b hb => ?_⟩
    rcases Nat.lt_or_ge i n with hi | hi
    · rw [List.getElem?_append_left (by omega)] at hb; exact hp i b hb
    · rw [List.getElem?_append_right (by omega)] at hb
      have : i - l.length = 0 := by
        rcases Nat.eq_zero_or_pos (i - l.length) with h0 | h0
        · exact h0
        · rw [List.getElem?_eq_none (by simp; omega)] at hb; cases hb
      rw [this] at hb
      cases hb
      have : i = n := by omega
      rw [this]; exact ha

theorem flat_get {α : Type} {c : Nat} : ∀ {ls : List (List α)} {j : Nat} {x : α}, (∀ l ∈ ls, l.length = c) → ls.flatten[j]? = some x → ∃ i r l, ls[i]? = some l ∧ l[r]? = some x ∧ j = i * c + r ∧ r < c
  | [], j, x, _, h => by simp at h
  | l :: ls, j, x, hc, h => by
    have hl := hc l (by simp)
    rw [List.flatten_cons] at h
    rcases Nat.lt_or_ge j c with hj | hj
    · rw [List.getElem?_append_left (by omega)] at h
      exact ⟨0, j, l, rfl, h, by omega, hj⟩
    · rw [List.getElem?_append_right (by omega)] at h
      obtain ⟨i, r, l', h1, h2, h3, h4⟩ := flat_get (fun m hm => hc m (by simp [hm])) h
      exact ⟨i + 1, r, l', by simpa using h1, h2, by rw [Nat.add_mul]; omega, h4⟩

section
variable {H : Type} {enc : TypeId × Value → H} {P : Program} {W : World} {held : Bool}

def IB (W : World) : Nat → Prop := fun b => b < W.heap.size

/-- What is shown of one reading. -/
def Reads (P : Program) (W : World) (t : TypeId) (cs : List Value) (d : DataW H) : Prop :=
  ∃ vs, RD P t d vs ∧ PRels W (IB W) vs cs ∧ cellsOk vs = true ∧ vs.length = P.cellsOf t ∧ cs.length = P.cellsOf t

theorem cell_block {a : Addr} {v : Value} (h : W.cell? a = some v) : a.spot = none ∧ a.block < W.heap.size := by
  unfold World.cell? at h
  split at h
  · rename_i c e f hh
    split at h
    · cases h
    · rename_i hs
      refine ⟨by simpa using hs, ?_⟩
      rcases Nat.lt_or_ge a.block W.heap.size with q | q
      · exact q
      · rw [Array.getElem?_eq_none q] at hh; cases hh
  · cases h

theorem reads_fields (n : Nat) (IH : ∀ fuel t cs (x : DataW H × List MemPlace), t < P.types.size → frag P n t = true → DataW.trod enc P W 0 (fun _ => true) held fuel t cs = some x → Reads P W t cs x.1) (m : Nat) (cs : List Value) :
    ∀ (fl : List Field) (xs : List (DataW H × List MemPlace)) (off : Nat), (∀ (j : Nat) (f : Field), fl[j]? = some f → f.offset = off + ((fl.take j).map fun f => P.cellsOf f.type).sum) → xs.length = fl.length → (∀ f ∈ fl, f.type < P.types.size ∧ frag P n f.type = true) →
      (∀ (i : Nat) (f : Field), fl[i]? = some f → DataW.trod enc P W 0 (fun _ => true) held m f.type ((cs.drop f.offset).take (P.cellsOf f.type)) = xs[i]?) →
      ∃ ls : List (List V), ls.length = fl.length ∧ (∀ (i : Nat) (f : Field) (y : DataW H × List MemPlace) (l : List V), fl[i]? = some f → xs[i]? = some y → ls[i]? = some l → RD P f.type y.1 l) ∧ PRels W (IB W) ls.flatten ((cs.drop off).take (fl.map fun f => P.cellsOf f.type).sum) ∧ cellsOk ls.flatten = true ∧
        ls.flatten.length = (fl.map fun f => P.cellsOf f.type).sum
  | [], xs, off, _, hl, _, _ => ⟨[], rfl, fun i f y l h => by simp at h, by simp; exact .nil, rfl, rfl⟩
  | f :: fl, xs, off, hoff, hl, hf, hx => by
    match xs, hl with
    | y :: xs, hl =>
      have h0 := hx 0 f rfl
      have ho := hoff 0 f rfl
      simp only [List.take_zero, List.map_nil, List.sum_nil, Nat.add_zero] at ho
      rw [ho] at h0
      simp only [List.getElem?_cons_zero] at h0
      obtain ⟨vs, r1, r2, r3, r4, r5⟩ := IH m f.type _ y (hf f (by simp)).1 (hf f (by simp)).2 h0
      obtain ⟨ls, q1, q2, q3, q4, q5⟩ := reads_fields n IH m cs fl xs (off + P.cellsOf f.type) (fun j g hg => by
          have := hoff (j + 1) g (by simpa using hg)
          simp only [List.take_succ_cons, List.map_cons, List.sum_cons] at this
          omega) (by simpa using hl) (fun g hg => hf g (by simp [hg])) (fun i g hg => by simpa using hx (i + 1) g (by simpa using hg))
      refine ⟨vs :: ls, by simp [q1], fun i g z l hg hz hll => ?_, ?_, ?_, ?_⟩
      · cases i with
        | zero =>
          simp only [List.getElem?_cons_zero, Option.some.injEq] at hg hz hll
          subst hg; subst hz; subst hll; exact r1
        | succ i =>
          simp only [List.getElem?_cons_succ] at hg hz hll
          exact q2 i g z l hg hz hll
      · rw [List.flatten_cons, List.map_cons, List.sum_cons, List.take_add, List.drop_drop]
        exact prels_append r2 q3
      · rw [List.flatten_cons, cellsOk_append, r3, q4]; rfl
      · rw [List.flatten_cons, List.length_append, r4, q5, List.map_cons, List.sum_cons]

theorem reads (hlo : laidOutB P = true) : ∀ (n fuel : Nat) (t : TypeId) (cs : List Value) (x : DataW H × List MemPlace), t < P.types.size → frag P n t = true → DataW.trod enc P W 0 (fun _ => true) held fuel t cs = some x → Reads P W t cs x.1
  | 0, _, _, _, _, _, hf, _ => by simp [frag] at hf
  | n + 1, fuel, t, cs, x, hts, hf, h => by
    unfold frag at hf
    split at hf
    · rename_i ht
      have hc : P.cellsOf t = 1 := by simpa using hf
      obtain ⟨b, rfl, hx⟩ : ∃ b, cs = [.bool b] ∧ x = (.lit (.bool b), []) := by
        cases fuel with
        | zero => simp [DataW.trod] at h
        | succ m =>
          unfold DataW.trod at h
          rw [ht] at h
          split at h <;> simp_all
      subst hx
      exact ⟨_, .bool t _ ht, .cons _ _ _ _ (.bool _) .nil, rfl, by rw [hc]; rfl, by rw [hc]; rfl⟩
    · rename_i k ht
      have hc : P.cellsOf t = 1 := by simpa using hf
      obtain ⟨m, rfl, rfl, hw⟩ := DataW.trod_int ht h
      exact ⟨_, .int t k m ht hw, .cons _ _ _ _ (.int k m) .nil, rfl, by rw [hc]; rfl, by rw [hc]; rfl⟩
    · rename_i ht
      have hc : P.cellsOf t = 1 := by simpa using hf
      obtain ⟨s, rfl, rfl, hw⟩ := DataW.trod_string ht h
      obtain ⟨⟨s⟩⟩ := s
      exact ⟨_, .str t _ ht, .cons _ _ _ _ (.str s) .nil, rfl, by rw [hc]; rfl, by rw [hc]; rfl⟩
    · rename_i e ht
      simp only [Bool.and_eq_true, beq_iff_eq, decide_eq_true_eq] at hf
      obtain ⟨⟨hc, hce⟩, hfe⟩ := hf
      have hes := kid_slice hlo hts ht
      rcases DataW.trod_slice ht h with ⟨rfl, rfl⟩ | ⟨a, len, cap, elems, rest, m, -, rfl, rfl, -, hlc, -, hlen, hel, -, -⟩
      · exact ⟨_, .nil t e ht, .cons _ _ _ _ .nil0 .nil, rfl, by rw [hc]; rfl, by rw [hc]; rfl⟩
      · have each : ∀ i, i < len → ∃ q : List Value × List V, (∃ y, elems[i]? = some y ∧ W.cells? 0 (a.add (i * P.cellsOf e)) (P.cellsOf e) = some q.1 ∧ RD P e y.1 q.2 ∧ PRels W (IB W) q.2 q.1 ∧ cellsOk q.2 = true ∧ q.2.length = P.cellsOf e ∧ q.1.length = P.cellsOf e) := fun i hi => by
          have hb := hel i hi
          obtain ⟨y, hy⟩ : ∃ y, elems[i]? = some y := ⟨_, List.getElem?_eq_getElem (by omega)⟩
          rw [hy, Option.bind_eq_some_iff] at hb
          obtain ⟨cs', h1, h2⟩ := hb
          obtain ⟨vs, r1, r2, r3, r4, r5⟩ := reads hlo n m e cs' y hes hfe h2
          exact ⟨(cs', vs), y, hy, h1, r1, r2, r3, r4, r5⟩
        obtain ⟨qs, hql, hq⟩ := list_choose len each
        have hmem : ∀ q ∈ qs, ∃ i, qs[i]? = some q := fun q h => List.getElem?_of_mem h
        refine ⟨[.list (P.cellsOf e) ((qs.map (·.2)).map mkV)], .slice t e (elems.map (·.1)) (rest.map (·.1)) (qs.map (·.2)) ht (by simp [hql, hlen]) (fun i d l hd hl => ?_), ?_, rfl, by rw [hc]; rfl, by rw [hc]; rfl⟩
        · rw [List.getElem?_map] at hd hl
          cases hqi : qs[i]? with
          | none => rw [hqi] at hl; cases hl
          | some q =>
            obtain ⟨y, hy, -, h2, -⟩ := hq i q hqi
            rw [hqi] at hl
            rw [hy] at hd
            cases hd; cases hl
            exact h2
        · refine .cons _ _ _ _ ?_ .nil
          cases hlen0 : len with
          | zero =>
            have : qs = [] := List.eq_nil_of_length_eq_zero (by omega)
            subst this
            exact .list0 _ a cap
          | succ len' =>
            obtain ⟨q0, hq0⟩ : ∃ q, qs[0]? = some q := ⟨_, List.getElem?_eq_getElem (by omega)⟩
            obtain ⟨y0, -, hc0, -, -, -, -, hl0⟩ := hq 0 q0 hq0
            have hcell0 := (World.cells?_some hc0).2.2 0 hce
            obtain ⟨v0, hv0⟩ : ∃ v, q0.1[0]? = some v := ⟨_, List.getElem?_eq_getElem (by omega)⟩
            rw [hv0] at hcell0
            obtain ⟨ab, ao, asp⟩ := a
            have hsp : asp = none := by
              have := (cell_block hcell0).1
              simpa [Addr.add] using this
            subst hsp
            have hbl : ab < W.heap.size := by
              have := (cell_block hcell0).2
              rwa [block_add, block_add] at this
            have hlm : ((qs.map (·.2)).map mkV).length = len := by simp [hql]
            have key : PRel W (IB W) (.list (P.cellsOf e) ((qs.map (·.2)).map mkV)) (.slice (some ⟨ab, ao, none⟩) ((qs.map (·.2)).map mkV).length cap) := by
              refine .list _ _ ab ao cap (qs.map (·.1)).flatten hbl (fun j x hj => ?_) (fun d hd => ?_) ?_ (by rw [hlm]; exact hlc)
              · obtain ⟨i, r, l, h1, h2, rfl, h4⟩ := flat_get (c := P.cellsOf e) (fun l hl => by
                  obtain ⟨q, hqm, rfl⟩ := List.mem_map.1 hl
                  obtain ⟨i, hi⟩ := hmem q hqm
                  obtain ⟨y, -, -, -, -, -, -, h⟩ := hq i q hi
                  exact h) hj
                rw [List.getElem?_map] at h1
                cases hqi : qs[i]? with
                | none => rw [hqi] at h1; cases h1
                | some q =>
                  rw [hqi] at h1; cases h1
                  obtain ⟨y, -, hcs, -⟩ := hq i q hqi
                  have := (World.cells?_some hcs).2.2 r h4
                  rw [h2] at this
                  have e1 : ((⟨ab, ao, none⟩ : Addr).add (i * P.cellsOf e)).add r = ⟨ab, ao + (i * P.cellsOf e + r), none⟩ := by
                    simp only [Addr.add]
                    split <;> split <;> simp_all <;> omega
                  rw [e1] at this; exact this
              · obtain ⟨l, hl, rfl⟩ := List.mem_map.1 hd
                obtain ⟨q, hqm, rfl⟩ := List.mem_map.1 hl
                obtain ⟨i, hi⟩ := hmem q hqm
                obtain ⟨y, -, -, -, -, h5, h6, -⟩ := hq i q hi
                rw [cellsV_mk h5]; exact h6
              · have hall : ∀ q ∈ qs, PRels W (IB W) q.2 q.1 ∧ cellsOk q.2 = true := fun q hqm => by
                  obtain ⟨i, hi⟩ := hmem q hqm
                  obtain ⟨y, -, -, -, h4, h5, -⟩ := hq i q hi
                  exact ⟨h4, h5⟩
                have : ∀ qs : List (List Value × List V), (∀ q ∈ qs, PRels W (IB W) q.2 q.1 ∧ cellsOk q.2 = true) → PRels W (IB W) (((qs.map (·.2)).map mkV).flatMap cellsV) (qs.map (·.1)).flatten := by
                  intro qs
                  induction qs with
                  | nil => intro _; exact .nil
                  | cons q qs ih =>
                    intro h
                    have h0 := h q (by simp)
                    simp only [List.map_cons, List.flatMap_cons, List.flatten_cons]
                    rw [cellsV_mk h0.2]
                    exact prels_append h0.1 (ih fun p hp => h p (by simp [hp]))
                exact this qs hall
            rw [hlm, hlen0] at key
            exact key
    · rename_i fs ht
      obtain ⟨k1, k2, k3⟩ := kid_struct hlo hts ht
      obtain ⟨xs, m, -, rfl, hcl, hxl, hx⟩ := DataW.trod_struct ht h
      rw [List.all_eq_true] at hf
      obtain ⟨ls, q1, q2, q3, q4, q5⟩ := reads_fields n (fun fuel t cs x a b c => reads hlo n fuel t cs x a b c) m cs fs.toList xs 0 (fun j f hj => by rw [k3 j f hj]; omega) (by simpa using hxl) (fun f hfm => ⟨k1 f hfm, hf f hfm⟩) (fun i f hi => hx i f (by simpa using hi))
      refine ⟨ls.flatten, .struct t fs (xs.map (·.1)) ls ht (by simpa using hxl) (by simpa using q1) (fun i f d l hfi hd hl => ?_), ?_, q4, by rw [q5, k2], hcl⟩
      · rw [List.getElem?_map] at hd
        cases hxi : xs[i]? with
        | none => rw [hxi] at hd; cases hd
        | some y =>
          rw [hxi] at hd; cases hd
          exact q2 i f y l (by simpa using hfi) hxi hl
      · rw [List.drop_zero, List.take_of_length_le (by rw [hcl, k2]; exact Nat.le_refl _)] at q3
        exact q3
    · cases hf

theorem rd_int {t : TypeId} {k : IntKind} {d : DataW H} {vs : List V} (ht : P.underlying t = some (.int k)) (h : RD P t d vs) : ∃ n, d = .lit (.int k n) ∧ vs = [.int k n] ∧ (Lit.int k n).wf = true := by
  cases h <;> rename_i ht' <;> rw [ht] at * <;> try (first | (cases ht'; done) | contradiction)
  · rename_i hw; cases ht'; exact ⟨_, rfl, rfl, hw⟩
theorem rd_str {t : TypeId} {d : DataW H} {vs : List V} (ht : P.underlying t = some .string) (h : RD P t d vs) : ∃ s, d = .lit (.string s) ∧ vs = [.str s] := by
  cases h with
  | str _ s ht' => exact ⟨s, rfl, rfl⟩
  | bool _ _ ht' | int _ _ _ ht' _ | nil _ _ ht' | slice _ _ _ _ _ ht' _ _ | struct _ _ _ _ ht' _ _ _ => rw [ht] at ht'; cases ht'
theorem rd_bool {t : TypeId} {d : DataW H} {vs : List V} (ht : P.underlying t = some .bool) (h : RD P t d vs) : ∃ b, d = .lit (.bool b) ∧ vs = [.bool b] := by
  cases h with
  | bool _ b ht' => exact ⟨b, rfl, rfl⟩
  | str _ _ ht' | int _ _ _ ht' _ | nil _ _ ht' | slice _ _ _ _ _ ht' _ _ | struct _ _ _ _ ht' _ _ _ => rw [ht] at ht'; cases ht'
theorem rd_slice {t e : TypeId} {d : DataW H} {vs : List V} (ht : P.underlying t = some (.slice e)) (h : RD P t d vs) :
    (d = .nil ∧ vs = [.nil0]) ∨ ∃ (elems spare : List (DataW H)) (ls : List (List V)), d = .slice elems spare ∧ vs = [.list (P.cellsOf e) (ls.map mkV)] ∧ ls.length = elems.length ∧ ∀ (i : Nat) d l, elems[i]? = some d → ls[i]? = some l → RD P e d l := by
  cases h with
  | nil _ _ ht' => exact .inl ⟨rfl, rfl⟩
  | slice _ e' elems spare ls ht' hl h => rw [ht] at ht'; cases ht'; exact .inr ⟨elems, spare, ls, rfl, rfl, hl, h⟩
  | bool _ _ ht' | str _ _ ht' | int _ _ _ ht' _ | struct _ _ _ _ ht' _ _ _ => rw [ht] at ht'; cases ht'
theorem rd_struct {t : TypeId} {fs : Array Field} {d : DataW H} {vs : List V} (ht : P.underlying t = some (.struct fs)) (h : RD P t d vs) :
    ∃ (parts : List (DataW H)) (ls : List (List V)), d = .agg parts ∧ vs = ls.flatten ∧ parts.length = fs.size ∧ ls.length = fs.size ∧ ∀ (i : Nat) (f : Field) d l, fs[i]? = some f → parts[i]? = some d → ls[i]? = some l → RD P f.type d l := by
  cases h with
  | struct _ fs' parts ls ht' hp hl h => rw [ht] at ht'; cases ht'; exact ⟨parts, ls, rfl, rfl, hp, hl, h⟩
  | bool _ _ ht' | str _ _ ht' | int _ _ _ ht' _ | nil _ _ ht' | slice _ _ _ _ _ ht' _ _ => rw [ht] at ht'; cases ht'

/-! ### sizes -/
theorem weights_all {e : TypeId} {elems : List (DataW H)} {i : Nat} {d : DataW H} (h : elems[i]? = some d) : ∀ n ∈ d.weights P e, n ∈ DataW.weightsAll P e elems := by
  induction elems generalizing i with
  | nil => simp at h
  | cons x r ih =>
    intro n hn
    simp only [DataW.weightsAll, List.mem_append]
    cases i with
    | zero => simp only [List.getElem?_cons_zero, Option.some.injEq] at h; subst h; exact .inl hn
    | succ i => exact .inr (ih (by simpa using h) n hn)
theorem weights_elem {t e : TypeId} {elems spare : List (DataW H)} (ht : P.underlying t = some (.slice e)) {i : Nat} {d : DataW H} (h : elems[i]? = some d) : ∀ n ∈ d.weights P e, n ∈ (DataW.slice elems spare).weights P t := fun n hn => by
  simp only [DataW.weights, ht, List.mem_cons, List.mem_append]
  exact .inr (.inl (weights_all h n hn))
theorem weights_part {t : TypeId} {fs : Array Field} {parts : List (DataW H)} (ht : P.underlying t = some (.struct fs)) {i : Nat} {f : Field} {d : DataW H} (hf : fs[i]? = some f) (h : parts[i]? = some d) : ∀ n ∈ d.weights P f.type, n ∈ (DataW.agg parts).weights P t := fun n hn => by
  simp only [DataW.weights, ht]
  exact DataW.weights_mem_each (t := f.type) (by simpa using ⟨f, by simpa using hf, rfl⟩) h n hn
theorem weights_len {t e : TypeId} {elems spare : List (DataW H)} (ht : P.underlying t = some (.slice e)) : (elems.length + spare.length) * P.bytesOf e ∈ (DataW.slice elems spare).weights P t := by simp [DataW.weights, ht]

/-- An argument that is one cell. -/
theorem read_arg (hlo : laidOutB P = true) {n : Nat} {t : TypeId} {v : Value} {d : DataW H} {ps : List MemPlace} (hts : t < P.types.size) (hf : frag P n t = true) (hone : v.cells.toList = [v])
    (hd : DataW.Trod enc P W 0 (fun _ => true) held t v d ps) : ∃ sv, RD P t d [sv] ∧ PRel W (IB W) sv v := by
  obtain ⟨fuel, hd⟩ := hd
  obtain ⟨vs, r1, r2, r3, r4, r5⟩ := reads hlo n fuel t _ _ hts hf hd
  rw [hone] at r2
  cases r2 with
  | cons sv x vs xs h hs => cases hs; exact ⟨sv, r1, h⟩
end
end Go.Abs
/- What small functions of the program compute. -/
namespace Go.Abs.T09
open Go Go.Abs

theorem within_s (n lo hi : Int) (H : Heap) : callL tab (.fn 41 [] []) [.int .i64 n, .int .i64 lo, .int .i64 hi] H = some (.bool (decide (lo ≤ n) && decide (n ≤ hi)), H, H.length) := by
  rw [callL_fn, show tab 41 = some (.code F41) from rfl]
  by_cases h : n ≥ lo
  · have h' : lo ≤ n := h
    simp [F41, callBody, zipE, execL_seq, execL_region, execL_cond, execL_skip, execL_ret, execL_exit, execL_block, execOps, wantedA, S_mv, S_pick, S_bin, S_un, S_call0, S_call1, S_extract, S_nilEq, S_load, S_alloc, S_box, Opd.ev, lookupE, setE, St.put, binA, unA, boolOf, freezeVs, freezeV, freeze1, isP, isPs, resultsA, resultA, finish, old, olds, flat, movedH_same, Nat.min_self, loadA, readCells, cellsV, h, h']
  · have h' : ¬ lo ≤ n := h
    simp [F41, callBody, zipE, execL_seq, execL_region, execL_cond, execL_skip, execL_ret, execL_exit, execL_block, execOps, wantedA, S_mv, S_pick, S_bin, S_un, S_call0, S_call1, S_extract, S_nilEq, S_load, S_alloc, S_box, Opd.ev, lookupE, setE, St.put, binA, unA, boolOf, freezeVs, freezeV, freeze1, isP, isPs, resultsA, resultA, finish, old, olds, flat, movedH_same, Nat.min_self, loadA, readCells, cellsV, h, h']

theorem sized1_s (n : Int) (H : Heap) : callL tab (.fn 60 [] []) [.int .i64 n] H = some (.bool !(decide (1 ≤ n) && decide (n ≤ 6)), H, H.length) := by
  rw [callL_fn, show tab 60 = some (.code F60) from rfl]
  simp [F60, callBody, zipE, execL_seq, execL_region, execL_cond, execL_skip, execL_ret, execL_exit, execL_block, execOps, wantedA, S_mv, S_pick, S_bin, S_un, S_call0, S_call1, S_extract, S_nilEq, S_load, S_alloc, S_box, Opd.ev, lookupE, setE, St.put, binA, unA, boolOf, freezeVs, freezeV, freeze1, isP, isPs, resultsA, resultA, finish, old, olds, flat, movedH_same, Nat.min_self, loadA, readCells, cellsV, within_s]

theorem isNaN_s (n : Int) (H : Heap) : callL tab (.fn 79 [] []) [.int .i64 n] H = some (.bool false, H, H.length) := by
  rw [callL_fn, show tab 79 = some (.code F79) from rfl]
  simp [F79, callBody, zipE, execL_seq, execL_region, execL_cond, execL_skip, execL_ret, execL_exit, execL_block, execOps, wantedA, S_mv, S_pick, S_bin, S_un, S_call0, S_call1, S_extract, S_nilEq, S_load, S_alloc, S_box, Opd.ev, lookupE, setE, St.put, binA, unA, boolOf, freezeVs, freezeV, freeze1, isP, isPs, resultsA, resultA, finish, old, olds, flat, movedH_same, Nat.min_self, loadA, readCells, cellsV]

def cmpI (a b : Int) : Int := if a < b then -1 else if a > b then 1 else 0

theorem compare_s (a b : Int) (H : Heap) : callL tab (.fn 56 [] []) [.int .i64 a, .int .i64 b] H = some (.int .i64 (cmpI a b), H, H.length) := by
  rw [callL_fn, show tab 56 = some (.code F56) from rfl]
  by_cases h1 : a < b
  · simp [F56, callBody, zipE, execL_seq, execL_region, execL_cond, execL_skip, execL_ret, execL_exit, execL_block, execOps, wantedA, S_mv, S_pick, S_bin, S_un, S_call0, S_call1, S_extract, S_nilEq, S_load, S_alloc, S_box, Opd.ev, lookupE, setE, St.put, binA, unA, boolOf, freezeVs, freezeV, freeze1, isP, isPs, resultsA, resultA, finish, old, olds, flat, movedH_same, Nat.min_self, loadA, readCells, cellsV, isNaN_s, cmpI, h1]
  · by_cases h2 : a > b
    · have h3 : b < a := h2
      simp [F56, callBody, zipE, execL_seq, execL_region, execL_cond, execL_skip, execL_ret, execL_exit, execL_block, execOps, wantedA, S_mv, S_pick, S_bin, S_un, S_call0, S_call1, S_extract, S_nilEq, S_load, S_alloc, S_box, Opd.ev, lookupE, setE, St.put, binA, unA, boolOf, freezeVs, freezeV, freeze1, isP, isPs, resultsA, resultA, finish, old, olds, flat, movedH_same, Nat.min_self, loadA, readCells, cellsV, isNaN_s, cmpI, h1, h2, h3]
    · have h3 : ¬ b < a := h2
      simp [F56, callBody, zipE, execL_seq, execL_region, execL_cond, execL_skip, execL_ret, execL_exit, execL_block, execOps, wantedA, S_mv, S_pick, S_bin, S_un, S_call0, S_call1, S_extract, S_nilEq, S_load, S_alloc, S_box, Opd.ev, lookupE, setE, St.put, binA, unA, boolOf, freezeVs, freezeV, freeze1, isP, isPs, resultsA, resultA, finish, old, olds, flat, movedH_same, Nat.min_self, loadA, readCells, cellsV, isNaN_s, cmpI, h1, h2, h3]
end Go.Abs.T09
/- What the functions of package slices compute, at ints. -/
namespace Go.Abs.T09
open Go Go.Abs

/-- A slice of ints that is never written. -/
structure VI (v : V) (l : List Int) : Prop where
  sl : slE 1 v = true
  el : el v = l.map (.int .i64)
  lt : l.length < 4611686018427387904

theorem slE_isP {es : Nat} {v : V} (h : slE es v = true) : isP v = true := by cases v <;> simp_all [slE, isP]
theorem VI.isP {v : V} {l : List Int} (h : VI v l) : isP v = true := slE_isP h.sl
theorem VI.get {v : V} {l : List Int} (h : VI v l) {k : Nat} {n : Int} (e : l[k]? = some n) : (Abs.el v)[k]? = some (.int .i64 n) := by rw [h.el]; simp [e]
theorem VI.len {v : V} {l : List Int} (h : VI v l) : (Abs.el v).length = l.length := by rw [h.el]; simp

/-- What an answer of a pure function is. -/
def Ans (f : V) (args : List V) (H : Heap) (v : V) : Prop := callL tab f args H = some (v, H, H.length)

theorem indexFunc_s {xs : V} {ns : List Int} {i : Nat} {fs cs : List V} {p : Int → Bool} {H : Heap} (hx : VI xs ns) (hf : ∀ n ∈ ns, Ans (.fn i fs cs) [.int .i64 n] H (.bool (p n))) :
    Ans (.fn 82 [] []) [xs, .fn i fs cs] H (.int .i64 (match ns.findIdx? p with | some k => (k : Int) | none => -1)) := by
  unfold Ans at hf ⊢
  have key := range_loop (tab := tab) (b := 9) (n := 7) (i := 8) (t := 18) (blk := 1) (ex := 0) (body := F82L0)
    (I := fun k st => st.H = H ∧ st.low = H.length ∧ lookupE st.vE 0 = xs ∧ lookupE st.vE 1 = .fn i fs cs ∧ lookupE st.vE 8 = .int .i64 k ∧ lookupE st.vE 7 = .int .i64 ns.length ∧ ∀ n ∈ ns.take k, p n = false)
    (Q := fun x st => st.H = H ∧ st.low = H.length ∧ ((x = .exit 0 ∧ ns.findIdx? p = none) ∨ (x = .ret ∧ ∃ k, ns.findIdx? p = some k ∧ lookupE st.vE 4 = .int .i64 k)))
    (N := ns.length) hx.lt (by decide) (by decide)
    (fun k st h => ⟨h.2.2.2.2.1, h.2.2.2.2.2.1, by rw [h.1, h.2.1]; exact Nat.le_refl _⟩)
    (by
      rintro k st hk ⟨h1, h2, h3, h4, h5, h6, h7⟩
      obtain ⟨n, hn⟩ : ∃ n, ns[k]? = some n := ⟨_, List.getElem?_eq_getElem hk⟩
      have hmem : n ∈ ns := List.mem_of_getElem? hn
      have hc := hf n hmem
      have hg := hx.get hn
      cases hp : p n with
      | false =>
        refine ⟨.normal, _, by simp [F82L0, callBody, zipE, execL_seq, execL_region, execL_cond, execL_skip, execL_ret, execL_exit, execL_block, execOps, wantedA, S_mv, S_pick, S_bin, S_un, S_call0, S_call1, S_extract, S_nilEq, S_load, S_alloc, S_box, Opd.ev, lookupE, lookE_setE, St.put, binA, unA, boolOf, freezeVs, freezeV, freeze1, isP, isPs, resultsA, resultA, finish, old, olds, flat, movedH_same, Nat.min_self, loadA, readCells, cellsV, h1, h2, h3, h4, h5, h6, S_index, hx.sl, hg, hc, hp]; rfl, ?_⟩
        simp only [true_or, if_true, lookE_setE, h1, h2]
        refine ⟨by simp [h5], by simp, by simp, by simp, by simp [h3], by simp [h4], by simp, by simp [h6], fun m hm => ?_⟩
        rw [List.take_add_one, hn] at hm
        simp at hm
        rcases hm with hm | rfl
        · exact h7 m hm
        · exact hp
      | true =>
        refine ⟨.ret, _, by simp [F82L0, callBody, zipE, execL_seq, execL_region, execL_cond, execL_skip, execL_ret, execL_exit, execL_block, execOps, wantedA, S_mv, S_pick, S_bin, S_un, S_call0, S_call1, S_extract, S_nilEq, S_load, S_alloc, S_box, Opd.ev, lookupE, lookE_setE, St.put, binA, unA, boolOf, freezeVs, freezeV, freeze1, isP, isPs, resultsA, resultA, finish, old, olds, flat, movedH_same, Nat.min_self, loadA, readCells, cellsV, h1, h2, h3, h4, h5, h6, S_index, hx.sl, hg, hc, hp]; rfl, ?_⟩
        simp only [reduceCtorEq, or_self, if_false, h1, h2]
        refine ⟨trivial, trivial, .inr ⟨trivial, k, ?_, by simp [lookE_setE]⟩⟩
        rw [List.findIdx?_eq_some_iff_getElem]
        refine ⟨hk, ?_, fun j hj => ?_⟩
        · have : ns[k] = n := by rw [List.getElem?_eq_getElem hk] at hn; exact Option.some.inj hn
          rw [this]; exact hp
        · have : ns[j] ∈ ns.take k := List.mem_take_iff_getElem.2 ⟨j, by omega, rfl⟩
          simp [h7 _ this])
    (by
      rintro st ⟨h1, h2, h3, h4, h5, h6, h7⟩
      refine ⟨h1, h2, .inl ⟨rfl, ?_⟩⟩
      rw [List.findIdx?_eq_none_iff]
      intro n hn
      exact h7 n (by rw [List.take_length]; exact hn))
  obtain ⟨x, st', h1, h2, h3, h4⟩ := key ns.length 0 { tE := [], vE := [(0, xs), (1, .fn i fs cs), (4, .int .i64 0), (7, .int .i64 ns.length), (8, .int .i64 0)], H := H, low := H.length } (by omega)
    ⟨rfl, rfl, rfl, rfl, rfl, rfl, fun m hm => by simp at hm⟩
  rw [callL_fn, show tab 82 = some (.code F82) from rfl]
  rcases h4 with ⟨rfl, h4⟩ | ⟨rfl, k, h4, h5⟩
  · simp [F82, callBody, zipE, execL_seq, execL_region, execL_cond, execL_skip, execL_ret, execL_exit, execL_block, execOps, wantedA, S_mv, S_pick, S_bin, S_un, S_call0, S_call1, S_extract, S_nilEq, S_load, S_alloc, S_box, Opd.ev, lookupE, setE, St.put, binA, unA, boolOf, freezeVs, freezeV, freeze1, isP, isPs, resultsA, resultA, finish, old, olds, flat, movedH_same, Nat.min_self, loadA, readCells, cellsV, S_len 1, hx.sl, hx.len, h1, h2, h3, h4, lookE_setE]
  · simp [F82, callBody, zipE, execL_seq, execL_region, execL_cond, execL_skip, execL_ret, execL_exit, execL_block, execOps, wantedA, S_mv, S_pick, S_bin, S_un, S_call0, S_call1, S_extract, S_nilEq, S_load, S_alloc, S_box, Opd.ev, lookupE, setE, St.put, binA, unA, boolOf, freezeVs, freezeV, freeze1, isP, isPs, resultsA, resultA, finish, old, olds, flat, movedH_same, Nat.min_self, loadA, readCells, cellsV, S_len 1, hx.sl, hx.len, h1, h2, h3, h4, h5, lookE_setE]

theorem containsFunc_s {xs : V} {ns : List Int} {i : Nat} {fs cs : List V} {p : Int → Bool} {H : Heap} (hx : VI xs ns) (hf : ∀ n ∈ ns, Ans (.fn i fs cs) [.int .i64 n] H (.bool (p n))) :
    Ans (.fn 59 [] []) [xs, .fn i fs cs] H (.bool (ns.any p)) := by
  have hi := indexFunc_s hx hf
  unfold Ans at hi ⊢
  rw [callL_fn, show tab 59 = some (.code F59) from rfl]
  cases hz : ns.findIdx? p with
  | none =>
    have ha : ns.any p = false := by
      rw [List.findIdx?_eq_none_iff] at hz
      rw [List.any_eq_false]; intro x hx'; simp [hz x hx']
    rw [hz] at hi
    simp [F59, callBody, zipE, execL_seq, execL_region, execL_cond, execL_skip, execL_ret, execL_exit, execL_block, execOps, wantedA, S_mv, S_pick, S_bin, S_un, S_call0, S_call1, S_extract, S_nilEq, S_load, S_alloc, S_box, Opd.ev, lookupE, setE, St.put, binA, unA, boolOf, freezeVs, freezeV, freeze1, isP, isPs, resultsA, resultA, finish, old, olds, flat, movedH_same, Nat.min_self, loadA, readCells, cellsV, hx.isP, hi, ha]
  | some k =>
    have ha : ns.any p = true := by
      rw [List.findIdx?_eq_some_iff_getElem] at hz
      obtain ⟨hk, hp, -⟩ := hz
      exact List.any_eq_true.2 ⟨_, List.getElem_mem hk, hp⟩
    rw [hz] at hi
    simp [F59, callBody, zipE, execL_seq, execL_region, execL_cond, execL_skip, execL_ret, execL_exit, execL_block, execOps, wantedA, S_mv, S_pick, S_bin, S_un, S_call0, S_call1, S_extract, S_nilEq, S_load, S_alloc, S_box, Opd.ev, lookupE, setE, St.put, binA, unA, boolOf, freezeVs, freezeV, freeze1, isP, isPs, resultsA, resultA, finish, old, olds, flat, movedH_same, Nat.min_self, loadA, readCells, cellsV, hx.isP, hi, ha]

end Go.Abs.T09
/- What the small functions of the lexer compute. -/
namespace Go.Abs.T09
open Go Go.Abs

section
variable {call : CallT} {ev : Opd → V} {H : Heap} {low : Nat}
theorem S_len0 (x : Opd) : stepC call ev H low (.len 0 x) = match ev x with
    | .str s => some (.int .i64 s.length, H, low)
    | _ => none := by
  show step ev H low (.len 0 x) = _
  cases hx : ev x <;> simp [step, hx]
theorem S_indexS (x i : Opd) : stepC call ev H low (.indexS x i) = match ev x, natOf (ev i) with
    | .str s, some i => (s[i]?).map fun c => (.int .u8 c.toNat, H, low)
    | _, _ => none := rfl
theorem S_sliceS (x : Opd) (lo hi : Option Opd) : stepC call ev H low (.sliceS x lo hi) = match ev x with
    | .str s => match bnd ev 0 lo, bnd ev s.length hi with
      | some a, some b => if a ≤ b ∧ b ≤ s.length then some (.str ((s.take b).drop a), H, low) else none
      | _, _ => none
    | _ => none := rfl
end

def bv (c : UInt8) : V := .int .u8 c.toNat
def isL (c : UInt8) : Bool := decide (97 ≤ c.toNat) && decide (c.toNat ≤ 122)
def isD (c : UInt8) : Bool := decide (48 ≤ c.toNat) && decide (c.toNat ≤ 57)
def isPt (c : UInt8) : Bool := isL c || isD c || c.toNat == 95
def isW (c : UInt8) : Bool := c.toNat == 32 || c.toNat == 9 || c.toNat == 10 || c.toNat == 13

theorem letter_s (c : UInt8) (H : Heap) : Ans (.fn 70 [] []) [bv c] H (.bool (isL c)) := by
  unfold Ans bv
  rw [callL_fn, show tab 70 = some (.code F70) from rfl]
  by_cases h : 97 ≤ c.toNat
  · have h' : (97 : Int) ≤ (c.toNat : Int) := by omega
    by_cases h2 : c.toNat ≤ 122
    · have h2' : (c.toNat : Int) ≤ 122 := by omega
      simp [F70, callBody, zipE, execL_seq, execL_region, execL_cond, execL_skip, execL_ret, execL_exit, execL_block, execOps, wantedA, S_mv, S_pick, S_bin, S_un, S_call0, S_call1, S_extract, S_nilEq, S_load, S_alloc, S_box, Opd.ev, lookupE, setE, St.put, binA, unA, boolOf, freezeVs, freezeV, freeze1, isP, isPs, resultsA, resultA, finish, old, olds, flat, movedH_same, Nat.min_self, loadA, readCells, cellsV, isL, h, h', h2, h2']
    · have h2' : ¬ (c.toNat : Int) ≤ 122 := by omega
      simp [F70, callBody, zipE, execL_seq, execL_region, execL_cond, execL_skip, execL_ret, execL_exit, execL_block, execOps, wantedA, S_mv, S_pick, S_bin, S_un, S_call0, S_call1, S_extract, S_nilEq, S_load, S_alloc, S_box, Opd.ev, lookupE, setE, St.put, binA, unA, boolOf, freezeVs, freezeV, freeze1, isP, isPs, resultsA, resultA, finish, old, olds, flat, movedH_same, Nat.min_self, loadA, readCells, cellsV, isL, h, h', h2, h2']
  · have h' : ¬ (97 : Int) ≤ (c.toNat : Int) := by omega
    simp [F70, callBody, zipE, execL_seq, execL_region, execL_cond, execL_skip, execL_ret, execL_exit, execL_block, execOps, wantedA, S_mv, S_pick, S_bin, S_un, S_call0, S_call1, S_extract, S_nilEq, S_load, S_alloc, S_box, Opd.ev, lookupE, setE, St.put, binA, unA, boolOf, freezeVs, freezeV, freeze1, isP, isPs, resultsA, resultA, finish, old, olds, flat, movedH_same, Nat.min_self, loadA, readCells, cellsV, isL, h, h']

theorem digit_s (c : UInt8) (H : Heap) : Ans (.fn 73 [] []) [bv c] H (.bool (isD c)) := by
  unfold Ans bv
  rw [callL_fn, show tab 73 = some (.code F73) from rfl]
  by_cases h : 48 ≤ c.toNat
  · have h' : (48 : Int) ≤ (c.toNat : Int) := by omega
    by_cases h2 : c.toNat ≤ 57
    · have h2' : (c.toNat : Int) ≤ 57 := by omega
      simp [F73, callBody, zipE, execL_seq, execL_region, execL_cond, execL_skip, execL_ret, execL_exit, execL_block, execOps, wantedA, S_mv, S_pick, S_bin, S_un, S_call0, S_call1, S_extract, S_nilEq, S_load, S_alloc, S_box, Opd.ev, lookupE, setE, St.put, binA, unA, boolOf, freezeVs, freezeV, freeze1, isP, isPs, resultsA, resultA, finish, old, olds, flat, movedH_same, Nat.min_self, loadA, readCells, cellsV, isD, h, h', h2, h2']
    · have h2' : ¬ (c.toNat : Int) ≤ 57 := by omega
      simp [F73, callBody, zipE, execL_seq, execL_region, execL_cond, execL_skip, execL_ret, execL_exit, execL_block, execOps, wantedA, S_mv, S_pick, S_bin, S_un, S_call0, S_call1, S_extract, S_nilEq, S_load, S_alloc, S_box, Opd.ev, lookupE, setE, St.put, binA, unA, boolOf, freezeVs, freezeV, freeze1, isP, isPs, resultsA, resultA, finish, old, olds, flat, movedH_same, Nat.min_self, loadA, readCells, cellsV, isD, h, h', h2, h2']
  · have h' : ¬ (48 : Int) ≤ (c.toNat : Int) := by omega
    simp [F73, callBody, zipE, execL_seq, execL_region, execL_cond, execL_skip, execL_ret, execL_exit, execL_block, execOps, wantedA, S_mv, S_pick, S_bin, S_un, S_call0, S_call1, S_extract, S_nilEq, S_load, S_alloc, S_box, Opd.ev, lookupE, setE, St.put, binA, unA, boolOf, freezeVs, freezeV, freeze1, isP, isPs, resultsA, resultA, finish, old, olds, flat, movedH_same, Nat.min_self, loadA, readCells, cellsV, isD, h, h']

theorem beqI (c : UInt8) (n : Nat) : ((c.toNat : Int) == (n : Int)) = (c.toNat == n) := by
  rw [Bool.eq_iff_iff]; simp; omega

theorem part_s (c : UInt8) (H : Heap) : Ans (.fn 72 [] []) [bv c] H (.bool (isPt c)) := by
  have h1 := letter_s c H
  have h2 := digit_s c H
  unfold Ans bv at *
  rw [callL_fn, show tab 72 = some (.code F72) from rfl]
  have e := beqI c 95
  cases a : isL c <;> cases b : isD c <;> simp [F72, callBody, zipE, execL_seq, execL_region, execL_cond, execL_skip, execL_ret, execL_exit, execL_block, execOps, wantedA, S_mv, S_pick, S_bin, S_un, S_call0, S_call1, S_extract, S_nilEq, S_load, S_alloc, S_box, Opd.ev, lookupE, setE, St.put, binA, unA, boolOf, freezeVs, freezeV, freeze1, isP, isPs, resultsA, resultA, finish, old, olds, flat, movedH_same, Nat.min_self, loadA, readCells, cellsV, h1, h2, a, b, isPt] <;> exact e

theorem white_s (c : UInt8) (H : Heap) : Ans (.fn 75 [] []) [bv c] H (.bool (isW c)) := by
  unfold Ans bv
  rw [callL_fn, show tab 75 = some (.code F75) from rfl]
  have e1 : ((c.toNat : Int) == 32) = (c.toNat == 32) := beqI c 32
  have e2 : ((c.toNat : Int) == 9) = (c.toNat == 9) := beqI c 9
  have e3 : ((c.toNat : Int) == 10) = (c.toNat == 10) := beqI c 10
  have e4 : ((c.toNat : Int) == 13) = (c.toNat == 13) := beqI c 13
  cases a1 : (c.toNat == 32) <;> cases a2 : (c.toNat == 9) <;> cases a3 : (c.toNat == 10) <;> cases a4 : (c.toNat == 13) <;> simp [F75, callBody, zipE, execL_seq, execL_region, execL_cond, execL_skip, execL_ret, execL_exit, execL_block, execOps, wantedA, S_mv, S_pick, S_bin, S_un, S_call0, S_call1, S_extract, S_nilEq, S_load, S_alloc, S_box, Opd.ev, lookupE, setE, St.put, binA, unA, boolOf, freezeVs, freezeV, freeze1, isP, isPs, resultsA, resultA, finish, old, olds, flat, movedH_same, Nat.min_self, loadA, readCells, cellsV, e1, e2, e3, e4, a1, a2, a3, a4, isW]

theorem nl_s (c : UInt8) (H : Heap) : Ans (.fn 87 [] []) [bv c] H (.bool (c.toNat != 10)) := by
  unfold Ans bv
  rw [callL_fn, show tab 87 = some (.code F87) from rfl]
  have e : ((c.toNat : Int) != 10) = (c.toNat != 10) := by simp only [bne, show ((c.toNat : Int) == 10) = (c.toNat == 10) from beqI c 10]
  simp [F87, callBody, zipE, execL_seq, execL_region, execL_cond, execL_skip, execL_ret, execL_exit, execL_block, execOps, wantedA, S_mv, S_pick, S_bin, S_un, S_call0, S_call1, S_extract, S_nilEq, S_load, S_alloc, S_box, Opd.ev, lookupE, setE, St.put, binA, unA, boolOf, freezeVs, freezeV, freeze1, isP, isPs, resultsA, resultA, finish, old, olds, flat, movedH_same, Nat.min_self, loadA, readCells, cellsV, e]

def pre (s w : List UInt8) : Bool := s.take w.length == w

theorem pre_s (s w : List UInt8) (H : Heap) : Ans (.fn 101 [] []) [.str s, .str w] H (.bool (pre s w)) := by
  unfold Ans
  rw [callL_fn, show tab 101 = some (.code F101) from rfl]
  by_cases h : w.length ≤ s.length
  · have h' : (w.length : Int) ≤ (s.length : Int) := by omega
    simp [F101, callBody, zipE, execL_seq, execL_region, execL_cond, execL_skip, execL_ret, execL_exit, execL_block, execOps, wantedA, S_mv, S_pick, S_bin, S_un, S_call0, S_call1, S_extract, S_nilEq, S_load, S_alloc, S_box, Opd.ev, lookupE, setE, St.put, binA, unA, boolOf, freezeVs, freezeV, freeze1, isP, isPs, resultsA, resultA, finish, old, olds, flat, movedH_same, Nat.min_self, loadA, readCells, cellsV, S_len0, S_sliceS, bnd, h, h', pre]
  · have h' : ¬ (w.length : Int) ≤ (s.length : Int) := by omega
    have e : pre s w = false := by
      unfold pre
      rw [List.take_of_length_le (by omega)]
      rw [Bool.eq_false_iff]
      intro hh
      have := eq_of_beq hh
      rw [this] at h; omega
    simp [F101, callBody, zipE, execL_seq, execL_region, execL_cond, execL_skip, execL_ret, execL_exit, execL_block, execOps, wantedA, S_mv, S_pick, S_bin, S_un, S_call0, S_call1, S_extract, S_nilEq, S_load, S_alloc, S_box, Opd.ev, lookupE, setE, St.put, binA, unA, boolOf, freezeVs, freezeV, freeze1, isP, isPs, resultsA, resultA, finish, old, olds, flat, movedH_same, Nat.min_self, loadA, readCells, cellsV, S_len0, h', e]

theorem hasPrefix_s (s w : List UInt8) (H : Heap) : Ans (.fn 88 [] []) [.str s, .str w] H (.bool (pre s w)) := by
  have h := pre_s s w H
  unfold Ans at *
  rw [callL_fn, show tab 88 = some (.code F88) from rfl]
  simp [F88, callBody, zipE, execL_seq, execL_region, execL_cond, execL_skip, execL_ret, execL_exit, execL_block, execOps, wantedA, S_mv, S_pick, S_bin, S_un, S_call0, S_call1, S_extract, S_nilEq, S_load, S_alloc, S_box, Opd.ev, lookupE, setE, St.put, binA, unA, boolOf, freezeVs, freezeV, freeze1, isP, isPs, resultsA, resultA, finish, old, olds, flat, movedH_same, Nat.min_self, loadA, readCells, cellsV, h]

def two : List (List UInt8) := [[61, 61], [33, 61], [60, 61], [62, 61], [46, 46]]
def one : List UInt8 := [60, 62, 61, 43, 45, 42, 40, 41, 123, 125, 44, 58, 59]
def sym (s : List UInt8) : Nat := if two.any (pre s) then 2 else match s with
  | [] => 0
  | c :: _ => if one.contains c then 1 else 0
end Go.Abs.T09
/- What the loops of the lexer's small functions compute. -/
namespace Go.Abs.T09
open Go Go.Abs

theorem drop_cons {α : Type} {s r : List α} {k : Nat} {c : α} (h : s.drop k = c :: r) : s[k]? = some c ∧ s.drop (k + 1) = r ∧ k < s.length := by
  have hk : k < s.length := by
    rcases Nat.lt_or_ge k s.length with h1 | h1
    · exact h1
    · rw [List.drop_of_length_le h1] at h; cases h
  rw [List.drop_eq_getElem_cons hk] at h
  injection h with h1 h2
  exact ⟨by rw [List.getElem?_eq_getElem hk, h1], h2, hk⟩
theorem drop_nil {α : Type} {s : List α} {k : Nat} (h : s.drop k = []) : s.length ≤ k := by
  have := congrArg List.length h
  simp at this; omega

def runLen (p : UInt8 → Bool) (s : List UInt8) : Nat := (s.takeWhile p).length
theorem runLen_cons (p : UInt8 → Bool) (c : UInt8) (s : List UInt8) : runLen p (c :: s) = if p c then runLen p s + 1 else 0 := by
  unfold runLen
  rw [List.takeWhile_cons]
  cases p c <;> simp
theorem runLen_le (p : UInt8 → Bool) : ∀ s : List UInt8, runLen p s ≤ s.length
  | [] => Nat.le_refl _
  | c :: s => by
    rw [runLen_cons]
    have := runLen_le p s
    split <;> simp; omega

set_option maxHeartbeats 1000000 in
theorem run_loop {s : List UInt8} {p : UInt8 → Bool} {i : Nat} {fs cs : List V} {H : Heap} (hl : s.length < 4611686018427387904) (hf : ∀ c ∈ s, Ans (.fn i fs cs) [bv c] H (.bool (p c))) :
    ∀ (r : List UInt8) (k : Nat) (st : St), s.drop k = r → k ≤ s.length → st.H = H → st.low = H.length → lookupE st.vE 0 = .str s → lookupE st.vE 1 = .fn i fs cs → lookupE st.vE 5 = .int .i64 k →
      ∃ st', execL tab (.loop F71L0) st = some (.exit 0, st') ∧ st'.H = H ∧ st'.low = H.length ∧ lookupE st'.vE 5 = .int .i64 ((k + runLen p r : Nat) : Int)
  | [], k, st, hr, hk, h1, h2, h3, h4, h5 => by
    have hle := drop_nil hr
    have hn : ¬ (k : Int) < (s.length : Int) := by omega
    rw [execL_loop]
    refine ⟨_, by simp [F71L0, callBody, zipE, execL_seq, execL_region, execL_cond, execL_skip, execL_ret, execL_exit, execL_block, execOps, wantedA, S_mv, S_pick, S_bin, S_un, S_call0, S_call1, S_extract, S_nilEq, S_load, S_alloc, S_box, Opd.ev, lookupE, lookE_setE, St.put, binA, unA, boolOf, freezeVs, freezeV, freeze1, isP, isPs, resultsA, resultA, finish, old, olds, flat, movedH_same, Nat.min_self, loadA, readCells, cellsV, S_len0, h1, h2, h3, h4, h5, hn]; rfl, ?_⟩
    simp [lookE_setE, h1, h2, h5, runLen]
  | c :: r, k, st, hr, hk, h1, h2, h3, h4, h5 => by
    obtain ⟨g1, g2, g3⟩ := drop_cons hr
    have hn : (k : Int) < (s.length : Int) := by omega
    have hc := hf c (List.mem_of_getElem? g1)
    unfold Ans bv at hc
    have hg : ∀ h : k < s.length, s[k]'h = c := fun h => by rw [List.getElem?_eq_getElem h] at g1; exact Option.some.inj g1
    have hw : IntKind.i64.wrap ((k : Int) + 1) = ((k + 1 : Nat) : Int) := by rw [wrap_small] <;> omega
    rw [runLen_cons]
    cases hp : p c with
    | false =>
      rw [hp] at hc
      rw [execL_loop]
      refine ⟨_, by simp [F71L0, callBody, zipE, execL_seq, execL_region, execL_cond, execL_skip, execL_ret, execL_exit, execL_block, execOps, wantedA, S_mv, S_pick, S_bin, S_un, S_call0, S_call1, S_extract, S_nilEq, S_load, S_alloc, S_box, Opd.ev, lookupE, lookE_setE, St.put, binA, unA, boolOf, freezeVs, freezeV, freeze1, isP, isPs, resultsA, resultA, finish, old, olds, flat, movedH_same, Nat.min_self, loadA, readCells, cellsV, S_len0, S_indexS, h1, h2, h3, h4, h5, hn, hg, g3, hc]; rfl, ?_⟩
      simp [lookE_setE, h1, h2, h5]
    | true =>
      rw [hp] at hc
      have hstep : ∃ st1, execL tab F71L0 st = some (.normal, st1) ∧ st1.H = H ∧ st1.low = H.length ∧ lookupE st1.vE 0 = .str s ∧ lookupE st1.vE 1 = .fn i fs cs ∧ lookupE st1.vE 5 = .int .i64 ((k + 1 : Nat) : Int) := by
        refine ⟨_, by simp [F71L0, callBody, zipE, execL_seq, execL_region, execL_cond, execL_skip, execL_ret, execL_exit, execL_block, execOps, wantedA, S_mv, S_pick, S_bin, S_un, S_call0, S_call1, S_extract, S_nilEq, S_load, S_alloc, S_box, Opd.ev, lookupE, lookE_setE, St.put, binA, unA, boolOf, freezeVs, freezeV, freeze1, isP, isPs, resultsA, resultA, finish, old, olds, flat, movedH_same, Nat.min_self, loadA, readCells, cellsV, S_len0, S_indexS, h1, h2, h3, h4, h5, hn, hg, g3, hc, hw]; rfl, ?_⟩
        simp [lookE_setE, h1, h2, h3, h4]
      obtain ⟨st1, q1, q2, q3, q4, q5, q6⟩ := hstep
      rw [execL_loop, q1]
      obtain ⟨st', r1, r2, r3, r4⟩ := run_loop hl hf r (k + 1) st1 g2 (by omega) q2 q3 q4 q5 q6
      refine ⟨st', r1, r2, r3, ?_⟩
      rw [r4]
      simp; omega

theorem run_s {s : List UInt8} {p : UInt8 → Bool} {i : Nat} {fs cs : List V} {H : Heap} (hl : s.length < 4611686018427387904) (hf : ∀ c ∈ s, Ans (.fn i fs cs) [bv c] H (.bool (p c))) :
    Ans (.fn 71 [] []) [.str s, .fn i fs cs] H (.int .i64 (runLen p s)) := by
  unfold Ans
  rw [callL_fn, show tab 71 = some (.code F71) from rfl]
  obtain ⟨st', r1, r2, r3, r4⟩ := run_loop hl hf s 0 { tE := [], vE := [(0, .str s), (1, .fn i fs cs), (4, .int .i64 0), (5, .int .i64 0)], H := H, low := H.length } rfl (Nat.zero_le _) rfl rfl rfl rfl rfl
  simp only [Nat.zero_add] at r4
  simp [F71, callBody, zipE, execL_seq, execL_region, execL_cond, execL_skip, execL_ret, execL_exit, execL_block, execOps, wantedA, S_mv, S_pick, S_bin, S_un, S_call0, S_call1, S_extract, S_nilEq, S_load, S_alloc, S_box, Opd.ev, lookupE, setE, St.put, binA, unA, boolOf, freezeVs, freezeV, freeze1, isP, isPs, resultsA, resultA, finish, old, olds, flat, movedH_same, Nat.min_self, loadA, readCells, cellsV, r1, r2, r3, r4, lookE_setE]

/-- White space and comments; the flag: inside of a comment. -/
def skipL : Bool → List UInt8 → Nat
  | _, [] => 0
  | false, c :: r => if isW c then skipL false r + 1 else if c.toNat = 35 then skipL true r + 1 else 0
  | true, c :: r => if c.toNat != 10 then skipL true r + 1 else skipL false r + 1
theorem skipL_le : ∀ (b : Bool) (s : List UInt8), skipL b s ≤ s.length
  | b, [] => by cases b <;> simp [skipL]
  | false, c :: r => by
    have h1 := skipL_le false r
    have h2 := skipL_le true r
    simp only [skipL, List.length_cons]
    split
    · omega
    · split <;> omega
  | true, c :: r => by
    have h1 := skipL_le false r
    have h2 := skipL_le true r
    simp only [skipL, List.length_cons]
    split <;> omega
theorem skipL_true : ∀ s : List UInt8, skipL true s = runLen (fun c => c.toNat != 10) s + skipL false (s.drop (runLen (fun c => c.toNat != 10) s))
  | [] => rfl
  | c :: r => by
    rw [runLen_cons]
    by_cases h : (c.toNat != 10) = true
    · simp only [skipL, h, if_true, List.drop_succ_cons]
      rw [skipL_true r]; omega
    · have hw : isW c = true := by
        simp at h; simp [isW, h]
      simp [skipL, h, hw]

set_option maxHeartbeats 1000000 in
theorem skip_loop {s : List UInt8} {H : Heap} (hl : s.length < 4611686018427387904) :
    ∀ (n : Nat) (k : Nat) (st : St), k + n = s.length → st.H = H → st.low = H.length → lookupE st.vE 0 = .str s → lookupE st.vE 3 = .int .i64 k →
      ∃ x st', execL tab (.loop F69L0) st = some (x, st') ∧ st'.H = H ∧ st'.low = H.length ∧ ((x = .exit 0 ∧ lookupE st'.vE 3 = .int .i64 ((k + skipL false (s.drop k) : Nat) : Int)) ∨ (x = .ret ∧ lookupE st'.vE 2 = .int .i64 ((k + skipL false (s.drop k) : Nat) : Int))) := by
  intro n
  induction n using Nat.strongRecOn with
  | ind n ih =>
    intro k st hk h1 h2 h3 h5
    rw [execL_loop]
    cases hr : s.drop k with
    | nil =>
      have hle := drop_nil hr
      have hn : ¬ (k : Int) < (s.length : Int) := by omega
      refine ⟨.exit 0, _, by simp [F69L0, callBody, zipE, execL_seq, execL_region, execL_cond, execL_skip, execL_ret, execL_exit, execL_block, execOps, wantedA, S_mv, S_pick, S_bin, S_un, S_call0, S_call1, S_extract, S_nilEq, S_load, S_alloc, S_box, Opd.ev, lookupE, lookE_setE, St.put, binA, unA, boolOf, freezeVs, freezeV, freeze1, isP, isPs, resultsA, resultA, finish, old, olds, flat, movedH_same, Nat.min_self, loadA, readCells, cellsV, S_len0, h1, h2, h3, h5, hn]; rfl, ?_⟩
      simp [lookE_setE, h1, h2, h5, skipL]
    | cons c r =>
      obtain ⟨g1, g2, g3⟩ := drop_cons hr
      have hn : (k : Int) < (s.length : Int) := by omega
      have hg : ∀ h : k < s.length, s[k]'h = c := fun h => by rw [List.getElem?_eq_getElem h] at g1; exact Option.some.inj g1
      have hc := white_s c H
      unfold Ans bv at hc
      have hw : IntKind.i64.wrap ((k : Int) + 1) = ((k + 1 : Nat) : Int) := by rw [wrap_small] <;> omega
      cases hW : isW c with
      | true =>
        rw [hW] at hc
        have hstep : ∃ st1, execL tab F69L0 st = some (.normal, st1) ∧ st1.H = H ∧ st1.low = H.length ∧ lookupE st1.vE 0 = .str s ∧ lookupE st1.vE 3 = .int .i64 ((k + 1 : Nat) : Int) := by
          refine ⟨_, by simp [F69L0, callBody, zipE, execL_seq, execL_region, execL_cond, execL_skip, execL_ret, execL_exit, execL_block, execOps, wantedA, S_mv, S_pick, S_bin, S_un, S_call0, S_call1, S_extract, S_nilEq, S_load, S_alloc, S_box, Opd.ev, lookupE, lookE_setE, St.put, binA, unA, boolOf, freezeVs, freezeV, freeze1, isP, isPs, resultsA, resultA, finish, old, olds, flat, movedH_same, Nat.min_self, loadA, readCells, cellsV, S_len0, S_indexS, h1, h2, h3, h5, hn, hg, g3, hc, hw]; rfl, ?_⟩
          simp [lookE_setE, h1, h2, h3]
        obtain ⟨st1, q1, q2, q3, q4, q5⟩ := hstep
        obtain ⟨x, st', r1, r2, r3, r4⟩ := ih (n - 1) (by omega) (k + 1) st1 (by omega) q2 q3 q4 q5
        rw [g2] at r4
        refine ⟨x, st', by rw [q1]; exact r1, r2, r3, ?_⟩
        have e : k + skipL false (c :: r) = k + 1 + skipL false r := by simp only [skipL, hW, if_true]; omega
        rw [e]; exact r4
      | false =>
        rw [hW] at hc
        have e35 : ((c.toNat : Int) == 35) = (c.toNat == 35) := beqI c 35
        by_cases h35 : c.toNat = 35
        · have hrun := run_s (s := s.drop k) (p := fun c => c.toNat != 10) (i := 87) (fs := []) (cs := []) (H := H) (by rw [List.length_drop]; omega) (fun c _ => nl_s c H)
          unfold Ans at hrun
          have hle := runLen_le (fun c => c.toNat != 10) (s.drop k)
          rw [List.length_drop] at hle
          have hp : (c.toNat != 10) = true := by simp [h35]
          have hpos : runLen (fun c => c.toNat != 10) (s.drop k) = runLen (fun c => c.toNat != 10) r + 1 := by rw [hr, runLen_cons, hp, if_pos rfl]
          have hw2 : IntKind.i64.wrap ((k : Int) + (runLen (fun c => c.toNat != 10) (s.drop k) : Int)) = ((k + runLen (fun c => c.toNat != 10) (s.drop k) : Nat) : Int) := by rw [wrap_small] <;> omega
          have hkl : k ≤ s.length := by omega
          have e35t : ((c.toNat : Int) == 35) = true := by rw [e35]; simp [h35]
          generalize hm : runLen (fun c => c.toNat != 10) (s.drop k) = m at *
          have hstep : ∃ st1, execL tab F69L0 st = some (.normal, st1) ∧ st1.H = H ∧ st1.low = H.length ∧ lookupE st1.vE 0 = .str s ∧ lookupE st1.vE 3 = .int .i64 ((k + m : Nat) : Int) := by
            refine ⟨_, by simp [F69L0, callBody, zipE, execL_seq, execL_region, execL_cond, execL_skip, execL_ret, execL_exit, execL_block, execOps, wantedA, S_mv, S_pick, S_bin, S_un, S_call0, S_call1, S_extract, S_nilEq, S_load, S_alloc, S_box, Opd.ev, lookupE, lookE_setE, St.put, binA, unA, boolOf, freezeVs, freezeV, freeze1, isP, isPs, resultsA, resultA, finish, old, olds, flat, movedH_same, Nat.min_self, loadA, readCells, cellsV, S_len0, S_indexS, S_sliceS, bnd, h1, h2, h3, h5, hn, hg, g3, hc, e35t, hkl, hrun, hw2]; rfl, ?_⟩
            simp [lookE_setE, h1, h2, h3]
          obtain ⟨st1, q1, q2, q3, q4, q5⟩ := hstep
          obtain ⟨x, st', r1, r2, r3, r4⟩ := ih (n - m) (by omega) (k + m) st1 (by omega) q2 q3 q4 q5
          refine ⟨x, st', by rw [q1]; exact r1, r2, r3, ?_⟩
          have e : k + skipL false (c :: r) = k + m + skipL false (s.drop (k + m)) := by
            have e1 : skipL false (c :: r) = skipL true (c :: r) := by
              simp only [skipL, hW, h35, hp]
              simp
            rw [e1, skipL_true, ← hr, hm, List.drop_drop]; omega
          rw [e]; exact r4
        · have e35' : (c.toNat == 35) = false := by simp [h35]
          have e35f : ((c.toNat : Int) == 35) = false := by rw [e35, e35']
          refine ⟨.ret, _, by simp [F69L0, callBody, zipE, execL_seq, execL_region, execL_cond, execL_skip, execL_ret, execL_exit, execL_block, execOps, wantedA, S_mv, S_pick, S_bin, S_un, S_call0, S_call1, S_extract, S_nilEq, S_load, S_alloc, S_box, Opd.ev, lookupE, lookE_setE, St.put, binA, unA, boolOf, freezeVs, freezeV, freeze1, isP, isPs, resultsA, resultA, finish, old, olds, flat, movedH_same, Nat.min_self, loadA, readCells, cellsV, S_len0, S_indexS, h1, h2, h3, h5, hn, hg, g3, hc, e35f]; rfl, ?_⟩
          simp [lookE_setE, h1, h2, skipL, hW, h35]

theorem skip_s {s : List UInt8} {H : Heap} (hl : s.length < 4611686018427387904) : Ans (.fn 69 [] []) [.str s] H (.int .i64 (skipL false s)) := by
  unfold Ans
  rw [callL_fn, show tab 69 = some (.code F69) from rfl]
  obtain ⟨x, st', r1, r2, r3, r4⟩ := skip_loop (H := H) hl s.length 0 { tE := [], vE := [(0, .str s), (2, .int .i64 0), (3, .int .i64 0)], H := H, low := H.length } (by omega) rfl rfl rfl rfl
  simp only [Nat.zero_add, List.drop_zero] at r4
  rcases r4 with ⟨rfl, r4⟩ | ⟨rfl, r4⟩ <;> simp [F69, callBody, zipE, execL_seq, execL_region, execL_cond, execL_skip, execL_ret, execL_exit, execL_block, execOps, wantedA, S_mv, S_pick, S_bin, S_un, S_call0, S_call1, S_extract, S_nilEq, S_load, S_alloc, S_box, Opd.ev, lookupE, setE, St.put, binA, unA, boolOf, freezeVs, freezeV, freeze1, isP, isPs, resultsA, resultA, finish, old, olds, flat, movedH_same, Nat.min_self, loadA, readCells, cellsV, r1, r2, r3, r4, lookE_setE]

theorem indexByte_nonneg (l : List UInt8) (c : UInt8) : 0 ≤ Lib.indexByte l c ↔ c ∈ l := by
  induction l with
  | nil => exact ⟨fun h => absurd h (show ¬ (0 : Int) ≤ -1 by decide), fun h => by cases h⟩
  | cons b l ih =>
    have hge := Lib.indexByte_ge l c
    show (0 ≤ if (b == c) = true then 0 else if (Lib.indexByte l c == -1) = true then -1 else Lib.indexByte l c + 1) ↔ _
    by_cases h : b = c
    · subst h; simp
    · have h1 : (b == c) = false := by simp [h]
      rw [h1, List.mem_cons, ← ih]
      simp only [Bool.false_eq_true, if_false]
      by_cases h3 : Lib.indexByte l c = -1
      · simp [h3, Ne.symm h]
      · have h4 : (Lib.indexByte l c == -1) = false := by simp [h3]
        simp only [h4, Bool.false_eq_true, if_false]
        constructor
        · intro _; right; omega
        · rintro (h5 | h5)
          · exact absurd h5.symm h
          · omega
theorem indexByte_mem (l : List UInt8) (c : UInt8) : decide (0 ≤ Lib.indexByte l c) = l.contains c := by
  rw [Bool.eq_iff_iff, decide_eq_true_iff, indexByte_nonneg, List.contains_iff_mem]

theorem ext89 (s : List UInt8) (c : UInt8) (H : Heap) : callL tab (.fn 89 [] []) [.str s, .int .u8 c.toNat] H = some (.int .i64 (Lib.indexByte s c), H, H.length) := by
  rw [callL_fn, show tab 89 = some (.ext xIndexByte) from rfl]
  simp [xIndexByte, isPs, isP]

set_option maxHeartbeats 1000000 in
theorem symbol_s (s : List UInt8) (H : Heap) : Ans (.fn 74 [] []) [.str s] H (.int .i64 (sym s)) := by
  unfold Ans
  have hpf := fun w => hasPrefix_s s w H
  unfold Ans at hpf
  have key := range_loop (tab := tab) (b := 8) (n := 6) (i := 7) (t := 14) (blk := 1) (ex := 0) (body := F74L0)
    (I := fun k st => st.H = H ∧ st.low = H.length ∧ lookupE st.vE 0 = .str s ∧ lookupE st.vE 5 = .list 1 (two.map .str) ∧ lookupE st.vE 7 = .int .i64 k ∧ lookupE st.vE 6 = .int .i64 5 ∧ ∀ w ∈ two.take k, pre s w = false)
    (Q := fun x st => st.H = H ∧ st.low = H.length ∧ ((x = .exit 0 ∧ lookupE st.vE 0 = .str s ∧ two.any (pre s) = false) ∨ (x = .ret ∧ two.any (pre s) = true ∧ lookupE st.vE 2 = .int .i64 2)))
    (N := 5) (by decide) (by decide) (by decide)
    (fun k st h => ⟨h.2.2.2.2.1, h.2.2.2.2.2.1, by rw [h.1, h.2.1]; exact Nat.le_refl _⟩)
    (by
      rintro k st hk ⟨h1, h2, h3, h4, h5, h6, h7⟩
      obtain ⟨w, hn⟩ : ∃ w, two[k]? = some w := ⟨_, List.getElem?_eq_getElem (show k < two.length from hk)⟩
      have hsl : slE 1 (V.list 1 (two.map .str)) = true := rfl
      have hg : (el (V.list 1 (two.map .str)))[k]? = some (.str w) := by simp [el, hn]
      have hc := hpf w
      have hct : cellsV (V.str w) = [V.str w] := rfl
      cases hp : pre s w with
      | false =>
        rw [hp] at hc
        refine ⟨.normal, _, by simp [F74L0, callBody, zipE, execL_seq, execL_region, execL_cond, execL_skip, execL_ret, execL_exit, execL_block, execOps, wantedA, S_mv, S_pick, S_bin, S_un, S_call0, S_call1, S_extract, S_nilEq, S_load, S_alloc, S_box, Opd.ev, lookupE, lookE_setE, St.put, binA, unA, boolOf, freezeVs, freezeV, freeze1, isP, isPs, resultsA, resultA, finish, old, olds, flat, movedH_same, Nat.min_self, loadA, readCells, cellsV, h1, h2, h3, h4, h5, h6, S_index, hsl, hg, hc, -List.getElem?_map]; rfl, ?_⟩
        simp only [true_or, if_true, lookE_setE, h1, h2]
        refine ⟨by simp [h5], by simp, by simp, by simp, by simp [h3], by simp [h4], by simp, by simp [h6], fun m hm => ?_⟩
        rw [List.take_add_one, hn] at hm
        simp at hm
        rcases hm with hm | rfl
        · exact h7 m hm
        · exact hp
      | true =>
        rw [hp] at hc
        refine ⟨.ret, _, by simp [F74L0, callBody, zipE, execL_seq, execL_region, execL_cond, execL_skip, execL_ret, execL_exit, execL_block, execOps, wantedA, S_mv, S_pick, S_bin, S_un, S_call0, S_call1, S_extract, S_nilEq, S_load, S_alloc, S_box, Opd.ev, lookupE, lookE_setE, St.put, binA, unA, boolOf, freezeVs, freezeV, freeze1, isP, isPs, resultsA, resultA, finish, old, olds, flat, movedH_same, Nat.min_self, loadA, readCells, cellsV, h1, h2, h3, h4, h5, h6, S_index, hsl, hg, hc, -List.getElem?_map]; rfl, ?_⟩
        simp only [reduceCtorEq, or_self, if_false, h1, h2]
        exact ⟨trivial, trivial, .inr ⟨trivial, List.any_eq_true.2 ⟨w, List.mem_of_getElem? hn, hp⟩, by simp [lookE_setE]⟩⟩)
    (by
      rintro st ⟨h1, h2, h3, h4, h5, h6, h7⟩
      refine ⟨h1, h2, .inl ⟨rfl, by simp [lookE_setE, h3], ?_⟩⟩
      rw [List.any_eq_false]
      intro w hw
      simp [h7 w hw])
  obtain ⟨x, st', h1, h2, h3, h4⟩ := key 5 0 { tE := [], vE := [(0, .str s), (2, .int .i64 0), (5, .list 1 (two.map .str)), (6, .int .i64 5), (7, .int .i64 0)], H := H, low := H.length } (by omega)
    ⟨rfl, rfl, rfl, rfl, rfl, rfl, fun m hm => by simp at hm⟩
  simp only [two, List.map_cons, List.map_nil] at h1
  rw [callL_fn, show tab 74 = some (.code F74) from rfl]
  rcases h4 with ⟨rfl, h5, h4⟩ | ⟨rfl, h4, h5⟩
  · cases s with
    | nil => simp [F74, callBody, zipE, execL_seq, execL_region, execL_cond, execL_skip, execL_ret, execL_exit, execL_block, execOps, wantedA, S_mv, S_pick, S_bin, S_un, S_call0, S_call1, S_extract, S_nilEq, S_load, S_alloc, S_box, Opd.ev, lookupE, setE, St.put, binA, unA, boolOf, freezeVs, freezeV, freeze1, isP, isPs, resultsA, resultA, finish, old, olds, flat, movedH_same, Nat.min_self, loadA, readCells, cellsV, S_lit, step, fillL, zeroElem, cellsOk, cellOk, S_len 1, slE, el, h1, h2, h3, h4, h5, lookE_setE, sym]
    | cons c r =>
      have hm := indexByte_mem one c
      have hx := ext89 one c H
      have hne : ((c :: r) != []) = true := rfl
      simp only [one] at hx
      generalize hI : Lib.indexByte [60, 62, 61, 43, 45, 42, 40, 41, 123, 125, 44, 58, 59] c = I at hx
      rw [show Lib.indexByte one c = I from hI] at hm
      cases hb : one.contains c with
      | false =>
        rw [hb] at hm
        have hge : ¬ 0 ≤ I := by simpa using hm
        have hsy : sym (c :: r) = 0 := by simp only [sym, h4, hb]; rfl
        simp [F74, callBody, zipE, execL_seq, execL_region, execL_cond, execL_skip, execL_ret, execL_exit, execL_block, execOps, wantedA, S_mv, S_pick, S_bin, S_un, S_call0, S_call1, S_extract, S_nilEq, S_load, S_alloc, S_box, Opd.ev, lookupE, setE, St.put, binA, unA, boolOf, freezeVs, freezeV, freeze1, isP, isPs, resultsA, resultA, finish, old, olds, flat, movedH_same, Nat.min_self, loadA, readCells, cellsV, S_lit, step, fillL, zeroElem, cellsOk, cellOk, S_len 1, slE, el, S_indexS, natOf, h1, h2, h3, h4, h5, lookE_setE, hsy, hx, hge, hne]
      | true =>
        rw [hb] at hm
        have hge : 0 ≤ I := by simpa using hm
        have hsy : sym (c :: r) = 1 := by simp only [sym, h4, hb]; rfl
        simp [F74, callBody, zipE, execL_seq, execL_region, execL_cond, execL_skip, execL_ret, execL_exit, execL_block, execOps, wantedA, S_mv, S_pick, S_bin, S_un, S_call0, S_call1, S_extract, S_nilEq, S_load, S_alloc, S_box, Opd.ev, lookupE, setE, St.put, binA, unA, boolOf, freezeVs, freezeV, freeze1, isP, isPs, resultsA, resultA, finish, old, olds, flat, movedH_same, Nat.min_self, loadA, readCells, cellsV, S_lit, step, fillL, zeroElem, cellsOk, cellOk, S_len 1, slE, el, S_indexS, natOf, h1, h2, h3, h4, h5, lookE_setE, hsy, hx, hge, hne]
  · simp [F74, callBody, zipE, execL_seq, execL_region, execL_cond, execL_skip, execL_ret, execL_exit, execL_block, execOps, wantedA, S_mv, S_pick, S_bin, S_un, S_call0, S_call1, S_extract, S_nilEq, S_load, S_alloc, S_box, Opd.ev, lookupE, setE, St.put, binA, unA, boolOf, freezeVs, freezeV, freeze1, isP, isPs, resultsA, resultA, finish, old, olds, flat, movedH_same, Nat.min_self, loadA, readCells, cellsV, S_lit, step, fillL, zeroElem, cellsOk, cellOk, S_len 1, slE, el, h1, h2, h3, h4, h5, lookE_setE, sym]

def beg (s : List UInt8) : Bool := match s with
  | [] => false
  | c :: _ => isL c || isD c || decide (0 < sym s)

theorem begins_s (c : UInt8) (r : List UInt8) (H : Heap) : Ans (.fn 76 [] []) [.str (c :: r)] H (.bool (beg (c :: r))) := by
  have h1 := letter_s c H
  have h2 := digit_s c H
  have h3 := symbol_s (c :: r) H
  unfold Ans bv at *
  rw [callL_fn, show tab 76 = some (.code F76) from rfl]
  cases a : isL c <;> cases b : isD c <;> simp [F76, callBody, zipE, execL_seq, execL_region, execL_cond, execL_skip, execL_ret, execL_exit, execL_block, execOps, wantedA, S_mv, S_pick, S_bin, S_un, S_call0, S_call1, S_extract, S_nilEq, S_load, S_alloc, S_box, Opd.ev, lookupE, setE, St.put, binA, unA, boolOf, freezeVs, freezeV, freeze1, isP, isPs, resultsA, resultA, finish, old, olds, flat, movedH_same, Nat.min_self, loadA, readCells, cellsV, S_indexS, natOf, h1, h2, h3, a, b, beg]
end Go.Abs.T09
