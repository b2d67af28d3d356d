/- effect.Collect at the lists that the example hands it: reckoned in every order of its map. -/
import Derived.Test.YtklgjajhccjbjaaGreatDoorP05
import Derived.Test.YtklgjajhccjbjaaGreatDoorP08
import Derived.Shelf.Strings.OnBuilder
import Derived.Shelf.Strings.Trim
import Derived.Shelf.Small.Bits
import Derived.Shelf.Small.Strs
import Derived.Shelf.Strconv.Atoi
import Derived.Shelf.Strconv.Itoa3
import Derived.Shelf.Strings.Fields
import Derived.Test.YtklgjajhccjbjaaGreatDoorProg
import Derived.Lib.ItoaNum
import Derived.Below
import Derived.Test.YtklgjajhccjbjaaGreatDoorP00
import Derived.Test.YtklgjajhccjbjaaGreatDoorCards
import Derived.WalkKit
import Derived.ProofKit
import Derived.OpenShut
import Derived.ChangeSlices
import Derived.ChangeStays
import Derived.SizedLaws
import Derived.Deep.DeepHandedRow
import Derived.Deep.DeepLaidRun
import Derived.Lib.LaidTab
set_option linter.unusedVariables false
set_option linter.unusedSimpArgs false
namespace Go.Abs.T12
open Go Go.Abs Go.Proofs
def fstC : Code → Code | .seq a _ => a | c => c
def sndC : Code → Code | .seq _ a => a | c => c
def B59Q2L0 : ACode := .seq (.region [⟨some (14, false), .indexAddr 2 (.var 10) (.var 12), none⟩, ⟨some (15, false), .load (some 2) (.tmp 14), none⟩, ⟨some (5, true), .alloc [.int .i64 0, .int .i64 0], none⟩, ⟨none, .store 2 (.var 5) (.tmp 15), none⟩] none) (.region [⟨some (16, false), .mv (.var 3), none⟩, ⟨some (17, false), .fieldAddr 0 (.var 5), none⟩, ⟨some (18, false), .load none (.tmp 17), none⟩, ⟨some (19, false), .lookup 0 (.int .i64 0) (.tmp 16) (.tmp 18) false, none⟩, ⟨some (20, false), .fieldAddr 1 (.var 5), none⟩, ⟨some (21, false), .load none (.tmp 20), none⟩, ⟨some (22, false), .bin .add (.tmp 19) (.tmp 21), none⟩, ⟨none, .mapUpd 0 (.tmp 16) (.tmp 18) (.tmp 22), none⟩] none)
def B59 : BodyA := ⟨[.region [⟨some (2, true), .mv (.const (.nil0)), none⟩] none, .region [⟨some (9, false), .mkMap, none⟩, ⟨some (3, true), .mv (.tmp 9), none⟩] none, .seq (.region [⟨some (10, true), .mv (.var 0), none⟩, ⟨some (11, true), .len 1 (.var 10), none⟩, ⟨some (12, true), .mv (.const (.int .i64 0)), none⟩] none) (.block 0 (.loop (rangeBody 13 11 12 23 1 0 B59Q2L0))), .region [⟨some (6, true), .mv (.const (.nil0)), none⟩] none], 3, ⟨25, (26, false), [⟨some (27, true), .extract (.tmp 26) 0, none⟩], (.var 27), 3, (28, false), [⟨some (29, false), .extract (.tmp 28) 0, none⟩, ⟨some (30, false), .extract (.tmp 28) 1, none⟩, ⟨some (7, true), .mv (.tmp 29), none⟩, ⟨some (8, true), .mv (.tmp 30), none⟩], .seq (.region [⟨some (31, false), .mv (.var 8), none⟩, ⟨some (32, true), .bin .neq (.tmp 31) (.const (.int .i64 0)), none⟩] none) (.cond (.var 32) (.region [⟨some (33, false), .mv (.var 6), none⟩, ⟨some (34, false), .mv (.var 7), none⟩, ⟨some (35, false), .mv (.var 8), none⟩, ⟨some (36, false), .build [.int .i64 0, .int .i64 0] [(0, 1, (.tmp 34)), (1, 1, (.tmp 35))], none⟩, ⟨some (37, false), .lit 2 [.int .i64 0, .int .i64 0] 1 [(0, (.tmp 36))] true, none⟩, ⟨some (38, false), .append 2 16 (.tmp 33) (.tmp 37), none⟩, ⟨some (6, true), .mv (.tmp 38), none⟩] none) (.skip))⟩, .seq (.region [⟨some (39, false), .mv (.var 6), none⟩, ⟨some (40, false), .call true (.func 125) [(.tmp 39), (.func 126)], none⟩] none) (.seq (.region [⟨some (41, false), .mv (.var 6), none⟩, ⟨some (2, true), .mv (.tmp 41), none⟩] none) (.ret)), [.tmp 2]⟩
noncomputable def c59C : Code := Tryz.f59.body.getD .skip
theorem body59_ok (g : Nat → Option Obj) : BodyC (C g) Tryz.f59 B59 := ⟨[fstC c59C, fstC (sndC c59C), fstC (sndC (sndC c59C)), fstC (sndC (sndC (sndC c59C)))], fstC (sndC (sndC (sndC (sndC c59C)))), sndC (sndC (sndC (sndC (sndC c59C)))), by kernel_rfl, by kernel_rfl, by kernel_rfl, by kernel_rfl, by kernel_rfl, by kernel_rfl⟩

def treeC : FTree := (.node (.node (.node .leaf 125 (.code F125) .leaf) 126 (.code F126) (.node .leaf 127 (.code F127) .leaf)) 211 (.code F211) (.node (.node .leaf 212 (.ext xLen) .leaf) 213 (.code F213) (.node .leaf 271 (.code F271) .leaf)))
def tabC : Nat → Option Fun := treeC.get
theorem collect_rk : B59.Reckoned (callN tabC 30) 30 Tryz.f59.ntmps mCollect := ⟨⟨by kernel_rfl, by kernel_rfl, by kernel_rfl⟩, ⟨⟨by kernel_rfl, by kernel_rfl, by kernel_rfl⟩, ⟨⟨by kernel_rfl, by kernel_rfl, by kernel_rfl⟩, ⟨⟨by kernel_rfl, by kernel_rfl, by kernel_rfl⟩, ⟨⟨by kernel_rfl, by kernel_rfl, by kernel_rfl⟩, ⟨⟨by kernel_rfl, by kernel_rfl, by kernel_rfl⟩, ⟨⟨by kernel_rfl, by kernel_rfl, by kernel_rfl⟩, ⟨⟨by kernel_rfl, by kernel_rfl, by kernel_rfl⟩, ⟨⟨by kernel_rfl, by kernel_rfl, by kernel_rfl⟩, ⟨⟨by kernel_rfl, by kernel_rfl, by kernel_rfl⟩, trivial⟩⟩⟩⟩⟩⟩⟩⟩⟩⟩
end Go.Abs.T12
/- The contracts of the kit's shelf that this claim leans on, laid at this program in plain words: written by the kit's own tools lay-shelf and lay-plain, cut to what is used. -/
namespace Go.Proofs
open Go.Shelf
def Tryz.lays156_ren : Go.Shelf.Ren := ⟨fun | 156 => 67 | 165 => 139 | 166 => 140 | 169 => 141 | 240 => 224 | 241 => 225 | 276 => 290 | 277 => 291 | n => n, fun | 31 => 54 | 9 => 9 | 3 => 3 | 4 => 4 | 0 => 0 | 20 => 20 | 72 => 199 | 76 => 202 | 70 => 196 | 37 => 197 | 75 => 201 | 127 => 262 | 164 => 314 | 5 => 5 | 80 => 146 | n => n, fun | n => n⟩
theorem Tryz.lays156 : Go.Proofs.Lays.n156 Tryz.prog Tryz.lays156_ren := {
  mixed := by kernel_rfl
  f156 := Tryz.func67.trans (congrArg some (by kernel_rfl))
  f165 := Tryz.func139.trans (congrArg some (by kernel_rfl))
  f166 := Tryz.func140.trans (congrArg some (by kernel_rfl))
  f169 := Tryz.func141.trans (congrArg some (by kernel_rfl))
  f240 := Tryz.func224.trans (congrArg some (by kernel_rfl))
  f241 := Tryz.func225.trans (congrArg some (by kernel_rfl))
  f276 := Tryz.func290.trans (congrArg some (by kernel_rfl))
  f277 := Tryz.func291.trans (congrArg some (by kernel_rfl))
  t0 := Tryz.underlying0
  a0 := Tryz.isAgg0
  z0 := Tryz.sizeOf0
  v0 := Tryz.zeroValue0
  t3 := Tryz.underlying3
  a3 := Tryz.isAgg3
  z3 := Tryz.sizeOf3
  v3 := Tryz.zeroValue3
  t4 := Tryz.underlying4
  a4 := Tryz.isAgg4
  z4 := Tryz.sizeOf4
  v4 := Tryz.zeroValue4
  t9 := Tryz.underlying9
  a9 := Tryz.isAgg9
  z9 := Tryz.sizeOf9
  v9 := Tryz.zeroValue9
  t20 := Tryz.underlying20
  a20 := Tryz.isAgg20
  z20 := Tryz.sizeOf20
  v20 := Tryz.zeroValue20
  t31 := Tryz.underlying54
  a31 := Tryz.isAgg54
  z31 := Tryz.sizeOf54
  v31 := Tryz.zeroValue54
  t37 := Tryz.underlying197
  a37 := Tryz.isAgg197
  z37 := Tryz.sizeOf197
  v37 := Tryz.zeroValue197
  t70 := Tryz.underlying196
  a70 := Tryz.isAgg196
  z70 := Tryz.sizeOf196
  v70 := Tryz.zeroValue196
  t72 := Tryz.underlying199
  a72 := Tryz.isAgg199
  z72 := Tryz.sizeOf199
  v72 := Tryz.zeroValue199
  t75 := Tryz.underlying201
  a75 := Tryz.isAgg201
  z75 := Tryz.sizeOf201
  v75 := Tryz.zeroValue201
  t76 := Tryz.underlying202
  a76 := Tryz.isAgg202
  z76 := Tryz.sizeOf202
  v76 := Tryz.zeroValue202
  t127 := Tryz.underlying262
  a127 := Tryz.isAgg262
  z127 := Tryz.sizeOf262
  v127 := Tryz.zeroValue262
  t164 := Tryz.underlying314
  a164 := Tryz.isAgg314
  z164 := Tryz.sizeOf314
  v164 := Tryz.zeroValue314 }
theorem Tryz.Builder_Extra_156 : Builder.Extra Tryz.prog Tryz.lays156_ren := {
  sizeBuilder := by kernel_rfl
  liesBuilder := by kernel_rfl
  t5 := Tryz.underlying5
  a5 := Tryz.isAgg5
  z5 := Tryz.sizeOf5
  v5 := Tryz.zeroValue5
  infoByte := by kernel_rfl
  cellsByte := by kernel_rfl
  sizeByte := by kernel_rfl
  neB5 := by decide }
open Go.RowKit in
/-- No element: the empty string; the world is as it was. (Whatever the slice's address and capacity: a nil slice too.) (LAID: no walk: one application.) -/
theorem Tryz.strings_Join_none (a : Option Addr) (c : Nat) (sep : ByteArray) (w : World) :
    Calls Tryz.prog 67 #[.slice a 0 c, .string sep] w fun e w' => e = .returned (.string ⟨#[]⟩) ∧ w' = w := Any.strings_Join_none Tryz.lays156 Tryz.Builder_Extra_156 a c sep w
open Go.RowKit in
/-- strings.Join: "Join concatenates the elements of its first argument to create a single string. The separator string sep is placed between elements in the resulting string.": HOWEVER MANY ELEMENTS. Below the heap's end the world is as it was. (LAID: no walk: one application.) -/
theorem Tryz.strings_Join (bk o c : Nat) (xs : List ByteArray) (sep : ByteArray) (w : World) (hcells : ∀ (j : Nat) x, xs[j]? = some x → w.cell? ⟨bk, o + j, none⟩ = some (.string x)) (hbk : bk < w.heap.size) (hN : xs.length ≤ 140737488355328) (hcap : xs.length ≤ c) (hlen : (Lib.join (xs.map (·.data.toList)) sep.data.toList).length ≤ 140737488355328) :
    Calls Tryz.prog 67 #[.slice (some ⟨bk, o, none⟩) xs.length c, .string sep] w fun e w' => e = .returned (.string ⟨(Lib.join (xs.map (·.data.toList)) sep.data.toList).toArray⟩) ∧ Below w.heap.size w w' := Any.strings_Join Tryz.lays156 Tryz.Builder_Extra_156 bk o c xs sep w hcells hbk hN hcap hlen
def Tryz.lays161_ren : Go.Shelf.Ren := ⟨fun | 161 => 240 | 231 => 302 | 227 => 303 | 233 => 304 | 235 => 305 | 228 => 344 | 197 => 345 | 151 => 346 | 260 => 384 | 152 => 385 | 137 => 295 | 119 => 401 | 224 => 402 | 225 => 403 | 217 => 340 | 266 => 381 | n => n, fun | 9 => 9 | 4 => 4 | 3 => 3 | 5 => 5 | 117 => 330 | 116 => 329 | 0 => 0 | 124 => 333 | 105 => 375 | 21 => 21 | 119 => 366 | 46 => 92 | 139 => 431 | 138 => 430 | n => n, fun | 3 => 8 | 4 => 9 | n => n⟩
theorem Tryz.lays161 : Go.Proofs.Lays.n161 Tryz.prog Tryz.lays161_ren := {
  mixed := by kernel_rfl
  f119 := Tryz.func401.trans (congrArg some (by kernel_rfl))
  f137 := Tryz.func295.trans (congrArg some (by kernel_rfl))
  f151 := Tryz.func346.trans (congrArg some (by kernel_rfl))
  f152 := Tryz.func385.trans (congrArg some (by kernel_rfl))
  f161 := Tryz.func240.trans (congrArg some (by kernel_rfl))
  f197 := Tryz.func345.trans (congrArg some (by kernel_rfl))
  f217 := Tryz.func340.trans (congrArg some (by kernel_rfl))
  f224 := Tryz.func402.trans (congrArg some (by kernel_rfl))
  f225 := Tryz.func403.trans (congrArg some (by kernel_rfl))
  f227 := Tryz.func303.trans (congrArg some (by kernel_rfl))
  f228 := Tryz.func344.trans (congrArg some (by kernel_rfl))
  f231 := Tryz.func302.trans (congrArg some (by kernel_rfl))
  f233 := Tryz.func304.trans (congrArg some (by kernel_rfl))
  f235 := Tryz.func305.trans (congrArg some (by kernel_rfl))
  f260 := Tryz.func384.trans (congrArg some (by kernel_rfl))
  f266 := Tryz.func381.trans (congrArg some (by kernel_rfl))
  t0 := Tryz.underlying0
  a0 := Tryz.isAgg0
  z0 := Tryz.sizeOf0
  v0 := Tryz.zeroValue0
  t3 := Tryz.underlying3
  a3 := Tryz.isAgg3
  z3 := Tryz.sizeOf3
  v3 := Tryz.zeroValue3
  t4 := Tryz.underlying4
  a4 := Tryz.isAgg4
  z4 := Tryz.sizeOf4
  v4 := Tryz.zeroValue4
  t5 := Tryz.underlying5
  a5 := Tryz.isAgg5
  z5 := Tryz.sizeOf5
  v5 := Tryz.zeroValue5
  t9 := Tryz.underlying9
  a9 := Tryz.isAgg9
  z9 := Tryz.sizeOf9
  v9 := Tryz.zeroValue9
  t21 := Tryz.underlying21
  a21 := Tryz.isAgg21
  z21 := Tryz.sizeOf21
  v21 := Tryz.zeroValue21
  t46 := Tryz.underlying92
  a46 := Tryz.isAgg92
  z46 := Tryz.sizeOf92
  v46 := Tryz.zeroValue92
  t105 := Tryz.underlying375
  a105 := Tryz.isAgg375
  z105 := Tryz.sizeOf375
  v105 := Tryz.zeroValue375
  t116 := Tryz.underlying329
  a116 := Tryz.isAgg329
  z116 := Tryz.sizeOf329
  t117 := Tryz.underlying330
  a117 := Tryz.isAgg330
  z117 := Tryz.sizeOf330
  v117 := Tryz.zeroValue330
  t119 := Tryz.underlying366
  a119 := Tryz.isAgg366
  z119 := Tryz.sizeOf366
  t124 := Tryz.underlying333
  a124 := Tryz.isAgg333
  z124 := Tryz.sizeOf333
  v124 := Tryz.zeroValue333
  t138 := Tryz.underlying430
  a138 := Tryz.isAgg430
  z138 := Tryz.sizeOf430
  v138 := Tryz.zeroValue430
  t139 := Tryz.underlying431
  a139 := Tryz.isAgg431
  z139 := Tryz.sizeOf431
  v139 := Tryz.zeroValue431
  g3 := by kernel_rfl
  g4 := by kernel_rfl }
open Go.RowKit in
/-- strings.TrimLeft: "TrimLeft returns a slice of the string s with all leading Unicode code points contained in cutset removed.": AT A cutset OF ONE ASCII BYTE. The world is as it was. (LAID: no walk: one application.) -/
theorem Tryz.strings_TrimLeft_one (s : ByteArray) (c : UInt8) (hc : c.toNat < 128) (w : World) :
    Calls Tryz.prog 240 #[.string s, .string ⟨#[c]⟩] w fun e w' => e = .returned (.string ⟨(Lib.trimLeftB s.data.toList c).toArray⟩) ∧ w' = w := Any.strings_TrimLeft_one Tryz.lays161 s c hc w
def Tryz.lays125_ren : Go.Shelf.Ren := ⟨fun | 125 => 212 | 128 => 279 | 129 => 280 | n => n, fun | 46 => 92 | 3 => 3 | 51 => 302 | 53 => 304 | 4 => 4 | 5 => 5 | 9 => 9 | n => n, fun | n => n⟩
theorem Tryz.lays125 : Go.Proofs.Lays.n125 Tryz.prog Tryz.lays125_ren := {
  mixed := by kernel_rfl
  f125 := Tryz.func212.trans (congrArg some (by kernel_rfl))
  f128 := Tryz.func279.trans (congrArg some (by kernel_rfl))
  f129 := Tryz.func280.trans (congrArg some (by kernel_rfl))
  t3 := Tryz.underlying3
  a3 := Tryz.isAgg3
  z3 := Tryz.sizeOf3
  v3 := Tryz.zeroValue3
  t4 := Tryz.underlying4
  a4 := Tryz.isAgg4
  z4 := Tryz.sizeOf4
  v4 := Tryz.zeroValue4
  t5 := Tryz.underlying5
  a5 := Tryz.isAgg5
  z5 := Tryz.sizeOf5
  v5 := Tryz.zeroValue5
  t9 := Tryz.underlying9
  a9 := Tryz.isAgg9
  z9 := Tryz.sizeOf9
  v9 := Tryz.zeroValue9
  t46 := Tryz.underlying92
  a46 := Tryz.isAgg92
  z46 := Tryz.sizeOf92
  v46 := Tryz.zeroValue92
  t51 := Tryz.underlying302
  a51 := Tryz.isAgg302
  z51 := Tryz.sizeOf302
  v51 := Tryz.zeroValue302
  t53 := Tryz.underlying304
  a53 := Tryz.isAgg304
  z53 := Tryz.sizeOf304
  v53 := Tryz.zeroValue304 }
/-- bits.Len: "Len returns the minimum number of bits required to represent x; the result is 0 for x == 0.": IT RETURNS 'Lib.bitLen x'; the world is as it was. (A uint has 64 bits in the model.) ITS CALLEE bits.Len64 IS MET BY ITS OWN CONTRACT OFF THE SHELF (lay that first). (LAID: no walk: one application.) -/
theorem Tryz.bits_Len (x : Int) (w : World) (h0 : 0 ≤ x) (h1 : x ≤ 18446744073709551615) :
    Calls Tryz.prog 212 #[.int .u64 x] w fun e w' => e = .returned (.int .i64 (Lib.bitLen x.toNat)) ∧ w' = w := Any.bits_Len Tryz.lays125 x w h0 h1
def Tryz.lays137_ren : Go.Shelf.Ren := ⟨fun | 137 => 295 | 217 => 340 | 266 => 381 | n => n, fun | 9 => 9 | 5 => 5 | 3 => 3 | n => n, fun | n => n⟩
theorem Tryz.lays137 : Go.Proofs.Lays.n137 Tryz.prog Tryz.lays137_ren := {
  mixed := by kernel_rfl
  f137 := Tryz.func295.trans (congrArg some (by kernel_rfl))
  f217 := Tryz.func340.trans (congrArg some (by kernel_rfl))
  f266 := Tryz.func381.trans (congrArg some (by kernel_rfl))
  t3 := Tryz.underlying3
  a3 := Tryz.isAgg3
  z3 := Tryz.sizeOf3
  v3 := Tryz.zeroValue3
  t5 := Tryz.underlying5
  a5 := Tryz.isAgg5
  z5 := Tryz.sizeOf5
  v5 := Tryz.zeroValue5
  t9 := Tryz.underlying9
  a9 := Tryz.isAgg9
  z9 := Tryz.sizeOf9
  v9 := Tryz.zeroValue9 }
open Go.RowKit in
/-- strings.IndexByte: "IndexByte returns the index of the first instance of c in s, or -1 if c is not present in s.": IT RETURNS 'Lib.indexByte s c'; the world is as it was. (LAID: no walk: one application.) -/
theorem Tryz.strings_IndexByte (s : ByteArray) (c : Int) (w : World) :
    Calls Tryz.prog 295 #[.string s, .int .u8 c] w fun e w' => e = .returned (.int .i64 (Lib.indexByte s.data.toList c.toNat.toUInt8)) ∧ w' = w := Any.strings_IndexByte Tryz.lays137 s c w
def Tryz.lays172_ren : Go.Shelf.Ren := ⟨fun | 172 => 145 | 244 => 237 | 245 => 238 | 247 => 296 | 279 => 297 | 280 => 298 | 281 => 299 | 282 => 300 | 287 => 341 | 316 => 342 | 171 => 65 | 205 => 343 | 321 => 382 | 322 => 383 | 243 => 136 | 246 => 221 | 283 => 285 | 284 => 286 | 285 => 287 | 286 => 288 | 129 => 280 | 317 => 332 | 318 => 333 | 319 => 334 | 320 => 335 | 337 => 378 | 338 => 379 | n => n, fun | 9 => 9 | 3 => 3 | 75 => 201 | 76 => 202 | 4 => 4 | 5 => 5 | 167 => 320 | 37 => 197 | 0 => 0 | 85 => 321 | 2 => 2 | 168 => 323 | 53 => 304 | 175 => 369 | 46 => 92 | 210 => 373 | 127 => 262 | 145 => 404 | 143 => 402 | 21 => 21 | 171 => 309 | 173 => 311 | 212 => 363 | 51 => 302 | 20 => 20 | 213 => 364 | 232 => 416 | 233 => 417 | 80 => 146 | n => n, fun | 15 => 3 | 16 => 4 | 17 => 0 | 18 => 6 | 19 => 7 | n => n⟩
theorem Tryz.lays172 : Go.Proofs.Lays.n172 Tryz.prog Tryz.lays172_ren := {
  mixed := by kernel_rfl
  f129 := Tryz.func280.trans (congrArg some (by kernel_rfl))
  f171 := Tryz.func65.trans (congrArg some (by kernel_rfl))
  f172 := Tryz.func145.trans (congrArg some (by kernel_rfl))
  f205 := Tryz.func343.trans (congrArg some (by kernel_rfl))
  f243 := Tryz.func136.trans (congrArg some (by kernel_rfl))
  f244 := Tryz.func237.trans (congrArg some (by kernel_rfl))
  f245 := Tryz.func238.trans (congrArg some (by kernel_rfl))
  f246 := Tryz.func221.trans (congrArg some (by kernel_rfl))
  f247 := Tryz.func296.trans (congrArg some (by kernel_rfl))
  f279 := Tryz.func297.trans (congrArg some (by kernel_rfl))
  f280 := Tryz.func298.trans (congrArg some (by kernel_rfl))
  f281 := Tryz.func299.trans (congrArg some (by kernel_rfl))
  f282 := Tryz.func300.trans (congrArg some (by kernel_rfl))
  f283 := Tryz.func285.trans (congrArg some (by kernel_rfl))
  f284 := Tryz.func286.trans (congrArg some (by kernel_rfl))
  f285 := Tryz.func287.trans (congrArg some (by kernel_rfl))
  f286 := Tryz.func288.trans (congrArg some (by kernel_rfl))
  f287 := Tryz.func341.trans (congrArg some (by kernel_rfl))
  f316 := Tryz.func342.trans (congrArg some (by kernel_rfl))
  f317 := Tryz.func332.trans (congrArg some (by kernel_rfl))
  f318 := Tryz.func333.trans (congrArg some (by kernel_rfl))
  f319 := Tryz.func334.trans (congrArg some (by kernel_rfl))
  f320 := Tryz.func335.trans (congrArg some (by kernel_rfl))
  f321 := Tryz.func382.trans (congrArg some (by kernel_rfl))
  f322 := Tryz.func383.trans (congrArg some (by kernel_rfl))
  f337 := Tryz.func378.trans (congrArg some (by kernel_rfl))
  f338 := Tryz.func379.trans (congrArg some (by kernel_rfl))
  t0 := Tryz.underlying0
  a0 := Tryz.isAgg0
  z0 := Tryz.sizeOf0
  v0 := Tryz.zeroValue0
  t2 := Tryz.underlying2
  a2 := Tryz.isAgg2
  z2 := Tryz.sizeOf2
  v2 := Tryz.zeroValue2
  t3 := Tryz.underlying3
  a3 := Tryz.isAgg3
  z3 := Tryz.sizeOf3
  v3 := Tryz.zeroValue3
  t4 := Tryz.underlying4
  a4 := Tryz.isAgg4
  z4 := Tryz.sizeOf4
  v4 := Tryz.zeroValue4
  t5 := Tryz.underlying5
  a5 := Tryz.isAgg5
  z5 := Tryz.sizeOf5
  v5 := Tryz.zeroValue5
  t9 := Tryz.underlying9
  a9 := Tryz.isAgg9
  z9 := Tryz.sizeOf9
  v9 := Tryz.zeroValue9
  t20 := Tryz.underlying20
  a20 := Tryz.isAgg20
  z20 := Tryz.sizeOf20
  v20 := Tryz.zeroValue20
  t21 := Tryz.underlying21
  a21 := Tryz.isAgg21
  z21 := Tryz.sizeOf21
  v21 := Tryz.zeroValue21
  t37 := Tryz.underlying197
  a37 := Tryz.isAgg197
  z37 := Tryz.sizeOf197
  v37 := Tryz.zeroValue197
  t46 := Tryz.underlying92
  a46 := Tryz.isAgg92
  z46 := Tryz.sizeOf92
  v46 := Tryz.zeroValue92
  t51 := Tryz.underlying302
  a51 := Tryz.isAgg302
  z51 := Tryz.sizeOf302
  v51 := Tryz.zeroValue302
  t53 := Tryz.underlying304
  a53 := Tryz.isAgg304
  z53 := Tryz.sizeOf304
  v53 := Tryz.zeroValue304
  t75 := Tryz.underlying201
  a75 := Tryz.isAgg201
  z75 := Tryz.sizeOf201
  v75 := Tryz.zeroValue201
  t76 := Tryz.underlying202
  a76 := Tryz.isAgg202
  z76 := Tryz.sizeOf202
  v76 := Tryz.zeroValue202
  t85 := Tryz.underlying321
  a85 := Tryz.isAgg321
  z85 := Tryz.sizeOf321
  v85 := Tryz.zeroValue321
  t127 := Tryz.underlying262
  a127 := Tryz.isAgg262
  z127 := Tryz.sizeOf262
  v127 := Tryz.zeroValue262
  t143 := Tryz.underlying402
  a143 := Tryz.isAgg402
  z143 := Tryz.sizeOf402
  v143 := Tryz.zeroValue402
  t145 := Tryz.underlying404
  a145 := Tryz.isAgg404
  z145 := Tryz.sizeOf404
  v145 := Tryz.zeroValue404
  t167 := Tryz.underlying320
  a167 := Tryz.isAgg320
  z167 := Tryz.sizeOf320
  v167 := Tryz.zeroValue320
  t168 := Tryz.underlying323
  a168 := Tryz.isAgg323
  z168 := Tryz.sizeOf323
  v168 := Tryz.zeroValue323
  t171 := Tryz.underlying309
  a171 := Tryz.isAgg309
  z171 := Tryz.sizeOf309
  v171 := Tryz.zeroValue309
  t173 := Tryz.underlying311
  a173 := Tryz.isAgg311
  z173 := Tryz.sizeOf311
  v173 := Tryz.zeroValue311
  t175 := Tryz.underlying369
  a175 := Tryz.isAgg369
  z175 := Tryz.sizeOf369
  v175 := Tryz.zeroValue369
  t210 := Tryz.underlying373
  a210 := Tryz.isAgg373
  z210 := Tryz.sizeOf373
  v210 := Tryz.zeroValue373
  t212 := Tryz.underlying363
  a212 := Tryz.isAgg363
  z212 := Tryz.sizeOf363
  v212 := Tryz.zeroValue363
  t213 := Tryz.underlying364
  a213 := Tryz.isAgg364
  z213 := Tryz.sizeOf364
  t232 := Tryz.underlying416
  a232 := Tryz.isAgg416
  z232 := Tryz.sizeOf416
  v232 := Tryz.zeroValue416
  t233 := Tryz.underlying417
  a233 := Tryz.isAgg417
  z233 := Tryz.sizeOf417
  v233 := Tryz.zeroValue417
  g15 := by kernel_rfl
  g16 := by kernel_rfl
  g17 := by kernel_rfl
  g18 := by kernel_rfl
  g19 := by kernel_rfl }
open Go.RowKit in
/-- strconv.Atoi: "Atoi is equivalent to ParseInt(s, 10, 0), converted to type int.": AT A DECIMAL NUMERAL OF AT MOST 18 BYTES: its value, and a nil error. The world behind the call: the one new row that the library's '[]byte(s)' lays. (LAID: no walk: one application.) -/
theorem Tryz.strconv_Atoi (s : ByteArray) (n : Int) (hl : s.size ≤ 18) (h : Lib.atoi s.data.toList = some n) (w : World) :
    Calls Tryz.prog 145 #[.string s] w fun e w' => e = .returned (.tuple #[.int .i64 n, .nilIface]) ∧ ∃ t, w' = Lib.bytesWorld w 5 t := Any.strconv_Atoi Tryz.lays172 s n hl h w
def Tryz.lays171_ren : Go.Shelf.Ren := ⟨fun | 171 => 65 | 243 => 136 | 246 => 221 | 283 => 285 | 284 => 286 | 285 => 287 | 286 => 288 | 129 => 280 | 317 => 332 | 318 => 333 | 319 => 334 | 320 => 335 | 337 => 378 | 338 => 379 | n => n, fun | 3 => 3 | 9 => 9 | 2 => 2 | 4 => 4 | 171 => 309 | 0 => 0 | 53 => 304 | 37 => 197 | 5 => 5 | 173 => 311 | 212 => 363 | 51 => 302 | 20 => 20 | 213 => 364 | 46 => 92 | 232 => 416 | 233 => 417 | n => n, fun | 17 => 0 | 18 => 6 | 19 => 7 | n => n⟩
theorem Tryz.lays171 : Go.Proofs.Lays.n171 Tryz.prog Tryz.lays171_ren := {
  mixed := by kernel_rfl
  f129 := Tryz.func280.trans (congrArg some (by kernel_rfl))
  f171 := Tryz.func65.trans (congrArg some (by kernel_rfl))
  f243 := Tryz.func136.trans (congrArg some (by kernel_rfl))
  f246 := Tryz.func221.trans (congrArg some (by kernel_rfl))
  f283 := Tryz.func285.trans (congrArg some (by kernel_rfl))
  f284 := Tryz.func286.trans (congrArg some (by kernel_rfl))
  f285 := Tryz.func287.trans (congrArg some (by kernel_rfl))
  f286 := Tryz.func288.trans (congrArg some (by kernel_rfl))
  f317 := Tryz.func332.trans (congrArg some (by kernel_rfl))
  f318 := Tryz.func333.trans (congrArg some (by kernel_rfl))
  f319 := Tryz.func334.trans (congrArg some (by kernel_rfl))
  f320 := Tryz.func335.trans (congrArg some (by kernel_rfl))
  f337 := Tryz.func378.trans (congrArg some (by kernel_rfl))
  f338 := Tryz.func379.trans (congrArg some (by kernel_rfl))
  t0 := Tryz.underlying0
  a0 := Tryz.isAgg0
  z0 := Tryz.sizeOf0
  v0 := Tryz.zeroValue0
  t2 := Tryz.underlying2
  a2 := Tryz.isAgg2
  z2 := Tryz.sizeOf2
  v2 := Tryz.zeroValue2
  t3 := Tryz.underlying3
  a3 := Tryz.isAgg3
  z3 := Tryz.sizeOf3
  v3 := Tryz.zeroValue3
  t4 := Tryz.underlying4
  a4 := Tryz.isAgg4
  z4 := Tryz.sizeOf4
  v4 := Tryz.zeroValue4
  t5 := Tryz.underlying5
  a5 := Tryz.isAgg5
  z5 := Tryz.sizeOf5
  v5 := Tryz.zeroValue5
  t9 := Tryz.underlying9
  a9 := Tryz.isAgg9
  z9 := Tryz.sizeOf9
  v9 := Tryz.zeroValue9
  t20 := Tryz.underlying20
  a20 := Tryz.isAgg20
  z20 := Tryz.sizeOf20
  v20 := Tryz.zeroValue20
  t37 := Tryz.underlying197
  a37 := Tryz.isAgg197
  z37 := Tryz.sizeOf197
  v37 := Tryz.zeroValue197
  t46 := Tryz.underlying92
  a46 := Tryz.isAgg92
  z46 := Tryz.sizeOf92
  v46 := Tryz.zeroValue92
  t51 := Tryz.underlying302
  a51 := Tryz.isAgg302
  z51 := Tryz.sizeOf302
  v51 := Tryz.zeroValue302
  t53 := Tryz.underlying304
  a53 := Tryz.isAgg304
  z53 := Tryz.sizeOf304
  v53 := Tryz.zeroValue304
  t171 := Tryz.underlying309
  a171 := Tryz.isAgg309
  z171 := Tryz.sizeOf309
  v171 := Tryz.zeroValue309
  t173 := Tryz.underlying311
  a173 := Tryz.isAgg311
  z173 := Tryz.sizeOf311
  v173 := Tryz.zeroValue311
  t212 := Tryz.underlying363
  a212 := Tryz.isAgg363
  z212 := Tryz.sizeOf363
  v212 := Tryz.zeroValue363
  t213 := Tryz.underlying364
  a213 := Tryz.isAgg364
  z213 := Tryz.sizeOf364
  t232 := Tryz.underlying416
  a232 := Tryz.isAgg416
  z232 := Tryz.sizeOf416
  v232 := Tryz.zeroValue416
  t233 := Tryz.underlying417
  a233 := Tryz.isAgg417
  z233 := Tryz.sizeOf417
  v233 := Tryz.zeroValue417
  g17 := by kernel_rfl
  g18 := by kernel_rfl
  g19 := by kernel_rfl }
open Go.RowKit Go.Sort Go.Lib in
/-- THE ROAD WITHOUT THE TABLE: 0 <= i < 100: NO PREMISE ON THE WORLD, AND THE WORLD IS AS IT WAS: a row that keeps its argument in that range need list no table ('laid = []'). (LAID: no walk: one application.) -/
theorem Tryz.strconv_Itoa_small (i : Nat) (hi : i < 100) (w : World) :
    Calls Tryz.prog 65 #[.int .i64 i] w fun e w' => e = .returned (.string ⟨(Lib.decDigits i).toArray⟩) ∧ w' = w := Any.strconv_Itoa_small Tryz.lays171 i hi w
def Tryz.lays157_ren : Go.Shelf.Ren := ⟨fun | 157 => 292 | 229 => 337 | 199 => 338 | 261 => 380 | 311 => 399 | 312 => 400 | n => n, fun | 9 => 9 | 31 => 54 | 3 => 3 | 5 => 5 | 4 => 4 | 119 => 366 | 0 => 0 | 40 => 368 | 152 => 396 | 21 => 21 | 154 => 398 | 51 => 302 | 141 => 400 | 196 => 421 | 193 => 418 | 198 => 424 | 49 => 422 | 194 => 419 | 201 => 427 | 226 => 434 | 46 => 92 | 227 => 435 | n => n, fun | 0 => 2 | 6 => 5 | n => n⟩
theorem Tryz.lays157 : Go.Proofs.Lays.n157 Tryz.prog Tryz.lays157_ren := {
  mixed := by kernel_rfl
  f157 := Tryz.func292.trans (congrArg some (by kernel_rfl))
  f199 := Tryz.func338.trans (congrArg some (by kernel_rfl))
  f229 := Tryz.func337.trans (congrArg some (by kernel_rfl))
  f261 := Tryz.func380.trans (congrArg some (by kernel_rfl))
  f311 := Tryz.func399.trans (congrArg some (by kernel_rfl))
  f312 := Tryz.func400.trans (congrArg some (by kernel_rfl))
  t0 := Tryz.underlying0
  a0 := Tryz.isAgg0
  z0 := Tryz.sizeOf0
  v0 := Tryz.zeroValue0
  t3 := Tryz.underlying3
  a3 := Tryz.isAgg3
  z3 := Tryz.sizeOf3
  v3 := Tryz.zeroValue3
  t4 := Tryz.underlying4
  a4 := Tryz.isAgg4
  z4 := Tryz.sizeOf4
  v4 := Tryz.zeroValue4
  t5 := Tryz.underlying5
  a5 := Tryz.isAgg5
  z5 := Tryz.sizeOf5
  v5 := Tryz.zeroValue5
  t9 := Tryz.underlying9
  a9 := Tryz.isAgg9
  z9 := Tryz.sizeOf9
  v9 := Tryz.zeroValue9
  t21 := Tryz.underlying21
  a21 := Tryz.isAgg21
  z21 := Tryz.sizeOf21
  v21 := Tryz.zeroValue21
  t31 := Tryz.underlying54
  a31 := Tryz.isAgg54
  z31 := Tryz.sizeOf54
  v31 := Tryz.zeroValue54
  t40 := Tryz.underlying368
  a40 := Tryz.isAgg368
  z40 := Tryz.sizeOf368
  v40 := Tryz.zeroValue368
  t46 := Tryz.underlying92
  a46 := Tryz.isAgg92
  z46 := Tryz.sizeOf92
  v46 := Tryz.zeroValue92
  t49 := Tryz.underlying422
  a49 := Tryz.isAgg422
  z49 := Tryz.sizeOf422
  v49 := Tryz.zeroValue422
  t51 := Tryz.underlying302
  a51 := Tryz.isAgg302
  z51 := Tryz.sizeOf302
  v51 := Tryz.zeroValue302
  t119 := Tryz.underlying366
  a119 := Tryz.isAgg366
  z119 := Tryz.sizeOf366
  t141 := Tryz.underlying400
  a141 := Tryz.isAgg400
  z141 := Tryz.sizeOf400
  v141 := Tryz.zeroValue400
  t152 := Tryz.underlying396
  a152 := Tryz.isAgg396
  z152 := Tryz.sizeOf396
  v152 := Tryz.zeroValue396
  t154 := Tryz.underlying398
  a154 := Tryz.isAgg398
  z154 := Tryz.sizeOf398
  v154 := Tryz.zeroValue398
  t193 := Tryz.underlying418
  a193 := Tryz.isAgg418
  z193 := Tryz.sizeOf418
  v193 := Tryz.zeroValue418
  t194 := Tryz.underlying419
  a194 := Tryz.isAgg419
  z194 := Tryz.sizeOf419
  v194 := Tryz.zeroValue419
  t196 := Tryz.underlying421
  a196 := Tryz.isAgg421
  z196 := Tryz.sizeOf421
  v196 := Tryz.zeroValue421
  t198 := Tryz.underlying424
  a198 := Tryz.isAgg424
  z198 := Tryz.sizeOf424
  v198 := Tryz.zeroValue424
  t201 := Tryz.underlying427
  a201 := Tryz.isAgg427
  z201 := Tryz.sizeOf427
  v201 := Tryz.zeroValue427
  t226 := Tryz.underlying434
  a226 := Tryz.isAgg434
  z226 := Tryz.sizeOf434
  v226 := Tryz.zeroValue434
  t227 := Tryz.underlying435
  a227 := Tryz.isAgg435
  z227 := Tryz.sizeOf435
  v227 := Tryz.zeroValue435
  g0 := by kernel_rfl
  g6 := by kernel_rfl }
open Go.RowKit Go.Lib in
/-- strings.Fields, the table by 'Lib.TabIs' (as strings.TrimSpace's contract). 'hg': the table's number, by its name: at a dump 'by kernel_rfl'. (LAID: no walk: one application.) -/
theorem Tryz.strings_Fields (s : ByteArray) (w : World) (hs : s.size < 4294967281) (hascii : ∀ (j : Nat) b, s.data.toList[j]? = some b → b.toNat < 128) (htab : Lib.TabIs Tryz.prog w "strings.asciiSpace" .u8 Lib.asciiSpaceTab) :
    Calls Tryz.prog 292 #[.string s] w fun e w' =>
      e = .returned (.slice (some ⟨w.heap.size, 0, none⟩) (Lib.fields s.data.toList).length (Lib.fields s.data.toList).length) ∧ w' = w.alloc (.cells ((Lib.fields s.data.toList).map fun l => Value.string ⟨l.toArray⟩).toArray 9) := Any.strings_Fields Tryz.lays157 (by kernel_rfl) (by kernel_rfl) s w hs hascii htab
end Go.Proofs
/- The functions of the library that the program calls: the executor's words for them are the shelf's contracts. -/
namespace Go.Abs.T12
open Go Go.Abs Go.Proofs

variable {fid : Nat → Nat} {g : Nat → Option Obj}

set_option maxRecDepth 100000 in
theorem ext_of_calls {i : Nat} {fn : Func} (hf : Tryz.prog.funcs[i]? = some fn) (hb : fn.body.isSome = true) (hn : (fn.name == "runtime.NumGoroutine") = false) {R : Value → World → Prop} {xs : List Value} {w : World}
    (h : Calls Tryz.prog i ⟨xs⟩ w fun e w' => ∃ x, e = .returned x ∧ R x w') : NextRuns (C g).P R ((callFunc i ⟨xs⟩).run (C g).P w) := by
  obtain ⟨c, hc⟩ := Option.isSome_iff_exists.1 hb
  rw [callFunc_run (C := C g) hf hc hn]; exact h

theorem pstr {w : World} {I : Nat → Prop} {s : List UInt8} {x : Value} (h : PRel w I (.str s) x) : x = .string ⟨⟨s⟩⟩ := by cases h; rfl

theorem body67 : Tryz.f67.body.isSome = true := by kernel_rfl
theorem name67 : (Tryz.f67.name == "runtime.NumGoroutine") = false := by kernel_rfl
theorem body295 : Tryz.f295.body.isSome = true := by kernel_rfl
theorem name295 : (Tryz.f295.name == "runtime.NumGoroutine") = false := by kernel_rfl
theorem body145 : Tryz.f145.body.isSome = true := by kernel_rfl
theorem name145 : (Tryz.f145.name == "runtime.NumGoroutine") = false := by kernel_rfl
theorem body292 : Tryz.f292.body.isSome = true := by kernel_rfl
theorem name292 : (Tryz.f292.name == "runtime.NumGoroutine") = false := by kernel_rfl

theorem strs_map {ds : List V} {l : List (List UInt8)} (h : strs ds = some l) : ds = l.map .str := by
  induction ds generalizing l with
  | nil => cases h; rfl
  | cons v r ih =>
    cases v <;> first | (cases h; done) | skip
    simp only [strs] at h
    obtain ⟨m, hm, rfl⟩ := Option.map_eq_some_iff.1 h
    rw [ih hm]; rfl

theorem strs_rels {w : World} {I : Nat → Prop} : ∀ {l : List (List UInt8)} {vals : List Value}, PRels w I ((l.map V.str).flatMap cellsV) vals → vals = l.map fun s => Value.string ⟨⟨s⟩⟩
  | [], vals, h => by cases h; rfl
  | s :: r, vals, h => by
    rw [List.map_cons, List.flatMap_cons] at h
    cases h with
    | cons _ x _ xs h1 h2 =>
      obtain rfl := pstr h1
      rw [strs_rels h2]; rfl

set_option maxRecDepth 100000 in
theorem xJoin_ok : ExtOk (C g) id 67 xJoin := by
  intro G H w args v xs hR hxs hs
  unfold xJoin at hs
  split at hs
  · rename_i sep
    cases hs
    cases hxs with
    | cons _ x _ xs h1 hs1 =>
      cases hs1 with
      | cons _ y _ ys h2 hs2 =>
        cases hs2
        cases h1
        obtain rfl := pstr h2
        refine ext_of_calls Tryz.func67 body67 name67 ((Tryz.strings_Join_none none 0 _ w).mono ?_)
        rintro e w' ⟨rfl, rfl⟩
        exact ⟨_, rfl, G, hR, fun m _ => .refl _ _ _ _, .p _ _ (.str [])⟩
  · rename_i es ds sep
    split at hs
    · rename_i l hl
      split at hs
      · rename_i hc
        obtain ⟨rfl, hne, hll, hjl⟩ := hc
        cases hs
        obtain rfl := strs_map hl
        cases hxs with
        | cons _ x _ xs h1 hs1 =>
          cases hs1 with
          | cons _ y _ ys h2 hs2 =>
            cases hs2
            obtain rfl := pstr h2
            generalize hD : l.map V.str = D at h1
            cases h1 with
            | list0 _ a cap => exact absurd (List.map_eq_nil_iff.1 hD) hne
            | list _ _ b o cap vals hI hcl hu hr hcp =>
              subst hD
              obtain rfl := strs_rels hr
              have hmap : ((l.map fun s => (⟨⟨s⟩⟩ : ByteArray)).map (·.data.toList)) = l := by rw [List.map_map]; exact List.map_id l
              have hj := Tryz.strings_Join b o cap (l.map fun s => ⟨⟨s⟩⟩) ⟨⟨sep⟩⟩ w (fun j y hy => by
                  refine hcl j _ ?_
                  simp only [List.getElem?_map] at hy ⊢
                  cases hz : l[j]? with
                  | none => rw [hz] at hy; cases hy
                  | some z => rw [hz] at hy; cases hy; rfl) (hR.imm b hI).1 (by simp; omega) (by simpa using hcp) (by rw [hmap]; simp only [List.toList_toArray]; omega)
              rw [hmap] at hj
              simp only [List.length_map] at hj ⊢
              refine ext_of_calls Tryz.func67 body67 name67 (hj.mono ?_)
              rintro e w' ⟨rfl, hb⟩
              exact ⟨_, rfl, G, hR.restore hb.size hb.block, fun m _ => .restore hb.size hb.block hb.os hb.output m _, .p _ _ (.str (Lib.join l sep))⟩
      · cases hs
    · cases hs
  · cases hs

theorem body65 : Tryz.f65.body.isSome = true := by kernel_rfl
theorem name65 : (Tryz.f65.name == "runtime.NumGoroutine") = false := by kernel_rfl
set_option maxRecDepth 100000 in
theorem xItoa_ok : ExtOk (C g) id 65 xItoa := by
  intro G H w args v xs hR hxs hs
  unfold xItoa at hs
  split at hs
  · rename_i n
    split at hs
    · rename_i hn
      cases hs
      obtain ⟨k, rfl⟩ := Int.eq_ofNat_of_zero_le hn.1
      cases hxs with
      | cons _ x _ xs h1 hs1 =>
        cases hs1
        cases h1
        have hk : k < 10 := by omega
        refine ext_of_calls Tryz.func65 body65 name65 ((Tryz.strconv_Itoa_small k (by omega) w).mono ?_)
        rintro e w' ⟨rfl, rfl⟩
        rw [Lib.decDigits_one hk]
        exact ⟨_, rfl, G, hR, fun m _ => .refl _ _ _ _, .p _ _ (.str _)⟩
    · cases hs
  · cases hs

set_option maxRecDepth 100000 in
theorem xIndexByte_ok : ExtOk (C g) id 295 xIndexByte := by
  intro G H w args v xs hR hxs hs
  unfold xIndexByte at hs
  split at hs
  · rename_i s c
    cases hs
    cases hxs with
    | cons _ x _ xs h1 hs1 =>
      cases hs1 with
      | cons _ y _ ys h2 hs2 =>
        cases hs2
        cases h2
        obtain rfl := pstr h1
        refine ext_of_calls Tryz.func295 body295 name295 ((Tryz.strings_IndexByte _ c w).mono ?_)
        rintro e w' ⟨rfl, rfl⟩
        exact ⟨_, rfl, G, hR, fun m _ => .refl _ _ _ _, .p _ _ (.int .i64 _)⟩
  · cases hs

set_option maxRecDepth 100000 in
theorem xAtoi_ok : ExtOk (C g) id 145 xAtoi := by
  intro G H w args v xs hR hxs hs
  unfold xAtoi at hs
  split at hs
  · rename_i s
    split at hs
    · rename_i hl
      obtain ⟨n, hn, rfl⟩ := Option.map_eq_some_iff.1 hs
      cases hxs with
      | cons _ x _ xs h1 hs1 =>
        cases hs1
        obtain rfl := pstr h1
        refine ext_of_calls Tryz.func145 body145 name145 ((Tryz.strconv_Atoi ⟨⟨s⟩⟩ n hl hn w).mono ?_)
        rintro e w' ⟨rfl, t, rfl⟩
        have hsz : w.heap.size ≤ (Lib.bytesWorld w 5 t).heap.size := by
          unfold Lib.bytesWorld World.freeze
          have h0 : w.drew.heap = w.heap := rfl
          split <;> simp [h0]
        have hk : ∀ b, b < w.heap.size → (Lib.bytesWorld w 5 t).heap[b]? = w.heap[b]? := fun b hb => by
          have h1 : (w.drew.alloc (.cells (Lib.bytesCells w 5 t) 5)).heap[b]? = w.heap[b]? := alloc_old (w := w.drew) hb
          unfold Lib.bytesWorld World.freeze
          split
          · exact h1
          · show (Array.modify _ _ _)[b]? = _
            rw [Array.getElem?_modify, if_neg (fun e => by have e' : w.heap.size = b := e
                                                           omega)]
            exact h1
        have hos : (Lib.bytesWorld w 5 t).os = w.os ∧ (Lib.bytesWorld w 5 t).tape = w.tape ∧ (Lib.bytesWorld w 5 t).output = w.output := by
          unfold Lib.bytesWorld World.freeze
          split <;> exact ⟨rfl, rfl, rfl⟩
        refine ⟨_, rfl, G, hR.restore hsz hk, fun m _ => .restore hsz hk hos.1 hos.2.2 m _, .p _ _ (.tup _ _ (.cons _ _ _ _ (.int .i64 n) (.cons _ _ _ _ .nili .nil)))⟩
    · cases hs
  · cases hs

theorem fields_rels {w : World} {I : Nat → Prop} : ∀ (l : List (List UInt8)), PRels w I ((l.map V.str).flatMap cellsV) (l.map fun x => Value.string ⟨x.toArray⟩)
  | [] => .nil
  | a :: l => .cons _ _ _ _ (.str a) (fields_rels l)

set_option maxRecDepth 100000 in
theorem xFields_ok (htab : ∀ (G : Gh) (H : Heap) (w : World), RelH (C g) id G H w → Lib.TabIs Tryz.prog w "strings.asciiSpace" .u8 Lib.asciiSpaceTab) : ExtOk (C g) id 292 xFields := by
  intro G H w args v xs hR hxs hs
  unfold xFields at hs
  split at hs
  · rename_i s
    split at hs
    · rename_i hc
      simp only [Bool.and_eq_true, decide_eq_true_eq] at hc
      cases hs
      cases hxs with
      | cons _ x _ xs h1 hs1 =>
        cases hs1
        obtain rfl := pstr h1
        refine ext_of_calls Tryz.func292 body292 name292 ((Tryz.strings_Fields ⟨⟨s⟩⟩ w hc.2 (fun j b hb => ?_) (htab G H w hR)).mono ?_)
        · have := List.all_eq_true.1 hc.1 b (List.mem_of_getElem? hb)
          have h' := UInt8.lt_iff_toNat_lt.1 (of_decide_eq_true this)
          simpa using h'
        rintro e w' ⟨rfl, rfl⟩
        refine ⟨_, rfl, ⟨G.β, fun b => G.I b ∨ (b = w.heap.size ∧ True)⟩, hR.allocI _ True, fun m _ => .allocI _ True m _, ?_⟩
        refine .p _ _ ?_
        cases hf : Lib.fields s with
        | nil => simp only [List.isEmpty_nil, if_true, List.length_nil]; exact .emp _
        | cons a r =>
          simp only [List.isEmpty_cons, Bool.false_eq_true, if_false]
          rw [← List.length_map (f := V.str)]
          refine .list 1 _ _ 0 _ _ (.inr ⟨rfl, trivial⟩) ?_ (fun d hd => ?_) (fields_rels (a :: r)) (Nat.le_refl _)
          · intro j x hx
            rw [cell_of_cells (alloc_new w _), Nat.zero_add, ← Array.getElem?_toList]
            exact hx
          · obtain ⟨y, -, rfl⟩ := List.mem_map.1 hd
            rfl
    · cases hs
  · cases hs

theorem body212 : Tryz.f212.body.isSome = true := by kernel_rfl
theorem name212 : (Tryz.f212.name == "runtime.NumGoroutine") = false := by kernel_rfl
set_option maxRecDepth 100000 in
theorem xLen_ok : ExtOk (C g) id 212 xLen := by
  intro G H w args v xs hR hxs hs
  unfold xLen at hs
  split at hs
  · rename_i n
    have key : ∀ k : Nat, (k = 1 ∨ k = 2) → n = (k : Int) → v = .int .i64 (k : Int) → NextRuns (C g).P (Post (C g) id G H w v H H.length) ((callFunc 212 ⟨xs⟩).run (C g).P w) := fun k hk hn hv => by
      subst hn; subst hv
      cases hxs with
      | cons _ x _ xs h1 hs1 =>
        cases hs1
        cases h1
        refine ext_of_calls Tryz.func212 body212 name212 ((Tryz.bits_Len (k : Int) w (by omega) (by omega)).mono ?_)
        rintro e w' ⟨rfl, rfl⟩
        have : (Lib.bitLen (k : Int).toNat : Int) = (k : Int) := by rcases hk with rfl | rfl <;> rfl
        exact ⟨_, rfl, G, hR, fun m _ => .refl _ _ _ _, by rw [this]; exact .p _ _ (.int .i64 _)⟩
    split at hs
    · rename_i h; cases hs; exact key 1 (.inl rfl) h rfl
    · split at hs
      · rename_i h; cases hs; exact key 2 (.inr rfl) h rfl
      · cases hs
  · cases hs

theorem body240 : Tryz.f240.body.isSome = true := by kernel_rfl
theorem name240 : (Tryz.f240.name == "runtime.NumGoroutine") = false := by kernel_rfl
set_option maxRecDepth 100000 in
theorem xTrimLeft_ok : ExtOk (C g) id 240 xTrimLeft := by
  intro G H w args v xs hR hxs hs
  unfold xTrimLeft at hs
  split at hs
  · rename_i s c
    split at hs
    · rename_i hc
      cases hs
      cases hxs with
      | cons _ x _ xs h1 hs1 =>
        cases hs1 with
        | cons _ y _ ys h2 hs2 =>
          cases hs2
          obtain rfl := pstr h1
          obtain rfl := pstr h2
          have hc' : c.toNat < 128 := by simpa using UInt8.lt_iff_toNat_lt.1 hc
          refine ext_of_calls Tryz.func240 body240 name240 ((Tryz.strings_TrimLeft_one ⟨⟨s⟩⟩ c hc' w).mono ?_)
          rintro e w' ⟨rfl, rfl⟩
          exact ⟨_, rfl, G, hR, fun m _ => .refl _ _ _ _, .p _ _ (.str _)⟩
    · cases hs
  · cases hs

set_option maxRecDepth 100000 in
theorem ctx_ok : CtxOk (C g) id := ⟨fun f i h => by cases h; rfl⟩
theorem mixed : (C g).P.follows .mixedOrders = true := by kernel_rfl
set_option maxRecDepth 100000 in
theorem tabC_ok : TabOk (C g) id tabC := TabOk.ofTree (t := treeC) ⟨⟨⟨trivial, ⟨_, Tryz.func125, c125 g⟩, trivial⟩, ⟨_, Tryz.func126, c126 g⟩, ⟨trivial, ⟨_, Tryz.func127, c127 g⟩, trivial⟩⟩, ⟨_, Tryz.func211, c211 g⟩, ⟨⟨trivial, xLen_ok, trivial⟩, ⟨_, Tryz.func213, c213 g⟩, ⟨trivial, ⟨_, Tryz.func271, c271 g⟩, trivial⟩⟩⟩
set_option maxRecDepth 100000 in
theorem xCollect_ok : ExtOk (C g) id 59 xCollect := BodyA.memos_ok mixed ctx_ok (callN_ok mixed ctx_ok tabC_ok 30) Tryz.func59 (body59_ok g) collect_rk
end Go.Abs.T12
/- The table of the executor's functions is the program's. -/
namespace Go.Abs.T12
open Go Go.Abs Go.Proofs
variable {g : Nat → Option Obj}
set_option maxRecDepth 100000 in
theorem tab0_ok (htab : ∀ (G : Gh) (H : Heap) (w : World), RelH (C g) id G H w → Lib.TabIs Tryz.prog w "strings.asciiSpace" .u8 Lib.asciiSpaceTab) : TabOk (C g) id tab0 := TabOk.ofTree (t := tree) ⟨⟨⟨⟨⟨⟨⟨⟨trivial, ⟨_, Tryz.func3, c3 g⟩, trivial⟩, ⟨_, Tryz.func4, c4 g⟩, ⟨trivial, ⟨_, Tryz.func5, c5 g⟩, trivial⟩⟩, ⟨_, Tryz.func6, c6 g⟩, ⟨⟨trivial, ⟨_, Tryz.func7, c7 g⟩, trivial⟩, ⟨_, Tryz.func8, c8 g⟩, trivial⟩⟩, ⟨_, Tryz.func9, c9 g⟩, ⟨⟨⟨trivial, ⟨_, Tryz.func10, c10 g⟩, trivial⟩, ⟨_, Tryz.func11, c11 g⟩, trivial⟩, ⟨_, Tryz.func12, c12 g⟩, ⟨⟨trivial, ⟨_, Tryz.func13, c13 g⟩, trivial⟩, ⟨_, Tryz.func14, c14 g⟩, trivial⟩⟩⟩, ⟨_, Tryz.func15, c15 g⟩, ⟨⟨⟨⟨trivial, ⟨_, Tryz.func16, c16 g⟩, trivial⟩, ⟨_, Tryz.func17, c17 g⟩, trivial⟩, ⟨_, Tryz.func18, c18 g⟩, ⟨⟨trivial, ⟨_, Tryz.func19, c19 g⟩, trivial⟩, ⟨_, Tryz.func20, c20 g⟩, trivial⟩⟩, ⟨_, Tryz.func21, c21 g⟩, ⟨⟨⟨trivial, ⟨_, Tryz.func22, c22 g⟩, trivial⟩, ⟨_, Tryz.func23, c23 g⟩, trivial⟩, ⟨_, Tryz.func24, c24 g⟩, ⟨⟨trivial, ⟨_, Tryz.func25, c25 g⟩, trivial⟩, ⟨_, Tryz.func26, c26 g⟩, trivial⟩⟩⟩⟩, ⟨_, Tryz.func27, c27 g⟩, ⟨⟨⟨⟨⟨trivial, ⟨_, Tryz.func28, c28 g⟩, trivial⟩, ⟨_, Tryz.func29, c29 g⟩, ⟨trivial, ⟨_, Tryz.func30, c30 g⟩, trivial⟩⟩, ⟨_, Tryz.func31, c31 g⟩, ⟨⟨trivial, ⟨_, Tryz.func32, c32 g⟩, trivial⟩, ⟨_, Tryz.func33, c33 g⟩, trivial⟩⟩, ⟨_, Tryz.func34, c34 g⟩, ⟨⟨⟨trivial, ⟨_, Tryz.func35, c35 g⟩, trivial⟩, ⟨_, Tryz.func36, c36 g⟩, trivial⟩, ⟨_, Tryz.func37, c37 g⟩, ⟨⟨trivial, ⟨_, Tryz.func38, c38 g⟩, trivial⟩, ⟨_, Tryz.func39, c39 g⟩, trivial⟩⟩⟩, ⟨_, Tryz.func40, c40 g⟩, ⟨⟨⟨⟨trivial, ⟨_, Tryz.func41, c41 g⟩, trivial⟩, ⟨_, Tryz.func42, c42 g⟩, trivial⟩, ⟨_, Tryz.func43, c43 g⟩, ⟨⟨trivial, ⟨_, Tryz.func44, c44 g⟩, trivial⟩, ⟨_, Tryz.func45, c45 g⟩, trivial⟩⟩, ⟨_, Tryz.func46, c46 g⟩, ⟨⟨⟨trivial, ⟨_, Tryz.func47, c47 g⟩, trivial⟩, ⟨_, Tryz.func48, c48 g⟩, trivial⟩, ⟨_, Tryz.func50, c50 g⟩, ⟨⟨trivial, ⟨_, Tryz.func51, c51 g⟩, trivial⟩, ⟨_, Tryz.func52, c52 g⟩, trivial⟩⟩⟩⟩⟩, ⟨_, Tryz.func53, c53 g⟩, ⟨⟨⟨⟨⟨⟨trivial, ⟨_, Tryz.func54, c54 g⟩, trivial⟩, ⟨_, Tryz.func55, c55 g⟩, ⟨trivial, ⟨_, Tryz.func56, c56 g⟩, trivial⟩⟩, ⟨_, Tryz.func57, c57 g⟩, ⟨⟨trivial, ⟨_, Tryz.func58, c58 g⟩, trivial⟩, xCollect_ok, trivial⟩⟩, ⟨_, Tryz.func60, c60 g⟩, ⟨⟨⟨trivial, ⟨_, Tryz.func63, c63 g⟩, trivial⟩, xItoa_ok, trivial⟩, ⟨_, Tryz.func66, c66 g⟩, ⟨⟨trivial, xJoin_ok, trivial⟩, ⟨_, Tryz.func68, c68 g⟩, trivial⟩⟩⟩, ⟨_, Tryz.func70, c70 g⟩, ⟨⟨⟨⟨trivial, ⟨_, Tryz.func71, c71 g⟩, trivial⟩, ⟨_, Tryz.func72, c72 g⟩, trivial⟩, ⟨_, Tryz.func74, c74 g⟩, ⟨⟨trivial, ⟨_, Tryz.func75, c75 g⟩, trivial⟩, ⟨_, Tryz.func76, c76 g⟩, trivial⟩⟩, ⟨_, Tryz.func77, c77 g⟩, ⟨⟨⟨trivial, ⟨_, Tryz.func78, c78 g⟩, trivial⟩, ⟨_, Tryz.func79, c79 g⟩, trivial⟩, ⟨_, Tryz.func82, c82 g⟩, ⟨⟨trivial, ⟨_, Tryz.func83, c83 g⟩, trivial⟩, ⟨_, Tryz.func87, c87 g⟩, trivial⟩⟩⟩⟩, ⟨_, Tryz.func89, c89 g⟩, ⟨⟨⟨⟨⟨trivial, ⟨_, Tryz.func90, c90 g⟩, trivial⟩, ⟨_, Tryz.func91, c91 g⟩, ⟨trivial, ⟨_, Tryz.func92, c92 g⟩, trivial⟩⟩, ⟨_, Tryz.func93, c93 g⟩, ⟨⟨trivial, ⟨_, Tryz.func94, c94 g⟩, trivial⟩, ⟨_, Tryz.func96, c96 g⟩, trivial⟩⟩, ⟨_, Tryz.func97, c97 g⟩, ⟨⟨⟨trivial, ⟨_, Tryz.func98, c98 g⟩, trivial⟩, ⟨_, Tryz.func99, c99 g⟩, trivial⟩, ⟨_, Tryz.func100, c100 g⟩, ⟨⟨trivial, ⟨_, Tryz.func101, c101 g⟩, trivial⟩, ⟨_, Tryz.func103, c103 g⟩, trivial⟩⟩⟩, ⟨_, Tryz.func104, c104 g⟩, ⟨⟨⟨⟨trivial, ⟨_, Tryz.func110, c110 g⟩, trivial⟩, ⟨_, Tryz.func111, c111 g⟩, trivial⟩, ⟨_, Tryz.func112, c112 g⟩, ⟨⟨trivial, ⟨_, Tryz.func113, c113 g⟩, trivial⟩, ⟨_, Tryz.func114, c114 g⟩, trivial⟩⟩, ⟨_, Tryz.func116, c116 g⟩, ⟨⟨⟨trivial, ⟨_, Tryz.func119, c119 g⟩, trivial⟩, ⟨_, Tryz.func120, c120 g⟩, trivial⟩, ⟨_, Tryz.func121, c121 g⟩, ⟨⟨trivial, ⟨_, Tryz.func122, c122 g⟩, trivial⟩, ⟨_, Tryz.func123, c123 g⟩, trivial⟩⟩⟩⟩⟩⟩, ⟨_, Tryz.func124, c124 g⟩, ⟨⟨⟨⟨⟨⟨⟨trivial, ⟨_, Tryz.func125, c125 g⟩, trivial⟩, ⟨_, Tryz.func126, c126 g⟩, ⟨trivial, ⟨_, Tryz.func127, c127 g⟩, trivial⟩⟩, ⟨_, Tryz.func128, c128 g⟩, ⟨⟨trivial, ⟨_, Tryz.func130, c130 g⟩, trivial⟩, ⟨_, Tryz.func131, c131 g⟩, trivial⟩⟩, ⟨_, Tryz.func137, c137 g⟩, ⟨⟨⟨trivial, ⟨_, Tryz.func138, c138 g⟩, trivial⟩, ⟨_, Tryz.func142, c142 g⟩, trivial⟩, ⟨_, Tryz.func143, c143 g⟩, ⟨⟨trivial, ⟨_, Tryz.func144, c144 g⟩, trivial⟩, xAtoi_ok, trivial⟩⟩⟩, ⟨_, Tryz.func146, c146 g⟩, ⟨⟨⟨⟨trivial, ⟨_, Tryz.func147, c147 g⟩, trivial⟩, ⟨_, Tryz.func148, c148 g⟩, trivial⟩, ⟨_, Tryz.func149, c149 g⟩, ⟨⟨trivial, ⟨_, Tryz.func152, c152 g⟩, trivial⟩, ⟨_, Tryz.func153, c153 g⟩, trivial⟩⟩, ⟨_, Tryz.func154, c154 g⟩, ⟨⟨⟨trivial, ⟨_, Tryz.func155, c155 g⟩, trivial⟩, ⟨_, Tryz.func158, c158 g⟩, trivial⟩, ⟨_, Tryz.func160, c160 g⟩, ⟨⟨trivial, ⟨_, Tryz.func161, c161 g⟩, trivial⟩, ⟨_, Tryz.func162, c162 g⟩, trivial⟩⟩⟩⟩, ⟨_, Tryz.func163, c163 g⟩, ⟨⟨⟨⟨⟨trivial, ⟨_, Tryz.func164, c164 g⟩, trivial⟩, ⟨_, Tryz.func165, c165 g⟩, ⟨trivial, ⟨_, Tryz.func166, c166 g⟩, trivial⟩⟩, ⟨_, Tryz.func167, c167 g⟩, ⟨⟨trivial, ⟨_, Tryz.func168, c168 g⟩, trivial⟩, ⟨_, Tryz.func169, c169 g⟩, trivial⟩⟩, ⟨_, Tryz.func170, c170 g⟩, ⟨⟨⟨trivial, ⟨_, Tryz.func171, c171 g⟩, trivial⟩, ⟨_, Tryz.func172, c172 g⟩, trivial⟩, ⟨_, Tryz.func176, c176 g⟩, ⟨⟨trivial, ⟨_, Tryz.func179, c179 g⟩, trivial⟩, ⟨_, Tryz.func181, c181 g⟩, trivial⟩⟩⟩, ⟨_, Tryz.func182, c182 g⟩, ⟨⟨⟨⟨trivial, ⟨_, Tryz.func183, c183 g⟩, trivial⟩, ⟨_, Tryz.func184, c184 g⟩, trivial⟩, ⟨_, Tryz.func185, c185 g⟩, ⟨⟨trivial, ⟨_, Tryz.func186, c186 g⟩, trivial⟩, ⟨_, Tryz.func187, c187 g⟩, trivial⟩⟩, ⟨_, Tryz.func188, c188 g⟩, ⟨⟨⟨trivial, ⟨_, Tryz.func190, c190 g⟩, trivial⟩, ⟨_, Tryz.func198, c198 g⟩, trivial⟩, ⟨_, Tryz.func199, c199 g⟩, ⟨⟨trivial, ⟨_, Tryz.func200, c200 g⟩, trivial⟩, ⟨_, Tryz.func201, c201 g⟩, trivial⟩⟩⟩⟩⟩, ⟨_, Tryz.func202, c202 g⟩, ⟨⟨⟨⟨⟨⟨trivial, ⟨_, Tryz.func203, c203 g⟩, trivial⟩, ⟨_, Tryz.func204, c204 g⟩, ⟨trivial, ⟨_, Tryz.func210, c210 g⟩, trivial⟩⟩, ⟨_, Tryz.func211, c211 g⟩, ⟨⟨trivial, xLen_ok, trivial⟩, ⟨_, Tryz.func213, c213 g⟩, trivial⟩⟩, ⟨_, Tryz.func214, c214 g⟩, ⟨⟨⟨trivial, ⟨_, Tryz.func215, c215 g⟩, trivial⟩, ⟨_, Tryz.func216, c216 g⟩, trivial⟩, ⟨_, Tryz.func217, c217 g⟩, ⟨⟨trivial, ⟨_, Tryz.func222, c222 g⟩, trivial⟩, ⟨_, Tryz.func223, c223 g⟩, trivial⟩⟩⟩, ⟨_, Tryz.func226, c226 g⟩, ⟨⟨⟨⟨trivial, ⟨_, Tryz.func227, c227 g⟩, trivial⟩, ⟨_, Tryz.func228, c228 g⟩, trivial⟩, ⟨_, Tryz.func229, c229 g⟩, ⟨⟨trivial, ⟨_, Tryz.func230, c230 g⟩, trivial⟩, ⟨_, Tryz.func231, c231 g⟩, trivial⟩⟩, ⟨_, Tryz.func232, c232 g⟩, ⟨⟨⟨trivial, ⟨_, Tryz.func233, c233 g⟩, trivial⟩, ⟨_, Tryz.func234, c234 g⟩, trivial⟩, ⟨_, Tryz.func235, c235 g⟩, ⟨⟨trivial, ⟨_, Tryz.func239, c239 g⟩, trivial⟩, xTrimLeft_ok, trivial⟩⟩⟩⟩, ⟨_, Tryz.func246, c246 g⟩, ⟨⟨⟨⟨⟨trivial, ⟨_, Tryz.func248, c248 g⟩, trivial⟩, ⟨_, Tryz.func249, c249 g⟩, ⟨trivial, ⟨_, Tryz.func251, c251 g⟩, trivial⟩⟩, ⟨_, Tryz.func252, c252 g⟩, ⟨⟨trivial, ⟨_, Tryz.func256, c256 g⟩, trivial⟩, ⟨_, Tryz.func257, c257 g⟩, trivial⟩⟩, ⟨_, Tryz.func258, c258 g⟩, ⟨⟨⟨trivial, ⟨_, Tryz.func259, c259 g⟩, trivial⟩, ⟨_, Tryz.func262, c262 g⟩, trivial⟩, ⟨_, Tryz.func263, c263 g⟩, ⟨⟨trivial, ⟨_, Tryz.func271, c271 g⟩, trivial⟩, ⟨_, Tryz.func281, c281 g⟩, trivial⟩⟩⟩, ⟨_, Tryz.func282, c282 g⟩, ⟨⟨⟨⟨trivial, ⟨_, Tryz.func289, c289 g⟩, trivial⟩, xFields_ok htab, trivial⟩, ⟨_, Tryz.func294, c294 g⟩, ⟨⟨trivial, xIndexByte_ok, trivial⟩, ⟨_, Tryz.func301, c301 g⟩, trivial⟩⟩, ⟨_, Tryz.func310, c310 g⟩, ⟨⟨⟨trivial, ⟨_, Tryz.func311, c311 g⟩, trivial⟩, ⟨_, Tryz.func313, c313 g⟩, trivial⟩, ⟨_, Tryz.func314, c314 g⟩, ⟨⟨trivial, ⟨_, Tryz.func336, c336 g⟩, trivial⟩, ⟨_, Tryz.func339, c339 g⟩, trivial⟩⟩⟩⟩⟩⟩⟩
end Go.Abs.T12
/- From the arguments' reading to the executor, and back. -/
namespace Go.Abs.T12
open Go Go.Abs Go.Proofs
set_option maxRecDepth 100000

/-- At the start: every block stands, and none is an object of the executor's. -/
def G0 (W : World) : Gh := ⟨fun _ => none, fun b => b < W.heap.size⟩

theorem start_rel (W : World) : RelH (C fun b => W.heap[b]?) id (G0 W) [] W where
  obj l h e := by cases e
  inj l l' h h' e := by cases e
  blk l h e := by cases e
  imm b hb := ⟨hb, fun l h e => by cases e⟩
  fzI l h e := by cases e
  glob b o h := ⟨by
    rcases Nat.lt_or_ge b W.heap.size with q | q
    · exact q
    · simp [C, Array.getElem?_eq_none q] at h, h⟩

/-- What was there is as it was. -/
theorem old_kept {W w' : World} {G' : Gh} {H' : Heap} (hR : RelH (C fun b => W.heap[b]?) id G' H' w') {b : Nat} (hb : b < W.heap.size) : w'.heap[b]? = W.heap[b]? := by
  have h : W.heap[b]? = some W.heap[b] := by simp [hb]
  rw [(hR.glob b _ h).2, h]

theorem cell_old {W w' : World} {G' : Gh} {H' : Heap} (hR : RelH (C fun b => W.heap[b]?) id G' H' w') {b off : Nat} (hb : b < W.heap.size) : w'.cell? ⟨b, off, none⟩ = W.cell? ⟨b, off, none⟩ := by
  unfold World.cell?; rw [old_kept hR hb]

theorem kept_of {W w' : World} {G' : Gh} {H' : Heap} (hR : RelH (C fun b => W.heap[b]?) id G' H' w') (ho : w'.os = W.os) (hp : w'.output = W.output) (may : MemPlace → Prop) : W.keptBut w' may := by
  refine ⟨ho, hp, fun i hi => ?_⟩
  rw [old_kept hR hi]
  cases h : W.heap[i]? with
  | none => simp
  | some o => cases o <;> simp

theorem laid_mem {P : Program} {w : World} {n : String} {d : DataW Unit} : ∀ {l : List (String × DataW Unit)} {ps : List MemPlace}, DataW.LaidVars P w l ps → (n, d) ∈ l →
    ∃ g t cs fuel p, P.globalNamed n = some g ∧ (P.globals[g]?).map (·.type) = some t ∧ w.var? P n = some cs ∧ DataW.trod (fun _ => ()) P w 0 (fun _ => true) false fuel t cs.toList = some (d, p)
  | [], _, _, h => by cases h
  | (m, e) :: r, ps, h, hm => by
    obtain ⟨g, t, cs, fuel, p, q, h1, h2, h3, h4, h5, -⟩ := h
    rcases List.mem_cons.1 hm with hm | hm
    · cases hm; exact ⟨g, t, cs, fuel, p, h1, h2, h3, h4⟩
    · exact laid_mem h5 hm

theorem tabIs_of_mem {P : Program} {W : World} {name : String} {k : IntKind} {zs : List Int} {l : List (String × DataW Unit)} {g : Nat} {t e : TypeId} {n : Nat}
    (hg : P.globalNamed name = some g) (hty : (P.globals[g]?).map (·.type) = some t) (ht : P.underlying t = some (.array n e)) (he : P.underlying e = some (.int k)) (hce : P.cellsOf e = 1) (hct : P.cellsOf t = n)
    (h : laidMet P l W) (hm : (name, Lib.tabData k zs) ∈ l) : Lib.TabIs P W name k zs := by
  obtain ⟨ps, hv, -⟩ := h
  obtain ⟨g', t', cs, fuel, p, hg', ht', hvar, hd⟩ := laid_mem hv hm
  obtain rfl := Option.some.inj (hg.symm.trans hg')
  obtain rfl := Option.some.inj (hty.symm.trans ht')
  unfold Lib.TabIs
  rw [hvar, ← Lib.cells_of_tab ht he hce hct hd]

theorem tabIs_old {W w' : World} {G' : Gh} {H' : Heap} (hR : RelH (C fun b => W.heap[b]?) id G' H' w') {name : String} {k : IntKind} {zs : List Int} (h : Lib.TabIs Tryz.prog W name k zs) : Lib.TabIs Tryz.prog w' name k zs := by
  unfold Lib.TabIs World.var? at h ⊢
  cases hg : Tryz.prog.globalNamed name with
  | none => rw [hg] at h; cases h
  | some g =>
    rw [hg] at h
    simp only [Option.bind_some] at h ⊢
    have hb : g < W.heap.size := by
      rcases Nat.lt_or_ge g W.heap.size with q | q
      · exact q
      · rw [Array.getElem?_eq_none q] at h; cases h
    rw [old_kept hR hb]; exact h

/-! ### the arguments -/

section
variable {W : World} {H : Type} {enc : TypeId × Value → H}

theorem not_agg {t e : TypeId} (ht : Tryz.prog.underlying t = some (.slice e)) {b : Nat} {v : Value} (hval : Value.okWide Tryz.prog W .any b t v) : v.cells.toList = [v] := by
  unfold Value.okWide at hval
  rw [ht] at hval
  simp only [Cell.okWide, ht] at hval
  cases v <;> first | rfl | (simp [Cell.ok, ht] at hval)

/-- A slice of ints that came in. -/
theorem open_vi {t e : TypeId} (ht : Tryz.prog.underlying t = some (.slice e)) (he : Tryz.prog.underlying e = some (.int .i64)) (hc : Tryz.prog.cellsOf e = 1) {b : Nat} {v : Value} (hval : Value.okWide Tryz.prog W .any b t v)
    {d : DataW H} {p : List MemPlace} {held : Bool} (hd : DataW.Trod enc Tryz.prog W 0 (fun _ => true) held t v d p) (hlen : ∀ elems spare, d = .slice elems spare → elems.length < 4611686018427387904) :
    ∃ (sv : V) (l : List Int), PRel W (G0 W).I sv v ∧ slE 1 sv = true ∧ el sv = l.map (.int .i64) ∧ l.length < 4611686018427387904 := by
  obtain ⟨fuel, hd⟩ := hd
  rw [not_agg ht hval] at hd
  rcases ChangeShapes.open_ints ht he hc hd with ⟨hcs, -⟩ | ⟨a, len, cap, zs, hcs, -, hl, -, hz, hx, hcell, -⟩
  · simp only [List.cons.injEq, and_true] at hcs
    subst hcs
    exact ⟨.nil0, [], .nil0, rfl, rfl, by decide⟩
  · simp only [List.cons.injEq, and_true] at hcs
    subst hcs
    simp only [if_true] at hz
    have hlz : len ≤ zs.length := by omega
    have hx1 : d = .slice (ChangeShapes.lits .i64 (zs.take len)) (ChangeShapes.lits .i64 (zs.drop len)) := by
      have := congrArg Prod.fst hx; exact this
    have hll := hlen _ _ hx1
    have hll' : len < 4611686018427387904 := by
      simp [ChangeShapes.lits] at hll; omega
    have htl : (zs.take len).length = len := by rw [List.length_take]; omega
    refine ⟨.list 1 ((zs.take len).map (.int .i64)), zs.take len, ?_, rfl, rfl, by omega⟩
    cases hlen0 : len with
    | zero => simp only [List.take_zero, List.map_nil]; exact .list0 1 a cap
    | succ n =>
      rw [← hlen0]
      have h0 := hcell 0 (by omega)
      have hspot : a.spot = none ∧ a.block < W.heap.size := by
        unfold World.cell? at h0
        split at h0
        · rename_i c e f hh
          split at h0
          · cases h0
          · rename_i hs
            refine ⟨by simpa [Addr.add] using hs, ?_⟩
            rcases Nat.lt_or_ge a.block W.heap.size with q | q
            · exact q
            · have : W.heap[(a.add 0).block]? = none := Array.getElem?_eq_none q
              rw [this] at hh; cases hh
        · cases h0
      obtain ⟨ab, ao, asp⟩ := a
      obtain ⟨rfl, hb⟩ := hspot
      have hlm : ((zs.take len).map (V.int .i64)).length = len := by rw [List.length_map, htl]
      have key : PRel W (G0 W).I (.list 1 ((zs.take len).map (.int .i64))) (.slice (some ⟨ab, ao, none⟩) ((zs.take len).map (V.int .i64)).length cap) := by
        refine .list 1 _ ab ao cap ((zs.take len).map (Value.int .i64)) hb ?_ (fun d hd => ?_) ?_ (by rw [hlm]; exact hl)
        · intro j x hj
          rw [List.getElem?_map, List.getElem?_take] at hj
          split at hj
          · rename_i hjl
            cases hzj : zs[j]? with
            | none => rw [hzj] at hj; cases hj
            | some z =>
              rw [hzj] at hj
              cases hj
              have := hcell j (by omega)
              rw [List.getD_eq_getElem?_getD, hzj] at this
              by_cases hj0 : j = 0
              · subst hj0; simpa [Addr.add] using this
              · simpa [Addr.add, hj0] using this
          · cases hj
        · obtain ⟨z, -, rfl⟩ := List.mem_map.1 hd; rfl
        · generalize zs.take len = ys
          induction ys with
          | nil => exact .nil
          | cons y ys ih => exact .cons _ _ _ _ (.int .i64 y) ih
      rw [hlm] at key
      exact key

theorem bytes_pos {l : Nat} {n : Nat} (h : l * 8 ≤ reachBytes) : l < 4611686018427387904 := by
  have := reachBytes_lt
  omega

theorem stays_all {w' : World} {T : TypeId → Prop} (K : Kids Tryz.prog T) (hsz : ∀ {t e : TypeId}, T t → Tryz.prog.underlying t = some (.slice e) → 0 < Tryz.prog.cellsOf e) {sp' : Nat → Bool} :
    ∀ {ts : List TypeId} {vs : List Value} {ds : List (DataW H)} {p : List MemPlace}, (∀ t ∈ ts, T t) → DataW.TrodAll enc Tryz.prog W 0 (fun _ => true) true ts vs ds p → (∀ q ∈ p, W.sameAt w' q) → (∀ q ∈ p, sp' q.block = true) →
      DataW.TrodAll enc Tryz.prog w' 0 sp' true ts vs ds p
  | [], vs, ds, p, _, h, _, _ => by
    obtain ⟨rfl, rfl, rfl⟩ := ChangeShapes.trodAll_nil h
    rfl
  | t :: ts, vs, ds, p, hT, h, hs, hp => by
    obtain ⟨v, vs', d, ds', a, b, rfl, rfl, rfl, ⟨fuel, h1⟩, h2⟩ := ChangeShapes.trodAll_cons h
    refine ⟨a, b, ⟨fuel, DataW.trod_stays K hsz (fun h => by cases h) (hT t (by simp)) h1 (fun q hq => hs q (by simp [hq])) (fun q hq => hp q (by simp [hq]))⟩, stays_all K hsz (fun u hu => hT u (by simp [hu])) h2 (fun q hq => hs q (by simp [hq])) (fun q hq => hp q (by simp [hq])), rfl⟩

end

set_option maxRecDepth 100000 in
theorem laidOut : laidOutB Tryz.prog = true := by kernel_rfl
theorem rowed : mapsRowed Tryz.prog = true := by kernel_rfl
theorem kids : Kids Tryz.prog (· < Tryz.prog.types.size) := kids_rows laidOut rowed
theorem slicesB : ((List.range Tryz.prog.types.size).all fun t => match Tryz.prog.underlying t with | some (.slice e) => decide (0 < Tryz.prog.cellsOf e) | _ => true) = true := by kernel_rfl
theorem slices_pos {t e : TypeId} (h : t < Tryz.prog.types.size) (hu : Tryz.prog.underlying t = some (.slice e)) : 0 < Tryz.prog.cellsOf e := by
  have := List.all_eq_true.1 slicesB t (List.mem_range.2 h)
  rw [hu] at this
  simpa using this

theorem sameAt_old {W w' : World} {G' : Gh} {H' : Heap} (hR : RelH (C fun b => W.heap[b]?) id G' H' w') {q : MemPlace} (hb : q.block < W.heap.size) : W.sameAt w' q := by
  cases q with
  | cell b off => exact cell_old hR hb
  | map b => exact old_kept hR hb

theorem frozen_old {W w' : World} {G' : Gh} {H' : Heap} (hR : RelH (C fun b => W.heap[b]?) id G' H' w') {a : Addr} (hb : a.block < W.heap.size) : w'.frozen? a = W.frozen? a := by
  unfold World.frozen?; rw [old_kept hR hb]
end Go.Abs.T12
