/- Texts of this claim, joined and written short by a program. -/
import Derived.Shelf.Strings.OnBuilder
import Derived.Shelf.Strings.Trim
import Derived.Shelf.Small.Bits
import Derived.Shelf.Small.Strs
import Derived.Shelf.Strconv.Atoi
import Derived.Shelf.Strconv.Itoa3
import Derived.Shelf.Strings.Fields
import Derived.Test.YtaenhebjdjpdgaaGreatDoorProg
set_option linter.unusedVariables false
set_option linter.unusedSimpArgs false
namespace Go.Proofs
open Go.Shelf
def Tryz.SK : Go.Shelf.Ren := ⟨fun | 156 => 48 | 165 => 96 | 166 => 97 | 169 => 98 | 240 => 164 | 241 => 165 | 276 => 254 | 277 => 255 | n => n, fun | 31 => 24 | 9 => 9 | 3 => 3 | 4 => 4 | 0 => 0 | 20 => 20 | 72 => 158 | 76 => 162 | 70 => 155 | 37 => 156 | 75 => 161 | 127 => 247 | 164 => 311 | 5 => 5 | 80 => 164 | n => n, fun | n => n⟩
theorem Tryz.SL : Go.Proofs.Lays.n156 Tryz.prog Tryz.SK := by constructor <;> intros <;> kernel_rfl
theorem Tryz.SM : Builder.Extra Tryz.prog Tryz.SK := {
 sizeBuilder := by kernel_rfl
 liesBuilder := by kernel_rfl
 t5 := Tryz.underlying5
 a5 := Tryz.isAgg5
 z5 := Tryz.sizeOf5
 v5 := Tryz.zeroValue5
 infoByte := by kernel_rfl
 cellsByte := by kernel_rfl
 sizeByte := by kernel_rfl
 neB5 := by decide }
open Go.RowKit in
theorem Tryz.strings_Join_none (a : Option Addr) (c : Nat) (sep : ByteArray) (w : World) :
 Calls Tryz.prog 48 #[.slice a 0 c, .string sep] w fun e w' => e = .returned (.string ⟨#[]⟩) /\ w' = w := Any.strings_Join_none Tryz.SL Tryz.SM a c sep w
open Go.RowKit in
theorem Tryz.strings_Join (Gx o c : Nat) (xs : List ByteArray) (sep : ByteArray) (w : World) (xf : ∀ (j : Nat) x, xs[j]? = some x -> w.cell? ⟨Gx, o + j, none⟩ = some (.string x)) (adt : Gx < w.heap.size) (gT : xs.length <= 140737488355328) (hz : xs.length <= c) (hlen : (Lib.join (xs.map (·.data.toList)) sep.data.toList).length <= 140737488355328) :
 Calls Tryz.prog 48 #[.slice (some ⟨Gx, o, none⟩) xs.length c, .string sep] w fun e w' => e = .returned (.string ⟨(Lib.join (xs.map (·.data.toList)) sep.data.toList).toArray⟩) /\ Below w.heap.size w w' := Any.strings_Join Tryz.SL Tryz.SM Gx o c xs sep w xf adt gT hz hlen
def Tryz.adu : Go.Shelf.Ren := ⟨fun | 161 => 360 | 231 => 419 | 227 => 420 | 233 => 421 | 235 => 422 | 228 => 467 | 197 => 468 | 151 => 469 | 260 => 488 | 152 => 489 | 137 => 247 | 119 => 502 | 224 => 503 | 225 => 504 | 217 => 348 | 266 => 412 | n => n, fun | 9 => 9 | 4 => 4 | 3 => 3 | 5 => 5 | 117 => 447 | 116 => 446 | 0 => 0 | 124 => 450 | 105 => 494 | 21 => 21 | 119 => 380 | 46 => 233 | 139 => 525 | 138 => 524 | n => n, fun | 3 => 8 | 4 => 9 | n => n⟩
theorem Tryz.adv : Go.Proofs.Lays.n161 Tryz.prog Tryz.adu := by constructor <;> intros <;> kernel_rfl
open Go.RowKit in
theorem Tryz.strings_TrimLeft_one (s : ByteArray) (c : UInt8) (hc : c.toNat < 128) (w : World) :
 Calls Tryz.prog 360 #[.string s, .string ⟨#[c]⟩] w fun e w' => e = .returned (.string ⟨(Lib.trimLeftB s.data.toList c).toArray⟩) /\ w' = w := Any.strings_TrimLeft_one Tryz.adv s c hc w
def Tryz.adw : Go.Shelf.Ren := ⟨fun | 125 => 236 | 128 => 341 | 129 => 342 | n => n, fun | 46 => 233 | 3 => 3 | 51 => 295 | 53 => 298 | 4 => 4 | 5 => 5 | 9 => 9 | n => n, fun | n => n⟩
theorem Tryz.adx : Go.Proofs.Lays.n125 Tryz.prog Tryz.adw := by constructor <;> intros <;> kernel_rfl
theorem Tryz.bits_Len (x : Int) (w : World) (h0 : 0 <= x) (h1 : x <= 18446744073709551615) :
 Calls Tryz.prog 236 #[.int .u64 x] w fun e w' => e = .returned (.int .i64 (Lib.bitLen x.toNat)) /\ w' = w := Any.bits_Len Tryz.adx x w h0 h1
def Tryz.ady : Go.Shelf.Ren := ⟨fun | 137 => 247 | 217 => 348 | 266 => 412 | n => n, fun | 9 => 9 | 5 => 5 | 3 => 3 | n => n, fun | n => n⟩
theorem Tryz.adz : Go.Proofs.Lays.n137 Tryz.prog Tryz.ady := by constructor <;> intros <;> kernel_rfl
open Go.RowKit in
theorem Tryz.strings_IndexByte (s : ByteArray) (c : Int) (w : World) :
 Calls Tryz.prog 247 #[.string s, .int .u8 c] w fun e w' => e = .returned (.int .i64 (Lib.indexByte s.data.toList c.toNat.toUInt8)) /\ w' = w := Any.strings_IndexByte Tryz.adz s c w
def Tryz.adA : Go.Shelf.Ren := ⟨fun | 172 => 162 | 244 => 248 | 245 => 249 | 247 => 349 | 279 => 350 | 280 => 351 | 281 => 352 | 282 => 353 | 287 => 413 | 316 => 414 | 171 => 47 | 205 => 415 | 321 => 465 | 322 => 466 | 243 => 95 | 246 => 163 | 283 => 250 | 284 => 251 | 285 => 252 | 286 => 253 | 129 => 342 | 317 => 354 | 318 => 355 | 319 => 356 | 320 => 357 | 337 => 416 | 338 => 417 | n => n, fun | 9 => 9 | 3 => 3 | 75 => 161 | 76 => 162 | 4 => 4 | 5 => 5 | 167 => 383 | 37 => 156 | 0 => 0 | 85 => 384 | 2 => 2 | 168 => 386 | 53 => 298 | 175 => 437 | 46 => 233 | 210 => 441 | 127 => 247 | 145 => 491 | 143 => 489 | 21 => 21 | 171 => 306 | 173 => 309 | 212 => 390 | 51 => 295 | 20 => 20 | 213 => 391 | 232 => 492 | 233 => 493 | 80 => 164 | n => n, fun | 15 => 4 | 16 => 5 | 17 => 1 | 18 => 6 | 19 => 7 | n => n⟩
theorem Tryz.adB : Go.Proofs.Lays.n172 Tryz.prog Tryz.adA := by constructor <;> intros <;> kernel_rfl
open Go.RowKit in
theorem Tryz.strconv_Atoi (s : ByteArray) (n : Int) (hl : s.size <= 18) (h : Lib.atoi s.data.toList = some n) (w : World) :
 Calls Tryz.prog 162 #[.string s] w fun e w' => e = .returned (.tuple #[.int .i64 n, .nilIface]) /\ ∃ t, w' = Lib.bytesWorld w 5 t := Any.strconv_Atoi Tryz.adB s n hl h w
def Tryz.adC : Go.Shelf.Ren := ⟨fun | 171 => 47 | 243 => 95 | 246 => 163 | 283 => 250 | 284 => 251 | 285 => 252 | 286 => 253 | 129 => 342 | 317 => 354 | 318 => 355 | 319 => 356 | 320 => 357 | 337 => 416 | 338 => 417 | n => n, fun | 3 => 3 | 9 => 9 | 2 => 2 | 4 => 4 | 171 => 306 | 0 => 0 | 53 => 298 | 37 => 156 | 5 => 5 | 173 => 309 | 212 => 390 | 51 => 295 | 20 => 20 | 213 => 391 | 46 => 233 | 232 => 492 | 233 => 493 | n => n, fun | 17 => 1 | 18 => 6 | 19 => 7 | n => n⟩
theorem Tryz.adD : Go.Proofs.Lays.n171 Tryz.prog Tryz.adC := by constructor <;> intros <;> kernel_rfl
open Go.RowKit Go.Sort Go.Lib in
theorem Tryz.strconv_Itoa_small (i : Nat) (hi : i < 100) (w : World) :
 Calls Tryz.prog 47 #[.int .i64 i] w fun e w' => e = .returned (.string ⟨(Lib.decDigits i).toArray⟩) /\ w' = w := Any.strconv_Itoa_small Tryz.adD i hi w
def Tryz.adE : Go.Shelf.Ren := ⟨fun | 157 => 244 | 229 => 345 | 199 => 346 | 261 => 411 | 311 => 463 | 312 => 464 | n => n, fun | 9 => 9 | 31 => 24 | 3 => 3 | 5 => 5 | 4 => 4 | 119 => 380 | 0 => 0 | 40 => 382 | 152 => 432 | 21 => 21 | 154 => 434 | 51 => 295 | 141 => 436 | 196 => 480 | 193 => 477 | 198 => 483 | 49 => 481 | 194 => 478 | 201 => 486 | 226 => 511 | 46 => 233 | 227 => 512 | n => n, fun | 0 => 0 | 6 => 3 | n => n⟩
theorem Tryz.adF : Go.Proofs.Lays.n157 Tryz.prog Tryz.adE := by constructor <;> intros <;> kernel_rfl
open Go.RowKit Go.Lib in
theorem Tryz.strings_Fields (s : ByteArray) (w : World) (hs : s.size < 4294967281) (adG : ∀ (j : Nat) b, s.data.toList[j]? = some b -> b.toNat < 128) (uf : Lib.TabIs Tryz.prog w "strings.asciiSpace" .u8 Lib.asciiSpaceTab) :
 Calls Tryz.prog 244 #[.string s] w fun e w' =>
  e = .returned (.slice (some ⟨w.heap.size, 0, none⟩) (Lib.fields s.data.toList).length (Lib.fields s.data.toList).length) /\ w' = w.alloc (.cells ((Lib.fields s.data.toList).map fun l => Value.string ⟨l.toArray⟩).toArray 9) := Any.strings_Fields Tryz.adF (by kernel_rfl) (by kernel_rfl) s w hs adG uf
end Go.Proofs
