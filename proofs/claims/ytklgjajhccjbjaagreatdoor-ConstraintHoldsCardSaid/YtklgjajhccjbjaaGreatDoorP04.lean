/- The table of the functions that the executor runs. -/
import Derived.Test.YtklgjajhccjbjaaGreatDoorP02
import Derived.Test.YtklgjajhccjbjaaGreatDoorP03
import Derived.KernelRfl
import Derived.Lib.Fields
import Derived.Lib.Atoi
import Derived.Lib.Bytealg
import Derived.Lib.Join
set_option linter.unusedVariables false
set_option linter.unusedSimpArgs false
namespace Go.Abs.T12
open Go Go.Abs

def xFields : List V → Option V
  | [.str s] => if s.all (fun b => b < 128) && decide (s.length < 4294967281) then some (if (Lib.fields s).isEmpty then .emp else .list 1 ((Lib.fields s).map .str)) else none
  | _ => none
def xAtoi : List V → Option V
  | [.str s] => if s.length ≤ 18 then (Lib.atoi s).map fun n => .tup [.int .i64 n, .nili] else none
  | _ => none
def xIndexByte : List V → Option V
  | [.str s, .int .u8 c] => some (.int .i64 (Lib.indexByte s (UInt8.ofNat c.toNat)))
  | _ => none
def strs : List V → Option (List (List UInt8))
  | [] => some []
  | .str s :: r => (strs r).map (s :: ·)
  | _ => none
def xJoin : List V → Option V
  | [.nil0, .str _] => some (.str [])
  | [.list es ds, .str sep] => match strs ds with
    | some l => if es = 1 ∧ l ≠ [] ∧ l.length ≤ 4096 ∧ (Lib.join l sep).length ≤ 1000000 then some (.str (Lib.join l sep)) else none
    | none => none
  | _ => none
def xItoa : List V → Option V
  | [.int .i64 n] => if 0 ≤ n ∧ n < 10 then some (.str [UInt8.ofNat (48 + n.toNat)]) else none
  | _ => none
/-- effect.Collect at the lists that the example hands it. -/
def mCollect : List (List V × V) := [([.list 2 [.agg [.int .i64 0, .int .i64 (-1)]]], .list 2 [.agg [.int .i64 0, .int .i64 (-1)]]), ([.list 2 [.agg [.int .i64 0, .int .i64 1]]], .list 2 [.agg [.int .i64 0, .int .i64 1]]), ([.list 2 [.agg [.int .i64 1, .int .i64 (-1)]]], .list 2 [.agg [.int .i64 1, .int .i64 (-1)]]), ([.list 2 [.agg [.int .i64 1, .int .i64 1]]], .list 2 [.agg [.int .i64 1, .int .i64 1]]), ([.list 2 [.agg [.int .i64 2, .int .i64 (-1)]]], .list 2 [.agg [.int .i64 2, .int .i64 (-1)]]), ([.list 2 [.agg [.int .i64 2, .int .i64 1]]], .list 2 [.agg [.int .i64 2, .int .i64 1]]), ([.list 2 [.agg [.int .i64 3, .int .i64 (-1)]]], .list 2 [.agg [.int .i64 3, .int .i64 (-1)]]), ([.list 2 [.agg [.int .i64 3, .int .i64 1]]], .list 2 [.agg [.int .i64 3, .int .i64 1]]), ([.list 2 [.agg [.int .i64 0, .int .i64 1], .agg [.int .i64 2, .int .i64 1]]], .list 2 [.agg [.int .i64 0, .int .i64 1], .agg [.int .i64 2, .int .i64 1]]), ([.list 2 [.agg [.int .i64 1, .int .i64 1], .agg [.int .i64 3, .int .i64 1]]], .list 2 [.agg [.int .i64 1, .int .i64 1], .agg [.int .i64 3, .int .i64 1]])]
def xCollect : List V → Option V := memos mCollect
def xLen : List V → Option V
  | [.int .u64 n] => if n = 1 then some (.int .i64 1) else if n = 2 then some (.int .i64 2) else none
  | _ => none
def xTrimLeft : List V → Option V
  | [.str s, .str [c]] => if c < 128 then some (.str (s.dropWhile (· == c))) else none
  | _ => none

def tree : FTree := (.node (.node (.node (.node (.node (.node (.node (.node .leaf 3 (.code F3) .leaf) 4 (.code F4) (.node .leaf 5 (.code F5) .leaf)) 6 (.code F6) (.node (.node .leaf 7 (.code F7) .leaf) 8 (.code F8) .leaf)) 9 (.code F9) (.node (.node (.node .leaf 10 (.code F10) .leaf) 11 (.code F11) .leaf) 12 (.code F12) (.node (.node .leaf 13 (.code F13) .leaf) 14 (.code F14) .leaf))) 15 (.code F15) (.node (.node (.node (.node .leaf 16 (.code F16) .leaf) 17 (.code F17) .leaf) 18 (.code F18) (.node (.node .leaf 19 (.code F19) .leaf) 20 (.code F20) .leaf)) 21 (.code F21) (.node (.node (.node .leaf 22 (.code F22) .leaf) 23 (.code F23) .leaf) 24 (.code F24) (.node (.node .leaf 25 (.code F25) .leaf) 26 (.code F26) .leaf)))) 27 (.code F27) (.node (.node (.node (.node (.node .leaf 28 (.code F28) .leaf) 29 (.code F29) (.node .leaf 30 (.code F30) .leaf)) 31 (.code F31) (.node (.node .leaf 32 (.code F32) .leaf) 33 (.code F33) .leaf)) 34 (.code F34) (.node (.node (.node .leaf 35 (.code F35) .leaf) 36 (.code F36) .leaf) 37 (.code F37) (.node (.node .leaf 38 (.code F38) .leaf) 39 (.code F39) .leaf))) 40 (.code F40) (.node (.node (.node (.node .leaf 41 (.code F41) .leaf) 42 (.code F42) .leaf) 43 (.code F43) (.node (.node .leaf 44 (.code F44) .leaf) 45 (.code F45) .leaf)) 46 (.code F46) (.node (.node (.node .leaf 47 (.code F47) .leaf) 48 (.code F48) .leaf) 50 (.code F50) (.node (.node .leaf 51 (.code F51) .leaf) 52 (.code F52) .leaf))))) 53 (.code F53) (.node (.node (.node (.node (.node (.node .leaf 54 (.code F54) .leaf) 55 (.code F55) (.node .leaf 56 (.code F56) .leaf)) 57 (.code F57) (.node (.node .leaf 58 (.code F58) .leaf) 59 (.ext xCollect) .leaf)) 60 (.code F60) (.node (.node (.node .leaf 63 (.code F63) .leaf) 65 (.ext xItoa) .leaf) 66 (.code F66) (.node (.node .leaf 67 (.ext xJoin) .leaf) 68 (.code F68) .leaf))) 70 (.code F70) (.node (.node (.node (.node .leaf 71 (.code F71) .leaf) 72 (.code F72) .leaf) 74 (.code F74) (.node (.node .leaf 75 (.code F75) .leaf) 76 (.code F76) .leaf)) 77 (.code F77) (.node (.node (.node .leaf 78 (.code F78) .leaf) 79 (.code F79) .leaf) 82 (.code F82) (.node (.node .leaf 83 (.code F83) .leaf) 87 (.code F87) .leaf)))) 89 (.code F89) (.node (.node (.node (.node (.node .leaf 90 (.code F90) .leaf) 91 (.code F91) (.node .leaf 92 (.code F92) .leaf)) 93 (.code F93) (.node (.node .leaf 94 (.code F94) .leaf) 96 (.code F96) .leaf)) 97 (.code F97) (.node (.node (.node .leaf 98 (.code F98) .leaf) 99 (.code F99) .leaf) 100 (.code F100) (.node (.node .leaf 101 (.code F101) .leaf) 103 (.code F103) .leaf))) 104 (.code F104) (.node (.node (.node (.node .leaf 110 (.code F110) .leaf) 111 (.code F111) .leaf) 112 (.code F112) (.node (.node .leaf 113 (.code F113) .leaf) 114 (.code F114) .leaf)) 116 (.code F116) (.node (.node (.node .leaf 119 (.code F119) .leaf) 120 (.code F120) .leaf) 121 (.code F121) (.node (.node .leaf 122 (.code F122) .leaf) 123 (.code F123) .leaf)))))) 124 (.code F124) (.node (.node (.node (.node (.node (.node (.node .leaf 125 (.code F125) .leaf) 126 (.code F126) (.node .leaf 127 (.code F127) .leaf)) 128 (.code F128) (.node (.node .leaf 130 (.code F130) .leaf) 131 (.code F131) .leaf)) 137 (.code F137) (.node (.node (.node .leaf 138 (.code F138) .leaf) 142 (.code F142) .leaf) 143 (.code F143) (.node (.node .leaf 144 (.code F144) .leaf) 145 (.ext xAtoi) .leaf))) 146 (.code F146) (.node (.node (.node (.node .leaf 147 (.code F147) .leaf) 148 (.code F148) .leaf) 149 (.code F149) (.node (.node .leaf 152 (.code F152) .leaf) 153 (.code F153) .leaf)) 154 (.code F154) (.node (.node (.node .leaf 155 (.code F155) .leaf) 158 (.code F158) .leaf) 160 (.code F160) (.node (.node .leaf 161 (.code F161) .leaf) 162 (.code F162) .leaf)))) 163 (.code F163) (.node (.node (.node (.node (.node .leaf 164 (.code F164) .leaf) 165 (.code F165) (.node .leaf 166 (.code F166) .leaf)) 167 (.code F167) (.node (.node .leaf 168 (.code F168) .leaf) 169 (.code F169) .leaf)) 170 (.code F170) (.node (.node (.node .leaf 171 (.code F171) .leaf) 172 (.code F172) .leaf) 176 (.code F176) (.node (.node .leaf 179 (.code F179) .leaf) 181 (.code F181) .leaf))) 182 (.code F182) (.node (.node (.node (.node .leaf 183 (.code F183) .leaf) 184 (.code F184) .leaf) 185 (.code F185) (.node (.node .leaf 186 (.code F186) .leaf) 187 (.code F187) .leaf)) 188 (.code F188) (.node (.node (.node .leaf 190 (.code F190) .leaf) 198 (.code F198) .leaf) 199 (.code F199) (.node (.node .leaf 200 (.code F200) .leaf) 201 (.code F201) .leaf))))) 202 (.code F202) (.node (.node (.node (.node (.node (.node .leaf 203 (.code F203) .leaf) 204 (.code F204) (.node .leaf 210 (.code F210) .leaf)) 211 (.code F211) (.node (.node .leaf 212 (.ext xLen) .leaf) 213 (.code F213) .leaf)) 214 (.code F214) (.node (.node (.node .leaf 215 (.code F215) .leaf) 216 (.code F216) .leaf) 217 (.code F217) (.node (.node .leaf 222 (.code F222) .leaf) 223 (.code F223) .leaf))) 226 (.code F226) (.node (.node (.node (.node .leaf 227 (.code F227) .leaf) 228 (.code F228) .leaf) 229 (.code F229) (.node (.node .leaf 230 (.code F230) .leaf) 231 (.code F231) .leaf)) 232 (.code F232) (.node (.node (.node .leaf 233 (.code F233) .leaf) 234 (.code F234) .leaf) 235 (.code F235) (.node (.node .leaf 239 (.code F239) .leaf) 240 (.ext xTrimLeft) .leaf)))) 246 (.code F246) (.node (.node (.node (.node (.node .leaf 248 (.code F248) .leaf) 249 (.code F249) (.node .leaf 251 (.code F251) .leaf)) 252 (.code F252) (.node (.node .leaf 256 (.code F256) .leaf) 257 (.code F257) .leaf)) 258 (.code F258) (.node (.node (.node .leaf 259 (.code F259) .leaf) 262 (.code F262) .leaf) 263 (.code F263) (.node (.node .leaf 271 (.code F271) .leaf) 281 (.code F281) .leaf))) 282 (.code F282) (.node (.node (.node (.node .leaf 289 (.code F289) .leaf) 292 (.ext xFields) .leaf) 294 (.code F294) (.node (.node .leaf 295 (.ext xIndexByte) .leaf) 301 (.code F301) .leaf)) 310 (.code F310) (.node (.node (.node .leaf 311 (.code F311) .leaf) 313 (.code F313) .leaf) 314 (.code F314) (.node (.node .leaf 336 (.code F336) .leaf) 339 (.code F339) .leaf)))))))
def tab0 : Nat → Option Fun := tree.get
end Go.Abs.T12
