import Derived.Test.YteiajndkjnlmiaaGreatDoorXT09F
import Derived.KernelRfl
import Derived.Lib.Fields
import Derived.Lib.Atoi
import Derived.Lib.Bytealg
import Derived.Lib.Join
set_option linter.unusedVariables false
set_option linter.unusedSimpArgs false
namespace Go.Abs.T09
open Go Go.Abs

def xFields : List V → Option V
  | [.str s] => if s.all (fun b => b < 128) && decide (s.length < 4294967281) then some (if (Lib.fields s).isEmpty then .emp else .list 1 ((Lib.fields s).map .str)) else none
  | _ => none
def xAtoi : List V → Option V
  | [.str s] => if s.length ≤ 18 then (Lib.atoi s).map fun n => .tup [.int .i64 n, .nili] else none
  | _ => none
def xIndexByte : List V → Option V
  | [.str s, .int .u8 c] => some (.int .i64 (Lib.indexByte s (UInt8.ofNat c.toNat)))
  | _ => none
def xJoin : List V → Option V
  | [.nil0, .str _] => some (.str [])
  | _ => none

def tab : Nat → Option Fun
  | 3 => some (.code F3) | 4 => some (.code F4) | 5 => some (.code F5) | 6 => some (.code F6) | 7 => some (.code F7) | 8 => some (.code F8) | 9 => some (.code F9)
  | 10 => some (.code F10) | 11 => some (.code F11) | 12 => some (.code F12) | 13 => some (.code F13) | 14 => some (.code F14) | 15 => some (.code F15) | 16 => some (.code F16) | 17 => some (.code F17) | 18 => some (.code F18)
  | 19 => some (.ext xJoin) | 20 => some (.code F20) | 21 => some (.code F21) | 22 => some (.code F22) | 23 => some (.code F23) | 24 => some (.code F24) | 25 => some (.code F25) | 26 => some (.code F26) | 27 => some (.code F27)
  | 28 => some (.code F28) | 29 => some (.code F29) | 30 => some (.code F30) | 31 => some (.code F31) | 32 => some (.code F32) | 33 => some (.code F33) | 34 => some (.code F34) | 35 => some (.code F35) | 36 => some (.code F36)
  | 37 => some (.code F37) | 38 => some (.code F38) | 39 => some (.code F39) | 40 => some (.code F40) | 41 => some (.code F41) | 42 => some (.code F42) | 43 => some (.code F43) | 44 => some (.code F44)
  | 49 => some (.code F49) | 50 => some (.code F50) | 51 => some (.code F51) | 52 => some (.code F52) | 53 => some (.code F53) | 54 => some (.code F54) | 55 => some (.code F55) | 56 => some (.code F56) | 57 => some (.code F57)
  | 58 => some (.code F58) | 59 => some (.code F59) | 60 => some (.code F60) | 61 => some (.code F61) | 62 => some (.code F62) | 63 => some (.code F63) | 67 => some (.code F67) | 68 => some (.code F68) | 69 => some (.code F69)
  | 70 => some (.code F70) | 71 => some (.code F71) | 72 => some (.code F72) | 73 => some (.code F73) | 74 => some (.code F74) | 75 => some (.code F75) | 76 => some (.code F76) | 77 => some (.ext xAtoi) | 78 => some (.code F78)
  | 79 => some (.code F79) | 80 => some (.code F80) | 81 => some (.code F81) | 82 => some (.code F82) | 86 => some (.ext xFields) | 87 => some (.code F87) | 88 => some (.code F88) | 89 => some (.ext xIndexByte)
  | 94 => some (.code F94) | 101 => some (.code F101) | _ => none
end Go.Abs.T09
