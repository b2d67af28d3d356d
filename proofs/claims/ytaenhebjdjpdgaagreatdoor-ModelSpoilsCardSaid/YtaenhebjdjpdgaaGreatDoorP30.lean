/- Texts of this claim, joined and written short by a program. -/
import Derived.Test.YtaenhebjdjpdgaaGreatDoorP11
import Derived.Test.YtaenhebjdjpdgaaGreatDoorP22
import Derived.Test.YtaenhebjdjpdgaaGreatDoorP00
set_option linter.unusedVariables false
set_option linter.unusedSimpArgs false
set_option linter.unusedSectionVars false
namespace Go.Abs.b1
open Go Go.Abs Go.Abs.S
def ajs : cm := q (R [r 22 (kr 3 S1 v20), r 23 (ls 3 t22), o 4 (.alloc [z, z, z]), n (st 3 v4 t23)]) (q (q (R [r 24 (di 0 v4), r 25 (b2 t24), r 26 (di 0 v1), r 27 (di 1 t26), r 28 (b2 t27), r 29 (ia 1 t28), r 30 (gI (fn 46) [t25, t29]), r 31 (no t30), r 32 (m t31), rg 33 t32 false (di 2 v4), rg 34 t32 false (b2 t33), rg 35 t32 false (di 0 v1), rg 36 t32 false (di 1 t35), rg 37 t32 false (b2 t36), rg 38 t32 false (ia 1 t37), rg 39 t32 false (gI (fn 46) [t34, t38]), rg 40 t32 false (no t39), r 41 (jr t32 jM t40), r 42 (m t41), rg 43 t42 false (di 0 v4), rg 44 t42 false (b2 t43), rg 45 t42 false (di 2 v4), rg 46 t42 false (b2 t45), rg 47 t42 false (eq t44 t46), o 48 (jr t42 jM t47)]) (iD aee (q (R [o 2 (m kq)]) rt) k)) (q (oE [r 49 (di 0 v1), r 50 (di 1 t49), r 51 (b2 t50), r 52 (di 0 v4), r 53 (b2 t52), r 54 (kr 6 t51 t53), r 55 (ls 6 t54), r 56 (di 0 v1), r 57 (di 1 t56), r 58 (b2 t57), r 59 (di 2 v4), r 60 (b2 t59), r 61 (kr 6 t58 t60), r 62 (ls 6 t61), o 5 (.alloc [ld, z, nl, z, z, z]), o 6 (.alloc [ld, z, nl, z, z, z]), n (st 6 v5 t55), n (st 6 v6 t62)] [0, 1, 3, 0, 8, 31, 63, 0, 128, 384, 0, 1024, 3968, 8064, 0, 0, 49279, 131071]) (q (oE [r 63 (di 1 v5), r 64 (b2 t63), r 65 (ne t64 (c 0)), r 66 (m t65), rg 67 t66 false (di 1 v6), rg 68 t66 false (b2 t67), rg 69 t66 false (ne t68 (c 0)), r 70 (jr t66 jM t69), r 71 (m t70), rg 72 t71 false (di 1 v4), rg 73 t71 false (b2 t72), rg 74 t71 false (di 2 v5), rg 75 t71 false (b2 t74), rg 76 t71 false (ia 1 t75), rg 77 t71 false (gI (fn 46) [t73, t76]), rg 78 t71 false (no t77), r 79 (jr t71 jM t78), r 80 (m t79), rg 81 t80 false (di 2 v6), rg 82 t80 false (b2 t81), rg 83 t80 false (ia 1 t82), rg 84 t80 false (ne t83 (c 1)), r 85 (jr t80 jM t84), r 86 (m t85), rg 87 t86 false (di 2 v6), rg 88 t86 false (b2 t87), rg 89 t86 false (kr 1 t88 (c 0)), rg 90 t86 false (b2 t89), rg 91 t86 false (di 2 v5), rg 92 t86 false (b2 t91), rg 93 t86 false (di 1 v4), rg 94 t86 false (b2 t93), rg 95 t86 false (kr 1 t92 t94), rg 96 t86 false (b2 t95), rg 97 t86 false (ne t90 t96), o 98 (jr t86 jM t97)] [0, 1, 3, 7, 15, 31, 63, 127, 255, 511, 1023, 511, 2559, 6655, 16383, 32767, 65535, 131071, 262143, 524287, 1048575, 2097151, 4194303, 8388607, 16777215, 33554431, 67108863, 134217727, 16777215, 285212671, 16777215, 1090519039, 4043309055, 8338276351, 17179869183, 34359738367]) (iD aeg (q (R [o 2 (m kq)]) rt) k))))
def ajt : cm := q (R [r 107 (kr 3 S2 v105), r 108 (ls 3 t107), o 9 (.alloc [z, z, z]), n (st 3 v9 t108)]) (R [r 109 (b2 kp), r 110 (di 0 v9), r 111 (b2 t110), n (.o2 0 t109 t111 jM)])
def aju : cm := q (R [r 121 (.fail), o 122 (ex t121 0)]) (q (iD aeh k (e 6)) (cj 7 (q (R [r 123 (.fail), r 124 (ex t123 0), o 10 (.alloc [z]), n (st 1 v10 t124)]) (q (R [r 125 (di 0 v1), r 126 (di 6 t125), r 127 (b2 t126), r 128 (.r8 79 [] [v10, kp]), r 129 (gI (fn 78) [t127, t128]), o 130 (no t129)]) (iD v130 (R [r 131 (b2 kp), r 132 (b2 v10), n (.w3 0 t131 t132)]) k)))))
def ajv : cm := q (R [r 119 (b2 kp), o 120 (.fail)]) (cj 6 (.loop aju))
def yR : iw := ⟨137, q (R [o 1 (iU v0), o 2 (m kq)]) (q (q (R [r 11 (di 0 v1), r 12 (di 6 t11), r 13 (b2 t12), r 14 (ia 1 t13), o 15 (gt t14 (c 12))]) (iD ad6 (q (R [o 2 (m kq)]) rt) k)) (q (q (R [r 16 (di 0 v1), r 17 (di 6 t16), o 18 (b2 t17), o 19 (ia 1 S1), o 20 (m (c 0))]) (cj 0 (.loop (uA 21 19 20 99 1 0 ajs)))) (q (R [r 100 (.mkMap), o 7 (.alloc [.hU]), n (st 1 kp t100)]) (q (q (R [r 101 (di 0 v1), r 102 (di 6 t101), o 103 (b2 t102), o 104 (ia 1 S2), o 105 (m (c 0))]) (cj 2 (.loop (uA 106 104 105 112 3 2 ajt)))) (q (q (R [r 113 (di 0 v1), r 114 (di 6 t113), r 115 (b2 t114), o 116 (ia 1 t115), o 117 (m (c 0))]) (cj 4 (.loop (uA 118 116 117 133 5 4 ajv)))) (q (R [r 134 (b2 kp), r 135 (ia 2 t134), r 136 (eq t135 (c 0)), o 2 (m t136)]) rt)))))), [.tmp 2], false⟩
def EB : cm := R [o 3 (.alloc [z, z, z, z]), n (st 4 v3 SZ)]
def EC : cm := cj 1 (q (q (R [r 14 (di 2 v3), r 15 (b2 t14), r 16 (ne t15 (c 0)), r 17 (m t16), rg 18 t17 false (di 3 v3), rg 19 t17 false (b2 t18), rg 20 t17 false (b2 v1), rg 21 t17 false (ia 0 t20), rg 22 t17 false (ne t19 t21), o 23 (jr t17 jM t22)]) (iD ad7 (e 0) k)) (q (R [r 24 (di 0 v3), r 25 (b2 t24), n (st 1 v2 t25)]) rt))
def ED : iw := ⟨26, q (R [o 1 (iU v0), o 2 (.alloc [z])]) (q (q (R [r 4 (b2 v1), r 5 (eq t4 (cs [])), r 6 (m t5), rg 7 t6 false (b2 v1), rg 8 t6 false (ia 0 t7), rg 9 t6 false (gt t8 (c 4096)), o 10 (jr t6 jM t9)]) (iD v10 (q (R [n (st 1 v2 (c 0))]) rt) k)) (q (q (R [r 11 (b2 v1), o 12 (gI (fn 93) [t11])]) (cj 0 (.rangeFunc v12 [13] EB EC))) (q (R [n (st 1 v2 (c 0))]) rt))), [.cell 2 none], false⟩
def EE : cm := q (q (R [r 34 (m sF), r 35 (m kp), r 36 (ia 1 t35), o 37 (lt t34 t36)]) (iD v37 k (e 0))) (cj 1 (oE [r 38 (m sF), r 39 (m kp), r 40 (m sF), r 41 (.r9 2 t39 (some t40) none none), r 42 (m kp), r 43 (m sF), r 44 (.r9 2 t42 none (some t43) none), r 45 (.copy 2 t41 t44), r 46 (df t38 t45), o 8 (m t46)] [0, 0, 0, 6, 0, 0, 48, 126, 255, 511]))
def WU : iw := ⟨48, q (R [o 4 (m sG)]) (q (q (R [r 9 (m v1), o 10 (lt t9 (c 0))]) (iD v10 (R [r 11 (.zu 9 (cs [99, 97, 110, 110, 111, 116, 32, 98, 101, 32, 110, 101, 103, 97, 116, 105, 118, 101])), n (.fail)]) k)) (q (R [r 13 (m v0), r 14 (ia 1 t13), r 15 (.conv .u64 t14), r 16 (m v1), r 17 (.conv .u64 t16), r 18 (gI (fn 138) [t15, t17]), r 12 (m t18), r 19 (ex t12 0), r 20 (ex t12 1), o 5 (m t19), o 6 (m t20)]) (q (q (R [r 21 (m v5), r 22 (gt t21 (.const (.int .u64 0))), r 23 (m t22), rg 24 t23 false (m v6), rg 25 t23 false (gt t24 (.const (.int .u64 9223372036854775807))), o 26 (jr t23 jM t25)]) (iD ad9 (R [r 27 (.zu 9 (cs [116, 104, 101, 32, 114, 101, 115, 117, 108, 116, 32, 111, 102, 32, 40, 108, 101, 110, 40, 120, 41, 32, 42, 32, 99, 111, 117, 110, 116, 41, 32, 111, 118, 101, 114, 102, 108, 111, 119, 115])), n (.fail)]) k)) (q (R [r 28 (m v6), r 29 (.conv .i64 t28), r 30 (.mkSlice 2 [z, z] 16 t29 t29), o 7 (m t30)]) (q (R [r 31 (m kp), r 32 (m v0), r 33 (.copy 2 t31 t32), o 8 (m t33)]) (q (cj 0 (.loop EE)) (q (R [r 47 (m kp), o 4 (m t47)]) rt))))))), [.tmp 4], false⟩
def Ba : iw := ⟨15, q (R [o 3 (iU v0), o 4 (m kq)]) (q (R [r 5 (di 0 v3), r 6 (b2 t5), r 7 (b2 v1), r 8 (eq t6 t7), r 9 (m t8), rg 10 t9 true (b2 v2), rg 11 t9 true (di 2 v3), rg 12 t9 true (b2 t11), rg 13 t9 true (.lookup 0 (.bool false) t10 t12 false), r 14 (jr t9 t13 kq), o 4 (m t14)]) rt), [.tmp 4], false⟩
def WV : iw := ⟨6, q (R [o 1 (iU v0), o 2 (m (.const (.jB)))]) (q (R [r 4 (gI (fn 152) []), o 3 (.alloc [.hU]), n (st 1 v3 t4)]) (q (R [r 5 (.r8 153 [] [v1, v3]), o 2 (m t5)]) rt)), [.tmp 2], false⟩
def WW : iw := ⟨30, q (R [o 4 (m (.const (.int .u64 0))), o 5 (m (.const (.int .u64 0)))]) (q (iD kq (q (R [r 11 (m v0), r 12 (.conv .u32 t11), r 13 (m v1), r 14 (.conv .u32 t13), r 15 (gI (fn 239) [t12, t14]), r 10 (m t15), r 16 (ex t10 0), r 17 (ex t10 1), o 6 (m t16), o 7 (m t17)]) (q (R [r 18 (m v6), r 19 (.conv .u64 t18), r 20 (m kp), r 21 (.conv .u64 t20), o 4 (m t19), o 5 (m t21)]) rt)) k) (q (R [r 23 (m v0), r 24 (m v1), r 25 (gI (fn 240) [t23, t24]), r 22 (m t25), r 26 (ex t22 0), r 27 (ex t22 1), o 8 (m t26), o 9 (m t27)]) (q (R [r 28 (m sF), r 29 (m v9), o 4 (m t28), o 5 (m t29)]) rt))), [.tmp 4, .tmp 5], false⟩
def Oe : cm := q (R [r 9 (kr 1 v5 kp), r 10 (b2 t9), o 3 (m t10)]) (R [r 11 (m v1), r 12 (m v3), n (.o2 1 t11 t12 jM)])
def WX : iw := ⟨15, q (R [o 0 (m (.const (.hU)))]) (q (R [r 4 (.mkMap), o 1 (m t4)]) (q (q (R [o 5 (gI (fn 244) [(cs [115, 111, 114, 116, 32, 114, 101, 108, 97, 116, 105, 111, 110, 32, 99, 111, 117, 110, 116, 101, 114, 32, 115, 101, 116, 32, 114, 101, 103, 105, 115, 116, 101, 114, 32, 105, 110, 118, 97, 114, 105, 97, 110, 116, 32, 111, 112, 101, 114, 97, 116, 105, 111, 110, 32, 107, 101, 121, 32, 114, 101, 102, 101, 114, 101, 110, 99, 101, 32, 116, 111, 32, 99, 111, 117, 110, 116, 32, 97, 99, 121, 99, 108, 105, 99, 32, 97, 108, 108, 32, 115, 117, 109, 32, 105, 110, 32, 97, 100, 100, 119, 105, 110, 115, 32, 114, 101, 109, 111, 118, 101, 119, 105, 110, 115, 32, 108, 97, 115, 116, 32, 109, 117, 108, 116, 105, 32, 104, 105, 100, 101, 32, 111, 114, 100, 101, 114, 101, 100, 32, 114, 101, 113, 117, 105, 114, 101, 32, 104, 111, 108, 100, 32, 105, 110, 115, 101, 114, 116, 32, 100, 101, 108, 101, 116, 101, 32, 97, 100, 100, 32, 102, 114, 111, 109, 32, 112, 117, 116, 32, 100, 114, 111, 112, 32, 97, 115, 115, 105, 103, 110, 32, 102, 111, 114, 32, 119, 104, 101, 114, 101, 32, 97, 110, 100, 32, 111, 114, 32, 110, 111, 116])]), o 6 (ia 1 v5), o 7 (m (c 0))]) (cj 0 (.loop (uA 8 6 7 13 1 0 Oe)))) (q (R [r 14 (m v1), o 0 (m t14)]) rt))), [.tmp 0], false⟩
def wA : cm := q (q (R [r 21 (m kp), r 22 (m v6), r 23 (ia 0 t22), r 24 (lt t21 t23), r 25 (m t24), rg 26 t25 true (m v6), rg 27 t25 true (m kp), rg 28 t25 true (.p6 t26 t27), rg 29 t25 true (gI (fn 160) [t28]), rg 30 t25 true (no t29), r 31 (jr t25 t30 kq), r 32 (m t31), rg 33 t32 true (m v6), rg 34 t32 true (m kp), rg 35 t32 true (.p6 t33 t34), rg 36 t32 true (ne t35 (.const (.int .u8 35))), r 37 (jr t32 t36 kq), r 38 (m t37), rg 39 t38 true (m v6), rg 40 t38 true (m kp), rg 41 t38 true (.o1 t39 (some t40) none), rg 42 t38 true (gI (fn 161) [t41]), rg 43 t38 true (no t42), o 44 (jr t38 t43 kq)]) (iD aed k (e 3))) (q (cj 4 k) (R [r 45 (m kp), r 46 (df t45 (c 1)), o 7 (m t46)]))
def uV : cm := .seq (.region [⟨some (48, false), .mv (.var 6), none⟩, ⟨some (49, false), .bin .eql (.tmp 48) (.const (.str [])), none⟩, ⟨some (47, true), .mv (.tmp 49), none⟩] none) (.cond (.var 47) (.skip) (.seq (.region [⟨some (51, false), .mv (.var 6), none⟩, ⟨some (52, false), .p6 (.tmp 51) (.const (.int .i64 0)), none⟩, ⟨some (53, false), .call false (.func 155) [(.tmp 52)], none⟩, ⟨some (50, true), .mv (.tmp 53), none⟩] none) (.cond (.var 50) (.seq (.region [⟨some (54, false), .mv (.var 6), none⟩, ⟨some (55, false), .call false (.func 156) [(.tmp 54), (.func 157)], none⟩, ⟨some (7, true), .mv (.tmp 55), none⟩, ⟨some (56, false), .fieldAddr 0 (.var 5), none⟩, ⟨none, .store 1 (.tmp 56) (.const (.int .i64 1)), none⟩] none) (.seq (.region [⟨some (57, false), .load none (.var 2), none⟩, ⟨some (58, false), .mv (.var 6), none⟩, ⟨some (59, false), .mv (.var 7), none⟩, ⟨some (60, false), .o1 (.tmp 58) none (some (.tmp 59)), none⟩, ⟨some (61, true), .lookup 1 (.bool false) (.tmp 57) (.tmp 60) false, none⟩] (some [0, 0, 0, 6, 15])) (.cond (.var 61) (.region [⟨some (62, false), .fieldAddr 0 (.var 5), none⟩, ⟨none, .store 1 (.tmp 62) (.const (.int .i64 2)), none⟩] none) (.skip)))) (.seq (.region [⟨some (64, false), .mv (.var 6), none⟩, ⟨some (65, false), .p6 (.tmp 64) (.const (.int .i64 0)), none⟩, ⟨some (66, false), .call false (.func 158) [(.tmp 65)], none⟩, ⟨some (63, true), .mv (.tmp 66), none⟩] none) (.cond (.var 63) (.region [⟨some (67, false), .mv (.var 6), none⟩, ⟨some (68, false), .call false (.func 156) [(.tmp 67), (.func 158)], none⟩, ⟨some (7, true), .mv (.tmp 68), none⟩, ⟨some (69, false), .fieldAddr 0 (.var 5), none⟩, ⟨none, .store 1 (.tmp 69) (.const (.int .i64 3)), none⟩] none) (.seq (.region [⟨some (71, false), .mv (.var 6), none⟩, ⟨some (72, false), .call false (.func 159) [(.tmp 71)], none⟩, ⟨some (73, false), .bin .gtr (.tmp 72) (.const (.int .i64 0)), none⟩, ⟨some (70, true), .mv (.tmp 73), none⟩] none) (.cond (.var 70) (.region [⟨some (74, false), .mv (.var 6), none⟩, ⟨some (75, false), .call false (.func 159) [(.tmp 74)], none⟩, ⟨some (7, true), .mv (.tmp 75), none⟩, ⟨some (76, false), .fieldAddr 0 (.var 5), none⟩, ⟨none, .store 1 (.tmp 76) (.const (.int .i64 4)), none⟩] none) (.seq (.region [⟨some (20, false), .fieldAddr 0 (.var 5), none⟩, ⟨none, .store 1 (.tmp 20) (.const (.int .i64 5)), none⟩] none) (.seq (.region [⟨some (7, true), .mv (.const (.int .i64 1)), none⟩] none) (.block 3 (.loop wA)))))))))))
def IY : cm := .region [⟨some (8, false), .mv (.var 4), none⟩, ⟨some (9, false), .mv (.var 4), none⟩, ⟨some (10, false), .load none (.var 1), none⟩, ⟨some (11, false), .mv (.var 4), none⟩, ⟨some (12, false), .o1 (.tmp 10) (some (.tmp 11)) none, none⟩, ⟨some (13, false), .call false (.func 154) [(.tmp 12)], none⟩, ⟨some (14, false), .bin .add (.tmp 9) (.tmp 13), none⟩, ⟨some (15, false), .build [.int .i64 0, .int .i64 0, .int .i64 0, .int .i64 0] [(1, 1, (.tmp 8)), (2, 1, (.tmp 14))], none⟩, ⟨some (5, true), .alloc [.int .i64 0, .int .i64 0, .int .i64 0, .int .i64 0], none⟩, ⟨none, .store 4 (.var 5) (.tmp 15), none⟩] none
def IZ : cm := .region [⟨some (16, false), .load none (.var 1), none⟩, ⟨some (17, false), .fieldAddr 2 (.var 5), none⟩, ⟨some (18, false), .load none (.tmp 17), none⟩, ⟨some (19, false), .o1 (.tmp 16) (some (.tmp 18)) none, none⟩, ⟨some (6, true), .mv (.tmp 19), none⟩] none
def I0 : cm := .region [⟨some (7, true), .mv (.const (.int .i64 0)), none⟩] none
def Bb : cm := .seq (.region [⟨some (77, false), .fieldAddr 2 (.var 5), none⟩, ⟨some (78, false), .load none (.tmp 77), none⟩, ⟨some (79, false), .mv (.var 7), none⟩, ⟨some (80, false), .bin .add (.tmp 78) (.tmp 79), none⟩, ⟨some (81, false), .fieldAddr 3 (.var 5), none⟩, ⟨none, .store 1 (.tmp 81) (.tmp 80), none⟩] none) (.seq (.region [⟨some (82, false), .fieldAddr 3 (.var 5), none⟩, ⟨some (83, false), .load none (.tmp 82), none⟩, ⟨some (4, true), .mv (.tmp 83), none⟩] none) (.seq (.region [⟨some (84, false), .mv (.var 0), none⟩, ⟨some (85, false), .load (some 4) (.var 5), none⟩, ⟨some (86, false), .call false (.tmp 84) [(.tmp 85)], none⟩, ⟨some (87, false), .un .not (.tmp 86), none⟩, ⟨some (88, false), .mv (.tmp 87), none⟩, ⟨some (89, false), .fieldAddr 0 (.var 5), some ((.tmp 88), false)⟩, ⟨some (90, false), .load none (.tmp 89), some ((.tmp 88), false)⟩, ⟨some (91, false), .bin .eql (.tmp 90) (.const (.int .i64 0)), some ((.tmp 88), false)⟩, ⟨some (92, true), .pick (.tmp 88) (.const (.bool true)) (.tmp 91), none⟩] none) (.cond (.var 92) (.ret) (.skip))))
def I1 : cm := cj 1 (q IY (q IZ (q I0 (q (cj 2 uV) Bb))))
def WY : iw := ⟨93, q (R [o 4 (m (c 0))]) (cj 0 (.loop I1)), [], false⟩
def WZ : iw := ⟨51, q (R [o 4 (m (.const (.int .u64 0))), o 5 (m (.const (.int .u64 0)))]) (q (R [r 14 (m v0), r 15 (.bin .and t14 (.const (.int .u64 4294967295))), o 6 (m t15)]) (q (R [r 16 (m v0), r 17 (.bin .shr t16 (.const (.int .u64 32))), o 7 (m t17)]) (q (R [r 18 (m v1), r 19 (.bin .and t18 (.const (.int .u64 4294967295))), o 8 (m t19)]) (q (R [r 20 (m v1), r 21 (.bin .shr t20 (.const (.int .u64 32))), o 9 (m t21)]) (q (R [r 22 (m v6), r 23 (m sF), r 24 (.bin .mul t22 t23), o 10 (m t24)]) (q (R [r 25 (m kp), r 26 (m sF), r 27 (.bin .mul t25 t26), r 28 (m v10), r 29 (.bin .shr t28 (.const (.int .u64 32))), r 30 (df t27 t29), o 11 (m t30)]) (q (R [r 31 (m v11), r 32 (.bin .and t31 (.const (.int .u64 4294967295))), o 12 (m t32)]) (q (R [r 33 (m v11), r 34 (.bin .shr t33 (.const (.int .u64 32))), o 13 (m t34)]) (q (R [r 35 (m v12), r 36 (m v6), r 37 (m v9), r 38 (.bin .mul t36 t37), r 39 (df t35 t38), o 12 (m t39)]) (q (R [r 40 (m kp), r 41 (m v9), r 42 (.bin .mul t40 t41), r 43 (m SZ), r 44 (df t42 t43), r 45 (m v12), r 46 (.bin .shr t45 (.const (.int .u64 32))), r 47 (df t44 t46), o 4 (m t47)]) (q (R [r 48 (m v0), r 49 (m v1), r 50 (.bin .mul t48 t49), o 5 (m t50)]) rt))))))))))), [.tmp 4, .tmp 5], false⟩
end Go.Abs.b1
namespace Go.Abs
open Go
variable {C : Ctx} {fid : Nat -> Nat} {w w' : World} {G G' : bT} {H H' : Heap}
theorem ajw (cC : C.P.follows .mixedOrders = true) (bx : eR C fid) {ad : Nat -> Option ca} (hT : dU C fid ad) : gx C fid (cK ad) :=
 ⟨Vf ad, fun aa ae ao he => by
  obtain ⟨n, hn⟩ := tx.1 he
  exact (Cy cC bx hT n).run aa ae ao hn⟩
theorem W0 {k : TypeId} {bL : Nat} {d : TypeDesc} (ai : C.iQ k = some bL) (hd : C.P.underlying k = some d) {a : V} {x : Value} (ao : bg fid G w a x) : ∀ {bk : List (V × V)} {es : List MapEntry} (i : Nat) {r : V} {j : Nat} {z : Value},
  a6 fid G w (bk.map (·.1)) (es.map (·.key)) -> a6 fid G w (bk.map (·.2)) (es.map (·.val)) -> hv bL a bk = some (some r) -> Instr.findNow d x es i = some (some (i + j, z)) -> hY bL a bk = bk.eraseIdx j
 | [], [], i, r, j, z, _, _, h, _ => by simp [hv] at h
 | [], _ :: _, _, _, _, _, h, _, _, _ => by simp at h; cases h
 | _ :: _, [], _, _, _, _, h, _, _, _ => by simp at h; cases h
 | (bs, u') :: bk, e :: es, i, r, j, z, ee, cO, h, ae => by
   simp only [eD] at ee cO
   cases ee with
   | cons _ _ _ _ hL ee =>
     cases cO with
     | cons _ _ _ _ qj cO =>
       simp only [hv] at h
       split at h
       · rename_i he
         obtain ⟨hs, -⟩ := vD ai hd ao hL he
         simp only [Instr.findNow, hs, aA, bw] at ae
         obtain rfl : j = 0 := by omega
         simp only [hY, he, if_true, Y5]
       · rename_i he
         obtain ⟨hs, -⟩ := vD ai hd ao hL he
         simp only [Instr.findNow, hs] at ae
         have j4 := qk ai hd ao (i + 1) ee cO h
         obtain ⟨tT, nF, h1, -, -⟩ := j4
         rw [h1] at ae
         simp only [aA, bw] at ae
         obtain ⟨hj, rfl⟩ := ae
         obtain rfl : j = tT + 1 := by omega
         have ih := W0 ai hd ao (i + 1) ee cO h h1
         have bA : ¬ (hX bL a bs = some true) := by rw [he]; simp
         simp only [hY, bA, if_false, Y6, ih]
       · cases h
theorem ajx {vars : List Nat} {ag : aj -> V} {ρ : Operand -> Value} {o : Oper} (aM : fh C fid vars G w ag ρ) {m k : Operand} {t eh q3 : TypeId} {u : TypeId} (hd : C.P.underlying t = some (.map eh q3)) {am gR : aj} {bL : Nat}
  (ho : o.op = .call { callee := .builtin .delete, args := #[m, k], argTypes := #[t, u] }) (h1 : C.bV vars m = some am) (h2 : C.bV vars k = some gR) (gh : C.iQ eh = some bL) {l : Nat} (ah : ag am = .map l) {h0 : Home} (du : G.β l = some h0) {bk : List (V × V)} {es : Array MapEntry} {bE : Nat}
  (dn : w.heap[h0.b]? = some (.map es bE)) (ee : a6 fid G w (bk.map (·.1)) (es.toList.map (·.key))) (cO : a6 fid G w (bk.map (·.2)) (es.toList.map (·.val))) (cp : nx es bE) {bN : Option V} (h7 : hv bL (ag gR) bk = some bN) :
  ∃ bC, (execOp ρ o).run C.P w = .ok (.value (.tuple #[])) { w with heap := w.heap.setIfInBounds h0.b (.map bC bE) } /\ a6 fid G w ((hY bL (ag gR) bk).map (·.1)) (bC.toList.map (·.key)) /\ a6 fid G w ((hY bL (ag gR) bk).map (·.2)) (bC.toList.map (·.val)) /\
    nx bC bE /\ ((bC = es /\ hY bL (ag gR) bk = bk) \/ ∃ j, bC = es.eraseIdxIfInBounds j /\ hY bL (ag gR) bk = bk.eraseIdx j) := by
 have hm := aM m am h1
 have ai := aM k gR h2
 obtain ⟨FU, iy⟩ := FT gh
 have cf : (execOp ρ o).run C.P w = ((Builtin.delete_ #[t, u] o.type #[ρ m, ρ k]).run C.P w).andThen fun z w' => .ok (.value z) w' := by
  rw [xl ho]
  simp only [builtin, Sem.run_bind, JP, eD, n5]
  rfl
 rw [ah] at hm
 obtain ⟨arP, W1, Rh, ef⟩ := hm.mapInv
 rw [du] at W1; cases W1
 cases bN with
 | none =>
   have ae := qk gh iy ai 0 ee cO h7
   refine ⟨es, ?_, by rw [zR h7]; exact ee, by rw [zR h7]; exact cO, cp, .inl ⟨rfl, zR h7⟩⟩
   rw [cf]
   unfold Builtin.delete_
   simp only [ef]
   simp [run_underlying hd, vE dn, sr gh, tS (C := C) iy ae, zP _ dn, Sem.run_pure, Result.andThen]
 | some r =>
   obtain ⟨j, y, ae, -, -⟩ := qk gh iy ai 0 ee cO h7
   obtain ⟨s1, s2⟩ := KX gh iy ai 0 ee cO h7 ae
   have eV := W0 gh iy ai 0 ee cO h7 ae
   rw [eF] at ae
   refine ⟨es.eraseIdxIfInBounds j, ?_, by simpa using s1, by simpa using s2, cp.erase _, .inr ⟨j, rfl, eV⟩⟩
   rw [cf]
   unfold Builtin.delete_
   simp only [ef]
   simp [run_underlying hd, vE dn, sr gh, tS (C := C) iy ae, zP _ dn, Sem.run_pure, Result.andThen]
theorem W2 {α β : Type} : ∀ {j : Nat} {l : List α} {m : List β} {p : α × β}, p ∈ (l.eraseIdx j).zip (m.eraseIdx j) -> p ∈ l.zip m
 | _, [], _, _, h => by simp at h
 | _, _ :: _, [], _, h => by simp at h
 | 0, _ :: _, _ :: _, _, h => by simp only [Y5] at h; exact k5 _ h
 | j + 1, _ :: _, _ :: _, _, h => by
   simp only [Y6, JL, dS] at h ⊢
   exact h.imp id W2
section
variable {vars : List Nat} {N : Nat}
structure pP (C : Ctx) (fid : Nat -> Nat) (vars : List Nat) (N base li l r jN bE : Nat) (st : au) (G : bT) (w : World) (seen : Array Nat) (es : Array MapEntry) (d : List V) (bk : List (V × V)) (s : au) (ax : bT) (al : Act) (aC : World) : Prop where
 rel : dx C fid vars N ax s al aC
 bN : fU st { s with low := min st.low l }
 len : li < s.H.length
 ext : ∀ m, m <= min st.low l -> Ext G w ax aC m st.H.length
 marks : j7 C ax aC base al.defers
 hi : ∃ h, ax.β li = some h /\ h.b = r
 hm : ∃ h, ax.β l = some h /\ h.b = jN
 gone : s.H[li]? = some .gone
 mp : s.H[l]? = some (.map bk)
 iter : aC.heap[r]? = some (.mapIter (some jN) bE seen bE)
 map : aC.heap[jN]? = some (.map es bE)
 hand : ∀ p ∈ es.toList.zip bk, p.1.born ∈ seen -> p.2.1 ∈ d
variable {base li l r jN bE : Nat} {st : au} {seen : Array Nat} {es : Array MapEntry} {d : List V} {bk : List (V × V)} {s ar : au} {ax bq : bT} {al a2 : Act} {aC bB : World}
theorem pP.on (h : pP C fid vars N base li l r jN bE st G w seen es d bk s ax al aC) (iZ : l < li) (aa : dx C fid vars N bq ar a2 bB) (dw : ∀ m, m <= ar.low -> Ext ax aC bq bB m s.H.length) (ix : li < ar.low) (dX : Fr s.H s.H.length ar.H ar.low) (eB : ar.ro = s.ro)
  (hd : j7 C bq bB base a2.defers) : pP C fid vars N base li l r jN bE st G w seen es d bk ar bq a2 bB := by
 obtain ⟨h1, ah, q1⟩ := h.hi
 obtain ⟨h2, e2, aS⟩ := h.hm
 have g1 := Gl h.rel.rel ah h.gone
 have g2 := xL h.rel.rel e2 h.mp
 have lz := dw _ (aK _)
 have lg := h.bN.1.len
 refine ⟨aa, ⟨⟨c4 h.bN.1.len dX.len, jA _ _, fun x hx => ?_⟩, eB.trans h.bN.2⟩, pY h.len dX.len, fun m hm => ?_, hd, ?_, ?_, ?_, ?_, ?_, ?_, h.hand⟩
 · have ed : x < min st.low l := hx
   exact (dX.same x (by omega)).trans (h.bN.1.same x hx)
 · exact (h.ext m hm).trans ((dw m (by omega)).le (aK _) lg)
 · obtain ⟨h', e', q'⟩ := vR lz ah g1.1; exact ⟨h', e', q'.trans q1⟩
 · obtain ⟨h', e', q'⟩ := vR lz e2 g2.1; exact ⟨h', e', q'.trans aS⟩
 · rw [dX.same li ix]; exact h.gone
 · rw [dX.same l (by omega)]; exact h.mp
 · have := vQ lz h.rel.rel ah ix
   rw [q1] at this; rw [this]; exact h.iter
 · have := vQ lz h.rel.rel e2 (by omega)
   rw [aS] at this; rw [this]; exact h.map
theorem pP.del (h : pP C fid vars N base li l r jN bE st G w seen es d bk s ax al aC) (iZ : l < li) {vars' : List Nat} {o : Oper} {m k : Operand} {t eh q3 u : TypeId} (bx : eR C fid) (hd : C.P.underlying t = some (.map eh q3)) {am gR : aj} {bL : Nat}
  (ho : o.op = .call { callee := .builtin .delete, args := #[m, k], argTypes := #[t, u] }) (h1 : C.bV vars m = some am) (h2 : C.bV vars k = some gR) (gh : C.iQ eh = some bL) (ah : am.ag s.aE s.aw = .map l) {bN : Option V} (h7 : hv bL (gR.ag s.aE s.aw) bk = some bN) :
  ∃ bC bq bB, (execOp al.eval o).run C.P aC = .ok (.value (.tuple #[])) bB /\ bC.toList.Sublist es.toList /\
    pP C fid vars N base li l r jN bE st G w seen bC d (hY bL (gR.ag s.aE s.aw) bk) { s with aE := [], H := s.H.set l (.map (hY bL (gR.ag s.aE s.aw) bk)), low := min s.low l } bq al bB := by
 obtain ⟨av, b5, bZ⟩ := h.hi
 obtain ⟨bc, cU, cR⟩ := h.hm
 obtain ⟨ou, iV, KZ, arQ, fB, ee, cO, cp⟩ := xL h.rel.rel cU h.mp
 rw [cR, h.map] at fB
 cases fB
 have dn : aC.heap[bc.b]? = some (.map es bE) := by rw [cR]; exact h.map
 obtain ⟨bC, cf, cn, dZ, lx, W3⟩ := ajx (rf bx h.rel) hd ho h1 h2 gh ah cU dn ee cO cp h7
 generalize hY bL (gR.ag s.aE s.aw) bk = ajy at *
 have aH : bc.b < aC.heap.size := h.rel.rel.blk l bc cU
 have tU : ∀ b, b ≠ bc.b -> ({ aC with heap := aC.heap.setIfInBounds bc.b (.map bC bE) } : World).heap[b]? = aC.heap[b]? := fun b bA => by
  show (aC.heap.setIfInBounds bc.b _)[b]? = _
  rw [Px (ki bA)]
 have zQ : ({ aC with heap := aC.heap.setIfInBounds bc.b (.map bC bE) } : World).heap[bc.b]? = some (.map bC bE) := by
  show (aC.heap.setIfInBounds bc.b _)[bc.b]? = _
  simp [aH]
 have dP : ({ aC with heap := aC.heap.setIfInBounds bc.b (.map bC bE) } : World).heap.size = aC.heap.size := by simp
 have ed : Ext ax aC ⟨cg ax.β l bc, ax.I⟩ { aC with heap := aC.heap.setIfInBounds bc.b (.map bC bE) } l s.H.length :=
  Ext.write h.rel.rel cU iV rfl (aK _) id rfl dP tU rfl rfl
 have mT : Ext ax aC ⟨cg ax.β l bc, ax.I⟩ { aC with heap := aC.heap.setIfInBounds bc.b (.map bC bE) } 0 s.H.length := ed.le (cx _) (aK _)
 have xK : bC.toList.Sublist es.toList := by
  rcases W3 with ⟨rfl, -⟩ | ⟨j, rfl, -⟩
  · exact r3 _
  · rw [Y2]; exact List.eraseIdx_sublist _ _
 refine ⟨bC, ⟨cg ax.β l bc, ax.I⟩, _, cf, xK, ⟨⟨?_, fun t => ?_, h.rel.size, ?_⟩, ⟨⟨?_, jA _ _, fun x hx => ?_⟩, h.bN.2⟩, ?_, fun m hm => ?_, h.marks.ext mT, ?_, ?_, ?_, ?_, ?_, ?_, ?_⟩⟩
 · exact bb.write h.rel.rel cU iV rfl iV (aK _) id rfl dP tU (.map ajy) ⟨ou, iV, bC, bE, zQ, cn.ext h.rel.rel ed, dZ.ext h.rel.rel ed, lx⟩
 · exact ((h.rel.clear).env t).ext h.rel.rel mT
 · show min s.low l <= (s.H.set l _).length
   rw [zo]
   exact c4 (jA _ _) h.rel.low
 · show st.H.length <= (s.H.set l _).length
   rw [zo]; exact h.bN.1.len
 · have W4 : x < min st.low l := hx
   show (s.H.set l _)[x]? = _
   rw [k4 (by omega)]
   exact h.bN.1.same x hx
 · show li < (s.H.set l _).length
   rw [zo]; exact h.len
 · exact (h.ext m hm).trans (ed.le (by omega) h.bN.1.len)
 · exact ⟨av, by show cg ax.β l bc li = _; rw [dp (by omega)]; exact b5, bZ⟩
 · exact ⟨bc, de _ _ _, cR⟩
 · show (s.H.set l _)[li]? = _
   rw [k4 (by omega)]; exact h.gone
 · show (s.H.set l _)[l]? = _
   rw [tc (h.rel.rel.lt cU)]
 · rw [tU r (fun q => ?_)]
   · exact h.iter
   · have := h.rel.rel.inj _ _ _ _ b5 cU (by rw [bZ]; exact q)
     omega
 · rw [<- cR]; exact zQ
 · intro p hp hb
   refine h.hand p ?_ hb
   rcases W3 with ⟨rfl, rfl⟩ | ⟨j, rfl, rfl⟩
   · exact hp
   · rw [Y2] at hp
     exact W2 hp
end
end Go.Abs
namespace Go.Abs
open Go
variable {C : Ctx} {fid : Nat -> Nat} {w w' : World} {G G' : bT} {H H' : Heap}
structure yS where
 ec : cm
 c : aj
 EF : List b3
 m : aj
 k : aj
 bL : Nat
structure W5 (C : Ctx) (vars : List Nat) (N : Nat) (body : Code) (D : yS) : Prop where
 ok : ∃ (sX : Code) (x id : Nat) (ops : Array Oper) (os : List Oper) (gQ : Oper) (m k : Operand) (t eh q3 u : TypeId),
  body = .seq sX (.cond (.tmp x) (.region id ops false) .skip) /\ C.code vars N sX = some D.ec /\ C.bV vars (.tmp x) = some D.c /\ ops.toList = os ++ [gQ] /\ dH (C.oper vars N ops) os = some D.EF /\
  gQ.op = .call { callee := .builtin .delete, args := #[m, k], argTypes := #[t, u] } /\ gQ.dst = none /\ gQ.guard = none /\ C.bV vars m = some D.m /\ C.bV vars k = some D.k /\ C.P.underlying t = some (.map eh q3) /\ C.iQ eh = some D.bL
def e9.Bc (R : e9) (call : c3) (kv : V × V) (st : au) : Option au :=
 match R.step call (.ba [.bool true, kv.1, kv.2]) { st with low := st.H.length } with
 | some bW => match R.more.ag bW.aE bW.aw with
   | .bool true =>
     if dN (bJ bW.aw R.it) (bJ st.aw R.it) = true then
      match c9 call R.t2 (({ bW with aE := [] } : au).put (some R.pair) (.ba [kv.1, kv.2])) [] with
      | some (gi, _) => some { gi with aE := [] }
      | none => none
     else none
   | _ => none
 | none => none
def Of (R : e9) (D : yS) (ad : Nat -> Option ca) (l li : Nat) (bk : List (V × V)) (kv : V × V) (s : au) (Inv : List (V × V) -> au -> Prop) : Prop :=
 ∃ s2 eV, R.Bc (cK ad) kv s = some s2 /\ dO ad D.ec s2 = some (.normal, eV) /\ li < eV.low /\
   ((D.c.ag eV.aE eV.aw = .bool false /\ Inv bk eV) \/
    (D.c.ag eV.aE eV.aw = .bool true /\ ∃ jx wr bN, c9 (cK ad) D.EF { eV with aE := [] } [] = some (jx, wr) /\ li < jx.low /\ D.m.ag jx.aE jx.aw = .map l /\ hv D.bL (D.k.ag jx.aE jx.aw) bk = some bN /\
      Inv (hY D.bL (D.k.ag jx.aE jx.aw) bk) { jx with aE := [], H := jx.H.set l (.map (hY D.bL (D.k.ag jx.aE jx.aw) bk)), low := min jx.low l }))
theorem ajz {α β : Type} {l : List α} {m : List β} {p : α × β} (h : p ∈ l.zip m) : ∃ i : Nat, l[i]? = some p.1 /\ m[i]? = some p.2 := by
 obtain ⟨i, hi⟩ := nu.1 h
 refine ⟨i, ?_⟩
 rw [zl] at hi
 exact hi
theorem ajA {α β : Type} {l : List α} {m : List β} {i : Nat} {a : α} {b : β} (h1 : l[i]? = some a) (h2 : m[i]? = some b) : (a, b) ∈ l.zip m :=
 fm (zl.2 ⟨h1, h2⟩ : (l.zip m)[i]? = some (a, b))
theorem ajB {es : Array MapEntry} (hn : (es.toList.map (·.born)).Nodup) {i j : Nat} {a b : MapEntry} (h1 : es.toList[i]? = some a) (h2 : es.toList[j]? = some b) (h : a.born = b.born) : i = j := by
 obtain ⟨hi, q1⟩ := fy.1 h1
 obtain ⟨hj, aS⟩ := fy.1 h2
 have hp := Py.1 hn
 rcases Nat.lt_trichotomy i j with q | q | q
 · exact absurd (show (es.toList.map (·.born))[i]'(by simpa using hi) = (es.toList.map (·.born))[j]'(by simpa using hj) by rw [Fh, Fh, q1, aS, h]) (hp i j (by simpa using hi) (by simpa using hj) q)
 · exact q
 · exact absurd (show (es.toList.map (·.born))[j]'(by simpa using hj) = (es.toList.map (·.born))[i]'(by simpa using hi) by rw [Fh, Fh, q1, aS, h]) (hp j i (by simpa using hj) (by simpa using hi) q)
theorem ajC {es : Array MapEntry} {seen : Array Nat} {e : MapEntry} (he : e ∈ (leftOf es seen).toList) : (leftOf es (seen.push e.born)).size < (leftOf es seen).size := by
 have asP : e ∈ es.toList /\ seen.contains e.born = false := by
  unfold leftOf at he
  simpa using he
 unfold leftOf
 have key : ∀ p : MapEntry -> Bool, (es.filter p).size = (es.toList.filter p).length := fun p => by rw [<- gW, Array.toList_filter]
 rw [key, key]
 refine filter_lt _ _ (fun x hx => ?_) e ?_ ?_ _ asP.1
 · simp only [Array.contains_push, pZ, JH] at hx ⊢
   simp at hx ⊢
   exact hx.1
 · rw [asP.2]; rfl
 · simp
theorem ajD {es bC : Array MapEntry} {seen : Array Nat} (h : bC.toList.Sublist es.toList) : (leftOf bC seen).size <= (leftOf es seen).size := by
 unfold leftOf
 have key : ∀ (es : Array MapEntry) (p : MapEntry -> Bool), (es.filter p).size = (es.toList.filter p).length := fun es p => by rw [<- gW, Array.toList_filter]
 rw [key, key]
 exact (h.filter _).length_le
theorem ajE {es : Array MapEntry} {seen : Array Nat} (h : (leftOf es seen).size = 0) : ∀ e ∈ es.toList, e.born ∈ seen := by
 intro e he
 have h0 : leftOf es seen = #[] := Y3 h
 unfold leftOf at h0
 rw [Y4] at h0
 have h1 := h0 e (by simpa using he)
 simp only [pZ, atG] at h1
 rw [Y9] at h1
 exact h1
section
variable {vars : List Nat} {N n : Nat} {ad : Nat -> Option ca}
theorem W6 {c : cm} {st : au} {r : X × au} (h : dO ad c st = some r) : ∃ n, Abs.exec (cK ad) n c st = some r := by
 obtain ⟨n, hn⟩ := fS.1 h
 exact ⟨n, qU (BL n) (aK _) c st r hn⟩
theorem ajF (cC : C.P.follows .mixedOrders = true) (bx : eR C fid) (bj : gx C fid (cK ad)) {k0 i1 i2 : Nat} {gK on ja : Oper} {jO jP jb : Array Oper} {mX mY : List Oper}
  {mt it aF more pair out ep : Nat} {tm qq qs : TypeId} {body : Code} {R : e9} {D : yS}
  (h0 : jO[k0]? = some gK) (ug : C.bV vars (.tmp mt) = some R.src) (ri : gK.op = .range tm (.tmp mt)) (uh : gK.dst = some it) (ui : gK.guard = none) (hit : it < N) (uj : C.P.underlying tm = some (.map qq qs))
  (h1 : jP.toList = on :: mX) (pn : on.op = .next (.tmp it) false) (hnd : on.dst = some aF) (rj : on.guard = none) (mQ : aF < N)
  (h2 : jb.toList = ja :: mY) (rk : ja.op = .entry (.tmp it)) (uk : ja.dst = some pair) (um : ja.guard = none) (uo : pair < N)
  (po : vars.contains it = true) (rl : R.aF = (aF, vars.contains aF)) (uq : R.pair = (pair, vars.contains pair))
  (pd : dH (C.oper vars N jP) mX = some R.t1) (nA : dH (C.oper vars N jb) mY = some R.t2) (pq : C.bV vars (.tmp more) = some R.more) (vS : W5 C vars N body D) (CC : R.it = it)
  {st : au} {l : Nat} {bk : List (V × V)} (qt : R.src.ag st.aE st.aw = .map l) (mZ : st.H[l]? = some (.map bk)) (Inv : List V -> List (V × V) -> au -> Prop) (Out : List (V × V) -> au -> Prop)
  (ur : Inv [] bk (hD it st)) (rm : ∀ d es s, Inv d es s -> bJ s.aw it = .ptr st.H.length 0)
  (oB : ∀ d es s, Inv d es s -> ∀ kv ∈ es, Of R D ad l st.H.length es kv s (fun bC ar => Inv (d ++ [kv.1]) bC ar))
  (h9 : ∀ d es s, Inv d es s -> (∀ kv ∈ es, kv.1 ∈ d) -> ∃ ar, R.fin (cK ad) s = some ar /\ st.H.length < ar.low /\ Out es ar)
  {a : Act} {ro : Option Nat} {base : Nat} {Q LP : Exit -> Act -> World -> Prop} (aa : dx C fid vars N G st a w) (eB : ua G st.ro ro) (ev : j7 C G w base a.defers) (hb : base <= w.heap.size)
  (dy : ∀ es ar G' bf w', Out es ar -> fU st { ar with low := min st.low l } -> Fin C fid vars N base st G w { ar with low := min st.low l } G' bf w' -> Q .normal bf w') :
  wpOpIn (ek ro) 0 C.P jO LP k0 (fun bf w' => (Code.block out (.loop (.seq (.region i1 jP false) (.seq (.cond (.tmp more) .skip (.exit out)) (.block ep (.seq (.region i2 jb false) body)))))).wpIn (ek ro) 0 C.P Q bf w') a w := by
 obtain ⟨sX, sk, W7, I2, W8, gQ, cZ, FU, arR, arS, arT, arU, rfl, mO, ajG, Og, ajH, W9, ajI, ajJ, ajK, iy, ajL, ajM⟩ := vS.ok
 have lh := rf bx aa (.tmp mt) R.src ug
 rw [qt] at lh
 obtain ⟨eU, uu, LQ, LR⟩ := lh.mapInv
 obtain ⟨-, -, es, bE, fL, ee, cO, cp⟩ := xL aa.rel uu mZ
 have iZ : l < st.H.length := aa.rel.lt uu
 have Cb : (execOp a.eval gK).run C.P w = .ok (.value (.pointer (some ⟨w.heap.size, 0, none⟩))) (w.alloc (.mapIter (some eU.b) bE #[] bE)) := by
  unfold execOp
  rw [ri]
  have e : a.eval (.tmp mt) = .map (some eU.b) := LR
  simp only [e, Sem.run_bind, run_range_map w tm qq qs eU.b es bE uj fL, Result.andThen_ok, Sem.run_pure]
 have LU := aa.rel.push .gone (.mapIter (some eU.b) bE #[] bE) 0 0 ⟨rfl, rfl⟩
 have qp : ∀ m k, k <= st.H.length -> Ext G w ⟨cg G.β st.H.length ⟨w.heap.size, 0, 0, false⟩, G.I⟩ (w.alloc (.mapIter (some eU.b) bE #[] bE)) m k := fun m k ai => (Ext.push aa.rel (.mapIter (some eU.b) bE #[] bE) 0 0 m).le (aK _) ai
 have LV : dx C fid vars N ⟨cg G.β st.H.length ⟨w.heap.size, 0, 0, false⟩, G.I⟩ { st with H := st.H ++ [.gone] } a (w.alloc (.mapIter (some eU.b) bE #[] bE)) :=
  ⟨LU, fun t => (aa.env t).ext aa.rel (qp 0 0 (cx _)), aa.size, by have := aa.low; simp only [kg, iv, qQ]; omega⟩
 have ov : dx C fid vars N ⟨cg G.β st.H.length ⟨w.heap.size, 0, 0, false⟩, G.I⟩ (hD it st) (a.put (some it) (.pointer (some ⟨w.heap.size, 0, none⟩))) (w.alloc (.mapIter (some eU.b) bE #[] bE)) := by
  have := LV.put hit (v := .ptr st.H.length 0) (x := .pointer (some ⟨w.heap.size, 0, none⟩)) (.ptr st.H.length 0 ⟨w.heap.size, 0, 0, false⟩ (de _ _ _) rfl)
  rw [po] at this
  exact this.clear
 suffices LW : ∀ G' bf w', dx C fid vars N G' (hD it st) bf w' -> (∀ m, m <= (hD it st).H.length -> Ext ⟨cg G.β st.H.length ⟨w.heap.size, 0, 0, false⟩, G.I⟩ (w.alloc (.mapIter (some eU.b) bE #[] bE)) G' w' m (hD it st).H.length) ->
   bf.defers = a.defers -> (Code.block out (.loop (.seq (.region i1 jP false) (.seq (.cond (.tmp more) .skip (.exit out)) (.block ep (.seq (.region i2 jb false) (.seq sX (.cond (.tmp sk) (.region W7 I2 false) .skip)))))))).wpIn (ek ro) 0 C.P Q bf w' by
  refine Gk h0 ui (by rw [ri]; simp) Cb ?_
  rw [uh]
  exact LW _ _ _ ov (fun m _ => .refl _ _ _ _) (by rw [put_defers])
 intro G' bf w' bG ch eL
 refine wpIn_block (Ga (fun k al aC => ∃ d seen es bk s ax, Inv d bk s /\ (leftOf es seen).size < k /\ pP C fid vars N base st.H.length l w.heap.size eU.b bE st G w seen es d bk s ax al aC) ?_
  (j := (leftOf es #[]).size + 1) ?_)
 · rintro k al aC ⟨d, seen, es, bk, s, ax, aZ, ai, bM⟩
   obtain ⟨bs, rfl⟩ : ∃ bs, k = bs + 1 := ⟨k - 1, by omega⟩
   refine ⟨bs, rfl, ?_⟩
   obtain ⟨av, b5, bZ⟩ := bM.hi
   obtain ⟨bc, cU, cR⟩ := bM.hm
   have CD : al.eval (.tmp it) = .pointer (some ⟨w.heap.size, 0, none⟩) := by
    have := bM.rel.env it
    rw [show dD vars s it = bJ s.aw it by unfold dD; rw [if_pos po], rm d bk s aZ] at this
    obtain ⟨h5, ej, -, eM⟩ := this.nB
    rw [b5] at ej; cases ej
    rw [bZ] at eM; exact eM
   have uv : ∀ c, on.op ≠ .defer c := by rw [pn]; simp
   have zT : ∀ c, ja.op ≠ .defer c := by rw [rk]; simp
   obtain ⟨ac5, ac6, bC, q4, CE, vF, xq, xr⟩ := xL bM.rel.rel cU bM.mp
   rw [cR, bM.map] at CE
   cases CE
   have LS : bk.length = es.size := by
    have := vF.length
    simpa using this.symm
   rcases Sv (P := C.P) on.type bM.iter bM.map xr.1 (aK _) with ⟨dP, cf⟩ | ⟨e, he, bB, uw, LX, LY, cf⟩
   ·
    have eo : ∀ kv ∈ bk, kv.1 ∈ d := fun kv kP => by
     obtain ⟨i, hi⟩ := nu.1 kP
     have qu : i < es.toList.length := by
      have := (fy.1 hi).1
      simp; omega
     have ajN : es.toList[i]? = some es.toList[i] := oV qu
     exact bM.hand _ (ajA ajN hi) (ajE dP _ (JQ qu))
    obtain ⟨ar, ae, ix, LZ⟩ := h9 d bk s aZ eo
    unfold e9.fin e9.step at ae
    split at ae
    · rename_i s1 gn
      split at gn
      · rename_i jc wr hex
        cases gn
        split at ae
        · rename_i ux
          cases ae
          have xM : (execOp al.eval on).run C.P aC = .ok (.value (.tuple #[.bool false])) aC := by
           unfold execOp
           rw [pn]
           simp only [CD, Sem.run_bind, cf, Result.andThen_ok, Sem.run_pure]
          have ub : dx C fid vars N ax (({ s with aE := [], low := s.H.length } : au).put (some R.aF) (.ba [.bool false])) (al.put (some aF) (.tuple #[.bool false])) aC := by
           rw [rl]
           exact bM.rel.reset.put mQ (.ba _ _ (.cons _ _ _ _ (.p _ _ (.bool false)) .nil))
          refine wpIn_seq (Af bx bj h1 hnd rj uv pd xM ub hex fun bq a2 fr gq iB rh => ?_)
          have fG := jL ({ s with aE := [], low := s.H.length } : au) (some R.aF) (.ba [.bool false])
          have dX := nI bj.bN _ _ _ _ _ (by rw [fG.1, fG.2.1]; exact aK _) hex
          have eC : pP C fid vars N base st.H.length l w.heap.size eU.b bE st G w seen es d bk { jc with aE := [] } bq a2 fr := by
           refine bM.on iZ gq.clear (fun m hm => ?_) ix ?_ ?_ ?_
           · have := iB m hm
             rw [fG.1] at this; exact this
           · have := dX.1
             rw [fG.1, fG.2.1] at this; exact this
           · exact dX.2.trans fG.2.2
           · have := bM.marks.ext (iB 0 (cx _))
             rw [rh]; exact this
          have af := rf bx eC.rel (.tmp more) R.more pq
          rw [ux] at af
          refine wpIn_seq (wpIn_cond_false af.j1 (wpIn_exit ?_))
          show (if out = out then Q .normal a2 fr else _)
          rw [if_pos rfl]
          have := eC.len
          exact dy _ _ bq a2 fr LZ eC.bN ⟨⟨eC.rel.rel, eC.rel.env, eC.rel.size, c4 (asU _ _) (c4 (r7 iZ) (r7 eC.len))⟩, eC.ext, eC.marks⟩
        · cases ae
      · cases gn
    · cases ae
   ·
    have Xa : e ∈ es.toList /\ seen.contains e.born = false := by
     unfold leftOf at he
     simpa using he
    obtain ⟨i, hi⟩ := nu.1 Xa.1
    have ko := ajC he
    have qu : i < es.toList.length := (fy.1 hi).1
    obtain ⟨L0, vP⟩ := Gl bM.rel.rel b5 bM.gone
    obtain ⟨kv, kP⟩ : ∃ kv, bk[i]? = some kv := ⟨bk[i]'(by simp at qu; omega), by simp⟩
    have L1 : bg fid ax aC kv.1 e.key := by
     obtain ⟨x, hx, hr⟩ := vF.get (i := i) (v := kv.1) (by rw [kh, kP]; rfl)
     rw [kh, hi] at hx
     cases hx; exact hr
    have na : bg fid ax aC kv.2 e.val := by
     obtain ⟨x, hx, hr⟩ := xq.get (i := i) (v := kv.2) (by rw [kh, kP]; rfl)
     rw [kh, hi] at hx
     cases hx; exact hr
    obtain ⟨arV, eV, sY, Gn, Sg, F3⟩ := oB d bk s aZ kv (fm kP)
    have hT := turn bM.rel.rel b5 vP (.mapIter (some eU.b) bE (seen.push e.born) bE) .gone fun _ _ _ => ⟨L0, vP⟩
    rw [Gm bM.gone] at hT
    have uy : bB.heap = (aC.putObj av.b (.mapIter (some eU.b) bE (seen.push e.born) bE)).heap := by rw [uw, bZ]; rfl
    have xO : bb C fid ax s.H bB := hT.1.la uy
    have xP : ∀ m, m <= st.H.length -> Ext ax aC ax bB m s.H.length := fun m hm => (hT.2.le hm (aK _)).trans (.la uy LX LY _ _)
    have CF : bB.heap[w.heap.size]? = some (.mapIter (some eU.b) bE (seen.push e.born) bE) := by
     rw [uy, <- bZ]; exact World.putObj_heap_same (bM.rel.rel.blk _ _ b5)
    have pb : bB.heap[eU.b]? = some (.map es bE) := by
     rw [uy, World.putObj_heap_other (fun q => ?_)]
     · exact bM.map
     · have := bM.rel.rel.inj _ _ _ _ b5 cU (by rw [cR, <- q]); omega
    have CG : dx C fid vars N ax s al bB := ⟨xO, fun t => (bM.rel.env t).ext bM.rel.rel (xP 0 (cx _)), bM.rel.size, bM.rel.low⟩
    have xQ := xP 0 (cx _)
    have CH : pP C fid vars N base st.H.length l w.heap.size eU.b bE st G w (seen.push e.born) es (d ++ [kv.1]) bk s ax al bB :=
     ⟨CG, bM.bN, bM.len, fun m hm => (bM.ext m hm).trans ((xP m (by omega)).le (aK _) bM.bN.1.len), bM.marks.ext xQ, bM.hi, bM.hm, bM.gone, bM.mp, CF, pb, fun p hp Bd => by
      obtain ⟨j, ajO, Xb⟩ := ajz hp
      rw [Array.mem_push] at Bd
      rcases Bd with Bd | Bd
      · exact wX _ (bM.hand p hp Bd)
      · have := ajB xr.2 ajO hi Bd
        subst this
        rw [kP] at Xb
        cases Xb
        simp⟩
    have CI := L1.ext bM.rel.rel xQ
    have CJ := na.ext bM.rel.rel xQ
    unfold e9.Bc e9.step at sY
    split at sY
    case h_2 => cases sY
    rename_i s1 gn
    split at gn
    case h_2 => cases gn
    rename_i jc wr hex
    cases gn
    split at sY
    case h_2 => cases sY
    rename_i ux
    split at sY
    case isFalse => cases sY
    rename_i L2
    have L3 : bJ jc.aw it = .ptr st.H.length 0 := by
     have := tV _ _ L2
     rw [CC] at this
     exact this.trans (rm d bk s aZ)
    split at sY
    case h_2 => cases sY
    rename_i s2 L4 CK
    cases sY
    have xM : (execOp al.eval on).run C.P aC = .ok (.value (.tuple #[.bool true, e.key, e.val])) bB := by
     unfold execOp
     rw [pn]
     simp only [CD, Sem.run_bind, cf, Result.andThen_ok, Sem.run_pure]
    have ub : dx C fid vars N ax (({ s with aE := [], low := s.H.length } : au).put (some R.aF) (.ba [.bool true, kv.1, kv.2])) (al.put (some aF) (.tuple #[.bool true, e.key, e.val])) bB := by
     rw [rl]
     exact CG.reset.put mQ (.ba _ _ (.cons _ _ _ _ (.p _ _ (.bool true)) (.cons _ _ _ _ CI (.cons _ _ _ _ CJ .nil))))
    have fG := jL ({ s with aE := [], low := s.H.length } : au) (some R.aF) (.ba [.bool true, kv.1, kv.2])
    have dX := nI bj.bN _ _ _ _ _ (by rw [fG.1, fG.2.1]; exact aK _) hex
    have lA := jL ({ jc with aE := [] } : au) (some R.pair) (.ba [kv.1, kv.2])
    have qn : jc.low <= jc.H.length := dX.bound (by rw [fG.1, fG.2.1]; exact aK _)
    have uz := nI bj.bN _ _ _ _ _ (by rw [lA.1, lA.2.1]; exact qn) CK
    have xy : s2.low <= s2.H.length := uz.bound (by rw [lA.1, lA.2.1]; exact qn)
    obtain ⟨FW, Xc⟩ := W6 Gn
    have rn := lq bj.bN FW _ _ _ _ (show ({ s2 with aE := [] } : au).low <= ({ s2 with aE := [] } : au).H.length from xy) Xc
    have ada : eV.low <= s2.low := rn.1.low
    have adb : s2.low <= jc.low := by have := uz.1.low; rw [lA.2.1] at this; exact this
    refine wpIn_seq (Af bx bj h1 hnd rj uv pd xM ub hex fun bq a2 fr gq iB rh => ?_)
    have eC : pP C fid vars N base st.H.length l w.heap.size eU.b bE st G w (seen.push e.born) es (d ++ [kv.1]) bk { jc with aE := [] } bq a2 fr := by
     refine CH.on iZ gq.clear (fun m hm => ?_) (by show st.H.length < jc.low; omega) ?_ ?_ ?_
     · have := iB m hm
       rw [fG.1] at this; exact this
     · have := dX.1
       rw [fG.1, fG.2.1] at this; exact this
     · exact dX.2.trans fG.2.2
     · have := CH.marks.ext (iB 0 (cx _))
       rw [rh]; exact this
    have af := rf bx eC.rel (.tmp more) R.more pq
    rw [ux] at af
    refine wpIn_seq (wpIn_cond_true af.j1 (wpIn_skip ?_))
    show (Code.block ep (.seq (.region i2 jb false) (.seq sX (.cond (.tmp sk) (.region W7 I2 false) .skip)))).wpIn (ek ro) 0 C.P _ a2 fr
    refine wpIn_block (wpIn_seq ?_)
    have L5 : a2.eval (.tmp it) = .pointer (some ⟨w.heap.size, 0, none⟩) := by
     have := eC.rel.env it
     rw [show dD vars { jc with aE := [] } it = bJ jc.aw it by unfold dD; rw [if_pos po], L3] at this
     obtain ⟨h5, ej, -, eM⟩ := this.nB
     obtain ⟨gu, jH, hC⟩ := eC.hi
     rw [jH] at ej; cases ej
     rw [hC] at eM; exact eM
    have L6 : (execOp a2.eval ja).run C.P fr = .ok (.value (.tuple #[e.key, e.val])) fr := by
     have Cs := Sw (P := C.P) eC.iter eC.map Xa.1 xr.2
     unfold execOp
     rw [rk]
     simp only [L5, Sem.run_bind, Cs, Result.andThen_ok, Sem.run_pure]
    have CL := iB 0 (cx _)
    have L7 : dx C fid vars N bq (({ jc with aE := [] } : au).put (some R.pair) (.ba [kv.1, kv.2])) (a2.put (some pair) (.tuple #[e.key, e.val])) fr := by
     rw [uq]
     exact eC.rel.put uo (.ba _ _ (.cons _ _ _ _ (CI.ext xO CL) (.cons _ _ _ _ (CJ.ext xO CL) .nil)))
    refine Af bx bj h2 uk um zT nA L6 L7 CK fun iW a3 Ag xH ud Cv => ?_
    have pr : pP C fid vars N base st.H.length l w.heap.size eU.b bE st G w (seen.push e.born) es (d ++ [kv.1]) bk { s2 with aE := [] } iW a3 Ag := by
     refine eC.on iZ xH.clear (fun m hm => ?_) (by show st.H.length < s2.low; omega) ?_ ?_ ?_
     · have := ud m hm
       rw [lA.1] at this; exact this
     · have := uz.1
       rw [lA.1, lA.2.1] at this
       exact ⟨this.len, c4 this.low qn, this.same⟩
     · exact uz.2.trans lA.2.2
     · have := eC.marks.ext (ud 0 (cx _))
       rw [Cv]; exact this
    refine wpIn_seq (qo (n := FW) cC bx bj sX _ _ _ mO _ _ _ Xc iW a3 Ag ro base _ pr.rel ?_ pr.marks (c4 hb (pr.ext 0 (cx _)).size) fun CM a4 Gp F => ?_)
    · have lv : ({ s2 with aE := [] } : au).ro = st.ro := pr.bN.2
      rw [lv]
      exact eB.ext (pr.ext 0 (cx _))
    have vT : pP C fid vars N base st.H.length l w.heap.size eU.b bE st G w (seen.push e.born) es (d ++ [kv.1]) bk eV CM a4 Gp :=
     pr.on iZ F.rel F.ext Sg ⟨rn.1.len, c4 rn.1.low xy, rn.1.same⟩ rn.2 F.marks
    have I3 := rf bx vT.rel (.tmp sk) D.c ajG
    rcases F3 with ⟨hc, xN⟩ | ⟨hc, jx, arW, arX, Xd, ajP, ajQ, ajR, xN⟩
    · rw [hc] at I3
      refine wpIn_cond_false I3.j1 (wpIn_skip ?_)
      exact ⟨d ++ [kv.1], seen.push e.born, es, bk, eV, CM, xN, by omega, vT⟩
    · rw [hc] at I3
      refine wpIn_cond_true I3.j1 (wpIn_region ?_)
      have ajS : I2.size = W8.length + 1 := by rw [<- gW, Og]; simp
      rw [ajS, Fa]
      have Xe : eV.low <= eV.H.length := vT.rel.low
      have I4 := nI bj.bN _ _ _ _ _ (show ({ eV with aE := [] } : au).low <= ({ eV with aE := [] } : au).H.length from Xe) Xd
      refine LM bx bj (k0 := 0) (fun j hj => by rw [eF, <- iK, Og, hq hj]) ajH vT.rel.clear Xd fun ajT a5 ajU ajV Xf ajW => ?_
      have ai : I2[0 + W8.length]? = some gQ := by rw [eF, <- iK, Og]; simp
      have ajX : pP C fid vars N base st.H.length l w.heap.size eU.b bE st G w (seen.push e.born) es (d ++ [kv.1]) bk jx ajT a5 ajU := by
       refine vT.on iZ ajV Xf ajP ⟨I4.1.len, c4 I4.1.low Xe, I4.1.same⟩ I4.2 ?_
       rw [ajW]
       exact vT.marks.ext (Xf 0 (cx _))
      obtain ⟨ajY, ajZ, arY, aj0, xK, aj1⟩ := ajX.del iZ (vars' := vars) bx ajL W9 ajK iy ajM ajQ ajR
      rw [th, wpOpsIn_cons]
      refine Gk ai ajJ (by rw [W9]; simp) aj0 ?_
      rw [ajI]
      refine ⟨d ++ [kv.1], seen.push e.born, ajY, _, _, ajZ, xN, ?_, aj1⟩
      have := ajD (seen := seen.push e.born) xK
      omega
 · have iz : (hD it st).H.length = st.H.length + 1 := by unfold hD; simp
   have ah := ch (st.H.length + 1) (by show st.H.length + 1 <= (hD it st).H.length; rw [iz]; exact aK _)
   have ez := qp 0 st.H.length (aK _)
   have asQ : (⟨cg G.β st.H.length ⟨w.heap.size, 0, 0, false⟩, G.I⟩ : bT).β l = some eU := by
    show cg G.β st.H.length ⟨w.heap.size, 0, 0, false⟩ l = some eU
    rw [dp (by omega)]; exact uu
   have xi : (⟨cg G.β st.H.length ⟨w.heap.size, 0, 0, false⟩, G.I⟩ : bT).β st.H.length = some ⟨w.heap.size, 0, 0, false⟩ := de _ _ _
   refine ⟨[], #[], es, bk, hD it st, G', ur, wZ _, ⟨⟨bG.rel, bG.env, bG.size, ?_⟩, ⟨⟨?_, jA _ _, fun x hx => ?_⟩, rfl⟩, ?_, fun m hm => ?_, ?_, ?_, ?_, ?_, ?_, ?_, ?_, fun p _ hp => by simp at hp⟩⟩
   · exact ov.low
   · show st.H.length <= (hD it st).H.length
     omega
   · have ed : x < min st.low l := hx
     show (st.H ++ [cE.gone])[x]? = _
     rw [hq (by omega)]
   · omega
   · exact (qp m st.H.length (aK _)).trans ((ch m (by show m <= (hD it st).H.length; omega)).le (aK _) (by show st.H.length <= (hD it st).H.length; omega))
   · rw [eL]
     exact (ev.ext ez).ext ah
   · exact vR ah xi rfl
   · exact vR ah asQ LQ
   · show (st.H ++ [cE.gone])[st.H.length]? = _
     simp
   · show (st.H ++ [cE.gone])[l]? = _
     rw [hq iZ]; exact mZ
   · have := vQ ah ov.rel xi (wZ _)
     rw [this]; exact oe _ _
   · have := vQ ah ov.rel asQ (by omega)
     rw [this, alloc_old (aa.rel.blk _ _ uu)]; exact fL
end
end Go.Abs
namespace Go.Abs
open Go
variable {C : Ctx} {fid : Nat -> Nat} {w w' : World} {G G' : bT} {H H' : Heap}
variable {vars : List Nat} {N : Nat} {ad : Nat -> Option ca}
theorem c1.dO (cC : C.P.follows .mixedOrders = true) (bx : eR C fid) (bj : gx C fid (cK ad)) {c : Code} {ac : cm} (hc : C.code vars N c = some ac) {st aU : au} {x : X} (he : Abs.dO ad ac st = some (x, aU)) :
  c1 C fid vars N c st (fun y s => y = x /\ s = aU) := by
 obtain ⟨n, hn⟩ := W6 he
 exact c1.exec (n := n) cC bx bj hc hn
theorem c1.block {id : Nat} {c : Code} {st : au} {Out : X -> au -> Prop} (h : c1 C fid vars N c st (fun x s => Out (Ai id x) s)) : c1 C fid vars N (.block id c) st Out := fun G a w ro base Q aa eB ev hb dy => by
 refine wpIn_block (h G a w ro base _ aa eB ev hb fun x s ax al aC ho ae F => ?_)
 have := dy _ _ ax al aC ho ae F
 cases x with
 | normal => exact this
 | ret => exact this
 | exit j =>
   simp only [Ai] at this
   cases hb : Nat.beq j id with
   | true =>
     rw [hb] at this
     have e := fl hb
     subst e
     simp only [z1, Exit.inBlock, if_true]
     exact this
   | false =>
     rw [hb] at this
     have e : ¬ j = id := fun e => by rw [e, zt] at hb; cases hb
     simp only [z1, Exit.inBlock, e, if_false]
     exact this
theorem c1.loop {c : Code} {st : au} {Out : X -> au -> Prop} (I : Nat -> au -> Prop) (k : Nat) (h0 : I k st) (h : ∀ k s, I k s -> c1 C fid vars N c s (fun x ar => (x = .normal /\ ∃ j, k = j + 1 /\ I j ar) \/ (x ≠ .normal /\ Out x ar))) : c1 C fid vars N (.loop c) st Out := fun G a w ro base Q aa eB ev hb dy => by
 refine Ga (fun k al aC => ∃ j s ax, k = j + 1 /\ I j s /\ fU st s /\ Fin C fid vars N base st G w s ax al aC) ?_ (j := k + 1) ⟨k, st, G, rfl, h0, .refl _, .refl aa ev⟩
 rintro _ al aC ⟨k, s, ax, rfl, aZ, ae, F⟩
 refine ⟨k, rfl, ?_⟩
 refine h k s aZ ax al aC ro base _ F.rel (by rw [ae.2]; exact eB.ext (F.ext 0 (cx _))) F.marks (c4 hb (F.ext 0 (cx _)).size) fun x s2 bq a2 bB ho xS sA => ?_
 rcases ho with ⟨rfl, j, hj, aj2⟩ | ⟨hx, ho⟩
 · exact ⟨j, s2, bq, hj, aj2, ae.trans xS, F.trans sA ae xS⟩
 · have := dy x s2 bq a2 bB ho (ae.trans xS) (F.trans sA ae xS)
   cases x with
   | normal => exact absurd rfl hx
   | exit id => exact this
   | ret => exact this
def Oh : Go.Op -> Option (Operand × Operand × TypeId × TypeId)
 | .call ⟨.builtin .delete, ⟨[m, k]⟩, ⟨[t, u]⟩⟩ => some (m, k, t, u)
 | _ => none
theorem aj3 {o : Go.Op} {m k : Operand} {t u : TypeId} (h : Oh o = some (m, k, t, u)) : o = .call { callee := .builtin .delete, args := #[m, k], argTypes := #[t, u] } := by
 unfold Oh at h
 split at h
 · cases h; rfl
 · cases h
def Be (C : Ctx) (vars : List Nat) (N : Nat) : Code -> Option yS
 | .seq sX (.cond (.tmp x) (.region _ ops false) .skip) => match xT ops.toList with
   | some (os, ⟨none, gQ, _, _, _, none⟩) => match Oh gQ with
     | some (m, k, t, _) => match C.code vars N sX, C.bV vars (.tmp x), dH (C.oper vars N ops) os, C.bV vars m, C.bV vars k, C.P.underlying t with
       | some ec, some c, some EF, some am, some gR, some (.map eh _) => (C.iQ eh).map fun bL => ⟨ec, c, EF, am, gR, bL⟩
       | _, _, _, _, _, _ => none
     | _ => none
   | _ => none
 | _ => none
theorem aj4 {body : Code} {D : yS} (h : Be C vars N body = some D) : W5 C vars N body D := by
 unfold Be at h
 split at h
 · rename_i sX x id ops
   split at h
   · rename_i os gQ ty ps k8 ez
     split at h
     · rename_i m k t u hd
       split at h
       · rename_i ec c EF am gR eh q3 ah e2 b5 cU ej jH
         obtain ⟨bL, gh, rfl⟩ := cD.1 h
         exact ⟨sX, x, id, ops, os, _, m, k, t, eh, q3, u, rfl, ah, e2, L9 ez, b5, aj3 hd, rfl, rfl, cU, ej, jH, gh⟩
       · cases h
     · cases h
   · cases h
 · cases h
def I5 : Code -> Code
 | .seq (.region _ _ false) (.block _ (.loop (.seq (.region _ _ false) (.seq (.cond (.tmp _) .skip (.exit _)) (.block _ (.seq (.region _ _ false) body)))))) => body
 | _ => .skip
theorem c1.aj5 (cC : C.P.follows .mixedOrders = true) (bx : eR C fid) (bj : gx C fid (cK ad)) {c : Code} {R : e9} {D : yS} (hr : xU C vars N c = some R) (hd : Be C vars N (I5 c) = some D) {iC st : au} {wr : List Bool} (he : c9 (cK ad) R.t0 { iC with aE := [] } [] = some (st, wr))
  {l : Nat} {bk : List (V × V)} (qt : R.src.ag st.aE st.aw = .map l) (mZ : st.H[l]? = some (.map bk)) (Inv : List V -> List (V × V) -> au -> Prop) (Out : List (V × V) -> au -> Prop)
  (ur : Inv [] bk (hD R.it st)) (rm : ∀ d es s, Inv d es s -> bJ s.aw R.it = .ptr st.H.length 0)
  (oB : ∀ d es s, Inv d es s -> ∀ kv ∈ es, Of R D ad l st.H.length es kv s (fun bC ar => Inv (d ++ [kv.1]) bC ar))
  (h9 : ∀ d es s, Inv d es s -> (∀ kv ∈ es, kv.1 ∈ d) -> ∃ ar, R.fin (cK ad) s = some ar /\ st.H.length < ar.low /\ Out es ar) :
  c1 C fid vars N c iC (fun x s => x = .normal /\ ∃ es ar, Out es ar /\ s = { ar with low := min st.low l }) := fun G a w ro base Q aa eB ev hb dy => by
 obtain ⟨i0, i1, i2, gK, on, ja, jO, jP, jb, oC, mX, mY, mt, aF, more, pair, out, tm, qq, qs, body, rfl, h0, ou, ug, ri, uh, ui, hit, uj, h1, pn, hnd, rj, mQ, h2, rk, uk, um, uo, po, rl, uq, pd, nA, pq, vS⟩ := (SF hr).ok
 have dX := nI bj.bN _ _ _ _ _ (show ({ iC with aE := [] } : au).low <= ({ iC with aE := [] } : au).H.length from aa.low) he
 have xR : fU iC st := dX
 have dP : jO.size = oC.length + 1 := by rw [<- gW, h0]; simp
 refine wpIn_seq (wpIn_region ?_)
 rw [dP, Fa]
 refine LM bx bj (k0 := 0) (fun j hj => by rw [eF, <- iK, h0, hq hj]) ou aa.clear he fun ax al aC bG ch eL => ?_
 have ez := ch 0 (cx _)
 have ai : jO[0 + oC.length]? = some gK := by rw [eF, <- iK, h0]; simp
 have CN : j7 C ax aC base al.defers := by rw [eL]; exact ev.ext ez
 rw [th, wpOpsIn_cons]
 exact ajF (ad := ad) cC bx bj ai ug ri uh ui hit uj h1 pn hnd rj mQ h2 rk uk um uo po rl uq pd nA pq (aj4 hd) rfl qt mZ Inv Out ur rm oB h9 bG (by rw [xR.2]; exact eB.ext ez) CN (c4 hb ez.size)
  fun es ar G' bf w' ho ae F => dy .normal _ G' bf w' ⟨rfl, es, ar, ho, rfl⟩ (xR.trans ae) (Fin.trans (st := iC) (bW := st) ⟨bG, ch, CN⟩ F xR ae)
end Go.Abs
