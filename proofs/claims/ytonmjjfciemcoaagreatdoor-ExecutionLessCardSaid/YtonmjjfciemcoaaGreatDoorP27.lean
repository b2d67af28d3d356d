/- Texts of this claim, joined and written short by a program. -/
import Derived.Test.YtonmjjfciemcoaaGreatDoorP10
import Derived.Test.YtonmjjfciemcoaaGreatDoorP09
import Derived.Test.YtonmjjfciemcoaaGreatDoorP19
import Derived.Test.YtonmjjfciemcoaaGreatDoorP00
set_option linter.unusedVariables false
set_option linter.unusedSimpArgs false
set_option linter.unusedSectionVars false
namespace Go.Abs.bz
open Go Go.Abs Go.Abs.S
def avJ:bZ:=q (R [r 22 (kM 3 ZG v20),r 23 (ls 3 t22),o 4 (.alloc [z,z,z]),n (st 3 v4 t23)]) (q (q (R [r 24 (dw 0 v4),r 25 (cb t24),r 26 (dw 0 v1),r 27 (dw 1 t26),r 28 (cb t27),r 29 (ix 1 t28),r 30 (hF (fn 224) [t25,t29]),r 31 (no t30),r 32 (m t31),rg 33 t32 false (dw 2 v4),rg 34 t32 false (cb t33),rg 35 t32 false (dw 0 v1),rg 36 t32 false (dw 1 t35),rg 37 t32 false (cb t36),rg 38 t32 false (ix 1 t37),rg 39 t32 false (hF (fn 224) [t34,t38]),rg 40 t32 false (no t39),r 41 (j3 t32 kr t40),r 42 (m t41),rg 43 t42 false (dw 0 v4),rg 44 t42 false (cb t43),rg 45 t42 false (dw 2 v4),rg 46 t42 false (cb t45),rg 47 t42 false (eq t44 t46),o 48 (j3 t42 kr t47)]) (i7 aoG (q (R [o 2 (m lg)]) rt) k)) (q (qE [r 49 (dw 0 v1),r 50 (dw 1 t49),r 51 (cb t50),r 52 (dw 0 v4),r 53 (cb t52),r 54 (kM 6 t51 t53),r 55 (ls 6 t54),r 56 (dw 0 v1),r 57 (dw 1 t56),r 58 (cb t57),r 59 (dw 2 v4),r 60 (cb t59),r 61 (kM 6 t58 t60),r 62 (ls 6 t61),o 5 (.alloc [mw,z,nl,z,z,z]),o 6 (.alloc [mw,z,nl,z,z,z]),n (st 6 v5 t55),n (st 6 v6 t62)] [0,1,3,0,8,31,63,0,128,384,0,1024,3968,8064,0,0,49279,131071]) (q (qE [r 63 (dw 1 v5),r 64 (cb t63),r 65 (ne t64 (c 0)),r 66 (m t65),rg 67 t66 false (dw 1 v6),rg 68 t66 false (cb t67),rg 69 t66 false (ne t68 (c 0)),r 70 (j3 t66 kr t69),r 71 (m t70),rg 72 t71 false (dw 1 v4),rg 73 t71 false (cb t72),rg 74 t71 false (dw 2 v5),rg 75 t71 false (cb t74),rg 76 t71 false (ix 1 t75),rg 77 t71 false (hF (fn 224) [t73,t76]),rg 78 t71 false (no t77),r 79 (j3 t71 kr t78),r 80 (m t79),rg 81 t80 false (dw 2 v6),rg 82 t80 false (cb t81),rg 83 t80 false (ix 1 t82),rg 84 t80 false (ne t83 (c 1)),r 85 (j3 t80 kr t84),r 86 (m t85),rg 87 t86 false (dw 2 v6),rg 88 t86 false (cb t87),rg 89 t86 false (kM 1 t88 (c 0)),rg 90 t86 false (cb t89),rg 91 t86 false (dw 2 v5),rg 92 t86 false (cb t91),rg 93 t86 false (dw 1 v4),rg 94 t86 false (cb t93),rg 95 t86 false (kM 1 t92 t94),rg 96 t86 false (cb t95),rg 97 t86 false (ne t90 t96),o 98 (j3 t86 kr t97)] [0,1,3,7,15,31,63,127,255,511,1023,511,2559,6655,16383,32767,65535,131071,262143,524287,1048575,2097151,4194303,8388607,16777215,33554431,67108863,134217727,16777215,285212671,16777215,1090519039,4043309055,8338276351,17179869183,34359738367]) (i7 aoI (q (R [o 2 (m lg)]) rt) k))))
def avK:bZ:=q (R [r 107 (kM 3 ZI v105),r 108 (ls 3 t107),o 9 (.alloc [z,z,z]),n (st 3 v9 t108)]) (R [r 109 (cb lf),r 110 (dw 0 v9),r 111 (cb t110),n (.p8 0 t109 t111 kr)])
def avL:bZ:=q (R [r 121 (.fail),o 122 (ex t121 0)]) (q (i7 aoJ k (e 6)) (cw 7 (q (R [r 123 (.fail),r 124 (ex t123 0),o 10 (.alloc [z]),n (st 1 v10 t124)]) (q (R [r 125 (dw 0 v1),r 126 (dw 6 t125),r 127 (cb t126),r 128 (.uY 233 [] [v10,lf]),r 129 (hF (fn 232) [t127,t128]),o 130 (no t129)]) (i7 v130 (R [r 131 (cb lf),r 132 (cb v10),n (.zP 0 t131 t132)]) k)))))
def avM:bZ:=q (R [r 119 (cb lf),o 120 (.fail)]) (cw 6 (.loop avL))
def B3:hY:=⟨137,q (R [o 1 (jA v0),o 2 (m lg)]) (q (q (R [r 11 (dw 0 v1),r 12 (dw 6 t11),r 13 (cb t12),r 14 (ix 1 t13),o 15 (gt t14 (c 12))]) (i7 aoE (q (R [o 2 (m lg)]) rt) k)) (q (q (R [r 16 (dw 0 v1),r 17 (dw 6 t16),o 18 (cb t17),o 19 (ix 1 ZG),o 20 (m (c 0))]) (cw 0 (.loop (tV 21 19 20 99 1 0 avJ)))) (q (R [r 100 (.mkMap),o 7 (.alloc [.iu]),n (st 1 lf t100)]) (q (q (R [r 101 (dw 0 v1),r 102 (dw 6 t101),o 103 (cb t102),o 104 (ix 1 ZI),o 105 (m (c 0))]) (cw 2 (.loop (tV 106 104 105 112 3 2 avK)))) (q (q (R [r 113 (dw 0 v1),r 114 (dw 6 t113),r 115 (cb t114),o 116 (ix 1 t115),o 117 (m (c 0))]) (cw 4 (.loop (tV 118 116 117 133 5 4 avM)))) (q (R [r 134 (cb lf),r 135 (ix 2 t134),r 136 (eq t135 (c 0)),o 2 (m t136)]) rt)))))),[.tmp 2],false⟩
def IX:bZ:=q (q (R [r 34 (m sG),r 35 (m lf),r 36 (ix 1 t35),o 37 (lt t34 t36)]) (i7 v37 k (e 0))) (cw 1 (qE [r 38 (m sG),r 39 (m lf),r 40 (m sG),r 41 (.ti 2 t39 (some t40) none none),r 42 (m lf),r 43 (m sG),r 44 (.ti 2 t42 none (some t43) none),r 45 (.copy 2 t41 t44),r 46 (c8 t38 t45),o 8 (m t46)] [0,0,0,6,0,0,48,126,255,511]))
def agB:hY:=⟨48,q (R [o 4 (m qD)]) (q (q (R [r 9 (m v1),o 10 (lt t9 (c 0))]) (i7 v10 (R [r 11 (.CK 9 (cs [99,97,110,110,111,116,32,98,101,32,110,101,103,97,116,105,118,101])),n (.fail)]) k)) (q (R [r 13 (m v0),r 14 (ix 1 t13),r 15 (.conv .u64 t14),r 16 (m v1),r 17 (.conv .u64 t16),r 18 (hF (fn 347) [t15,t17]),r 12 (m t18),r 19 (ex t12 0),r 20 (ex t12 1),o 5 (m t19),o 6 (m t20)]) (q (q (R [r 21 (m v5),r 22 (gt t21 (.const (.int .u64 0))),r 23 (m t22),rg 24 t23 false (m v6),rg 25 t23 false (gt t24 (.const (.int .u64 9223372036854775807))),o 26 (j3 t23 kr t25)]) (i7 v26 (R [r 27 (.CK 9 (cs [116,104,101,32,114,101,115,117,108,116,32,111,102,32,40,108,101,110,40,120,41,32,42,32,99,111,117,110,116,41,32,111,118,101,114,102,108,111,119,115])),n (.fail)]) k)) (q (R [r 28 (m v6),r 29 (.conv .i64 t28),r 30 (.mkSlice 2 [z,z] 16 t29 t29),o 7 (m t30)]) (q (R [r 31 (m lf),r 32 (m v0),r 33 (.copy 2 t31 t32),o 8 (m t33)]) (q (cw 0 (.loop IX)) (q (R [r 47 (m lf),o 4 (m t47)]) rt))))))),[.tmp 4],false⟩
def EJ:hY:=⟨15,q (R [o 3 (jA v0),o 4 (m lg)]) (q (R [r 5 (dw 0 v3),r 6 (cb t5),r 7 (cb v1),r 8 (eq t6 t7),r 9 (m t8),rg 10 t9 true (cb v2),rg 11 t9 true (dw 2 v3),rg 12 t9 true (cb t11),rg 13 t9 true (.lookup 0 (.bool false) t10 t12 false),r 14 (j3 t9 t13 lg),o 4 (m t14)]) rt),[.tmp 4],false⟩
def agC:hY:=⟨6,q (R [o 1 (jA v0),o 2 (m (.const (.kC)))]) (q (R [r 4 (hF (fn 376) []),o 3 (.alloc [.iu]),n (st 1 v3 t4)]) (q (R [r 5 (.uY 377 [] [v1,v3]),o 2 (m t5)]) rt)),[.tmp 2],false⟩
def IY:bZ:=R [o 3 (.alloc [z,z,z,z]),n (st 4 v3 ZE)]
def IZ:bZ:=cw 1 (q (q (R [r 14 (dw 2 v3),r 15 (cb t14),r 16 (ne t15 (c 0)),r 17 (m t16),rg 18 t17 false (dw 3 v3),rg 19 t17 false (cb t18),rg 20 t17 false (cb v1),rg 21 t17 false (ix 0 t20),rg 22 t17 false (ne t19 t21),o 23 (j3 t17 kr t22)]) (i7 v23 (e 0) k)) (q (R [r 24 (dw 0 v3),r 25 (cb t24),n (st 1 v2 t25)]) rt))
def I0:hY:=⟨26,q (R [o 1 (jA v0),o 2 (.alloc [z])]) (q (q (R [r 4 (cb v1),r 5 (eq t4 (cs [])),r 6 (m t5),rg 7 t6 false (cb v1),rg 8 t6 false (ix 0 t7),rg 9 t6 false (gt t8 (c 4096)),o 10 (j3 t6 kr t9)]) (i7 v10 (q (R [n (st 1 v2 (c 0))]) rt) k)) (q (q (R [r 11 (cb v1),o 12 (hF (fn 258) [t11])]) (cw 0 (.rangeFunc v12 [13] IY IZ))) (q (R [n (st 1 v2 (c 0))]) rt))),[.cell 2 none],false⟩
def agD:hY:=⟨30,q (R [o 4 (m (.const (.int .u64 0))),o 5 (m (.const (.int .u64 0)))]) (q (i7 lg (q (R [r 11 (m v0),r 12 (.conv .u32 t11),r 13 (m v1),r 14 (.conv .u32 t13),r 15 (hF (fn 433) [t12,t14]),r 10 (m t15),r 16 (ex t10 0),r 17 (ex t10 1),o 6 (m t16),o 7 (m t17)]) (q (R [r 18 (m v6),r 19 (.conv .u64 t18),r 20 (m lf),r 21 (.conv .u64 t20),o 4 (m t19),o 5 (m t21)]) rt)) k) (q (R [r 23 (m v0),r 24 (m v1),r 25 (hF (fn 434) [t23,t24]),r 22 (m t25),r 26 (ex t22 0),r 27 (ex t22 1),o 8 (m t26),o 9 (m t27)]) (q (R [r 28 (m sG),r 29 (m v9),o 4 (m t28),o 5 (m t29)]) rt))),[.tmp 4,.tmp 5],false⟩
def Ts:bZ:=q (R [r 9 (kM 1 v5 lf),r 10 (cb t9),o 3 (m t10)]) (R [r 11 (m v1),r 12 (m v3),n (.p8 1 t11 t12 kr)])
def agE:hY:=⟨15,q (R [o 0 (m (.const (.iu)))]) (q (R [r 4 (.mkMap),o 1 (m t4)]) (q (q (R [o 5 (hF (fn 449) [(cs [115,111,114,116,32,114,101,108,97,116,105,111,110,32,99,111,117,110,116,101,114,32,115,101,116,32,114,101,103,105,115,116,101,114,32,105,110,118,97,114,105,97,110,116,32,111,112,101,114,97,116,105,111,110,32,107,101,121,32,114,101,102,101,114,101,110,99,101,32,116,111,32,99,111,117,110,116,32,97,99,121,99,108,105,99,32,97,108,108,32,115,117,109,32,105,110,32,97,100,100,119,105,110,115,32,114,101,109,111,118,101,119,105,110,115,32,108,97,115,116,32,109,117,108,116,105,32,104,105,100,101,32,111,114,100,101,114,101,100,32,114,101,113,117,105,114,101,32,104,111,108,100,32,105,110,115,101,114,116,32,100,101,108,101,116,101,32,97,100,100,32,102,114,111,109,32,112,117,116,32,100,114,111,112,32,97,115,115,105,103,110,32,102,111,114,32,119,104,101,114,101,32,97,110,100,32,111,114,32,110,111,116])]),o 6 (ix 1 v5),o 7 (m (c 0))]) (cw 0 (.loop (tV 8 6 7 13 1 0 Ts)))) (q (R [r 14 (m v1),o 0 (m t14)]) rt))),[.tmp 0],false⟩
def y9:bZ:=q (q (R [r 21 (m lf),r 22 (m v6),r 23 (ix 0 t22),r 24 (lt t21 t23),r 25 (m t24),rg 26 t25 true (m v6),rg 27 t25 true (m lf),rg 28 t25 true (.r6 t26 t27),rg 29 t25 true (hF (fn 384) [t28]),rg 30 t25 true (no t29),r 31 (j3 t25 t30 lg),r 32 (m t31),rg 33 t32 true (m v6),rg 34 t32 true (m lf),rg 35 t32 true (.r6 t33 t34),rg 36 t32 true (ne t35 (.const (.int .u8 35))),r 37 (j3 t32 t36 lg),r 38 (m t37),rg 39 t38 true (m v6),rg 40 t38 true (m lf),rg 41 t38 true (.qX t39 (some t40) none),rg 42 t38 true (hF (fn 385) [t41]),rg 43 t38 true (no t42),o 44 (j3 t38 t43 lg)]) (i7 v44 k (e 3))) (q (cw 4 k) (R [r 45 (m lf),r 46 (c8 t45 (c 1)),o 7 (m t46)]))
def xA:bZ:=.seq (.region [⟨some (48,false),.mv (.var 6),none⟩,⟨some (49,false),.bin .eql (.tmp 48) (.const (.str [])),none⟩,⟨some (47,true),.mv (.tmp 49),none⟩] none) (.cond (.var 47) (.skip) (.seq (.region [⟨some (51,false),.mv (.var 6),none⟩,⟨some (52,false),.r6 (.tmp 51) (.const (.int .i64 0)),none⟩,⟨some (53,false),.call false (.func 379) [(.tmp 52)],none⟩,⟨some (50,true),.mv (.tmp 53),none⟩] none) (.cond (.var 50) (.seq (.region [⟨some (54,false),.mv (.var 6),none⟩,⟨some (55,false),.call false (.func 380) [(.tmp 54),(.func 381)],none⟩,⟨some (7,true),.mv (.tmp 55),none⟩,⟨some (56,false),.fieldAddr 0 (.var 5),none⟩,⟨none,.store 1 (.tmp 56) (.const (.int .i64 1)),none⟩] none) (.seq (.region [⟨some (57,false),.load none (.var 2),none⟩,⟨some (58,false),.mv (.var 6),none⟩,⟨some (59,false),.mv (.var 7),none⟩,⟨some (60,false),.qX (.tmp 58) none (some (.tmp 59)),none⟩,⟨some (61,true),.lookup 1 (.bool false) (.tmp 57) (.tmp 60) false,none⟩] (some [0,0,0,6,15])) (.cond (.var 61) (.region [⟨some (62,false),.fieldAddr 0 (.var 5),none⟩,⟨none,.store 1 (.tmp 62) (.const (.int .i64 2)),none⟩] none) (.skip)))) (.seq (.region [⟨some (64,false),.mv (.var 6),none⟩,⟨some (65,false),.r6 (.tmp 64) (.const (.int .i64 0)),none⟩,⟨some (66,false),.call false (.func 382) [(.tmp 65)],none⟩,⟨some (63,true),.mv (.tmp 66),none⟩] none) (.cond (.var 63) (.region [⟨some (67,false),.mv (.var 6),none⟩,⟨some (68,false),.call false (.func 380) [(.tmp 67),(.func 382)],none⟩,⟨some (7,true),.mv (.tmp 68),none⟩,⟨some (69,false),.fieldAddr 0 (.var 5),none⟩,⟨none,.store 1 (.tmp 69) (.const (.int .i64 3)),none⟩] none) (.seq (.region [⟨some (71,false),.mv (.var 6),none⟩,⟨some (72,false),.call false (.func 383) [(.tmp 71)],none⟩,⟨some (73,false),.bin .gtr (.tmp 72) (.const (.int .i64 0)),none⟩,⟨some (70,true),.mv (.tmp 73),none⟩] none) (.cond (.var 70) (.region [⟨some (74,false),.mv (.var 6),none⟩,⟨some (75,false),.call false (.func 383) [(.tmp 74)],none⟩,⟨some (7,true),.mv (.tmp 75),none⟩,⟨some (76,false),.fieldAddr 0 (.var 5),none⟩,⟨none,.store 1 (.tmp 76) (.const (.int .i64 4)),none⟩] none) (.seq (.region [⟨some (20,false),.fieldAddr 0 (.var 5),none⟩,⟨none,.store 1 (.tmp 20) (.const (.int .i64 5)),none⟩] none) (.seq (.region [⟨some (7,true),.mv (.const (.int .i64 1)),none⟩] none) (.block 3 (.loop y9)))))))))))
def Nf:bZ:=.region [⟨some (8,false),.mv (.var 4),none⟩,⟨some (9,false),.mv (.var 4),none⟩,⟨some (10,false),.load none (.var 1),none⟩,⟨some (11,false),.mv (.var 4),none⟩,⟨some (12,false),.qX (.tmp 10) (some (.tmp 11)) none,none⟩,⟨some (13,false),.call false (.func 378) [(.tmp 12)],none⟩,⟨some (14,false),.bin .add (.tmp 9) (.tmp 13),none⟩,⟨some (15,false),.build [.int .i64 0,.int .i64 0,.int .i64 0,.int .i64 0] [(1,1,(.tmp 8)),(2,1,(.tmp 14))],none⟩,⟨some (5,true),.alloc [.int .i64 0,.int .i64 0,.int .i64 0,.int .i64 0],none⟩,⟨none,.store 4 (.var 5) (.tmp 15),none⟩] none
def Ng:bZ:=.region [⟨some (16,false),.load none (.var 1),none⟩,⟨some (17,false),.fieldAddr 2 (.var 5),none⟩,⟨some (18,false),.load none (.tmp 17),none⟩,⟨some (19,false),.qX (.tmp 16) (some (.tmp 18)) none,none⟩,⟨some (6,true),.mv (.tmp 19),none⟩] none
def Nh:bZ:=.region [⟨some (7,true),.mv (.const (.int .i64 0)),none⟩] none
def EK:bZ:=.seq (.region [⟨some (77,false),.fieldAddr 2 (.var 5),none⟩,⟨some (78,false),.load none (.tmp 77),none⟩,⟨some (79,false),.mv (.var 7),none⟩,⟨some (80,false),.bin .add (.tmp 78) (.tmp 79),none⟩,⟨some (81,false),.fieldAddr 3 (.var 5),none⟩,⟨none,.store 1 (.tmp 81) (.tmp 80),none⟩] none) (.seq (.region [⟨some (82,false),.fieldAddr 3 (.var 5),none⟩,⟨some (83,false),.load none (.tmp 82),none⟩,⟨some (4,true),.mv (.tmp 83),none⟩] none) (.seq (.region [⟨some (84,false),.mv (.var 0),none⟩,⟨some (85,false),.load (some 4) (.var 5),none⟩,⟨some (86,false),.call false (.tmp 84) [(.tmp 85)],none⟩,⟨some (87,false),.un .not (.tmp 86),none⟩,⟨some (88,false),.mv (.tmp 87),none⟩,⟨some (89,false),.fieldAddr 0 (.var 5),some ((.tmp 88),false)⟩,⟨some (90,false),.load none (.tmp 89),some ((.tmp 88),false)⟩,⟨some (91,false),.bin .eql (.tmp 90) (.const (.int .i64 0)),some ((.tmp 88),false)⟩,⟨some (92,true),.pick (.tmp 88) (.const (.bool true)) (.tmp 91),none⟩] none) (.cond (.var 92) (.ret) (.skip))))
def Ni:bZ:=cw 1 (q Nf (q Ng (q Nh (q (cw 2 xA) EK))))
def agF:hY:=⟨93,q (R [o 4 (m (c 0))]) (cw 0 (.loop Ni)),[],false⟩
def agG:hY:=⟨51,q (R [o 4 (m (.const (.int .u64 0))),o 5 (m (.const (.int .u64 0)))]) (q (R [r 14 (m v0),r 15 (.bin .and t14 (.const (.int .u64 4294967295))),o 6 (m t15)]) (q (R [r 16 (m v0),r 17 (.bin .shr t16 (.const (.int .u64 32))),o 7 (m t17)]) (q (R [r 18 (m v1),r 19 (.bin .and t18 (.const (.int .u64 4294967295))),o 8 (m t19)]) (q (R [r 20 (m v1),r 21 (.bin .shr t20 (.const (.int .u64 32))),o 9 (m t21)]) (q (R [r 22 (m v6),r 23 (m sG),r 24 (.bin .mul t22 t23),o 10 (m t24)]) (q (R [r 25 (m lf),r 26 (m sG),r 27 (.bin .mul t25 t26),r 28 (m v10),r 29 (.bin .shr t28 (.const (.int .u64 32))),r 30 (c8 t27 t29),o 11 (m t30)]) (q (R [r 31 (m v11),r 32 (.bin .and t31 (.const (.int .u64 4294967295))),o 12 (m t32)]) (q (R [r 33 (m v11),r 34 (.bin .shr t33 (.const (.int .u64 32))),o 13 (m t34)]) (q (R [r 35 (m v12),r 36 (m v6),r 37 (m v9),r 38 (.bin .mul t36 t37),r 39 (c8 t35 t38),o 12 (m t39)]) (q (R [r 40 (m lf),r 41 (m v9),r 42 (.bin .mul t40 t41),r 43 (m ZE),r 44 (c8 t42 t43),r 45 (m v12),r 46 (.bin .shr t45 (.const (.int .u64 32))),r 47 (c8 t44 t46),o 4 (m t47)]) (q (R [r 48 (m v0),r 49 (m v1),r 50 (.bin .mul t48 t49),o 5 (m t50)]) rt))))))))))),[.tmp 4,.tmp 5],false⟩
end Go.Abs.bz
namespace Go.Abs
open Go
variable{C:Ctx}{fid:Nat->Nat}{w w':World}{G G':bX}{H H':Heap}
theorem agH (cD:C.P.follows .mixedOrders=true)(bC:e7 C fid){aa:Nat->Option bU}(hT:c0 C fid aa):gS C fid (b0 aa):=
 ⟨Rr aa,fun ab ag ha he=>by
  obtain⟨n,hn⟩:=tp.1 he;exact(GH cD bC hT n).run ab ag ha hn⟩
theorem agI{k:TypeId}{bY:Nat}{d:TypeDesc}(hk:C.jR k=some bY)(hd:C.P.underlying k=some d){a:V}{x:Value}(ha:bh fid G w a x):∀{bp:List (V × V)} {es:List MapEntry} (i:Nat) {r:V} {j:Nat} {z:Value},
  a6 fid G w (bp.map (·.1)) (es.map (·.key))->a6 fid G w (bp.map (·.2)) (es.map (·.val))->hZ bY a bp=some (some r)->Instr.findNow d x es i=some (some (i+j,z))->jj bY a bp=bp.eraseIdx j
 |[],[],i,r,j,z,_,_,h,_=>by simp[hZ]at h
 |[],_::_,_,_,_,_,h,_,_,_=>by simp at h;cases h
 | _::_,[],_,_,_,_,h,_,_,_=>by simp at h;cases h
 |(bF,u')::bp,e::es,i,r,j,z,eG,c2,h,ag=>by
  simp only[dv]at eG c2;cases eG with
  |cons _ _ _ _ gG eG=>
   cases c2 with
   |cons _ _ _ _ sk c2=>
    simp only[hZ]at h;split at h
    ·rename_i he
     obtain⟨hs,-⟩:=yn hk hd ha gG he;simp only[Instr.findNow,hs,aB,bx]at ag;obtain rfl:j=0:=by omega
     simp only[jj,he,if_true,aj2]
    ·rename_i he
     obtain⟨hs,-⟩:=yn hk hd ha gG he;simp only[Instr.findNow,hs]at ag;have iv:=sr hk hd ha (i+1) eG c2 h;obtain⟨wC,oI,h1,-,-⟩:=iv;rw[h1]at ag;simp only[aB,bx]at ag;obtain⟨hj,rfl⟩:=ag;obtain rfl:j=wC+1:=by omega
     have ih:=agI hk hd ha (i+1) eG c2 h h1;have bg:¬(iK bY a bF=some true):=by rw[he];simp
     simp only[jj,bg,if_false,aj3,ih]
    ·cases h
theorem avN{vars:List Nat}{ah:aj->V}{ρ:Operand->Value}{o:Oper}(aP:fB C fid vars G w ah ρ){m k:Operand}{t eI tA:TypeId}{u:TypeId}(hd:C.P.underlying t=some (.map eI tA)){am h9:aj}{bY:Nat}
  (ho:o.op=.call {callee:=.builtin .delete,args:= #[m,k],argTypes:= #[t,u]}) (h1:C.cg vars m=some am) (h2:C.cg vars k=some h9) (gR:C.jR eI=some bY) {l:Nat} (af:ah am=.map l) {h0:Home} (cy:G.β l=some h0) {bp:List (V × V)} {es:Array MapEntry} {bT:Nat}
  (eW:w.heap[h0.b]? =some (.map es bT)) (eG:a6 fid G w (bp.map (·.1)) (es.toList.map (·.key))) (c2:a6 fid G w (bp.map (·.2)) (es.toList.map (·.val))) (ct:pd es bT) {b2:Option V} (jn:hZ bY (ah h9) bp=some b2):
  ∃bN,(execOp ρ o).run C.P w=.ok (.value (.tuple #[])) {w with heap:=w.heap.setIfInBounds h0.b (.map bN bT)}/\a6 fid G w ((jj bY (ah h9) bp).map (·.1)) (bN.toList.map (·.key))/\a6 fid G w ((jj bY (ah h9) bp).map (·.2)) (bN.toList.map (·.val))/\
   pd bN bT/\((bN=es/\jj bY (ah h9) bp=bp)\/∃j,bN=es.eraseIdxIfInBounds j/\jj bY (ah h9) bp=bp.eraseIdx j):=by
 have hm:=aP m am h1;have hk:=aP k h9 h2;obtain⟨KN,jC⟩:=KM gR
 have cm:(execOp ρ o).run C.P w=((Builtin.delete_ #[t,u] o.type #[ρ m,ρ k]).run C.P w).andThen fun z w'=>.ok (.value z) w':=by
  rw[wq ho];simp only[builtin,Sem.run_bind,Fq,dv,iT];rfl
 rw[af]at hm;obtain⟨aEh,agJ,X6,dN⟩:=hm.mapInv;rw[cy]at agJ;cases agJ;cases b2 with
 |none=>
  have ag:=sr gR jC hk 0 eG c2 jn;refine⟨es,?_,by rw[Dm jn];exact eG,by rw[Dm jn];exact c2,ct,.inl ⟨rfl,Dm jn⟩⟩;rw[cm];unfold Builtin.delete_;simp only[dN];simp[run_underlying hd,yo eW,u9 gR,wB (C:=C) jC ag,Dk _ eW,Sem.run_pure,Result.andThen]
 |some r=>
  obtain⟨j,y,ag,-,-⟩:=sr gR jC hk 0 eG c2 jn;obtain⟨s1,s2⟩:=PM gR jC hk 0 eG c2 jn ag;have e9:=agI gR jC hk 0 eG c2 jn ag;rw[dA]at ag;refine⟨es.eraseIdxIfInBounds j,?_,by simpa using s1,by simpa using s2,ct.erase _,.inr ⟨j,rfl,e9⟩⟩;rw[cm];unfold Builtin.delete_;simp only[dN];simp[run_underlying hd,yo eW,u9 gR,wB (C:=C) jC ag,Dk _ eW,Sem.run_pure,Result.andThen]
theorem agK{α β:Type}:∀{j:Nat} {l:List α} {m:List β} {p:α × β},p∈(l.eraseIdx j).zip (m.eraseIdx j)->p∈l.zip m
 | _,[],_,_,h=>by simp at h
 | _,_::_,[],_,h=>by simp at h
 |0,_::_,_::_,_,h=>by simp only[aj2]at h;exact kW _ h
 |j+1,_::_,_::_,_,h=>by
  simp only[aj3,Fo,dx]at h⊢;exact h.imp id agK
section
variable{vars:List Nat}{N:Nat}
structure rP (C:Ctx) (fid:Nat->Nat) (vars:List Nat) (N base li l r kJ bT:Nat) (st:av) (G:bX) (w:World) (seen:Array Nat) (es:Array MapEntry) (d:List V) (bp:List (V × V)) (s:av) (az:bX) (al:Act) (aG:World):Prop where
 rel:dI C fid vars N az s al aG
 b2:gH st {s with low:=min st.low l}
 len:li<s.H.length
 ext:∀m,m<=min st.low l->Ext G w az aG m st.H.length
 marks:k9 C az aG base al.defers
 hi:∃h,az.β li=some h/\h.b=r
 hm:∃h,az.β l=some h/\h.b=kJ
 gone:s.H[li]? =some .gone
 mp:s.H[l]? =some (.map bp)
 iter:aG.heap[r]? =some (.mapIter (some kJ) bT seen bT)
 map:aG.heap[kJ]? =some (.map es bT)
 hand:∀p∈es.toList.zip bp,p.1.born∈seen->p.2.1∈d
variable{base li l r kJ bT:Nat}{st:av}{seen:Array Nat}{es:Array MapEntry}{d:List V}{bp:List (V × V)}{s ao:av}{az bu:bX}{al a2:Act}{aG bR:World}
theorem rP.on (h:rP C fid vars N base li l r kJ bT st G w seen es d bp s az al aG)(jZ:l<li)(ab:dI C fid vars N bu ao a2 bR)(c5:∀m,m<=ao.low->Ext az aG bu bR m s.H.length)(kH:li<ao.low)(cH:Fr s.H s.H.length ao.H ao.low)(dY:ao.ro=s.ro)
  (hd:k9 C bu bR base a2.defers):rP C fid vars N base li l r kJ bT st G w seen es d bp ao bu a2 bR:=by
 obtain⟨h1,af,q1⟩:=h.hi;obtain⟨h2,ak,q2⟩:=h.hm;have g1:=Li h.rel.rel af h.gone;have g2:=AD h.rel.rel ak h.mp;have qy:=c5 _ (aH _);have km:=h.b2.1.len;refine⟨ab,⟨⟨cY h.b2.1.len cH.len,jM _ _,fun x hx=> ?_⟩,dY.trans h.b2.2⟩,r3 h.len cH.len,fun m hm=> ?_,hd,?_,?_,?_,?_,?_,?_,h.hand⟩
 ·have dT:x<min st.low l:=hx
  exact(cH.same x (by omega)).trans (h.b2.1.same x hx)
 ·exact(h.ext m hm).trans ((c5 m (by omega)).le (aH _) km)
 ·obtain⟨h',e',q'⟩:=yy qy af g1.1;exact⟨h',e',q'.trans q1⟩
 ·obtain⟨h',e',q'⟩:=yy qy ak g2.1;exact⟨h',e',q'.trans q2⟩
 ·rw[cH.same li kH];exact h.gone
 ·rw[cH.same l (by omega)];exact h.mp
 ·have:=yx qy h.rel.rel af kH
  rw[q1]at this;rw[this];exact h.iter
 ·have:=yx qy h.rel.rel ak (by omega)
  rw[q2]at this;rw[this];exact h.map
theorem rP.del (h:rP C fid vars N base li l r kJ bT st G w seen es d bp s az al aG)(jZ:l<li){vars':List Nat}{o:Oper}{m k:Operand}{t eI tA u:TypeId}(bC:e7 C fid)(hd:C.P.underlying t=some (.map eI tA)){am h9:aj}{bY:Nat}
  (ho:o.op=.call {callee:=.builtin .delete,args:= #[m,k],argTypes:= #[t,u]}) (h1:C.cg vars m=some am) (h2:C.cg vars k=some h9) (gR:C.jR eI=some bY) (af:am.ah s.aF s.au=.map l) {b2:Option V} (jn:hZ bY (h9.ah s.aF s.au) bp=some b2):
  ∃bN bu bR,(execOp al.eval o).run C.P aG=.ok (.value (.tuple #[])) bR/\bN.toList.Sublist es.toList/\
   rP C fid vars N base li l r kJ bT st G w seen bN d (jj bY (h9.ah s.aF s.au) bp) {s with aF:=[],H:=s.H.set l (.map (jj bY (h9.ah s.aF s.au) bp)),low:=min s.low l} bu al bR:=by
 obtain⟨ar,bK,cn⟩:=h.hi;obtain⟨aS,cL,c7⟩:=h.hm;obtain⟨qs,jX,PO,aEi,ga,eG,c2,ct⟩:=AD h.rel.rel cL h.mp;rw[c7,h.map]at ga;cases ga;have eW:aG.heap[aS.b]? =some (.map es bT):=by rw[c7];exact h.map
 obtain⟨bN,cm,bQ,c6,iX,vv⟩:=avN (tJ bC h.rel) hd ho h1 h2 gR af cL eW eG c2 ct jn;generalize jj bY (h9.ah s.aF s.au) bp=avO at*;have aT:aS.b<aG.heap.size:=h.rel.rel.blk l aS cL
 have wD:∀b,b≠aS.b->({aG with heap:=aG.heap.setIfInBounds aS.b (.map bN bT)}:World).heap[b]? =aG.heap[b]? :=fun b bg=>by
  show(aG.heap.setIfInBounds aS.b _)[b]? =_;rw[Wl (ly bg)]
 have Dl:({aG with heap:=aG.heap.setIfInBounds aS.b (.map bN bT)}:World).heap[aS.b]? =some (.map bN bT):=by
  show(aG.heap.setIfInBounds aS.b _)[aS.b]? =_;simp[aT]
 have de:({aG with heap:=aG.heap.setIfInBounds aS.b (.map bN bT)}:World).heap.size=aG.heap.size:=by simp
 have dT:Ext az aG ⟨cp az.β l aS,az.I⟩ {aG with heap:=aG.heap.setIfInBounds aS.b (.map bN bT)} l s.H.length:=
  Ext.write h.rel.rel cL jX rfl (aH _) id rfl de wD rfl rfl
 have oP:Ext az aG ⟨cp az.β l aS,az.I⟩ {aG with heap:=aG.heap.setIfInBounds aS.b (.map bN bT)} 0 s.H.length:=dT.le (cJ _) (aH _)
 have oS:bN.toList.Sublist es.toList:=by
  rcases vv with⟨rfl,-⟩|⟨j,rfl,-⟩
  ·exact J0 _
  ·rw[ajY];exact List.eraseIdx_sublist _ _
 refine⟨bN,⟨cp az.β l aS,az.I⟩,_,cm,oS,⟨⟨?_,fun t=> ?_,h.rel.size,?_⟩,⟨⟨?_,jM _ _,fun x hx=> ?_⟩,h.b2.2⟩,?_,fun m hm=> ?_,h.marks.ext oP,?_,?_,?_,?_,?_,?_,?_⟩⟩
 ·exact a8.write h.rel.rel cL jX rfl jX (aH _) id rfl de wD (.map avO) ⟨qs,jX,bN,bT,Dl,bQ.ext h.rel.rel dT,c6.ext h.rel.rel dT,iX⟩
 ·exact((h.rel.clear).env t).ext h.rel.rel oP
 ·show min s.low l<=(s.H.set l _).length
  rw[x7];exact cY (jM _ _) h.rel.low
 ·show st.H.length<=(s.H.set l _).length
  rw[x7];exact h.b2.1.len
 ·have agL:x<min st.low l:=hx
  show(s.H.set l _)[x]? =_;rw[jx (by omega)];exact h.b2.1.same x hx
 ·show li<(s.H.set l _).length
  rw[x7];exact h.len
 ·exact(h.ext m hm).trans (dT.le (by omega) h.b2.1.len)
 ·exact⟨ar,by show cp az.β l aS li=_;rw[dE (by omega)];exact bK,cn⟩
 ·exact⟨aS,dr _ _ _,c7⟩
 ·show(s.H.set l _)[li]? =_
  rw[jx (by omega)];exact h.gone
 ·show(s.H.set l _)[l]? =_
  rw[nI (h.rel.rel.lt cL)]
 ·rw[wD r (fun q=> ?_)]
  ·exact h.iter
  ·have:=h.rel.rel.inj _ _ _ _ bK cL (by rw[cn];exact q)
   omega
 ·rw[<-c7];exact Dl
 ·intro p hp hb
  refine h.hand p ?_ hb;rcases vv with⟨rfl,rfl⟩|⟨j,rfl,rfl⟩
  ·exact hp
  ·rw[ajY]at hp
   exact agK hp
end
end Go.Abs
namespace Go.Abs
open Go
variable{C:Ctx}{fid:Nat->Nat}{w w':World}{G G':bX}{H H':Heap}
structure B4 where
 b1:bZ
 c:aj
 I1:List bS
 m:aj
 k:aj
 bY:Nat
structure agM (C:Ctx) (vars:List Nat) (N:Nat) (body:Code) (D:B4):Prop where
 ok:∃(vF:Code) (x id:Nat) (ops:Array Oper) (os:List Oper) (h3:Oper) (m k:Operand) (t eI tA u:TypeId),
  body=.seq vF (.cond (.tmp x) (.region id ops false) .skip)/\C.code vars N vF=some D.b1/\C.cg vars (.tmp x)=some D.c/\ops.toList=os++[h3]/\dM (C.oper vars N ops) os=some D.I1/\
  h3.op=.call {callee:=.builtin .delete,args:= #[m,k],argTypes:= #[t,u]}/\h3.dst=none/\h3.guard=none/\C.cg vars m=some D.m/\C.cg vars k=some D.k/\C.P.underlying t=some (.map eI tA)/\C.jR eI=some D.bY
def eY.EL (R:eY)(call:cW)(kv:V × V)(st:av):Option av:=
 match R.step call (.aU [.bool true,kv.1,kv.2]) {st with low:=st.H.length}with
 |some st1=>match R.more.ah st1.aF st1.au with
  | .bool true=>
    if dS (bG st1.au R.it) (bG st.au R.it)=true then
     match c3 call R.t2 (({st1 with aF:=[]}:av).put (some R.pair) (.aU [kv.1,kv.2])) []with
     |some (st2,_)=>some {st2 with aF:=[]}
     |none=>none
    else none
  | _=>none
 |none=>none
def Tt (R:eY)(D:B4)(aa:Nat->Option bU)(l li:Nat)(bp:List (V × V))(kv:V × V)(s:av)(Inv:List (V × V)->av->Prop):Prop:=
 ∃s2 e9,R.EL (b0 aa) kv s=some s2/\c4 aa D.b1 s2=some (.normal,e9)/\li<e9.low/\
  ((D.c.ah e9.aF e9.au=.bool false/\Inv bp e9)\/
   (D.c.ah e9.aF e9.au=.bool true/\∃kz wr b2,c3 (b0 aa) D.I1 {e9 with aF:=[]} []=some (kz,wr)/\li<kz.low/\D.m.ah kz.aF kz.au=.map l/\hZ D.bY (D.k.ah kz.aF kz.au) bp=some b2/\
     Inv (jj D.bY (D.k.ah kz.aF kz.au) bp) {kz with aF:=[],H:=kz.H.set l (.map (jj D.bY (D.k.ah kz.aF kz.au) bp)),low:=min kz.low l}))
theorem avP{α β:Type}{l:List α}{m:List β}{p:α × β}(h:p∈l.zip m):∃i:Nat,l[i]? =some p.1/\m[i]? =some p.2:=by
 obtain⟨i,hi⟩:=pY.1 h;refine⟨i,?_⟩;rw[Fi]at hi;exact hi
theorem avQ{α β:Type}{l:List α}{m:List β}{i:Nat}{a:α}{b:β}(h1:l[i]? =some a)(h2:m[i]? =some b):(a,b)∈l.zip m:=
 gg (Fi.2 ⟨h1,h2⟩:(l.zip m)[i]? =some (a,b))
theorem avR{es:Array MapEntry}(hn:(es.toList.map (·.born)).Nodup){i j:Nat}{a b:MapEntry}(h1:es.toList[i]? =some a)(h2:es.toList[j]? =some b)(h:a.born=b.born):i=j:=by
 obtain⟨hi,q1⟩:=fj.1 h1;obtain⟨hj,q2⟩:=fj.1 h2;have hp:=Oc.1 hn;rcases Nat.lt_trichotomy i j with q|q|q
 ·exact absurd (show(es.toList.map (·.born))[i]'(by simpa using hi)=(es.toList.map (·.born))[j]'(by simpa using hj) by rw[J3,J3,q1,q2,h]) (hp i j (by simpa using hi) (by simpa using hj) q)
 ·exact q
 ·exact absurd (show(es.toList.map (·.born))[j]'(by simpa using hj)=(es.toList.map (·.born))[i]'(by simpa using hi) by rw[J3,J3,q1,q2,h]) (hp j i (by simpa using hj) (by simpa using hi) q)
theorem avS{es:Array MapEntry}{seen:Array Nat}{e:MapEntry}(he:e∈(leftOf es seen).toList):(leftOf es (seen.push e.born)).size<(leftOf es seen).size:=by
 have qq:e∈es.toList/\seen.contains e.born=false:=by
  unfold leftOf at he;simpa using he
 unfold leftOf;have key:∀p:MapEntry->Bool,(es.filter p).size=(es.toList.filter p).length:=fun p=>by rw[<-fw,Array.toList_filter]
 rw[key,key];refine filter_lt _ _ (fun x hx=> ?_) e ?_ ?_ _ qq.1
 ·simp only[Array.contains_push,kB,vO]at hx⊢
  simp at hx⊢;exact hx.1
 ·rw[qq.2];rfl
 ·simp
theorem avT{es bN:Array MapEntry}{seen:Array Nat}(h:bN.toList.Sublist es.toList):(leftOf bN seen).size<=(leftOf es seen).size:=by
 unfold leftOf;have key:∀(es:Array MapEntry) (p:MapEntry->Bool),(es.filter p).size=(es.toList.filter p).length:=fun es p=>by rw[<-fw,Array.toList_filter]
 rw[key,key];exact(h.filter _).length_le
theorem avU{es:Array MapEntry}{seen:Array Nat}(h:(leftOf es seen).size=0):∀e∈es.toList,e.born∈seen:=by
 intro e he;have h0:leftOf es seen= #[]:=ajZ h;unfold leftOf at h0;rw[aj1]at h0;have h1:=h0 e (by simpa using he);simp only[kB,Ol]at h1;rw[aj4]at h1;exact h1
section
variable{vars:List Nat}{N n:Nat}{aa:Nat->Option bU}
theorem agN{c:bZ}{st:av}{r:X × av}(h:c4 aa c st=some r):∃n,Abs.exec (b0 aa) n c st=some r:=by
 obtain⟨n,hn⟩:=fW.1 h;exact⟨n,tn (FA n) (aH _) c st r hn⟩
theorem avV (cD:C.P.follows .mixedOrders=true)(bC:e7 C fid)(bb:gS C fid (b0 aa)){k0 l2 i2:Nat}{hP on j0:Oper}{kK kL j1:Array Oper}{oT oU:List Oper}
  {mt it aD more pair out eR:Nat} {tm sA sB:TypeId} {body:Code} {R:eY} {D:B4}
  (h0:kK[k0]? =some hP) (tL:C.cg vars (.tmp mt)=some R.src) (tM:hP.op=.range tm (.tmp mt)) (wN:hP.dst=some it) (wO:hP.guard=none) (hit:it<N) (wP:C.P.underlying tm=some (.map sA sB))
  (h1:kL.toList=on::oT) (rl:on.op=.next (.tmp it) false) (hnd:on.dst=some aD) (tN:on.guard=none) (oM:aD<N)
  (h2:j1.toList=j0::oU) (tO:j0.op=.entry (.tmp it)) (wQ:j0.dst=some pair) (wR:j0.guard=none) (wS:pair<N)
  (rm:vars.contains it=true) (tP:R.aD=(aD,vars.contains aD)) (wT:R.pair=(pair,vars.contains pair))
  (re:dM (C.oper vars N kL) oT=some R.t1) (pg:dM (C.oper vars N j1) oU=some R.t2) (tQ:C.cg vars (.tmp more)=some R.more) (yz:agM C vars N body D) (GI:R.it=it)
  {st:av} {l:Nat} {bp:List (V × V)} (qz:R.src.ah st.aF st.au=.map l) (nt:st.H[l]? =some (.map bp)) (Inv:List V->List (V × V)->av->Prop) (Out:List (V × V)->av->Prop)
  (tR:Inv [] bp (hO it st)) (rn:∀d es s,Inv d es s->bG s.au it=.ptr st.H.length 0)
  (oV:∀d es s,Inv d es s->∀kv∈es,Tt R D aa l st.H.length es kv s (fun bN ao=>Inv (d++[kv.1]) bN ao))
  (ig:∀d es s,Inv d es s->(∀kv∈es,kv.1∈d)->∃ao,R.fin (b0 aa) s=some ao/\st.H.length<ao.low/\Out es ao)
  {a:Act} {ro:Option Nat} {base:Nat} {Q QA:Exit->Act->World->Prop} (ab:dI C fid vars N G st a w) (dY:wJ G st.ro ro) (eX:k9 C G w base a.defers) (hb:base<=w.heap.size)
  (dJ:∀es ao G' bk w',Out es ao->gH st {ao with low:=min st.low l}->Fin C fid vars N base st G w {ao with low:=min st.low l} G' bk w'->Q .normal bk w'):
  wpOpIn (eJ ro) 0 C.P kK QA k0 (fun bk w'=>(Code.block out (.loop (.seq (.region l2 kL false) (.seq (.cond (.tmp more) .skip (.exit out)) (.block eR (.seq (.region i2 j1 false) body)))))).wpIn (eJ ro) 0 C.P Q bk w') a w:=by
 obtain⟨vF,lE,agO,Nj,agP,h3,cI,KN,aEj,aEk,aEl,aEm,rfl,qn,Ru,Tu,avW,agQ,avX,avY,avZ,jC,av0,av1⟩:=yz.ok;have lB:=tJ bC ab (.tmp mt) R.src tL;rw[qz]at lB;obtain⟨fo,wU,QB,QC⟩:=lB.mapInv;obtain⟨-,-,es,bT,eo,eG,c2,ct⟩:=AD ab.rel wU nt;have jZ:l<st.H.length:=ab.rel.lt wU
 have Gi:(execOp a.eval hP).run C.P w=.ok (.value (.pointer (some ⟨w.heap.size,0,none⟩))) (w.alloc (.mapIter (some fo.b) bT #[] bT)):=by
  unfold execOp;rw[tM];have e:a.eval (.tmp mt)=.map (some fo.b):=QC;simp only[e,Sem.run_bind,run_range_map w tm sA sB fo.b es bT wP eo,Result.andThen_ok,Sem.run_pure]
 have QE:=ab.rel.push .gone (.mapIter (some fo.b) bT #[] bT) 0 0 ⟨rfl,rfl⟩;have sz:∀m k,k<=st.H.length->Ext G w ⟨cp G.β st.H.length ⟨w.heap.size,0,0,false⟩,G.I⟩ (w.alloc (.mapIter (some fo.b) bT #[] bT)) m k:=fun m k hk=>(Ext.push ab.rel (.mapIter (some fo.b) bT #[] bT) 0 0 m).le (aH _) hk
 have QF:dI C fid vars N ⟨cp G.β st.H.length ⟨w.heap.size,0,0,false⟩,G.I⟩ {st with H:=st.H++[.gone]} a (w.alloc (.mapIter (some fo.b) bT #[] bT)):=
  ⟨QE,fun t=>(ab.env t).ext ab.rel (sz 0 0 (cJ _)),ab.size,by have:=ab.low;simp only[eZ,gD,nL];omega⟩
 have lV:dI C fid vars N ⟨cp G.β st.H.length ⟨w.heap.size,0,0,false⟩,G.I⟩ (hO it st) (a.put (some it) (.pointer (some ⟨w.heap.size,0,none⟩))) (w.alloc (.mapIter (some fo.b) bT #[] bT)):=by
  have:=QF.put hit (v:=.ptr st.H.length 0) (x:=.pointer (some ⟨w.heap.size,0,none⟩)) (.ptr st.H.length 0 ⟨w.heap.size,0,0,false⟩ (dr _ _ _) rfl);rw[rm]at this;exact this.clear
 suffices QG:∀G' bk w',dI C fid vars N G' (hO it st) bk w'->(∀m,m<=(hO it st).H.length->Ext ⟨cp G.β st.H.length ⟨w.heap.size,0,0,false⟩,G.I⟩ (w.alloc (.mapIter (some fo.b) bT #[] bT)) G' w' m (hO it st).H.length)->
   bk.defers=a.defers->(Code.block out (.loop (.seq (.region l2 kL false) (.seq (.cond (.tmp more) .skip (.exit out)) (.block eR (.seq (.region i2 j1 false) (.seq vF (.cond (.tmp lE) (.region agO Nj false) .skip)))))))).wpIn (eJ ro) 0 C.P Q bk w' by
  refine Lh h0 wO (by rw[tM];simp) Gi ?_;rw[wN];exact QG _ _ _ lV (fun m _=>.refl _ _ _ _) (by rw[put_defers])
 intro G' bk w' bB ca ez
 refine wpIn_block (K6 (fun k al aG=>∃d seen es bp s az,Inv d bp s/\(leftOf es seen).size<k/\rP C fid vars N base st.H.length l w.heap.size fo.b bT st G w seen es d bp s az al aG) ?_
  (j:=(leftOf es #[]).size+1) ?_)
 ·rintro k al aG ⟨d,seen,es,bp,s,az,bq,hk,bP⟩
  obtain⟨bF,rfl⟩:∃bF,k=bF+1:=⟨k-1,by omega⟩;refine⟨bF,rfl,?_⟩;obtain⟨ar,bK,cn⟩:=bP.hi;obtain⟨aS,cL,c7⟩:=bP.hm
  have GJ:al.eval (.tmp it)=.pointer (some ⟨w.heap.size,0,none⟩):=by
   have:=bP.rel.env it;rw[show dP vars s it=bG s.au it by unfold dP;rw[if_pos rm],rn d bp s bq]at this;obtain⟨h5,dF,-,gb⟩:=this.pj;rw[bK]at dF;cases dF;rw[cn]at gb;exact gb
  have sC:∀c,on.op≠ .defer c:=by rw[rl];simp
  have tC:∀c,j0.op≠ .defer c:=by rw[tO];simp
  obtain⟨anL,anM,bN,tB,GK,yp,Af,Ag⟩:=AD bP.rel.rel cL bP.mp;rw[c7,bP.map]at GK;cases GK
  have QD:bp.length=es.size:=by
   have:=yp.length;simpa using this.symm
  rcases Zf (P:=C.P) on.type bP.iter bP.map Ag.1 (aH _)with⟨de,cm⟩|⟨e,he,bR,AE,QH,QI,cm⟩
  ·
   have eP:∀kv∈bp,kv.1∈d:=fun kv jE=>by
    obtain⟨i,hi⟩:=pY.1 jE
    have nZ:i<es.toList.length:=by
     have:=(fj.1 hi).1;simp;omega
    have av2:es.toList[i]? =some es.toList[i]:=eg nZ;exact bP.hand _ (avQ av2 hi) (avU de _ (vP nZ))
   obtain⟨ao,ag,kH,yA⟩:=ig d bp s bq eP;unfold eY.fin eY.step at ag;split at ag
   ·rename_i s1 gw
    split at gw
    ·rename_i j2 wr hex
     cases gw;split at ag
     ·rename_i tS
      cases ag
      have AF:(execOp al.eval on).run C.P aG=.ok (.value (.tuple #[.bool false])) aG:=by
       unfold execOp;rw[rl];simp only[GJ,Sem.run_bind,cm,Result.andThen_ok,Sem.run_pure]
      have wK:dI C fid vars N az (({s with aF:=[],low:=s.H.length}:av).put (some R.aD) (.aU [.bool false])) (al.put (some aD) (.tuple #[.bool false])) aG:=by
       rw[tP];exact bP.rel.reset.put oM (.aU _ _ (.cons _ _ _ _ (.p _ _ (.bool false)) .nil))
      refine wpIn_seq (DH bC bb h1 hnd tN sC re AF wK hex fun bu a2 fY fC hG mI=> ?_);have gl:=kI ({s with aF:=[],low:=s.H.length}:av) (some R.aD) (.aU [.bool false]);have cH:=pw bb.b2 _ _ _ _ _ (by rw[gl.1,gl.2.1];exact aH _) hex
      have eB:rP C fid vars N base st.H.length l w.heap.size fo.b bT st G w seen es d bp {j2 with aF:=[]} bu a2 fY:=by
       refine bP.on jZ fC.clear (fun m hm=> ?_) kH ?_ ?_ ?_
       ·have:=hG m hm
        rw[gl.1]at this;exact this
       ·have:=cH.1
        rw[gl.1,gl.2.1]at this;exact this
       ·exact cH.2.trans gl.2.2
       ·have:=bP.marks.ext (hG 0 (cJ _))
        rw[mI];exact this
      have ad:=tJ bC eB.rel (.tmp more) R.more tQ;rw[tS]at ad;refine wpIn_seq (wpIn_cond_false ad.k5 (wpIn_exit ?_));show(if out=out then Q .normal a2 fY else _);rw[if_pos rfl];have:=eB.len;exact dJ _ _ bu a2 fY yA eB.b2 ⟨⟨eB.rel.rel,eB.rel.env,eB.rel.size,cY (nJ _ _) (cY (vR jZ) (vR eB.len))⟩,eB.ext,eB.marks⟩
     ·cases ag
    ·cases gw
   ·cases ag
  ·
   have agR:e∈es.toList/\seen.contains e.born=false:=by
    unfold leftOf at he;simpa using he
   obtain⟨i,hi⟩:=pY.1 agR.1;have sD:=avS he;have nZ:i<es.toList.length:=(fj.1 hi).1;obtain⟨QJ,yv⟩:=Li bP.rel.rel bK bP.gone;obtain⟨kv,jE⟩:∃kv,bp[i]? =some kv:=⟨bp[i]'(by simp at nZ;omega),by simp⟩
   have QK:bh fid az aG kv.1 e.key:=by
    obtain⟨x,hx,hr⟩:=yp.get (i:=i) (v:=kv.1) (by rw[hL,jE];rfl);rw[hL,hi]at hx;cases hx;exact hr
   have mK:bh fid az aG kv.2 e.val:=by
    obtain⟨x,hx,hr⟩:=Af.get (i:=i) (v:=kv.2) (by rw[hL,jE];rfl);rw[hL,hi]at hx;cases hx;exact hr
   obtain⟨aEn,e9,vG,Lk,Y0,As⟩:=oV d bp s bq kv (gg jE);have hT:=turn bP.rel.rel bK yv (.mapIter (some fo.b) bT (seen.push e.born) bT) .gone fun _ _ _=>⟨QJ,yv⟩;rw[Lj bP.gone]at hT;have wV:bR.heap=(aG.putObj ar.b (.mapIter (some fo.b) bT (seen.push e.born) bT)).heap:=by rw[AE,cn];rfl
   have AH:a8 C fid az s.H bR:=hT.1.jT wV;have AJ:∀m,m<=st.H.length->Ext az aG az bR m s.H.length:=fun m hm=>(hT.2.le hm (aH _)).trans (.jT wV QH QI _ _)
   have wW:bR.heap[w.heap.size]? =some (.mapIter (some fo.b) bT (seen.push e.born) bT):=by
    rw[wV,<-cn];exact World.putObj_heap_same (bP.rel.rel.blk _ _ bK)
   have pq:bR.heap[fo.b]? =some (.map es bT):=by
    rw[wV,World.putObj_heap_other (fun q=> ?_)]
    ·exact bP.map
    ·have:=bP.rel.rel.inj _ _ _ _ bK cL (by rw[c7,<-q]);omega
   have GL:dI C fid vars N az s al bR:=⟨AH,fun t=>(bP.rel.env t).ext bP.rel.rel (AJ 0 (cJ _)),bP.rel.size,bP.rel.low⟩;have AK:=AJ 0 (cJ _)
   have GM:rP C fid vars N base st.H.length l w.heap.size fo.b bT st G w (seen.push e.born) es (d++[kv.1]) bp s az al bR:=
    ⟨GL,bP.b2,bP.len,fun m hm=>(bP.ext m hm).trans ((AJ m (by omega)).le (aH _) bP.b2.1.len),bP.marks.ext AK,bP.hi,bP.hm,bP.gone,bP.mp,wW,pq,fun p hp EM=>by
     obtain⟨j,av3,agS⟩:=avP hp;rw[Array.mem_push]at EM;rcases EM with EM|EM
     ·exact x5 _ (bP.hand p hp EM)
     ·have:=avR Ag.2 av3 hi EM
      subst this;rw[jE]at agS;cases agS;simp⟩
   have GN:=QK.ext bP.rel.rel AK;have GO:=mK.ext bP.rel.rel AK;unfold eY.EL eY.step at vG;split at vG
   case h_2=>cases vG
   rename_i s1 gw;split at gw
   case h_2=>cases gw
   rename_i j2 wr hex;cases gw;split at vG
   case h_2=>cases vG
   rename_i tS;split at vG
   case isFalse=>cases vG
   rename_i QL
   have QM:bG j2.au it=.ptr st.H.length 0:=by
    have:=wE _ _ QL;rw[GI]at this;exact this.trans (rn d bp s bq)
   split at vG
   case h_2=>cases vG
   rename_i s2 QN GP;cases vG
   have AF:(execOp al.eval on).run C.P aG=.ok (.value (.tuple #[.bool true,e.key,e.val])) bR:=by
    unfold execOp;rw[rl];simp only[GJ,Sem.run_bind,cm,Result.andThen_ok,Sem.run_pure]
   have wK:dI C fid vars N az (({s with aF:=[],low:=s.H.length}:av).put (some R.aD) (.aU [.bool true,kv.1,kv.2])) (al.put (some aD) (.tuple #[.bool true,e.key,e.val])) bR:=by
    rw[tP];exact GL.reset.put oM (.aU _ _ (.cons _ _ _ _ (.p _ _ (.bool true)) (.cons _ _ _ _ GN (.cons _ _ _ _ GO .nil))))
   have gl:=kI ({s with aF:=[],low:=s.H.length}:av) (some R.aD) (.aU [.bool true,kv.1,kv.2]);have cH:=pw bb.b2 _ _ _ _ _ (by rw[gl.1,gl.2.1];exact aH _) hex;have mL:=kI ({j2 with aF:=[]}:av) (some R.pair) (.aU [kv.1,kv.2]);have sx:j2.low<=j2.H.length:=cH.bound (by rw[gl.1,gl.2.1];exact aH _);have wX:=pw bb.b2 _ _ _ _ _ (by rw[mL.1,mL.2.1];exact sx) GP;have An:s2.low<=s2.H.length:=wX.bound (by rw[mL.1,mL.2.1];exact sx);obtain⟨KR,agT⟩:=agN Lk;have tT:=mF bb.b2 KR _ _ _ _ (show({s2 with aF:=[]}:av).low<=({s2 with aF:=[]}:av).H.length from An) agT;have anQ:e9.low<=s2.low:=tT.1.low;have anR:s2.low<=j2.low:=by have:=wX.1.low;rw[mL.2.1]at this;exact this
   refine wpIn_seq (DH bC bb h1 hnd tN sC re AF wK hex fun bu a2 fY fC hG mI=> ?_)
   have eB:rP C fid vars N base st.H.length l w.heap.size fo.b bT st G w (seen.push e.born) es (d++[kv.1]) bp {j2 with aF:=[]} bu a2 fY:=by
    refine GM.on jZ fC.clear (fun m hm=> ?_) (by show st.H.length<j2.low;omega) ?_ ?_ ?_
    ·have:=hG m hm
     rw[gl.1]at this;exact this
    ·have:=cH.1
     rw[gl.1,gl.2.1]at this;exact this
    ·exact cH.2.trans gl.2.2
    ·have:=GM.marks.ext (hG 0 (cJ _))
     rw[mI];exact this
   have ad:=tJ bC eB.rel (.tmp more) R.more tQ;rw[tS]at ad;refine wpIn_seq (wpIn_cond_true ad.k5 (wpIn_skip ?_));show(Code.block eR (.seq (.region i2 j1 false) (.seq vF (.cond (.tmp lE) (.region agO Nj false) .skip)))).wpIn (eJ ro) 0 C.P _ a2 fY;refine wpIn_block (wpIn_seq ?_)
   have QO:a2.eval (.tmp it)=.pointer (some ⟨w.heap.size,0,none⟩):=by
    have:=eB.rel.env it;rw[show dP vars {j2 with aF:=[]} it=bG j2.au it by unfold dP;rw[if_pos rm],QM]at this;obtain⟨h5,dF,-,gb⟩:=this.pj;obtain⟨eA,hE,ic⟩:=eB.hi;rw[hE]at dF;cases dF;rw[ic]at gb;exact gb
   have QP:(execOp a2.eval j0).run C.P fY=.ok (.value (.tuple #[e.key,e.val])) fY:=by
    have Gz:=Zg (P:=C.P) eB.iter eB.map agR.1 Ag.2;unfold execOp;rw[tO];simp only[QO,Sem.run_bind,Gz,Result.andThen_ok,Sem.run_pure]
   have GQ:=hG 0 (cJ _)
   have GR:dI C fid vars N bu (({j2 with aF:=[]}:av).put (some R.pair) (.aU [kv.1,kv.2])) (a2.put (some pair) (.tuple #[e.key,e.val])) fY:=by
    rw[wT];exact eB.rel.put wS (.aU _ _ (.cons _ _ _ _ (GN.ext AH GQ) (.cons _ _ _ _ (GO.ext AH GQ) .nil)))
   refine DH bC bb h2 wQ wR tC pg QP GR GP fun jY a3 DI rj rk GF=> ?_
   have n0:rP C fid vars N base st.H.length l w.heap.size fo.b bT st G w (seen.push e.born) es (d++[kv.1]) bp {s2 with aF:=[]} jY a3 DI:=by
    refine eB.on jZ rj.clear (fun m hm=> ?_) (by show st.H.length<s2.low;omega) ?_ ?_ ?_
    ·have:=rk m hm
     rw[mL.1]at this;exact this
    ·have:=wX.1
     rw[mL.1,mL.2.1]at this;exact⟨this.len,cY this.low sx,this.same⟩
    ·exact wX.2.trans mL.2.2
    ·have:=eB.marks.ext (rk 0 (cJ _))
     rw[GF];exact this
   refine wpIn_seq (sy (n:=KR) cD bC bb vF _ _ _ qn _ _ _ agT jY a3 DI ro base _ n0.rel ?_ n0.marks (cY hb (n0.ext 0 (cJ _)).size) fun GS a4 Ll F=> ?_)
   ·have lI:({s2 with aF:=[]}:av).ro=st.ro:=n0.b2.2
    rw[lI];exact dY.ext (n0.ext 0 (cJ _))
   have yB:rP C fid vars N base st.H.length l w.heap.size fo.b bT st G w (seen.push e.born) es (d++[kv.1]) bp e9 GS a4 Ll:=
    n0.on jZ F.rel F.ext Y0 ⟨tT.1.len,cY tT.1.low An,tT.1.same⟩ tT.2 F.marks
   have xw:=tJ bC yB.rel (.tmp lE) D.c Ru;rcases As with⟨hc,AG⟩|⟨hc,kz,Bv,aEo,agU,av4,av5,av6,AG⟩
   ·rw[hc]at xw
    refine wpIn_cond_false xw.k5 (wpIn_skip ?_);exact⟨d++[kv.1],seen.push e.born,es,bp,e9,GS,AG,by omega,yB⟩
   ·rw[hc]at xw
    refine wpIn_cond_true xw.k5 (wpIn_region ?_);have av7:Nj.size=agP.length+1:=by rw[<-fw,Tu];simp
    rw[av7,Fk];have agV:e9.low<=e9.H.length:=yB.rel.low;have Nk:=pw bb.b2 _ _ _ _ _ (show({e9 with aF:=[]}:av).low<=({e9 with aF:=[]}:av).H.length from agV) agU;refine Qx bC bb (k0:=0) (fun j hj=>by rw[dA,<-fM,Tu,e5 hj]) avW yB.rel.clear agU fun av8 a5 av9 awa agW awb=> ?_;have hk:Nj[0+agP.length]? =some h3:=by rw[dA,<-fM,Tu];simp
    have Tn:rP C fid vars N base st.H.length l w.heap.size fo.b bT st G w (seen.push e.born) es (d++[kv.1]) bp kz av8 a5 av9:=by
     refine yB.on jZ awa agW av4 ⟨Nk.1.len,cY Nk.1.low agV,Nk.1.same⟩ Nk.2 ?_;rw[awb];exact yB.marks.ext (agW 0 (cJ _))
    obtain⟨awc,awd,aEp,awe,oS,awf⟩:=Tn.del jZ (vars':=vars) bC av0 agQ avZ jC av1 av5 av6;rw[td,wpOpsIn_cons];refine Lh hk avY (by rw[agQ];simp) awe ?_;rw[avX];refine⟨d++[kv.1],seen.push e.born,awc,_,_,awd,AG,?_,awf⟩;have:=avT (seen:=seen.push e.born) oS;omega
 ·have ec:(hO it st).H.length=st.H.length+1:=by unfold hO;simp
  have af:=ca (st.H.length+1) (by show st.H.length+1<=(hO it st).H.length;rw[ec];exact aH _);have eM:=sz 0 st.H.length (aH _)
  have rb:(⟨cp G.β st.H.length ⟨w.heap.size,0,0,false⟩,G.I⟩:bX).β l=some fo:=by
   show cp G.β st.H.length ⟨w.heap.size,0,0,false⟩ l=some fo;rw[dE (by omega)];exact wU
  have tx:(⟨cp G.β st.H.length ⟨w.heap.size,0,0,false⟩,G.I⟩:bX).β st.H.length=some ⟨w.heap.size,0,0,false⟩:=dr _ _ _;refine⟨[],#[],es,bp,hO it st,G',tR,zE _,⟨⟨bB.rel,bB.env,bB.size,?_⟩,⟨⟨?_,jM _ _,fun x hx=> ?_⟩,rfl⟩,?_,fun m hm=> ?_,?_,?_,?_,?_,?_,?_,?_,fun p _ hp=>by simp at hp⟩⟩
  ·exact lV.low
  ·show st.H.length<=(hO it st).H.length
   omega
  ·have dT:x<min st.low l:=hx
   show(st.H++[b5.gone])[x]? =_;rw[e5 (by omega)]
  ·omega
  ·exact(sz m st.H.length (aH _)).trans ((ca m (by show m<=(hO it st).H.length;omega)).le (aH _) (by show st.H.length<=(hO it st).H.length;omega))
  ·rw[ez]
   exact(eX.ext eM).ext af
  ·exact yy af tx rfl
  ·exact yy af rb QB
  ·show(st.H++[b5.gone])[st.H.length]? =_
   simp
  ·show(st.H++[b5.gone])[l]? =_
   rw[e5 jZ];exact nt
  ·have:=yx af lV.rel tx (zE _)
   rw[this];exact mr _ _
  ·have:=yx af lV.rel rb (by omega)
   rw[this,alloc_old (ab.rel.blk _ _ wU)];exact eo
end
end Go.Abs
namespace Go.Abs
open Go
variable{C:Ctx}{fid:Nat->Nat}{w w':World}{G G':bX}{H H':Heap}
variable{vars:List Nat}{N:Nat}{aa:Nat->Option bU}
theorem cZ.c4 (cD:C.P.follows .mixedOrders=true)(bC:e7 C fid)(bb:gS C fid (b0 aa)){c:Code}{ac:bZ}(hc:C.code vars N c=some ac){st aQ:av}{x:X}(he:Abs.c4 aa ac st=some (x,aQ)):
  cZ C fid vars N c st (fun y s=>y=x/\s=aQ):=by
 obtain⟨n,hn⟩:=agN he;exact cZ.exec (n:=n) cD bC bb hc hn
theorem cZ.block{id:Nat}{c:Code}{st:av}{Out:X->av->Prop}(h:cZ C fid vars N c st (fun x s=>Out (DP id x) s)):cZ C fid vars N (.block id c) st Out:=fun G a w ro base Q ab dY eX hb dJ=>by
 refine wpIn_block (h G a w ro base _ ab dY eX hb fun x s az al aG ho ag F=> ?_);have:=dJ _ _ az al aG ho ag F;cases x with
 |normal=>exact this
 |ret=>exact this
 |exit j=>
  simp only[DP]at this;cases hb:Nat.beq j id with
  |true=>
   rw[hb]at this;have e:=eE hb;subst e;simp only[Dx,Exit.inBlock,if_true];exact this
  |false=>
   rw[hb]at this;have e:¬j=id:=fun e=>by rw[e,zM]at hb;cases hb
   simp only[Dx,Exit.inBlock,e,if_false];exact this
theorem cZ.loop{c:Code}{st:av}{Out:X->av->Prop}(I:Nat->av->Prop)(k:Nat)(h0:I k st)(h:∀k s,I k s->cZ C fid vars N c s (fun x ao=>(x=.normal/\∃j,k=j+1/\I j ao)\/(x≠ .normal/\Out x ao))):cZ C fid vars N (.loop c) st Out:=fun G a w ro base Q ab dY eX hb dJ=>by
 refine K6 (fun k al aG=>∃j s az,k=j+1/\I j s/\gH st s/\Fin C fid vars N base st G w s az al aG) ?_ (j:=k+1) ⟨k,st,G,rfl,h0,.refl _,.refl ab eX⟩;rintro _ al aG ⟨k,s,az,rfl,bq,ag,F⟩;refine⟨k,rfl,?_⟩;refine h k s bq az al aG ro base _ F.rel (by rw[ag.2];exact dY.ext (F.ext 0 (cJ _))) F.marks (cY hb (F.ext 0 (cJ _)).size) fun x s2 bu a2 bR ho AM vg=> ?_;rcases ho with⟨rfl,j,hj,awg⟩|⟨hx,ho⟩
 ·exact⟨j,s2,bu,hj,awg,ag.trans AM,F.trans vg ag AM⟩
 ·have:=dJ x s2 bu a2 bR ho (ag.trans AM) (F.trans vg ag AM)
  cases x with
  |normal=>exact absurd rfl hx
  |exit id=>exact this
  |ret=>exact this
def Tv:Go.Op->Option (Operand × Operand × TypeId × TypeId)
 | .call ⟨.builtin .delete,⟨[m,k]⟩,⟨[t,u]⟩⟩=>some (m,k,t,u)
 | _=>none
theorem awh{o:Go.Op}{m k:Operand}{t u:TypeId}(h:Tv o=some (m,k,t,u)):o=.call {callee:=.builtin .delete,args:= #[m,k],argTypes:= #[t,u]}:=by
 unfold Tv at h;split at h
 ·cases h;rfl
 ·cases h
def EN (C:Ctx)(vars:List Nat)(N:Nat):Code->Option B4
 | .seq vF (.cond (.tmp x) (.region _ ops false) .skip)=>match AO ops.toList with
   |some (os,⟨none,h3,_,_,_,none⟩)=>match Tv h3 with
    |some (m,k,t,_)=>match C.code vars N vF,C.cg vars (.tmp x),dM (C.oper vars N ops) os,C.cg vars m,C.cg vars k,C.P.underlying t with
     |some b1,some c,some I1,some am,some h9,some (.map eI _)=>(C.jR eI).map fun bY=>⟨b1,c,I1,am,h9,bY⟩
     | _,_,_,_,_,_=>none
    | _=>none
   | _=>none
 | _=>none
theorem awi{body:Code}{D:B4}(h:EN C vars N body=some D):agM C vars N body D:=by
 unfold EN at h;split at h
 ·rename_i vF x id ops
  split at h
  ·rename_i os h3 ty ps mm eM
   split at h
   ·rename_i m k t u hd
    split at h
    ·rename_i b1 c I1 am h9 eI tA af ak bK cL dF hE
     obtain⟨bY,gR,rfl⟩:=cA.1 h;exact⟨vF,x,id,ops,os,_,m,k,t,eI,tA,u,rfl,af,ak,QR eM,bK,awh hd,rfl,rfl,cL,dF,hE,gR⟩
    ·cases h
   ·cases h
  ·cases h
 ·cases h
def Nl:Code->Code
 | .seq (.region _ _ false) (.block _ (.loop (.seq (.region _ _ false) (.seq (.cond (.tmp _) .skip (.exit _)) (.block _ (.seq (.region _ _ false) body))))))=>body
 | _=>.skip
theorem cZ.awj (cD:C.P.follows .mixedOrders=true)(bC:e7 C fid)(bb:gS C fid (b0 aa)){c:Code}{R:eY}{D:B4}(hr:AP C vars N c=some R)(hd:EN C vars N (Nl c)=some D){iN st:av}{wr:List Bool}(he:c3 (b0 aa) R.t0 {iN with aF:=[]} []=some (st,wr))
  {l:Nat} {bp:List (V × V)} (qz:R.src.ah st.aF st.au=.map l) (nt:st.H[l]? =some (.map bp)) (Inv:List V->List (V × V)->av->Prop) (Out:List (V × V)->av->Prop)
  (tR:Inv [] bp (hO R.it st)) (rn:∀d es s,Inv d es s->bG s.au R.it=.ptr st.H.length 0)
  (oV:∀d es s,Inv d es s->∀kv∈es,Tt R D aa l st.H.length es kv s (fun bN ao=>Inv (d++[kv.1]) bN ao))
  (ig:∀d es s,Inv d es s->(∀kv∈es,kv.1∈d)->∃ao,R.fin (b0 aa) s=some ao/\st.H.length<ao.low/\Out es ao):
  cZ C fid vars N c iN (fun x s=>x=.normal/\∃es ao,Out es ao/\s={ao with low:=min st.low l}):=fun G a w ro base Q ab dY eX hb dJ=>by
 obtain⟨i0,l2,i2,hP,on,j0,kK,kL,j1,qA,oT,oU,mt,aD,more,pair,out,tm,sA,sB,body,rfl,h0,qs,tL,tM,wN,wO,hit,wP,h1,rl,hnd,tN,oM,h2,tO,wQ,wR,wS,rm,tP,wT,re,pg,tQ,yz⟩:=(QS hr).ok;have cH:=pw bb.b2 _ _ _ _ _ (show({iN with aF:=[]}:av).low<=({iN with aF:=[]}:av).H.length from ab.low) he;have AL:gH iN st:=cH;have de:kK.size=qA.length+1:=by rw[<-fw,h0];simp
 refine wpIn_seq (wpIn_region ?_);rw[de,Fk];refine Qx bC bb (k0:=0) (fun j hj=>by rw[dA,<-fM,h0,e5 hj]) qs ab.clear he fun az al aG bB ca ez=> ?_;have eM:=ca 0 (cJ _);have hk:kK[0+qA.length]? =some hP:=by rw[dA,<-fM,h0];simp
 have GU:k9 C az aG base al.defers:=by rw[ez];exact eX.ext eM
 rw[td,wpOpsIn_cons]
 exact avV (aa:=aa) cD bC bb hk tL tM wN wO hit wP h1 rl hnd tN oM h2 tO wQ wR wS rm tP wT re pg tQ (awi hd) rfl qz nt Inv Out tR rn oV ig bB (by rw[AL.2];exact dY.ext eM) GU (cY hb eM.size)
  fun es ao G' bk w' ho ag F=>dJ .normal _ G' bk w' ⟨rfl,es,ao,ho,rfl⟩ (AL.trans ag) (Fin.trans (st:=iN) (st1:=st) ⟨bB,ca,GU⟩ F AL ag)
end Go.Abs
namespace Go.Abs
open Go
section
variable{aa:Nat->Option bU}{b:Nat}{σ:bW}{H:Heap}{au:Env}{R:eY}
theorem agX{e:V}{Q:bW->Heap->Prop}(h:Op aa b R.t1 (fI n9 (some R.aD) e) (fJ σ (some R.aD) e) H [] (fun aW H' _=>Q aW H'))(hs:Fits au σ)(hb:b<=H.length):
  ∃dt H' low' aW,R.step (b0 aa) e ⟨[],au,H,H.length,none⟩=some ⟨[],dt,H',low',none⟩/\Fits dt aW/\b<=low'/\b<=H'.length/\Q aW H':=by
 obtain⟨ny,lh,af,ak,bK⟩:=w6 tX hs H H.length (some R.aD) e;obtain⟨ja,dt,H',low',fq,aW,q1,q2,cn,c7,fr⟩:=h ny lh H.length ak bK hb hb;refine⟨dt,H',low',aW,?_,q2,cn,c7,fr⟩;unfold eY.step;rw[af,q1]
theorem awk{Q:bW->Heap->Prop}(h:Op aa b R.t1 (fI n9 (some R.aD) (.aU [.bool false])) (fJ σ (some R.aD) (.aU [.bool false])) H [] (fun aW H' _=>bw n9 aW R.more=.bool false/\Q aW H'))(hs:Fits au σ)(hb:b<=H.length){low:Nat}:
  ∃dt H' low' aW,R.fin (b0 aa) ⟨[],au,H,low,none⟩=some ⟨[],dt,H',low',none⟩/\Fits dt aW/\b<=low'/\b<=H'.length/\Q aW H':=by
 obtain⟨dt,H',low',aW,q1,q2,cn,c7,fr,ic⟩:=agX h hs hb;refine⟨dt,H',low',aW,?_,q2,cn,c7,ic⟩;unfold eY.fin;simp only[q1];rw[tY tX q2,fr]
theorem awl{kv:V × V}{Q:bW->Heap->Prop}{li:Nat}(hit:σ R.it=.ptr li 0)
  (h:Op aa b R.t1 (fI n9 (some R.aD) (.aU [.bool true,kv.1,kv.2])) (fJ σ (some R.aD) (.aU [.bool true,kv.1,kv.2])) H [] (fun cU H1 _=>bw n9 cU R.more=.bool true/\cU R.it=.ptr li 0/\
    Op aa b R.t2 (fI n9 (some R.pair) (.aU [kv.1,kv.2])) (fJ cU (some R.pair) (.aU [kv.1,kv.2])) H1 [] (fun jG H2 _=>Q jG H2))) (hs:Fits au σ) (hb:b<=H.length) {low:Nat}:
  ∃dt H' low' aW,R.EL (b0 aa) kv ⟨[],au,H,low,none⟩=some ⟨[],dt,H',low',none⟩/\Fits dt aW/\b<=low'/\b<=H'.length/\Q aW H':=by
 obtain⟨lh,H1,bO,cU,q1,q2,cn,c7,fr,ic,mH⟩:=agX h hs hb;obtain⟨aen,DU,af,ak,bK⟩:=w6 tX q2 H1 bO (some R.pair) (.aU [kv.1,kv.2]);obtain⟨ja,dt,H',low',fq,aW,bB,ca,ez,fC,hG⟩:=mH aen DU bO ak bK cn c7;refine⟨dt,H',low',aW,?_,ca,ez,fC,hG⟩;unfold eY.EL;simp only[q1];rw[tY tX q2,fr];have e:dS (bG lh R.it) (bG au R.it)=true:=by rw[q2,hs,ic,hit];simp[dS]
 simp only[e,if_true,af,bB]
end
section
variable{C:Ctx}{fid:Nat->Nat}{vars:List Nat}{N:Nat}{aa:Nat->Option bU}
theorem cZ.B5 (cD:C.P.follows .mixedOrders=true)(bC:e7 C fid)(bb:gS C fid (b0 aa)){a d:Code}{A B:bZ}(hc:C.code vars N a=some A){st ao:av}{x:X}{Out:X->av->Prop}(he:Abs.c4 aa (.seq A B) st=some (x,ao))
  (k:∀s,Abs.c4 aa B s=some (x,ao)->cZ C fid vars N d s Out) (c6:x≠ .normal->Out x ao):cZ C fid vars N (.seq a d) st Out:=by
 rw[hM]at he;cases hA:Abs.c4 aa A st with
 |none=>rw[hA]at he;cases he
 |some p=>
  obtain⟨y,s⟩:=p;rw[hA]at he;refine cZ.seq (cZ.c4 cD bC bb hc hA) (fun s1 h1=> ?_) fun yV s1 hy h1=> ?_
  ·obtain⟨af,rfl⟩:=h1
   subst af;exact k s1 he
  ·obtain⟨rfl,rfl⟩:=h1
   cases yV with
   |normal=>exact absurd rfl hy
   |exit i=>cases he;exact c6 (by simp)
   |ret=>cases he;exact c6 (by simp)
end
end Go.Abs
