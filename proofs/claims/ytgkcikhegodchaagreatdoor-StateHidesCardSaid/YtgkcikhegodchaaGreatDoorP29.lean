/- Texts of this claim, joined and written short by a program. -/
import Derived.Test.YtgkcikhegodchaaGreatDoorP10
import Derived.Test.YtgkcikhegodchaaGreatDoorP09
import Derived.Test.YtgkcikhegodchaaGreatDoorP21
import Derived.Test.YtgkcikhegodchaaGreatDoorP00
set_option linter.unusedVariables false
set_option linter.unusedSimpArgs false
set_option linter.unusedSectionVars false
namespace Go.Abs.bA
open Go Go.Abs Go.Abs.S
def asJ:cF:=q (R [r 22 (jv 3 YF v20),r 23 (ls 3 t22),o 4 (.alloc [z,z,z]),n (st 3 v4 t23)]) (q (q (R [r 24 (ef 0 v4),r 25 (b6 t24),r 26 (ef 0 v1),r 27 (ef 1 t26),r 28 (b6 t27),r 29 (hE 1 t28),r 30 (iA (fn 82) [t25,t29]),r 31 (no t30),r 32 (m t31),rg 33 t32 false (ef 2 v4),rg 34 t32 false (b6 t33),rg 35 t32 false (ef 0 v1),rg 36 t32 false (ef 1 t35),rg 37 t32 false (b6 t36),rg 38 t32 false (hE 1 t37),rg 39 t32 false (iA (fn 82) [t34,t38]),rg 40 t32 false (no t39),r 41 (ez t32 jP t40),r 42 (m t41),rg 43 t42 false (ef 0 v4),rg 44 t42 false (b6 t43),rg 45 t42 false (ef 2 v4),rg 46 t42 false (b6 t45),rg 47 t42 false (eq t44 t46),o 48 (ez t42 jP t47)]) (hY alY (q (R [o 2 (m k2)]) rt) k)) (q (sS [r 49 (ef 0 v1),r 50 (ef 1 t49),r 51 (b6 t50),r 52 (ef 0 v4),r 53 (b6 t52),r 54 (jv 6 t51 t53),r 55 (ls 6 t54),r 56 (ef 0 v1),r 57 (ef 1 t56),r 58 (b6 t57),r 59 (ef 2 v4),r 60 (b6 t59),r 61 (jv 6 t58 t60),r 62 (ls 6 t61),o 5 (.alloc [nT,z,nl,z,z,z]),o 6 (.alloc [nT,z,nl,z,z,z]),n (st 6 v5 t55),n (st 6 v6 t62)] [0,1,3,0,8,31,63,0,128,384,0,1024,3968,8064,0,0,49279,131071]) (q (sS [r 63 (ef 1 v5),r 64 (b6 t63),r 65 (ne t64 (c 0)),r 66 (m t65),rg 67 t66 false (ef 1 v6),rg 68 t66 false (b6 t67),rg 69 t66 false (ne t68 (c 0)),r 70 (ez t66 jP t69),r 71 (m t70),rg 72 t71 false (ef 1 v4),rg 73 t71 false (b6 t72),rg 74 t71 false (ef 2 v5),rg 75 t71 false (b6 t74),rg 76 t71 false (hE 1 t75),rg 77 t71 false (iA (fn 82) [t73,t76]),rg 78 t71 false (no t77),r 79 (ez t71 jP t78),r 80 (m t79),rg 81 t80 false (ef 2 v6),rg 82 t80 false (b6 t81),rg 83 t80 false (hE 1 t82),rg 84 t80 false (ne t83 (c 1)),r 85 (ez t80 jP t84),r 86 (m t85),rg 87 t86 false (ef 2 v6),rg 88 t86 false (b6 t87),rg 89 t86 false (jv 1 t88 (c 0)),rg 90 t86 false (b6 t89),rg 91 t86 false (ef 2 v5),rg 92 t86 false (b6 t91),rg 93 t86 false (ef 1 v4),rg 94 t86 false (b6 t93),rg 95 t86 false (jv 1 t92 t94),rg 96 t86 false (b6 t95),rg 97 t86 false (ne t90 t96),o 98 (ez t86 jP t97)] [0,1,3,7,15,31,63,127,255,511,1023,511,2559,6655,16383,32767,65535,131071,262143,524287,1048575,2097151,4194303,8388607,16777215,33554431,67108863,134217727,16777215,285212671,16777215,1090519039,4043309055,8338276351,17179869183,34359738367]) (hY alZ (q (R [o 2 (m k2)]) rt) k))))
def asK:cF:=q (R [r 107 (jv 3 YG v105),r 108 (ls 3 t107),o 9 (.alloc [z,z,z]),n (st 3 v9 t108)]) (R [r 109 (b6 jS),r 110 (ef 0 v9),r 111 (b6 t110),n (.qu 0 t109 t111 jP)])
def asL:cF:=q (R [r 121 (.fail),o 122 (ex t121 0)]) (q (hY al0 k (e 6)) (b2 7 (q (R [r 123 (.fail),r 124 (ex t123 0),o 10 (.alloc [z]),n (st 1 v10 t124)]) (q (R [r 125 (ef 0 v1),r 126 (ef 6 t125),r 127 (b6 t126),r 128 (.tk 92 [] [v10,jS]),r 129 (iA (fn 91) [t127,t128]),o 130 (no t129)]) (hY v130 (R [r 131 (b6 jS),r 132 (b6 v10),n (.zA 0 t131 t132)]) k)))))
def asM:cF:=q (R [r 119 (b6 jS),o 120 (.fail)]) (b2 6 (.loop asL))
def BL:ix:=⟨137,q (R [o 1 (kb v0),o 2 (m k2)]) (q (q (R [r 11 (ef 0 v1),r 12 (ef 6 t11),r 13 (b6 t12),r 14 (hE 1 t13),o 15 (gt t14 (c 12))]) (hY YE (q (R [o 2 (m k2)]) rt) k)) (q (q (R [r 16 (ef 0 v1),r 17 (ef 6 t16),o 18 (b6 t17),o 19 (hE 1 YF),o 20 (m (c 0))]) (b2 0 (.loop (tU 21 19 20 99 1 0 asJ)))) (q (R [r 100 (.mkMap),o 7 (.alloc [.jk]),n (st 1 jS t100)]) (q (q (R [r 101 (ef 0 v1),r 102 (ef 6 t101),o 103 (b6 t102),o 104 (hE 1 YG),o 105 (m (c 0))]) (b2 2 (.loop (tU 106 104 105 112 3 2 asK)))) (q (q (R [r 113 (ef 0 v1),r 114 (ef 6 t113),r 115 (b6 t114),o 116 (hE 1 t115),o 117 (m (c 0))]) (b2 4 (.loop (tU 118 116 117 133 5 4 asM)))) (q (R [r 134 (b6 jS),r 135 (hE 2 t134),r 136 (eq t135 (c 0)),o 2 (m t136)]) rt)))))),[.tmp 2],false⟩
def HY:cF:=R [o 3 (.alloc [z,z,z,z]),n (st 4 v3 YD)]
def HZ:cF:=b2 1 (q (q (R [r 14 (ef 2 v3),r 15 (b6 t14),r 16 (ne t15 (c 0)),r 17 (m t16),rg 18 t17 false (ef 3 v3),rg 19 t17 false (b6 t18),rg 20 t17 false (b6 v1),rg 21 t17 false (hE 0 t20),rg 22 t17 false (ne t19 t21),o 23 (ez t17 jP t22)]) (hY v23 (e 0) k)) (q (R [r 24 (ef 0 v3),r 25 (b6 t24),n (st 1 v2 t25)]) rt))
def H3:ix:=⟨26,q (R [o 1 (kb v0),o 2 (.alloc [z])]) (q (q (R [r 4 (b6 v1),r 5 (eq t4 (cs [])),r 6 (m t5),rg 7 t6 false (b6 v1),rg 8 t6 false (hE 0 t7),rg 9 t6 false (gt t8 (c 4096)),o 10 (ez t6 jP t9)]) (hY v10 (q (R [n (st 1 v2 (c 0))]) rt) k)) (q (q (R [r 11 (b6 v1),o 12 (iA (fn 140) [t11])]) (b2 0 (.rangeFunc v12 [13] HY HZ))) (q (R [n (st 1 v2 (c 0))]) rt))),[.cell 2 none],false⟩
def aeQ:ix:=⟨6,q (R [o 1 (kb v0),o 2 (m (.const (.kr)))]) (q (R [r 4 (iA (fn 242) []),o 3 (.alloc [.jk]),n (st 1 v3 t4)]) (q (R [r 5 (.tk 243 [] [v1,v3]),o 2 (m t5)]) rt)),[.tmp 2],false⟩
def H4:cF:=q (q (R [r 34 (m qS),r 35 (m jS),r 36 (hE 1 t35),o 37 (lt t34 t36)]) (hY v37 k (e 0))) (b2 1 (sS [r 38 (m qS),r 39 (m jS),r 40 (m qS),r 41 (.tl 2 t39 (some t40) none none),r 42 (m jS),r 43 (m qS),r 44 (.tl 2 t42 none (some t43) none),r 45 (.copy 2 t41 t44),r 46 (dh t38 t45),o 8 (m t46)] [0,0,0,6,0,0,48,126,255,511]))
def aeR:ix:=⟨48,q (R [o 4 (m o6)]) (q (q (R [r 9 (m v1),o 10 (lt t9 (c 0))]) (hY v10 (R [r 11 (.Cm 9 (cs [99,97,110,110,111,116,32,98,101,32,110,101,103,97,116,105,118,101])),n (.fail)]) k)) (q (R [r 13 (m v0),r 14 (hE 1 t13),r 15 (.conv .u64 t14),r 16 (m v1),r 17 (.conv .u64 t16),r 18 (iA (fn 156) [t15,t17]),r 12 (m t18),r 19 (ex t12 0),r 20 (ex t12 1),o 5 (m t19),o 6 (m t20)]) (q (q (R [r 21 (m v5),r 22 (gt t21 (.const (.int .u64 0))),r 23 (m t22),rg 24 t23 false (m v6),rg 25 t23 false (gt t24 (.const (.int .u64 9223372036854775807))),o 26 (ez t23 jP t25)]) (hY v26 (R [r 27 (.Cm 9 (cs [116,104,101,32,114,101,115,117,108,116,32,111,102,32,40,108,101,110,40,120,41,32,42,32,99,111,117,110,116,41,32,111,118,101,114,102,108,111,119,115])),n (.fail)]) k)) (q (R [r 28 (m v6),r 29 (.conv .i64 t28),r 30 (.mkSlice 2 [z,z] 16 t29 t29),o 7 (m t30)]) (q (R [r 31 (m jS),r 32 (m v0),r 33 (.copy 2 t31 t32),o 8 (m t33)]) (q (b2 0 (.loop H4)) (q (R [r 47 (m jS),o 4 (m t47)]) rt))))))),[.tmp 4],false⟩
def D9:ix:=⟨15,q (R [o 3 (kb v0),o 4 (m k2)]) (q (R [r 5 (ef 0 v3),r 6 (b6 t5),r 7 (b6 v1),r 8 (eq t6 t7),r 9 (m t8),rg 10 t9 true (b6 v2),rg 11 t9 true (ef 2 v3),rg 12 t9 true (b6 t11),rg 13 t9 true (.lookup 0 (.bool false) t10 t12 false),r 14 (ez t9 t13 k2),o 4 (m t14)]) rt),[.tmp 4],false⟩
def SQ:cF:=q (R [r 9 (jv 1 v5 jS),r 10 (b6 t9),o 3 (m t10)]) (R [r 11 (m v1),r 12 (m v3),n (.qu 1 t11 t12 jP)])
def aeS:ix:=⟨15,q (R [o 0 (m (.const (.jk)))]) (q (R [r 4 (.mkMap),o 1 (m t4)]) (q (q (R [o 5 (iA (fn 368) [(cs [115,111,114,116,32,114,101,108,97,116,105,111,110,32,99,111,117,110,116,101,114,32,115,101,116,32,114,101,103,105,115,116,101,114,32,105,110,118,97,114,105,97,110,116,32,111,112,101,114,97,116,105,111,110,32,107,101,121,32,114,101,102,101,114,101,110,99,101,32,116,111,32,99,111,117,110,116,32,97,99,121,99,108,105,99,32,97,108,108,32,115,117,109,32,105,110,32,97,100,100,119,105,110,115,32,114,101,109,111,118,101,119,105,110,115,32,108,97,115,116,32,109,117,108,116,105,32,104,105,100,101,32,111,114,100,101,114,101,100,32,114,101,113,117,105,114,101,32,104,111,108,100,32,105,110,115,101,114,116,32,100,101,108,101,116,101,32,97,100,100,32,102,114,111,109,32,112,117,116,32,100,114,111,112,32,97,115,115,105,103,110,32,102,111,114,32,119,104,101,114,101,32,97,110,100,32,111,114,32,110,111,116])]),o 6 (hE 1 v5),o 7 (m (c 0))]) (b2 0 (.loop (tU 8 6 7 13 1 0 SQ)))) (q (R [r 14 (m v1),o 0 (m t14)]) rt))),[.tmp 0],false⟩
def yY:cF:=q (q (R [r 21 (m jS),r 22 (m v6),r 23 (hE 0 t22),r 24 (lt t21 t23),r 25 (m t24),rg 26 t25 true (m v6),rg 27 t25 true (m jS),rg 28 t25 true (.sn t26 t27),rg 29 t25 true (iA (fn 250) [t28]),rg 30 t25 true (no t29),r 31 (ez t25 t30 k2),r 32 (m t31),rg 33 t32 true (m v6),rg 34 t32 true (m jS),rg 35 t32 true (.sn t33 t34),rg 36 t32 true (ne t35 (.const (.int .u8 35))),r 37 (ez t32 t36 k2),r 38 (m t37),rg 39 t38 true (m v6),rg 40 t38 true (m jS),rg 41 t38 true (.rf t39 (some t40) none),rg 42 t38 true (iA (fn 251) [t41]),rg 43 t38 true (no t42),o 44 (ez t38 t43 k2)]) (hY v44 k (e 3))) (q (b2 4 k) (R [r 45 (m jS),r 46 (dh t45 (c 1)),o 7 (m t46)]))
def xq:cF:=.seq (.region [⟨some (48,false),.mv (.var 6),none⟩,⟨some (49,false),.bin .eql (.tmp 48) (.const (.str [])),none⟩,⟨some (47,true),.mv (.tmp 49),none⟩] none) (.cond (.var 47) (.skip) (.seq (.region [⟨some (51,false),.mv (.var 6),none⟩,⟨some (52,false),.sn (.tmp 51) (.const (.int .i64 0)),none⟩,⟨some (53,false),.call false (.func 245) [(.tmp 52)],none⟩,⟨some (50,true),.mv (.tmp 53),none⟩] none) (.cond (.var 50) (.seq (.region [⟨some (54,false),.mv (.var 6),none⟩,⟨some (55,false),.call false (.func 246) [(.tmp 54),(.func 247)],none⟩,⟨some (7,true),.mv (.tmp 55),none⟩,⟨some (56,false),.fieldAddr 0 (.var 5),none⟩,⟨none,.store 1 (.tmp 56) (.const (.int .i64 1)),none⟩] none) (.seq (.region [⟨some (57,false),.load none (.var 2),none⟩,⟨some (58,false),.mv (.var 6),none⟩,⟨some (59,false),.mv (.var 7),none⟩,⟨some (60,false),.rf (.tmp 58) none (some (.tmp 59)),none⟩,⟨some (61,true),.lookup 1 (.bool false) (.tmp 57) (.tmp 60) false,none⟩] (some [0,0,0,6,15])) (.cond (.var 61) (.region [⟨some (62,false),.fieldAddr 0 (.var 5),none⟩,⟨none,.store 1 (.tmp 62) (.const (.int .i64 2)),none⟩] none) (.skip)))) (.seq (.region [⟨some (64,false),.mv (.var 6),none⟩,⟨some (65,false),.sn (.tmp 64) (.const (.int .i64 0)),none⟩,⟨some (66,false),.call false (.func 248) [(.tmp 65)],none⟩,⟨some (63,true),.mv (.tmp 66),none⟩] none) (.cond (.var 63) (.region [⟨some (67,false),.mv (.var 6),none⟩,⟨some (68,false),.call false (.func 246) [(.tmp 67),(.func 248)],none⟩,⟨some (7,true),.mv (.tmp 68),none⟩,⟨some (69,false),.fieldAddr 0 (.var 5),none⟩,⟨none,.store 1 (.tmp 69) (.const (.int .i64 3)),none⟩] none) (.seq (.region [⟨some (71,false),.mv (.var 6),none⟩,⟨some (72,false),.call false (.func 249) [(.tmp 71)],none⟩,⟨some (73,false),.bin .gtr (.tmp 72) (.const (.int .i64 0)),none⟩,⟨some (70,true),.mv (.tmp 73),none⟩] none) (.cond (.var 70) (.region [⟨some (74,false),.mv (.var 6),none⟩,⟨some (75,false),.call false (.func 249) [(.tmp 74)],none⟩,⟨some (7,true),.mv (.tmp 75),none⟩,⟨some (76,false),.fieldAddr 0 (.var 5),none⟩,⟨none,.store 1 (.tmp 76) (.const (.int .i64 4)),none⟩] none) (.seq (.region [⟨some (20,false),.fieldAddr 0 (.var 5),none⟩,⟨none,.store 1 (.tmp 20) (.const (.int .i64 5)),none⟩] none) (.seq (.region [⟨some (7,true),.mv (.const (.int .i64 1)),none⟩] none) (.block 3 (.loop yY)))))))))))
def Mz:cF:=.region [⟨some (8,false),.mv (.var 4),none⟩,⟨some (9,false),.mv (.var 4),none⟩,⟨some (10,false),.load none (.var 1),none⟩,⟨some (11,false),.mv (.var 4),none⟩,⟨some (12,false),.rf (.tmp 10) (some (.tmp 11)) none,none⟩,⟨some (13,false),.call false (.func 244) [(.tmp 12)],none⟩,⟨some (14,false),.bin .add (.tmp 9) (.tmp 13),none⟩,⟨some (15,false),.build [.int .i64 0,.int .i64 0,.int .i64 0,.int .i64 0] [(1,1,(.tmp 8)),(2,1,(.tmp 14))],none⟩,⟨some (5,true),.alloc [.int .i64 0,.int .i64 0,.int .i64 0,.int .i64 0],none⟩,⟨none,.store 4 (.var 5) (.tmp 15),none⟩] none
def MA:cF:=.region [⟨some (16,false),.load none (.var 1),none⟩,⟨some (17,false),.fieldAddr 2 (.var 5),none⟩,⟨some (18,false),.load none (.tmp 17),none⟩,⟨some (19,false),.rf (.tmp 16) (some (.tmp 18)) none,none⟩,⟨some (6,true),.mv (.tmp 19),none⟩] none
def MB:cF:=.region [⟨some (7,true),.mv (.const (.int .i64 0)),none⟩] none
def Ea:cF:=.seq (.region [⟨some (77,false),.fieldAddr 2 (.var 5),none⟩,⟨some (78,false),.load none (.tmp 77),none⟩,⟨some (79,false),.mv (.var 7),none⟩,⟨some (80,false),.bin .add (.tmp 78) (.tmp 79),none⟩,⟨some (81,false),.fieldAddr 3 (.var 5),none⟩,⟨none,.store 1 (.tmp 81) (.tmp 80),none⟩] none) (.seq (.region [⟨some (82,false),.fieldAddr 3 (.var 5),none⟩,⟨some (83,false),.load none (.tmp 82),none⟩,⟨some (4,true),.mv (.tmp 83),none⟩] none) (.seq (.region [⟨some (84,false),.mv (.var 0),none⟩,⟨some (85,false),.load (some 4) (.var 5),none⟩,⟨some (86,false),.call false (.tmp 84) [(.tmp 85)],none⟩,⟨some (87,false),.un .not (.tmp 86),none⟩,⟨some (88,false),.mv (.tmp 87),none⟩,⟨some (89,false),.fieldAddr 0 (.var 5),some ((.tmp 88),false)⟩,⟨some (90,false),.load none (.tmp 89),some ((.tmp 88),false)⟩,⟨some (91,false),.bin .eql (.tmp 90) (.const (.int .i64 0)),some ((.tmp 88),false)⟩,⟨some (92,true),.pick (.tmp 88) (.const (.bool true)) (.tmp 91),none⟩] none) (.cond (.var 92) (.ret) (.skip))))
def MC:cF:=b2 1 (q Mz (q MA (q MB (q (b2 2 xq) Ea))))
def aeT:ix:=⟨93,q (R [o 4 (m (c 0))]) (b2 0 (.loop MC)),[],false⟩
def aeU:ix:=⟨30,q (R [o 4 (m (.const (.int .u64 0))),o 5 (m (.const (.int .u64 0)))]) (q (hY k2 (q (R [r 11 (m v0),r 12 (.conv .u32 t11),r 13 (m v1),r 14 (.conv .u32 t13),r 15 (iA (fn 265) [t12,t14]),r 10 (m t15),r 16 (ex t10 0),r 17 (ex t10 1),o 6 (m t16),o 7 (m t17)]) (q (R [r 18 (m v6),r 19 (.conv .u64 t18),r 20 (m jS),r 21 (.conv .u64 t20),o 4 (m t19),o 5 (m t21)]) rt)) k) (q (R [r 23 (m v0),r 24 (m v1),r 25 (iA (fn 266) [t23,t24]),r 22 (m t25),r 26 (ex t22 0),r 27 (ex t22 1),o 8 (m t26),o 9 (m t27)]) (q (R [r 28 (m qS),r 29 (m v9),o 4 (m t28),o 5 (m t29)]) rt))),[.tmp 4,.tmp 5],false⟩
def aeV:ix:=⟨51,q (R [o 4 (m (.const (.int .u64 0))),o 5 (m (.const (.int .u64 0)))]) (q (R [r 14 (m v0),r 15 (.bin .and t14 (.const (.int .u64 4294967295))),o 6 (m t15)]) (q (R [r 16 (m v0),r 17 (.bin .shr t16 (.const (.int .u64 32))),o 7 (m t17)]) (q (R [r 18 (m v1),r 19 (.bin .and t18 (.const (.int .u64 4294967295))),o 8 (m t19)]) (q (R [r 20 (m v1),r 21 (.bin .shr t20 (.const (.int .u64 32))),o 9 (m t21)]) (q (R [r 22 (m v6),r 23 (m qS),r 24 (.bin .mul t22 t23),o 10 (m t24)]) (q (R [r 25 (m jS),r 26 (m qS),r 27 (.bin .mul t25 t26),r 28 (m v10),r 29 (.bin .shr t28 (.const (.int .u64 32))),r 30 (dh t27 t29),o 11 (m t30)]) (q (R [r 31 (m v11),r 32 (.bin .and t31 (.const (.int .u64 4294967295))),o 12 (m t32)]) (q (R [r 33 (m v11),r 34 (.bin .shr t33 (.const (.int .u64 32))),o 13 (m t34)]) (q (R [r 35 (m v12),r 36 (m v6),r 37 (m v9),r 38 (.bin .mul t36 t37),r 39 (dh t35 t38),o 12 (m t39)]) (q (R [r 40 (m jS),r 41 (m v9),r 42 (.bin .mul t40 t41),r 43 (m YD),r 44 (dh t42 t43),r 45 (m v12),r 46 (.bin .shr t45 (.const (.int .u64 32))),r 47 (dh t44 t46),o 4 (m t47)]) (q (R [r 48 (m v0),r 49 (m v1),r 50 (.bin .mul t48 t49),o 5 (m t50)]) rt))))))))))),[.tmp 4,.tmp 5],false⟩
end Go.Abs.bA
namespace Go.Abs
open Go
variable{C:Ctx}{fid:Nat->Nat}{w w':World}{G G':cg}{H H':Heap}
theorem asN (cW:C.P.follows .mixedOrders=true)(bP:fl C fid){aa:Nat->Option cc}(hT:dU C fid aa):hD C fid (b9 aa):=
 ⟨QJ aa,fun U ag al he=>by
  obtain⟨n,hn⟩:=vS.1 he;exact(Kc cW bP hT n).run U ag al hn⟩
theorem aeW{k:TypeId}{b5:Nat}{d:TypeDesc}(hk:C.j7 k=some b5)(hd:C.P.underlying k=some d){a:V}{x:Value}(al:bw fid G w a x):∀{bz:List (V × V)} {es:List MapEntry} (i:Nat) {r:V} {j:Nat} {z:Value},
  bj fid G w (bz.map (·.1)) (es.map (·.key))->bj fid G w (bz.map (·.2)) (es.map (·.val))->iJ b5 a bz=some (some r)->Instr.findNow d x es i=some (some (i+j,z))->jm b5 a bz=bz.eraseIdx j
 |[],[],i,r,j,z,_,_,h,_=>by simp[iJ]at h
 |[],_::_,_,_,_,_,h,_,_,_=>by simp at h;cases h
 | _::_,[],_,_,_,_,h,_,_,_=>by simp at h;cases h
 |(bJ,u')::bz,e::es,i,r,j,z,eQ,c6,h,ag=>by
  simp only[dX]at eQ c6;cases eQ with
  |cons _ _ _ _ ha eQ=>
   cases c6 with
   |cons _ _ _ _ kB c6=>
    simp only[iJ]at h;split at h
    ·rename_i he
     obtain⟨hs,-⟩:=yc hk hd al ha he;simp only[Instr.findNow,hs,aD,bH]at ag;obtain rfl:j=0:=by omega
     simp only[jm,he,if_true,ahG]
    ·rename_i he
     obtain⟨hs,-⟩:=yc hk hd al ha he;simp only[Instr.findNow,hs]at ag;have hS:=sF hk hd al (i+1) eQ c6 h;obtain⟨wv,oL,h1,-,-⟩:=hS;rw[h1]at ag;simp only[aD,bH]at ag;obtain⟨hj,rfl⟩:=ag;obtain rfl:j=wv+1:=by omega
     have ih:=aeW hk hd al (i+1) eQ c6 h h1;have bq:¬(jl b5 a bJ=some true):=by rw[he];simp
     simp only[jm,bq,if_false,ahH,ih]
    ·cases h
theorem asO{vars:List Nat}{ah:ai->V}{ρ:Operand->Value}{o:Oper}(aU:fK C fid vars G w ah ρ){m k:Operand}{t eO nX:TypeId}{u:TypeId}(hd:C.P.underlying t=some (.map eO nX)){am ij:ai}{b5:Nat}
  (ho:o.op=.call {callee:=.builtin .delete,args:= #[m,k],argTypes:= #[t,u]}) (h1:C.cl vars m=some am) (h2:C.cl vars k=some ij) (gT:C.j7 eO=some b5) {l:Nat} (ad:ah am=.map l) {h0:Home} (cC:G.β l=some h0) {bz:List (V × V)} {es:Array MapEntry} {bX:Nat}
  (dD:w.heap[h0.b]? =some (.map es bX)) (eQ:bj fid G w (bz.map (·.1)) (es.toList.map (·.key))) (c6:bj fid G w (bz.map (·.2)) (es.toList.map (·.val))) (ca:pH es bX) {b7:Option V} (jt:iJ b5 (ah ij) bz=some b7):
  ∃bV,(execOp ρ o).run C.P w=.ok (.value (.tuple #[])) {w with heap:=w.heap.setIfInBounds h0.b (.map bV bX)}/\bj fid G w ((jm b5 (ah ij) bz).map (·.1)) (bV.toList.map (·.key))/\bj fid G w ((jm b5 (ah ij) bz).map (·.2)) (bV.toList.map (·.val))/\
   pH bV bX/\((bV=es/\jm b5 (ah ij) bz=bz)\/∃j,bV=es.eraseIdxIfInBounds j/\jm b5 (ah ij) bz=bz.eraseIdx j):=by
 have hm:=aU m am h1;have hk:=aU k ij h2;obtain⟨JL,jN⟩:=JK gT
 have ct:(execOp ρ o).run C.P w=((Builtin.delete_ #[t,u] o.type #[ρ m,ρ k]).run C.P w).andThen fun z w'=>.ok (.value z) w':=by
  rw[wk ho];simp only[builtin,Sem.run_bind,Ez,dX,jF];rfl
 rw[ad]at hm;obtain⟨aBj,aeX,W5,dS⟩:=hm.mapInv;rw[cC]at aeX;cases aeX;cases b7 with
 |none=>
  have ag:=sF gT jN hk 0 eQ c6 jt;refine⟨es,?_,by rw[CQ jt];exact eQ,by rw[CQ jt];exact c6,ca,.inl ⟨rfl,CQ jt⟩⟩;rw[ct];unfold Builtin.delete_;simp only[dS];simp[run_underlying hd,yd dD,uX gT,wu (C:=C) jN ag,CP _ dD,Sem.run_pure,Result.andThen]
 |some r=>
  obtain⟨j,y,ag,-,-⟩:=sF gT jN hk 0 eQ c6 jt;obtain⟨s1,s2⟩:=O1 gT jN hk 0 eQ c6 jt ag;have fy:=aeW gT jN hk 0 eQ c6 jt ag;rw[eo]at ag;refine⟨es.eraseIdxIfInBounds j,?_,by simpa using s1,by simpa using s2,ca.erase _,.inr ⟨j,rfl,fy⟩⟩;rw[ct];unfold Builtin.delete_;simp only[dS];simp[run_underlying hd,yd dD,uX gT,wu (C:=C) jN ag,CP _ dD,Sem.run_pure,Result.andThen]
theorem aeY{α β:Type}:∀{j:Nat} {l:List α} {m:List β} {p:α × β},p∈(l.eraseIdx j).zip (m.eraseIdx j)->p∈l.zip m
 | _,[],_,_,h=>by simp at h
 | _,_::_,[],_,h=>by simp at h
 |0,_::_,_::_,_,h=>by simp only[ahG]at h;exact lf _ h
 |j+1,_::_,_::_,_,h=>by
  simp only[ahH,Ey,dG]at h⊢;exact h.imp id aeY
section
variable{vars:List Nat}{N:Nat}
structure r3 (C:Ctx) (fid:Nat->Nat) (vars:List Nat) (N base li l r kY bX:Nat) (st:aw) (G:cg) (w:World) (seen:Array Nat) (es:Array MapEntry) (d:List V) (bz:List (V × V)) (s:aw) (aB:cg) (ak:Act) (aH:World):Prop where
 rel:dN C fid vars N aB s ak aH
 b7:gN st {s with low:=min st.low l}
 len:li<s.H.length
 ext:∀m,m<=min st.low l->Ext G w aB aH m st.H.length
 marks:lu C aB aH base ak.defers
 hi:∃h,aB.β li=some h/\h.b=r
 hm:∃h,aB.β l=some h/\h.b=kY
 gone:s.H[li]? =some .gone
 mp:s.H[l]? =some (.map bz)
 iter:aH.heap[r]? =some (.mapIter (some kY) bX seen bX)
 map:aH.heap[kY]? =some (.map es bX)
 hand:∀p∈es.toList.zip bz,p.1.born∈seen->p.2.1∈d
variable{base li l r kY bX:Nat}{st:aw}{seen:Array Nat}{es:Array MapEntry}{d:List V}{bz:List (V × V)}{s ar:aw}{aB bC:cg}{ak a2:Act}{aH bQ:World}
theorem r3.on (h:r3 C fid vars N base li l r kY bX st G w seen es d bz s aB ak aH)(kf:l<li)(U:dN C fid vars N bC ar a2 bQ)(de:∀m,m<=ar.low->Ext aB aH bC bQ m s.H.length)(jL:li<ar.low)(c1:Fr s.H s.H.length ar.H ar.low)(e9:ar.ro=s.ro)
  (hd:lu C bC bQ base a2.defers):r3 C fid vars N base li l r kY bX st G w seen es d bz ar bC a2 bQ:=by
 obtain⟨h1,ad,q1⟩:=h.hi;obtain⟨h2,e2,q2⟩:=h.hm;have g1:=Kf h.rel.rel ad h.gone;have g2:=An h.rel.rel e2 h.mp;have mV:=de _ (aN _);have kx:=h.b7.1.len;refine⟨U,⟨⟨c4 h.b7.1.len c1.len,j3 _ _,fun x hx=> ?_⟩,e9.trans h.b7.2⟩,se h.len c1.len,fun m hm=> ?_,hd,?_,?_,?_,?_,?_,?_,h.hand⟩
 ·have dZ:x<min st.low l:=hx
  exact(c1.same x (by omega)).trans (h.b7.1.same x hx)
 ·exact(h.ext m hm).trans ((de m (by omega)).le (aN _) kx)
 ·obtain⟨h',e',q'⟩:=yp mV ad g1.1;exact⟨h',e',q'.trans q1⟩
 ·obtain⟨h',e',q'⟩:=yp mV e2 g2.1;exact⟨h',e',q'.trans q2⟩
 ·rw[c1.same li jL];exact h.gone
 ·rw[c1.same l (by omega)];exact h.mp
 ·have:=yo mV h.rel.rel ad jL
  rw[q1]at this;rw[this];exact h.iter
 ·have:=yo mV h.rel.rel e2 (by omega)
  rw[q2]at this;rw[this];exact h.map
theorem r3.del (h:r3 C fid vars N base li l r kY bX st G w seen es d bz s aB ak aH)(kf:l<li){vars':List Nat}{o:Oper}{m k:Operand}{t eO nX u:TypeId}(bP:fl C fid)(hd:C.P.underlying t=some (.map eO nX)){am ij:ai}{b5:Nat}
  (ho:o.op=.call {callee:=.builtin .delete,args:= #[m,k],argTypes:= #[t,u]}) (h1:C.cl vars m=some am) (h2:C.cl vars k=some ij) (gT:C.j7 eO=some b5) (ad:am.ah s.aM s.ay=.map l) {b7:Option V} (jt:iJ b5 (ij.ah s.aM s.ay) bz=some b7):
  ∃bV bC bQ,(execOp ak.eval o).run C.P aH=.ok (.value (.tuple #[])) bQ/\bV.toList.Sublist es.toList/\
   r3 C fid vars N base li l r kY bX st G w seen bV d (jm b5 (ij.ah s.aM s.ay) bz) {s with aM:=[],H:=s.H.set l (.map (jm b5 (ij.ah s.aM s.ay) bz)),low:=min s.low l} bC ak bQ:=by
 obtain⟨au,bK,b3⟩:=h.hi;obtain⟨a7,cw,cS⟩:=h.hm;obtain⟨oR,kc,O3,aBk,gn,eQ,c6,ca⟩:=An h.rel.rel cw h.mp;rw[cS,h.map]at gn;cases gn;have dD:aH.heap[a7.b]? =some (.map es bX):=by rw[cS];exact h.map
 obtain⟨bV,ct,b4,dq,jK,Bg⟩:=asO (tH bP h.rel) hd ho h1 h2 gT ad cw dD eQ c6 ca jt;generalize jm b5 (ij.ah s.aM s.ay) bz=asP at*;have aG:a7.b<aH.heap.size:=h.rel.rel.blk l a7 cw
 have wx:∀b,b≠a7.b->({aH with heap:=aH.heap.setIfInBounds a7.b (.map bV bX)}:World).heap[b]? =aH.heap[b]? :=fun b bq=>by
  show(aH.heap.setIfInBounds a7.b _)[b]? =_;rw[Vk (lI bq)]
 have yf:({aH with heap:=aH.heap.setIfInBounds a7.b (.map bV bX)}:World).heap[a7.b]? =some (.map bV bX):=by
  show(aH.heap.setIfInBounds a7.b _)[a7.b]? =_;simp[aG]
 have dr:({aH with heap:=aH.heap.setIfInBounds a7.b (.map bV bX)}:World).heap.size=aH.heap.size:=by simp
 have dZ:Ext aB aH ⟨cE aB.β l a7,aB.I⟩ {aH with heap:=aH.heap.setIfInBounds a7.b (.map bV bX)} l s.H.length:=
  Ext.write h.rel.rel cw kc rfl (aN _) id rfl dr wx rfl rfl
 have nx:Ext aB aH ⟨cE aB.β l a7,aB.I⟩ {aH with heap:=aH.heap.setIfInBounds a7.b (.map bV bX)} 0 s.H.length:=dZ.le (cN _) (aN _)
 have Am:bV.toList.Sublist es.toList:=by
  rcases Bg with⟨rfl,-⟩|⟨j,rfl,-⟩
  ·exact Jb _
  ·rw[ahC];exact List.eraseIdx_sublist _ _
 refine⟨bV,⟨cE aB.β l a7,aB.I⟩,_,ct,Am,⟨⟨?_,fun t=> ?_,h.rel.size,?_⟩,⟨⟨?_,j3 _ _,fun x hx=> ?_⟩,h.b7.2⟩,?_,fun m hm=> ?_,h.marks.ext nx,?_,?_,?_,?_,?_,?_,?_⟩⟩
 ·exact bd.write h.rel.rel cw kc rfl kc (aN _) id rfl dr wx (.map asP) ⟨oR,kc,bV,bX,yf,b4.ext h.rel.rel dZ,dq.ext h.rel.rel dZ,jK⟩
 ·exact((h.rel.clear).env t).ext h.rel.rel nx
 ·show min s.low l<=(s.H.set l _).length
  rw[zu];exact c4 (j3 _ _) h.rel.low
 ·show st.H.length<=(s.H.set l _).length
  rw[zu];exact h.b7.1.len
 ·have aeZ:x<min st.low l:=hx
  show(s.H.set l _)[x]? =_;rw[jE (by omega)];exact h.b7.1.same x hx
 ·show li<(s.H.set l _).length
  rw[zu];exact h.len
 ·exact(h.ext m hm).trans (dZ.le (by omega) h.b7.1.len)
 ·exact⟨au,by show cE aB.β l a7 li=_;rw[dH (by omega)];exact bK,b3⟩
 ·exact⟨a7,dw _ _ _,cS⟩
 ·show(s.H.set l _)[li]? =_
  rw[jE (by omega)];exact h.gone
 ·show(s.H.set l _)[l]? =_
  rw[oA (h.rel.rel.lt cw)]
 ·rw[wx r (fun q=> ?_)]
  ·exact h.iter
  ·have:=h.rel.rel.inj _ _ _ _ bK cw (by rw[b3];exact q)
   omega
 ·rw[<-cS];exact yf
 ·intro p hp hb
  refine h.hand p ?_ hb;rcases Bg with⟨rfl,rfl⟩|⟨j,rfl,rfl⟩
  ·exact hp
  ·rw[ahC]at hp
   exact aeY hp
end
end Go.Abs
namespace Go.Abs
open Go
variable{C:Ctx}{fid:Nat->Nat}{w w':World}{G G':cg}{H H':Heap}
structure BM where
 b1:cF
 c:ai
 H5:List bU
 m:ai
 k:ai
 b5:Nat
structure ae0 (C:Ctx) (vars:List Nat) (N:Nat) (body:Code) (D:BM):Prop where
 ok:∃(vq:Code) (x id:Nat) (ops:Array Oper) (os:List Oper) (h9:Oper) (m k:Operand) (t eO nX u:TypeId),
  body=.seq vq (.cond (.tmp x) (.region id ops false) .skip)/\C.code vars N vq=some D.b1/\C.cl vars (.tmp x)=some D.c/\ops.toList=os++[h9]/\ee (C.oper vars N ops) os=some D.H5/\
  h9.op=.call {callee:=.builtin .delete,args:= #[m,k],argTypes:= #[t,u]}/\h9.dst=none/\h9.guard=none/\C.cl vars m=some D.m/\C.cl vars k=some D.k/\C.P.underlying t=some (.map eO nX)/\C.j7 eO=some D.b5
def fR.Eb (R:fR)(call:c5)(kv:V × V)(st:aw):Option aw:=
 match R.step call (.aF [.bool true,kv.1,kv.2]) {st with low:=st.H.length}with
 |some st1=>match R.more.ah st1.aM st1.ay with
  | .bool true=>
    if ep (bZ st1.ay R.it) (bZ st.ay R.it)=true then
     match c8 call R.t2 (({st1 with aM:=[]}:aw).put (some R.pair) (.aF [kv.1,kv.2])) []with
     |some (st2,_)=>some {st2 with aM:=[]}
     |none=>none
    else none
  | _=>none
 |none=>none
def SR (R:fR)(D:BM)(aa:Nat->Option cc)(l li:Nat)(bz:List (V × V))(kv:V × V)(s:aw)(Inv:List (V × V)->aw->Prop):Prop:=
 ∃s2 fy,R.Eb (b9 aa) kv s=some s2/\er aa D.b1 s2=some (.normal,fy)/\li<fy.low/\
  ((D.c.ah fy.aM fy.ay=.bool false/\Inv bz fy)\/
   (D.c.ah fy.aM fy.ay=.bool true/\∃kL wr b7,c8 (b9 aa) D.H5 {fy with aM:=[]} []=some (kL,wr)/\li<kL.low/\D.m.ah kL.aM kL.ay=.map l/\iJ D.b5 (D.k.ah kL.aM kL.ay) bz=some b7/\
     Inv (jm D.b5 (D.k.ah kL.aM kL.ay) bz) {kL with aM:=[],H:=kL.H.set l (.map (jm D.b5 (D.k.ah kL.aM kL.ay) bz)),low:=min kL.low l}))
theorem asQ{α β:Type}{l:List α}{m:List β}{p:α × β}(h:p∈l.zip m):∃i:Nat,l[i]? =some p.1/\m[i]? =some p.2:=by
 obtain⟨i,hi⟩:=py.1 h;refine⟨i,?_⟩;rw[Ch]at hi;exact hi
theorem asR{α β:Type}{l:List α}{m:List β}{i:Nat}{a:α}{b:β}(h1:l[i]? =some a)(h2:m[i]? =some b):(a,b)∈l.zip m:=
 eZ (Ch.2 ⟨h1,h2⟩:(l.zip m)[i]? =some (a,b))
theorem asS{es:Array MapEntry}(hn:(es.toList.map (·.born)).Nodup){i j:Nat}{a b:MapEntry}(h1:es.toList[i]? =some a)(h2:es.toList[j]? =some b)(h:a.born=b.born):i=j:=by
 obtain⟨hi,q1⟩:=eY.1 h1;obtain⟨hj,q2⟩:=eY.1 h2;have hp:=Vl.1 hn;rcases Nat.lt_trichotomy i j with q|q|q
 ·exact absurd (show(es.toList.map (·.born))[i]'(by simpa using hi)=(es.toList.map (·.born))[j]'(by simpa using hj) by rw[Jf,Jf,q1,q2,h]) (hp i j (by simpa using hi) (by simpa using hj) q)
 ·exact q
 ·exact absurd (show(es.toList.map (·.born))[j]'(by simpa using hj)=(es.toList.map (·.born))[i]'(by simpa using hi) by rw[Jf,Jf,q1,q2,h]) (hp j i (by simpa using hj) (by simpa using hi) q)
theorem asT{es:Array MapEntry}{seen:Array Nat}{e:MapEntry}(he:e∈(leftOf es seen).toList):(leftOf es (seen.push e.born)).size<(leftOf es seen).size:=by
 have he':e∈es.toList/\seen.contains e.born=false:=by
  unfold leftOf at he;simpa using he
 unfold leftOf;have key:∀p:MapEntry->Bool,(es.filter p).size=(es.toList.filter p).length:=fun p=>by rw[<-gY,Array.toList_filter]
 rw[key,key];refine filter_lt _ _ (fun x hx=> ?_) e ?_ ?_ _ he'.1
 ·simp only[Array.contains_push,oB,Ny]at hx⊢
  simp at hx⊢;exact hx.1
 ·rw[he'.2];rfl
 ·simp
theorem asU{es bV:Array MapEntry}{seen:Array Nat}(h:bV.toList.Sublist es.toList):(leftOf bV seen).size<=(leftOf es seen).size:=by
 unfold leftOf;have key:∀(es:Array MapEntry) (p:MapEntry->Bool),(es.filter p).size=(es.toList.filter p).length:=fun es p=>by rw[<-gY,Array.toList_filter]
 rw[key,key];exact(h.filter _).length_le
theorem asV{es:Array MapEntry}{seen:Array Nat}(h:(leftOf es seen).size=0):∀e∈es.toList,e.born∈seen:=by
 intro e he;have h0:leftOf es seen= #[]:=ahD h;unfold leftOf at h0;rw[ahF]at h0;have h1:=h0 e (by simpa using he);simp only[oB,NJ]at h1;rw[ahI]at h1;exact h1
section
variable{vars:List Nat}{N n:Nat}{aa:Nat->Option cc}
theorem ae1{c:cF}{st:aw}{r:X × aw}(h:er aa c st=some r):∃n,Abs.exec (b9 aa) n c st=some r:=by
 obtain⟨n,hn⟩:=gL.1 h;exact⟨n,tp (EL n) (aN _) c st r hn⟩
theorem asW (cW:C.P.follows .mixedOrders=true)(bP:fl C fid)(bm:hD C fid (b9 aa)){k0 i1 i2:Nat}{hX on kg:Oper}{kZ k1 kh:Array Oper}{oY oZ:List Oper}
  {mt it aE more pair out eS:Nat} {tm sM sN:TypeId} {body:Code} {R:fR} {D:BM}
  (h0:kZ[k0]? =some hX) (wH:C.cl vars (.tmp mt)=some R.src) (tK:hX.op=.range tm (.tmp mt)) (wI:hX.dst=some it) (wJ:hX.guard=none) (hit:it<N) (wK:C.P.underlying tm=some (.map sM sN))
  (h1:k1.toList=on::oY) (rB:on.op=.next (.tmp it) false) (hnd:on.dst=some aE) (tL:on.guard=none) (oS:aE<N)
  (h2:kh.toList=kg::oZ) (tM:kg.op=.entry (.tmp it)) (wL:kg.dst=some pair) (wM:kg.guard=none) (wN:pair<N)
  (rC:vars.contains it=true) (tN:R.aE=(aE,vars.contains aE)) (wO:R.pair=(pair,vars.contains pair))
  (rq:ee (C.oper vars N k1) oY=some R.t1) (pK:ee (C.oper vars N kh) oZ=some R.t2) (rD:C.cl vars (.tmp more)=some R.more) (yq:ae0 C vars N body D) (FL:R.it=it)
  {st:aw} {l:Nat} {bz:List (V × V)} (sO:R.src.ah st.aM st.ay=.map l) (o0:st.H[l]? =some (.map bz)) (Inv:List V->List (V × V)->aw->Prop) (Out:List (V × V)->aw->Prop)
  (wP:Inv [] bz (iP it st)) (tO:∀d es s,Inv d es s->bZ s.ay it=.ptr st.H.length 0)
  (qP:∀d es s,Inv d es s->∀kv∈es,SR R D aa l st.H.length es kv s (fun bV ar=>Inv (d++[kv.1]) bV ar))
  (iO:∀d es s,Inv d es s->(∀kv∈es,kv.1∈d)->∃ar,R.fin (b9 aa) s=some ar/\st.H.length<ar.low/\Out es ar)
  {a:Act} {ro:Option Nat} {base:Nat} {Q PV:Exit->Act->World->Prop} (U:dN C fid vars N G st a w) (e9:wD G st.ro ro) (e7:lu C G w base a.defers) (hb:base<=w.heap.size)
  (dO:∀es ar G' bn w',Out es ar->gN st {ar with low:=min st.low l}->Fin C fid vars N base st G w {ar with low:=min st.low l} G' bn w'->Q .normal bn w'):
  wpOpIn (eV ro) 0 C.P kZ PV k0 (fun bn w'=>(Code.block out (.loop (.seq (.region i1 k1 false) (.seq (.cond (.tmp more) .skip (.exit out)) (.block eS (.seq (.region i2 kh false) body)))))).wpIn (eV ro) 0 C.P Q bn w') a w:=by
 obtain⟨vq,lL,ae2,MD,ae3,h9,cL,JL,aBl,aBm,aBn,aBo,rfl,oQ,RD,SS,asX,ae4,asY,asZ,as0,jN,as1,as2⟩:=yq.ok;have l8:=tH bP U (.tmp mt) R.src wH;rw[sO]at l8;obtain⟨fx,wQ,PW,PX⟩:=l8.mapInv;obtain⟨-,-,es,bX,fc,eQ,c6,ca⟩:=An U.rel wQ o0;have kf:l<st.H.length:=U.rel.lt wQ
 have Fi:(execOp a.eval hX).run C.P w=.ok (.value (.pointer (some ⟨w.heap.size,0,none⟩))) (w.alloc (.mapIter (some fx.b) bX #[] bX)):=by
  unfold execOp;rw[tK];have e:a.eval (.tmp mt)=.map (some fx.b):=PX;simp only[e,Sem.run_bind,run_range_map w tm sM sN fx.b es bX wK fc,Result.andThen_ok,Sem.run_pure]
 have PZ:=U.rel.push .gone (.mapIter (some fx.b) bX #[] bX) 0 0 ⟨rfl,rfl⟩;have sL:∀m k,k<=st.H.length->Ext G w ⟨cE G.β st.H.length ⟨w.heap.size,0,0,false⟩,G.I⟩ (w.alloc (.mapIter (some fx.b) bX #[] bX)) m k:=fun m k hk=>(Ext.push U.rel (.mapIter (some fx.b) bX #[] bX) 0 0 m).le (aN _) hk
 have P0:dN C fid vars N ⟨cE G.β st.H.length ⟨w.heap.size,0,0,false⟩,G.I⟩ {st with H:=st.H++[.gone]} a (w.alloc (.mapIter (some fx.b) bX #[] bX)):=
  ⟨PZ,fun t=>(U.env t).ext U.rel (sL 0 0 (cN _)),U.size,by have:=U.low;simp only[hO,iI,oD];omega⟩
 have lN:dN C fid vars N ⟨cE G.β st.H.length ⟨w.heap.size,0,0,false⟩,G.I⟩ (iP it st) (a.put (some it) (.pointer (some ⟨w.heap.size,0,none⟩))) (w.alloc (.mapIter (some fx.b) bX #[] bX)):=by
  have:=P0.put hit (v:=.ptr st.H.length 0) (x:=.pointer (some ⟨w.heap.size,0,none⟩)) (.ptr st.H.length 0 ⟨w.heap.size,0,0,false⟩ (dw _ _ _) rfl);rw[rC]at this;exact this.clear
 suffices P1:∀G' bn w',dN C fid vars N G' (iP it st) bn w'->(∀m,m<=(iP it st).H.length->Ext ⟨cE G.β st.H.length ⟨w.heap.size,0,0,false⟩,G.I⟩ (w.alloc (.mapIter (some fx.b) bX #[] bX)) G' w' m (iP it st).H.length)->
   bn.defers=a.defers->(Code.block out (.loop (.seq (.region i1 k1 false) (.seq (.cond (.tmp more) .skip (.exit out)) (.block eS (.seq (.region i2 kh false) (.seq vq (.cond (.tmp lL) (.region ae2 MD false) .skip)))))))).wpIn (eV ro) 0 C.P Q bn w' by
  refine Ke h0 wJ (by rw[tK];simp) Fi ?_;rw[wI];exact P1 _ _ _ lN (fun m _=>.refl _ _ _ _) (by rw[put_defers])
 intro G' bn w' bI cq e6
 refine wpIn_block (J4 (fun k ak aH=>∃d seen es bz s aB,Inv d bz s/\(leftOf es seen).size<k/\r3 C fid vars N base st.H.length l w.heap.size fx.b bX st G w seen es d bz s aB ak aH) ?_
  (j:=(leftOf es #[]).size+1) ?_)
 ·rintro k ak aH ⟨d,seen,es,bz,s,aB,bp,hk,bT⟩
  obtain⟨bJ,rfl⟩:∃bJ,k=bJ+1:=⟨k-1,by omega⟩;refine⟨bJ,rfl,?_⟩;obtain⟨au,bK,b3⟩:=bT.hi;obtain⟨a7,cw,cS⟩:=bT.hm
  have FM:ak.eval (.tmp it)=.pointer (some ⟨w.heap.size,0,none⟩):=by
   have:=bT.rel.env it;rw[show dT vars s it=bZ s.ay it by unfold dT;rw[if_pos rC],tO d bz s bp]at this;obtain⟨h5,dC,-,ek⟩:=this.nS;rw[bK]at dC;cases dC;rw[b3]at ek;exact ek
  have sP:∀c,on.op≠ .defer c:=by rw[rB];simp
  have yh:∀c,kg.op≠ .defer c:=by rw[tM];simp
  obtain⟨alq,alr,bV,tz,FN,ye,zW,zX⟩:=An bT.rel.rel cw bT.mp;rw[cS,bT.map]at FN;cases FN
  have PY:bz.length=es.size:=by
   have:=ye.length;simpa using this.symm
  rcases Ye (P:=C.P) on.type bT.iter bT.map zX.1 (aN _)with⟨dr,ct⟩|⟨e,he,bQ,wR,P2,P3,ct⟩
  ·
   have eC:∀kv∈bz,kv.1∈d:=fun kv mc=>by
    obtain⟨i,hi⟩:=py.1 mc
    have n3:i<es.toList.length:=by
     have:=(eY.1 hi).1;simp;omega
    have as3:es.toList[i]? =some es.toList[i]:=jD n3;exact bT.hand _ (asR as3 hi) (asV dr _ (Jg n3))
   obtain⟨ar,ag,jL,P4⟩:=iO d bz s bp eC;unfold fR.fin fR.step at ag;split at ag
   ·rename_i s1 gM
    split at gM
    ·rename_i ki wr hex
     cases gM;split at ag
     ·rename_i tP
      cases ag
      have Ao:(execOp ak.eval on).run C.P aH=.ok (.value (.tuple #[.bool false])) aH:=by
       unfold execOp;rw[rB];simp only[FM,Sem.run_bind,ct,Result.andThen_ok,Sem.run_pure]
      have wE:dN C fid vars N aB (({s with aM:=[],low:=s.H.length}:aw).put (some R.aE) (.aF [.bool false])) (ak.put (some aE) (.tuple #[.bool false])) aH:=by
       rw[tN];exact bT.rel.reset.put oS (.aF _ _ (.cons _ _ _ _ (.p _ _ (.bool false)) .nil))
      refine wpIn_seq (Db bP bm h1 hnd tL sP rq Ao wE hex fun bC a2 gh gU ju tJ=> ?_);have gz:=kX ({s with aM:=[],low:=s.H.length}:aw) (some R.aE) (.aF [.bool false]);have c1:=pU bm.b7 _ _ _ _ _ (by rw[gz.1,gz.2.1];exact aN _) hex
      have eJ:r3 C fid vars N base st.H.length l w.heap.size fx.b bX st G w seen es d bz {ki with aM:=[]} bC a2 gh:=by
       refine bT.on kf gU.clear (fun m hm=> ?_) jL ?_ ?_ ?_
       ·have:=ju m hm
        rw[gz.1]at this;exact this
       ·have:=c1.1
        rw[gz.1,gz.2.1]at this;exact this
       ·exact c1.2.trans gz.2.2
       ·have:=bT.marks.ext (ju 0 (cN _))
        rw[tJ];exact this
      have af:=tH bP eJ.rel (.tmp more) R.more rD;rw[tP]at af;refine wpIn_seq (wpIn_cond_false af.ln (wpIn_exit ?_));show(if out=out then Q .normal a2 gh else _);rw[if_pos rfl];have:=eJ.len;exact dO _ _ bC a2 gh P4 eJ.b7 ⟨⟨eJ.rel.rel,eJ.rel.env,eJ.rel.size,c4 (oC _ _) (c4 (pB kf) (pB eJ.len))⟩,eJ.ext,eJ.marks⟩
     ·cases ag
    ·cases gM
   ·cases ag
  ·
   have ae5:e∈es.toList/\seen.contains e.born=false:=by
    unfold leftOf at he;simpa using he
   obtain⟨i,hi⟩:=py.1 ae5.1;have lQ:=asT he;have n3:i<es.toList.length:=(eY.1 hi).1;obtain⟨P5,yn⟩:=Kf bT.rel.rel bK bT.gone;obtain⟨kv,mc⟩:∃kv,bz[i]? =some kv:=⟨bz[i]'(by simp at n3;omega),by simp⟩
   have rE:bw fid aB aH kv.1 e.key:=by
    obtain⟨x,hx,hr⟩:=ye.get (i:=i) (v:=kv.1) (by rw[iH,mc];rfl);rw[iH,hi]at hx;cases hx;exact hr
   have mW:bw fid aB aH kv.2 e.val:=by
    obtain⟨x,hx,hr⟩:=zW.get (i:=i) (v:=kv.2) (by rw[iH,mc];rfl);rw[iH,hi]at hx;cases hx;exact hr
   obtain⟨aBp,fy,vr,Kh,XZ,Ae⟩:=qP d bz s bp kv (eZ mc);have hT:=turn bT.rel.rel bK yn (.mapIter (some fx.b) bX (seen.push e.born) bX) .gone fun _ _ _=>⟨P5,yn⟩;rw[Kg bT.gone]at hT;have wS:bQ.heap=(aH.putObj au.b (.mapIter (some fx.b) bX (seen.push e.born) bX)).heap:=by rw[wR,b3];rfl
   have Aq:bd C fid aB s.H bQ:=hT.1.jo wS;have Ar:∀m,m<=st.H.length->Ext aB aH aB bQ m s.H.length:=fun m hm=>(hT.2.le hm (aN _)).trans (.jo wS P2 P3 _ _)
   have o1:bQ.heap[w.heap.size]? =some (.mapIter (some fx.b) bX (seen.push e.born) bX):=by
    rw[wS,<-b3];exact World.putObj_heap_same (bT.rel.rel.blk _ _ bK)
   have nW:bQ.heap[fx.b]? =some (.map es bX):=by
    rw[wS,World.putObj_heap_other (fun q=> ?_)]
    ·exact bT.map
    ·have:=bT.rel.rel.inj _ _ _ _ bK cw (by rw[cS,<-q]);omega
   have FO:dN C fid vars N aB s ak bQ:=⟨Aq,fun t=>(bT.rel.env t).ext bT.rel.rel (Ar 0 (cN _)),bT.rel.size,bT.rel.low⟩;have As:=Ar 0 (cN _)
   have FP:r3 C fid vars N base st.H.length l w.heap.size fx.b bX st G w (seen.push e.born) es (d++[kv.1]) bz s aB ak bQ:=
    ⟨FO,bT.b7,bT.len,fun m hm=>(bT.ext m hm).trans ((Ar m (by omega)).le (aN _) bT.b7.1.len),bT.marks.ext As,bT.hi,bT.hm,bT.gone,bT.mp,o1,nW,fun p hp Ec=>by
     obtain⟨j,as4,ae6⟩:=asQ hp;rw[Array.mem_push]at Ec;rcases Ec with Ec|Ec
     ·exact xM _ (bT.hand p hp Ec)
     ·have:=asS zX.2 as4 hi Ec
      subst this;rw[mc]at ae6;cases ae6;simp⟩
   have FQ:=rE.ext bT.rel.rel As;have FR:=mW.ext bT.rel.rel As;unfold fR.Eb fR.step at vr;split at vr
   case h_2=>cases vr
   rename_i s1 gM;split at gM
   case h_2=>cases gM
   rename_i ki wr hex;cases gM;split at vr
   case h_2=>cases vr
   rename_i tP;split at vr
   case isFalse=>cases vr
   rename_i P6
   have P7:bZ ki.ay it=.ptr st.H.length 0:=by
    have:=wy _ _ P6;rw[FL]at this;exact this.trans (tO d bz s bp)
   split at vr
   case h_2=>cases vr
   rename_i s2 P8 FT;cases vr
   have Ao:(execOp ak.eval on).run C.P aH=.ok (.value (.tuple #[.bool true,e.key,e.val])) bQ:=by
    unfold execOp;rw[rB];simp only[FM,Sem.run_bind,ct,Result.andThen_ok,Sem.run_pure]
   have wE:dN C fid vars N aB (({s with aM:=[],low:=s.H.length}:aw).put (some R.aE) (.aF [.bool true,kv.1,kv.2])) (ak.put (some aE) (.tuple #[.bool true,e.key,e.val])) bQ:=by
    rw[tN];exact FO.reset.put oS (.aF _ _ (.cons _ _ _ _ (.p _ _ (.bool true)) (.cons _ _ _ _ FQ (.cons _ _ _ _ FR .nil))))
   have gz:=kX ({s with aM:=[],low:=s.H.length}:aw) (some R.aE) (.aF [.bool true,kv.1,kv.2]);have c1:=pU bm.b7 _ _ _ _ _ (by rw[gz.1,gz.2.1];exact aN _) hex;have mX:=kX ({ki with aM:=[]}:aw) (some R.pair) (.aF [kv.1,kv.2]);have sJ:ki.low<=ki.H.length:=c1.bound (by rw[gz.1,gz.2.1];exact aN _);have wT:=pU bm.b7 _ _ _ _ _ (by rw[mX.1,mX.2.1];exact sJ) FT;have z8:s2.low<=s2.H.length:=wT.bound (by rw[mX.1,mX.2.1];exact sJ);obtain⟨JP,ae7⟩:=ae1 Kh;have tQ:=mO bm.b7 JP _ _ _ _ (show({s2 with aM:=[]}:aw).low<=({s2 with aM:=[]}:aw).H.length from z8) ae7;have alw:fy.low<=s2.low:=tQ.1.low;have alx:s2.low<=ki.low:=by have:=wT.1.low;rw[mX.2.1]at this;exact this
   refine wpIn_seq (Db bP bm h1 hnd tL sP rq Ao wE hex fun bC a2 gh gU ju tJ=> ?_)
   have eJ:r3 C fid vars N base st.H.length l w.heap.size fx.b bX st G w (seen.push e.born) es (d++[kv.1]) bz {ki with aM:=[]} bC a2 gh:=by
    refine FP.on kf gU.clear (fun m hm=> ?_) (by show st.H.length<ki.low;omega) ?_ ?_ ?_
    ·have:=ju m hm
     rw[gz.1]at this;exact this
    ·have:=c1.1
     rw[gz.1,gz.2.1]at this;exact this
    ·exact c1.2.trans gz.2.2
    ·have:=FP.marks.ext (ju 0 (cN _))
     rw[tJ];exact this
   have af:=tH bP eJ.rel (.tmp more) R.more rD;rw[tP]at af;refine wpIn_seq (wpIn_cond_true af.ln (wpIn_skip ?_));show(Code.block eS (.seq (.region i2 kh false) (.seq vq (.cond (.tmp lL) (.region ae2 MD false) .skip)))).wpIn (eV ro) 0 C.P _ a2 gh;refine wpIn_block (wpIn_seq ?_)
   have P9:a2.eval (.tmp it)=.pointer (some ⟨w.heap.size,0,none⟩):=by
    have:=eJ.rel.env it;rw[show dT vars {ki with aM:=[]} it=bZ ki.ay it by unfold dT;rw[if_pos rC],P7]at this;obtain⟨h5,dC,-,ek⟩:=this.nS;obtain⟨fL,gp,gV⟩:=eJ.hi;rw[gp]at dC;cases dC;rw[gV]at ek;exact ek
   have Qa:(execOp a2.eval kg).run C.P gh=.ok (.value (.tuple #[e.key,e.val])) gh:=by
    have tI:=Yf (P:=C.P) eJ.iter eJ.map ae5.1 zX.2;unfold execOp;rw[tM];simp only[P9,Sem.run_bind,tI,Result.andThen_ok,Sem.run_pure]
   have FU:=ju 0 (cN _)
   have Qb:dN C fid vars N bC (({ki with aM:=[]}:aw).put (some R.pair) (.aF [kv.1,kv.2])) (a2.put (some pair) (.tuple #[e.key,e.val])) gh:=by
    rw[wO];exact eJ.rel.put wN (.aF _ _ (.cons _ _ _ _ (FQ.ext Aq FU) (.cons _ _ _ _ (FR.ext Aq FU) .nil)))
   refine Db bP bm h2 wL wM yh pK Qa Qb FT fun kd a3 Dc Ai wG FG=> ?_
   have n4:r3 C fid vars N base st.H.length l w.heap.size fx.b bX st G w (seen.push e.born) es (d++[kv.1]) bz {s2 with aM:=[]} kd a3 Dc:=by
    refine eJ.on kf Ai.clear (fun m hm=> ?_) (by show st.H.length<s2.low;omega) ?_ ?_ ?_
    ·have:=wG m hm
     rw[mX.1]at this;exact this
    ·have:=wT.1
     rw[mX.1,mX.2.1]at this;exact⟨this.len,c4 this.low sJ,this.same⟩
    ·exact wT.2.trans mX.2.2
    ·have:=eJ.marks.ext (wG 0 (cN _))
     rw[FG];exact this
   refine wpIn_seq (sK (n:=JP) cW bP bm vq _ _ _ oQ _ _ _ ae7 kd a3 Dc ro base _ n4.rel ?_ n4.marks (c4 hb (n4.ext 0 (cN _)).size) fun FV a4 Ki F=> ?_)
   ·have mS:({s2 with aM:=[]}:aw).ro=st.ro:=n4.b7.2
    rw[mS];exact e9.ext (n4.ext 0 (cN _))
   have yr:r3 C fid vars N base st.H.length l w.heap.size fx.b bX st G w (seen.push e.born) es (d++[kv.1]) bz fy FV a4 Ki:=
    n4.on kf F.rel F.ext XZ ⟨tQ.1.len,c4 tQ.1.low z8,tQ.1.same⟩ tQ.2 F.marks
   have xm:=tH bP yr.rel (.tmp lL) D.c RD;rcases Ae with⟨hc,Ap⟩|⟨hc,kL,Bf,aBq,ae8,as5,as6,as7,Ap⟩
   ·rw[hc]at xm
    refine wpIn_cond_false xm.ln (wpIn_skip ?_);exact⟨d++[kv.1],seen.push e.born,es,bz,fy,FV,Ap,by omega,yr⟩
   ·rw[hc]at xm
    refine wpIn_cond_true xm.ln (wpIn_region ?_);have as8:MD.size=ae3.length+1:=by rw[<-gY,SS];simp
    rw[as8,I5];have ae9:fy.low<=fy.H.length:=yr.rel.low;have ME:=pU bm.b7 _ _ _ _ _ (show({fy with aM:=[]}:aw).low<=({fy with aM:=[]}:aw).H.length from ae9) ae8;refine PS bP bm (k0:=0) (fun j hj=>by rw[eo,<-iG,SS,fY hj]) asX yr.rel.clear ae8 fun as9 a5 ata atb afa atc=> ?_;have hk:MD[0+ae3.length]? =some h9:=by rw[eo,<-iG,SS];simp
    have SI:r3 C fid vars N base st.H.length l w.heap.size fx.b bX st G w (seen.push e.born) es (d++[kv.1]) bz kL as9 a5 ata:=by
     refine yr.on kf atb afa as5 ⟨ME.1.len,c4 ME.1.low ae9,ME.1.same⟩ ME.2 ?_;rw[atc];exact yr.marks.ext (afa 0 (cN _))
    obtain⟨atd,ate,aBr,atf,Am,atg⟩:=SI.del kf (vars':=vars) bP as1 ae4 as0 jN as2 as6 as7;rw[uM,wpOpsIn_cons];refine Ke hk asZ (by rw[ae4];simp) atf ?_;rw[asY];refine⟨d++[kv.1],seen.push e.born,atd,_,_,ate,Ap,?_,atg⟩;have:=asU (seen:=seen.push e.born) Am;omega
 ·have ew:(iP it st).H.length=st.H.length+1:=by unfold iP;simp
  have ad:=cq (st.H.length+1) (by show st.H.length+1<=(iP it st).H.length;rw[ew];exact aN _);have eP:=sL 0 st.H.length (aN _)
  have qG:(⟨cE G.β st.H.length ⟨w.heap.size,0,0,false⟩,G.I⟩:cg).β l=some fx:=by
   show cE G.β st.H.length ⟨w.heap.size,0,0,false⟩ l=some fx;rw[dH (by omega)];exact wQ
  have wj:(⟨cE G.β st.H.length ⟨w.heap.size,0,0,false⟩,G.I⟩:cg).β st.H.length=some ⟨w.heap.size,0,0,false⟩:=dw _ _ _;refine⟨[],#[],es,bz,iP it st,G',wP,zt _,⟨⟨bI.rel,bI.env,bI.size,?_⟩,⟨⟨?_,j3 _ _,fun x hx=> ?_⟩,rfl⟩,?_,fun m hm=> ?_,?_,?_,?_,?_,?_,?_,?_,fun p _ hp=>by simp at hp⟩⟩
  ·exact lN.low
  ·show st.H.length<=(iP it st).H.length
   omega
  ·have dZ:x<min st.low l:=hx
   show(st.H++[cf.gone])[x]? =_;rw[fY (by omega)]
  ·omega
  ·exact(sL m st.H.length (aN _)).trans ((cq m (by show m<=(iP it st).H.length;omega)).le (aN _) (by show st.H.length<=(iP it st).H.length;omega))
  ·rw[e6]
   exact(e7.ext eP).ext ad
  ·exact yp ad wj rfl
  ·exact yp ad qG PW
  ·show(st.H++[cf.gone])[st.H.length]? =_
   simp
  ·show(st.H++[cf.gone])[l]? =_
   rw[fY kf];exact o0
  ·have:=yo ad lN.rel wj (zt _)
   rw[this];exact mE _ _
  ·have:=yo ad lN.rel qG (by omega)
   rw[this,alloc_old (U.rel.blk _ _ wQ)];exact fc
end
end Go.Abs
namespace Go.Abs
open Go
variable{C:Ctx}{fid:Nat->Nat}{w w':World}{G G':cg}{H H':Heap}
variable{vars:List Nat}{N:Nat}{aa:Nat->Option cc}
theorem dj.er (cW:C.P.follows .mixedOrders=true)(bP:fl C fid)(bm:hD C fid (b9 aa)){c:Code}{ac:cF}(hc:C.code vars N c=some ac){st bf:aw}{x:X}(he:Abs.er aa ac st=some (x,bf)):
  dj C fid vars N c st (fun y s=>y=x/\s=bf):=by
 obtain⟨n,hn⟩:=ae1 he;exact dj.exec (n:=n) cW bP bm hc hn
theorem dj.block{id:Nat}{c:Code}{st:aw}{Out:X->aw->Prop}(h:dj C fid vars N c st (fun x s=>Out (Di id x) s)):dj C fid vars N (.block id c) st Out:=fun G a w ro base Q U e9 e7 hb dO=>by
 refine wpIn_block (h G a w ro base _ U e9 e7 hb fun x s aB ak aH ho ag F=> ?_);have:=dO _ _ aB ak aH ho ag F;cases x with
 |normal=>exact this
 |ret=>exact this
 |exit j=>
  simp only[Di]at this;cases hb:Nat.beq j id with
  |true=>
   rw[hb]at this;have e:=eU hb;subst e;simp only[C0,Exit.inBlock,if_true];exact this
  |false=>
   rw[hb]at this;have e:¬j=id:=fun e=>by rw[e,Cl]at hb;cases hb
   simp only[C0,Exit.inBlock,e,if_false];exact this
theorem dj.loop{c:Code}{st:aw}{Out:X->aw->Prop}(I:Nat->aw->Prop)(k:Nat)(h0:I k st)(h:∀k s,I k s->dj C fid vars N c s (fun x ar=>(x=.normal/\∃j,k=j+1/\I j ar)\/(x≠ .normal/\Out x ar))):dj C fid vars N (.loop c) st Out:=fun G a w ro base Q U e9 e7 hb dO=>by
 refine J4 (fun k ak aH=>∃j s aB,k=j+1/\I j s/\gN st s/\Fin C fid vars N base st G w s aB ak aH) ?_ (j:=k+1) ⟨k,st,G,rfl,h0,.refl _,.refl U e7⟩;rintro _ ak aH ⟨k,s,aB,rfl,bp,ag,F⟩;refine⟨k,rfl,?_⟩;refine h k s bp aB ak aH ro base _ F.rel (by rw[ag.2];exact e9.ext (F.ext 0 (cN _))) F.marks (c4 hb (F.ext 0 (cN _)).size) fun x s2 bC a2 bQ ho Av u3=> ?_;rcases ho with⟨rfl,j,hj,ath⟩|⟨hx,ho⟩
 ·exact⟨j,s2,bC,hj,ath,ag.trans Av,F.trans u3 ag Av⟩
 ·have:=dO x s2 bC a2 bQ ho (ag.trans Av) (F.trans u3 ag Av)
  cases x with
  |normal=>exact absurd rfl hx
  |exit id=>exact this
  |ret=>exact this
def SU:Go.Op->Option (Operand × Operand × TypeId × TypeId)
 | .call ⟨.builtin .delete,⟨[m,k]⟩,⟨[t,u]⟩⟩=>some (m,k,t,u)
 | _=>none
theorem ati{o:Go.Op}{m k:Operand}{t u:TypeId}(h:SU o=some (m,k,t,u)):o=.call {callee:=.builtin .delete,args:= #[m,k],argTypes:= #[t,u]}:=by
 unfold SU at h;split at h
 ·cases h;rfl
 ·cases h
def Ed (C:Ctx)(vars:List Nat)(N:Nat):Code->Option BM
 | .seq vq (.cond (.tmp x) (.region _ ops false) .skip)=>match Aw ops.toList with
   |some (os,⟨none,h9,_,_,_,none⟩)=>match SU h9 with
    |some (m,k,t,_)=>match C.code vars N vq,C.cl vars (.tmp x),ee (C.oper vars N ops) os,C.cl vars m,C.cl vars k,C.P.underlying t with
     |some b1,some c,some H5,some am,some ij,some (.map eO _)=>(C.j7 eO).map fun b5=>⟨b1,c,H5,am,ij,b5⟩
     | _,_,_,_,_,_=>none
    | _=>none
   | _=>none
 | _=>none
theorem atj{body:Code}{D:BM}(h:Ed C vars N body=some D):ae0 C vars N body D:=by
 unfold Ed at h;split at h
 ·rename_i vq x id ops
  split at h
  ·rename_i os h9 ty ps mC eP
   split at h
   ·rename_i m k t u hd
    split at h
    ·rename_i b1 c H5 am ij eO nX ad e2 bK cw dC gp
     obtain⟨b5,gT,rfl⟩:=cD.1 h;exact⟨vq,x,id,ops,os,_,m,k,t,eO,nX,u,rfl,ad,e2,Qd eP,bK,ati hd,rfl,rfl,cw,dC,gp,gT⟩
    ·cases h
   ·cases h
  ·cases h
 ·cases h
def MF:Code->Code
 | .seq (.region _ _ false) (.block _ (.loop (.seq (.region _ _ false) (.seq (.cond (.tmp _) .skip (.exit _)) (.block _ (.seq (.region _ _ false) body))))))=>body
 | _=>.skip
theorem dj.atk (cW:C.P.follows .mixedOrders=true)(bP:fl C fid)(bm:hD C fid (b9 aa)){c:Code}{R:fR}{D:BM}(hr:Ax C vars N c=some R)(hd:Ed C vars N (MF c)=some D){jR st:aw}{wr:List Bool}(he:c8 (b9 aa) R.t0 {jR with aM:=[]} []=some (st,wr))
  {l:Nat} {bz:List (V × V)} (sO:R.src.ah st.aM st.ay=.map l) (o0:st.H[l]? =some (.map bz)) (Inv:List V->List (V × V)->aw->Prop) (Out:List (V × V)->aw->Prop)
  (wP:Inv [] bz (iP R.it st)) (tO:∀d es s,Inv d es s->bZ s.ay R.it=.ptr st.H.length 0)
  (qP:∀d es s,Inv d es s->∀kv∈es,SR R D aa l st.H.length es kv s (fun bV ar=>Inv (d++[kv.1]) bV ar))
  (iO:∀d es s,Inv d es s->(∀kv∈es,kv.1∈d)->∃ar,R.fin (b9 aa) s=some ar/\st.H.length<ar.low/\Out es ar):
  dj C fid vars N c jR (fun x s=>x=.normal/\∃es ar,Out es ar/\s={ar with low:=min st.low l}):=fun G a w ro base Q U e9 e7 hb dO=>by
 obtain⟨i0,i1,i2,hX,on,kg,kZ,k1,kh,qQ,oY,oZ,mt,aE,more,pair,out,tm,sM,sN,body,rfl,h0,oR,wH,tK,wI,wJ,hit,wK,h1,rB,hnd,tL,oS,h2,tM,wL,wM,wN,rC,tN,wO,rq,pK,rD,yq⟩:=(Yo hr).ok;have c1:=pU bm.b7 _ _ _ _ _ (show({jR with aM:=[]}:aw).low<=({jR with aM:=[]}:aw).H.length from U.low) he;have Au:gN jR st:=c1;have dr:kZ.size=qQ.length+1:=by rw[<-gY,h0];simp
 refine wpIn_seq (wpIn_region ?_);rw[dr,I5];refine PS bP bm (k0:=0) (fun j hj=>by rw[eo,<-iG,h0,fY hj]) oR U.clear he fun aB ak aH bI cq e6=> ?_;have eP:=cq 0 (cN _);have hk:kZ[0+qQ.length]? =some hX:=by rw[eo,<-iG,h0];simp
 have FW:lu C aB aH base ak.defers:=by rw[e6];exact e7.ext eP
 rw[uM,wpOpsIn_cons]
 exact asW (aa:=aa) cW bP bm hk wH tK wI wJ hit wK h1 rB hnd tL oS h2 tM wL wM wN rC tN wO rq pK rD (atj hd) rfl sO o0 Inv Out wP tO qP iO bI (by rw[Au.2];exact e9.ext eP) FW (c4 hb eP.size)
  fun es ar G' bn w' ho ag F=>dO .normal _ G' bn w' ⟨rfl,es,ar,ho,rfl⟩ (Au.trans ag) (Fin.trans (st:=jR) (st1:=st) ⟨bI,cq,FW⟩ F Au ag)
end Go.Abs
namespace Go.Abs
open Go
section
variable{aa:Nat->Option cc}{b:Nat}{σ:bY}{H:Heap}{ay:Env}{R:fR}
theorem afb{e:V}{Q:bY->Heap->Prop}(h:Op aa b R.t1 (fN oc (some R.aE) e) (fO σ (some R.aE) e) H [] (fun aT H' _=>Q aT H'))(hs:Fits ay σ)(hb:b<=H.length):
  ∃dm H' low' aT,R.step (b9 aa) e ⟨[],ay,H,H.length,none⟩=some ⟨[],dm,H',low',none⟩/\Fits dm aT/\b<=low'/\b<=H'.length/\Q aT H':=by
 obtain⟨nC,lx,ad,e2,bK⟩:=wY tV hs H H.length (some R.aE) e;obtain⟨iY,dm,H',low',fD,aT,q1,q2,b3,cS,fw⟩:=h nC lx H.length e2 bK hb hb;refine⟨dm,H',low',aT,?_,q2,b3,cS,fw⟩;unfold fR.step;rw[ad,q1]
theorem atl{Q:bY->Heap->Prop}(h:Op aa b R.t1 (fN oc (some R.aE) (.aF [.bool false])) (fO σ (some R.aE) (.aF [.bool false])) H [] (fun aT H' _=>bB oc aT R.more=.bool false/\Q aT H'))(hs:Fits ay σ)(hb:b<=H.length){low:Nat}:
  ∃dm H' low' aT,R.fin (b9 aa) ⟨[],ay,H,low,none⟩=some ⟨[],dm,H',low',none⟩/\Fits dm aT/\b<=low'/\b<=H'.length/\Q aT H':=by
 obtain⟨dm,H',low',aT,q1,q2,b3,cS,fw,gV⟩:=afb h hs hb;refine⟨dm,H',low',aT,?_,q2,b3,cS,gV⟩;unfold fR.fin;simp only[q1];rw[tW tV q2,fw]
theorem atm{kv:V × V}{Q:bY->Heap->Prop}{li:Nat}(hit:σ R.it=.ptr li 0)
  (h:Op aa b R.t1 (fN oc (some R.aE) (.aF [.bool true,kv.1,kv.2])) (fO σ (some R.aE) (.aF [.bool true,kv.1,kv.2])) H [] (fun cM H1 _=>bB oc cM R.more=.bool true/\cM R.it=.ptr li 0/\
    Op aa b R.t2 (fN oc (some R.pair) (.aF [kv.1,kv.2])) (fO cM (some R.pair) (.aF [kv.1,kv.2])) H1 [] (fun iZ H2 _=>Q iZ H2))) (hs:Fits ay σ) (hb:b<=H.length) {low:Nat}:
  ∃dm H' low' aT,R.Eb (b9 aa) kv ⟨[],ay,H,low,none⟩=some ⟨[],dm,H',low',none⟩/\Fits dm aT/\b<=low'/\b<=H'.length/\Q aT H':=by
 obtain⟨lx,H1,bL,cM,q1,q2,b3,cS,fw,gV,mT⟩:=afb h hs hb;obtain⟨acD,Dp,ad,e2,bK⟩:=wY tV q2 H1 bL (some R.pair) (.aF [kv.1,kv.2]);obtain⟨iY,dm,H',low',fD,aT,bI,cq,e6,gU,ju⟩:=mT acD Dp bL e2 bK b3 cS;refine⟨dm,H',low',aT,?_,cq,e6,gU,ju⟩;unfold fR.Eb;simp only[q1];rw[tW tV q2,fw];have e:ep (bZ lx R.it) (bZ ay R.it)=true:=by rw[q2,hs,gV,hit];simp[ep]
 simp only[e,if_true,ad,bI]
end
section
variable{C:Ctx}{fid:Nat->Nat}{vars:List Nat}{N:Nat}{aa:Nat->Option cc}
theorem dj.BN (cW:C.P.follows .mixedOrders=true)(bP:fl C fid)(bm:hD C fid (b9 aa)){a d:Code}{A B:cF}(hc:C.code vars N a=some A){st ar:aw}{x:X}{Out:X->aw->Prop}(he:Abs.er aa (.seq A B) st=some (x,ar))
  (k:∀s,Abs.er aa B s=some (x,ar)->dj C fid vars N d s Out) (dq:x≠ .normal->Out x ar):dj C fid vars N (.seq a d) st Out:=by
 rw[jn]at he;cases hA:Abs.er aa A st with
 |none=>rw[hA]at he;cases he
 |some p=>
  obtain⟨y,s⟩:=p;rw[hA]at he;refine dj.seq (dj.er cW bP bm hc hA) (fun s1 h1=> ?_) fun pf s1 hy h1=> ?_
  ·obtain⟨ad,rfl⟩:=h1
   subst ad;exact k s1 he
  ·obtain⟨rfl,rfl⟩:=h1
   cases pf with
   |normal=>exact absurd rfl hy
   |exit i=>cases he;exact dq (by simp)
   |ret=>cases he;exact dq (by simp)
end
end Go.Abs
