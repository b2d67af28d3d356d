/- Texts of this claim, joined and written short by a program. -/
import Derived.Test.YtoimeckpnnkbpaaGreatDoorP10
import Derived.Test.YtoimeckpnnkbpaaGreatDoorP09
import Derived.Test.YtoimeckpnnkbpaaGreatDoorP21
import Derived.Test.YtoimeckpnnkbpaaGreatDoorP00
set_option linter.unusedVariables false
set_option linter.unusedSimpArgs false
set_option linter.unusedSectionVars false
namespace Go.Abs.hk
open Go Go.Abs Go.Abs.S
def aGc:cj:=q (R [r 22 (iG 3 T3 v20),r 23 (ls 3 t22),o 4 (.alloc [z,z,z]),n (st 3 v4 t23)]) (q (q (R [r 24 (c9 0 v4),r 25 (bF t24),r 26 (c9 0 v1),r 27 (c9 1 t26),r 28 (bF t27),r 29 (gq 1 t28),r 30 (fA (fn 214) [t25,t29]),r 31 (no t30),r 32 (m t31),rg 33 t32 false (c9 2 v4),rg 34 t32 false (bF t33),rg 35 t32 false (c9 0 v1),rg 36 t32 false (c9 1 t35),rg 37 t32 false (bF t36),rg 38 t32 false (gq 1 t37),rg 39 t32 false (fA (fn 214) [t34,t38]),rg 40 t32 false (no t39),r 41 (hI t32 h7 t40),r 42 (m t41),rg 43 t42 false (c9 0 v4),rg 44 t42 false (bF t43),rg 45 t42 false (c9 2 v4),rg 46 t42 false (bF t45),rg 47 t42 false (eq t44 t46),o 48 (hI t42 h7 t47)]) (gg af8 (q (R [o 2 (m gI)]) rt) k)) (q (lB [r 49 (c9 0 v1),r 50 (c9 1 t49),r 51 (bF t50),r 52 (c9 0 v4),r 53 (bF t52),r 54 (iG 6 t51 t53),r 55 (ls 6 t54),r 56 (c9 0 v1),r 57 (c9 1 t56),r 58 (bF t57),r 59 (c9 2 v4),r 60 (bF t59),r 61 (iG 6 t58 t60),r 62 (ls 6 t61),o 5 (.alloc [kV,z,nl,z,z,z]),o 6 (.alloc [kV,z,nl,z,z,z]),n (st 6 v5 t55),n (st 6 v6 t62)] [0,1,3,0,8,31,63,0,128,384,0,1024,3968,8064,0,0,49279,131071]) (q (lB [r 63 (c9 1 v5),r 64 (bF t63),r 65 (ne t64 (c 0)),r 66 (m t65),rg 67 t66 false (c9 1 v6),rg 68 t66 false (bF t67),rg 69 t66 false (ne t68 (c 0)),r 70 (hI t66 h7 t69),r 71 (m t70),rg 72 t71 false (c9 1 v4),rg 73 t71 false (bF t72),rg 74 t71 false (c9 2 v5),rg 75 t71 false (bF t74),rg 76 t71 false (gq 1 t75),rg 77 t71 false (fA (fn 214) [t73,t76]),rg 78 t71 false (no t77),r 79 (hI t71 h7 t78),r 80 (m t79),rg 81 t80 false (c9 2 v6),rg 82 t80 false (bF t81),rg 83 t80 false (gq 1 t82),rg 84 t80 false (ne t83 (c 1)),r 85 (hI t80 h7 t84),r 86 (m t85),rg 87 t86 false (c9 2 v6),rg 88 t86 false (bF t87),rg 89 t86 false (iG 1 t88 (c 0)),rg 90 t86 false (bF t89),rg 91 t86 false (c9 2 v5),rg 92 t86 false (bF t91),rg 93 t86 false (c9 1 v4),rg 94 t86 false (bF t93),rg 95 t86 false (iG 1 t92 t94),rg 96 t86 false (bF t95),rg 97 t86 false (ne t90 t96),o 98 (hI t86 h7 t97)] [0,1,3,7,15,31,63,127,255,511,1023,511,2559,6655,16383,32767,65535,131071,262143,524287,1048575,2097151,4194303,8388607,16777215,33554431,67108863,134217727,16777215,285212671,16777215,1090519039,4043309055,8338276351,17179869183,34359738367]) (gg aga (q (R [o 2 (m gI)]) rt) k))))
def aGd:cj:=q (R [r 107 (iG 3 T4 v105),r 108 (ls 3 t107),o 9 (.alloc [z,z,z]),n (st 3 v9 t108)]) (R [r 109 (bF ka),r 110 (c9 0 v9),r 111 (bF t110),n (.px 0 t109 t111 h7)])
def aGe:cj:=q (R [r 121 (.fail),o 122 (ex t121 0)]) (q (gg agb k (e 6)) (b0 7 (q (R [r 123 (.fail),r 124 (ex t123 0),o 10 (.alloc [z]),n (st 1 v10 t124)]) (q (R [r 125 (c9 0 v1),r 126 (c9 6 t125),r 127 (bF t126),r 128 (.sS 224 [] [v10,ka]),r 129 (fA (fn 223) [t127,t128]),o 130 (no t129)]) (gg v130 (R [r 131 (bF ka),r 132 (bF v10),n (.xK 0 t131 t132)]) k)))))
def aGf:cj:=q (R [r 119 (bF ka),o 120 (.fail)]) (b0 6 (.loop aGe))
def auJ:h3:=⟨137,q (R [o 1 (ij v0),o 2 (m gI)]) (q (q (R [r 11 (c9 0 v1),r 12 (c9 6 t11),r 13 (bF t12),r 14 (gq 1 t13),o 15 (gt t14 (c 12))]) (gg r8 (q (R [o 2 (m gI)]) rt) k)) (q (q (R [r 16 (c9 0 v1),r 17 (c9 6 t16),o 18 (bF t17),o 19 (gq 1 T3),o 20 (m (c 0))]) (b0 0 (.loop (vd 21 19 20 99 1 0 aGc)))) (q (R [r 100 (.mkMap),o 7 (.alloc [.iw]),n (st 1 ka t100)]) (q (q (R [r 101 (c9 0 v1),r 102 (c9 6 t101),o 103 (bF t102),o 104 (gq 1 T4),o 105 (m (c 0))]) (b0 2 (.loop (vd 106 104 105 112 3 2 aGd)))) (q (q (R [r 113 (c9 0 v1),r 114 (c9 6 t113),r 115 (bF t114),o 116 (gq 1 t115),o 117 (m (c 0))]) (b0 4 (.loop (vd 118 116 117 133 5 4 aGf)))) (q (R [r 134 (bF ka),r 135 (gq 2 t134),r 136 (eq t135 (c 0)),o 2 (m t136)]) rt)))))),[.tmp 2],false⟩
def avq:cj:=R [o 3 (.alloc [z,z,z,z]),n (st 4 v3 He)]
def avr:cj:=b0 1 (q (q (R [r 14 (c9 2 v3),r 15 (bF t14),r 16 (ne t15 (c 0)),r 17 (m t16),rg 18 t17 false (c9 3 v3),rg 19 t17 false (bF t18),rg 20 t17 false (bF v1),rg 21 t17 false (gq 0 t20),rg 22 t17 false (ne t19 t21),o 23 (hI t17 h7 t22)]) (gg af0 (e 0) k)) (q (R [r 24 (c9 0 v3),r 25 (bF t24),n (st 1 v2 t25)]) rt))
def avs:h3:=⟨26,q (R [o 1 (ij v0),o 2 (.alloc [z])]) (q (q (R [r 4 (bF v1),r 5 (eq t4 (cs [])),r 6 (m t5),rg 7 t6 false (bF v1),rg 8 t6 false (gq 0 t7),rg 9 t6 false (gt t8 (c 4096)),o 10 (hI t6 h7 t9)]) (gg v10 (q (R [n (st 1 v2 (c 0))]) rt) k)) (q (q (R [r 11 (bF v1),o 12 (fA (fn 119) [t11])]) (b0 0 (.rangeFunc v12 [13] avq avr))) (q (R [n (st 1 v2 (c 0))]) rt))),[.cell 2 none],false⟩
def aCh:h3:=⟨6,q (R [o 1 (ij v0),o 2 (m (.const (.jV)))]) (q (R [r 4 (fA (fn 227) []),o 3 (.alloc [.iw]),n (st 1 v3 t4)]) (q (R [r 5 (.sS 228 [] [v1,v3]),o 2 (m t5)]) rt)),[.tmp 2],false⟩
def avt:cj:=q (q (R [r 34 (m r7),r 35 (m ka),r 36 (gq 1 t35),o 37 (lt t34 t36)]) (gg v37 k (e 0))) (b0 1 (lB [r 38 (m r7),r 39 (m ka),r 40 (m r7),r 41 (.pw 2 t39 (some t40) none none),r 42 (m ka),r 43 (m r7),r 44 (.pw 2 t42 none (some t43) none),r 45 (.copy 2 t41 t44),r 46 (dc t38 t45),o 8 (m t46)] [0,0,0,6,0,0,48,126,255,511]))
def aCi:h3:=⟨48,q (R [o 4 (m nc)]) (q (q (R [r 9 (m v1),o 10 (lt t9 (c 0))]) (gg v10 (R [r 11 (.zZ 9 (cs [99,97,110,110,111,116,32,98,101,32,110,101,103,97,116,105,118,101])),n (.fail)]) k)) (q (R [r 13 (m v0),r 14 (gq 1 t13),r 15 (.conv .u64 t14),r 16 (m v1),r 17 (.conv .u64 t16),r 18 (fA (fn 346) [t15,t17]),r 12 (m t18),r 19 (ex t12 0),r 20 (ex t12 1),o 5 (m t19),o 6 (m t20)]) (q (q (R [r 21 (m v5),r 22 (gt t21 (.const (.int .u64 0))),r 23 (m t22),rg 24 t23 false (m v6),rg 25 t23 false (gt t24 (.const (.int .u64 9223372036854775807))),o 26 (hI t23 h7 t25)]) (gg af2 (R [r 27 (.zZ 9 (cs [116,104,101,32,114,101,115,117,108,116,32,111,102,32,40,108,101,110,40,120,41,32,42,32,99,111,117,110,116,41,32,111,118,101,114,102,108,111,119,115])),n (.fail)]) k)) (q (R [r 28 (m v6),r 29 (.conv .i64 t28),r 30 (.mkSlice 2 [z,z] 16 t29 t29),o 7 (m t30)]) (q (R [r 31 (m ka),r 32 (m v0),r 33 (.copy 2 t31 t32),o 8 (m t33)]) (q (b0 0 (.loop avt)) (q (R [r 47 (m ka),o 4 (m t47)]) rt))))))),[.tmp 4],false⟩
def au0:h3:=⟨15,q (R [o 3 (ij v0),o 4 (m gI)]) (q (R [r 5 (c9 0 v3),r 6 (bF t5),r 7 (bF v1),r 8 (eq t6 t7),r 9 (m t8),rg 10 t9 true (bF v2),rg 11 t9 true (c9 2 v3),rg 12 t9 true (bF t11),rg 13 t9 true (.lookup 0 (.bool false) t10 t12 false),r 14 (hI t9 t13 gI),o 4 (m t14)]) rt),[.tmp 4],false⟩
def axt:cj:=q (R [r 9 (iG 1 v5 ka),r 10 (bF t9),o 3 (m t10)]) (R [r 11 (m v1),r 12 (m v3),n (.px 1 t11 t12 h7)])
def aCj:h3:=⟨15,q (R [o 0 (m (.const (.iw)))]) (q (R [r 4 (.mkMap),o 1 (m t4)]) (q (q (R [o 5 (fA (fn 357) [(cs [115,111,114,116,32,114,101,108,97,116,105,111,110,32,99,111,117,110,116,101,114,32,115,101,116,32,114,101,103,105,115,116,101,114,32,105,110,118,97,114,105,97,110,116,32,111,112,101,114,97,116,105,111,110,32,107,101,121,32,114,101,102,101,114,101,110,99,101,32,116,111,32,99,111,117,110,116,32,97,99,121,99,108,105,99,32,97,108,108,32,115,117,109,32,105,110,32,97,100,100,119,105,110,115,32,114,101,109,111,118,101,119,105,110,115,32,108,97,115,116,32,109,117,108,116,105,32,104,105,100,101,32,111,114,100,101,114,101,100,32,114,101,113,117,105,114,101,32,104,111,108,100,32,105,110,115,101,114,116,32,100,101,108,101,116,101,32,97,100,100,32,102,114,111,109,32,112,117,116,32,100,114,111,112,32,97,115,115,105,103,110,32,102,111,114,32,119,104,101,114,101,32,97,110,100,32,111,114,32,110,111,116])]),o 6 (gq 1 v5),o 7 (m (c 0))]) (b0 0 (.loop (vd 8 6 7 13 1 0 axt)))) (q (R [r 14 (m v1),o 0 (m t14)]) rt))),[.tmp 0],false⟩
def apn:cj:=q (q (R [r 21 (m ka),r 22 (m v6),r 23 (gq 0 t22),r 24 (lt t21 t23),r 25 (m t24),rg 26 t25 true (m v6),rg 27 t25 true (m ka),rg 28 t25 true (.qw t26 t27),rg 29 t25 true (fA (fn 235) [t28]),rg 30 t25 true (no t29),r 31 (hI t25 t30 gI),r 32 (m t31),rg 33 t32 true (m v6),rg 34 t32 true (m ka),rg 35 t32 true (.qw t33 t34),rg 36 t32 true (ne t35 (.const (.int .u8 35))),r 37 (hI t32 t36 gI),r 38 (m t37),rg 39 t38 true (m v6),rg 40 t38 true (m ka),rg 41 t38 true (.oI t39 (some t40) none),rg 42 t38 true (fA (fn 236) [t41]),rg 43 t38 true (no t42),o 44 (hI t38 t43 gI)]) (gg af7 k (e 3))) (q (b0 4 k) (R [r 45 (m ka),r 46 (dc t45 (c 1)),o 7 (m t46)]))
def Wz:cj:=.seq (.region [⟨some (48,false),.mv (.var 6),none⟩,⟨some (49,false),.bin .eql (.tmp 48) (.const (.str [])),none⟩,⟨some (47,true),.mv (.tmp 49),none⟩] none) (.cond (.var 47) (.skip) (.seq (.region [⟨some (51,false),.mv (.var 6),none⟩,⟨some (52,false),.qw (.tmp 51) (.const (.int .i64 0)),none⟩,⟨some (53,false),.call false (.func 230) [(.tmp 52)],none⟩,⟨some (50,true),.mv (.tmp 53),none⟩] none) (.cond (.var 50) (.seq (.region [⟨some (54,false),.mv (.var 6),none⟩,⟨some (55,false),.call false (.func 231) [(.tmp 54),(.func 232)],none⟩,⟨some (7,true),.mv (.tmp 55),none⟩,⟨some (56,false),.fieldAddr 0 (.var 5),none⟩,⟨none,.store 1 (.tmp 56) (.const (.int .i64 1)),none⟩] none) (.seq (.region [⟨some (57,false),.load none (.var 2),none⟩,⟨some (58,false),.mv (.var 6),none⟩,⟨some (59,false),.mv (.var 7),none⟩,⟨some (60,false),.oI (.tmp 58) none (some (.tmp 59)),none⟩,⟨some (61,true),.lookup 1 (.bool false) (.tmp 57) (.tmp 60) false,none⟩] (some [0,0,0,6,15])) (.cond (.var 61) (.region [⟨some (62,false),.fieldAddr 0 (.var 5),none⟩,⟨none,.store 1 (.tmp 62) (.const (.int .i64 2)),none⟩] none) (.skip)))) (.seq (.region [⟨some (64,false),.mv (.var 6),none⟩,⟨some (65,false),.qw (.tmp 64) (.const (.int .i64 0)),none⟩,⟨some (66,false),.call false (.func 233) [(.tmp 65)],none⟩,⟨some (63,true),.mv (.tmp 66),none⟩] none) (.cond (.var 63) (.region [⟨some (67,false),.mv (.var 6),none⟩,⟨some (68,false),.call false (.func 231) [(.tmp 67),(.func 233)],none⟩,⟨some (7,true),.mv (.tmp 68),none⟩,⟨some (69,false),.fieldAddr 0 (.var 5),none⟩,⟨none,.store 1 (.tmp 69) (.const (.int .i64 3)),none⟩] none) (.seq (.region [⟨some (71,false),.mv (.var 6),none⟩,⟨some (72,false),.call false (.func 234) [(.tmp 71)],none⟩,⟨some (73,false),.bin .gtr (.tmp 72) (.const (.int .i64 0)),none⟩,⟨some (70,true),.mv (.tmp 73),none⟩] none) (.cond (.var 70) (.region [⟨some (74,false),.mv (.var 6),none⟩,⟨some (75,false),.call false (.func 234) [(.tmp 74)],none⟩,⟨some (7,true),.mv (.tmp 75),none⟩,⟨some (76,false),.fieldAddr 0 (.var 5),none⟩,⟨none,.store 1 (.tmp 76) (.const (.int .i64 4)),none⟩] none) (.seq (.region [⟨some (20,false),.fieldAddr 0 (.var 5),none⟩,⟨none,.store 1 (.tmp 20) (.const (.int .i64 5)),none⟩] none) (.seq (.region [⟨some (7,true),.mv (.const (.int .i64 1)),none⟩] none) (.block 3 (.loop apn)))))))))))
def awW:cj:=.region [⟨some (8,false),.mv (.var 4),none⟩,⟨some (9,false),.mv (.var 4),none⟩,⟨some (10,false),.load none (.var 1),none⟩,⟨some (11,false),.mv (.var 4),none⟩,⟨some (12,false),.oI (.tmp 10) (some (.tmp 11)) none,none⟩,⟨some (13,false),.call false (.func 229) [(.tmp 12)],none⟩,⟨some (14,false),.bin .add (.tmp 9) (.tmp 13),none⟩,⟨some (15,false),.build [.int .i64 0,.int .i64 0,.int .i64 0,.int .i64 0] [(1,1,(.tmp 8)),(2,1,(.tmp 14))],none⟩,⟨some (5,true),.alloc [.int .i64 0,.int .i64 0,.int .i64 0,.int .i64 0],none⟩,⟨none,.store 4 (.var 5) (.tmp 15),none⟩] none
def awX:cj:=.region [⟨some (16,false),.load none (.var 1),none⟩,⟨some (17,false),.fieldAddr 2 (.var 5),none⟩,⟨some (18,false),.load none (.tmp 17),none⟩,⟨some (19,false),.oI (.tmp 16) (some (.tmp 18)) none,none⟩,⟨some (6,true),.mv (.tmp 19),none⟩] none
def awY:cj:=.region [⟨some (7,true),.mv (.const (.int .i64 0)),none⟩] none
def au1:cj:=.seq (.region [⟨some (77,false),.fieldAddr 2 (.var 5),none⟩,⟨some (78,false),.load none (.tmp 77),none⟩,⟨some (79,false),.mv (.var 7),none⟩,⟨some (80,false),.bin .add (.tmp 78) (.tmp 79),none⟩,⟨some (81,false),.fieldAddr 3 (.var 5),none⟩,⟨none,.store 1 (.tmp 81) (.tmp 80),none⟩] none) (.seq (.region [⟨some (82,false),.fieldAddr 3 (.var 5),none⟩,⟨some (83,false),.load none (.tmp 82),none⟩,⟨some (4,true),.mv (.tmp 83),none⟩] none) (.seq (.region [⟨some (84,false),.mv (.var 0),none⟩,⟨some (85,false),.load (some 4) (.var 5),none⟩,⟨some (86,false),.call false (.tmp 84) [(.tmp 85)],none⟩,⟨some (87,false),.un .not (.tmp 86),none⟩,⟨some (88,false),.mv (.tmp 87),none⟩,⟨some (89,false),.fieldAddr 0 (.var 5),some ((.tmp 88),false)⟩,⟨some (90,false),.load none (.tmp 89),some ((.tmp 88),false)⟩,⟨some (91,false),.bin .eql (.tmp 90) (.const (.int .i64 0)),some ((.tmp 88),false)⟩,⟨some (92,true),.pick (.tmp 88) (.const (.bool true)) (.tmp 91),none⟩] none) (.cond (.var 92) (.ret) (.skip))))
def awZ:cj:=b0 1 (q awW (q awX (q awY (q (b0 2 Wz) au1))))
def aCk:h3:=⟨93,q (R [o 4 (m (c 0))]) (b0 0 (.loop awZ)),[],false⟩
def aCl:h3:=⟨30,q (R [o 4 (m (.const (.int .u64 0))),o 5 (m (.const (.int .u64 0)))]) (q (gg gI (q (R [r 11 (m v0),r 12 (.conv .u32 t11),r 13 (m v1),r 14 (.conv .u32 t13),r 15 (fA (fn 418) [t12,t14]),r 10 (m t15),r 16 (ex t10 0),r 17 (ex t10 1),o 6 (m t16),o 7 (m t17)]) (q (R [r 18 (m v6),r 19 (.conv .u64 t18),r 20 (m ka),r 21 (.conv .u64 t20),o 4 (m t19),o 5 (m t21)]) rt)) k) (q (R [r 23 (m v0),r 24 (m v1),r 25 (fA (fn 419) [t23,t24]),r 22 (m t25),r 26 (ex t22 0),r 27 (ex t22 1),o 8 (m t26),o 9 (m t27)]) (q (R [r 28 (m r7),r 29 (m v9),o 4 (m t28),o 5 (m t29)]) rt))),[.tmp 4,.tmp 5],false⟩
def aCm:h3:=⟨51,q (R [o 4 (m (.const (.int .u64 0))),o 5 (m (.const (.int .u64 0)))]) (q (R [r 14 (m v0),r 15 (.bin .and t14 (.const (.int .u64 4294967295))),o 6 (m t15)]) (q (R [r 16 (m v0),r 17 (.bin .shr t16 (.const (.int .u64 32))),o 7 (m t17)]) (q (R [r 18 (m v1),r 19 (.bin .and t18 (.const (.int .u64 4294967295))),o 8 (m t19)]) (q (R [r 20 (m v1),r 21 (.bin .shr t20 (.const (.int .u64 32))),o 9 (m t21)]) (q (R [r 22 (m v6),r 23 (m r7),r 24 (.bin .mul t22 t23),o 10 (m t24)]) (q (R [r 25 (m ka),r 26 (m r7),r 27 (.bin .mul t25 t26),r 28 (m v10),r 29 (.bin .shr t28 (.const (.int .u64 32))),r 30 (dc t27 t29),o 11 (m t30)]) (q (R [r 31 (m v11),r 32 (.bin .and t31 (.const (.int .u64 4294967295))),o 12 (m t32)]) (q (R [r 33 (m v11),r 34 (.bin .shr t33 (.const (.int .u64 32))),o 13 (m t34)]) (q (R [r 35 (m v12),r 36 (m v6),r 37 (m v9),r 38 (.bin .mul t36 t37),r 39 (dc t35 t38),o 12 (m t39)]) (q (R [r 40 (m ka),r 41 (m v9),r 42 (.bin .mul t40 t41),r 43 (m He),r 44 (dc t42 t43),r 45 (m v12),r 46 (.bin .shr t45 (.const (.int .u64 32))),r 47 (dc t44 t46),o 4 (m t47)]) (q (R [r 48 (m v0),r 49 (m v1),r 50 (.bin .mul t48 t49),o 5 (m t50)]) rt))))))))))),[.tmp 4,.tmp 5],false⟩
end Go.Abs.hk
namespace Go.Abs
open Go
variable{C:Ctx}{fid:Nat->Nat}{w w':World}{G G':bX}{H H':Heap}
theorem akO (cD:C.P.follows .mixedOrders=true)(bu:eZ C fid){aa:Nat->Option bY}(hT:dU C fid aa):gH C fid (bZ aa):=
 ⟨M7 aa,fun U ab ao he=>by
  obtain⟨n,hn⟩:=um.1 he;exact(Db cD bu hT n).run U ab ao hn⟩
theorem Yj{k:TypeId}{bK:Nat}{d:TypeDesc}(cW:C.jd k=some bK)(hd:C.P.underlying k=some d){a:V}{x:Value}(ao:a8 fid G w a x):∀{bb:List (V × V)} {es:List MapEntry} (i:Nat) {r:V} {j:Nat} {z:Value},
  aY fid G w (bb.map (·.1)) (es.map (·.key))->aY fid G w (bb.map (·.2)) (es.map (·.val))->h4 bK a bb=some (some r)->Instr.findNow d x es i=some (some (i+j,z))->iy bK a bb=bb.eraseIdx j
 |[],[],i,r,j,z,_,_,h,_=>by simp[h4]at h
 |[],_::_,_,_,_,_,h,_,_,_=>by simp at h;cases h
 | _::_,[],_,_,_,_,h,_,_,_=>by simp at h;cases h
 |(bp,u')::bb,e::es,i,r,j,z,ef,cS,h,ab=>by
  simp only[eo]at ef cS;cases ef with
  |cons _ _ _ _ il ef=>
   cases cS with
   |cons _ _ _ _ qJ cS=>
    simp only[h4]at h;split at h
    ·rename_i he
     obtain⟨hs,-⟩:=wC cW hd ao il he;simp only[Instr.findNow,hs,az,bt]at ab;obtain rfl:j=0:=by omega
     simp only[iy,he,if_true,aa3]
    ·rename_i he
     obtain⟨hs,-⟩:=wC cW hd ao il he;simp only[Instr.findNow,hs]at ab;have im:=qK cW hd ao (i+1) ef cS h;obtain⟨uL,n8,h1,-,-⟩:=im;rw[h1]at ab;simp only[az,bt]at ab;obtain⟨hj,rfl⟩:=ab;obtain rfl:j=uL+1:=by omega
     have ih:=Yj cW hd ao (i+1) ef cS h h1;have bf:¬(ix bK a bp=some true):=by rw[he];simp
     simp only[iy,bf,if_false,aa4,ih]
    ·cases h
theorem akP{vars:List Nat}{ae:ag->V}{ρ:Operand->Value}{o:Oper}(aL:fh C fid vars G w ae ρ){m k:Operand}{t ei rO:TypeId}{u:TypeId}(hd:C.P.underlying t=some (.map ei rO)){am gX:ag}{bK:Nat}
  (ho:o.op=.call {callee:=.builtin .delete,args:= #[m,k],argTypes:= #[t,u]}) (h1:C.b3 vars m=some am) (h2:C.b3 vars k=some gX) (gp:C.jd ei=some bK) {l:Nat} (af:ae am=.map l) {h0:Home} (cY:G.β l=some h0) {bb:List (V × V)} {es:Array MapEntry} {bE:Nat}
  (eB:w.heap[h0.b]? =some (.map es bE)) (ef:aY fid G w (bb.map (·.1)) (es.toList.map (·.key))) (cS:aY fid G w (bb.map (·.2)) (es.toList.map (·.val))) (cd:n0 es bE) {bM:Option V} (iE:h4 bK (ae gX) bb=some bM):
  ∃bD,(execOp ρ o).run C.P w=.ok (.value (.tuple #[])) {w with heap:=w.heap.setIfInBounds h0.b (.map bD bE)}/\aY fid G w ((iy bK (ae gX) bb).map (·.1)) (bD.toList.map (·.key))/\aY fid G w ((iy bK (ae gX) bb).map (·.2)) (bD.toList.map (·.val))/\
   n0 bD bE/\((bD=es/\iy bK (ae gX) bb=bb)\/∃j,bD=es.eraseIdxIfInBounds j/\iy bK (ae gX) bb=bb.eraseIdx j):=by
 have hm:=aL m am h1;have cW:=aL k gX h2;obtain⟨Gt,iP⟩:=Gs gp
 have cr:(execOp ρ o).run C.P w=((Builtin.delete_ #[t,u] o.type #[ρ m,ρ k]).run C.P w).andThen fun z w'=>.ok (.value z) w':=by
  rw[x4 ho];simp only[builtin,Sem.run_bind,Ko,eo,mT];rfl
 rw[af]at hm;obtain⟨atH,Yk,Sj,eg⟩:=hm.mapInv;rw[cY]at Yk;cases Yk;cases bM with
 |none=>
  have ab:=qK gp iP cW 0 ef cS iE;refine⟨es,?_,by rw[Ax iE];exact ef,by rw[Ax iE];exact cS,cd,.inl ⟨rfl,Ax iE⟩⟩;rw[cr];unfold Builtin.delete_;simp only[eg];simp[run_underlying hd,wD eB,s4 gp,uK (C:=C) iP ab,Av _ eB,Sem.run_pure,Result.andThen]
 |some r=>
  obtain⟨j,y,ab,-,-⟩:=qK gp iP cW 0 ef cS iE;obtain⟨s1,s2⟩:=Lr gp iP cW 0 ef cS iE ab;have dL:=Yj gp iP cW 0 ef cS iE ab;rw[eO]at ab;refine⟨es.eraseIdxIfInBounds j,?_,by simpa using s1,by simpa using s2,cd.erase _,.inr ⟨j,rfl,dL⟩⟩;rw[cr];unfold Builtin.delete_;simp only[eg];simp[run_underlying hd,wD eB,s4 gp,uK (C:=C) iP ab,Av _ eB,Sem.run_pure,Result.andThen]
theorem Yl{α β:Type}:∀{j:Nat} {l:List α} {m:List β} {p:α × β},p∈(l.eraseIdx j).zip (m.eraseIdx j)->p∈l.zip m
 | _,[],_,_,h=>by simp at h
 | _,_::_,[],_,h=>by simp at h
 |0,_::_,_::_,_,h=>by simp only[aa3]at h;exact kQ _ h
 |j+1,_::_,_::_,_,h=>by
  simp only[aa4,zQ,dA]at h⊢;exact h.imp id Yl
section
variable{vars:List Nat}{N:Nat}
structure qh (C:Ctx) (fid:Nat->Nat) (vars:List Nat) (N base li l r j7 bE:Nat) (st:aq) (G:bX) (w:World) (seen:Array Nat) (es:Array MapEntry) (d:List V) (bb:List (V × V)) (s:aq) (ay:bX) (ai:Act) (aH:World):Prop where
 rel:dy C fid vars N ay s ai aH
 bM:gb st {s with low:=min st.low l}
 len:li<s.H.length
 ext:∀m,m<=min st.low l->Ext G w ay aH m st.H.length
 marks:kF C ay aH base ai.defers
 hi:∃h,ay.β li=some h/\h.b=r
 hm:∃h,ay.β l=some h/\h.b=j7
 gone:s.H[li]? =some .gone
 mp:s.H[l]? =some (.map bb)
 iter:aH.heap[r]? =some (.mapIter (some j7) bE seen bE)
 map:aH.heap[j7]? =some (.map es bE)
 hand:∀p∈es.toList.zip bb,p.1.born∈seen->p.2.1∈d
variable{base li l r j7 bE:Nat}{st:aq}{seen:Array Nat}{es:Array MapEntry}{d:List V}{bb:List (V × V)}{s al:aq}{ay bl:bX}{ai a2:Act}{aH bG:World}
theorem qh.on (h:qh C fid vars N base li l r j7 bE st G w seen es d bb s ay ai aH)(jl:l<li)(U:dy C fid vars N bl al a2 bG)(du:∀m,m<=al.low->Ext ay aH bl bG m s.H.length)(jZ:li<al.low)(cZ:Fr s.H s.H.length al.H al.low)(eJ:al.ro=s.ro)
  (hd:kF C bl bG base a2.defers):qh C fid vars N base li l r j7 bE st G w seen es d bb al bl a2 bG:=by
 obtain⟨h1,af,q1⟩:=h.hi;obtain⟨h2,e2,aS⟩:=h.hm;have g1:=G0 h.rel.rel af h.gone;have g2:=yq h.rel.rel e2 h.mp;have o3:=du _ (aK _);have kA:=h.bM.1.len;refine⟨U,⟨⟨cV h.bM.1.len cZ.len,jU _ _,fun x hx=> ?_⟩,eJ.trans h.bM.2⟩,qs h.len cZ.len,fun m hm=> ?_,hd,?_,?_,?_,?_,?_,?_,h.hand⟩
 ·have dW:x<min st.low l:=hx
  exact(cZ.same x (by omega)).trans (h.bM.1.same x hx)
 ·exact(h.ext m hm).trans ((du m (by omega)).le (aK _) kA)
 ·obtain⟨h',e',q'⟩:=wP o3 af g1.1;exact⟨h',e',q'.trans q1⟩
 ·obtain⟨h',e',q'⟩:=wP o3 e2 g2.1;exact⟨h',e',q'.trans aS⟩
 ·rw[cZ.same li jZ];exact h.gone
 ·rw[cZ.same l (by omega)];exact h.mp
 ·have:=wO o3 h.rel.rel af jZ
  rw[q1]at this;rw[this];exact h.iter
 ·have:=wO o3 h.rel.rel e2 (by omega)
  rw[aS]at this;rw[this];exact h.map
theorem qh.del (h:qh C fid vars N base li l r j7 bE st G w seen es d bb s ay ai aH)(jl:l<li){vars':List Nat}{o:Oper}{m k:Operand}{t ei rO u:TypeId}(bu:eZ C fid)(hd:C.P.underlying t=some (.map ei rO)){am gX:ag}{bK:Nat}
  (ho:o.op=.call {callee:=.builtin .delete,args:= #[m,k],argTypes:= #[t,u]}) (h1:C.b3 vars m=some am) (h2:C.b3 vars k=some gX) (gp:C.jd ei=some bK) (af:am.ae s.aG s.av=.map l) {bM:Option V} (iE:h4 bK (gX.ae s.aG s.av) bb=some bM):
  ∃bD bl bG,(execOp ai.eval o).run C.P aH=.ok (.value (.tuple #[])) bG/\bD.toList.Sublist es.toList/\
   qh C fid vars N base li l r j7 bE st G w seen bD d (iy bK (gX.ae s.aG s.av) bb) {s with aG:=[],H:=s.H.set l (.map (iy bK (gX.ae s.aG s.av) bb)),low:=min s.low l} bl ai bG:=by
 obtain⟨ar,bT,b1⟩:=h.hi;obtain⟨aQ,cF,cL⟩:=h.hm;obtain⟨oY,jh,Lt,atI,fi,ef,cS,cd⟩:=yq h.rel.rel cF h.mp;rw[cL,h.map]at fi;cases fi;have eB:aH.heap[aQ.b]? =some (.map es bE):=by rw[cL];exact h.map
 obtain⟨bD,cr,cq,ee,k1,HE⟩:=akP (rX bu h.rel) hd ho h1 h2 gp af cF eB ef cS cd iE;generalize iy bK (gX.ae s.aG s.av) bb=akQ at*;have aX:aQ.b<aH.heap.size:=h.rel.rel.blk l aQ cF
 have uM:∀b,b≠aQ.b->({aH with heap:=aH.heap.setIfInBounds aQ.b (.map bD bE)}:World).heap[b]? =aH.heap[b]? :=fun b bf=>by
  show(aH.heap.setIfInBounds aQ.b _)[b]? =_;rw[QC (kp bf)]
 have Aw:({aH with heap:=aH.heap.setIfInBounds aQ.b (.map bD bE)}:World).heap[aQ.b]? =some (.map bD bE):=by
  show(aH.heap.setIfInBounds aQ.b _)[aQ.b]? =_;simp[aX]
 have dJ:({aH with heap:=aH.heap.setIfInBounds aQ.b (.map bD bE)}:World).heap.size=aH.heap.size:=by simp
 have dW:Ext ay aH ⟨ck ay.β l aQ,ay.I⟩ {aH with heap:=aH.heap.setIfInBounds aQ.b (.map bD bE)} l s.H.length:=
  Ext.write h.rel.rel cF jh rfl (aK _) id rfl dJ uM rfl rfl
 have nB:Ext ay aH ⟨ck ay.β l aQ,ay.I⟩ {aH with heap:=aH.heap.setIfInBounds aQ.b (.map bD bE)} 0 s.H.length:=dW.le (cx _) (aK _)
 have uY:bD.toList.Sublist es.toList:=by
  rcases HE with⟨rfl,-⟩|⟨j,rfl,-⟩
  ·exact ru _
  ·rw[aaX];exact List.eraseIdx_sublist _ _
 refine⟨bD,⟨ck ay.β l aQ,ay.I⟩,_,cr,uY,⟨⟨?_,fun t=> ?_,h.rel.size,?_⟩,⟨⟨?_,jU _ _,fun x hx=> ?_⟩,h.bM.2⟩,?_,fun m hm=> ?_,h.marks.ext nB,?_,?_,?_,?_,?_,?_,?_⟩⟩
 ·exact aZ.write h.rel.rel cF jh rfl jh (aK _) id rfl dJ uM (.map akQ) ⟨oY,jh,bD,bE,Aw,cq.ext h.rel.rel dW,ee.ext h.rel.rel dW,k1⟩
 ·exact((h.rel.clear).env t).ext h.rel.rel nB
 ·show min s.low l<=(s.H.set l _).length
  rw[zT];exact cV (jU _ _) h.rel.low
 ·show st.H.length<=(s.H.set l _).length
  rw[zT];exact h.bM.1.len
 ·have Ym:x<min st.low l:=hx
  show(s.H.set l _)[x]? =_;rw[gm (by omega)];exact h.bM.1.same x hx
 ·show li<(s.H.set l _).length
  rw[zT];exact h.len
 ·exact(h.ext m hm).trans (dW.le (by omega) h.bM.1.len)
 ·exact⟨ar,by show ck ay.β l aQ li=_;rw[dp (by omega)];exact bT,b1⟩
 ·exact⟨aQ,de _ _ _,cL⟩
 ·show(s.H.set l _)[li]? =_
  rw[gm (by omega)];exact h.gone
 ·show(s.H.set l _)[l]? =_
  rw[nU (h.rel.rel.lt cF)]
 ·rw[uM r (fun q=> ?_)]
  ·exact h.iter
  ·have:=h.rel.rel.inj _ _ _ _ bT cF (by rw[b1];exact q)
   omega
 ·rw[<-cL];exact Aw
 ·intro p hp hb
  refine h.hand p ?_ hb;rcases HE with⟨rfl,rfl⟩|⟨j,rfl,rfl⟩
  ·exact hp
  ·rw[aaX]at hp
   exact Yl hp
end
end Go.Abs
namespace Go.Abs
open Go
variable{C:Ctx}{fid:Nat->Nat}{w w':World}{G G':bX}{H H':Heap}
structure zs where
 dm:cj
 c:ag
 E1:List bO
 m:ag
 k:ag
 bK:Nat
structure Yn (C:Ctx) (vars:List Nat) (N:Nat) (body:Code) (D:zs):Prop where
 ok:∃(tJ:Code) (x id:Nat) (ops:Array Oper) (os:List Oper) (gW:Oper) (m k:Operand) (t ei rO u:TypeId),
  body=.seq tJ (.cond (.tmp x) (.region id ops false) .skip)/\C.code vars N tJ=some D.dm/\C.b3 vars (.tmp x)=some D.c/\ops.toList=os++[gW]/\dH (C.oper vars N ops) os=some D.E1/\
  gW.op=.call {callee:=.builtin .delete,args:= #[m,k],argTypes:= #[t,u]}/\gW.dst=none/\gW.guard=none/\C.b3 vars m=some D.m/\C.b3 vars k=some D.k/\C.P.underlying t=some (.map ei rO)/\C.jd ei=some D.bK
def fc.BI (R:fc)(call:cU)(kv:V × V)(st:aq):Option aq:=
 match R.step call (.aU [.bool true,kv.1,kv.2]) {st with low:=st.H.length}with
 |some b4=>match R.more.ae b4.aG b4.av with
  | .bool true=>
    if dP (bk b4.av R.it) (bk st.av R.it)=true then
     match cQ call R.t2 (({b4 with aG:=[]}:aq).put (some R.pair) (.aU [kv.1,kv.2])) []with
     |some (fU,_)=>some {fU with aG:=[]}
     |none=>none
    else none
  | _=>none
 |none=>none
def O3 (R:fc)(D:zs)(aa:Nat->Option bY)(l li:Nat)(bb:List (V × V))(kv:V × V)(s:aq)(Inv:List (V × V)->aq->Prop):Prop:=
 ∃s2 dL,R.BI (bZ aa) kv s=some s2/\dx aa D.dm s2=some (.normal,dL)/\li<dL.low/\
  ((D.c.ae dL.aG dL.av=.bool false/\Inv bb dL)\/
   (D.c.ae dL.aG dL.av=.bool true/\∃jR wr bM,cQ (bZ aa) D.E1 {dL with aG:=[]} []=some (jR,wr)/\li<jR.low/\D.m.ae jR.aG jR.av=.map l/\h4 D.bK (D.k.ae jR.aG jR.av) bb=some bM/\
     Inv (iy D.bK (D.k.ae jR.aG jR.av) bb) {jR with aG:=[],H:=jR.H.set l (.map (iy D.bK (D.k.ae jR.aG jR.av) bb)),low:=min jR.low l}))
theorem akR{α β:Type}{l:List α}{m:List β}{p:α × β}(h:p∈l.zip m):∃i:Nat,l[i]? =some p.1/\m[i]? =some p.2:=by
 obtain⟨i,hi⟩:=ns.1 h;refine⟨i,?_⟩;rw[xD]at hi;exact hi
theorem akS{α β:Type}{l:List α}{m:List β}{i:Nat}{a:α}{b:β}(h1:l[i]? =some a)(h2:m[i]? =some b):(a,b)∈l.zip m:=
 hz (xD.2 ⟨h1,h2⟩:(l.zip m)[i]? =some (a,b))
theorem akT{es:Array MapEntry}(hn:(es.toList.map (·.born)).Nodup){i j:Nat}{a b:MapEntry}(h1:es.toList[i]? =some a)(h2:es.toList[j]? =some b)(h:a.born=b.born):i=j:=by
 obtain⟨hi,q1⟩:=pY.1 h1;obtain⟨hj,aS⟩:=pY.1 h2;have hp:=QD.1 hn;rcases Nat.lt_trichotomy i j with q|q|q
 ·exact absurd (show(es.toList.map (·.born))[i]'(by simpa using hi)=(es.toList.map (·.born))[j]'(by simpa using hj) by rw[FP,FP,q1,aS,h]) (hp i j (by simpa using hi) (by simpa using hj) q)
 ·exact q
 ·exact absurd (show(es.toList.map (·.born))[j]'(by simpa using hj)=(es.toList.map (·.born))[i]'(by simpa using hi) by rw[FP,FP,q1,aS,h]) (hp j i (by simpa using hj) (by simpa using hi) q)
theorem akU{es:Array MapEntry}{seen:Array Nat}{e:MapEntry}(he:e∈(leftOf es seen).toList):(leftOf es (seen.push e.born)).size<(leftOf es seen).size:=by
 have he':e∈es.toList/\seen.contains e.born=false:=by
  unfold leftOf at he;simpa using he
 unfold leftOf;have key:∀p:MapEntry->Bool,(es.filter p).size=(es.toList.filter p).length:=fun p=>by rw[<-hB,Array.toList_filter]
 rw[key,key];refine filter_lt _ _ (fun x hx=> ?_) e ?_ ?_ _ he'.1
 ·simp only[Array.contains_push,nV,B9]at hx⊢
  simp at hx⊢;exact hx.1
 ·rw[he'.2];rfl
 ·simp
theorem akV{es bD:Array MapEntry}{seen:Array Nat}(h:bD.toList.Sublist es.toList):(leftOf bD seen).size<=(leftOf es seen).size:=by
 unfold leftOf;have key:∀(es:Array MapEntry) (p:MapEntry->Bool),(es.filter p).size=(es.toList.filter p).length:=fun es p=>by rw[<-hB,Array.toList_filter]
 rw[key,key];exact(h.filter _).length_le
theorem akW{es:Array MapEntry}{seen:Array Nat}(h:(leftOf es seen).size=0):∀e∈es.toList,e.born∈seen:=by
 intro e he;have h0:leftOf es seen= #[]:=aaY h;unfold leftOf at h0;rw[aa1]at h0;have h1:=h0 e (by simpa using he);simp only[nV,Km]at h1;rw[aa6]at h1;exact h1
section
variable{vars:List Nat}{N n:Nat}{aa:Nat->Option bY}
theorem Yo{c:cj}{st:aq}{r:X × aq}(h:dx aa c st=some r):∃n,Abs.exec (bZ aa) n c st=some r:=by
 obtain⟨n,hn⟩:=ga.1 h;exact⟨n,rF (Cm n) (aK _) c st r hn⟩
theorem akX (cD:C.P.follows .mixedOrders=true)(bu:eZ C fid)(a6:gH C fid (bZ aa)){k0 i1 i2:Nat}{gQ on jm:Oper}{j8 j9 jn:Array Oper}{nE nF:List Oper}
  {mt it aB more pair out fN:Nat} {tm qR qS:TypeId} {body:Code} {R:fc} {D:zs}
  (h0:j8[k0]? =some gQ) (uZ:C.b3 vars (.tmp mt)=some R.src) (rZ:gQ.op=.range tm (.tmp mt)) (u0:gQ.dst=some it) (u1:gQ.guard=none) (hit:it<N) (u2:C.P.underlying tm=some (.map qR qS))
  (h1:j9.toList=on::nE) (pN:on.op=.next (.tmp it) false) (hnd:on.dst=some aB) (r0:on.guard=none) (mG:aB<N)
  (h2:jn.toList=jm::nF) (r1:jm.op=.entry (.tmp it)) (u3:jm.dst=some pair) (u4:jm.guard=none) (u5:pair<N)
  (pO:vars.contains it=true) (r2:R.aB=(aB,vars.contains aB)) (u6:R.pair=(pair,vars.contains pair))
  (pG:dH (C.oper vars N j9) nE=some R.t1) (n3:dH (C.oper vars N jn) nF=some R.t2) (r3:C.b3 vars (.tmp more)=some R.more) (wQ:Yn C vars N body D) (Df:R.it=it)
  {st:aq} {l:Nat} {bb:List (V × V)} (oh:R.src.ae st.aG st.av=.map l) (nG:st.H[l]? =some (.map bb)) (Inv:List V->List (V × V)->aq->Prop) (Out:List (V × V)->aq->Prop)
  (u7:Inv [] bb (h8 it st)) (r4:∀d es s,Inv d es s->bk s.av it=.ptr st.H.length 0)
  (o4:∀d es s,Inv d es s->∀kv∈es,O3 R D aa l st.H.length es kv s (fun bD al=>Inv (d++[kv.1]) bD al))
  (iF:∀d es s,Inv d es s->(∀kv∈es,kv.1∈d)->∃al,R.fin (bZ aa) s=some al/\st.H.length<al.low/\Out es al)
  {a:Act} {ro:Option Nat} {base:Nat} {Q Mh:Exit->Act->World->Prop} (U:dy C fid vars N G st a w) (eJ:uU G st.ro ro) (eE:kF C G w base a.defers) (hb:base<=w.heap.size)
  (dz:∀es al G' a7 w',Out es al->gb st {al with low:=min st.low l}->Fin C fid vars N base st G w {al with low:=min st.low l} G' a7 w'->Q .normal a7 w'):
  wpOpIn (en ro) 0 C.P j8 Mh k0 (fun a7 w'=>(Code.block out (.loop (.seq (.region i1 j9 false) (.seq (.cond (.tmp more) .skip (.exit out)) (.block fN (.seq (.region i2 jn false) body)))))).wpIn (en ro) 0 C.P Q a7 w') a w:=by
 obtain⟨tJ,sZ,Yp,Jr,Yq,gW,cB,Gt,atJ,atK,atL,atM,rfl,oV,akY,O4,akZ,Yr,ak0,ak1,ak2,iP,ak3,ak4⟩:=wQ.ok;have lX:=rX bu U (.tmp mt) R.src uZ;rw[oh]at lX;obtain⟨e0,u9,Mi,Mj⟩:=lX.mapInv;obtain⟨-,-,es,bE,fa,ef,cS,cd⟩:=yq U.rel u9 nG;have jl:l<st.H.length:=U.rel.lt u9
 have CP:(execOp a.eval gQ).run C.P w=.ok (.value (.pointer (some ⟨w.heap.size,0,none⟩))) (w.alloc (.mapIter (some e0.b) bE #[] bE)):=by
  unfold execOp;rw[rZ];have e:a.eval (.tmp mt)=.map (some e0.b):=Mj;simp only[e,Sem.run_bind,run_range_map w tm qR qS e0.b es bE u2 fa,Result.andThen_ok,Sem.run_pure]
 have Ml:=U.rel.push .gone (.mapIter (some e0.b) bE #[] bE) 0 0 ⟨rfl,rfl⟩;have qQ:∀m k,k<=st.H.length->Ext G w ⟨ck G.β st.H.length ⟨w.heap.size,0,0,false⟩,G.I⟩ (w.alloc (.mapIter (some e0.b) bE #[] bE)) m k:=fun m k cW=>(Ext.push U.rel (.mapIter (some e0.b) bE #[] bE) 0 0 m).le (aK _) cW
 have Mm:dy C fid vars N ⟨ck G.β st.H.length ⟨w.heap.size,0,0,false⟩,G.I⟩ {st with H:=st.H++[.gone]} a (w.alloc (.mapIter (some e0.b) bE #[] bE)):=
  ⟨Ml,fun t=>(U.env t).ext U.rel (qQ 0 0 (cx _)),U.size,by have:=U.low;simp only[gM,ev,ja];omega⟩
 have oZ:dy C fid vars N ⟨ck G.β st.H.length ⟨w.heap.size,0,0,false⟩,G.I⟩ (h8 it st) (a.put (some it) (.pointer (some ⟨w.heap.size,0,none⟩))) (w.alloc (.mapIter (some e0.b) bE #[] bE)):=by
  have:=Mm.put hit (v:=.ptr st.H.length 0) (x:=.pointer (some ⟨w.heap.size,0,none⟩)) (.ptr st.H.length 0 ⟨w.heap.size,0,0,false⟩ (de _ _ _) rfl);rw[pO]at this;exact this.clear
 suffices Mn:∀G' a7 w',dy C fid vars N G' (h8 it st) a7 w'->(∀m,m<=(h8 it st).H.length->Ext ⟨ck G.β st.H.length ⟨w.heap.size,0,0,false⟩,G.I⟩ (w.alloc (.mapIter (some e0.b) bE #[] bE)) G' w' m (h8 it st).H.length)->
   a7.defers=a.defers->(Code.block out (.loop (.seq (.region i1 j9 false) (.seq (.cond (.tmp more) .skip (.exit out)) (.block fN (.seq (.region i2 jn false) (.seq tJ (.cond (.tmp sZ) (.region Yp Jr false) .skip)))))))).wpIn (en ro) 0 C.P Q a7 w' by
  refine GZ h0 u1 (by rw[rZ];simp) CP ?_;rw[u0];exact Mn _ _ _ oZ (fun m _=>.refl _ _ _ _) (by rw[put_defers])
 intro G' a7 w' bA b9 eD
 refine wpIn_block (GN (fun k ai aH=>∃d seen es bb s ay,Inv d bb s/\(leftOf es seen).size<k/\qh C fid vars N base st.H.length l w.heap.size e0.b bE st G w seen es d bb s ay ai aH) ?_
  (j:=(leftOf es #[]).size+1) ?_)
 ·rintro k ai aH ⟨d,seen,es,bb,s,ay,aW,cW,bq⟩
  obtain⟨bp,rfl⟩:∃bp,k=bp+1:=⟨k-1,by omega⟩;refine⟨bp,rfl,?_⟩;obtain⟨ar,bT,b1⟩:=bq.hi;obtain⟨aQ,cF,cL⟩:=bq.hm
  have Dg:ai.eval (.tmp it)=.pointer (some ⟨w.heap.size,0,none⟩):=by
   have:=bq.rel.env it;rw[show dC vars s it=bk s.av it by unfold dC;rw[if_pos pO],r4 d bb s aW]at this;obtain⟨h5,ej,-,fl⟩:=this.n4;rw[bT]at ej;cases ej;rw[b1]at fl;exact fl
  have te:∀c,on.op≠ .defer c:=by rw[pN];simp
  have Az:∀c,jm.op≠ .defer c:=by rw[r1];simp
  obtain⟨ae3,ae4,bD,rP,Di,wE,x8,x9⟩:=yq bq.rel.rel cF bq.mp;rw[cL,bq.map]at Di;cases Di
  have Mk:bb.length=es.size:=by
   have:=wE.length;simpa using this.symm
  rcases Tx (P:=C.P) on.type bq.iter bq.map x9.1 (aK _)with⟨dJ,cr⟩|⟨e,he,bG,yr,Mo,Mp,cr⟩
  ·
   have eA:∀kv∈bb,kv.1∈d:=fun kv lv=>by
    obtain⟨i,hi⟩:=ns.1 lv
    have qU:i<es.toList.length:=by
     have:=(pY.1 hi).1;simp;omega
    have ak5:es.toList[i]? =some es.toList[i]:=hX qU;exact bq.hand _ (akS ak5 hi) (akW dJ _ (Kp qU))
   obtain⟨al,ab,jZ,Dh⟩:=iF d bb s aW eA;unfold fc.fin fc.step at ab;split at ab
   ·rename_i s1 fJ
    split at fJ
    ·rename_i jo wr hex
     cases fJ;split at ab
     ·rename_i r5
      cases ab
      have ys:(execOp ai.eval on).run C.P aH=.ok (.value (.tuple #[.bool false])) aH:=by
       unfold execOp;rw[pN];simp only[Dg,Sem.run_bind,cr,Result.andThen_ok,Sem.run_pure]
      have uV:dy C fid vars N ay (({s with aG:=[],low:=s.H.length}:aq).put (some R.aB) (.aU [.bool false])) (ai.put (some aB) (.tuple #[.bool false])) aH:=by
       rw[r2];exact bq.rel.reset.put mG (.aU _ _ (.cons _ _ _ _ (.p _ _ (.bool false)) .nil))
      refine wpIn_seq (AW bu a6 h1 hnd r0 te pG ys uV hex fun bl a2 fr gx iR rY=> ?_);have fL:=j5 ({s with aG:=[],low:=s.H.length}:aq) (some R.aB) (.aU [.bool false]);have cZ:=oa a6.bM _ _ _ _ _ (by rw[fL.1,fL.2.1];exact aK _) hex
      have dY:qh C fid vars N base st.H.length l w.heap.size e0.b bE st G w seen es d bb {jo with aG:=[]} bl a2 fr:=by
       refine bq.on jl gx.clear (fun m hm=> ?_) jZ ?_ ?_ ?_
       ·have:=iR m hm
        rw[fL.1]at this;exact this
       ·have:=cZ.1
        rw[fL.1,fL.2.1]at this;exact this
       ·exact cZ.2.trans fL.2.2
       ·have:=bq.marks.ext (iR 0 (cx _))
        rw[rY];exact this
      have ad:=rX bu dY.rel (.tmp more) R.more r3;rw[r5]at ad;refine wpIn_seq (wpIn_cond_false ad.kz (wpIn_exit ?_));show(if out=out then Q .normal a2 fr else _);rw[if_pos rfl];have:=dY.len;exact dz _ _ bl a2 fr Dh dY.bM ⟨⟨dY.rel.rel,dY.rel.env,dY.rel.size,cV (qt _ _) (cV (xI jl) (xI dY.len))⟩,dY.ext,dY.marks⟩
     ·cases ab
    ·cases fJ
   ·cases ab
  ·
   have Ys:e∈es.toList/\seen.contains e.born=false:=by
    unfold leftOf at he;simpa using he
   obtain⟨i,hi⟩:=ns.1 Ys.1;have qT:=akU he;have qU:i<es.toList.length:=(pY.1 hi).1;obtain⟨Mq,wM⟩:=G0 bq.rel.rel bT bq.gone;obtain⟨kv,lv⟩:∃kv,bb[i]? =some kv:=⟨bb[i]'(by simp at qU;omega),by simp⟩
   have Mr:a8 fid ay aH kv.1 e.key:=by
    obtain⟨x,hx,hr⟩:=wE.get (i:=i) (v:=kv.1) (by rw[jy,lv];rfl);rw[jy,hi]at hx;cases hx;exact hr
   have l9:a8 fid ay aH kv.2 e.val:=by
    obtain⟨x,hx,hr⟩:=x8.get (i:=i) (v:=kv.2) (by rw[jy,lv];rfl);rw[jy,hi]at hx;cases hx;exact hr
   obtain⟨atN,dL,tK,G2,Ti,wH⟩:=o4 d bb s aW kv (hz lv);have hT:=turn bq.rel.rel bT wM (.mapIter (some e0.b) bE (seen.push e.born) bE) .gone fun _ _ _=>⟨Mq,wM⟩;rw[G1 bq.gone]at hT;have va:bG.heap=(aH.putObj ar.b (.mapIter (some e0.b) bE (seen.push e.born) bE)).heap:=by rw[yr,b1];rfl
   have yu:aZ C fid ay s.H bG:=hT.1.lU va;have yv:∀m,m<=st.H.length->Ext ay aH ay bG m s.H.length:=fun m hm=>(hT.2.le hm (aK _)).trans (.lU va Mo Mp _ _)
   have Ms:bG.heap[w.heap.size]? =some (.mapIter (some e0.b) bE (seen.push e.born) bE):=by
    rw[va,<-b1];exact World.putObj_heap_same (bq.rel.rel.blk _ _ bT)
   have rN:bG.heap[e0.b]? =some (.map es bE):=by
    rw[va,World.putObj_heap_other (fun q=> ?_)]
    ·exact bq.map
    ·have:=bq.rel.rel.inj _ _ _ _ bT cF (by rw[cL,<-q]);omega
   have Dj:dy C fid vars N ay s ai bG:=⟨yu,fun t=>(bq.rel.env t).ext bq.rel.rel (yv 0 (cx _)),bq.rel.size,bq.rel.low⟩;have yw:=yv 0 (cx _)
   have Dk:qh C fid vars N base st.H.length l w.heap.size e0.b bE st G w (seen.push e.born) es (d++[kv.1]) bb s ay ai bG:=
    ⟨Dj,bq.bM,bq.len,fun m hm=>(bq.ext m hm).trans ((yv m (by omega)).le (aK _) bq.bM.1.len),bq.marks.ext yw,bq.hi,bq.hm,bq.gone,bq.mp,Ms,rN,fun p hp BJ=>by
     obtain⟨j,ak6,Yt⟩:=akR hp;rw[Array.mem_push]at BJ;rcases BJ with BJ|BJ
     ·exact we _ (bq.hand p hp BJ)
     ·have:=akT x9.2 ak6 hi BJ
      subst this;rw[lv]at Yt;cases Yt;simp⟩
   have Dl:=Mr.ext bq.rel.rel yw;have Dm:=l9.ext bq.rel.rel yw;unfold fc.BI fc.step at tK;split at tK
   case h_2=>cases tK
   rename_i s1 fJ;split at fJ
   case h_2=>cases fJ
   rename_i jo wr hex;cases fJ;split at tK
   case h_2=>cases tK
   rename_i r5;split at tK
   case isFalse=>cases tK
   rename_i Mt
   have Mu:bk jo.av it=.ptr st.H.length 0:=by
    have:=uO _ _ Mt;rw[Df]at this;exact this.trans (r4 d bb s aW)
   split at tK
   case h_2=>cases tK
   rename_i s2 Mv Dn;cases tK
   have ys:(execOp ai.eval on).run C.P aH=.ok (.value (.tuple #[.bool true,e.key,e.val])) bG:=by
    unfold execOp;rw[pN];simp only[Dg,Sem.run_bind,cr,Result.andThen_ok,Sem.run_pure]
   have uV:dy C fid vars N ay (({s with aG:=[],low:=s.H.length}:aq).put (some R.aB) (.aU [.bool true,kv.1,kv.2])) (ai.put (some aB) (.tuple #[.bool true,e.key,e.val])) bG:=by
    rw[r2];exact Dj.reset.put mG (.aU _ _ (.cons _ _ _ _ (.p _ _ (.bool true)) (.cons _ _ _ _ Dl (.cons _ _ _ _ Dm .nil))))
   have fL:=j5 ({s with aG:=[],low:=s.H.length}:aq) (some R.aB) (.aU [.bool true,kv.1,kv.2]);have cZ:=oa a6.bM _ _ _ _ _ (by rw[fL.1,fL.2.1];exact aK _) hex;have ma:=j5 ({jo with aG:=[]}:aq) (some R.pair) (.aU [kv.1,kv.2]);have qN:jo.low<=jo.H.length:=cZ.bound (by rw[fL.1,fL.2.1];exact aK _);have vb:=oa a6.bM _ _ _ _ _ (by rw[ma.1,ma.2.1];exact qN) Dn;have yf:s2.low<=s2.H.length:=vb.bound (by rw[ma.1,ma.2.1];exact qN);obtain⟨Gw,Yu⟩:=Yo G2;have r6:=l4 a6.bM Gw _ _ _ _ (show({s2 with aG:=[]}:aq).low<=({s2 with aG:=[]}:aq).H.length from yf) Yu;have ae8:dL.low<=s2.low:=r6.1.low;have ae9:s2.low<=jo.low:=by have:=vb.1.low;rw[ma.2.1]at this;exact this
   refine wpIn_seq (AW bu a6 h1 hnd r0 te pG ys uV hex fun bl a2 fr gx iR rY=> ?_)
   have dY:qh C fid vars N base st.H.length l w.heap.size e0.b bE st G w (seen.push e.born) es (d++[kv.1]) bb {jo with aG:=[]} bl a2 fr:=by
    refine Dk.on jl gx.clear (fun m hm=> ?_) (by show st.H.length<jo.low;omega) ?_ ?_ ?_
    ·have:=iR m hm
     rw[fL.1]at this;exact this
    ·have:=cZ.1
     rw[fL.1,fL.2.1]at this;exact this
    ·exact cZ.2.trans fL.2.2
    ·have:=Dk.marks.ext (iR 0 (cx _))
     rw[rY];exact this
   have ad:=rX bu dY.rel (.tmp more) R.more r3;rw[r5]at ad;refine wpIn_seq (wpIn_cond_true ad.kz (wpIn_skip ?_));show(Code.block fN (.seq (.region i2 jn false) (.seq tJ (.cond (.tmp sZ) (.region Yp Jr false) .skip)))).wpIn (en ro) 0 C.P _ a2 fr;refine wpIn_block (wpIn_seq ?_)
   have Mw:a2.eval (.tmp it)=.pointer (some ⟨w.heap.size,0,none⟩):=by
    have:=dY.rel.env it;rw[show dC vars {jo with aG:=[]} it=bk jo.av it by unfold dC;rw[if_pos pO],Mu]at this;obtain⟨h5,ej,-,fl⟩:=this.n4;obtain⟨ft,j2,gz⟩:=dY.hi;rw[j2]at ej;cases ej;rw[gz]at fl;exact fl
   have Mx:(execOp a2.eval jm).run C.P fr=.ok (.value (.tuple #[e.key,e.val])) fr:=by
    have C5:=Ty (P:=C.P) dY.iter dY.map Ys.1 x9.2;unfold execOp;rw[r1];simp only[Mw,Sem.run_bind,C5,Result.andThen_ok,Sem.run_pure]
   have Dp:=iR 0 (cx _)
   have My:dy C fid vars N bl (({jo with aG:=[]}:aq).put (some R.pair) (.aU [kv.1,kv.2])) (a2.put (some pair) (.tuple #[e.key,e.val])) fr:=by
    rw[u6];exact dY.rel.put u5 (.aU _ _ (.cons _ _ _ _ (Dl.ext yu Dp) (.cons _ _ _ _ (Dm.ext yu Dp) .nil)))
   refine AW bu a6 h2 u3 u4 Az n3 Mx My Dn fun ji a3 AX yn uX C8=> ?_
   have mb:qh C fid vars N base st.H.length l w.heap.size e0.b bE st G w (seen.push e.born) es (d++[kv.1]) bb {s2 with aG:=[]} ji a3 AX:=by
    refine dY.on jl yn.clear (fun m hm=> ?_) (by show st.H.length<s2.low;omega) ?_ ?_ ?_
    ·have:=uX m hm
     rw[ma.1]at this;exact this
    ·have:=vb.1
     rw[ma.1,ma.2.1]at this;exact⟨this.len,cV this.low qN,this.same⟩
    ·exact vb.2.trans ma.2.2
    ·have:=dY.marks.ext (uX 0 (cx _))
     rw[C8];exact this
   refine wpIn_seq (qO (n:=Gw) cD bu a6 tJ _ _ _ oV _ _ _ Yu ji a3 AX ro base _ mb.rel ?_ mb.marks (cV hb (mb.ext 0 (cx _)).size) fun Dq a4 G3 F=> ?_)
   ·have kZ:({s2 with aG:=[]}:aq).ro=st.ro:=mb.bM.2
    rw[kZ];exact eJ.ext (mb.ext 0 (cx _))
   have tf:qh C fid vars N base st.H.length l w.heap.size e0.b bE st G w (seen.push e.born) es (d++[kv.1]) bb dL Dq a4 G3:=
    mb.on jl F.rel F.ext Ti ⟨r6.1.len,cV r6.1.low yf,r6.1.same⟩ r6.2 F.marks
   have Js:=rX bu tf.rel (.tmp sZ) D.c akY;rcases wH with⟨hc,yt⟩|⟨hc,jR,A4,atO,Yv,ak7,ak8,ak9,yt⟩
   ·rw[hc]at Js
    refine wpIn_cond_false Js.kz (wpIn_skip ?_);exact⟨d++[kv.1],seen.push e.born,es,bb,dL,Dq,yt,by omega,tf⟩
   ·rw[hc]at Js
    refine wpIn_cond_true Js.kz (wpIn_region ?_);have ala:Jr.size=Yq.length+1:=by rw[<-hB,O4];simp
    rw[ala,FH];have Yw:dL.low<=dL.H.length:=tf.rel.low;have Jt:=oa a6.bM _ _ _ _ _ (show({dL with aG:=[]}:aq).low<=({dL with aG:=[]}:aq).H.length from Yw) Yv;refine Me bu a6 (k0:=0) (fun j hj=>by rw[eO,<-auF,O4,gE hj]) akZ tf.rel.clear Yv fun alb a5 alc ald Yx ale=> ?_;have cW:Jr[0+Yq.length]? =some gW:=by rw[eO,<-auF,O4];simp
    have OV:qh C fid vars N base st.H.length l w.heap.size e0.b bE st G w (seen.push e.born) es (d++[kv.1]) bb jR alb a5 alc:=by
     refine tf.on jl ald Yx ak7 ⟨Jt.1.len,cV Jt.1.low Yw,Jt.1.same⟩ Jt.2 ?_;rw[ale];exact tf.marks.ext (Yx 0 (cx _))
    obtain⟨alf,alg,atP,alh,uY,ali⟩:=OV.del jl (vars':=vars) bu ak3 Yr ak2 iP ak4 ak8 ak9;rw[ub,wpOpsIn_cons];refine GZ cW ak1 (by rw[Yr];simp) alh ?_;rw[ak0];refine⟨d++[kv.1],seen.push e.born,alf,_,_,alg,yt,?_,ali⟩;have:=akV (seen:=seen.push e.born) uY;omega
 ·have gY:(h8 it st).H.length=st.H.length+1:=by unfold h8;simp
  have af:=b9 (st.H.length+1) (by show st.H.length+1<=(h8 it st).H.length;rw[gY];exact aK _);have dI:=qQ 0 st.H.length (aK _)
  have pF:(⟨ck G.β st.H.length ⟨w.heap.size,0,0,false⟩,G.I⟩:bX).β l=some e0:=by
   show ck G.β st.H.length ⟨w.heap.size,0,0,false⟩ l=some e0;rw[dp (by omega)];exact u9
  have x0:(⟨ck G.β st.H.length ⟨w.heap.size,0,0,false⟩,G.I⟩:bX).β st.H.length=some ⟨w.heap.size,0,0,false⟩:=de _ _ _;refine⟨[],#[],es,bb,h8 it st,G',u7,wh _,⟨⟨bA.rel,bA.env,bA.size,?_⟩,⟨⟨?_,jU _ _,fun x hx=> ?_⟩,rfl⟩,?_,fun m hm=> ?_,?_,?_,?_,?_,?_,?_,?_,fun p _ hp=>by simp at hp⟩⟩
  ·exact oZ.low
  ·show st.H.length<=(h8 it st).H.length
   omega
  ·have dW:x<min st.low l:=hx
   show(st.H++[cc.gone])[x]? =_;rw[gE (by omega)]
  ·omega
  ·exact(qQ m st.H.length (aK _)).trans ((b9 m (by show m<=(h8 it st).H.length;omega)).le (aK _) (by show st.H.length<=(h8 it st).H.length;omega))
  ·rw[eD]
   exact(eE.ext dI).ext af
  ·exact wP af x0 rfl
  ·exact wP af pF Mi
  ·show(st.H++[cc.gone])[st.H.length]? =_
   simp
  ·show(st.H++[cc.gone])[l]? =_
   rw[gE jl];exact nG
  ·have:=wO af oZ.rel x0 (wh _)
   rw[this];exact oQ _ _
  ·have:=wO af oZ.rel pF (by omega)
   rw[this,alloc_old (U.rel.blk _ _ u9)];exact fa
end
end Go.Abs
namespace Go.Abs
open Go
variable{C:Ctx}{fid:Nat->Nat}{w w':World}{G G':bX}{H H':Heap}
variable{vars:List Nat}{N:Nat}{aa:Nat->Option bY}
theorem c3.dx (cD:C.P.follows .mixedOrders=true)(bu:eZ C fid)(a6:gH C fid (bZ aa)){c:Code}{ac:cj}(hc:C.code vars N c=some ac){st aF:aq}{x:X}(he:Abs.dx aa ac st=some (x,aF)):
  c3 C fid vars N c st (fun y s=>y=x/\s=aF):=by
 obtain⟨n,hn⟩:=Yo he;exact c3.exec (n:=n) cD bu a6 hc hn
theorem c3.block{id:Nat}{c:Code}{st:aq}{Out:X->aq->Prop}(h:c3 C fid vars N c st (fun x s=>Out (AZ id x) s)):c3 C fid vars N (.block id c) st Out:=fun G a w ro base Q U eJ eE hb dz=>by
 refine wpIn_block (h G a w ro base _ U eJ eE hb fun x s ay ai aH ho ab F=> ?_);have:=dz _ _ ay ai aH ho ab F;cases x with
 |normal=>exact this
 |ret=>exact this
 |exit j=>
  simp only[AZ]at this;cases hb:Nat.beq j id with
  |true=>
   rw[hb]at this;have e:=e8 hb;subst e;simp only[AK,Exit.inBlock,if_true];exact this
  |false=>
   rw[hb]at this;have e:¬j=id:=fun e=>by rw[e,zX]at hb;cases hb
   simp only[AK,Exit.inBlock,e,if_false];exact this
theorem c3.loop{c:Code}{st:aq}{Out:X->aq->Prop}(I:Nat->aq->Prop)(k:Nat)(h0:I k st)(h:∀k s,I k s->c3 C fid vars N c s (fun x al=>(x=.normal/\∃j,k=j+1/\I j al)\/(x≠ .normal/\Out x al))):c3 C fid vars N (.loop c) st Out:=fun G a w ro base Q U eJ eE hb dz=>by
 refine GN (fun k ai aH=>∃j s ay,k=j+1/\I j s/\gb st s/\Fin C fid vars N base st G w s ay ai aH) ?_ (j:=k+1) ⟨k,st,G,rfl,h0,.refl _,.refl U eE⟩;rintro _ ai aH ⟨k,s,ay,rfl,aW,ab,F⟩;refine⟨k,rfl,?_⟩;refine h k s aW ay ai aH ro base _ F.rel (by rw[ab.2];exact eJ.ext (F.ext 0 (cx _))) F.marks (cV hb (F.ext 0 (cx _)).size) fun x s2 bl a2 bG ho yy ta=> ?_;rcases ho with⟨rfl,j,hj,alj⟩|⟨hx,ho⟩
 ·exact⟨j,s2,bl,hj,alj,ab.trans yy,F.trans ta ab yy⟩
 ·have:=dz x s2 bl a2 bG ho (ab.trans yy) (F.trans ta ab yy)
  cases x with
  |normal=>exact absurd rfl hx
  |exit id=>exact this
  |ret=>exact this
def O5:Go.Op->Option (Operand × Operand × TypeId × TypeId)
 | .call ⟨.builtin .delete,⟨[m,k]⟩,⟨[t,u]⟩⟩=>some (m,k,t,u)
 | _=>none
theorem alk{o:Go.Op}{m k:Operand}{t u:TypeId}(h:O5 o=some (m,k,t,u)):o=.call {callee:=.builtin .delete,args:= #[m,k],argTypes:= #[t,u]}:=by
 unfold O5 at h;split at h
 ·cases h;rfl
 ·cases h
def BK (C:Ctx)(vars:List Nat)(N:Nat):Code->Option zs
 | .seq tJ (.cond (.tmp x) (.region _ ops false) .skip)=>match yz ops.toList with
   |some (os,⟨none,gW,_,_,_,none⟩)=>match O5 gW with
    |some (m,k,t,_)=>match C.code vars N tJ,C.b3 vars (.tmp x),dH (C.oper vars N ops) os,C.b3 vars m,C.b3 vars k,C.P.underlying t with
     |some dm,some c,some E1,some am,some gX,some (.map ei _)=>(C.jd ei).map fun bK=>⟨dm,c,E1,am,gX,bK⟩
     | _,_,_,_,_,_=>none
    | _=>none
   | _=>none
 | _=>none
theorem alm{body:Code}{D:zs}(h:BK C vars N body=some D):Yn C vars N body D:=by
 unfold BK at h;split at h
 ·rename_i tJ x id ops
  split at h
  ·rename_i os gW ty ps lS dI
   split at h
   ·rename_i m k t u hd
    split at h
    ·rename_i dm c E1 am gX ei rO af e2 bT cF ej j2
     obtain⟨bK,gp,rfl⟩:=ct.1 h;exact⟨tJ,x,id,ops,os,_,m,k,t,ei,rO,u,rfl,af,e2,MA dI,bT,alk hd,rfl,rfl,cF,ej,j2,gp⟩
    ·cases h
   ·cases h
  ·cases h
 ·cases h
def Ju:Code->Code
 | .seq (.region _ _ false) (.block _ (.loop (.seq (.region _ _ false) (.seq (.cond (.tmp _) .skip (.exit _)) (.block _ (.seq (.region _ _ false) body))))))=>body
 | _=>.skip
theorem c3.aln (cD:C.P.follows .mixedOrders=true)(bu:eZ C fid)(a6:gH C fid (bZ aa)){c:Code}{R:fc}{D:zs}(hr:yA C vars N c=some R)(hd:BK C vars N (Ju c)=some D){iS st:aq}{wr:List Bool}(he:cQ (bZ aa) R.t0 {iS with aG:=[]} []=some (st,wr))
  {l:Nat} {bb:List (V × V)} (oh:R.src.ae st.aG st.av=.map l) (nG:st.H[l]? =some (.map bb)) (Inv:List V->List (V × V)->aq->Prop) (Out:List (V × V)->aq->Prop)
  (u7:Inv [] bb (h8 R.it st)) (r4:∀d es s,Inv d es s->bk s.av R.it=.ptr st.H.length 0)
  (o4:∀d es s,Inv d es s->∀kv∈es,O3 R D aa l st.H.length es kv s (fun bD al=>Inv (d++[kv.1]) bD al))
  (iF:∀d es s,Inv d es s->(∀kv∈es,kv.1∈d)->∃al,R.fin (bZ aa) s=some al/\st.H.length<al.low/\Out es al):
  c3 C fid vars N c iS (fun x s=>x=.normal/\∃es al,Out es al/\s={al with low:=min st.low l}):=fun G a w ro base Q U eJ eE hb dz=>by
 obtain⟨i0,i1,i2,gQ,on,jm,j8,j9,jn,o5,nE,nF,mt,aB,more,pair,out,tm,qR,qS,body,rfl,h0,oY,uZ,rZ,u0,u1,hit,u2,h1,pN,hnd,r0,mG,h2,r1,u3,u4,u5,pO,r2,u6,pG,n3,r3,wQ⟩:=(TH hr).ok;have cZ:=oa a6.bM _ _ _ _ _ (show({iS with aG:=[]}:aq).low<=({iS with aG:=[]}:aq).H.length from U.low) he;have yx:gb iS st:=cZ;have dJ:j8.size=o5.length+1:=by rw[<-hB,h0];simp
 refine wpIn_seq (wpIn_region ?_);rw[dJ,FH];refine Me bu a6 (k0:=0) (fun j hj=>by rw[eO,<-auF,h0,gE hj]) oY U.clear he fun ay ai aH bA b9 eD=> ?_;have dI:=b9 0 (cx _);have cW:j8[0+o5.length]? =some gQ:=by rw[eO,<-auF,h0];simp
 have Dr:kF C ay aH base ai.defers:=by rw[eD];exact eE.ext dI
 rw[ub,wpOpsIn_cons]
 exact akX (aa:=aa) cD bu a6 cW uZ rZ u0 u1 hit u2 h1 pN hnd r0 mG h2 r1 u3 u4 u5 pO r2 u6 pG n3 r3 (alm hd) rfl oh nG Inv Out u7 r4 o4 iF bA (by rw[yx.2];exact eJ.ext dI) Dr (cV hb dI.size)
  fun es al G' a7 w' ho ab F=>dz .normal _ G' a7 w' ⟨rfl,es,al,ho,rfl⟩ (yx.trans ab) (Fin.trans (st:=iS) (b4:=st) ⟨bA,b9,Dr⟩ F yx ab)
end Go.Abs
namespace Go.Abs
open Go
section
variable{aa:Nat->Option bY}{b:Nat}{σ:bV}{H:Heap}{av:Env}{R:fc}
theorem Yy{e:V}{Q:bV->Heap->Prop}(h:Op aa b R.t1 (fV mL (some R.aB) e) (fW σ (some R.aB) e) H [] (fun aN H' _=>Q aN H'))(hs:Fits av σ)(hb:b<=H.length):
  ∃dD H' low' aN,R.step (bZ aa) e ⟨[],av,H,H.length,none⟩=some ⟨[],dD,H',low',none⟩/\Fits dD aN/\b<=low'/\b<=H'.length/\Q aN H':=by
 obtain⟨nJ,lC,af,e2,bT⟩:=yG sb hs H H.length (some R.aB) e;obtain⟨mM,dD,H',low',e6,aN,q1,aS,b1,cL,et⟩:=h nJ lC H.length e2 bT hb hb;refine⟨dD,H',low',aN,?_,aS,b1,cL,et⟩;unfold fc.step;rw[af,q1]
theorem alo{Q:bV->Heap->Prop}(h:Op aa b R.t1 (fV mL (some R.aB) (.aU [.bool false])) (fW σ (some R.aB) (.aU [.bool false])) H [] (fun aN H' _=>bN mL aN R.more=.bool false/\Q aN H'))(hs:Fits av σ)(hb:b<=H.length){low:Nat}:
  ∃dD H' low' aN,R.fin (bZ aa) ⟨[],av,H,low,none⟩=some ⟨[],dD,H',low',none⟩/\Fits dD aN/\b<=low'/\b<=H'.length/\Q aN H':=by
 obtain⟨dD,H',low',aN,q1,aS,b1,cL,et,gz⟩:=Yy h hs hb;refine⟨dD,H',low',aN,?_,aS,b1,cL,gz⟩;unfold fc.fin;simp only[q1];rw[vf sb aS,et]
theorem alp{kv:V × V}{Q:bV->Heap->Prop}{li:Nat}(hit:σ R.it=.ptr li 0)
  (h:Op aa b R.t1 (fV mL (some R.aB) (.aU [.bool true,kv.1,kv.2])) (fW σ (some R.aB) (.aU [.bool true,kv.1,kv.2])) H [] (fun c1 H1 _=>bN mL c1 R.more=.bool true/\c1 R.it=.ptr li 0/\
    Op aa b R.t2 (fV mL (some R.pair) (.aU [kv.1,kv.2])) (fW c1 (some R.pair) (.aU [kv.1,kv.2])) H1 [] (fun js H2 _=>Q js H2))) (hs:Fits av σ) (hb:b<=H.length) {low:Nat}:
  ∃dD H' low' aN,R.BI (bZ aa) kv ⟨[],av,H,low,none⟩=some ⟨[],dD,H',low',none⟩/\Fits dD aN/\b<=low'/\b<=H'.length/\Q aN H':=by
 obtain⟨lC,H1,bI,c1,q1,aS,b1,cL,et,gz,jI⟩:=Yy h hs hb;obtain⟨HB,wZ,af,e2,bT⟩:=yG sb aS H1 bI (some R.pair) (.aU [kv.1,kv.2]);obtain⟨mM,dD,H',low',e6,aN,bA,b9,eD,gx,iR⟩:=jI HB wZ bI e2 bT b1 cL;refine⟨dD,H',low',aN,?_,b9,eD,gx,iR⟩;unfold fc.BI;simp only[q1];rw[vf sb aS,et];have e:dP (bk lC R.it) (bk av R.it)=true:=by rw[aS,hs,gz,hit];simp[dP]
 simp only[e,if_true,af,bA]
end
section
variable{C:Ctx}{fid:Nat->Nat}{vars:List Nat}{N:Nat}{aa:Nat->Option bY}
theorem c3.zt (cD:C.P.follows .mixedOrders=true)(bu:eZ C fid)(a6:gH C fid (bZ aa)){a d:Code}{A B:cj}(hc:C.code vars N a=some A){st al:aq}{x:X}{Out:X->aq->Prop}(he:Abs.dx aa (.seq A B) st=some (x,al))
  (k:∀s,Abs.dx aa B s=some (x,al)->c3 C fid vars N d s Out) (ee:x≠ .normal->Out x al):c3 C fid vars N (.seq a d) st Out:=by
 rw[gn]at he;cases hA:Abs.dx aa A st with
 |none=>rw[hA]at he;cases he
 |some p=>
  obtain⟨y,s⟩:=p;rw[hA]at he;refine c3.seq (c3.dx cD bu a6 hc hA) (fun s1 h1=> ?_) fun nd s1 hy h1=> ?_
  ·obtain⟨af,rfl⟩:=h1
   subst af;exact k s1 he
  ·obtain⟨rfl,rfl⟩:=h1
   cases nd with
   |normal=>exact absurd rfl hy
   |exit i=>cases he;exact ee (by simp)
   |ret=>cases he;exact ee (by simp)
end
end Go.Abs
