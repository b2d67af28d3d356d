/- Texts of this claim, joined and written short by a program. -/
import Derived.Test.YtdoflpjbdlgciaaGreatDoorP10
import Derived.Test.YtdoflpjbdlgciaaGreatDoorP09
import Derived.Test.YtdoflpjbdlgciaaGreatDoorP19
import Derived.Test.YtdoflpjbdlgciaaGreatDoorP00
set_option linter.unusedVariables false
set_option linter.unusedSimpArgs false
set_option linter.unusedSectionVars false
namespace Go.Abs.bZ
open Go Go.Abs Go.Abs.S
def ar4:b8:=q (R [r 22 (k7 3 Xg v20),r 23 (ls 3 t22),o 4 (.alloc [z,z,z]),n (st 3 v4 t23)]) (q (q (R [r 24 (dA 0 v4),r 25 (ck t24),r 26 (dA 0 v1),r 27 (dA 1 t26),r 28 (ck t27),r 29 (iK 1 t28),r 30 (gX (fn 120) [t25,t29]),r 31 (no t30),r 32 (m t31),rg 33 t32 false (dA 2 v4),rg 34 t32 false (ck t33),rg 35 t32 false (dA 0 v1),rg 36 t32 false (dA 1 t35),rg 37 t32 false (ck t36),rg 38 t32 false (iK 1 t37),rg 39 t32 false (gX (fn 120) [t34,t38]),rg 40 t32 false (no t39),r 41 (j1 t32 km t40),r 42 (m t41),rg 43 t42 false (dA 0 v4),rg 44 t42 false (ck t43),rg 45 t42 false (dA 2 v4),rg 46 t42 false (ck t45),rg 47 t42 false (eq t44 t46),o 48 (j1 t42 km t47)]) (iL ak2 (q (R [o 2 (m k6)]) rt) k)) (q (p7 [r 49 (dA 0 v1),r 50 (dA 1 t49),r 51 (ck t50),r 52 (dA 0 v4),r 53 (ck t52),r 54 (k7 6 t51 t53),r 55 (ls 6 t54),r 56 (dA 0 v1),r 57 (dA 1 t56),r 58 (ck t57),r 59 (dA 2 v4),r 60 (ck t59),r 61 (k7 6 t58 t60),r 62 (ls 6 t61),o 5 (.alloc [mn,z,nl,z,z,z]),o 6 (.alloc [mn,z,nl,z,z,z]),n (st 6 v5 t55),n (st 6 v6 t62)] [0,1,3,0,8,31,63,0,128,384,0,1024,3968,8064,0,0,49279,131071]) (q (p7 [r 63 (dA 1 v5),r 64 (ck t63),r 65 (ne t64 (c 0)),r 66 (m t65),rg 67 t66 false (dA 1 v6),rg 68 t66 false (ck t67),rg 69 t66 false (ne t68 (c 0)),r 70 (j1 t66 km t69),r 71 (m t70),rg 72 t71 false (dA 1 v4),rg 73 t71 false (ck t72),rg 74 t71 false (dA 2 v5),rg 75 t71 false (ck t74),rg 76 t71 false (iK 1 t75),rg 77 t71 false (gX (fn 120) [t73,t76]),rg 78 t71 false (no t77),r 79 (j1 t71 km t78),r 80 (m t79),rg 81 t80 false (dA 2 v6),rg 82 t80 false (ck t81),rg 83 t80 false (iK 1 t82),rg 84 t80 false (ne t83 (c 1)),r 85 (j1 t80 km t84),r 86 (m t85),rg 87 t86 false (dA 2 v6),rg 88 t86 false (ck t87),rg 89 t86 false (k7 1 t88 (c 0)),rg 90 t86 false (ck t89),rg 91 t86 false (dA 2 v5),rg 92 t86 false (ck t91),rg 93 t86 false (dA 1 v4),rg 94 t86 false (ck t93),rg 95 t86 false (k7 1 t92 t94),rg 96 t86 false (ck t95),rg 97 t86 false (ne t90 t96),o 98 (j1 t86 km t97)] [0,1,3,7,15,31,63,127,255,511,1023,511,2559,6655,16383,32767,65535,131071,262143,524287,1048575,2097151,4194303,8388607,16777215,33554431,67108863,134217727,16777215,285212671,16777215,1090519039,4043309055,8338276351,17179869183,34359738367]) (iL ak4 (q (R [o 2 (m k6)]) rt) k))))
def ar5:b8:=q (R [r 107 (k7 3 Xh v105),r 108 (ls 3 t107),o 9 (.alloc [z,z,z]),n (st 3 v9 t108)]) (R [r 109 (ck ly),r 110 (dA 0 v9),r 111 (ck t110),n (.qt 0 t109 t111 km)])
def ar6:b8:=q (R [r 121 (.fail),o 122 (ex t121 0)]) (q (iL ak5 k (e 6)) (cy 7 (q (R [r 123 (.fail),r 124 (ex t123 0),o 10 (.alloc [z]),n (st 1 v10 t124)]) (q (R [r 125 (dA 0 v1),r 126 (dA 6 t125),r 127 (ck t126),r 128 (.tB 129 [] [v10,ly]),r 129 (gX (fn 128) [t127,t128]),o 130 (no t129)]) (iL v130 (R [r 131 (ck ly),r 132 (ck v10),n (.yz 0 t131 t132)]) k)))))
def ar7:b8:=q (R [r 119 (ck ly),o 120 (.fail)]) (cy 6 (.loop ar6))
def AG:hh:=⟨137,q (R [o 1 (jr v0),o 2 (m k6)]) (q (q (R [r 11 (dA 0 v1),r 12 (dA 6 t11),r 13 (ck t12),r 14 (iK 1 t13),o 15 (gt t14 (c 12))]) (iL akU (q (R [o 2 (m k6)]) rt) k)) (q (q (R [r 16 (dA 0 v1),r 17 (dA 6 t16),o 18 (ck t17),o 19 (iK 1 Xg),o 20 (m (c 0))]) (cy 0 (.loop (vU 21 19 20 99 1 0 ar4)))) (q (R [r 100 (.mkMap),o 7 (.alloc [.h7]),n (st 1 ly t100)]) (q (q (R [r 101 (dA 0 v1),r 102 (dA 6 t101),o 103 (ck t102),o 104 (iK 1 Xh),o 105 (m (c 0))]) (cy 2 (.loop (vU 106 104 105 112 3 2 ar5)))) (q (q (R [r 113 (dA 0 v1),r 114 (dA 6 t113),r 115 (ck t114),o 116 (iK 1 t115),o 117 (m (c 0))]) (cy 4 (.loop (vU 118 116 117 133 5 4 ar7)))) (q (R [r 134 (ck ly),r 135 (iK 2 t134),r 136 (eq t135 (c 0)),o 2 (m t136)]) rt)))))),[.tmp 2],false⟩
def Hm:b8:=R [o 3 (.alloc [z,z,z,z]),n (st 4 v3 Xe)]
def Hn:b8:=cy 1 (q (q (R [r 14 (dA 2 v3),r 15 (ck t14),r 16 (ne t15 (c 0)),r 17 (m t16),rg 18 t17 false (dA 3 v3),rg 19 t17 false (ck t18),rg 20 t17 false (ck v1),rg 21 t17 false (iK 0 t20),rg 22 t17 false (ne t19 t21),o 23 (j1 t17 km t22)]) (iL akV (e 0) k)) (q (R [r 24 (dA 0 v3),r 25 (ck t24),n (st 1 v2 t25)]) rt))
def Ho:hh:=⟨26,q (R [o 1 (jr v0),o 2 (.alloc [z])]) (q (q (R [r 4 (ck v1),r 5 (eq t4 (cs [])),r 6 (m t5),rg 7 t6 false (ck v1),rg 8 t6 false (iK 0 t7),rg 9 t6 false (gt t8 (c 4096)),o 10 (j1 t6 km t9)]) (iL v10 (q (R [n (st 1 v2 (c 0))]) rt) k)) (q (q (R [r 11 (ck v1),o 12 (gX (fn 251) [t11])]) (cy 0 (.rangeFunc v12 [13] Hm Hn))) (q (R [n (st 1 v2 (c 0))]) rt))),[.cell 2 none],false⟩
def adD:hh:=⟨6,q (R [o 1 (jr v0),o 2 (m (.const (.kA)))]) (q (R [r 4 (gX (fn 356) []),o 3 (.alloc [.h7]),n (st 1 v3 t4)]) (q (R [r 5 (.tB 357 [] [v1,v3]),o 2 (m t5)]) rt)),[.tmp 2],false⟩
def Hp:b8:=q (q (R [r 34 (m tX),r 35 (m ly),r 36 (iK 1 t35),o 37 (lt t34 t36)]) (iL v37 k (e 0))) (cy 1 (p7 [r 38 (m tX),r 39 (m ly),r 40 (m tX),r 41 (.tC 2 t39 (some t40) none none),r 42 (m ly),r 43 (m tX),r 44 (.tC 2 t42 none (some t43) none),r 45 (.copy 2 t41 t44),r 46 (dh t38 t45),o 8 (m t46)] [0,0,0,6,0,0,48,126,255,511]))
def adE:hh:=⟨48,q (R [o 4 (m tY)]) (q (q (R [r 9 (m v1),o 10 (lt t9 (c 0))]) (iL v10 (R [r 11 (.Bl 9 (cs [99,97,110,110,111,116,32,98,101,32,110,101,103,97,116,105,118,101])),n (.fail)]) k)) (q (R [r 13 (m v0),r 14 (iK 1 t13),r 15 (.conv .u64 t14),r 16 (m v1),r 17 (.conv .u64 t16),r 18 (gX (fn 235) [t15,t17]),r 12 (m t18),r 19 (ex t12 0),r 20 (ex t12 1),o 5 (m t19),o 6 (m t20)]) (q (q (R [r 21 (m v5),r 22 (gt t21 (.const (.int .u64 0))),r 23 (m t22),rg 24 t23 false (m v6),rg 25 t23 false (gt t24 (.const (.int .u64 9223372036854775807))),o 26 (j1 t23 km t25)]) (iL akX (R [r 27 (.Bl 9 (cs [116,104,101,32,114,101,115,117,108,116,32,111,102,32,40,108,101,110,40,120,41,32,42,32,99,111,117,110,116,41,32,111,118,101,114,102,108,111,119,115])),n (.fail)]) k)) (q (R [r 28 (m v6),r 29 (.conv .i64 t28),r 30 (.mkSlice 2 [z,z] 16 t29 t29),o 7 (m t30)]) (q (R [r 31 (m ly),r 32 (m v0),r 33 (.copy 2 t31 t32),o 8 (m t33)]) (q (cy 0 (.loop Hp)) (q (R [r 47 (m ly),o 4 (m t47)]) rt))))))),[.tmp 4],false⟩
def Dj:hh:=⟨15,q (R [o 3 (jr v0),o 4 (m k6)]) (q (R [r 5 (dA 0 v3),r 6 (ck t5),r 7 (ck v1),r 8 (eq t6 t7),r 9 (m t8),rg 10 t9 true (ck v2),rg 11 t9 true (dA 2 v3),rg 12 t9 true (ck t11),rg 13 t9 true (.lookup 0 (.bool false) t10 t12 false),r 14 (j1 t9 t13 k6),o 4 (m t14)]) rt),[.tmp 4],false⟩
def Si:b8:=q (R [r 9 (k7 1 v5 ly),r 10 (ck t9),o 3 (m t10)]) (R [r 11 (m v1),r 12 (m v3),n (.qt 1 t11 t12 km)])
def adF:hh:=⟨15,q (R [o 0 (m (.const (.h7)))]) (q (R [r 4 (.mkMap),o 1 (m t4)]) (q (q (R [o 5 (gX (fn 424) [(cs [115,111,114,116,32,114,101,108,97,116,105,111,110,32,99,111,117,110,116,101,114,32,115,101,116,32,114,101,103,105,115,116,101,114,32,105,110,118,97,114,105,97,110,116,32,111,112,101,114,97,116,105,111,110,32,107,101,121,32,114,101,102,101,114,101,110,99,101,32,116,111,32,99,111,117,110,116,32,97,99,121,99,108,105,99,32,97,108,108,32,115,117,109,32,105,110,32,97,100,100,119,105,110,115,32,114,101,109,111,118,101,119,105,110,115,32,108,97,115,116,32,109,117,108,116,105,32,104,105,100,101,32,111,114,100,101,114,101,100,32,114,101,113,117,105,114,101,32,104,111,108,100,32,105,110,115,101,114,116,32,100,101,108,101,116,101,32,97,100,100,32,102,114,111,109,32,112,117,116,32,100,114,111,112,32,97,115,115,105,103,110,32,102,111,114,32,119,104,101,114,101,32,97,110,100,32,111,114,32,110,111,116])]),o 6 (iK 1 v5),o 7 (m (c 0))]) (cy 0 (.loop (vU 8 6 7 13 1 0 Si)))) (q (R [r 14 (m v1),o 0 (m t14)]) rt))),[.tmp 0],false⟩
def x3:b8:=q (q (R [r 21 (m ly),r 22 (m v6),r 23 (iK 0 t22),r 24 (lt t21 t23),r 25 (m t24),rg 26 t25 true (m v6),rg 27 t25 true (m ly),rg 28 t25 true (.rn t26 t27),rg 29 t25 true (gX (fn 364) [t28]),rg 30 t25 true (no t29),r 31 (j1 t25 t30 k6),r 32 (m t31),rg 33 t32 true (m v6),rg 34 t32 true (m ly),rg 35 t32 true (.rn t33 t34),rg 36 t32 true (ne t35 (.const (.int .u8 35))),r 37 (j1 t32 t36 k6),r 38 (m t37),rg 39 t38 true (m v6),rg 40 t38 true (m ly),rg 41 t38 true (.qs t39 (some t40) none),rg 42 t38 true (gX (fn 365) [t41]),rg 43 t38 true (no t42),o 44 (j1 t38 t43 k6)]) (iL ak1 k (e 3))) (q (cy 4 k) (R [r 45 (m ly),r 46 (dh t45 (c 1)),o 7 (m t46)]))
def wQ:b8:=.seq (.region [⟨some (48,false),.mv (.var 6),none⟩,⟨some (49,false),.bin .eql (.tmp 48) (.const (.str [])),none⟩,⟨some (47,true),.mv (.tmp 49),none⟩] none) (.cond (.var 47) (.skip) (.seq (.region [⟨some (51,false),.mv (.var 6),none⟩,⟨some (52,false),.rn (.tmp 51) (.const (.int .i64 0)),none⟩,⟨some (53,false),.call false (.func 359) [(.tmp 52)],none⟩,⟨some (50,true),.mv (.tmp 53),none⟩] none) (.cond (.var 50) (.seq (.region [⟨some (54,false),.mv (.var 6),none⟩,⟨some (55,false),.call false (.func 360) [(.tmp 54),(.func 361)],none⟩,⟨some (7,true),.mv (.tmp 55),none⟩,⟨some (56,false),.fieldAddr 0 (.var 5),none⟩,⟨none,.store 1 (.tmp 56) (.const (.int .i64 1)),none⟩] none) (.seq (.region [⟨some (57,false),.load none (.var 2),none⟩,⟨some (58,false),.mv (.var 6),none⟩,⟨some (59,false),.mv (.var 7),none⟩,⟨some (60,false),.qs (.tmp 58) none (some (.tmp 59)),none⟩,⟨some (61,true),.lookup 1 (.bool false) (.tmp 57) (.tmp 60) false,none⟩] (some [0,0,0,6,15])) (.cond (.var 61) (.region [⟨some (62,false),.fieldAddr 0 (.var 5),none⟩,⟨none,.store 1 (.tmp 62) (.const (.int .i64 2)),none⟩] none) (.skip)))) (.seq (.region [⟨some (64,false),.mv (.var 6),none⟩,⟨some (65,false),.rn (.tmp 64) (.const (.int .i64 0)),none⟩,⟨some (66,false),.call false (.func 362) [(.tmp 65)],none⟩,⟨some (63,true),.mv (.tmp 66),none⟩] none) (.cond (.var 63) (.region [⟨some (67,false),.mv (.var 6),none⟩,⟨some (68,false),.call false (.func 360) [(.tmp 67),(.func 362)],none⟩,⟨some (7,true),.mv (.tmp 68),none⟩,⟨some (69,false),.fieldAddr 0 (.var 5),none⟩,⟨none,.store 1 (.tmp 69) (.const (.int .i64 3)),none⟩] none) (.seq (.region [⟨some (71,false),.mv (.var 6),none⟩,⟨some (72,false),.call false (.func 363) [(.tmp 71)],none⟩,⟨some (73,false),.bin .gtr (.tmp 72) (.const (.int .i64 0)),none⟩,⟨some (70,true),.mv (.tmp 73),none⟩] none) (.cond (.var 70) (.region [⟨some (74,false),.mv (.var 6),none⟩,⟨some (75,false),.call false (.func 363) [(.tmp 74)],none⟩,⟨some (7,true),.mv (.tmp 75),none⟩,⟨some (76,false),.fieldAddr 0 (.var 5),none⟩,⟨none,.store 1 (.tmp 76) (.const (.int .i64 4)),none⟩] none) (.seq (.region [⟨some (20,false),.fieldAddr 0 (.var 5),none⟩,⟨none,.store 1 (.tmp 20) (.const (.int .i64 5)),none⟩] none) (.seq (.region [⟨some (7,true),.mv (.const (.int .i64 1)),none⟩] none) (.block 3 (.loop x3)))))))))))
def Md:b8:=.region [⟨some (8,false),.mv (.var 4),none⟩,⟨some (9,false),.mv (.var 4),none⟩,⟨some (10,false),.load none (.var 1),none⟩,⟨some (11,false),.mv (.var 4),none⟩,⟨some (12,false),.qs (.tmp 10) (some (.tmp 11)) none,none⟩,⟨some (13,false),.call false (.func 358) [(.tmp 12)],none⟩,⟨some (14,false),.bin .add (.tmp 9) (.tmp 13),none⟩,⟨some (15,false),.build [.int .i64 0,.int .i64 0,.int .i64 0,.int .i64 0] [(1,1,(.tmp 8)),(2,1,(.tmp 14))],none⟩,⟨some (5,true),.alloc [.int .i64 0,.int .i64 0,.int .i64 0,.int .i64 0],none⟩,⟨none,.store 4 (.var 5) (.tmp 15),none⟩] none
def Me:b8:=.region [⟨some (16,false),.load none (.var 1),none⟩,⟨some (17,false),.fieldAddr 2 (.var 5),none⟩,⟨some (18,false),.load none (.tmp 17),none⟩,⟨some (19,false),.qs (.tmp 16) (some (.tmp 18)) none,none⟩,⟨some (6,true),.mv (.tmp 19),none⟩] none
def Mf:b8:=.region [⟨some (7,true),.mv (.const (.int .i64 0)),none⟩] none
def Dk:b8:=.seq (.region [⟨some (77,false),.fieldAddr 2 (.var 5),none⟩,⟨some (78,false),.load none (.tmp 77),none⟩,⟨some (79,false),.mv (.var 7),none⟩,⟨some (80,false),.bin .add (.tmp 78) (.tmp 79),none⟩,⟨some (81,false),.fieldAddr 3 (.var 5),none⟩,⟨none,.store 1 (.tmp 81) (.tmp 80),none⟩] none) (.seq (.region [⟨some (82,false),.fieldAddr 3 (.var 5),none⟩,⟨some (83,false),.load none (.tmp 82),none⟩,⟨some (4,true),.mv (.tmp 83),none⟩] none) (.seq (.region [⟨some (84,false),.mv (.var 0),none⟩,⟨some (85,false),.load (some 4) (.var 5),none⟩,⟨some (86,false),.call false (.tmp 84) [(.tmp 85)],none⟩,⟨some (87,false),.un .not (.tmp 86),none⟩,⟨some (88,false),.mv (.tmp 87),none⟩,⟨some (89,false),.fieldAddr 0 (.var 5),some ((.tmp 88),false)⟩,⟨some (90,false),.load none (.tmp 89),some ((.tmp 88),false)⟩,⟨some (91,false),.bin .eql (.tmp 90) (.const (.int .i64 0)),some ((.tmp 88),false)⟩,⟨some (92,true),.pick (.tmp 88) (.const (.bool true)) (.tmp 91),none⟩] none) (.cond (.var 92) (.ret) (.skip))))
def Mg:b8:=cy 1 (q Md (q Me (q Mf (q (cy 2 wQ) Dk))))
def adG:hh:=⟨93,q (R [o 4 (m (c 0))]) (cy 0 (.loop Mg)),[],false⟩
def adH:hh:=⟨30,q (R [o 4 (m (.const (.int .u64 0))),o 5 (m (.const (.int .u64 0)))]) (q (iL k6 (q (R [r 11 (m v0),r 12 (.conv .u32 t11),r 13 (m v1),r 14 (.conv .u32 t13),r 15 (gX (fn 345) [t12,t14]),r 10 (m t15),r 16 (ex t10 0),r 17 (ex t10 1),o 6 (m t16),o 7 (m t17)]) (q (R [r 18 (m v6),r 19 (.conv .u64 t18),r 20 (m ly),r 21 (.conv .u64 t20),o 4 (m t19),o 5 (m t21)]) rt)) k) (q (R [r 23 (m v0),r 24 (m v1),r 25 (gX (fn 346) [t23,t24]),r 22 (m t25),r 26 (ex t22 0),r 27 (ex t22 1),o 8 (m t26),o 9 (m t27)]) (q (R [r 28 (m tX),r 29 (m v9),o 4 (m t28),o 5 (m t29)]) rt))),[.tmp 4,.tmp 5],false⟩
def adI:hh:=⟨51,q (R [o 4 (m (.const (.int .u64 0))),o 5 (m (.const (.int .u64 0)))]) (q (R [r 14 (m v0),r 15 (.bin .and t14 (.const (.int .u64 4294967295))),o 6 (m t15)]) (q (R [r 16 (m v0),r 17 (.bin .shr t16 (.const (.int .u64 32))),o 7 (m t17)]) (q (R [r 18 (m v1),r 19 (.bin .and t18 (.const (.int .u64 4294967295))),o 8 (m t19)]) (q (R [r 20 (m v1),r 21 (.bin .shr t20 (.const (.int .u64 32))),o 9 (m t21)]) (q (R [r 22 (m v6),r 23 (m tX),r 24 (.bin .mul t22 t23),o 10 (m t24)]) (q (R [r 25 (m ly),r 26 (m tX),r 27 (.bin .mul t25 t26),r 28 (m v10),r 29 (.bin .shr t28 (.const (.int .u64 32))),r 30 (dh t27 t29),o 11 (m t30)]) (q (R [r 31 (m v11),r 32 (.bin .and t31 (.const (.int .u64 4294967295))),o 12 (m t32)]) (q (R [r 33 (m v11),r 34 (.bin .shr t33 (.const (.int .u64 32))),o 13 (m t34)]) (q (R [r 35 (m v12),r 36 (m v6),r 37 (m v9),r 38 (.bin .mul t36 t37),r 39 (dh t35 t38),o 12 (m t39)]) (q (R [r 40 (m ly),r 41 (m v9),r 42 (.bin .mul t40 t41),r 43 (m Xe),r 44 (dh t42 t43),r 45 (m v12),r 46 (.bin .shr t45 (.const (.int .u64 32))),r 47 (dh t44 t46),o 4 (m t47)]) (q (R [r 48 (m v0),r 49 (m v1),r 50 (.bin .mul t48 t49),o 5 (m t50)]) rt))))))))))),[.tmp 4,.tmp 5],false⟩
end Go.Abs.bZ
namespace Go.Abs
open Go
variable{C:Ctx}{fid:Nat->Nat}{w w':World}{G G':cc}{H H':Heap}
theorem ar8 (cR:C.P.follows .mixedOrders=true)(bF:fp C fid){ad:Nat->Option cb}(hT:dr C fid ad):hB C fid (cl ad):=
 ⟨Qg ad,fun aa ae ao he=>by
  obtain⟨n,hn⟩:=sq.1 he;exact(E0 cR bF hT n).run aa ae ao hn⟩
theorem adJ{k:TypeId}{b1:Nat}{d:TypeDesc}(ah:C.jP k=some b1)(hd:C.P.underlying k=some d){a:V}{x:Value}(ao:bq fid G w a x):∀{bs:List (V × V)} {es:List MapEntry} (i:Nat) {r:V} {j:Nat} {z:Value},
  bk fid G w (bs.map (·.1)) (es.map (·.key))->bk fid G w (bs.map (·.2)) (es.map (·.val))->iu b1 a bs=some (some r)->Instr.findNow d x es i=some (some (i+j,z))->ja b1 a bs=bs.eraseIdx j
 |[],[],i,r,j,z,_,_,h,_=>by simp[iu]at h
 |[],_::_,_,_,_,_,h,_,_,_=>by simp at h;cases h
 | _::_,[],_,_,_,_,h,_,_,_=>by simp at h;cases h
 |(bE,u')::bs,e::es,i,r,j,z,eC,c3,h,ae=>by
  simp only[eG]at eC c3;cases eC with
  |cons _ _ _ _ h9 eC=>
   cases c3 with
   |cons _ _ _ _ rF c3=>
    simp only[iu]at h;split at h
    ·rename_i he
     obtain⟨hs,-⟩:=xt ah hd ao h9 he;simp only[Instr.findNow,hs,aA,bC]at ae;obtain rfl:j=0:=by omega
     simp only[ja,he,if_true,aga]
    ·rename_i he
     obtain⟨hs,-⟩:=xt ah hd ao h9 he;simp only[Instr.findNow,hs]at ae;have iI:=rH ah hd ao (i+1) eC c3 h;obtain⟨vt,n9,h1,-,-⟩:=iI;rw[h1]at ae;simp only[aA,bC]at ae;obtain⟨hj,rfl⟩:=ae;obtain rfl:j=vt+1:=by omega
     have ih:=adJ ah hd ao (i+1) eC c3 h h1;have bu:¬(iZ b1 a bE=some true):=by rw[he];simp
     simp only[ja,bu,if_false,agb,ih]
    ·cases h
theorem ar9{vars:List Nat}{ai:aj->V}{ρ:Operand->Value}{o:Oper}(aR:fC C fid vars G w ai ρ){m k:Operand}{t eI sy:TypeId}{u:TypeId}(hd:C.P.underlying t=some (.map eI sy)){am hX:aj}{b1:Nat}
  (ho:o.op=.call {callee:=.builtin .delete,args:= #[m,k],argTypes:= #[t,u]}) (h1:C.ch vars m=some am) (h2:C.ch vars k=some hX) (gO:C.jP eI=some b1) {l:Nat} (ag:ai am=.map l) {h0:Home} (c6:G.β l=some h0) {bs:List (V × V)} {es:Array MapEntry} {bT:Nat}
  (dG:w.heap[h0.b]? =some (.map es bT)) (eC:bk fid G w (bs.map (·.1)) (es.toList.map (·.key))) (c3:bk fid G w (bs.map (·.2)) (es.toList.map (·.val))) (cg:oQ es bT) {b2:Option V} (jd:iu b1 (ai hX) bs=some b2):
  ∃bN,(execOp ρ o).run C.P w=.ok (.value (.tuple #[])) {w with heap:=w.heap.setIfInBounds h0.b (.map bN bT)}/\bk fid G w ((ja b1 (ai hX) bs).map (·.1)) (bN.toList.map (·.key))/\bk fid G w ((ja b1 (ai hX) bs).map (·.2)) (bN.toList.map (·.val))/\
   oQ bN bT/\((bN=es/\ja b1 (ai hX) bs=bs)\/∃j,bN=es.eraseIdxIfInBounds j/\ja b1 (ai hX) bs=bs.eraseIdx j):=by
 have hm:=aR m am h1;have ah:=aR k hX h2;obtain⟨I9,jt⟩:=I8 gO
 have cn:(execOp ρ o).run C.P w=((Builtin.delete_ #[t,u] o.type #[ρ m,ρ k]).run C.P w).andThen fun z w'=>.ok (.value z) w':=by
  rw[vm ho];simp only[builtin,Sem.run_bind,DJ,eG,me];rfl
 rw[ag]at hm;obtain⟨aBD,adK,VB,dU⟩:=hm.mapInv;rw[c6]at adK;cases adK;cases b2 with
 |none=>
  have ae:=rH gO jt ah 0 eC c3 jd;refine⟨es,?_,by rw[BW jd];exact eC,by rw[BW jd];exact c3,cg,.inl ⟨rfl,BW jd⟩⟩;rw[cn];unfold Builtin.delete_;simp only[dU];simp[run_underlying hd,xu dG,tN gO,vr (C:=C) jt ae,BU _ dG,Sem.run_pure,Result.andThen]
 |some r=>
  obtain⟨j,y,ae,-,-⟩:=rH gO jt ah 0 eC c3 jd;obtain⟨s1,s2⟩:=Ov gO jt ah 0 eC c3 jd ae;have fu:=adJ gO jt ah 0 eC c3 jd ae;rw[er]at ae;refine⟨es.eraseIdxIfInBounds j,?_,by simpa using s1,by simpa using s2,cg.erase _,.inr ⟨j,rfl,fu⟩⟩;rw[cn];unfold Builtin.delete_;simp only[dU];simp[run_underlying hd,xu dG,tN gO,vr (C:=C) jt ae,BU _ dG,Sem.run_pure,Result.andThen]
theorem adL{α β:Type}:∀{j:Nat} {l:List α} {m:List β} {p:α × β},p∈(l.eraseIdx j).zip (m.eraseIdx j)->p∈l.zip m
 | _,[],_,_,h=>by simp at h
 | _,_::_,[],_,h=>by simp at h
 |0,_::_,_::_,_,h=>by simp only[aga]at h;exact lg _ h
 |j+1,_::_,_::_,_,h=>by
  simp only[agb,DI,dL]at h⊢;exact h.imp id adL
section
variable{vars:List Nat}{N:Nat}
structure ra (C:Ctx) (fid:Nat->Nat) (vars:List Nat) (N base li l r kF bT:Nat) (st:au) (G:cc) (w:World) (seen:Array Nat) (es:Array MapEntry) (d:List V) (bs:List (V × V)) (s:au) (az:cc) (al:Act) (aE:World):Prop where
 rel:dO C fid vars N az s al aE
 b2:gG st {s with low:=min st.low l}
 len:li<s.H.length
 ext:∀m,m<=min st.low l->Ext G w az aE m st.H.length
 marks:k5 C az aE base al.defers
 hi:∃h,az.β li=some h/\h.b=r
 hm:∃h,az.β l=some h/\h.b=kF
 gone:s.H[li]? =some .gone
 mp:s.H[l]? =some (.map bs)
 iter:aE.heap[r]? =some (.mapIter (some kF) bT seen bT)
 map:aE.heap[kF]? =some (.map es bT)
 hand:∀p∈es.toList.zip bs,p.1.born∈seen->p.2.1∈d
variable{base li l r kF bT:Nat}{st:au}{seen:Array Nat}{es:Array MapEntry}{d:List V}{bs:List (V × V)}{s ar:au}{az bD:cc}{al a2:Act}{aE bG:World}
theorem ra.on (h:ra C fid vars N base li l r kF bT st G w seen es d bs s az al aE)(jX:l<li)(aa:dO C fid vars N bD ar a2 bG)(dw:∀m,m<=ar.low->Ext az aE bD bG m s.H.length)(jq:li<ar.low)(dm:Fr s.H s.H.length ar.H ar.low)(eY:ar.ro=s.ro)
  (hd:k5 C bD bG base a2.defers):ra C fid vars N base li l r kF bT st G w seen es d bs ar bD a2 bG:=by
 obtain⟨h1,ag,q1⟩:=h.hi;obtain⟨h2,e2,aT⟩:=h.hm;have g1:=JE h.rel.rel ag h.gone;have g2:=zh h.rel.rel e2 h.mp;have mE:=dw _ (aM _);have ll:=h.b2.1.len;refine⟨aa,⟨⟨dc h.b2.1.len dm.len,jK _ _,fun x hx=> ?_⟩,eY.trans h.b2.2⟩,rj h.len dm.len,fun m hm=> ?_,hd,?_,?_,?_,?_,?_,?_,h.hand⟩
 ·have en:x<min st.low l:=hx
  exact(dm.same x (by omega)).trans (h.b2.1.same x hx)
 ·exact(h.ext m hm).trans ((dw m (by omega)).le (aM _) ll)
 ·obtain⟨h',e',q'⟩:=xD mE ag g1.1;exact⟨h',e',q'.trans q1⟩
 ·obtain⟨h',e',q'⟩:=xD mE e2 g2.1;exact⟨h',e',q'.trans aT⟩
 ·rw[dm.same li jq];exact h.gone
 ·rw[dm.same l (by omega)];exact h.mp
 ·have:=xC mE h.rel.rel ag jq
  rw[q1]at this;rw[this];exact h.iter
 ·have:=xC mE h.rel.rel e2 (by omega)
  rw[aT]at this;rw[this];exact h.map
theorem ra.del (h:ra C fid vars N base li l r kF bT st G w seen es d bs s az al aE)(jX:l<li){vars':List Nat}{o:Oper}{m k:Operand}{t eI sy u:TypeId}(bF:fp C fid)(hd:C.P.underlying t=some (.map eI sy)){am hX:aj}{b1:Nat}
  (ho:o.op=.call {callee:=.builtin .delete,args:= #[m,k],argTypes:= #[t,u]}) (h1:C.ch vars m=some am) (h2:C.ch vars k=some hX) (gO:C.jP eI=some b1) (ag:am.ai s.aG s.aw=.map l) {b2:Option V} (jd:iu b1 (hX.ai s.aG s.aw) bs=some b2):
  ∃bN bD bG,(execOp al.eval o).run C.P aE=.ok (.value (.tuple #[])) bG/\bN.toList.Sublist es.toList/\
   ra C fid vars N base li l r kF bT st G w seen bN d (ja b1 (hX.ai s.aG s.aw) bs) {s with aG:=[],H:=s.H.set l (.map (ja b1 (hX.ai s.aG s.aw) bs)),low:=min s.low l} bD al bG:=by
 obtain⟨av,bI,b3⟩:=h.hi;obtain⟨bc,cz,cZ⟩:=h.hm;obtain⟨pS,jU,Oy,aBE,fO,eC,c3,cg⟩:=zh h.rel.rel cz h.mp;rw[cZ,h.map]at fO;cases fO;have dG:aE.heap[bc.b]? =some (.map es bT):=by rw[cZ];exact h.map
 obtain⟨bN,cn,ct,dN,jT,C0⟩:=ar9 (sH bF h.rel) hd ho h1 h2 gO ag cz dG eC c3 cg jd;generalize ja b1 (hX.ai s.aG s.aw) bs=asa at*;have aH:bc.b<aE.heap.size:=h.rel.rel.blk l bc cz
 have vu:∀b,b≠bc.b->({aE with heap:=aE.heap.setIfInBounds bc.b (.map bN bT)}:World).heap[b]? =aE.heap[b]? :=fun b bu=>by
  show(aE.heap.setIfInBounds bc.b _)[b]? =_;rw[TH (lj bu)]
 have BV:({aE with heap:=aE.heap.setIfInBounds bc.b (.map bN bT)}:World).heap[bc.b]? =some (.map bN bT):=by
  show(aE.heap.setIfInBounds bc.b _)[bc.b]? =_;simp[aH]
 have ea:({aE with heap:=aE.heap.setIfInBounds bc.b (.map bN bT)}:World).heap.size=aE.heap.size:=by simp
 have en:Ext az aE ⟨cA az.β l bc,az.I⟩ {aE with heap:=aE.heap.setIfInBounds bc.b (.map bN bT)} l s.H.length:=
  Ext.write h.rel.rel cz jU rfl (aM _) id rfl ea vu rfl rfl
 have oj:Ext az aE ⟨cA az.β l bc,az.I⟩ {aE with heap:=aE.heap.setIfInBounds bc.b (.map bN bT)} 0 s.H.length:=en.le (cI _) (aM _)
 have zg:bN.toList.Sublist es.toList:=by
  rcases C0 with⟨rfl,-⟩|⟨j,rfl,-⟩
  ·exact sb _
  ·rw[af5];exact List.eraseIdx_sublist _ _
 refine⟨bN,⟨cA az.β l bc,az.I⟩,_,cn,zg,⟨⟨?_,fun t=> ?_,h.rel.size,?_⟩,⟨⟨?_,jK _ _,fun x hx=> ?_⟩,h.b2.2⟩,?_,fun m hm=> ?_,h.marks.ext oj,?_,?_,?_,?_,?_,?_,?_⟩⟩
 ·exact bf.write h.rel.rel cz jU rfl jU (aM _) id rfl ea vu (.map asa) ⟨pS,jU,bN,bT,BV,ct.ext h.rel.rel en,dN.ext h.rel.rel en,jT⟩
 ·exact((h.rel.clear).env t).ext h.rel.rel oj
 ·show min s.low l<=(s.H.set l _).length
  rw[yt];exact dc (jK _ _) h.rel.low
 ·show st.H.length<=(s.H.set l _).length
  rw[yt];exact h.b2.1.len
 ·have adM:x<min st.low l:=hx
  show(s.H.set l _)[x]? =_;rw[lG (by omega)];exact h.b2.1.same x hx
 ·show li<(s.H.set l _).length
  rw[yt];exact h.len
 ·exact(h.ext m hm).trans (en.le (by omega) h.b2.1.len)
 ·exact⟨av,by show cA az.β l bc li=_;rw[dH (by omega)];exact bI,b3⟩
 ·exact⟨bc,du _ _ _,cZ⟩
 ·show(s.H.set l _)[li]? =_
  rw[lG (by omega)];exact h.gone
 ·show(s.H.set l _)[l]? =_
  rw[tu (h.rel.rel.lt cz)]
 ·rw[vu r (fun q=> ?_)]
  ·exact h.iter
  ·have:=h.rel.rel.inj _ _ _ _ bI cz (by rw[b3];exact q)
   omega
 ·rw[<-cZ];exact BV
 ·intro p hp hb
  refine h.hand p ?_ hb;rcases C0 with⟨rfl,rfl⟩|⟨j,rfl,rfl⟩
  ·exact hp
  ·rw[af5]at hp
   exact adL hp
end
end Go.Abs
namespace Go.Abs
open Go
variable{C:Ctx}{fid:Nat->Nat}{w w':World}{G G':cc}{H H':Heap}
structure AH where
 dQ:b8
 c:aj
 Hq:List bP
 m:aj
 k:aj
 b1:Nat
structure adN (C:Ctx) (vars:List Nat) (N:Nat) (body:Code) (D:AH):Prop where
 ok:∃(uy:Code) (x id:Nat) (ops:Array Oper) (os:List Oper) (hQ:Oper) (m k:Operand) (t eI sy u:TypeId),
  body=.seq uy (.cond (.tmp x) (.region id ops false) .skip)/\C.code vars N uy=some D.dQ/\C.ch vars (.tmp x)=some D.c/\ops.toList=os++[hQ]/\ee (C.oper vars N ops) os=some D.Hq/\
  hQ.op=.call {callee:=.builtin .delete,args:= #[m,k],argTypes:= #[t,u]}/\hQ.dst=none/\hQ.guard=none/\C.ch vars m=some D.m/\C.ch vars k=some D.k/\C.P.underlying t=some (.map eI sy)/\C.jP eI=some D.b1
def fJ.Dl (R:fJ)(call:c1)(kv:V × V)(st:au):Option au:=
 match R.step call (.bd [.bool true,kv.1,kv.2]) {st with low:=st.H.length}with
 |some cm=>match R.more.ai cm.aG cm.aw with
  | .bool true=>
    if ek (bR cm.aw R.it) (bR st.aw R.it)=true then
     match c5 call R.t2 (({cm with aG:=[]}:au).put (some R.pair) (.bd [kv.1,kv.2])) []with
     |some (gP,_)=>some {gP with aG:=[]}
     |none=>none
    else none
  | _=>none
 |none=>none
def Sj (R:fJ)(D:AH)(ad:Nat->Option cb)(l li:Nat)(bs:List (V × V))(kv:V × V)(s:au)(Inv:List (V × V)->au->Prop):Prop:=
 ∃s2 fu,R.Dl (cl ad) kv s=some s2/\dz ad D.dQ s2=some (.normal,fu)/\li<fu.low/\
  ((D.c.ai fu.aG fu.aw=.bool false/\Inv bs fu)\/
   (D.c.ai fu.aG fu.aw=.bool true/\∃kt wr b2,c5 (cl ad) D.Hq {fu with aG:=[]} []=some (kt,wr)/\li<kt.low/\D.m.ai kt.aG kt.aw=.map l/\iu D.b1 (D.k.ai kt.aG kt.aw) bs=some b2/\
     Inv (ja D.b1 (D.k.ai kt.aG kt.aw) bs) {kt with aG:=[],H:=kt.H.set l (.map (ja D.b1 (D.k.ai kt.aG kt.aw) bs)),low:=min kt.low l}))
theorem asb{α β:Type}{l:List α}{m:List β}{p:α × β}(h:p∈l.zip m):∃i:Nat,l[i]? =some p.1/\m[i]? =some p.2:=by
 obtain⟨i,hi⟩:=oN.1 h;refine⟨i,?_⟩;rw[Bc]at hi;exact hi
theorem asc{α β:Type}{l:List α}{m:List β}{i:Nat}{a:α}{b:β}(h1:l[i]? =some a)(h2:m[i]? =some b):(a,b)∈l.zip m:=
 e0 (Bc.2 ⟨h1,h2⟩:(l.zip m)[i]? =some (a,b))
theorem asd{es:Array MapEntry}(hn:(es.toList.map (·.born)).Nodup){i j:Nat}{a b:MapEntry}(h1:es.toList[i]? =some a)(h2:es.toList[j]? =some b)(h:a.born=b.born):i=j:=by
 obtain⟨hi,q1⟩:=fF.1 h1;obtain⟨hj,aT⟩:=fF.1 h2;have hp:=TI.1 hn;rcases Nat.lt_trichotomy i j with q|q|q
 ·exact absurd (show(es.toList.map (·.born))[i]'(by simpa using hi)=(es.toList.map (·.born))[j]'(by simpa using hj) by rw[H7,H7,q1,aT,h]) (hp i j (by simpa using hi) (by simpa using hj) q)
 ·exact q
 ·exact absurd (show(es.toList.map (·.born))[j]'(by simpa using hj)=(es.toList.map (·.born))[i]'(by simpa using hi) by rw[H7,H7,q1,aT,h]) (hp j i (by simpa using hj) (by simpa using hi) q)
theorem ase{es:Array MapEntry}{seen:Array Nat}{e:MapEntry}(he:e∈(leftOf es seen).toList):(leftOf es (seen.push e.born)).size<(leftOf es seen).size:=by
 have he':e∈es.toList/\seen.contains e.born=false:=by
  unfold leftOf at he;simpa using he
 unfold leftOf;have key:∀p:MapEntry->Bool,(es.filter p).size=(es.toList.filter p).length:=fun p=>by rw[<-hJ,Array.toList_filter]
 rw[key,key];refine filter_lt _ _ (fun x hx=> ?_) e ?_ ?_ _ he'.1
 ·simp only[Array.contains_push,mb,uX]at hx⊢
  simp at hx⊢;exact hx.1
 ·rw[he'.2];rfl
 ·simp
theorem asf{es bN:Array MapEntry}{seen:Array Nat}(h:bN.toList.Sublist es.toList):(leftOf bN seen).size<=(leftOf es seen).size:=by
 unfold leftOf;have key:∀(es:Array MapEntry) (p:MapEntry->Bool),(es.filter p).size=(es.toList.filter p).length:=fun es p=>by rw[<-hJ,Array.toList_filter]
 rw[key,key];exact(h.filter _).length_le
theorem asg{es:Array MapEntry}{seen:Array Nat}(h:(leftOf es seen).size=0):∀e∈es.toList,e.born∈seen:=by
 intro e he;have h0:leftOf es seen= #[]:=af6 h;unfold leftOf at h0;rw[af9]at h0;have h1:=h0 e (by simpa using he);simp only[mb,M6]at h1;rw[agc]at h1;exact h1
section
variable{vars:List Nat}{N n:Nat}{ad:Nat->Option cb}
theorem adO{c:b8}{st:au}{r:X × au}(h:dz ad c st=some r):∃n,Abs.exec (cl ad) n c st=some r:=by
 obtain⟨n,hn⟩:=fV.1 h;exact⟨n,sn (DU n) (aM _) c st r hn⟩
theorem ash (cR:C.P.follows .mixedOrders=true)(bF:fp C fid)(bn:hB C fid (cl ad)){k0 i1 i2:Nat}{hN on jY:Oper}{kG kH jZ:Array Oper}{ou ov:List Oper}
  {mt it aC more pair out ef:Nat} {tm rQ rR:TypeId} {body:Code} {R:fJ} {D:AH}
  (h0:kG[k0]? =some hN) (vF:C.ch vars (.tmp mt)=some R.src) (sK:hN.op=.range tm (.tmp mt)) (vG:hN.dst=some it) (vH:hN.guard=none) (hit:it<N) (vI:C.P.underlying tm=some (.map rQ rR))
  (h1:kH.toList=on::ou) (qK:on.op=.next (.tmp it) false) (hnd:on.dst=some aC) (sL:on.guard=none) (og:aC<N)
  (h2:jZ.toList=jY::ov) (sM:jY.op=.entry (.tmp it)) (vJ:jY.dst=some pair) (vK:jY.guard=none) (vL:pair<N)
  (qL:vars.contains it=true) (sN:R.aC=(aC,vars.contains aC)) (vM:R.pair=(pair,vars.contains pair))
  (qG:ee (C.oper vars N kH) ou=some R.t1) (oT:ee (C.oper vars N jZ) ov=some R.t2) (qM:C.ch vars (.tmp more)=some R.more) (xE:adN C vars N body D) (E4:R.it=it)
  {st:au} {l:Nat} {bs:List (V × V)} (rS:R.src.ai st.aG st.aw=.map l) (ow:st.H[l]? =some (.map bs)) (Inv:List V->List (V × V)->au->Prop) (Out:List (V × V)->au->Prop)
  (vN:Inv [] bs (iA it st)) (sO:∀d es s,Inv d es s->bR s.aw it=.ptr st.H.length 0)
  (pZ:∀d es s,Inv d es s->∀kv∈es,Sj R D ad l st.H.length es kv s (fun bN ar=>Inv (d++[kv.1]) bN ar))
  (je:∀d es s,Inv d es s->(∀kv∈es,kv.1∈d)->∃ar,R.fin (cl ad) s=some ar/\st.H.length<ar.low/\Out es ar)
  {a:Act} {ro:Option Nat} {base:Nat} {Q Pr:Exit->Act->World->Prop} (aa:dO C fid vars N G st a w) (eY:vB G st.ro ro) (eT:k5 C G w base a.defers) (hb:base<=w.heap.size)
  (dP:∀es ar G' bl w',Out es ar->gG st {ar with low:=min st.low l}->Fin C fid vars N base st G w {ar with low:=min st.low l} G' bl w'->Q .normal bl w'):
  wpOpIn (eJ ro) 0 C.P kG Pr k0 (fun bl w'=>(Code.block out (.loop (.seq (.region i1 kH false) (.seq (.cond (.tmp more) .skip (.exit out)) (.block ef (.seq (.region i2 jZ false) body)))))).wpIn (eJ ro) 0 C.P Q bl w') a w:=by
 obtain⟨uy,tJ,adP,Mh,adQ,hQ,cN,I9,aBF,aBG,aBH,aBI,rfl,oe,asi,Sk,asj,adR,asl,asm,asn,jt,aso,asp⟩:=xE.ok;have lM:=sH bF aa (.tmp mt) R.src vF;rw[rS]at lM;obtain⟨ft,vO,Ps,Pt⟩:=lM.mapInv;obtain⟨-,-,es,bT,fc,eC,c3,cg⟩:=zh aa.rel vO ow;have jX:l<st.H.length:=aa.rel.lt vO
 have EC:(execOp a.eval hN).run C.P w=.ok (.value (.pointer (some ⟨w.heap.size,0,none⟩))) (w.alloc (.mapIter (some ft.b) bT #[] bT)):=by
  unfold execOp;rw[sK];have e:a.eval (.tmp mt)=.map (some ft.b):=Pt;simp only[e,Sem.run_bind,run_range_map w tm rQ rR ft.b es bT vI fc,Result.andThen_ok,Sem.run_pure]
 have Pv:=aa.rel.push .gone (.mapIter (some ft.b) bT #[] bT) 0 0 ⟨rfl,rfl⟩;have rO:∀m k,k<=st.H.length->Ext G w ⟨cA G.β st.H.length ⟨w.heap.size,0,0,false⟩,G.I⟩ (w.alloc (.mapIter (some ft.b) bT #[] bT)) m k:=fun m k ah=>(Ext.push aa.rel (.mapIter (some ft.b) bT #[] bT) 0 0 m).le (aM _) ah
 have Pw:dO C fid vars N ⟨cA G.β st.H.length ⟨w.heap.size,0,0,false⟩,G.I⟩ {st with H:=st.H++[.gone]} a (w.alloc (.mapIter (some ft.b) bT #[] bT)):=
  ⟨Pv,fun t=>(aa.env t).ext aa.rel (rO 0 0 (cI _)),aa.size,by have:=aa.low;simp only[e1,dE,eF];omega⟩
 have lQ:dO C fid vars N ⟨cA G.β st.H.length ⟨w.heap.size,0,0,false⟩,G.I⟩ (iA it st) (a.put (some it) (.pointer (some ⟨w.heap.size,0,none⟩))) (w.alloc (.mapIter (some ft.b) bT #[] bT)):=by
  have:=Pw.put hit (v:=.ptr st.H.length 0) (x:=.pointer (some ⟨w.heap.size,0,none⟩)) (.ptr st.H.length 0 ⟨w.heap.size,0,0,false⟩ (du _ _ _) rfl);rw[qL]at this;exact this.clear
 suffices Px:∀G' bl w',dO C fid vars N G' (iA it st) bl w'->(∀m,m<=(iA it st).H.length->Ext ⟨cA G.β st.H.length ⟨w.heap.size,0,0,false⟩,G.I⟩ (w.alloc (.mapIter (some ft.b) bT #[] bT)) G' w' m (iA it st).H.length)->
   bl.defers=a.defers->(Code.block out (.loop (.seq (.region i1 kH false) (.seq (.cond (.tmp more) .skip (.exit out)) (.block ef (.seq (.region i2 jZ false) (.seq uy (.cond (.tmp tJ) (.region adP Mh false) .skip)))))))).wpIn (eJ ro) 0 C.P Q bl w' by
  refine JD h0 vH (by rw[sK];simp) EC ?_;rw[vG];exact Px _ _ _ lQ (fun m _=>.refl _ _ _ _) (by rw[put_defers])
 intro G' bl w' bH cw ff
 refine wpIn_block (Js (fun k al aE=>∃d seen es bs s az,Inv d bs s/\(leftOf es seen).size<k/\ra C fid vars N base st.H.length l w.heap.size ft.b bT st G w seen es d bs s az al aE) ?_
  (j:=(leftOf es #[]).size+1) ?_)
 ·rintro k al aE ⟨d,seen,es,bs,s,az,a7,ah,bL⟩
  obtain⟨bE,rfl⟩:∃bE,k=bE+1:=⟨k-1,by omega⟩;refine⟨bE,rfl,?_⟩;obtain⟨av,bI,b3⟩:=bL.hi;obtain⟨bc,cz,cZ⟩:=bL.hm
  have E5:al.eval (.tmp it)=.pointer (some ⟨w.heap.size,0,none⟩):=by
   have:=bL.rel.env it;rw[show dX vars s it=bR s.aw it by unfold dX;rw[if_pos qL],sO d bs s a7]at this;obtain⟨h5,dF,-,ez⟩:=this.oU;rw[bI]at dF;cases dF;rw[b3]at ez;exact ez
  have tV:∀c,on.op≠ .defer c:=by rw[qK];simp
  have xw:∀c,jY.op≠ .defer c:=by rw[sM];simp
  obtain⟨ajV,ajW,bN,sz,E6,xv,yW,yX⟩:=zh bL.rel.rel cz bL.mp;rw[cZ,bL.map]at E6;cases E6
  have Pu:bs.length=es.size:=by
   have:=xv.length;simpa using this.symm
  rcases WK (P:=C.P) on.type bL.iter bL.map yX.1 (aM _)with⟨ea,cn⟩|⟨e,he,bG,vP,Py,Pz,cn⟩
  ·
   have eD:∀kv∈bs,kv.1∈d:=fun kv lV=>by
    obtain⟨i,hi⟩:=oN.1 lV
    have rT:i<es.toList.length:=by
     have:=(fF.1 hi).1;simp;omega
    have asq:es.toList[i]? =some es.toList[i]:=jI rT;exact bL.hand _ (asc asq hi) (asg ea _ (w9 rT))
   obtain⟨ar,ae,jq,PA⟩:=je d bs s a7 eD;unfold fJ.fin fJ.step at ae;split at ae
   ·rename_i s1 fy
    split at fy
    ·rename_i j0 wr hex
     cases fy;split at ae
     ·rename_i sP
      cases ae
      have zi:(execOp al.eval on).run C.P aE=.ok (.value (.tuple #[.bool false])) aE:=by
       unfold execOp;rw[qK];simp only[E5,Sem.run_bind,cn,Result.andThen_ok,Sem.run_pure]
      have vC:dO C fid vars N az (({s with aG:=[],low:=s.H.length}:au).put (some R.aC) (.bd [.bool false])) (al.put (some aC) (.tuple #[.bool false])) aE:=by
       rw[sN];exact bL.rel.reset.put og (.bd _ _ (.cons _ _ _ _ (.p _ _ (.bool false)) .nil))
      refine wpIn_seq (Ch bF bn h1 hnd sL tV qG zi vC hex fun bD a2 fI gW jv sI=> ?_);have gj:=kE ({s with aG:=[],low:=s.H.length}:au) (some R.aC) (.bd [.bool false]);have dm:=o2 bn.b2 _ _ _ _ _ (by rw[gj.1,gj.2.1];exact aM _) hex
      have eA:ra C fid vars N base st.H.length l w.heap.size ft.b bT st G w seen es d bs {j0 with aG:=[]} bD a2 fI:=by
       refine bL.on jX gW.clear (fun m hm=> ?_) jq ?_ ?_ ?_
       ·have:=jv m hm
        rw[gj.1]at this;exact this
       ·have:=dm.1
        rw[gj.1,gj.2.1]at this;exact this
       ·exact dm.2.trans gj.2.2
       ·have:=bL.marks.ext (jv 0 (cI _))
        rw[sI];exact this
      have af:=sH bF eA.rel (.tmp more) R.more qM;rw[sP]at af;refine wpIn_seq (wpIn_cond_false af.k1 (wpIn_exit ?_));show(if out=out then Q .normal a2 fI else _);rw[if_pos rfl];have:=eA.len;exact dP _ _ bD a2 fI PA eA.b2 ⟨⟨eA.rel.rel,eA.rel.env,eA.rel.size,dc (pC _ _) (dc (se jX) (se eA.len))⟩,eA.ext,eA.marks⟩
     ·cases ae
    ·cases fy
   ·cases ae
  ·
   have adS:e∈es.toList/\seen.contains e.born=false:=by
    unfold leftOf at he;simpa using he
   obtain⟨i,hi⟩:=oN.1 adS.1;have lv:=ase he;have rT:i<es.toList.length:=(fF.1 hi).1;obtain⟨PB,xB⟩:=JE bL.rel.rel bI bL.gone;obtain⟨kv,lV⟩:∃kv,bs[i]? =some kv:=⟨bs[i]'(by simp at rT;omega),by simp⟩
   have PC:bq fid az aE kv.1 e.key:=by
    obtain⟨x,hx,hr⟩:=xv.get (i:=i) (v:=kv.1) (by rw[kR,lV];rfl);rw[kR,hi]at hx;cases hx;exact hr
   have mF:bq fid az aE kv.2 e.val:=by
    obtain⟨x,hx,hr⟩:=yW.get (i:=i) (v:=kv.2) (by rw[kR,lV];rfl);rw[kR,hi]at hx;cases hx;exact hr
   obtain⟨aBJ,fu,uz,JG,Wu,y9⟩:=pZ d bs s a7 kv (e0 lV);have hT:=turn bL.rel.rel bI xB (.mapIter (some ft.b) bT (seen.push e.born) bT) .gone fun _ _ _=>⟨PB,xB⟩;rw[JF bL.gone]at hT;have vQ:bG.heap=(aE.putObj av.b (.mapIter (some ft.b) bT (seen.push e.born) bT)).heap:=by rw[vP,b3];rfl
   have zk:bf C fid az s.H bG:=hT.1.jR vQ;have zl:∀m,m<=st.H.length->Ext az aE az bG m s.H.length:=fun m hm=>(hT.2.le hm (aM _)).trans (.jR vQ Py Pz _ _)
   have E7:bG.heap[w.heap.size]? =some (.mapIter (some ft.b) bT (seen.push e.born) bT):=by
    rw[vQ,<-b3];exact World.putObj_heap_same (bL.rel.rel.blk _ _ bI)
   have qF:bG.heap[ft.b]? =some (.map es bT):=by
    rw[vQ,World.putObj_heap_other (fun q=> ?_)]
    ·exact bL.map
    ·have:=bL.rel.rel.inj _ _ _ _ bI cz (by rw[cZ,<-q]);omega
   have E8:dO C fid vars N az s al bG:=⟨zk,fun t=>(bL.rel.env t).ext bL.rel.rel (zl 0 (cI _)),bL.rel.size,bL.rel.low⟩;have zm:=zl 0 (cI _)
   have E9:ra C fid vars N base st.H.length l w.heap.size ft.b bT st G w (seen.push e.born) es (d++[kv.1]) bs s az al bG:=
    ⟨E8,bL.b2,bL.len,fun m hm=>(bL.ext m hm).trans ((zl m (by omega)).le (aM _) bL.b2.1.len),bL.marks.ext zm,bL.hi,bL.hm,bL.gone,bL.mp,E7,qF,fun p hp Dm=>by
     obtain⟨j,asr,adT⟩:=asb hp;rw[Array.mem_push]at Dm;rcases Dm with Dm|Dm
     ·exact w7 _ (bL.hand p hp Dm)
     ·have:=asd yX.2 asr hi Dm
      subst this;rw[lV]at adT;cases adT;simp⟩
   have Fa:=PC.ext bL.rel.rel zm;have Fb:=mF.ext bL.rel.rel zm;unfold fJ.Dl fJ.step at uz;split at uz
   case h_2=>cases uz
   rename_i s1 fy;split at fy
   case h_2=>cases fy
   rename_i j0 wr hex;cases fy;split at uz
   case h_2=>cases uz
   rename_i sP;split at uz
   case isFalse=>cases uz
   rename_i PD
   have PE:bR j0.aw it=.ptr st.H.length 0:=by
    have:=vw _ _ PD;rw[E4]at this;exact this.trans (sO d bs s a7)
   split at uz
   case h_2=>cases uz
   rename_i s2 PF Fc;cases uz
   have zi:(execOp al.eval on).run C.P aE=.ok (.value (.tuple #[.bool true,e.key,e.val])) bG:=by
    unfold execOp;rw[qK];simp only[E5,Sem.run_bind,cn,Result.andThen_ok,Sem.run_pure]
   have vC:dO C fid vars N az (({s with aG:=[],low:=s.H.length}:au).put (some R.aC) (.bd [.bool true,kv.1,kv.2])) (al.put (some aC) (.tuple #[.bool true,e.key,e.val])) bG:=by
    rw[sN];exact E8.reset.put og (.bd _ _ (.cons _ _ _ _ (.p _ _ (.bool true)) (.cons _ _ _ _ Fa (.cons _ _ _ _ Fb .nil))))
   have gj:=kE ({s with aG:=[],low:=s.H.length}:au) (some R.aC) (.bd [.bool true,kv.1,kv.2]);have dm:=o2 bn.b2 _ _ _ _ _ (by rw[gj.1,gj.2.1];exact aM _) hex;have mG:=kE ({j0 with aG:=[]}:au) (some R.pair) (.bd [kv.1,kv.2]);have rM:j0.low<=j0.H.length:=dm.bound (by rw[gj.1,gj.2.1];exact aM _);have vR:=o2 bn.b2 _ _ _ _ _ (by rw[mG.1,mG.2.1];exact rM) Fc;have y4:s2.low<=s2.H.length:=vR.bound (by rw[mG.1,mG.2.1];exact rM);obtain⟨Je,adU⟩:=adO JG;have sQ:=mz bn.b2 Je _ _ _ _ (show({s2 with aG:=[]}:au).low<=({s2 with aG:=[]}:au).H.length from y4) adU;have aj0:fu.low<=s2.low:=sQ.1.low;have aj1:s2.low<=j0.low:=by have:=vR.1.low;rw[mG.2.1]at this;exact this
   refine wpIn_seq (Ch bF bn h1 hnd sL tV qG zi vC hex fun bD a2 fI gW jv sI=> ?_)
   have eA:ra C fid vars N base st.H.length l w.heap.size ft.b bT st G w (seen.push e.born) es (d++[kv.1]) bs {j0 with aG:=[]} bD a2 fI:=by
    refine E9.on jX gW.clear (fun m hm=> ?_) (by show st.H.length<j0.low;omega) ?_ ?_ ?_
    ·have:=jv m hm
     rw[gj.1]at this;exact this
    ·have:=dm.1
     rw[gj.1,gj.2.1]at this;exact this
    ·exact dm.2.trans gj.2.2
    ·have:=E9.marks.ext (jv 0 (cI _))
     rw[sI];exact this
   have af:=sH bF eA.rel (.tmp more) R.more qM;rw[sP]at af;refine wpIn_seq (wpIn_cond_true af.k1 (wpIn_skip ?_));show(Code.block ef (.seq (.region i2 jZ false) (.seq uy (.cond (.tmp tJ) (.region adP Mh false) .skip)))).wpIn (eJ ro) 0 C.P _ a2 fI;refine wpIn_block (wpIn_seq ?_)
   have PG:a2.eval (.tmp it)=.pointer (some ⟨w.heap.size,0,none⟩):=by
    have:=eA.rel.env it;rw[show dX vars {j0 with aG:=[]} it=bR j0.aw it by unfold dX;rw[if_pos qL],PE]at this;obtain⟨h5,dF,-,ez⟩:=this.oU;obtain⟨gb,hz,hC⟩:=eA.hi;rw[hz]at dF;cases dF;rw[hC]at ez;exact ez
   have PH:(execOp a2.eval jY).run C.P fI=.ok (.value (.tuple #[e.key,e.val])) fI:=by
    have EU:=WL (P:=C.P) eA.iter eA.map adS.1 yX.2;unfold execOp;rw[sM];simp only[PG,Sem.run_bind,EU,Result.andThen_ok,Sem.run_pure]
   have Fe:=jv 0 (cI _)
   have PI:dO C fid vars N bD (({j0 with aG:=[]}:au).put (some R.pair) (.bd [kv.1,kv.2])) (a2.put (some pair) (.tuple #[e.key,e.val])) fI:=by
    rw[vM];exact eA.rel.put vL (.bd _ _ (.cons _ _ _ _ (Fa.ext zk Fe) (.cons _ _ _ _ (Fb.ext zk Fe) .nil)))
   refine Ch bF bn h2 vJ vK xw oT PH PI Fc fun jV a3 Ci zd vE EX=> ?_
   have nI:ra C fid vars N base st.H.length l w.heap.size ft.b bT st G w (seen.push e.born) es (d++[kv.1]) bs {s2 with aG:=[]} jV a3 Ci:=by
    refine eA.on jX zd.clear (fun m hm=> ?_) (by show st.H.length<s2.low;omega) ?_ ?_ ?_
    ·have:=vE m hm
     rw[mG.1]at this;exact this
    ·have:=vR.1
     rw[mG.1,mG.2.1]at this;exact⟨this.len,dc this.low rM,this.same⟩
    ·exact vR.2.trans mG.2.2
    ·have:=eA.marks.ext (vE 0 (cI _))
     rw[EX];exact this
   refine wpIn_seq (rN (n:=Je) cR bF bn uy _ _ _ oe _ _ _ adU jV a3 Ci ro base _ nI.rel ?_ nI.marks (dc hb (nI.ext 0 (cI _)).size) fun Ff a4 JH F=> ?_)
   ·have lu:({s2 with aG:=[]}:au).ro=st.ro:=nI.b2.2
    rw[lu];exact eY.ext (nI.ext 0 (cI _))
   have xF:ra C fid vars N base st.H.length l w.heap.size ft.b bT st G w (seen.push e.born) es (d++[kv.1]) bs fu Ff a4 JH:=
    nI.on jX F.rel F.ext Wu ⟨sQ.1.len,dc sQ.1.low y4,sQ.1.same⟩ sQ.2 F.marks
   have Am:=sH bF xF.rel (.tmp tJ) D.c asi;rcases y9 with⟨hc,zj⟩|⟨hc,kt,Ac,aBK,adV,ass,ast,asu,zj⟩
   ·rw[hc]at Am
    refine wpIn_cond_false Am.k1 (wpIn_skip ?_);exact⟨d++[kv.1],seen.push e.born,es,bs,fu,Ff,zj,by omega,xF⟩
   ·rw[hc]at Am
    refine wpIn_cond_true Am.k1 (wpIn_region ?_);have asv:Mh.size=adQ.length+1:=by rw[<-hJ,Sk];simp
    rw[asv,HW];have adW:fu.low<=fu.H.length:=xF.rel.low;have Mi:=o2 bn.b2 _ _ _ _ _ (show({fu with aG:=[]}:au).low<=({fu with aG:=[]}:au).H.length from adW) adV;refine Po bF bn (k0:=0) (fun j hj=>by rw[er,<-iX,Sk,gM hj]) asj xF.rel.clear adV fun asw a5 asx asy adX asz=> ?_;have ah:Mh[0+adQ.length]? =some hQ:=by rw[er,<-iX,Sk];simp
    have Sd:ra C fid vars N base st.H.length l w.heap.size ft.b bT st G w (seen.push e.born) es (d++[kv.1]) bs kt asw a5 asx:=by
     refine xF.on jX asy adX ass ⟨Mi.1.len,dc Mi.1.low adW,Mi.1.same⟩ Mi.2 ?_;rw[asz];exact xF.marks.ext (adX 0 (cI _))
    obtain⟨asA,asB,aBL,asC,zg,asD⟩:=Sd.del jX (vars':=vars) bF aso adR asn jt asp ast asu;rw[uZ,wpOpsIn_cons];refine JD ah asm (by rw[adR];simp) asC ?_;rw[asl];refine⟨d++[kv.1],seen.push e.born,asA,_,_,asB,zj,?_,asD⟩;have:=asf (seen:=seen.push e.born) zg;omega
 ·have gh:(iA it st).H.length=st.H.length+1:=by unfold iA;simp
  have ag:=cw (st.H.length+1) (by show st.H.length+1<=(iA it st).H.length;rw[gh];exact aM _);have eW:=rO 0 st.H.length (aM _)
  have qE:(⟨cA G.β st.H.length ⟨w.heap.size,0,0,false⟩,G.I⟩:cc).β l=some ft:=by
   show cA G.β st.H.length ⟨w.heap.size,0,0,false⟩ l=some ft;rw[dH (by omega)];exact vO
  have yO:(⟨cA G.β st.H.length ⟨w.heap.size,0,0,false⟩,G.I⟩:cc).β st.H.length=some ⟨w.heap.size,0,0,false⟩:=du _ _ _;refine⟨[],#[],es,bs,iA it st,G',vN,yr _,⟨⟨bH.rel,bH.env,bH.size,?_⟩,⟨⟨?_,jK _ _,fun x hx=> ?_⟩,rfl⟩,?_,fun m hm=> ?_,?_,?_,?_,?_,?_,?_,?_,fun p _ hp=>by simp at hp⟩⟩
  ·exact lQ.low
  ·show st.H.length<=(iA it st).H.length
   omega
  ·have en:x<min st.low l:=hx
   show(st.H++[cD.gone])[x]? =_;rw[gM (by omega)]
  ·omega
  ·exact(rO m st.H.length (aM _)).trans ((cw m (by show m<=(iA it st).H.length;omega)).le (aM _) (by show st.H.length<=(iA it st).H.length;omega))
  ·rw[ff]
   exact(eT.ext eW).ext ag
  ·exact xD ag yO rfl
  ·exact xD ag qE Ps
  ·show(st.H++[cD.gone])[st.H.length]? =_
   simp
  ·show(st.H++[cD.gone])[l]? =_
   rw[gM jX];exact ow
  ·have:=xC ag lQ.rel yO (yr _)
   rw[this];exact ml _ _
  ·have:=xC ag lQ.rel qE (by omega)
   rw[this,alloc_old (aa.rel.blk _ _ vO)];exact fc
end
end Go.Abs
namespace Go.Abs
open Go
variable{C:Ctx}{fid:Nat->Nat}{w w':World}{G G':cc}{H H':Heap}
variable{vars:List Nat}{N:Nat}{ad:Nat->Option cb}
theorem di.dz (cR:C.P.follows .mixedOrders=true)(bF:fp C fid)(bn:hB C fid (cl ad)){c:Code}{ac:b8}(hc:C.code vars N c=some ac){st aX:au}{x:X}(he:Abs.dz ad ac st=some (x,aX)):
  di C fid vars N c st (fun y s=>y=x/\s=aX):=by
 obtain⟨n,hn⟩:=adO he;exact di.exec (n:=n) cR bF bn hc hn
theorem di.block{id:Nat}{c:Code}{st:au}{Out:X->au->Prop}(h:di C fid vars N c st (fun x s=>Out (Cm id x) s)):di C fid vars N (.block id c) st Out:=fun G a w ro base Q aa eY eT hb dP=>by
 refine wpIn_block (h G a w ro base _ aa eY eT hb fun x s az al aE ho ae F=> ?_);have:=dP _ _ az al aE ho ae F;cases x with
 |normal=>exact this
 |ret=>exact this
 |exit j=>
  simp only[Cm]at this;cases hb:Nat.beq j id with
  |true=>
   rw[hb]at this;have e:=e8 hb;subst e;simp only[B8,Exit.inBlock,if_true];exact this
  |false=>
   rw[hb]at this;have e:¬j=id:=fun e=>by rw[e,Bk]at hb;cases hb
   simp only[B8,Exit.inBlock,e,if_false];exact this
theorem di.loop{c:Code}{st:au}{Out:X->au->Prop}(I:Nat->au->Prop)(k:Nat)(h0:I k st)(h:∀k s,I k s->di C fid vars N c s (fun x ar=>(x=.normal/\∃j,k=j+1/\I j ar)\/(x≠ .normal/\Out x ar))):di C fid vars N (.loop c) st Out:=fun G a w ro base Q aa eY eT hb dP=>by
 refine Js (fun k al aE=>∃j s az,k=j+1/\I j s/\gG st s/\Fin C fid vars N base st G w s az al aE) ?_ (j:=k+1) ⟨k,st,G,rfl,h0,.refl _,.refl aa eT⟩;rintro _ al aE ⟨k,s,az,rfl,a7,ae,F⟩;refine⟨k,rfl,?_⟩;refine h k s a7 az al aE ro base _ F.rel (by rw[ae.2];exact eY.ext (F.ext 0 (cI _))) F.marks (dc hb (F.ext 0 (cI _)).size) fun x s2 bD a2 bG ho zo tT=> ?_;rcases ho with⟨rfl,j,hj,asE⟩|⟨hx,ho⟩
 ·exact⟨j,s2,bD,hj,asE,ae.trans zo,F.trans tT ae zo⟩
 ·have:=dP x s2 bD a2 bG ho (ae.trans zo) (F.trans tT ae zo)
  cases x with
  |normal=>exact absurd rfl hx
  |exit id=>exact this
  |ret=>exact this
def Sl:Go.Op->Option (Operand × Operand × TypeId × TypeId)
 | .call ⟨.builtin .delete,⟨[m,k]⟩,⟨[t,u]⟩⟩=>some (m,k,t,u)
 | _=>none
theorem asF{o:Go.Op}{m k:Operand}{t u:TypeId}(h:Sl o=some (m,k,t,u)):o=.call {callee:=.builtin .delete,args:= #[m,k],argTypes:= #[t,u]}:=by
 unfold Sl at h;split at h
 ·cases h;rfl
 ·cases h
def Dn (C:Ctx)(vars:List Nat)(N:Nat):Code->Option AH
 | .seq uy (.cond (.tmp x) (.region _ ops false) .skip)=>match zp ops.toList with
   |some (os,⟨none,hQ,_,_,_,none⟩)=>match Sl hQ with
    |some (m,k,t,_)=>match C.code vars N uy,C.ch vars (.tmp x),ee (C.oper vars N ops) os,C.ch vars m,C.ch vars k,C.P.underlying t with
     |some dQ,some c,some Hq,some am,some hX,some (.map eI _)=>(C.jP eI).map fun b1=>⟨dQ,c,Hq,am,hX,b1⟩
     | _,_,_,_,_,_=>none
    | _=>none
   | _=>none
 | _=>none
theorem asG{body:Code}{D:AH}(h:Dn C vars N body=some D):adN C vars N body D:=by
 unfold Dn at h;split at h
 ·rename_i uy x id ops
  split at h
  ·rename_i os hQ ty ps mh eW
   split at h
   ·rename_i m k t u hd
    split at h
    ·rename_i dQ c Hq am hX eI sy ag e2 bI cz dF hz
     obtain⟨b1,gO,rfl⟩:=cG.1 h;exact⟨uy,x,id,ops,os,_,m,k,t,eI,sy,u,rfl,ag,e2,PK eW,bI,asF hd,rfl,rfl,cz,dF,hz,gO⟩
    ·cases h
   ·cases h
  ·cases h
 ·cases h
def Mj:Code->Code
 | .seq (.region _ _ false) (.block _ (.loop (.seq (.region _ _ false) (.seq (.cond (.tmp _) .skip (.exit _)) (.block _ (.seq (.region _ _ false) body))))))=>body
 | _=>.skip
theorem di.asH (cR:C.P.follows .mixedOrders=true)(bF:fp C fid)(bn:hB C fid (cl ad)){c:Code}{R:fJ}{D:AH}(hr:zq C vars N c=some R)(hd:Dn C vars N (Mj c)=some D){jw st:au}{wr:List Bool}(he:c5 (cl ad) R.t0 {jw with aG:=[]} []=some (st,wr))
  {l:Nat} {bs:List (V × V)} (rS:R.src.ai st.aG st.aw=.map l) (ow:st.H[l]? =some (.map bs)) (Inv:List V->List (V × V)->au->Prop) (Out:List (V × V)->au->Prop)
  (vN:Inv [] bs (iA R.it st)) (sO:∀d es s,Inv d es s->bR s.aw R.it=.ptr st.H.length 0)
  (pZ:∀d es s,Inv d es s->∀kv∈es,Sj R D ad l st.H.length es kv s (fun bN ar=>Inv (d++[kv.1]) bN ar))
  (je:∀d es s,Inv d es s->(∀kv∈es,kv.1∈d)->∃ar,R.fin (cl ad) s=some ar/\st.H.length<ar.low/\Out es ar):
  di C fid vars N c jw (fun x s=>x=.normal/\∃es ar,Out es ar/\s={ar with low:=min st.low l}):=fun G a w ro base Q aa eY eT hb dP=>by
 obtain⟨i0,i1,i2,hN,on,jY,kG,kH,jZ,p4,ou,ov,mt,aC,more,pair,out,tm,rQ,rR,body,rfl,h0,pS,vF,sK,vG,vH,hit,vI,h1,qK,hnd,sL,og,h2,sM,vJ,vK,vL,qL,sN,vM,qG,oT,qM,xE⟩:=(WV hr).ok;have dm:=o2 bn.b2 _ _ _ _ _ (show({jw with aG:=[]}:au).low<=({jw with aG:=[]}:au).H.length from aa.low) he;have zn:gG jw st:=dm;have ea:kG.size=p4.length+1:=by rw[<-hJ,h0];simp
 refine wpIn_seq (wpIn_region ?_);rw[ea,HW];refine Po bF bn (k0:=0) (fun j hj=>by rw[er,<-iX,h0,gM hj]) pS aa.clear he fun az al aE bH cw ff=> ?_;have eW:=cw 0 (cI _);have ah:kG[0+p4.length]? =some hN:=by rw[er,<-iX,h0];simp
 have Fg:k5 C az aE base al.defers:=by rw[ff];exact eT.ext eW
 rw[uZ,wpOpsIn_cons]
 exact ash (ad:=ad) cR bF bn ah vF sK vG vH hit vI h1 qK hnd sL og h2 sM vJ vK vL qL sN vM qG oT qM (asG hd) rfl rS ow Inv Out vN sO pZ je bH (by rw[zn.2];exact eY.ext eW) Fg (dc hb eW.size)
  fun es ar G' bl w' ho ae F=>dP .normal _ G' bl w' ⟨rfl,es,ar,ho,rfl⟩ (zn.trans ae) (Fin.trans (st:=jw) (cm:=st) ⟨bH,cw,Fg⟩ F zn ae)
end Go.Abs
namespace Go.Abs
open Go
section
variable{ad:Nat->Option cb}{b:Nat}{σ:bY}{H:Heap}{aw:Env}{R:fJ}
theorem adY{e:V}{Q:bY->Heap->Prop}(h:Op ad b R.t1 (gl nK (some R.aC) e) (gm σ (some R.aC) e) H [] (fun aV H' _=>Q aV H'))(hs:Fits aw σ)(hb:b<=H.length):
  ∃dv H' low' aV,R.step (cl ad) e ⟨[],aw,H,H.length,none⟩=some ⟨[],dv,H',low',none⟩/\Fits dv aV/\b<=low'/\b<=H'.length/\Q aV H':=by
 obtain⟨nn,k8,ag,e2,bI⟩:=vZ sR hs H H.length (some R.aC) e;obtain⟨iM,dv,H',low',fD,aV,q1,aT,b3,cZ,fq⟩:=h nn k8 H.length e2 bI hb hb;refine⟨dv,H',low',aV,?_,aT,b3,cZ,fq⟩;unfold fJ.step;rw[ag,q1]
theorem asI{Q:bY->Heap->Prop}(h:Op ad b R.t1 (gl nK (some R.aC) (.bd [.bool false])) (gm σ (some R.aC) (.bd [.bool false])) H [] (fun aV H' _=>bV nK aV R.more=.bool false/\Q aV H'))(hs:Fits aw σ)(hb:b<=H.length){low:Nat}:
  ∃dv H' low' aV,R.fin (cl ad) ⟨[],aw,H,low,none⟩=some ⟨[],dv,H',low',none⟩/\Fits dv aV/\b<=low'/\b<=H'.length/\Q aV H':=by
 obtain⟨dv,H',low',aV,q1,aT,b3,cZ,fq,hC⟩:=adY h hs hb;refine⟨dv,H',low',aV,?_,aT,b3,cZ,hC⟩;unfold fJ.fin;simp only[q1];rw[sS sR aT,fq]
theorem asJ{kv:V × V}{Q:bY->Heap->Prop}{li:Nat}(hit:σ R.it=.ptr li 0)
  (h:Op ad b R.t1 (gl nK (some R.aC) (.bd [.bool true,kv.1,kv.2])) (gm σ (some R.aC) (.bd [.bool true,kv.1,kv.2])) H [] (fun cU H1 _=>bV nK cU R.more=.bool true/\cU R.it=.ptr li 0/\
    Op ad b R.t2 (gl nK (some R.pair) (.bd [kv.1,kv.2])) (gm cU (some R.pair) (.bd [kv.1,kv.2])) H1 [] (fun jA H2 _=>Q jA H2))) (hs:Fits aw σ) (hb:b<=H.length) {low:Nat}:
  ∃dv H' low' aV,R.Dl (cl ad) kv ⟨[],aw,H,low,none⟩=some ⟨[],dv,H',low',none⟩/\Fits dv aV/\b<=low'/\b<=H'.length/\Q aV H':=by
 obtain⟨k8,H1,bS,cU,q1,aT,b3,cZ,fq,hC,nH⟩:=adY h hs hb;obtain⟨abN,Ct,ag,e2,bI⟩:=vZ sR aT H1 bS (some R.pair) (.bd [kv.1,kv.2]);obtain⟨iM,dv,H',low',fD,aV,bH,cw,ff,gW,jv⟩:=nH abN Ct bS e2 bI b3 cZ;refine⟨dv,H',low',aV,?_,cw,ff,gW,jv⟩;unfold fJ.Dl;simp only[q1];rw[sS sR aT,fq];have e:ek (bR k8 R.it) (bR aw R.it)=true:=by rw[aT,hs,hC,hit];simp[ek]
 simp only[e,if_true,ag,bH]
end
section
variable{C:Ctx}{fid:Nat->Nat}{vars:List Nat}{N:Nat}{ad:Nat->Option cb}
theorem di.AJ (cR:C.P.follows .mixedOrders=true)(bF:fp C fid)(bn:hB C fid (cl ad)){a d:Code}{A B:b8}(hc:C.code vars N a=some A){st ar:au}{x:X}{Out:X->au->Prop}(he:Abs.dz ad (.seq A B) st=some (x,ar))
  (k:∀s,Abs.dz ad B s=some (x,ar)->di C fid vars N d s Out) (dN:x≠ .normal->Out x ar):di C fid vars N (.seq a d) st Out:=by
 rw[hR]at he;cases hA:Abs.dz ad A st with
 |none=>rw[hA]at he;cases he
 |some p=>
  obtain⟨y,s⟩:=p;rw[hA]at he;refine di.seq (di.dz cR bF bn hc hA) (fun s1 h1=> ?_) fun C1 s1 hy h1=> ?_
  ·obtain⟨ag,rfl⟩:=h1
   subst ag;exact k s1 he
  ·obtain⟨rfl,rfl⟩:=h1
   cases C1 with
   |normal=>exact absurd rfl hy
   |exit i=>cases he;exact dN (by simp)
   |ret=>cases he;exact dN (by simp)
end
end Go.Abs
