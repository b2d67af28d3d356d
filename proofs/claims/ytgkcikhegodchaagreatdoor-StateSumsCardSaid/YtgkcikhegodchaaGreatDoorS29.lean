/- Texts of this claim, joined and written short by a program. -/
import Derived.Test.YtgkcikhegodchaaGreatDoorS10
import Derived.Test.YtgkcikhegodchaaGreatDoorS09
import Derived.Test.YtgkcikhegodchaaGreatDoorS21
import Derived.Test.YtgkcikhegodchaaGreatDoorS00
set_option linter.unusedVariables false
set_option linter.unusedSimpArgs false
set_option linter.unusedSectionVars false
namespace Go.Abs.bs
open Go Go.Abs Go.Abs.S
def aqB:cm:=q (R [r 22 (lE 3 Wd v20),r 23 (ls 3 t22),o 4 (.alloc [z,z,z]),n (st 3 v4 t23)]) (q (q (R [r 24 (dZ 0 v4),r 25 (ch t24),r 26 (dZ 0 v1),r 27 (dZ 1 t26),r 28 (ch t27),r 29 (ic 1 t28),r 30 (jX (fn 82) [t25,t29]),r 31 (no t30),r 32 (m t31),rg 33 t32 false (dZ 2 v4),rg 34 t32 false (ch t33),rg 35 t32 false (dZ 0 v1),rg 36 t32 false (dZ 1 t35),rg 37 t32 false (ch t36),rg 38 t32 false (ic 1 t37),rg 39 t32 false (jX (fn 82) [t34,t38]),rg 40 t32 false (no t39),r 41 (j3 t32 kk t40),r 42 (m t41),rg 43 t42 false (dZ 0 v4),rg 44 t42 false (ch t43),rg 45 t42 false (dZ 2 v4),rg 46 t42 false (ch t45),rg 47 t42 false (eq t44 t46),o 48 (j3 t42 kk t47)]) (jF ajL (q (R [o 2 (m k8)]) rt) k)) (q (tl [r 49 (dZ 0 v1),r 50 (dZ 1 t49),r 51 (ch t50),r 52 (dZ 0 v4),r 53 (ch t52),r 54 (lE 6 t51 t53),r 55 (ls 6 t54),r 56 (dZ 0 v1),r 57 (dZ 1 t56),r 58 (ch t57),r 59 (dZ 2 v4),r 60 (ch t59),r 61 (lE 6 t58 t60),r 62 (ls 6 t61),o 5 (.alloc [nJ,z,nl,z,z,z]),o 6 (.alloc [nJ,z,nl,z,z,z]),n (st 6 v5 t55),n (st 6 v6 t62)] [0,1,3,0,8,31,63,0,128,384,0,1024,3968,8064,0,0,49279,131071]) (q (tl [r 63 (dZ 1 v5),r 64 (ch t63),r 65 (ne t64 (c 0)),r 66 (m t65),rg 67 t66 false (dZ 1 v6),rg 68 t66 false (ch t67),rg 69 t66 false (ne t68 (c 0)),r 70 (j3 t66 kk t69),r 71 (m t70),rg 72 t71 false (dZ 1 v4),rg 73 t71 false (ch t72),rg 74 t71 false (dZ 2 v5),rg 75 t71 false (ch t74),rg 76 t71 false (ic 1 t75),rg 77 t71 false (jX (fn 82) [t73,t76]),rg 78 t71 false (no t77),r 79 (j3 t71 kk t78),r 80 (m t79),rg 81 t80 false (dZ 2 v6),rg 82 t80 false (ch t81),rg 83 t80 false (ic 1 t82),rg 84 t80 false (ne t83 (c 1)),r 85 (j3 t80 kk t84),r 86 (m t85),rg 87 t86 false (dZ 2 v6),rg 88 t86 false (ch t87),rg 89 t86 false (lE 1 t88 (c 0)),rg 90 t86 false (ch t89),rg 91 t86 false (dZ 2 v5),rg 92 t86 false (ch t91),rg 93 t86 false (dZ 1 v4),rg 94 t86 false (ch t93),rg 95 t86 false (lE 1 t92 t94),rg 96 t86 false (ch t95),rg 97 t86 false (ne t90 t96),o 98 (j3 t86 kk t97)] [0,1,3,7,15,31,63,127,255,511,1023,511,2559,6655,16383,32767,65535,131071,262143,524287,1048575,2097151,4194303,8388607,16777215,33554431,67108863,134217727,16777215,285212671,16777215,1090519039,4043309055,8338276351,17179869183,34359738367]) (jF ajM (q (R [o 2 (m k8)]) rt) k))))
def aqC:cm:=q (R [r 107 (lE 3 Wf v105),r 108 (ls 3 t107),o 9 (.alloc [z,z,z]),n (st 3 v9 t108)]) (R [r 109 (ch k7),r 110 (dZ 0 v9),r 111 (ch t110),n (.pQ 0 t109 t111 kk)])
def aqD:cm:=q (R [r 121 (.fail),o 122 (ex t121 0)]) (q (jF ajN k (e 6)) (cX 7 (q (R [r 123 (.fail),r 124 (ex t123 0),o 10 (.alloc [z]),n (st 1 v10 t124)]) (q (R [r 125 (dZ 0 v1),r 126 (dZ 6 t125),r 127 (ch t126),r 128 (.ua 92 [] [v10,k7]),r 129 (jX (fn 91) [t127,t128]),o 130 (no t129)]) (jF v130 (R [r 131 (ch k7),r 132 (ch v10),n (.yL 0 t131 t132)]) k)))))
def aqE:cm:=q (R [r 119 (ch k7),o 120 (.fail)]) (cX 6 (.loop aqD))
def AO:jv:=⟨137,q (R [o 1 (kg v0),o 2 (m k8)]) (q (q (R [r 11 (dZ 0 v1),r 12 (dZ 6 t11),r 13 (ch t12),r 14 (ic 1 t13),o 15 (gt t14 (c 12))]) (jF ajK (q (R [o 2 (m k8)]) rt) k)) (q (q (R [r 16 (dZ 0 v1),r 17 (dZ 6 t16),o 18 (ch t17),o 19 (ic 1 Wd),o 20 (m (c 0))]) (cX 0 (.loop (tj 21 19 20 99 1 0 aqB)))) (q (R [r 100 (.mkMap),o 7 (.alloc [.jt]),n (st 1 k7 t100)]) (q (q (R [r 101 (dZ 0 v1),r 102 (dZ 6 t101),o 103 (ch t102),o 104 (ic 1 Wf),o 105 (m (c 0))]) (cX 2 (.loop (tj 106 104 105 112 3 2 aqC)))) (q (q (R [r 113 (dZ 0 v1),r 114 (dZ 6 t113),r 115 (ch t114),o 116 (ic 1 t115),o 117 (m (c 0))]) (cX 4 (.loop (tj 118 116 117 133 5 4 aqE)))) (q (R [r 134 (ch k7),r 135 (ic 2 t134),r 136 (eq t135 (c 0)),o 2 (m t136)]) rt)))))),[.tmp 2],false⟩
def GN:cm:=R [o 3 (.alloc [z,z,z,z]),n (st 4 v3 Wc)]
def GO:cm:=cX 1 (q (q (R [r 14 (dZ 2 v3),r 15 (ch t14),r 16 (ne t15 (c 0)),r 17 (m t16),rg 18 t17 false (dZ 3 v3),rg 19 t17 false (ch t18),rg 20 t17 false (ch v1),rg 21 t17 false (ic 0 t20),rg 22 t17 false (ne t19 t21),o 23 (j3 t17 kk t22)]) (jF v23 (e 0) k)) (q (R [r 24 (dZ 0 v3),r 25 (ch t24),n (st 1 v2 t25)]) rt))
def GP:jv:=⟨26,q (R [o 1 (kg v0),o 2 (.alloc [z])]) (q (q (R [r 4 (ch v1),r 5 (eq t4 (cs [])),r 6 (m t5),rg 7 t6 false (ch v1),rg 8 t6 false (ic 0 t7),rg 9 t6 false (gt t8 (c 4096)),o 10 (j3 t6 kk t9)]) (jF v10 (q (R [n (st 1 v2 (c 0))]) rt) k)) (q (q (R [r 11 (ch v1),o 12 (jX (fn 140) [t11])]) (cX 0 (.rangeFunc v12 [13] GN GO))) (q (R [n (st 1 v2 (c 0))]) rt))),[.cell 2 none],false⟩
def acx:jv:=⟨6,q (R [o 1 (kg v0),o 2 (m (.const (.kt)))]) (q (R [r 4 (jX (fn 242) []),o 3 (.alloc [.jt]),n (st 1 v3 t4)]) (q (R [r 5 (.ua 243 [] [v1,v3]),o 2 (m t5)]) rt)),[.tmp 2],false⟩
def GQ:cm:=q (q (R [r 34 (m tk),r 35 (m k7),r 36 (ic 1 t35),o 37 (lt t34 t36)]) (jF v37 k (e 0))) (cX 1 (tl [r 38 (m tk),r 39 (m k7),r 40 (m tk),r 41 (.sI 2 t39 (some t40) none none),r 42 (m k7),r 43 (m tk),r 44 (.sI 2 t42 none (some t43) none),r 45 (.copy 2 t41 t44),r 46 (c4 t38 t45),o 8 (m t46)] [0,0,0,6,0,0,48,126,255,511]))
def acy:jv:=⟨48,q (R [o 4 (m qj)]) (q (q (R [r 9 (m v1),o 10 (lt t9 (c 0))]) (jF v10 (R [r 11 (.Bm 9 (cs [99,97,110,110,111,116,32,98,101,32,110,101,103,97,116,105,118,101])),n (.fail)]) k)) (q (R [r 13 (m v0),r 14 (ic 1 t13),r 15 (.conv .u64 t14),r 16 (m v1),r 17 (.conv .u64 t16),r 18 (jX (fn 156) [t15,t17]),r 12 (m t18),r 19 (ex t12 0),r 20 (ex t12 1),o 5 (m t19),o 6 (m t20)]) (q (q (R [r 21 (m v5),r 22 (gt t21 (.const (.int .u64 0))),r 23 (m t22),rg 24 t23 false (m v6),rg 25 t23 false (gt t24 (.const (.int .u64 9223372036854775807))),o 26 (j3 t23 kk t25)]) (jF v26 (R [r 27 (.Bm 9 (cs [116,104,101,32,114,101,115,117,108,116,32,111,102,32,40,108,101,110,40,120,41,32,42,32,99,111,117,110,116,41,32,111,118,101,114,102,108,111,119,115])),n (.fail)]) k)) (q (R [r 28 (m v6),r 29 (.conv .i64 t28),r 30 (.mkSlice 2 [z,z] 16 t29 t29),o 7 (m t30)]) (q (R [r 31 (m k7),r 32 (m v0),r 33 (.copy 2 t31 t32),o 8 (m t33)]) (q (cX 0 (.loop GQ)) (q (R [r 47 (m k7),o 4 (m t47)]) rt))))))),[.tmp 4],false⟩
def Db:jv:=⟨15,q (R [o 3 (kg v0),o 4 (m k8)]) (q (R [r 5 (dZ 0 v3),r 6 (ch t5),r 7 (ch v1),r 8 (eq t6 t7),r 9 (m t8),rg 10 t9 true (ch v2),rg 11 t9 true (dZ 2 v3),rg 12 t9 true (ch t11),rg 13 t9 true (.lookup 0 (.bool false) t10 t12 false),r 14 (j3 t9 t13 k8),o 4 (m t14)]) rt),[.tmp 4],false⟩
def Rm:cm:=q (R [r 9 (lE 1 v5 k7),r 10 (ch t9),o 3 (m t10)]) (R [r 11 (m v1),r 12 (m v3),n (.pQ 1 t11 t12 kk)])
def acz:jv:=⟨15,q (R [o 0 (m (.const (.jt)))]) (q (R [r 4 (.mkMap),o 1 (m t4)]) (q (q (R [o 5 (jX (fn 368) [(cs [115,111,114,116,32,114,101,108,97,116,105,111,110,32,99,111,117,110,116,101,114,32,115,101,116,32,114,101,103,105,115,116,101,114,32,105,110,118,97,114,105,97,110,116,32,111,112,101,114,97,116,105,111,110,32,107,101,121,32,114,101,102,101,114,101,110,99,101,32,116,111,32,99,111,117,110,116,32,97,99,121,99,108,105,99,32,97,108,108,32,115,117,109,32,105,110,32,97,100,100,119,105,110,115,32,114,101,109,111,118,101,119,105,110,115,32,108,97,115,116,32,109,117,108,116,105,32,104,105,100,101,32,111,114,100,101,114,101,100,32,114,101,113,117,105,114,101,32,104,111,108,100,32,105,110,115,101,114,116,32,100,101,108,101,116,101,32,97,100,100,32,102,114,111,109,32,112,117,116,32,100,114,111,112,32,97,115,115,105,103,110,32,102,111,114,32,119,104,101,114,101,32,97,110,100,32,111,114,32,110,111,116])]),o 6 (ic 1 v5),o 7 (m (c 0))]) (cX 0 (.loop (tj 8 6 7 13 1 0 Rm)))) (q (R [r 14 (m v1),o 0 (m t14)]) rt))),[.tmp 0],false⟩
def ya:cm:=q (q (R [r 21 (m k7),r 22 (m v6),r 23 (ic 0 t22),r 24 (lt t21 t23),r 25 (m t24),rg 26 t25 true (m v6),rg 27 t25 true (m k7),rg 28 t25 true (.rG t26 t27),rg 29 t25 true (jX (fn 250) [t28]),rg 30 t25 true (no t29),r 31 (j3 t25 t30 k8),r 32 (m t31),rg 33 t32 true (m v6),rg 34 t32 true (m k7),rg 35 t32 true (.rG t33 t34),rg 36 t32 true (ne t35 (.const (.int .u8 35))),r 37 (j3 t32 t36 k8),r 38 (m t37),rg 39 t38 true (m v6),rg 40 t38 true (m k7),rg 41 t38 true (.qB t39 (some t40) none),rg 42 t38 true (jX (fn 251) [t41]),rg 43 t38 true (no t42),o 44 (j3 t38 t43 k8)]) (jF v44 k (e 3))) (q (cX 4 k) (R [r 45 (m k7),r 46 (c4 t45 (c 1)),o 7 (m t46)]))
def wQ:cm:=.seq (.region [⟨some (48,false),.mv (.var 6),none⟩,⟨some (49,false),.bin .eql (.tmp 48) (.const (.str [])),none⟩,⟨some (47,true),.mv (.tmp 49),none⟩] none) (.cond (.var 47) (.skip) (.seq (.region [⟨some (51,false),.mv (.var 6),none⟩,⟨some (52,false),.rG (.tmp 51) (.const (.int .i64 0)),none⟩,⟨some (53,false),.call false (.func 245) [(.tmp 52)],none⟩,⟨some (50,true),.mv (.tmp 53),none⟩] none) (.cond (.var 50) (.seq (.region [⟨some (54,false),.mv (.var 6),none⟩,⟨some (55,false),.call false (.func 246) [(.tmp 54),(.func 247)],none⟩,⟨some (7,true),.mv (.tmp 55),none⟩,⟨some (56,false),.fieldAddr 0 (.var 5),none⟩,⟨none,.store 1 (.tmp 56) (.const (.int .i64 1)),none⟩] none) (.seq (.region [⟨some (57,false),.load none (.var 2),none⟩,⟨some (58,false),.mv (.var 6),none⟩,⟨some (59,false),.mv (.var 7),none⟩,⟨some (60,false),.qB (.tmp 58) none (some (.tmp 59)),none⟩,⟨some (61,true),.lookup 1 (.bool false) (.tmp 57) (.tmp 60) false,none⟩] (some [0,0,0,6,15])) (.cond (.var 61) (.region [⟨some (62,false),.fieldAddr 0 (.var 5),none⟩,⟨none,.store 1 (.tmp 62) (.const (.int .i64 2)),none⟩] none) (.skip)))) (.seq (.region [⟨some (64,false),.mv (.var 6),none⟩,⟨some (65,false),.rG (.tmp 64) (.const (.int .i64 0)),none⟩,⟨some (66,false),.call false (.func 248) [(.tmp 65)],none⟩,⟨some (63,true),.mv (.tmp 66),none⟩] none) (.cond (.var 63) (.region [⟨some (67,false),.mv (.var 6),none⟩,⟨some (68,false),.call false (.func 246) [(.tmp 67),(.func 248)],none⟩,⟨some (7,true),.mv (.tmp 68),none⟩,⟨some (69,false),.fieldAddr 0 (.var 5),none⟩,⟨none,.store 1 (.tmp 69) (.const (.int .i64 3)),none⟩] none) (.seq (.region [⟨some (71,false),.mv (.var 6),none⟩,⟨some (72,false),.call false (.func 249) [(.tmp 71)],none⟩,⟨some (73,false),.bin .gtr (.tmp 72) (.const (.int .i64 0)),none⟩,⟨some (70,true),.mv (.tmp 73),none⟩] none) (.cond (.var 70) (.region [⟨some (74,false),.mv (.var 6),none⟩,⟨some (75,false),.call false (.func 249) [(.tmp 74)],none⟩,⟨some (7,true),.mv (.tmp 75),none⟩,⟨some (76,false),.fieldAddr 0 (.var 5),none⟩,⟨none,.store 1 (.tmp 76) (.const (.int .i64 4)),none⟩] none) (.seq (.region [⟨some (20,false),.fieldAddr 0 (.var 5),none⟩,⟨none,.store 1 (.tmp 20) (.const (.int .i64 5)),none⟩] none) (.seq (.region [⟨some (7,true),.mv (.const (.int .i64 1)),none⟩] none) (.block 3 (.loop ya)))))))))))
def Lf:cm:=.region [⟨some (8,false),.mv (.var 4),none⟩,⟨some (9,false),.mv (.var 4),none⟩,⟨some (10,false),.load none (.var 1),none⟩,⟨some (11,false),.mv (.var 4),none⟩,⟨some (12,false),.qB (.tmp 10) (some (.tmp 11)) none,none⟩,⟨some (13,false),.call false (.func 244) [(.tmp 12)],none⟩,⟨some (14,false),.bin .add (.tmp 9) (.tmp 13),none⟩,⟨some (15,false),.build [.int .i64 0,.int .i64 0,.int .i64 0,.int .i64 0] [(1,1,(.tmp 8)),(2,1,(.tmp 14))],none⟩,⟨some (5,true),.alloc [.int .i64 0,.int .i64 0,.int .i64 0,.int .i64 0],none⟩,⟨none,.store 4 (.var 5) (.tmp 15),none⟩] none
def Lg:cm:=.region [⟨some (16,false),.load none (.var 1),none⟩,⟨some (17,false),.fieldAddr 2 (.var 5),none⟩,⟨some (18,false),.load none (.tmp 17),none⟩,⟨some (19,false),.qB (.tmp 16) (some (.tmp 18)) none,none⟩,⟨some (6,true),.mv (.tmp 19),none⟩] none
def Lh:cm:=.region [⟨some (7,true),.mv (.const (.int .i64 0)),none⟩] none
def Dc:cm:=.seq (.region [⟨some (77,false),.fieldAddr 2 (.var 5),none⟩,⟨some (78,false),.load none (.tmp 77),none⟩,⟨some (79,false),.mv (.var 7),none⟩,⟨some (80,false),.bin .add (.tmp 78) (.tmp 79),none⟩,⟨some (81,false),.fieldAddr 3 (.var 5),none⟩,⟨none,.store 1 (.tmp 81) (.tmp 80),none⟩] none) (.seq (.region [⟨some (82,false),.fieldAddr 3 (.var 5),none⟩,⟨some (83,false),.load none (.tmp 82),none⟩,⟨some (4,true),.mv (.tmp 83),none⟩] none) (.seq (.region [⟨some (84,false),.mv (.var 0),none⟩,⟨some (85,false),.load (some 4) (.var 5),none⟩,⟨some (86,false),.call false (.tmp 84) [(.tmp 85)],none⟩,⟨some (87,false),.un .not (.tmp 86),none⟩,⟨some (88,false),.mv (.tmp 87),none⟩,⟨some (89,false),.fieldAddr 0 (.var 5),some ((.tmp 88),false)⟩,⟨some (90,false),.load none (.tmp 89),some ((.tmp 88),false)⟩,⟨some (91,false),.bin .eql (.tmp 90) (.const (.int .i64 0)),some ((.tmp 88),false)⟩,⟨some (92,true),.pick (.tmp 88) (.const (.bool true)) (.tmp 91),none⟩] none) (.cond (.var 92) (.ret) (.skip))))
def Li:cm:=cX 1 (q Lf (q Lg (q Lh (q (cX 2 wQ) Dc))))
def acA:jv:=⟨93,q (R [o 4 (m (c 0))]) (cX 0 (.loop Li)),[],false⟩
def acB:jv:=⟨30,q (R [o 4 (m (.const (.int .u64 0))),o 5 (m (.const (.int .u64 0)))]) (q (jF k8 (q (R [r 11 (m v0),r 12 (.conv .u32 t11),r 13 (m v1),r 14 (.conv .u32 t13),r 15 (jX (fn 265) [t12,t14]),r 10 (m t15),r 16 (ex t10 0),r 17 (ex t10 1),o 6 (m t16),o 7 (m t17)]) (q (R [r 18 (m v6),r 19 (.conv .u64 t18),r 20 (m k7),r 21 (.conv .u64 t20),o 4 (m t19),o 5 (m t21)]) rt)) k) (q (R [r 23 (m v0),r 24 (m v1),r 25 (jX (fn 266) [t23,t24]),r 22 (m t25),r 26 (ex t22 0),r 27 (ex t22 1),o 8 (m t26),o 9 (m t27)]) (q (R [r 28 (m tk),r 29 (m v9),o 4 (m t28),o 5 (m t29)]) rt))),[.tmp 4,.tmp 5],false⟩
def acC:jv:=⟨51,q (R [o 4 (m (.const (.int .u64 0))),o 5 (m (.const (.int .u64 0)))]) (q (R [r 14 (m v0),r 15 (.bin .and t14 (.const (.int .u64 4294967295))),o 6 (m t15)]) (q (R [r 16 (m v0),r 17 (.bin .shr t16 (.const (.int .u64 32))),o 7 (m t17)]) (q (R [r 18 (m v1),r 19 (.bin .and t18 (.const (.int .u64 4294967295))),o 8 (m t19)]) (q (R [r 20 (m v1),r 21 (.bin .shr t20 (.const (.int .u64 32))),o 9 (m t21)]) (q (R [r 22 (m v6),r 23 (m tk),r 24 (.bin .mul t22 t23),o 10 (m t24)]) (q (R [r 25 (m k7),r 26 (m tk),r 27 (.bin .mul t25 t26),r 28 (m v10),r 29 (.bin .shr t28 (.const (.int .u64 32))),r 30 (c4 t27 t29),o 11 (m t30)]) (q (R [r 31 (m v11),r 32 (.bin .and t31 (.const (.int .u64 4294967295))),o 12 (m t32)]) (q (R [r 33 (m v11),r 34 (.bin .shr t33 (.const (.int .u64 32))),o 13 (m t34)]) (q (R [r 35 (m v12),r 36 (m v6),r 37 (m v9),r 38 (.bin .mul t36 t37),r 39 (c4 t35 t38),o 12 (m t39)]) (q (R [r 40 (m k7),r 41 (m v9),r 42 (.bin .mul t40 t41),r 43 (m Wc),r 44 (c4 t42 t43),r 45 (m v12),r 46 (.bin .shr t45 (.const (.int .u64 32))),r 47 (c4 t44 t46),o 4 (m t47)]) (q (R [r 48 (m v0),r 49 (m v1),r 50 (.bin .mul t48 t49),o 5 (m t50)]) rt))))))))))),[.tmp 4,.tmp 5],false⟩
end Go.Abs.bs
namespace Go.Abs
open Go
variable{C:Ctx}{fid:Nat->Nat}{w w':World}{G G':bT}{H H':Heap}
theorem acD (cw:C.P.follows .mixedOrders=true)(bw:eW C fid){aa:Nat->Option bV}(hT:du C fid aa):gL C fid (bY aa):=
 ⟨Pt aa,fun U ae ha he=>by
  obtain⟨n,hn⟩:=vb.1 he;exact(IX cw bw hT n).run U ae ha hn⟩
theorem acE{k:TypeId}{bP:Nat}{d:TypeDesc}(hk:C.jS k=some bP)(hd:C.P.underlying k=some d){a:V}{x:Value}(ha:bd fid G w a x):∀{bf:List (V × V)} {es:List MapEntry} (i:Nat) {r:V} {j:Nat} {z:Value},
  a1 fid G w (bf.map (·.1)) (es.map (·.key))->a1 fid G w (bf.map (·.2)) (es.map (·.val))->hK bP a bf=some (some r)->Instr.findNow d x es i=some (some (i+j,z))->je bP a bf=bf.eraseIdx j
 |[],[],i,r,j,z,_,_,h,_=>by simp[hK]at h
 |[],_::_,_,_,_,_,h,_,_,_=>by simp at h;cases h
 | _::_,[],_,_,_,_,h,_,_,_=>by simp at h;cases h
 |(bz,u')::bf,e::es,i,r,j,z,eD,cW,h,ae=>by
  simp only[de]at eD cW;cases eD with
  |cons _ _ _ _ gx eD=>
   cases cW with
   |cons _ _ _ _ qL cW=>
    simp only[hK]at h;split at h
    ·rename_i he
     obtain⟨hs,-⟩:=xy hk hd ha gx he;simp only[Instr.findNow,hs,aA,bq]at ae;obtain rfl:j=0:=by omega
     simp only[je,he,if_true,afw]
    ·rename_i he
     obtain⟨hs,-⟩:=xy hk hd ha gx he;simp only[Instr.findNow,hs]at ae;have h9:=rV hk hd ha (i+1) eD cW h;obtain⟨vx,oy,h1,-,-⟩:=h9;rw[h1]at ae;simp only[aA,bq]at ae;obtain⟨hj,rfl⟩:=ae;obtain rfl:j=vx+1:=by omega
     have ih:=acE hk hd ha (i+1) eD cW h h1;have aZ:¬(ix bP a bz=some true):=by rw[he];simp
     simp only[je,aZ,if_false,afx,ih]
    ·cases h
theorem aqF{vars:List Nat}{ag:ai->V}{ρ:Operand->Value}{o:Oper}(aN:fr C fid vars G w ag ρ){m k:Operand}{t eB sW:TypeId}{u:TypeId}(hd:C.P.underlying t=some (.map eB sW)){am hR:ai}{bP:Nat}
  (ho:o.op=.call {callee:=.builtin .delete,args:= #[m,k],argTypes:= #[t,u]}) (h1:C.b5 vars m=some am) (h2:C.b5 vars k=some hR) (gK:C.jS eB=some bP) {l:Nat} (ab:ag am=.map l) {h0:Home} (cp:G.β l=some h0) {bf:List (V × V)} {es:Array MapEntry} {bL:Nat}
  (eQ:w.heap[h0.b]? =some (.map es bL)) (eD:a1 fid G w (bf.map (·.1)) (es.toList.map (·.key))) (cW:a1 fid G w (bf.map (·.2)) (es.toList.map (·.val))) (b7:o4 es bL) {bQ:Option V} (ji:hK bP (ag hR) bf=some bQ):
  ∃bK,(execOp ρ o).run C.P w=.ok (.value (.tuple #[])) {w with heap:=w.heap.setIfInBounds h0.b (.map bK bL)}/\a1 fid G w ((je bP (ag hR) bf).map (·.1)) (bK.toList.map (·.key))/\a1 fid G w ((je bP (ag hR) bf).map (·.2)) (bK.toList.map (·.val))/\
   o4 bK bL/\((bK=es/\je bP (ag hR) bf=bf)\/∃j,bK=es.eraseIdxIfInBounds j/\je bP (ag hR) bf=bf.eraseIdx j):=by
 have hm:=aN m am h1;have hk:=aN k hR h2;obtain⟨Ir,jC⟩:=Iq gK
 have cc:(execOp ρ o).run C.P w=((Builtin.delete_ #[t,u] o.type #[ρ m,ρ k]).run C.P w).andThen fun z w'=>.ok (.value z) w':=by
  rw[vq ho];simp only[builtin,Sem.run_bind,DH,de,iO];rfl
 rw[ab]at hm;obtain⟨aAB,acF,UD,dG⟩:=hm.mapInv;rw[cp]at acF;cases acF;cases bQ with
 |none=>
  have ae:=rV gK jC hk 0 eD cW ji;refine⟨es,?_,by rw[BT ji];exact eD,by rw[BT ji];exact cW,b7,.inl ⟨rfl,BT ji⟩⟩;rw[cc];unfold Builtin.delete_;simp only[dG];simp[run_underlying hd,xz eQ,uj gK,vw (C:=C) jC ae,BR _ eQ,Sem.run_pure,Result.andThen]
 |some r=>
  obtain⟨j,y,ae,-,-⟩:=rV gK jC hk 0 eD cW ji;obtain⟨s1,s2⟩:=NG gK jC hk 0 eD cW ji ae;have e6:=acE gK jC hk 0 eD cW ji ae;rw[dP]at ae;refine⟨es.eraseIdxIfInBounds j,?_,by simpa using s1,by simpa using s2,b7.erase _,.inr ⟨j,rfl,e6⟩⟩;rw[cc];unfold Builtin.delete_;simp only[dG];simp[run_underlying hd,xz eQ,uj gK,vw (C:=C) jC ae,BR _ eQ,Sem.run_pure,Result.andThen]
theorem acG{α β:Type}:∀{j:Nat} {l:List α} {m:List β} {p:α × β},p∈(l.eraseIdx j).zip (m.eraseIdx j)->p∈l.zip m
 | _,[],_,_,h=>by simp at h
 | _,_::_,[],_,h=>by simp at h
 |0,_::_,_::_,_,h=>by simp only[afw]at h;exact kQ _ h
 |j+1,_::_,_::_,_,h=>by
  simp only[afx,DG,dp]at h⊢;exact h.imp id acG
section
variable{vars:List Nat}{N:Nat}
structure rk (C:Ctx) (fid:Nat->Nat) (vars:List Nat) (N base li l r kE bL:Nat) (st:av) (G:bT) (w:World) (seen:Array Nat) (es:Array MapEntry) (d:List V) (bf:List (V × V)) (s:av) (ay:bT) (al:Act) (aD:World):Prop where
 rel:dC C fid vars N ay s al aD
 bQ:gy st {s with low:=min st.low l}
 len:li<s.H.length
 ext:∀m,m<=min st.low l->Ext G w ay aD m st.H.length
 marks:k6 C ay aD base al.defers
 hi:∃h,ay.β li=some h/\h.b=r
 hm:∃h,ay.β l=some h/\h.b=kE
 gone:s.H[li]? =some .gone
 mp:s.H[l]? =some (.map bf)
 iter:aD.heap[r]? =some (.mapIter (some kE) bL seen bL)
 map:aD.heap[kE]? =some (.map es bL)
 hand:∀p∈es.toList.zip bf,p.1.born∈seen->p.2.1∈d
variable{base li l r kE bL:Nat}{st:av}{seen:Array Nat}{es:Array MapEntry}{d:List V}{bf:List (V × V)}{s ao:av}{ay bl:bT}{al a2:Act}{aD bJ:World}
theorem rk.on (h:rk C fid vars N base li l r kE bL st G w seen es d bf s ay al aD)(jZ:l<li)(U:dC C fid vars N bl ao a2 bJ)(c7:∀m,m<=ao.low->Ext ay aD bl bJ m s.H.length)(kB:li<ao.low)(cR:Fr s.H s.H.length ao.H ao.low)(dU:ao.ro=s.ro)
  (hd:k6 C bl bJ base a2.defers):rk C fid vars N base li l r kE bL st G w seen es d bf ao bl a2 bJ:=by
 obtain⟨h1,ab,q1⟩:=h.hi;obtain⟨h2,aj,q2⟩:=h.hm;have g1:=IZ h.rel.rel ab h.gone;have g2:=zu h.rel.rel aj h.mp;have qe:=c7 _ (aF _);have lu:=h.bQ.1.len;refine⟨U,⟨⟨cM h.bQ.1.len cR.len,jO _ _,fun x hx=> ?_⟩,dU.trans h.bQ.2⟩,rB h.len cR.len,fun m hm=> ?_,hd,?_,?_,?_,?_,?_,?_,h.hand⟩
 ·have dM:x<min st.low l:=hx
  exact(cR.same x (by omega)).trans (h.bQ.1.same x hx)
 ·exact(h.ext m hm).trans ((c7 m (by omega)).le (aF _) lu)
 ·obtain⟨h',e',q'⟩:=xJ qe ab g1.1;exact⟨h',e',q'.trans q1⟩
 ·obtain⟨h',e',q'⟩:=xJ qe aj g2.1;exact⟨h',e',q'.trans q2⟩
 ·rw[cR.same li kB];exact h.gone
 ·rw[cR.same l (by omega)];exact h.mp
 ·have:=xI qe h.rel.rel ab kB
  rw[q1]at this;rw[this];exact h.iter
 ·have:=xI qe h.rel.rel aj (by omega)
  rw[q2]at this;rw[this];exact h.map
theorem rk.del (h:rk C fid vars N base li l r kE bL st G w seen es d bf s ay al aD)(jZ:l<li){vars':List Nat}{o:Oper}{m k:Operand}{t eB sW u:TypeId}(bw:eW C fid)(hd:C.P.underlying t=some (.map eB sW)){am hR:ai}{bP:Nat}
  (ho:o.op=.call {callee:=.builtin .delete,args:= #[m,k],argTypes:= #[t,u]}) (h1:C.b5 vars m=some am) (h2:C.b5 vars k=some hR) (gK:C.jS eB=some bP) (ab:am.ag s.aC s.au=.map l) {bQ:Option V} (ji:hK bP (hR.ag s.aC s.au) bf=some bQ):
  ∃bK bl bJ,(execOp al.eval o).run C.P aD=.ok (.value (.tuple #[])) bJ/\bK.toList.Sublist es.toList/\
   rk C fid vars N base li l r kE bL st G w seen bK d (je bP (hR.ag s.aC s.au) bf) {s with aC:=[],H:=s.H.set l (.map (je bP (hR.ag s.aC s.au) bf)),low:=min s.low l} bl al bJ:=by
 obtain⟨ar,bC,cd⟩:=h.hi;obtain⟨aR,cu,c2⟩:=h.hm;obtain⟨oC,jW,NI,aAC,fX,eD,cW,b7⟩:=zu h.rel.rel cu h.mp;rw[c2,h.map]at fX;cases fX;have eQ:aD.heap[aR.b]? =some (.map es bL):=by rw[c2];exact h.map
 obtain⟨bK,cc,b6,dI,kf,Kv⟩:=aqF (s8 bw h.rel) hd ho h1 h2 gK ab cu eQ eD cW b7 ji;generalize je bP (hR.ag s.aC s.au) bf=aqG at*;have aK:aR.b<aD.heap.size:=h.rel.rel.blk l aR cu
 have vy:∀b,b≠aR.b->({aD with heap:=aD.heap.setIfInBounds aR.b (.map bK bL)}:World).heap[b]? =aD.heap[b]? :=fun b aZ=>by
  show(aD.heap.setIfInBounds aR.b _)[b]? =_;rw[SS (kS aZ)]
 have BS:({aD with heap:=aD.heap.setIfInBounds aR.b (.map bK bL)}:World).heap[aR.b]? =some (.map bK bL):=by
  show(aD.heap.setIfInBounds aR.b _)[aR.b]? =_;simp[aK]
 have dk:({aD with heap:=aD.heap.setIfInBounds aR.b (.map bK bL)}:World).heap.size=aD.heap.size:=by simp
 have dM:Ext ay aD ⟨ck ay.β l aR,ay.I⟩ {aD with heap:=aD.heap.setIfInBounds aR.b (.map bK bL)} l s.H.length:=
  Ext.write h.rel.rel cu jW rfl (aF _) id rfl dk vy rfl rfl
 have oF:Ext ay aD ⟨ck ay.β l aR,ay.I⟩ {aD with heap:=aD.heap.setIfInBounds aR.b (.map bK bL)} 0 s.H.length:=dM.le (cD _) (aF _)
 have zt:bK.toList.Sublist es.toList:=by
  rcases Kv with⟨rfl,-⟩|⟨j,rfl,-⟩
  ·exact HN _
  ·rw[aft];exact List.eraseIdx_sublist _ _
 refine⟨bK,⟨ck ay.β l aR,ay.I⟩,_,cc,zt,⟨⟨?_,fun t=> ?_,h.rel.size,?_⟩,⟨⟨?_,jO _ _,fun x hx=> ?_⟩,h.bQ.2⟩,?_,fun m hm=> ?_,h.marks.ext oF,?_,?_,?_,?_,?_,?_,?_⟩⟩
 ·exact aX.write h.rel.rel cu jW rfl jW (aF _) id rfl dk vy (.map aqG) ⟨oC,jW,bK,bL,BS,b6.ext h.rel.rel dM,dI.ext h.rel.rel dM,kf⟩
 ·exact((h.rel.clear).env t).ext h.rel.rel oF
 ·show min s.low l<=(s.H.set l _).length
  rw[yD];exact cM (jO _ _) h.rel.low
 ·show st.H.length<=(s.H.set l _).length
  rw[yD];exact h.bQ.1.len
 ·have acH:x<min st.low l:=hx
  show(s.H.set l _)[x]? =_;rw[iv (by omega)];exact h.bQ.1.same x hx
 ·show li<(s.H.set l _).length
  rw[yD];exact h.len
 ·exact(h.ext m hm).trans (dM.le (by omega) h.bQ.1.len)
 ·exact⟨ar,by show ck ay.β l aR li=_;rw[dx (by omega)];exact bC,cd⟩
 ·exact⟨aR,dh _ _ _,c2⟩
 ·show(s.H.set l _)[li]? =_
  rw[iv (by omega)];exact h.gone
 ·show(s.H.set l _)[l]? =_
  rw[mP (h.rel.rel.lt cu)]
 ·rw[vy r (fun q=> ?_)]
  ·exact h.iter
  ·have:=h.rel.rel.inj _ _ _ _ bC cu (by rw[cd];exact q)
   omega
 ·rw[<-c2];exact BS
 ·intro p hp hb
  refine h.hand p ?_ hb;rcases Kv with⟨rfl,rfl⟩|⟨j,rfl,rfl⟩
  ·exact hp
  ·rw[aft]at hp
   exact acG hp
end
end Go.Abs
namespace Go.Abs
open Go
variable{C:Ctx}{fid:Nat->Nat}{w w':World}{G G':bT}{H H':Heap}
structure AP where
 b1:cm
 c:ai
 GR:List bI
 m:ai
 k:ai
 bP:Nat
structure acI (C:Ctx) (vars:List Nat) (N:Nat) (body:Code) (D:AP):Prop where
 ok:∃(uP:Code) (x id:Nat) (ops:Array Oper) (os:List Oper) (hL:Oper) (m k:Operand) (t eB sW u:TypeId),
  body=.seq uP (.cond (.tmp x) (.region id ops false) .skip)/\C.code vars N uP=some D.b1/\C.b5 vars (.tmp x)=some D.c/\ops.toList=os++[hL]/\dF (C.oper vars N ops) os=some D.GR/\
  hL.op=.call {callee:=.builtin .delete,args:= #[m,k],argTypes:= #[t,u]}/\hL.dst=none/\hL.guard=none/\C.b5 vars m=some D.m/\C.b5 vars k=some D.k/\C.P.underlying t=some (.map eB sW)/\C.jS eB=some D.bP
def eS.Dd (R:eS)(call:cP)(kv:V × V)(st:av):Option av:=
 match R.step call (.aU [.bool true,kv.1,kv.2]) {st with low:=st.H.length}with
 |some st1=>match R.more.ag st1.aC st1.au with
  | .bool true=>
    if dL (bA st1.au R.it) (bA st.au R.it)=true then
     match cY call R.t2 (({st1 with aC:=[]}:av).put (some R.pair) (.aU [kv.1,kv.2])) []with
     |some (st2,_)=>some {st2 with aC:=[]}
     |none=>none
    else none
  | _=>none
 |none=>none
def Rn (R:eS)(D:AP)(aa:Nat->Option bV)(l li:Nat)(bf:List (V × V))(kv:V × V)(s:av)(Inv:List (V × V)->av->Prop):Prop:=
 ∃s2 e6,R.Dd (bY aa) kv s=some s2/\dq aa D.b1 s2=some (.normal,e6)/\li<e6.low/\
  ((D.c.ag e6.aC e6.au=.bool false/\Inv bf e6)\/
   (D.c.ag e6.aC e6.au=.bool true/\∃kp wr bQ,cY (bY aa) D.GR {e6 with aC:=[]} []=some (kp,wr)/\li<kp.low/\D.m.ag kp.aC kp.au=.map l/\hK D.bP (D.k.ag kp.aC kp.au) bf=some bQ/\
     Inv (je D.bP (D.k.ag kp.aC kp.au) bf) {kp with aC:=[],H:=kp.H.set l (.map (je D.bP (D.k.ag kp.aC kp.au) bf)),low:=min kp.low l}))
theorem aqH{α β:Type}{l:List α}{m:List β}{p:α × β}(h:p∈l.zip m):∃i:Nat,l[i]? =some p.1/\m[i]? =some p.2:=by
 obtain⟨i,hi⟩:=pL.1 h;refine⟨i,?_⟩;rw[Dz]at hi;exact hi
theorem aqI{α β:Type}{l:List α}{m:List β}{i:Nat}{a:α}{b:β}(h1:l[i]? =some a)(h2:m[i]? =some b):(a,b)∈l.zip m:=
 gV (Dz.2 ⟨h1,h2⟩:(l.zip m)[i]? =some (a,b))
theorem aqJ{es:Array MapEntry}(hn:(es.toList.map (·.born)).Nodup){i j:Nat}{a b:MapEntry}(h1:es.toList[i]? =some a)(h2:es.toList[j]? =some b)(h:a.born=b.born):i=j:=by
 obtain⟨hi,q1⟩:=e0.1 h1;obtain⟨hj,q2⟩:=e0.1 h2;have hp:=Mb.1 hn;rcases Nat.lt_trichotomy i j with q|q|q
 ·exact absurd (show(es.toList.map (·.born))[i]'(by simpa using hi)=(es.toList.map (·.born))[j]'(by simpa using hj) by rw[HQ,HQ,q1,q2,h]) (hp i j (by simpa using hi) (by simpa using hj) q)
 ·exact q
 ·exact absurd (show(es.toList.map (·.born))[j]'(by simpa using hj)=(es.toList.map (·.born))[i]'(by simpa using hi) by rw[HQ,HQ,q1,q2,h]) (hp j i (by simpa using hj) (by simpa using hi) q)
theorem aqK{es:Array MapEntry}{seen:Array Nat}{e:MapEntry}(he:e∈(leftOf es seen).toList):(leftOf es (seen.push e.born)).size<(leftOf es seen).size:=by
 have p8:e∈es.toList/\seen.contains e.born=false:=by
  unfold leftOf at he;simpa using he
 unfold leftOf;have key:∀p:MapEntry->Bool,(es.filter p).size=(es.toList.filter p).length:=fun p=>by rw[<-fC,Array.toList_filter]
 rw[key,key];refine filter_lt _ _ (fun x hx=> ?_) e ?_ ?_ _ p8.1
 ·simp only[Array.contains_push,mb,yz]at hx⊢
  simp at hx⊢;exact hx.1
 ·rw[p8.2];rfl
 ·simp
theorem aqL{es bK:Array MapEntry}{seen:Array Nat}(h:bK.toList.Sublist es.toList):(leftOf bK seen).size<=(leftOf es seen).size:=by
 unfold leftOf;have key:∀(es:Array MapEntry) (p:MapEntry->Bool),(es.filter p).size=(es.toList.filter p).length:=fun es p=>by rw[<-fC,Array.toList_filter]
 rw[key,key];exact(h.filter _).length_le
theorem aqM{es:Array MapEntry}{seen:Array Nat}(h:(leftOf es seen).size=0):∀e∈es.toList,e.born∈seen:=by
 intro e he;have h0:leftOf es seen= #[]:=afu h;unfold leftOf at h0;rw[afv]at h0;have h1:=h0 e (by simpa using he);simp only[mb,HM]at h1;rw[afy]at h1;exact h1
section
variable{vars:List Nat}{N n:Nat}{aa:Nat->Option bV}
theorem acJ{c:cm}{st:av}{r:X × av}(h:dq aa c st=some r):∃n,Abs.exec (bY aa) n c st=some r:=by
 obtain⟨n,hn⟩:=gv.1 h;exact⟨n,sM (DV n) (aF _) c st r hn⟩
theorem aqN (cw:C.P.follows .mixedOrders=true)(bw:eW C fid)(ba:gL C fid (bY aa)){k0 i1 i2:Nat}{hG on j0:Oper}{kF kG j1:Array Oper}{oJ oK:List Oper}
  {mt it aB more pair out eT:Nat} {tm r5 r6:TypeId} {body:Code} {R:eS} {D:AP}
  (h0:kF[k0]? =some hG) (vK:C.b5 vars (.tmp mt)=some R.src) (tc:hG.op=.range tm (.tmp mt)) (vL:hG.dst=some it) (vM:hG.guard=none) (hit:it<N) (vN:C.P.underlying tm=some (.map r5 r6))
  (h1:kG.toList=on::oJ) (qQ:on.op=.next (.tmp it) false) (hnd:on.dst=some aB) (td:on.guard=none) (oD:aB<N)
  (h2:j1.toList=j0::oK) (te:j0.op=.entry (.tmp it)) (vO:j0.dst=some pair) (vP:j0.guard=none) (vQ:pair<N)
  (qR:vars.contains it=true) (tf:R.aB=(aB,vars.contains aB)) (vR:R.pair=(pair,vars.contains pair))
  (qM:dF (C.oper vars N kG) oJ=some R.t1) (o7:dF (C.oper vars N j1) oK=some R.t2) (qS:C.b5 vars (.tmp more)=some R.more) (xK:acI C vars N body D) (EO:R.it=it)
  {st:av} {l:Nat} {bf:List (V × V)} (qf:R.src.ag st.aC st.au=.map l) (nc:st.H[l]? =some (.map bf)) (Inv:List V->List (V × V)->av->Prop) (Out:List (V × V)->av->Prop)
  (tg:Inv [] bf (hF it st)) (qT:∀d es s,Inv d es s->bA s.au it=.ptr st.H.length 0)
  (oL:∀d es s,Inv d es s->∀kv∈es,Rn R D aa l st.H.length es kv s (fun bK ao=>Inv (d++[kv.1]) bK ao))
  (iC:∀d es s,Inv d es s->(∀kv∈es,kv.1∈d)->∃ao,R.fin (bY aa) s=some ao/\st.H.length<ao.low/\Out es ao)
  {a:Act} {ro:Option Nat} {base:Nat} {Q OA:Exit->Act->World->Prop} (U:dC C fid vars N G st a w) (dU:vG G st.ro ro) (eR:k6 C G w base a.defers) (hb:base<=w.heap.size)
  (dD:∀es ao G' a8 w',Out es ao->gy st {ao with low:=min st.low l}->Fin C fid vars N base st G w {ao with low:=min st.low l} G' a8 w'->Q .normal a8 w'):
  wpOpIn (eH ro) 0 C.P kF OA k0 (fun a8 w'=>(Code.block out (.loop (.seq (.region i1 kG false) (.seq (.cond (.tmp more) .skip (.exit out)) (.block eT (.seq (.region i2 j1 false) body)))))).wpIn (eH ro) 0 C.P Q a8 w') a w:=by
 obtain⟨uP,lz,acK,Lj,acL,hL,cA,Ir,aAD,aAE,aAF,aAG,rfl,p5,Qc,Ro,aqO,acM,aqP,aqQ,aqR,jC,aqS,aqT⟩:=xK.ok;have lv:=s8 bw U (.tmp mt) R.src vK;rw[qf]at lv;obtain⟨fg,vS,OB,OC⟩:=lv.mapInv;obtain⟨-,-,es,bL,eM,eD,cW,b7⟩:=zu U.rel vS nc;have jZ:l<st.H.length:=U.rel.lt vS
 have Er:(execOp a.eval hG).run C.P w=.ok (.value (.pointer (some ⟨w.heap.size,0,none⟩))) (w.alloc (.mapIter (some fg.b) bL #[] bL)):=by
  unfold execOp;rw[tc];have e:a.eval (.tmp mt)=.map (some fg.b):=OC;simp only[e,Sem.run_bind,run_range_map w tm r5 r6 fg.b es bL vN eM,Result.andThen_ok,Sem.run_pure]
 have OE:=U.rel.push .gone (.mapIter (some fg.b) bL #[] bL) 0 0 ⟨rfl,rfl⟩;have r3:∀m k,k<=st.H.length->Ext G w ⟨ck G.β st.H.length ⟨w.heap.size,0,0,false⟩,G.I⟩ (w.alloc (.mapIter (some fg.b) bL #[] bL)) m k:=fun m k hk=>(Ext.push U.rel (.mapIter (some fg.b) bL #[] bL) 0 0 m).le (aF _) hk
 have OG:dC C fid vars N ⟨ck G.β st.H.length ⟨w.heap.size,0,0,false⟩,G.I⟩ {st with H:=st.H++[.gone]} a (w.alloc (.mapIter (some fg.b) bL #[] bL)):=
  ⟨OE,fun t=>(U.env t).ext U.rel (r3 0 0 (cD _)),U.size,by have:=U.low;simp only[fD,fl,mQ];omega⟩
 have lQ:dC C fid vars N ⟨ck G.β st.H.length ⟨w.heap.size,0,0,false⟩,G.I⟩ (hF it st) (a.put (some it) (.pointer (some ⟨w.heap.size,0,none⟩))) (w.alloc (.mapIter (some fg.b) bL #[] bL)):=by
  have:=OG.put hit (v:=.ptr st.H.length 0) (x:=.pointer (some ⟨w.heap.size,0,none⟩)) (.ptr st.H.length 0 ⟨w.heap.size,0,0,false⟩ (dh _ _ _) rfl);rw[qR]at this;exact this.clear
 suffices OH:∀G' a8 w',dC C fid vars N G' (hF it st) a8 w'->(∀m,m<=(hF it st).H.length->Ext ⟨ck G.β st.H.length ⟨w.heap.size,0,0,false⟩,G.I⟩ (w.alloc (.mapIter (some fg.b) bL #[] bL)) G' w' m (hF it st).H.length)->
   a8.defers=a.defers->(Code.block out (.loop (.seq (.region i1 kG false) (.seq (.cond (.tmp more) .skip (.exit out)) (.block eT (.seq (.region i2 j1 false) (.seq uP (.cond (.tmp lz) (.region acK Lj false) .skip)))))))).wpIn (eH ro) 0 C.P Q a8 w' by
  refine IY h0 vM (by rw[tc];simp) Er ?_;rw[vL];exact OH _ _ _ lQ (fun m _=>.refl _ _ _ _) (by rw[put_defers])
 intro G' a8 w' bB b4 eI
 refine wpIn_block (IK (fun k al aD=>∃d seen es bf s ay,Inv d bf s/\(leftOf es seen).size<k/\rk C fid vars N base st.H.length l w.heap.size fg.b bL st G w seen es d bf s ay al aD) ?_
  (j:=(leftOf es #[]).size+1) ?_)
 ·rintro k al aD ⟨d,seen,es,bf,s,ay,bk,hk,bH⟩
  obtain⟨bz,rfl⟩:∃bz,k=bz+1:=⟨k-1,by omega⟩;refine⟨bz,rfl,?_⟩;obtain⟨ar,bC,cd⟩:=bH.hi;obtain⟨aR,cu,c2⟩:=bH.hm
  have EP:al.eval (.tmp it)=.pointer (some ⟨w.heap.size,0,none⟩):=by
   have:=bH.rel.env it;rw[show dJ vars s it=bA s.au it by unfold dJ;rw[if_pos qR],qT d bf s bk]at this;obtain⟨h5,dv,-,fZ⟩:=this.nH;rw[bC]at dv;cases dv;rw[cd]at fZ;exact fZ
  have r7:∀c,on.op≠ .defer c:=by rw[qQ];simp
  have sY:∀c,j0.op≠ .defer c:=by rw[te];simp
  obtain⟨ajj,ajk,bK,sX,ER,xA,y8,y9⟩:=zu bH.rel.rel cu bH.mp;rw[c2,bH.map]at ER;cases ER
  have OD:bf.length=es.size:=by
   have:=xA.length;simpa using this.symm
  rcases VP (P:=C.P) on.type bH.iter bH.map y9.1 (aF _)with⟨dk,cc⟩|⟨e,he,bJ,vT,OI,OJ,cc⟩
  ·
   have eP:∀kv∈bf,kv.1∈d:=fun kv jE=>by
    obtain⟨i,hi⟩:=pL.1 jE
    have nd:i<es.toList.length:=by
     have:=(e0.1 hi).1;simp;omega
    have aqU:es.toList[i]? =some es.toList[i]:=gq nd;exact bH.hand _ (aqI aqU hi) (aqM dk _ (Mq nd))
   obtain⟨ao,ae,kB,OK⟩:=iC d bf s bk eP;unfold eS.fin eS.step at ae;split at ae
   ·rename_i s1 gI
    split at gI
    ·rename_i j2 wr hex
     cases gI;split at ae
     ·rename_i th
      cases ae
      have zv:(execOp al.eval on).run C.P aD=.ok (.value (.tuple #[.bool false])) aD:=by
       unfold execOp;rw[qQ];simp only[EP,Sem.run_bind,cc,Result.andThen_ok,Sem.run_pure]
      have vH:dC C fid vars N ay (({s with aC:=[],low:=s.H.length}:av).put (some R.aB) (.aU [.bool false])) (al.put (some aB) (.tuple #[.bool false])) aD:=by
       rw[tf];exact bH.rel.reset.put oD (.aU _ _ (.cons _ _ _ _ (.p _ _ (.bool false)) .nil))
      refine wpIn_seq (Cf bw ba h1 hnd td r7 qM zv vH hex fun bl a2 fQ gM jj ta=> ?_);have gf:=kD ({s with aC:=[],low:=s.H.length}:av) (some R.aB) (.aU [.bool false]);have cR:=pk ba.bQ _ _ _ _ _ (by rw[gf.1,gf.2.1];exact aF _) hex
      have ep:rk C fid vars N base st.H.length l w.heap.size fg.b bL st G w seen es d bf {j2 with aC:=[]} bl a2 fQ:=by
       refine bH.on jZ gM.clear (fun m hm=> ?_) kB ?_ ?_ ?_
       ·have:=jj m hm
        rw[gf.1]at this;exact this
       ·have:=cR.1
        rw[gf.1,gf.2.1]at this;exact this
       ·exact cR.2.trans gf.2.2
       ·have:=bH.marks.ext (jj 0 (cD _))
        rw[ta];exact this
      have af:=s8 bw ep.rel (.tmp more) R.more qS;rw[th]at af;refine wpIn_seq (wpIn_cond_false af.kY (wpIn_exit ?_));show(if out=out then Q .normal a2 fQ else _);rw[if_pos rfl];have:=ep.len;exact dD _ _ bl a2 fQ OK ep.bQ ⟨⟨ep.rel.rel,ep.rel.env,ep.rel.size,cM (nB _ _) (cM (qz jZ) (qz ep.len))⟩,ep.ext,ep.marks⟩
     ·cases ae
    ·cases gI
   ·cases ae
  ·
   have acN:e∈es.toList/\seen.contains e.born=false:=by
    unfold leftOf at he;simpa using he
   obtain⟨i,hi⟩:=pL.1 acN.1;have r8:=aqK he;have nd:i<es.toList.length:=(e0.1 hi).1;obtain⟨OL,xH⟩:=IZ bH.rel.rel bC bH.gone;obtain⟨kv,jE⟩:∃kv,bf[i]? =some kv:=⟨bf[i]'(by simp at nd;omega),by simp⟩
   have OM:bd fid ay aD kv.1 e.key:=by
    obtain⟨x,hx,hr⟩:=xA.get (i:=i) (v:=kv.1) (by rw[h8,jE];rfl);rw[h8,hi]at hx;cases hx;exact hr
   have mA:bd fid ay aD kv.2 e.val:=by
    obtain⟨x,hx,hr⟩:=y8.get (i:=i) (v:=kv.2) (by rw[h8,jE];rfl);rw[h8,hi]at hx;cases hx;exact hr
   obtain⟨aAH,e6,uQ,I1,VA,zk⟩:=oL d bf s bk kv (gV jE);have hT:=turn bH.rel.rel bC xH (.mapIter (some fg.b) bL (seen.push e.born) bL) .gone fun _ _ _=>⟨OL,xH⟩;rw[I0 bH.gone]at hT;have vU:bJ.heap=(aD.putObj ar.b (.mapIter (some fg.b) bL (seen.push e.born) bL)).heap:=by rw[vT,cd];rfl
   have zx:aX C fid ay s.H bJ:=hT.1.jf vU;have zy:∀m,m<=st.H.length->Ext ay aD ay bJ m s.H.length:=fun m hm=>(hT.2.le hm (aF _)).trans (.jf vU OI OJ _ _)
   have vV:bJ.heap[w.heap.size]? =some (.mapIter (some fg.b) bL (seen.push e.born) bL):=by
    rw[vU,<-cd];exact World.putObj_heap_same (bH.rel.rel.blk _ _ bC)
   have sU:bJ.heap[fg.b]? =some (.map es bL):=by
    rw[vU,World.putObj_heap_other (fun q=> ?_)]
    ·exact bH.map
    ·have:=bH.rel.rel.inj _ _ _ _ bC cu (by rw[c2,<-q]);omega
   have ES:dC C fid vars N ay s al bJ:=⟨zx,fun t=>(bH.rel.env t).ext bH.rel.rel (zy 0 (cD _)),bH.rel.size,bH.rel.low⟩;have zz:=zy 0 (cD _)
   have ET:rk C fid vars N base st.H.length l w.heap.size fg.b bL st G w (seen.push e.born) es (d++[kv.1]) bf s ay al bJ:=
    ⟨ES,bH.bQ,bH.len,fun m hm=>(bH.ext m hm).trans ((zy m (by omega)).le (aF _) bH.bQ.1.len),bH.marks.ext zz,bH.hi,bH.hm,bH.gone,bH.mp,vV,sU,fun p hp De=>by
     obtain⟨j,aqV,acO⟩:=aqH hp;rw[Array.mem_push]at De;rcases De with De|De
     ·exact w9 _ (bH.hand p hp De)
     ·have:=aqJ y9.2 aqV hi De
      subst this;rw[jE]at acO;cases acO;simp⟩
   have EU:=OM.ext bH.rel.rel zz;have EV:=mA.ext bH.rel.rel zz;unfold eS.Dd eS.step at uQ;split at uQ
   case h_2=>cases uQ
   rename_i s1 gI;split at gI
   case h_2=>cases gI
   rename_i j2 wr hex;cases gI;split at uQ
   case h_2=>cases uQ
   rename_i th;split at uQ
   case isFalse=>cases uQ
   rename_i ON
   have OO:bA j2.au it=.ptr st.H.length 0:=by
    have:=vB _ _ ON;rw[EO]at this;exact this.trans (qT d bf s bk)
   split at uQ
   case h_2=>cases uQ
   rename_i s2 OP EW;cases uQ
   have zv:(execOp al.eval on).run C.P aD=.ok (.value (.tuple #[.bool true,e.key,e.val])) bJ:=by
    unfold execOp;rw[qQ];simp only[EP,Sem.run_bind,cc,Result.andThen_ok,Sem.run_pure]
   have vH:dC C fid vars N ay (({s with aC:=[],low:=s.H.length}:av).put (some R.aB) (.aU [.bool true,kv.1,kv.2])) (al.put (some aB) (.tuple #[.bool true,e.key,e.val])) bJ:=by
    rw[tf];exact ES.reset.put oD (.aU _ _ (.cons _ _ _ _ (.p _ _ (.bool true)) (.cons _ _ _ _ EU (.cons _ _ _ _ EV .nil))))
   have gf:=kD ({s with aC:=[],low:=s.H.length}:av) (some R.aB) (.aU [.bool true,kv.1,kv.2]);have cR:=pk ba.bQ _ _ _ _ _ (by rw[gf.1,gf.2.1];exact aF _) hex;have mB:=kD ({j2 with aC:=[]}:av) (some R.pair) (.aU [kv.1,kv.2]);have r1:j2.low<=j2.H.length:=cR.bound (by rw[gf.1,gf.2.1];exact aF _);have vW:=pk ba.bQ _ _ _ _ _ (by rw[mB.1,mB.2.1];exact r1) EW;have zf:s2.low<=s2.H.length:=vW.bound (by rw[mB.1,mB.2.1];exact r1);obtain⟨Iv,acP⟩:=acJ I1;have ti:=mw ba.bQ Iv _ _ _ _ (show({s2 with aC:=[]}:av).low<=({s2 with aC:=[]}:av).H.length from zf) acP;have ajo:e6.low<=s2.low:=ti.1.low;have ajp:s2.low<=j2.low:=by have:=vW.1.low;rw[mB.2.1]at this;exact this
   refine wpIn_seq (Cf bw ba h1 hnd td r7 qM zv vH hex fun bl a2 fQ gM jj ta=> ?_)
   have ep:rk C fid vars N base st.H.length l w.heap.size fg.b bL st G w (seen.push e.born) es (d++[kv.1]) bf {j2 with aC:=[]} bl a2 fQ:=by
    refine ET.on jZ gM.clear (fun m hm=> ?_) (by show st.H.length<j2.low;omega) ?_ ?_ ?_
    ·have:=jj m hm
     rw[gf.1]at this;exact this
    ·have:=cR.1
     rw[gf.1,gf.2.1]at this;exact this
    ·exact cR.2.trans gf.2.2
    ·have:=ET.marks.ext (jj 0 (cD _))
     rw[ta];exact this
   have af:=s8 bw ep.rel (.tmp more) R.more qS;rw[th]at af;refine wpIn_seq (wpIn_cond_true af.kY (wpIn_skip ?_));show(Code.block eT (.seq (.region i2 j1 false) (.seq uP (.cond (.tmp lz) (.region acK Lj false) .skip)))).wpIn (eH ro) 0 C.P _ a2 fQ;refine wpIn_block (wpIn_seq ?_)
   have OQ:a2.eval (.tmp it)=.pointer (some ⟨w.heap.size,0,none⟩):=by
    have:=ep.rel.env it;rw[show dJ vars {j2 with aC:=[]} it=bA j2.au it by unfold dJ;rw[if_pos qR],OO]at this;obtain⟨h5,dv,-,fZ⟩:=this.nH;obtain⟨eo,gY,hU⟩:=ep.hi;rw[gY]at dv;cases dv;rw[hU]at fZ;exact fZ
   have OR:(execOp a2.eval j0).run C.P fQ=.ok (.value (.tuple #[e.key,e.val])) fQ:=by
    have s9:=VQ (P:=C.P) ep.iter ep.map acN.1 y9.2;unfold execOp;rw[te];simp only[OQ,Sem.run_bind,s9,Result.andThen_ok,Sem.run_pure]
   have EX:=jj 0 (cD _)
   have OS:dC C fid vars N bl (({j2 with aC:=[]}:av).put (some R.pair) (.aU [kv.1,kv.2])) (a2.put (some pair) (.tuple #[e.key,e.val])) fQ:=by
    rw[vR];exact ep.rel.put vQ (.aU _ _ (.cons _ _ _ _ (EU.ext zx EX) (.cons _ _ _ _ (EV.ext zx EX) .nil)))
   refine Cf bw ba h2 vO vP sY o7 OR OS EW fun jY a3 Cg zp vJ EK=> ?_
   have nW:rk C fid vars N base st.H.length l w.heap.size fg.b bL st G w (seen.push e.born) es (d++[kv.1]) bf {s2 with aC:=[]} jY a3 Cg:=by
    refine ep.on jZ zp.clear (fun m hm=> ?_) (by show st.H.length<s2.low;omega) ?_ ?_ ?_
    ·have:=vJ m hm
     rw[mB.1]at this;exact this
    ·have:=vW.1
     rw[mB.1,mB.2.1]at this;exact⟨this.len,cM this.low r1,this.same⟩
    ·exact vW.2.trans mB.2.2
    ·have:=ep.marks.ext (vJ 0 (cD _))
     rw[EK];exact this
   refine wpIn_seq (r2 (n:=Iv) cw bw ba uP _ _ _ p5 _ _ _ acP jY a3 Cg ro base _ nW.rel ?_ nW.marks (cM hb (nW.ext 0 (cD _)).size) fun EY a4 I2 F=> ?_)
   ·have lC:({s2 with aC:=[]}:av).ro=st.ro:=nW.bQ.2
    rw[lC];exact dU.ext (nW.ext 0 (cD _))
   have xL:rk C fid vars N base st.H.length l w.heap.size fg.b bL st G w (seen.push e.born) es (d++[kv.1]) bf e6 EY a4 I2:=
    nW.on jZ F.rel F.ext VA ⟨ti.1.len,cM ti.1.low zf,ti.1.same⟩ ti.2 F.marks
   have wM:=s8 bw xL.rel (.tmp lz) D.c Qc;rcases zk with⟨hc,zw⟩|⟨hc,kp,Ae,aAI,acQ,aqW,aqX,aqY,zw⟩
   ·rw[hc]at wM
    refine wpIn_cond_false wM.kY (wpIn_skip ?_);exact⟨d++[kv.1],seen.push e.born,es,bf,e6,EY,zw,by omega,xL⟩
   ·rw[hc]at wM
    refine wpIn_cond_true wM.kY (wpIn_region ?_);have aqZ:Lj.size=acL.length+1:=by rw[<-fC,Ro];simp
    rw[aqZ,DD];have acR:e6.low<=e6.H.length:=xL.rel.low;have Lk:=pk ba.bQ _ _ _ _ _ (show({e6 with aC:=[]}:av).low<=({e6 with aC:=[]}:av).H.length from acR) acQ;refine Ox bw ba (k0:=0) (fun j hj=>by rw[dP,<-gr,Ro,fB hj]) aqO xL.rel.clear acQ fun aq0 a5 aq1 aq2 acS aq3=> ?_;have hk:Lj[0+acL.length]? =some hL:=by rw[dP,<-gr,Ro];simp
    have Rh:rk C fid vars N base st.H.length l w.heap.size fg.b bL st G w (seen.push e.born) es (d++[kv.1]) bf kp aq0 a5 aq1:=by
     refine xL.on jZ aq2 acS aqW ⟨Lk.1.len,cM Lk.1.low acR,Lk.1.same⟩ Lk.2 ?_;rw[aq3];exact xL.marks.ext (acS 0 (cD _))
    obtain⟨aq4,aq5,aAJ,aq6,zt,aq7⟩:=Rh.del jZ (vars':=vars) bw aqS acM aqR jC aqT aqX aqY;rw[qw,wpOpsIn_cons];refine IY hk aqQ (by rw[acM];simp) aq6 ?_;rw[aqP];refine⟨d++[kv.1],seen.push e.born,aq4,_,_,aq5,zw,?_,aq7⟩;have:=aqL (seen:=seen.push e.born) zt;omega
 ·have dY:(hF it st).H.length=st.H.length+1:=by unfold hF;simp
  have ab:=b4 (st.H.length+1) (by show st.H.length+1<=(hF it st).H.length;rw[dY];exact aF _);have eL:=r3 0 st.H.length (aF _)
  have oB:(⟨ck G.β st.H.length ⟨w.heap.size,0,0,false⟩,G.I⟩:bT).β l=some fg:=by
   show ck G.β st.H.length ⟨w.heap.size,0,0,false⟩ l=some fg;rw[dx (by omega)];exact vS
  have vp:(⟨ck G.β st.H.length ⟨w.heap.size,0,0,false⟩,G.I⟩:bT).β st.H.length=some ⟨w.heap.size,0,0,false⟩:=dh _ _ _;refine⟨[],#[],es,bf,hF it st,G',tg,yC _,⟨⟨bB.rel,bB.env,bB.size,?_⟩,⟨⟨?_,jO _ _,fun x hx=> ?_⟩,rfl⟩,?_,fun m hm=> ?_,?_,?_,?_,?_,?_,?_,?_,fun p _ hp=>by simp at hp⟩⟩
  ·exact lQ.low
  ·show st.H.length<=(hF it st).H.length
   omega
  ·have dM:x<min st.low l:=hx
   show(st.H++[bU.gone])[x]? =_;rw[fB (by omega)]
  ·omega
  ·exact(r3 m st.H.length (aF _)).trans ((b4 m (by show m<=(hF it st).H.length;omega)).le (aF _) (by show st.H.length<=(hF it st).H.length;omega))
  ·rw[eI]
   exact(eR.ext eL).ext ab
  ·exact xJ ab vp rfl
  ·exact xJ ab oB OB
  ·show(st.H++[bU.gone])[st.H.length]? =_
   simp
  ·show(st.H++[bU.gone])[l]? =_
   rw[fB jZ];exact nc
  ·have:=xI ab lQ.rel vp (yC _)
   rw[this];exact mi _ _
  ·have:=xI ab lQ.rel oB (by omega)
   rw[this,alloc_old (U.rel.blk _ _ vS)];exact eM
end
end Go.Abs
namespace Go.Abs
open Go
variable{C:Ctx}{fid:Nat->Nat}{w w':World}{G G':bT}{H H':Heap}
variable{vars:List Nat}{N:Nat}{aa:Nat->Option bV}
theorem cS.dq (cw:C.P.follows .mixedOrders=true)(bw:eW C fid)(ba:gL C fid (bY aa)){c:Code}{ac:cm}(hc:C.code vars N c=some ac){st aV:av}{x:X}(he:Abs.dq aa ac st=some (x,aV)):
  cS C fid vars N c st (fun y s=>y=x/\s=aV):=by
 obtain⟨n,hn⟩:=acJ he;exact cS.exec (n:=n) cw bw ba hc hn
theorem cS.block{id:Nat}{c:Code}{st:av}{Out:X->av->Prop}(h:cS C fid vars N c st (fun x s=>Out (Cn id x) s)):cS C fid vars N (.block id c) st Out:=fun G a w ro base Q U dU eR hb dD=>by
 refine wpIn_block (h G a w ro base _ U dU eR hb fun x s ay al aD ho ae F=> ?_);have:=dD _ _ ay al aD ho ae F;cases x with
 |normal=>exact this
 |ret=>exact this
 |exit j=>
  simp only[Cn]at this;cases hb:Nat.beq j id with
  |true=>
   rw[hb]at this;have e:=ey hb;subst e;simp only[B4,Exit.inBlock,if_true];exact this
  |false=>
   rw[hb]at this;have e:¬j=id:=fun e=>by rw[e,yI]at hb;cases hb
   simp only[B4,Exit.inBlock,e,if_false];exact this
theorem cS.loop{c:Code}{st:av}{Out:X->av->Prop}(I:Nat->av->Prop)(k:Nat)(h0:I k st)(h:∀k s,I k s->cS C fid vars N c s (fun x ao=>(x=.normal/\∃j,k=j+1/\I j ao)\/(x≠ .normal/\Out x ao))):cS C fid vars N (.loop c) st Out:=fun G a w ro base Q U dU eR hb dD=>by
 refine IK (fun k al aD=>∃j s ay,k=j+1/\I j s/\gy st s/\Fin C fid vars N base st G w s ay al aD) ?_ (j:=k+1) ⟨k,st,G,rfl,h0,.refl _,.refl U eR⟩;rintro _ al aD ⟨k,s,ay,rfl,bk,ae,F⟩;refine⟨k,rfl,?_⟩;refine h k s bk ay al aD ro base _ F.rel (by rw[ae.2];exact dU.ext (F.ext 0 (cD _))) F.marks (cM hb (F.ext 0 (cD _)).size) fun x s2 bl a2 bJ ho zB ur=> ?_;rcases ho with⟨rfl,j,hj,aq8⟩|⟨hx,ho⟩
 ·exact⟨j,s2,bl,hj,aq8,ae.trans zB,F.trans ur ae zB⟩
 ·have:=dD x s2 bl a2 bJ ho (ae.trans zB) (F.trans ur ae zB)
  cases x with
  |normal=>exact absurd rfl hx
  |exit id=>exact this
  |ret=>exact this
def Rp:Go.Op->Option (Operand × Operand × TypeId × TypeId)
 | .call ⟨.builtin .delete,⟨[m,k]⟩,⟨[t,u]⟩⟩=>some (m,k,t,u)
 | _=>none
theorem aq9{o:Go.Op}{m k:Operand}{t u:TypeId}(h:Rp o=some (m,k,t,u)):o=.call {callee:=.builtin .delete,args:= #[m,k],argTypes:= #[t,u]}:=by
 unfold Rp at h;split at h
 ·cases h;rfl
 ·cases h
def Df (C:Ctx)(vars:List Nat)(N:Nat):Code->Option AP
 | .seq uP (.cond (.tmp x) (.region _ ops false) .skip)=>match zC ops.toList with
   |some (os,⟨none,hL,_,_,_,none⟩)=>match Rp hL with
    |some (m,k,t,_)=>match C.code vars N uP,C.b5 vars (.tmp x),dF (C.oper vars N ops) os,C.b5 vars m,C.b5 vars k,C.P.underlying t with
     |some b1,some c,some GR,some am,some hR,some (.map eB _)=>(C.jS eB).map fun bP=>⟨b1,c,GR,am,hR,bP⟩
     | _,_,_,_,_,_=>none
    | _=>none
   | _=>none
 | _=>none
theorem ara{body:Code}{D:AP}(h:Df C vars N body=some D):acI C vars N body D:=by
 unfold Df at h;split at h
 ·rename_i uP x id ops
  split at h
  ·rename_i os hL ty ps mf eL
   split at h
   ·rename_i m k t u hd
    split at h
    ·rename_i b1 c GR am hR eB sW ab aj bC cu dv gY
     obtain⟨bP,gK,rfl⟩:=cj.1 h;exact⟨uP,x,id,ops,os,_,m,k,t,eB,sW,u,rfl,ab,aj,OU eL,bC,aq9 hd,rfl,rfl,cu,dv,gY,gK⟩
    ·cases h
   ·cases h
  ·cases h
 ·cases h
def Ll:Code->Code
 | .seq (.region _ _ false) (.block _ (.loop (.seq (.region _ _ false) (.seq (.cond (.tmp _) .skip (.exit _)) (.block _ (.seq (.region _ _ false) body))))))=>body
 | _=>.skip
theorem cS.arb (cw:C.P.follows .mixedOrders=true)(bw:eW C fid)(ba:gL C fid (bY aa)){c:Code}{R:eS}{D:AP}(hr:zD C vars N c=some R)(hd:Df C vars N (Ll c)=some D){iD st:av}{wr:List Bool}(he:cY (bY aa) R.t0 {iD with aC:=[]} []=some (st,wr))
  {l:Nat} {bf:List (V × V)} (qf:R.src.ag st.aC st.au=.map l) (nc:st.H[l]? =some (.map bf)) (Inv:List V->List (V × V)->av->Prop) (Out:List (V × V)->av->Prop)
  (tg:Inv [] bf (hF R.it st)) (qT:∀d es s,Inv d es s->bA s.au R.it=.ptr st.H.length 0)
  (oL:∀d es s,Inv d es s->∀kv∈es,Rn R D aa l st.H.length es kv s (fun bK ao=>Inv (d++[kv.1]) bK ao))
  (iC:∀d es s,Inv d es s->(∀kv∈es,kv.1∈d)->∃ao,R.fin (bY aa) s=some ao/\st.H.length<ao.low/\Out es ao):
  cS C fid vars N c iD (fun x s=>x=.normal/\∃es ao,Out es ao/\s={ao with low:=min st.low l}):=fun G a w ro base Q U dU eR hb dD=>by
 obtain⟨i0,i1,i2,hG,on,j0,kF,kG,j1,qg,oJ,oK,mt,aB,more,pair,out,tm,r5,r6,body,rfl,h0,oC,vK,tc,vL,vM,hit,vN,h1,qQ,hnd,td,oD,h2,te,vO,vP,vQ,qR,tf,vR,qM,o7,qS,xK⟩:=(OV hr).ok;have cR:=pk ba.bQ _ _ _ _ _ (show({iD with aC:=[]}:av).low<=({iD with aC:=[]}:av).H.length from U.low) he;have zA:gy iD st:=cR;have dk:kF.size=qg.length+1:=by rw[<-fC,h0];simp
 refine wpIn_seq (wpIn_region ?_);rw[dk,DD];refine Ox bw ba (k0:=0) (fun j hj=>by rw[dP,<-gr,h0,fB hj]) oC U.clear he fun ay al aD bB b4 eI=> ?_;have eL:=b4 0 (cD _);have hk:kF[0+qg.length]? =some hG:=by rw[dP,<-gr,h0];simp
 have EZ:k6 C ay aD base al.defers:=by rw[eI];exact eR.ext eL
 rw[qw,wpOpsIn_cons]
 exact aqN (aa:=aa) cw bw ba hk vK tc vL vM hit vN h1 qQ hnd td oD h2 te vO vP vQ qR tf vR qM o7 qS (ara hd) rfl qf nc Inv Out tg qT oL iC bB (by rw[zA.2];exact dU.ext eL) EZ (cM hb eL.size)
  fun es ao G' a8 w' ho ae F=>dD .normal _ G' a8 w' ⟨rfl,es,ao,ho,rfl⟩ (zA.trans ae) (Fin.trans (st:=iD) (st1:=st) ⟨bB,b4,EZ⟩ F zA ae)
end Go.Abs
namespace Go.Abs
open Go
section
variable{aa:Nat->Option bV}{b:Nat}{σ:bN}{H:Heap}{au:Env}{R:eS}
theorem acT{e:V}{Q:bN->Heap->Prop}(h:Op aa b R.t1 (fw n3 (some R.aB) e) (fx σ (some R.aB) e) H [] (fun aS H' _=>Q aS H'))(hs:Fits au σ)(hb:b<=H.length):
  ∃di H' low' aS,R.step (bY aa) e ⟨[],au,H,H.length,none⟩=some ⟨[],di,H',low',none⟩/\Fits di aS/\b<=low'/\b<=H'.length/\Q aS H':=by
 obtain⟨nh,k9,ab,aj,bC⟩:=wc tn hs H H.length (some R.aB) e;obtain⟨iT,di,H',low',fh,aS,q1,q2,cd,c2,fi⟩:=h nh k9 H.length aj bC hb hb;refine⟨di,H',low',aS,?_,q2,cd,c2,fi⟩;unfold eS.step;rw[ab,q1]
theorem arc{Q:bN->Heap->Prop}(h:Op aa b R.t1 (fw n3 (some R.aB) (.aU [.bool false])) (fx σ (some R.aB) (.aU [.bool false])) H [] (fun aS H' _=>bn n3 aS R.more=.bool false/\Q aS H'))(hs:Fits au σ)(hb:b<=H.length){low:Nat}:
  ∃di H' low' aS,R.fin (bY aa) ⟨[],au,H,low,none⟩=some ⟨[],di,H',low',none⟩/\Fits di aS/\b<=low'/\b<=H'.length/\Q aS H':=by
 obtain⟨di,H',low',aS,q1,q2,cd,c2,fi,hU⟩:=acT h hs hb;refine⟨di,H',low',aS,?_,q2,cd,c2,hU⟩;unfold eS.fin;simp only[q1];rw[tp tn q2,fi]
theorem ard{kv:V × V}{Q:bN->Heap->Prop}{li:Nat}(hit:σ R.it=.ptr li 0)
  (h:Op aa b R.t1 (fw n3 (some R.aB) (.aU [.bool true,kv.1,kv.2])) (fx σ (some R.aB) (.aU [.bool true,kv.1,kv.2])) H [] (fun cL H1 _=>bn n3 cL R.more=.bool true/\cL R.it=.ptr li 0/\
    Op aa b R.t2 (fw n3 (some R.pair) (.aU [kv.1,kv.2])) (fx cL (some R.pair) (.aU [kv.1,kv.2])) H1 [] (fun jH H2 _=>Q jH H2))) (hs:Fits au σ) (hb:b<=H.length) {low:Nat}:
  ∃di H' low' aS,R.Dd (bY aa) kv ⟨[],au,H,low,none⟩=some ⟨[],di,H',low',none⟩/\Fits di aS/\b<=low'/\b<=H'.length/\Q aS H':=by
 obtain⟨k9,H1,bG,cL,q1,q2,cd,c2,fi,hU,nU⟩:=acT h hs hb;obtain⟨aaj,Cs,ab,aj,bC⟩:=wc tn q2 H1 bG (some R.pair) (.aU [kv.1,kv.2]);obtain⟨iT,di,H',low',fh,aS,bB,b4,eI,gM,jj⟩:=nU aaj Cs bG aj bC cd c2;refine⟨di,H',low',aS,?_,b4,eI,gM,jj⟩;unfold eS.Dd;simp only[q1];rw[tp tn q2,fi];have e:dL (bA k9 R.it) (bA au R.it)=true:=by rw[q2,hs,hU,hit];simp[dL]
 simp only[e,if_true,ab,bB]
end
section
variable{C:Ctx}{fid:Nat->Nat}{vars:List Nat}{N:Nat}{aa:Nat->Option bV}
theorem cS.AQ (cw:C.P.follows .mixedOrders=true)(bw:eW C fid)(ba:gL C fid (bY aa)){a d:Code}{A B:cm}(hc:C.code vars N a=some A){st ao:av}{x:X}{Out:X->av->Prop}(he:Abs.dq aa (.seq A B) st=some (x,ao))
  (k:∀s,Abs.dq aa B s=some (x,ao)->cS C fid vars N d s Out) (dI:x≠ .normal->Out x ao):cS C fid vars N (.seq a d) st Out:=by
 rw[iy]at he;cases hA:Abs.dq aa A st with
 |none=>rw[hA]at he;cases he
 |some p=>
  obtain⟨y,s⟩:=p;rw[hA]at he;refine cS.seq (cS.dq cw bw ba hc hA) (fun s1 h1=> ?_) fun xX s1 hy h1=> ?_
  ·obtain⟨ab,rfl⟩:=h1
   subst ab;exact k s1 he
  ·obtain⟨rfl,rfl⟩:=h1
   cases xX with
   |normal=>exact absurd rfl hy
   |exit i=>cases he;exact dI (by simp)
   |ret=>cases he;exact dI (by simp)
end
end Go.Abs
