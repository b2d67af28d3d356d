/- Texts of this claim, joined and written short by a program. -/
import Derived.Test.YtdiodnpdllkbaaaGreatDoorP22
import Derived.Test.YtdiodnpdllkbaaaGreatDoorP24
import Derived.Test.YtdiodnpdllkbaaaGreatDoorP28
import Derived.Test.YtdiodnpdllkbaaaGreatDoorP14
import Derived.Test.YtdiodnpdllkbaaaGreatDoorP21
import Derived.Test.YtdiodnpdllkbaaaGreatDoorP00
set_option linter.unusedVariables false
set_option linter.unusedSimpArgs false
set_option linter.unusedSectionVars false
namespace Go.Abs.bw
open Go Go.Abs Go.Abs.gK
noncomputable section
def XW (aa:Nat->Option bY):Prop:=∀(H0:Heap) (ah:Int) (r:Bool),yT ah=some r->bZ aa (.fn 78 [] []) [.int .u8 ah] H0=some (.bool r,H0,H0.length)
def XX (aa:Nat->Option bY):Prop:=∀(H0:Heap) (ah:Int) (r:Bool),yU ah=some r->bZ aa (.fn 81 [] []) [.int .u8 ah] H0=some (.bool r,H0,H0.length)
def XY (aa:Nat->Option bY):Prop:=∀(H0:Heap) (ah:Int) (r:Bool),DT ah=some r->bZ aa (.fn 80 [] []) [.int .u8 ah] H0=some (.bool r,H0,H0.length)
def XZ (aa:Nat->Option bY):Prop:=∀(H0:Heap) (ah:Int) (r:Bool),A9 ah=some r->bZ aa (.fn 83 [] []) [.int .u8 ah] H0=some (.bool r,H0,H0.length)
def X0 (aa:Nat->Option bY):Prop:=∀(H0:Heap) (ah:bH) (r:Bool),DP ah=some r->bZ aa (.fn 84 [] []) [.str ah] H0=some (.bool r,H0,H0.length)
def X1 (aa:Nat->Option bY):Prop:=∀(H0:Heap) (ah:bH) (r:Int),A7 ah=some r->bZ aa (.fn 82 [] []) [.str ah] H0=some (aD r,H0,H0.length)
def X2 (aa:Nat->Option bY):Prop:=∀(H0:Heap) (EV:cN) (akE:Own H0 EV) (ah:bH) (ba:(Int->Option Bool)) (vK:V) (akF:∀H low,eP H low vK=some (vK,H,low)) (akG:∀H (z0:Int) (q:Bool),Own H EV->ba z0=some q->bZ aa vK [.int .u8 z0] H=some (.bool q,H,H.length)) (r:Int),A8 ah ba=some r->bZ aa (.fn 79 [] []) [.str ah,vK] H0=some (aD r,H0,H0.length)
def X3 (aa:Nat->Option bY):Prop:=∀(H0:Heap) (ah:bH) (r:Int),DS ah=some r->bZ aa (.fn 77 [] []) [.str ah] H0=some (aD r,H0,H0.length)
def X4 (aa:Nat->Option bY):Prop:=∀(H0:Heap) (ah:Int) (r:Bool),Ba ah=some r->bZ aa (.fn 140 [] []) [.int .u8 ah] H0=some (.bool r,H0,H0.length)
def Jn (aa:Nat->Option bY):Prop:=∀(H0:Heap) (ah:Int) (ba:Int) (r:Bool),kg ah ba=some r->bZ aa (.fn 26 [] []) [aD ah,aD ba] H0=some (.bool r,H0,H0.length)
def zq (aa:Nat->Option bY):Prop:=∀(H0:Heap) (EV:cN) (akE:Own H0 EV) (ah:(ak gk)) (ba:(gk->Option Bool)) (vK:V) (akF:∀H low,eP H low vK=some (vK,H,low)) (akG:∀H (z0:gk) (q:Bool),Own H EV->ba z0=some q->bZ aa vK [.agg [aD z0.Table,aD z0.jt,aD z0.da]] H=some (.bool q,H,H.length)) (r:Bool),DM ah ba=some r->bZ aa (.fn 69 [] []) [bg 3 iX ah,vK] H0=some (.bool r,H0,H0.length)
def akH (aa:Nat->Option bY):Prop:=∀(H0:Heap) (ah:(ak Range)) (ba:Int) (r:(ak Range)),DJ ah ba=some r->bZ aa (.fn 60 [] []) [bg 2 pS ah,aD ba] H0=some (bg 2 pS r,H0,H0.length)
variable{aa:Nat->Option bY}
theorem X5 (h:mQ (J:=bn) aa ⟨78,[],[.v 3],[1],fun c a=>yT a.1⟩):XW aa:=fun H0 a0 r q=>h H0 [] () (a0,()) [] _ r rfl (.nil H0) ⟨_,rfl,rfl⟩ q
theorem X6 (h:mQ (J:=bn) aa ⟨81,[],[.v 3],[1],fun c a=>yU a.1⟩):XX aa:=fun H0 a0 r q=>h H0 [] () (a0,()) [] _ r rfl (.nil H0) ⟨_,rfl,rfl⟩ q
theorem X7 (h:mQ (J:=bn) aa ⟨80,[],[.v 3],[1],fun c a=>DT a.1⟩):XY aa:=fun H0 a0 r q=>h H0 [] () (a0,()) [] _ r rfl (.nil H0) ⟨_,rfl,rfl⟩ q
theorem X8 (h:mQ (J:=bn) aa ⟨83,[],[.v 3],[1],fun c a=>A9 a.1⟩):XZ aa:=fun H0 a0 r q=>h H0 [] () (a0,()) [] _ r rfl (.nil H0) ⟨_,rfl,rfl⟩ q
theorem X9 (h:mQ (J:=bn) aa ⟨84,[],[.v 2],[1],fun c a=>DP a.1⟩):X0 aa:=fun H0 a0 r q=>h H0 [] () (a0,()) [] _ r rfl (.nil H0) ⟨_,rfl,rfl⟩ q
theorem Ya (h:mQ (J:=bn) aa ⟨82,[],[.v 2],[0],fun c a=>A7 a.1⟩):X1 aa:=fun H0 a0 r q=>h H0 [] () (a0,()) [] _ r rfl (.nil H0) ⟨_,rfl,rfl⟩ q
theorem Yb (h:mQ (J:=bn) aa ⟨79,[],[.v 2,.f [3] 1],[0],fun c a=>A8 a.1 a.2.1⟩):X2 aa:=fun H0 F aA a0 ai cq te il r q=>h H0 F () (a0,ai,()) [] _ r rfl aA ⟨_,rfl,⟨cq,_,rfl,⟨te,il⟩,rfl⟩⟩ q
theorem Yc (h:mQ (J:=bn) aa ⟨77,[],[.v 2],[0],fun c a=>DS a.1⟩):X3 aa:=fun H0 a0 r q=>h H0 [] () (a0,()) [] _ r rfl (.nil H0) ⟨_,rfl,rfl⟩ q
theorem Yd (h:mQ (J:=bn) aa ⟨140,[],[.v 3],[1],fun c a=>Ba a.1⟩):X4 aa:=fun H0 a0 r q=>h H0 [] () (a0,()) [] _ r rfl (.nil H0) ⟨_,rfl,rfl⟩ q
theorem akI (h:mQ (J:=bn) aa ⟨26,[],[.v 0,.v 0],[1],fun c a=>kg a.1 a.2.1⟩):Jn aa:=fun H0 a0 ai r q=>h H0 [] () (a0,ai,()) [] _ r rfl (.nil H0) ⟨_,rfl,⟨_,rfl,rfl⟩⟩ q
theorem akJ (h:mQ (J:=bn) aa ⟨69,[],[.v 5,.f [4] 1],[1],fun c a=>DM a.1 a.2.1⟩):zq aa:=fun H0 F aA a0 ai cq te il r q=>h H0 F () (a0,ai,()) [] _ r rfl aA ⟨_,rfl,⟨cq,_,rfl,⟨te,il⟩,rfl⟩⟩ q
end
end Go.Abs.bw
namespace Go.Abs.bw
open Go Go.Abs Go.Abs.S
def akK:cj:=q (R [r 22 (iG 3 T3 v20),r 23 (ls 3 t22),o 4 (.alloc [z,z,z]),n (st 3 v4 t23)]) (q (q (R [r 24 (c9 0 v4),r 25 (bF t24),r 26 (c9 0 v1),r 27 (c9 1 t26),r 28 (bF t27),r 29 (gq 1 t28),r 30 (fA (fn 26) [t25,t29]),r 31 (no t30),r 32 (m t31),rg 33 t32 false (c9 2 v4),rg 34 t32 false (bF t33),rg 35 t32 false (c9 0 v1),rg 36 t32 false (c9 1 t35),rg 37 t32 false (bF t36),rg 38 t32 false (gq 1 t37),rg 39 t32 false (fA (fn 26) [t34,t38]),rg 40 t32 false (no t39),r 41 (hI t32 h7 t40),r 42 (m t41),rg 43 t42 false (c9 0 v4),rg 44 t42 false (bF t43),rg 45 t42 false (c9 2 v4),rg 46 t42 false (bF t45),rg 47 t42 false (eq t44 t46),o 48 (hI t42 h7 t47)]) (gg af8 (q (R [o 2 (m gI)]) rt) k)) (q (lB [r 49 (c9 0 v1),r 50 (c9 1 t49),r 51 (bF t50),r 52 (c9 0 v4),r 53 (bF t52),r 54 (iG 6 t51 t53),r 55 (ls 6 t54),r 56 (c9 0 v1),r 57 (c9 1 t56),r 58 (bF t57),r 59 (c9 2 v4),r 60 (bF t59),r 61 (iG 6 t58 t60),r 62 (ls 6 t61),o 5 (.alloc [kV,z,nl,z,z,z]),o 6 (.alloc [kV,z,nl,z,z,z]),n (st 6 v5 t55),n (st 6 v6 t62)] [0,1,3,0,8,31,63,0,128,384,0,1024,3968,8064,0,0,49279,131071]) (q (lB [r 63 (c9 1 v5),r 64 (bF t63),r 65 (ne t64 (c 0)),r 66 (m t65),rg 67 t66 false (c9 1 v6),rg 68 t66 false (bF t67),rg 69 t66 false (ne t68 (c 0)),r 70 (hI t66 h7 t69),r 71 (m t70),rg 72 t71 false (c9 1 v4),rg 73 t71 false (bF t72),rg 74 t71 false (c9 2 v5),rg 75 t71 false (bF t74),rg 76 t71 false (gq 1 t75),rg 77 t71 false (fA (fn 26) [t73,t76]),rg 78 t71 false (no t77),r 79 (hI t71 h7 t78),r 80 (m t79),rg 81 t80 false (c9 2 v6),rg 82 t80 false (bF t81),rg 83 t80 false (gq 1 t82),rg 84 t80 false (ne t83 (c 1)),r 85 (hI t80 h7 t84),r 86 (m t85),rg 87 t86 false (c9 2 v6),rg 88 t86 false (bF t87),rg 89 t86 false (iG 1 t88 (c 0)),rg 90 t86 false (bF t89),rg 91 t86 false (c9 2 v5),rg 92 t86 false (bF t91),rg 93 t86 false (c9 1 v4),rg 94 t86 false (bF t93),rg 95 t86 false (iG 1 t92 t94),rg 96 t86 false (bF t95),rg 97 t86 false (ne t90 t96),o 98 (hI t86 h7 t97)] [0,1,3,7,15,31,63,127,255,511,1023,511,2559,6655,16383,32767,65535,131071,262143,524287,1048575,2097151,4194303,8388607,16777215,33554431,67108863,134217727,16777215,285212671,16777215,1090519039,4043309055,8338276351,17179869183,34359738367]) (gg aga (q (R [o 2 (m gI)]) rt) k))))
def akL:cj:=q (R [r 107 (iG 3 T4 v105),r 108 (ls 3 t107),o 9 (.alloc [z,z,z]),n (st 3 v9 t108)]) (R [r 109 (bF ka),r 110 (c9 0 v9),r 111 (bF t110),n (.px 0 t109 t111 h7)])
def akM:cj:=q (R [r 121 (.fail),o 122 (ex t121 0)]) (q (gg agb k (e 6)) (b0 7 (q (R [r 123 (.fail),r 124 (ex t123 0),o 10 (.alloc [z]),n (st 1 v10 t124)]) (q (R [r 125 (c9 0 v1),r 126 (c9 6 t125),r 127 (bF t126),r 128 (.sS 70 [] [v10,ka]),r 129 (fA (fn 69) [t127,t128]),o 130 (no t129)]) (gg v130 (R [r 131 (bF ka),r 132 (bF v10),n (.xK 0 t131 t132)]) k)))))
def akN:cj:=q (R [r 119 (bF ka),o 120 (.fail)]) (b0 6 (.loop akM))
def zr:h3:=⟨137,q (R [o 1 (ij v0),o 2 (m gI)]) (q (q (R [r 11 (c9 0 v1),r 12 (c9 6 t11),r 13 (bF t12),r 14 (gq 1 t13),o 15 (gt t14 (c 12))]) (gg r8 (q (R [o 2 (m gI)]) rt) k)) (q (q (R [r 16 (c9 0 v1),r 17 (c9 6 t16),o 18 (bF t17),o 19 (gq 1 T3),o 20 (m (c 0))]) (b0 0 (.loop (vd 21 19 20 99 1 0 akK)))) (q (R [r 100 (.mkMap),o 7 (.alloc [.iw]),n (st 1 ka t100)]) (q (q (R [r 101 (c9 0 v1),r 102 (c9 6 t101),o 103 (bF t102),o 104 (gq 1 T4),o 105 (m (c 0))]) (b0 2 (.loop (vd 106 104 105 112 3 2 akL)))) (q (q (R [r 113 (c9 0 v1),r 114 (c9 6 t113),r 115 (bF t114),o 116 (gq 1 t115),o 117 (m (c 0))]) (b0 4 (.loop (vd 118 116 117 133 5 4 akN)))) (q (R [r 134 (bF ka),r 135 (gq 2 t134),r 136 (eq t135 (c 0)),o 2 (m t136)]) rt)))))),[.tmp 2],false⟩
def EW:cj:=R [o 3 (.alloc [z,z,z,z]),n (st 4 v3 He)]
def EX:cj:=b0 1 (q (q (R [r 14 (c9 2 v3),r 15 (bF t14),r 16 (ne t15 (c 0)),r 17 (m t16),rg 18 t17 false (c9 3 v3),rg 19 t17 false (bF t18),rg 20 t17 false (bF v1),rg 21 t17 false (gq 0 t20),rg 22 t17 false (ne t19 t21),o 23 (hI t17 h7 t22)]) (gg af0 (e 0) k)) (q (R [r 24 (c9 0 v3),r 25 (bF t24),n (st 1 v2 t25)]) rt))
def EY:h3:=⟨26,q (R [o 1 (ij v0),o 2 (.alloc [z])]) (q (q (R [r 4 (bF v1),r 5 (eq t4 (cs [])),r 6 (m t5),rg 7 t6 false (bF v1),rg 8 t6 false (gq 0 t7),rg 9 t6 false (gt t8 (c 4096)),o 10 (hI t6 h7 t9)]) (gg v10 (q (R [n (st 1 v2 (c 0))]) rt) k)) (q (q (R [r 11 (bF v1),o 12 (fA (fn 38) [t11])]) (b0 0 (.rangeFunc v12 [13] EW EX))) (q (R [n (st 1 v2 (c 0))]) rt))),[.cell 2 none],false⟩
def Ye:h3:=⟨6,q (R [o 1 (ij v0),o 2 (m (.const (.jV)))]) (q (R [r 4 (fA (fn 75) []),o 3 (.alloc [.iw]),n (st 1 v3 t4)]) (q (R [r 5 (.sS 76 [] [v1,v3]),o 2 (m t5)]) rt)),[.tmp 2],false⟩
def EZ:cj:=q (q (R [r 34 (m r7),r 35 (m ka),r 36 (gq 1 t35),o 37 (lt t34 t36)]) (gg v37 k (e 0))) (b0 1 (lB [r 38 (m r7),r 39 (m ka),r 40 (m r7),r 41 (.pw 2 t39 (some t40) none none),r 42 (m ka),r 43 (m r7),r 44 (.pw 2 t42 none (some t43) none),r 45 (.copy 2 t41 t44),r 46 (dc t38 t45),o 8 (m t46)] [0,0,0,6,0,0,48,126,255,511]))
def Yf:h3:=⟨48,q (R [o 4 (m nc)]) (q (q (R [r 9 (m v1),o 10 (lt t9 (c 0))]) (gg v10 (R [r 11 (.zZ 9 (cs [99,97,110,110,111,116,32,98,101,32,110,101,103,97,116,105,118,101])),n (.fail)]) k)) (q (R [r 13 (m v0),r 14 (gq 1 t13),r 15 (.conv .u64 t14),r 16 (m v1),r 17 (.conv .u64 t16),r 18 (fA (fn 126) [t15,t17]),r 12 (m t18),r 19 (ex t12 0),r 20 (ex t12 1),o 5 (m t19),o 6 (m t20)]) (q (q (R [r 21 (m v5),r 22 (gt t21 (.const (.int .u64 0))),r 23 (m t22),rg 24 t23 false (m v6),rg 25 t23 false (gt t24 (.const (.int .u64 9223372036854775807))),o 26 (hI t23 h7 t25)]) (gg af2 (R [r 27 (.zZ 9 (cs [116,104,101,32,114,101,115,117,108,116,32,111,102,32,40,108,101,110,40,120,41,32,42,32,99,111,117,110,116,41,32,111,118,101,114,102,108,111,119,115])),n (.fail)]) k)) (q (R [r 28 (m v6),r 29 (.conv .i64 t28),r 30 (.mkSlice 2 [z,z] 16 t29 t29),o 7 (m t30)]) (q (R [r 31 (m ka),r 32 (m v0),r 33 (.copy 2 t31 t32),o 8 (m t33)]) (q (b0 0 (.loop EZ)) (q (R [r 47 (m ka),o 4 (m t47)]) rt))))))),[.tmp 4],false⟩
def BG:h3:=⟨15,q (R [o 3 (ij v0),o 4 (m gI)]) (q (R [r 5 (c9 0 v3),r 6 (bF t5),r 7 (bF v1),r 8 (eq t6 t7),r 9 (m t8),rg 10 t9 true (bF v2),rg 11 t9 true (c9 2 v3),rg 12 t9 true (bF t11),rg 13 t9 true (.lookup 0 (.bool false) t10 t12 false),r 14 (hI t9 t13 gI),o 4 (m t14)]) rt),[.tmp 4],false⟩
def O1:cj:=q (R [r 9 (iG 1 v5 ka),r 10 (bF t9),o 3 (m t10)]) (R [r 11 (m v1),r 12 (m v3),n (.px 1 t11 t12 h7)])
def Yg:h3:=⟨15,q (R [o 0 (m (.const (.iw)))]) (q (R [r 4 (.mkMap),o 1 (m t4)]) (q (q (R [o 5 (fA (fn 139) [(cs [115,111,114,116,32,114,101,108,97,116,105,111,110,32,99,111,117,110,116,101,114,32,115,101,116,32,114,101,103,105,115,116,101,114,32,105,110,118,97,114,105,97,110,116,32,111,112,101,114,97,116,105,111,110,32,107,101,121,32,114,101,102,101,114,101,110,99,101,32,116,111,32,99,111,117,110,116,32,97,99,121,99,108,105,99,32,97,108,108,32,115,117,109,32,105,110,32,97,100,100,119,105,110,115,32,114,101,109,111,118,101,119,105,110,115,32,108,97,115,116,32,109,117,108,116,105,32,104,105,100,101,32,111,114,100,101,114,101,100,32,114,101,113,117,105,114,101,32,104,111,108,100,32,105,110,115,101,114,116,32,100,101,108,101,116,101,32,97,100,100,32,102,114,111,109,32,112,117,116,32,100,114,111,112,32,97,115,115,105,103,110,32,102,111,114,32,119,104,101,114,101,32,97,110,100,32,111,114,32,110,111,116])]),o 6 (gq 1 v5),o 7 (m (c 0))]) (b0 0 (.loop (vd 8 6 7 13 1 0 O1)))) (q (R [r 14 (m v1),o 0 (m t14)]) rt))),[.tmp 0],false⟩
def xj:cj:=q (q (R [r 21 (m ka),r 22 (m v6),r 23 (gq 0 t22),r 24 (lt t21 t23),r 25 (m t24),rg 26 t25 true (m v6),rg 27 t25 true (m ka),rg 28 t25 true (.qw t26 t27),rg 29 t25 true (fA (fn 83) [t28]),rg 30 t25 true (no t29),r 31 (hI t25 t30 gI),r 32 (m t31),rg 33 t32 true (m v6),rg 34 t32 true (m ka),rg 35 t32 true (.qw t33 t34),rg 36 t32 true (ne t35 (.const (.int .u8 35))),r 37 (hI t32 t36 gI),r 38 (m t37),rg 39 t38 true (m v6),rg 40 t38 true (m ka),rg 41 t38 true (.oI t39 (some t40) none),rg 42 t38 true (fA (fn 84) [t41]),rg 43 t38 true (no t42),o 44 (hI t38 t43 gI)]) (gg af7 k (e 3))) (q (b0 4 k) (R [r 45 (m ka),r 46 (dc t45 (c 1)),o 7 (m t46)]))
def vL:cj:=.seq (.region [⟨some (48,false),.mv (.var 6),none⟩,⟨some (49,false),.bin .eql (.tmp 48) (.const (.str [])),none⟩,⟨some (47,true),.mv (.tmp 49),none⟩] none) (.cond (.var 47) (.skip) (.seq (.region [⟨some (51,false),.mv (.var 6),none⟩,⟨some (52,false),.qw (.tmp 51) (.const (.int .i64 0)),none⟩,⟨some (53,false),.call false (.func 78) [(.tmp 52)],none⟩,⟨some (50,true),.mv (.tmp 53),none⟩] none) (.cond (.var 50) (.seq (.region [⟨some (54,false),.mv (.var 6),none⟩,⟨some (55,false),.call false (.func 79) [(.tmp 54),(.func 80)],none⟩,⟨some (7,true),.mv (.tmp 55),none⟩,⟨some (56,false),.fieldAddr 0 (.var 5),none⟩,⟨none,.store 1 (.tmp 56) (.const (.int .i64 1)),none⟩] none) (.seq (.region [⟨some (57,false),.load none (.var 2),none⟩,⟨some (58,false),.mv (.var 6),none⟩,⟨some (59,false),.mv (.var 7),none⟩,⟨some (60,false),.oI (.tmp 58) none (some (.tmp 59)),none⟩,⟨some (61,true),.lookup 1 (.bool false) (.tmp 57) (.tmp 60) false,none⟩] (some [0,0,0,6,15])) (.cond (.var 61) (.region [⟨some (62,false),.fieldAddr 0 (.var 5),none⟩,⟨none,.store 1 (.tmp 62) (.const (.int .i64 2)),none⟩] none) (.skip)))) (.seq (.region [⟨some (64,false),.mv (.var 6),none⟩,⟨some (65,false),.qw (.tmp 64) (.const (.int .i64 0)),none⟩,⟨some (66,false),.call false (.func 81) [(.tmp 65)],none⟩,⟨some (63,true),.mv (.tmp 66),none⟩] none) (.cond (.var 63) (.region [⟨some (67,false),.mv (.var 6),none⟩,⟨some (68,false),.call false (.func 79) [(.tmp 67),(.func 81)],none⟩,⟨some (7,true),.mv (.tmp 68),none⟩,⟨some (69,false),.fieldAddr 0 (.var 5),none⟩,⟨none,.store 1 (.tmp 69) (.const (.int .i64 3)),none⟩] none) (.seq (.region [⟨some (71,false),.mv (.var 6),none⟩,⟨some (72,false),.call false (.func 82) [(.tmp 71)],none⟩,⟨some (73,false),.bin .gtr (.tmp 72) (.const (.int .i64 0)),none⟩,⟨some (70,true),.mv (.tmp 73),none⟩] none) (.cond (.var 70) (.region [⟨some (74,false),.mv (.var 6),none⟩,⟨some (75,false),.call false (.func 82) [(.tmp 74)],none⟩,⟨some (7,true),.mv (.tmp 75),none⟩,⟨some (76,false),.fieldAddr 0 (.var 5),none⟩,⟨none,.store 1 (.tmp 76) (.const (.int .i64 4)),none⟩] none) (.seq (.region [⟨some (20,false),.fieldAddr 0 (.var 5),none⟩,⟨none,.store 1 (.tmp 20) (.const (.int .i64 5)),none⟩] none) (.seq (.region [⟨some (7,true),.mv (.const (.int .i64 1)),none⟩] none) (.block 3 (.loop xj)))))))))))
def Jo:cj:=.region [⟨some (8,false),.mv (.var 4),none⟩,⟨some (9,false),.mv (.var 4),none⟩,⟨some (10,false),.load none (.var 1),none⟩,⟨some (11,false),.mv (.var 4),none⟩,⟨some (12,false),.oI (.tmp 10) (some (.tmp 11)) none,none⟩,⟨some (13,false),.call false (.func 77) [(.tmp 12)],none⟩,⟨some (14,false),.bin .add (.tmp 9) (.tmp 13),none⟩,⟨some (15,false),.build [.int .i64 0,.int .i64 0,.int .i64 0,.int .i64 0] [(1,1,(.tmp 8)),(2,1,(.tmp 14))],none⟩,⟨some (5,true),.alloc [.int .i64 0,.int .i64 0,.int .i64 0,.int .i64 0],none⟩,⟨none,.store 4 (.var 5) (.tmp 15),none⟩] none
def Jp:cj:=.region [⟨some (16,false),.load none (.var 1),none⟩,⟨some (17,false),.fieldAddr 2 (.var 5),none⟩,⟨some (18,false),.load none (.tmp 17),none⟩,⟨some (19,false),.oI (.tmp 16) (some (.tmp 18)) none,none⟩,⟨some (6,true),.mv (.tmp 19),none⟩] none
def Jq:cj:=.region [⟨some (7,true),.mv (.const (.int .i64 0)),none⟩] none
def BH:cj:=.seq (.region [⟨some (77,false),.fieldAddr 2 (.var 5),none⟩,⟨some (78,false),.load none (.tmp 77),none⟩,⟨some (79,false),.mv (.var 7),none⟩,⟨some (80,false),.bin .add (.tmp 78) (.tmp 79),none⟩,⟨some (81,false),.fieldAddr 3 (.var 5),none⟩,⟨none,.store 1 (.tmp 81) (.tmp 80),none⟩] none) (.seq (.region [⟨some (82,false),.fieldAddr 3 (.var 5),none⟩,⟨some (83,false),.load none (.tmp 82),none⟩,⟨some (4,true),.mv (.tmp 83),none⟩] none) (.seq (.region [⟨some (84,false),.mv (.var 0),none⟩,⟨some (85,false),.load (some 4) (.var 5),none⟩,⟨some (86,false),.call false (.tmp 84) [(.tmp 85)],none⟩,⟨some (87,false),.un .not (.tmp 86),none⟩,⟨some (88,false),.mv (.tmp 87),none⟩,⟨some (89,false),.fieldAddr 0 (.var 5),some ((.tmp 88),false)⟩,⟨some (90,false),.load none (.tmp 89),some ((.tmp 88),false)⟩,⟨some (91,false),.bin .eql (.tmp 90) (.const (.int .i64 0)),some ((.tmp 88),false)⟩,⟨some (92,true),.pick (.tmp 88) (.const (.bool true)) (.tmp 91),none⟩] none) (.cond (.var 92) (.ret) (.skip))))
def E0:cj:=b0 1 (q Jo (q Jp (q Jq (q (b0 2 vL) BH))))
def O2:h3:=⟨93,q (R [o 4 (m (c 0))]) (b0 0 (.loop E0)),[],false⟩
def Yh:h3:=⟨30,q (R [o 4 (m (.const (.int .u64 0))),o 5 (m (.const (.int .u64 0)))]) (q (gg gI (q (R [r 11 (m v0),r 12 (.conv .u32 t11),r 13 (m v1),r 14 (.conv .u32 t13),r 15 (fA (fn 217) [t12,t14]),r 10 (m t15),r 16 (ex t10 0),r 17 (ex t10 1),o 6 (m t16),o 7 (m t17)]) (q (R [r 18 (m v6),r 19 (.conv .u64 t18),r 20 (m ka),r 21 (.conv .u64 t20),o 4 (m t19),o 5 (m t21)]) rt)) k) (q (R [r 23 (m v0),r 24 (m v1),r 25 (fA (fn 218) [t23,t24]),r 22 (m t25),r 26 (ex t22 0),r 27 (ex t22 1),o 8 (m t26),o 9 (m t27)]) (q (R [r 28 (m r7),r 29 (m v9),o 4 (m t28),o 5 (m t29)]) rt))),[.tmp 4,.tmp 5],false⟩
def Yi:h3:=⟨51,q (R [o 4 (m (.const (.int .u64 0))),o 5 (m (.const (.int .u64 0)))]) (q (R [r 14 (m v0),r 15 (.bin .and t14 (.const (.int .u64 4294967295))),o 6 (m t15)]) (q (R [r 16 (m v0),r 17 (.bin .shr t16 (.const (.int .u64 32))),o 7 (m t17)]) (q (R [r 18 (m v1),r 19 (.bin .and t18 (.const (.int .u64 4294967295))),o 8 (m t19)]) (q (R [r 20 (m v1),r 21 (.bin .shr t20 (.const (.int .u64 32))),o 9 (m t21)]) (q (R [r 22 (m v6),r 23 (m r7),r 24 (.bin .mul t22 t23),o 10 (m t24)]) (q (R [r 25 (m ka),r 26 (m r7),r 27 (.bin .mul t25 t26),r 28 (m v10),r 29 (.bin .shr t28 (.const (.int .u64 32))),r 30 (dc t27 t29),o 11 (m t30)]) (q (R [r 31 (m v11),r 32 (.bin .and t31 (.const (.int .u64 4294967295))),o 12 (m t32)]) (q (R [r 33 (m v11),r 34 (.bin .shr t33 (.const (.int .u64 32))),o 13 (m t34)]) (q (R [r 35 (m v12),r 36 (m v6),r 37 (m v9),r 38 (.bin .mul t36 t37),r 39 (dc t35 t38),o 12 (m t39)]) (q (R [r 40 (m ka),r 41 (m v9),r 42 (.bin .mul t40 t41),r 43 (m He),r 44 (dc t42 t43),r 45 (m v12),r 46 (.bin .shr t45 (.const (.int .u64 32))),r 47 (dc t44 t46),o 4 (m t47)]) (q (R [r 48 (m v0),r 49 (m v1),r 50 (.bin .mul t48 t49),o 5 (m t50)]) rt))))))))))),[.tmp 4,.tmp 5],false⟩
end Go.Abs.bw
namespace Go.Abs
open Go
variable{C:Ctx}{fid:Nat->Nat}{w w':World}{G G':bX}{H H':Heap}
theorem akO (cD:C.P.follows .mixedOrders=true)(bu:eZ C fid){aa:Nat->Option bY}(hT:dU C fid aa):gH C fid (bZ aa):=
 ⟨M7 aa,fun U ab ao he=>by
  obtain⟨n,hn⟩:=um.1 he
  exact(Db cD bu hT n).run U ab ao hn⟩
theorem Yj{k:TypeId}{bK:Nat}{d:TypeDesc}(hk:C.jd k=some bK)(hd:C.P.underlying k=some d){a:V}{x:Value}(ao:a8 fid G w a x):∀{bb:List (V × V)} {es:List MapEntry} (i:Nat) {r:V} {j:Nat} {z:Value},
  aY fid G w (bb.map (·.1)) (es.map (·.key))->aY fid G w (bb.map (·.2)) (es.map (·.val))->h4 bK a bb=some (some r)->Instr.findNow d x es i=some (some (i+j,z))->iy bK a bb=bb.eraseIdx j
 |[],[],i,r,j,z,_,_,h,_=>by simp[h4]at h
 |[],_::_,_,_,_,_,h,_,_,_=>by simp at h;cases h
 | _::_,[],_,_,_,_,h,_,_,_=>by simp at h;cases h
 |(bp,u')::bb,e::es,i,r,j,z,ef,cS,h,ab=>by
  simp only[eo]at ef cS
  cases ef with
  |cons _ _ _ _ il ef=>
   cases cS with
   |cons _ _ _ _ qJ cS=>
    simp only[h4]at h
    split at h
    ·rename_i he
     obtain⟨hs,-⟩:=wC hk hd ao il he
     simp only[Instr.findNow,hs,az,bt]at ab
     obtain rfl:j=0:=by omega
     simp only[iy,he,if_true,aa3]
    ·rename_i he
     obtain⟨hs,-⟩:=wC hk hd ao il he
     simp only[Instr.findNow,hs]at ab
     have im:=qK hk hd ao (i+1) ef cS h
     obtain⟨uL,n8,h1,-,-⟩:=im
     rw[h1]at ab
     simp only[az,bt]at ab
     obtain⟨hj,rfl⟩:=ab
     obtain rfl:j=uL+1:=by omega
     have ih:=Yj hk hd ao (i+1) ef cS h h1
     have bf:¬(ix bK a bp=some true):=by rw[he];simp
     simp only[iy,bf,if_false,aa4,ih]
    ·cases h
theorem akP{vars:List Nat}{ae:ag->V}{ρ:Operand->Value}{o:Oper}(aL:fh C fid vars G w ae ρ){m k:Operand}{t ei rO:TypeId}{u:TypeId}(hd:C.P.underlying t=some (.map ei rO)){am gX:ag}{bK:Nat}
  (ho:o.op=.call {callee:=.builtin .delete,args:= #[m,k],argTypes:= #[t,u]}) (h1:C.b3 vars m=some am) (h2:C.b3 vars k=some gX) (gp:C.jd ei=some bK) {l:Nat} (af:ae am=.map l) {h0:Home} (cY:G.β l=some h0) {bb:List (V × V)} {es:Array MapEntry} {bE:Nat}
  (eB:w.heap[h0.b]? =some (.map es bE)) (ef:aY fid G w (bb.map (·.1)) (es.toList.map (·.key))) (cS:aY fid G w (bb.map (·.2)) (es.toList.map (·.val))) (cd:n0 es bE) {bM:Option V} (iE:h4 bK (ae gX) bb=some bM):
  ∃bD,(execOp ρ o).run C.P w=.ok (.value (.tuple #[])) {w with heap:=w.heap.setIfInBounds h0.b (.map bD bE)}/\aY fid G w ((iy bK (ae gX) bb).map (·.1)) (bD.toList.map (·.key))/\aY fid G w ((iy bK (ae gX) bb).map (·.2)) (bD.toList.map (·.val))/\
   n0 bD bE/\((bD=es/\iy bK (ae gX) bb=bb)\/∃j,bD=es.eraseIdxIfInBounds j/\iy bK (ae gX) bb=bb.eraseIdx j):=by
 have hm:=aL m am h1
 have hk:=aL k gX h2
 obtain⟨Gt,iP⟩:=Gs gp
 have cr:(execOp ρ o).run C.P w=((Builtin.delete_ #[t,u] o.type #[ρ m,ρ k]).run C.P w).andThen fun z w'=>.ok (.value z) w':=by
  rw[x4 ho]
  simp only[builtin,Sem.run_bind,Ko,eo,mT]
  rfl
 rw[af]at hm
 obtain⟨atH,Yk,Sj,eg⟩:=hm.mapInv
 rw[cY]at Yk;cases Yk
 cases bM with
 |none=>
  have ab:=qK gp iP hk 0 ef cS iE
  refine⟨es,?_,by rw[Ax iE];exact ef,by rw[Ax iE];exact cS,cd,.inl ⟨rfl,Ax iE⟩⟩
  rw[cr]
  unfold Builtin.delete_
  simp only[eg]
  simp[run_underlying hd,wD eB,s4 gp,uK (C:=C) iP ab,Av _ eB,Sem.run_pure,Result.andThen]
 |some r=>
  obtain⟨j,y,ab,-,-⟩:=qK gp iP hk 0 ef cS iE
  obtain⟨s1,s2⟩:=Lr gp iP hk 0 ef cS iE ab
  have dL:=Yj gp iP hk 0 ef cS iE ab
  rw[eO]at ab
  refine⟨es.eraseIdxIfInBounds j,?_,by simpa using s1,by simpa using s2,cd.erase _,.inr ⟨j,rfl,dL⟩⟩
  rw[cr]
  unfold Builtin.delete_
  simp only[eg]
  simp[run_underlying hd,wD eB,s4 gp,uK (C:=C) iP ab,Av _ eB,Sem.run_pure,Result.andThen]
theorem Yl{α β:Type}:∀{j:Nat} {l:List α} {m:List β} {p:α × β},p∈(l.eraseIdx j).zip (m.eraseIdx j)->p∈l.zip m
 | _,[],_,_,h=>by simp at h
 | _,_::_,[],_,h=>by simp at h
 |0,_::_,_::_,_,h=>by simp only[aa3]at h;exact kQ _ h
 |j+1,_::_,_::_,_,h=>by
  simp only[aa4,zQ,dA]at h⊢
  exact h.imp id Yl
section
variable{vars:List Nat}{N:Nat}
structure qh (C:Ctx) (fid:Nat->Nat) (vars:List Nat) (N base li l r j7 bE:Nat) (st:aq) (G:bX) (w:World) (seen:Array Nat) (es:Array MapEntry) (d:List V) (bb:List (V × V)) (s:aq) (ay:bX) (ai:Act) (aH:World):Prop where
 rel:dy C fid vars N ay s ai aH
 bM:gb st {s with low:=min st.low l}
 len:li<s.H.length
 ext:∀m,m<=min st.low l->Ext G w ay aH m st.H.length
 marks:kF C ay aH base ai.defers
 hi:∃h,ay.β li=some h/\h.b=r
 hm:∃h,ay.β l=some h/\h.b=j7
 gone:s.H[li]? =some .gone
 mp:s.H[l]? =some (.map bb)
 iter:aH.heap[r]? =some (.mapIter (some j7) bE seen bE)
 map:aH.heap[j7]? =some (.map es bE)
 hand:∀p∈es.toList.zip bb,p.1.born∈seen->p.2.1∈d
variable{base li l r j7 bE:Nat}{st:aq}{seen:Array Nat}{es:Array MapEntry}{d:List V}{bb:List (V × V)}{s al:aq}{ay bl:bX}{ai a2:Act}{aH bG:World}
theorem qh.on (h:qh C fid vars N base li l r j7 bE st G w seen es d bb s ay ai aH)(jl:l<li)(U:dy C fid vars N bl al a2 bG)(du:∀m,m<=al.low->Ext ay aH bl bG m s.H.length)(jZ:li<al.low)(cZ:Fr s.H s.H.length al.H al.low)(eJ:al.ro=s.ro)
  (hd:kF C bl bG base a2.defers):qh C fid vars N base li l r j7 bE st G w seen es d bb al bl a2 bG:=by
 obtain⟨h1,af,q1⟩:=h.hi
 obtain⟨h2,aj,aS⟩:=h.hm
 have g1:=G0 h.rel.rel af h.gone
 have g2:=yq h.rel.rel aj h.mp
 have o3:=du _ (aK _)
 have kA:=h.bM.1.len
 refine⟨U,⟨⟨cV h.bM.1.len cZ.len,jU _ _,fun x hx=> ?_⟩,eJ.trans h.bM.2⟩,qs h.len cZ.len,fun m hm=> ?_,hd,?_,?_,?_,?_,?_,?_,h.hand⟩
 ·have dW:x<min st.low l:=hx
  exact(cZ.same x (by omega)).trans (h.bM.1.same x hx)
 ·exact(h.ext m hm).trans ((du m (by omega)).le (aK _) kA)
 ·obtain⟨h',e',q'⟩:=wP o3 af g1.1;exact⟨h',e',q'.trans q1⟩
 ·obtain⟨h',e',q'⟩:=wP o3 aj g2.1;exact⟨h',e',q'.trans aS⟩
 ·rw[cZ.same li jZ];exact h.gone
 ·rw[cZ.same l (by omega)];exact h.mp
 ·have:=wO o3 h.rel.rel af jZ
  rw[q1]at this;rw[this];exact h.iter
 ·have:=wO o3 h.rel.rel aj (by omega)
  rw[aS]at this;rw[this];exact h.map
theorem qh.del (h:qh C fid vars N base li l r j7 bE st G w seen es d bb s ay ai aH)(jl:l<li){vars':List Nat}{o:Oper}{m k:Operand}{t ei rO u:TypeId}(bu:eZ C fid)(hd:C.P.underlying t=some (.map ei rO)){am gX:ag}{bK:Nat}
  (ho:o.op=.call {callee:=.builtin .delete,args:= #[m,k],argTypes:= #[t,u]}) (h1:C.b3 vars m=some am) (h2:C.b3 vars k=some gX) (gp:C.jd ei=some bK) (af:am.ae s.aG s.av=.map l) {bM:Option V} (iE:h4 bK (gX.ae s.aG s.av) bb=some bM):
  ∃bD bl bG,(execOp ai.eval o).run C.P aH=.ok (.value (.tuple #[])) bG/\bD.toList.Sublist es.toList/\
   qh C fid vars N base li l r j7 bE st G w seen bD d (iy bK (gX.ae s.aG s.av) bb) {s with aG:=[],H:=s.H.set l (.map (iy bK (gX.ae s.aG s.av) bb)),low:=min s.low l} bl ai bG:=by
 obtain⟨ar,bT,b1⟩:=h.hi
 obtain⟨aQ,cF,cL⟩:=h.hm
 obtain⟨oY,jh,Lt,atI,fi,ef,cS,cd⟩:=yq h.rel.rel cF h.mp
 rw[cL,h.map]at fi
 cases fi
 have eB:aH.heap[aQ.b]? =some (.map es bE):=by rw[cL];exact h.map
 obtain⟨bD,cr,cq,ee,k1,HE⟩:=akP (rX bu h.rel) hd ho h1 h2 gp af cF eB ef cS cd iE
 generalize iy bK (gX.ae s.aG s.av) bb=akQ at*
 have aX:aQ.b<aH.heap.size:=h.rel.rel.blk l aQ cF
 have uM:∀b,b≠aQ.b->({aH with heap:=aH.heap.setIfInBounds aQ.b (.map bD bE)}:World).heap[b]? =aH.heap[b]? :=fun b bf=>by
  show(aH.heap.setIfInBounds aQ.b _)[b]? =_
  rw[QC (kp bf)]
 have Aw:({aH with heap:=aH.heap.setIfInBounds aQ.b (.map bD bE)}:World).heap[aQ.b]? =some (.map bD bE):=by
  show(aH.heap.setIfInBounds aQ.b _)[aQ.b]? =_
  simp[aX]
 have dJ:({aH with heap:=aH.heap.setIfInBounds aQ.b (.map bD bE)}:World).heap.size=aH.heap.size:=by simp
 have dW:Ext ay aH ⟨ck ay.β l aQ,ay.I⟩ {aH with heap:=aH.heap.setIfInBounds aQ.b (.map bD bE)} l s.H.length:=
  Ext.write h.rel.rel cF jh rfl (aK _) id rfl dJ uM rfl rfl
 have nB:Ext ay aH ⟨ck ay.β l aQ,ay.I⟩ {aH with heap:=aH.heap.setIfInBounds aQ.b (.map bD bE)} 0 s.H.length:=dW.le (cx _) (aK _)
 have uY:bD.toList.Sublist es.toList:=by
  rcases HE with⟨rfl,-⟩|⟨j,rfl,-⟩
  ·exact ru _
  ·rw[aaX];exact List.eraseIdx_sublist _ _
 refine⟨bD,⟨ck ay.β l aQ,ay.I⟩,_,cr,uY,⟨⟨?_,fun t=> ?_,h.rel.size,?_⟩,⟨⟨?_,jU _ _,fun x hx=> ?_⟩,h.bM.2⟩,?_,fun m hm=> ?_,h.marks.ext nB,?_,?_,?_,?_,?_,?_,?_⟩⟩
 ·exact aZ.write h.rel.rel cF jh rfl jh (aK _) id rfl dJ uM (.map akQ) ⟨oY,jh,bD,bE,Aw,cq.ext h.rel.rel dW,ee.ext h.rel.rel dW,k1⟩
 ·exact((h.rel.clear).env t).ext h.rel.rel nB
 ·show min s.low l<=(s.H.set l _).length
  rw[zT]
  exact cV (jU _ _) h.rel.low
 ·show st.H.length<=(s.H.set l _).length
  rw[zT];exact h.bM.1.len
 ·have Ym:x<min st.low l:=hx
  show(s.H.set l _)[x]? =_
  rw[gm (by omega)]
  exact h.bM.1.same x hx
 ·show li<(s.H.set l _).length
  rw[zT];exact h.len
 ·exact(h.ext m hm).trans (dW.le (by omega) h.bM.1.len)
 ·exact⟨ar,by show ck ay.β l aQ li=_;rw[dp (by omega)];exact bT,b1⟩
 ·exact⟨aQ,de _ _ _,cL⟩
 ·show(s.H.set l _)[li]? =_
  rw[gm (by omega)];exact h.gone
 ·show(s.H.set l _)[l]? =_
  rw[nU (h.rel.rel.lt cF)]
 ·rw[uM r (fun q=> ?_)]
  ·exact h.iter
  ·have:=h.rel.rel.inj _ _ _ _ bT cF (by rw[b1];exact q)
   omega
 ·rw[<-cL];exact Aw
 ·intro p hp hb
  refine h.hand p ?_ hb
  rcases HE with⟨rfl,rfl⟩|⟨j,rfl,rfl⟩
  ·exact hp
  ·rw[aaX]at hp
   exact Yl hp
end
end Go.Abs
