/- Proved here: functions of the program, printed as propositions. Conditions: none beyond the hypotheses that each theorem states. -/
import Derived.Test.YtnlkancjfhgdcaaGreatDoorE09
set_option linter.all false
set_option maxRecDepth 100000
open Go Go.Proofs
namespace Ev
noncomputable section
variable{a0 a1 a2 a3 a4 a5 a6 a7 a8 a9 x0 x1 x2 x3 x4 x5 x6 x7 x8 x9 x10 x11 x12 x13 x14 x15 x16 x17 x18 x19 x20:AV}{h:aL}{K:KH}{N:List AV→aL→Prop}{e:Ends}{rt:List AV→aL→Prop}
theorem aOu(s:RP (bO .sl [a0] h) fun v w=>
 aQ v=true∧K v w):C 493 [a0] h K:=
 ent Tryz.func493 (A:=cT) rfl rfl (Eq.mp (by kernel_rfl) s)
def aD6(a0 a1 a2:AV)(h:aL)(K:KH):Prop:=
 RO (cR none 1 a0 (bB a1)) fun v0=>
 cP (fun hh=>cF hh (aJ hh (.one 0) v0)) 0 [(up h 50)] fun v1=>
 RO (cU v1) fun v2=>
 RO (aN 1 v2) fun v3=>
 cP (fun hh=>cF hh (aJ hh (.one 0) v3)) 0 [(up h 50)] fun v4=>
 RO (cR none 1 a0 (bB a2)) fun v5=>
 cP (fun hh=>cF hh (aJ hh (.one 0) v5)) 0 [(up h 50)] fun v6=>
 RO (cU v6) fun v7=>
 RO (aN 1 v7) fun v8=>
 cP (fun hh=>cF hh (aJ hh (.one 0) v8)) 0 [(up h 50)] fun v9=>
 RO (aO .lss .no v4 v9) fun v10=>
 gV v10 false (fun k11=>k11 a0 (up h 50)) (up h 50) fun v12 h13=>
 gV v10 false (fun k14=>k14 a1 h13) h13 fun v15 h16=>
 gV v10 false (fun k17=>RO (cR none 1 v12 (bB v15)) fun v18=>
 k17 v18 h16) h16 fun v19 h20=>
 gV v10 false (fun k21=>cP (fun hh=>cF hh (aJ hh (.one 0) v19)) 0 [(up h 50)] fun v22=>
 k21 v22 h20) h20 fun v23 h24=>
 gV v10 false (fun k25=>RO (cU v23) fun v26=>
 k25 v26 h24) h24 fun v27 h28=>
 gV v10 false (fun k29=>RO (aN 1 v27) fun v30=>
 k29 v30 h28) h28 fun v31 h32=>
 gV v10 false (fun k33=>cP (fun hh=>cF hh (aJ hh (.one 0) v31)) 0 [(up h 50)] fun v34=>
 k33 v34 h32) h32 fun v35 h36=>
 gV v10 false (fun k37=>k37 a0 h36) h36 fun v38 h39=>
 gV v10 false (fun k40=>k40 a2 h39) h39 fun v41 h42=>
 gV v10 false (fun k43=>RO (cR none 1 v38 (bB v41)) fun v44=>
 k43 v44 h42) h42 fun v45 h46=>
 gV v10 false (fun k47=>cP (fun hh=>cF hh (aJ hh (.one 0) v45)) 0 [(up h 50)] fun v48=>
 k47 v48 h46) h46 fun v49 h50=>
 gV v10 false (fun k51=>RO (cU v49) fun v52=>
 k51 v52 h50) h50 fun v53 h54=>
 gV v10 false (fun k55=>RO (aN 1 v53) fun v56=>
 k55 v56 h54) h54 fun v57 h58=>
 gV v10 false (fun k59=>cP (fun hh=>cF hh (aJ hh (.one 0) v57)) 0 [(up h 50)] fun v60=>
 k59 v60 h58) h58 fun v61 h62=>
 gV v10 false (fun k63=>RO (aO .eql .no v35 v61) fun v64=>
 k63 v64 h62) h62 fun v65 h66=>
 gV v10 false (fun k67=>k67 v65 h66) h66 fun v68 h69=>
 gV v68 true (fun k70=>k70 a0 h69) h69 fun v71 h72=>
 gV v68 true (fun k73=>k73 a1 h72) h72 fun v74 h75=>
 gV v68 true (fun k76=>RO (cR none 1 v71 (bB v74)) fun v77=>
 k76 v77 h75) h75 fun v78 h79=>
 gV v68 true (fun k80=>cP (fun hh=>cF hh (aJ hh (.one 0) v78)) 0 [(up h 50)] fun v81=>
 k80 v81 h79) h79 fun v82 h83=>
 gV v68 true (fun k84=>RO (cU v82) fun v85=>
 k84 v85 h83) h83 fun v86 h87=>
 gV v68 true (fun k88=>RO (aN 0 v86) fun v89=>
 k88 v89 h87) h87 fun v90 h91=>
 gV v68 true (fun k92=>cP (fun hh=>cF hh (aJ hh (.one 0) v90)) 0 [(up h 50)] fun v93=>
 k92 v93 h91) h91 fun v94 h95=>
 gV v68 true (fun k96=>k96 a0 h95) h95 fun v97 h98=>
 gV v68 true (fun k99=>k99 a2 h98) h98 fun v100 h101=>
 gV v68 true (fun k102=>RO (cR none 1 v97 (bB v100)) fun v103=>
 k102 v103 h101) h101 fun v104 h105=>
 gV v68 true (fun k106=>cP (fun hh=>cF hh (aJ hh (.one 0) v104)) 0 [(up h 50)] fun v107=>
 k106 v107 h105) h105 fun v108 h109=>
 gV v68 true (fun k110=>RO (cU v108) fun v111=>
 k110 v111 h109) h109 fun v112 h113=>
 gV v68 true (fun k114=>RO (aN 0 v112) fun v115=>
 k114 v115 h113) h113 fun v116 h117=>
 gV v68 true (fun k118=>cP (fun hh=>cF hh (aJ hh (.one 0) v116)) 0 [(up h 50)] fun v119=>
 k118 v119 h117) h117 fun v120 h121=>
 gV v68 true (fun k122=>RO (aO .lss .no v94 v120) fun v123=>
 k122 v123 h121) h121 fun v124 h125=>
 gV v10 false (fun k126=>RO (bJ v124 (.bool false) v68) fun v127=>
 k126 v127 h125) h125 fun v128 h129=>
 RO (bJ (.bool true) v128 v10) fun v130=>
 aQ v130=true∧K v130 h129
theorem aD7(a0 a1 a2:AV):Nat.ble [a0,a1,a2].length (bL E Tryz.f494).nt=true:=by kernel_rfl
theorem aD8:(bL E Tryz.f494).ext=0:=by kernel_rfl
theorem aOv{a0 a1 a2:AV}{h:aL}{K:KH}:aD6 a0 a1 a2 h K=WC cT 0 (bL E Tryz.f494).code (pt [a0,a1,a2] 0 .leaf) h (pD (bL E Tryz.f494).res K):=by kernel_rfl
attribute [local irreducible] J9 RO RP cP in
theorem aOw{a0 a1 a2:AV}{h:aL}{K:KH}(s:aD6 a0 a1 a2 h K):C 494 [a0,a1,a2] h K:=
 @ent 494 Tryz.f494 Tryz.func494 cT [a0,a1,a2] h K aD8 (aD7 a0 a1 a2) (Eq.mp aOv s)
def aD9(a0 a1 a2:AV)(h:aL)(K:KH):Prop:=
 RO (cR none 1 a0 (bB a2)) fun v0=>
 cP (fun hh=>cF hh (aJ hh (.one 0) v0)) 0 [(up h 16)] fun v1=>
 RO (cR none 1 a0 (bB a1)) fun v2=>
 cP (fun hh=>cF hh (aJ hh (.one 0) v2)) 0 [(up h 16)] fun v3=>
 RO (cR none 1 a0 (bB a1)) fun v4=>
 RP (aW (up h 16) 1 (aK v1) v4) fun v5 h6=>
 RO (cR none 1 a0 (bB a2)) fun v7=>
 RP (aW h6 1 (aK v3) v7) fun v8 h9=>
 RO (cR none 1 a0 (bB a1)) fun v10=>
 cP (fun hh=>cF hh (aJ hh (.one 0) v10)) 0 [(up h9 16)] fun v11=>
 RO (cR none 1 a0 (bB a2)) fun v12=>
 cP (fun hh=>cF hh (aJ hh (.one 0) v12)) 0 [(up h9 16)] fun v13=>
 RO (cU v11) fun v14=>
 RO (aN 2 v14) fun v15=>
 RP (aW (up h9 16) 1 (aK a1) v15) fun v16 h17=>
 RO (cU v13) fun v18=>
 RO (aN 2 v18) fun v19=>
 RP (aW h17 1 (aK a2) v19) fun v20 h21=>
 K (.tuple []) h21
theorem aEa(a0 a1 a2:AV):Nat.ble [a0,a1,a2].length (bL E Tryz.f495).nt=true:=by kernel_rfl
theorem aEb:(bL E Tryz.f495).ext=0:=by kernel_rfl
theorem aOx{a0 a1 a2:AV}{h:aL}{K:KH}:aD9 a0 a1 a2 h K=WC cT 0 (bL E Tryz.f495).code (pt [a0,a1,a2] 0 .leaf) h (pD (bL E Tryz.f495).res K):=by kernel_rfl
attribute [local irreducible] J9 RO RP cP in
theorem aOy{a0 a1 a2:AV}{h:aL}{K:KH}(s:aD9 a0 a1 a2 h K):C 495 [a0,a1,a2] h K:=
 @ent 495 Tryz.f495 Tryz.func495 cT [a0,a1,a2] h K aEb (aEa a0 a1 a2) (Eq.mp aOx s)
theorem aOz(s:RO (cU a0) fun v=>
 cP (fun hh=>cF hh (aJ hh (.one 0) v)) 0 [(up h 11)] fun v=>
 RO (cU a0) fun w=>
 cP (fun hh=>cF hh (aJ hh (.one 0) w)) 0 [(up h 11)] fun w=>
 RP (bO .sl [w] (up h 11)) fun w x=>
 RO (aO .sub .no w (iv 1)) fun w=>
 RO (cR none 1 v (bB w)) fun v=>
 cP (fun hh=>cF hh (aJ hh (.one 0) v)) 0 [(up h 11)] fun v=>
 RO (cU a0) fun w=>
 cP (fun hh=>cF hh (aJ hh (.one 0) w)) 0 [(up x 12)] fun w=>
 RO (cU a0) fun y=>
 cP (fun hh=>cF hh (aJ hh (.one 0) y)) 0 [(up x 12)] fun y=>
 RP (bO .sl [y] (up x 12)) fun x y=>
 RO (aO .sub .no x (iv 1)) fun x=>
 RO (iQ none (some x) none w (.sl 1)) fun w=>
 RO (cU a0) fun x=>
 RP (aW y 1 (aK w) x) fun w x=>
 aQ (.iface 389 v)=true∧K (.iface 389 v) x):C 496 [a0] h K:=
 ent Tryz.func496 (A:=cT) rfl rfl (Eq.mp (by kernel_rfl) s)
theorem aOA(s:RO (wF (some 389) false a1) fun v=>
 RO (cU a0) fun w=>
 RO (aJ h (.one 0) w) fun w=>
 RP (bO .sl [w] h) fun w x=>
 RO (cU v) fun y=>
 RO (aN 2 y) fun y=>
 RP (aW x 1 (aK w) y) fun w x=>
 RO (cU a0) fun w=>
 RO (aJ x (.one 0) w) fun w=>
 RL (bK [.nilp] [(0,1,v)]) fun l11=>cA l11 (
 RP (cY 1 [w,(.slice x.aA 0 1 1 0)] (nw x (.cells l11))) fun v w=>
 RO (cU a0) fun x=>
 RP (aW w 1 (aK v) x) fun v w=>
 K (.tuple []) w)):C 497 [a0,a1] h K:=
 ent Tryz.func497 (A:=cT) rfl rfl (Eq.mp (by kernel_rfl) s)
theorem aOB(s:RL (bK [.aB,.nilm] [(1,1,(.map h.aA))]) fun l0=>cA l0 (
 cA (aK (.agg l0)) (aQ (.ptr (nw h (.map [] 0)).aA 0)=true∧K (.ptr (nw h (.map [] 0)).aA 0) (nw (nw h (.map [] 0)) (.cells (aK (.agg l0))))))):C 196 [] h K:=
 ent Tryz.func196 (A:=cT) rfl rfl (Eq.mp (by kernel_rfl) s)
theorem aOC(s:RO (cU a0) fun v=>
 RO (aN 1 v) fun v=>
 RO (aJ h (.one 0) v) fun v=>
 RO (fT .int .nilp false a1 (dK h v)) fun v=>
 RO (aO .neq .ptr v .nilp) fun v=>
 cB v (aQ (iv 5)=true∧K (iv 5) h)
 (C 300 [a0] h fun v w=>
 RO (aO .eql .no v (iv 4096)) fun v=>
 cB v (aQ (iv 2)=true∧K (iv 2) w)
 (RL (bK [(iv 0),(iv 0),(iv 0)] [(0,1,a1),(1,1,a2)]) fun l8=>cA l8 (
 cA (aK (.agg l8)) (RO (cU a0) fun v=>
 RO (aN 1 v) fun v=>
 RO (aJ (nw w (.cells (aK (.agg l8)))) (.one 0) v) fun v=>
 RP (hU (nw w (.cells (aK (.agg l8)))) .int a1 (.ptr w.aA 0) v) fun v x=>
 RO (cU a0) fun v=>
 RO (aN 0 v) fun v=>
 C 301 [(.iface 393 v),(.iface 389 (.ptr w.aA 0))] x fun v w=>
 aQ (iv 0)=true∧K (iv 0) w))))):C 197 [a0,a1,a2] h K:=
 ent Tryz.func197 (A:=cT) rfl rfl (Eq.mp (by kernel_rfl) s)
def AZ:List bH:= [aM 8,aM 7,aM 1,aM 5,aM 6,aM 0]
def XT:CC:=cQ [1,1,0,1,0,0] (bL E Tryz.f198).code
def QR(n:Nat):List bH:=bif Nat.beq n 0 then AZ else []
theorem XU(s:gV x0 true (fun v=>v x1 h) h fun v w=>
 gV x0 true (fun x=>x x2 w) w fun w x=>
 Qr x0 true (aO .leq .no v w) x fun v w=>
 RO (bJ v (.bool false) x0) fun v=>
 cB v (RL (bK [(iv 0)] [(0,1,x4)]) fun l20=>cA l20 (
 RP (cY 1 [x3,(.slice w.aA 0 1 1 0)] (nw w (.cells l20))) fun v x=>
 RO (cU x5) fun y=>
 RO (aN 0 y) fun y=>
 C 303 [(.iface 393 y)] x fun x y=>
 RO (cU x5) fun x=>
 RO (aN 1 x) fun x=>
 RO (aJ y (.one 0) x) fun x=>
 RP (tT .int [x,x4] y) fun x y=>
 C 302 [x5] y fun x y=>
 RO (aR 0 x) fun z=>
 RO (aR 1 x) fun u=>
 RO (aR 2 x) fun x=>
 N [x,u,x2,v,z,x5] y))
 (bX e 0 [x0,x1,x2,x3,x4,x5] w)):WC QR 0 XT (pts AZ [x0,x1,x2,x3,x4,x5]) h (hC AZ N e rt):=
 Eq.mp (by kernel_rfl) s
theorem aIo(s:C 302 [a0] h fun v w=>
 RO (aR 0 v) fun x=>
 RO (aR 1 v) fun y=>
 RO (aR 2 v) fun v=>
 gL AZ XT [v,y,a1,.aB,x,a0] w [(0,fun v w=>
 aQ (bD v 3)=true∧K (bD v 3) w)] fun v w=>
 aQ .other=true∧K .other w):C 198 [a0,a1] h K:=
 ent Tryz.func198 (A:=QR) rfl rfl (Eq.mp (by kernel_rfl) s)
theorem aOD(s:RO (cU a0) fun v=>
 RO (aN 0 v) fun v=>
 RO (aJ h (.one 0) v) fun v=>
 RP (bO .sl [v] h) fun v w=>
 aQ v=true∧K v w):C 300 [a0] h K:=
 ent Tryz.func300 (A:=cT) rfl rfl (Eq.mp (by kernel_rfl) s)
theorem aOE(s:CI a0 "Push" [a1] h fun v w=>
 CI a0 "Len" [] w fun v w=>
 RO (aO .sub .no v (iv 1)) fun v=>
 C 373 [a0,v] w fun v w=>
 K (.tuple []) w):C 301 [a0,a1] h K:=
 ent Tryz.func301 (A:=cT) rfl rfl (Eq.mp (by kernel_rfl) s)
theorem aIp(s:C 300 [a0] h fun v w=>
 RO (aO .eql .no v (iv 0)) fun v=>
 cB v (aQ (iv 0)=true∧aQ (iv 0)=true∧aQ (.bool false)=true∧K (.tuple [(iv 0),(iv 0),(.bool false)]) w)
 (RO (cU a0) fun v=>
 RO (aN 0 v) fun v=>
 cP (fun hh=>cF hh (aJ hh (.one 0) v)) 0 [(up w 21)] fun v=>
 RO (cR none 1 v (bB (iv 0))) fun v=>
 cP (fun hh=>cF hh (aJ hh (.one 0) v)) 0 [(up w 21)] fun v=>
 RO (cU v) fun v=>
 RO (aN 0 v) fun v=>
 cP (fun hh=>cF hh (aJ hh (.one 0) v)) 0 [(up w 21)] fun v=>
 RO (cU a0) fun x=>
 RO (aN 0 x) fun x=>
 cP (fun hh=>cF hh (aJ hh (.one 0) x)) 0 [(up w 21)] fun x=>
 RO (cR none 1 x (bB (iv 0))) fun x=>
 cP (fun hh=>cF hh (aJ hh (.one 0) x)) 0 [(up w 21)] fun x=>
 RO (cU x) fun x=>
 RO (aN 1 x) fun x=>
 cP (fun hh=>cF hh (aJ hh (.one 0) x)) 0 [(up w 21)] fun x=>
 aQ v=true∧aQ x=true∧aQ (.bool true)=true∧K (.tuple [v,x,(.bool true)]) (up w 21))):C 302 [a0] h K:=
 ent Tryz.func302 (A:=cT) rfl rfl (Eq.mp (by kernel_rfl) s)
theorem aOF(s:CI a0 "Len" [] h fun v w=>
 RO (aO .sub .no v (iv 1)) fun v=>
 CI a0 "Swap" [(iv 0),v] w fun w x=>
 C 374 [a0,(iv 0),v] x fun v w=>
 CI a0 "Pop" [] w fun v w=>
 aQ v=true∧K v w):C 303 [a0] h K:=
 ent Tryz.func303 (A:=cT) rfl rfl (Eq.mp (by kernel_rfl) s)
def A0:List bH:= [aM 1,aM 0]
def XV:CC:=cQ [0,0] (bL E Tryz.f373).code
def XW(n:Nat):List bH:=bif Nat.beq n 0 then A0 else []
theorem aEc(s:RO (aO .sub .no x0 (iv 1)) fun v=>
 RO (aO .quo .no v (iv 2)) fun v=>
 RO (aO .eql .no v x0) fun w=>
 gV w false (fun x=>x x1 h) h fun x y=>
 gV w false (fun z=>z x0 y) y fun y z=>
 gV w false (fun u=>u v z) z fun z u=>
 gV w false (fun t=>CI x "Less" [y,z] u fun x y=>
 t x y) u fun x y=>
 Qr w false (gS .not x) y fun x y=>
 RO (bJ (.bool true) x w) fun w=>
 cB w (bX e 0 [x0,x1] y)
 (CI x1 "Swap" [v,x0] y fun w x=>
 N [v,x1] x)):WC XW 0 XV (pts A0 [x0,x1]) h (hC A0 N e rt):=
 Eq.mp (by kernel_rfl) s
theorem aOG(s:gL A0 XV [a1,a0] h [(0,fun v w=>
 K (.tuple []) w)] fun v w=>
 K (.tuple []) w):C 373 [a0,a1] h K:=
 ent Tryz.func373 (A:=XW) rfl rfl (Eq.mp (by kernel_rfl) s)
def A1:List bH:= [aM 7,aM 2,aM 1,aM 0]
def XX:CC:=cQ [1,1,0,0,0] (bL E Tryz.f374).code
def XY(n:Nat):List bH:=bif Nat.beq n 0 then A1 else []
theorem aEd(s:RO (aO .mul .no (iv 2) x0) fun v=>
 RO (aO .add .no v (iv 1)) fun v=>
 RO (aO .geq .no v x1) fun w=>
 gV w false (fun x=>x v h) h fun x y=>
 Qr w false (aO .lss .no x (iv 0)) y fun x y=>
 RO (bJ (.bool true) x w) fun w=>
 cB w (bX e 0 [x0,x1,x2,x3] y)
 ((fun(j16:AV→aL→Prop)=>
 RO (aO .add .no v (iv 1)) fun w=>
 RO (aO .lss .no w x1) fun x=>
 gV x true (fun z=>z x3 y) y fun y z=>
 gV x true (fun u=>u w z) z fun z u=>
 gV x true (fun t=>t v u) u fun u t=>
 gV x true (fun r=>CI y "Less" [z,u] t fun y z=>
 r y z) t fun y z=>
 RO (bJ y (.bool false) x) fun x=>
 cB x (j16 w z)
 (j16 v z))
 fun x34 v=>
 CI x3 "Less" [x34,x0] v fun v w=>
 RO (gS .not v) fun v=>
 cB v (bX e 0 [x0,x1,x2,x3] w)
 (CI x3 "Swap" [x0,x34] w fun v w=>
 N [x34,x1,x2,x3] w))):WC XY 0 XX (pts A1 [x0,x1,x2,x3]) h (hC A1 N e rt):=
 Eq.mp (by kernel_rfl) s
theorem aOH(s:gL A1 XX [a1,a2,a1,a0] h [(0,fun v w=>
 RO (aO .gtr .no (bD v 0) (bD v 2)) fun v=>
 aQ v=true∧K v w)] fun v w=>
 aQ .other=true∧K .other w):C 374 [a0,a1,a2] h K:=
 ent Tryz.func374 (A:=XY) rfl rfl (Eq.mp (by kernel_rfl) s)
def A2:List bH:= [aM 13,aM 12,aM 11,aM 6,aM 5,aM 1]
def XZ:CC:=cQ [1,1,1,0,1,0,0] (bL E Tryz.f101).code
def X0(n:Nat):List bH:=bif Nat.beq n 0 then A2 else []
theorem aEe(s:RO (aO .lss .no x0 x1) fun v=>
 cB v (RO (cR none 11 x2 (bB x0)) fun v=>
 RO (aJ h (.many 0 11) v) fun v=>
 RP (aW (nw h (.cells [(iv 0),(iv 0),.aB,.aB,.aB,(iv 0),(iv 0),(iv 0),(iv 0),(iv 0),(iv 0)])) 11 (aK v) (.ptr h.aA 0)) fun v w=>
 (fun(j15:aL→Prop)=>
 RO (aN 0 (.ptr h.aA 0)) fun v=>
 RO (aJ w (.one 0) v) fun v=>
 RO (fT .int (.bool false) false v (dK w x3)) fun v=>
 RO (gS .not v) fun v=>
 Qr v true (aN 10 (.ptr h.aA 0)) w fun w x=>
 Qr v true (aJ x (.one 0) w) x fun w x=>
 Qr v true (aO .gtr .no w (iv 0)) x fun w x=>
 RO (bJ w (.bool false) v) fun v=>
 cB v (RO (aN 0 (.ptr h.aA 0)) fun v=>
 RO (aJ x (.one 0) v) fun v=>
 RO (aN 10 (.ptr h.aA 0)) fun w=>
 RO (aJ x (.one 0) w) fun w=>
 C 197 [x4,v,w] x fun v w=>
 j15 w)
 (j15 x))
 fun v=>
 RO (aN 0 (.ptr h.aA 0)) fun w=>
 RO (aJ v (.one 0) w) fun w=>
 RP (hU v .int w (.bool true) x3) fun v w=>
 RO (aO .add .no x0 (iv 1)) fun v=>
 N [v,x1,x2,x3,x4,x5] w)
 (bX e 0 [x0,x1,x2,x3,x4,x5] h)):WC X0 0 XZ (pts A2 [x0,x1,x2,x3,x4,x5]) h (hC A2 N e rt):=
 Eq.mp (by kernel_rfl) s
theorem aOI(s:C 196 [] h fun v w=>
 RP (bO .sl [a0] (nw w (.map [] 0))) fun x y=>
 gL A2 XZ [(iv 0),x,a0,(.map w.aA),v,a1] y [(0,fun v w=>
 C 198 [(bD v 4),(bD v 5)] w fun v w=>
 aQ v=true∧K v w)] fun v w=>
 aQ .other=true∧K .other w):C 101 [a0,a1] h K:=
 ent Tryz.func101 (A:=X0) rfl rfl (Eq.mp (by kernel_rfl) s)
end
end Ev
