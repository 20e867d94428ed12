/- Proved here: functions of the program, printed as propositions. Conditions: none beyond the hypotheses that each theorem states. -/
import Derived.Test.YtnlkancjfhgdcaaGreatDoorE09
set_option linter.all false
set_option maxRecDepth 100000
open Go Go.Proofs
namespace Ev
noncomputable section
variable{a0 a1 a2 a3 a4 a5 a6 a7 a8 a9 x0 x1 x2 x3 x4 x5 x6 x7 x8 x9 x10 x11 x12 x13 x14 x15 x16 x17 x18 x19 x20:AV}{h:aL}{K:KH}{N:List AV→aL→Prop}{e:Ends}{rt:List AV→aL→Prop}
theorem e4(s:C 12 [] h fun v w=>
 C 11 [v] w fun v w=>
 RO (aR 0 v) fun x=>
 RO (aR 1 v) fun y=>
 RO (aR 2 v) fun v=>
 RP (aW (nw w (.cells [.aB,.aB,.aB,(iv 0),(iv 0)])) 5 (aK x) (.ptr w.aA 0)) fun x y=>
 C 12 [] y fun x y=>
 RL (bK [(.int .u8 0),(.int .u8 0),(.int .u8 0),(.int .u8 0),(.int .u8 0),(.int .u8 0),(.int .u8 0),(.int .u8 0)] [(0,1,(.int .u8 0)),(1,1,(.int .u8 0)),(2,1,(.int .u8 3)),(3,1,(.int .u8 0)),(4,1,(.int .u8 0)),(5,1,(.int .u8 0)),(6,1,(.int .u8 3)),(7,1,(.int .u8 0))]) fun l11=>cA l11 (
 C 13 [x,(.slice y.aA 0 8 8 0)] (nw y (.cells l11)) fun x y=>
 RP (aW (nw y (.cells [(iv 0),(iv 0),(iv 0),(iv 0),.aB,.aB,(iv 0),(iv 0),(.bool false),(iv 0)])) 10 (aK x) (.ptr y.aA 0)) fun x z=>
 RO (aO .eql .no v (iv 0)) fun v=>
 Qr v true (aN 0 (.ptr y.aA 0)) z fun x z=>
 Qr v true (aJ z (.one 0) x) z fun x z=>
 Qr v true (aO .eql .no x (iv 0)) z fun x z=>
 RO (bJ x (.bool false) v) fun v=>
 Qr v true (aN 8 (.ptr y.aA 0)) z fun x z=>
 Qr v true (aJ z (.one 0) x) z fun x z=>
 RO (bJ x (.bool false) v) fun v=>
 Qr v true (aN 2 (.ptr y.aA 0)) z fun x z=>
 Qr v true (aJ z (.one 0) x) z fun x z=>
 Qr v true (aO .eql .no x (iv 4)) z fun x z=>
 RO (bJ x (.bool false) v) fun v=>
 Qr v true (aN 9 (.ptr y.aA 0)) z fun x z=>
 Qr v true (aJ z (.one 0) x) z fun x z=>
 Qr v true (aO .eql .no x (iv 1)) z fun x z=>
 RO (bJ x (.bool false) v) fun v=>
 Qr v true (aJ z (.many 0 5) (.ptr w.aA 0)) z fun w x=>
 Qr v true (aN 4 (.ptr y.aA 0)) x fun x y=>
 Qr v true (aN 0 x) y fun x y=>
 Qr v true (aJ y (.one 0) x) y fun x y=>
 gV v true (fun z=>C 14 [w,x] y fun w x=>
 z w x) y fun w x=>
 RO (bJ w (.bool false) v) fun v=>
 aQ v=true∧K v x)):C 4 [] h K:=
 ent Tryz.func4 (A:=cT) rfl rfl (Eq.mp (by kernel_rfl) s)
theorem e11(s:C 24 [a0] (nw h (.cells [.aB,.aB,.aB,(iv 0),(iv 0)])) fun v w=>
 RO (aR 0 v) fun x=>
 RO (aR 1 v) fun y=>
 RO (aR 2 v) fun v=>
 RP (aW (nw w (.cells [.aB,.aB,.aB,(iv 0),(iv 0)])) 5 (aK x) (.ptr w.aA 0)) fun x z=>
 RO (aO .neq .no v (iv 0)) fun x=>
 cB x (RL (bK [.aB,.aB,.aB,(iv 0),(iv 0)] []) fun l8=>cA l8 (
 RP (aW z 5 (aK (.agg l8)) (.ptr h.aA 0)) fun x u=>
 RO (cE u (.many 0 5) (.ptr h.aA 0)) fun x=>aQ y=true∧aQ v=true∧K (.tuple [x,y,v]) u))
 (RO (aJ z (.many 0 5) (.ptr w.aA 0)) fun v=>
 C 25 [v] z fun v x=>
 RO (aR 0 v) fun z=>
 RO (aR 1 v) fun v=>
 RP (aW (nw x (.cells [(iv 0),(iv 0)])) 2 (aK z) (.ptr x.aA 0)) fun z u=>
 RO (aO .neq .no v (iv 0)) fun z=>
 cB z (RL (bK [.aB,.aB,.aB,(iv 0),(iv 0)] []) fun l20=>cA l20 (
 RP (aW (up u 7) 5 (aK (.agg l20)) (.ptr h.aA 0)) fun z t=>
 RO (aN 1 (.ptr x.aA 0)) fun x=>
 cP (fun hh=>cF hh (aJ hh (.one 0) x)) 1 [t,(up u 7)] fun x=>
 RO (cE t (.many 0 5) (.ptr h.aA 0)) fun z=>aQ x=true∧aQ v=true∧K (.tuple [z,x,v]) t))
 (RO (aJ u (.many 0 5) (.ptr w.aA 0)) fun v=>
 RP (aW u 5 (aK v) (.ptr h.aA 0)) fun v w=>
 RO (cE w (.many 0 5) (.ptr h.aA 0)) fun v=>aQ y=true∧aQ (iv 0)=true∧K (.tuple [v,y,(iv 0)]) w))):C 11 [a0] h K:=
 ent Tryz.func11 (A:=cT) rfl rfl (Eq.mp (by kernel_rfl) s)
def I6:List bH:= [aM 37,aM 36,aM 35,aM 8,aM 4,aM 5]
def aBX:CC:=cQ [1,1,1,1,1,0,1,0,0] (bL E Tryz.f13).code
def aEN(n:Nat):List bH:=bif Nat.beq n 0 then I6 else []
theorem aJe(s:RO (aO .lss .no x0 x1) fun v=>
 cB v (RO (cR none 2 x2 (bB x0)) fun v=>
 RO (aJ h (.many 0 2) v) fun v=>
 RP (aW (nw h (.cells [(.int .u8 0),(.int .u8 0)])) 2 (aK v) (.ptr h.aA 0)) fun v w=>
 RO (cR (some 2) 1 (.ptr h.aA 0) (bB (iv 0))) fun v=>
 RO (aJ w (.one 0) v) fun v=>
 C 29 [x3,v] w fun v w=>
 RO (cR (some 2) 1 (.ptr h.aA 0) (bB (iv 0))) fun x=>
 RO (aJ w (.one 0) x) fun x=>
 RO (cR (some 2) 1 (.ptr h.aA 0) (bB (iv 1))) fun y=>
 RO (aJ w (.one 0) y) fun y=>
 CV v [x,y] w fun v w=>
 RO (cU x3) fun v=>
 RO (aN 6 v) fun v=>
 RO (aJ w (.one 0) v) fun v=>
 RO (cU v) fun v=>
 RO (aN 0 v) fun v=>
 RO (aJ w (.one 0) v) fun v=>
 RO (cU v) fun v=>
 RO (aN 0 v) fun v=>
 RO (aJ w (.one 0) v) fun v=>
 C 30 [v] w fun v w=>
 gV v true (fun x=>x x3 w) w fun w x=>
 Qr v true (cR (some 2) 1 (.ptr h.aA 0) (bB (iv 1))) x fun x y=>
 Qr v true (aJ y (.one 0) x) y fun x y=>
 gV v true (fun z=>C 31 [w,x] y fun w x=>
 z w x) y fun w x=>
 Qr v true (gS .not w) x fun w x=>
 RO (bJ w (.bool false) v) fun v=>
 cB v (RO (cU x3) fun v=>
 RO (aN 7 v) fun v=>
 RO (aJ x (.many 0 10) v) fun v=>
 RP (aW x 10 (aK v) x4) fun v w=>
 rt [x0,x1,x2,x3,x4,x5] w)
 (RO (aO .add .no x0 (iv 1)) fun v=>
 N [v,x1,x2,x3,x4,x5] x))
 (bX e 0 [x0,x1,x2,x3,x4,x5] h)):WC aEN 0 aBX (pts I6 [x0,x1,x2,x3,x4,x5]) h (hC I6 N e rt):=
 Eq.mp (by kernel_rfl) s
theorem e13(s:C 11 [a0] (nw h (.cells [(iv 0),(iv 0),(iv 0),(iv 0),.aB,.aB,(iv 0),(iv 0),(.bool false),(iv 0)])) fun v w=>
 RO (aR 0 v) fun x=>
 RO (aR 1 v) fun y=>
 RO (aR 2 v) fun v=>
 RP (aW (nw w (.cells [.aB,.aB,.aB,(iv 0),(iv 0)])) 5 (aK x) (.ptr w.aA 0)) fun x z=>
 RO (aO .neq .no v (iv 0)) fun x=>
 cB x (RL (bK [(iv 0),(iv 0),(iv 0),(iv 0),.aB,.aB,(iv 0),(iv 0),(.bool false),(iv 0)] [(0,1,v),(1,1,y)]) fun l8=>cA l8 (
 RP (aW z 10 (aK (.agg l8)) (.ptr h.aA 0)) fun v x=>
 RO (cE x (.many 0 10) (.ptr h.aA 0)) fun v=>K v x))
 (C 26 [(iv 300)] (up z 5) fun v x=>
 cP (fun hh=>cF hh (aJ hh (.many 0 5) (.ptr w.aA 0))) 1 [x,(up z 5)] fun y=>
 RL (bK [.aB,.aB,.aB,(iv 0),(iv 0),.nilp,.nilp,(iv 0),(iv 0),(iv 0),(iv 0),.aB,.aB,(iv 0),(iv 0),(.bool false),(iv 0)] [(0,5,y),(5,1,v)]) fun l15=>cA l15 (
 cA (aK (.agg l15)) (C 27 [(.ptr (z.aA+3) 0)] (nwAt x (z.aA+3) (.cells (aK (.agg l15)))) fun v x=>
 RO (gS .not v) fun v=>
 cB v (RO (cU (.ptr (z.aA+3) 0)) fun v=>
 RO (aN 7 v) fun v=>
 RO (aJ x (.many 0 10) v) fun v=>
 RP (aW x 10 (aK v) (.ptr h.aA 0)) fun v y=>
 RO (cE y (.many 0 10) (.ptr h.aA 0)) fun v=>K v y)
 (C 28 [a1] x fun v x=>
 RP (bO .sl [v] x) fun x y=>
 gL I6 aBX [(iv 0),x,v,(.ptr (z.aA+3) 0),(.ptr h.aA 0),(.ptr w.aA 0)] y [(0,fun v w=>
 RO (cU (bD v 3)) fun x=>
 RO (aN 6 x) fun x=>
 RO (aJ w (.one 0) x) fun x=>
 C 32 [x] w fun w x=>
 RO (cU (bD v 3)) fun y=>
 RO (aN 7 y) fun y=>
 RO (aN 4 y) fun y=>
 RP (aW x 4 (aK w) y) fun w x=>
 cP (fun hh=>cF hh (aJ hh (.many 0 5) (bD v 5))) 0 [(up x 12)] fun w=>
 RO (cU (bD v 3)) fun y=>
 RO (aN 7 y) fun y=>
 RO (aN 4 y) fun y=>
 cP (fun hh=>cF hh (aJ hh (.many 0 4) y)) 0 [(up x 12)] fun y=>
 C 33 [w,y] (up x 12) fun w x=>
 RO (cU (bD v 3)) fun y=>
 RO (aN 7 y) fun y=>
 RO (aN 8 y) fun y=>
 RP (aW x 1 (aK w) y) fun w x=>
 RO (aJ x (.many 0 5) (bD v 5)) fun w=>
 C 34 [w,(iv 32),(iv 32)] x fun w x=>
 RO (sJ (.one 0) w) fun w=>
 RO (cU (bD v 3)) fun y=>
 RO (aN 7 y) fun y=>
 RO (aN 9 y) fun y=>
 RP (aW x 1 (aK w) y) fun w x=>
 RO (cU (bD v 3)) fun w=>
 RO (aN 7 w) fun w=>
 RO (aJ x (.many 0 10) w) fun w=>
 RP (aW x 10 (aK w) (bD v 4)) fun w x=>
 RO (cE x (.many 0 10) (bD v 4)) fun v=>K v x)] fun v w=>
 RO (cE w (.many 0 10) (bD v 4)) fun v=>K v w))))):C 13 [a0,a1] h K:=
 ent Tryz.func13 (A:=aEN) rfl rfl (Eq.mp (by kernel_rfl) s)
theorem e26(s:RO (iP max2 [(iv 0),a0]) fun v=>
 RO (iP min2 [v,(iv 1024)]) fun v=>
 RP (wH h [(.int .u8 0),(.int .u8 0),(.int .u8 0),(.int .u8 0),(.int .u8 0),(.int .u8 0),(.int .u8 0),(.int .u8 0),(.int .u8 0),(.int .u8 0),(.int .u8 0),(.int .u8 0),(.int .u8 0),(.int .u8 0),(.int .u8 0),(.int .u8 0),(.int .u8 0),(.int .u8 0),(.int .u8 0),(.int .u8 0),(.int .u8 0),(.int .u8 0),(.int .u8 0),(.int .u8 0),(.int .u8 0),(.int .u8 0),(.int .u8 0),(.int .u8 0),(.int .u8 0),(.int .u8 0),(.int .u8 0),(.int .u8 0)] (bB v) (bB v)) fun v w=>
 RL (bK [.aB,.aB,(.bool false),(iv 0),(iv 0),(iv 0)] [(0,1,v)]) fun l4=>cA l4 (
 cA (aK (.agg l4)) (aQ (.ptr w.aA 0)=true∧K (.ptr w.aA 0) (nw w (.cells (aK (.agg l4))))))):C 26 [a0] h K:=
 ent Tryz.func26 (A:=cT) rfl rfl (Eq.mp (by kernel_rfl) s)
theorem e29(s:RO (aO .rem .no a1 (.int .u8 10)) fun v=>
 RO (aO .eql .no v (.int .u8 8)) fun w=>
 cB w (aQ (.func (.func 74) [a0] [])=true∧K (.func (.func 74) [a0] []) h)
 (RO (aO .eql .no v (.int .u8 9)) fun v=>
 cB v (aQ (.func (.func 75) [a0] [])=true∧K (.func (.func 75) [a0] []) h)
 (aQ (.func (.func 76) [a0] [])=true∧K (.func (.func 76) [a0] []) h))):C 29 [a0,a1] h K:=
 ent Tryz.func29 (A:=cT) rfl rfl (Eq.mp (by kernel_rfl) s)
theorem e34(s:cA (aK a0) (cP (fun hh=>cF hh (aJ hh (.many 0 5) (.ptr h.aA 0))) 0 [(up (nw (nc h a0) (.cells [(iv 0),(iv 0),(iv 0),.aB])) 7)] fun v=>
 C 79 [v,a1,a2] (up (nw (nc h a0) (.cells [(iv 0),(iv 0),(iv 0),.aB])) 7) fun v w=>
 cP (fun hh=>cF hh (aJ hh (.many 0 5) (.ptr h.aA 0))) 1 [w,(up (nw (nc h a0) (.cells [(iv 0),(iv 0),(iv 0),.aB])) 7)] fun x=>
 C 78 [x,v] w fun v w=>
 RP (aW w 4 (aK v) (.ptr (nc h a0).aA 0)) fun v w=>
 RO (cE w (.many 0 4) (.ptr (nc h a0).aA 0)) fun v=>K v w)):C 34 [a0,a1,a2] h K:=
 ent Tryz.func34 (A:=cT) rfl rfl (Eq.mp (by kernel_rfl) s)
theorem e79(s:cA (aK a0) (cP (fun hh=>cF hh (aJ hh (.many 0 5) (.ptr h.aA 0))) 0 [(up (nw (nc h a0) (.cells [.aB,.aB,(.bool false)])) 7)] fun v=>
 C 15 [v] (up (nw (nc h a0) (.cells [.aB,.aB,(.bool false)])) 7) fun v w=>
 cP (fun hh=>cF hh (aJ hh (.many 0 5) (.ptr h.aA 0))) 1 [w,(up (nw (nc h a0) (.cells [.aB,.aB,(.bool false)])) 7)] fun x=>
 C 167 [x,v,a1,a2] w fun v w=>
 RP (aW w 3 (aK v) (.ptr (nc h a0).aA 0)) fun v w=>
 RO (cE w (.many 0 3) (.ptr (nc h a0).aA 0)) fun v=>K v w)):C 79 [a0,a1,a2] h K:=
 ent Tryz.func79 (A:=cT) rfl rfl (Eq.mp (by kernel_rfl) s)
def BJ:List bH:= [aM 10,aM 9,aM 3,aM 8]
def YV:CC:=cQ [1,1,1,1,1,0,1,0,0] (bL E Tryz.f167).code
def YW(n:Nat):List bH:=bif Nat.beq n 0 then BJ else []
theorem aEO(s:RO (cU x1) fun v=>
 RO (aN 7 v) fun v=>
 RO (aN 0 v) fun v=>
 RO (aJ h (.one 0) v) fun v=>
 RP (bO .sl [v] h) fun v w=>
 RO (aO .lss .no x0 v) fun v=>
 cB v ((fun(j34:aL→Prop)=>
 RO (cU x1) fun v=>
 RO (aN 7 v) fun v=>
 RO (aN 0 v) fun v=>
 RO (aJ w (.one 0) v) fun v=>
 RO (cR none 1 v (bB x0)) fun v=>
 RO (aJ w (.one 0) v) fun v=>
 C 18 [v] w fun v x=>
 RO (aO .gtr .no v x2) fun v=>
 cB v (RO (cU x1) fun v=>
 RO (aN 7 v) fun v=>
 RO (aN 2 v) fun v=>
 RP (aW x 1 (aK (.bool false)) v) fun v y=>
 j34 y)
 (C 283 [x1,x0] x fun v x=>
 j34 x))
 fun v=>
 RO (aO .add .no x0 (iv 1)) fun x=>
 N [x,x1,x2,x3] v)
 (bX e 0 [x0,x1,x2,x3] w)):WC YW 0 YV (pts BJ [x0,x1,x2,x3]) h (hC BJ N e rt):=
 Eq.mp (by kernel_rfl) s
theorem aQi(s:cA (aK a0) (RO (aO .leq .no a2 (iv 0)) fun v=>
 cB v (RL (bK [.aB,.aB,(.bool false)] []) fun l1=>cA l1 (
 RP (aW (nw (nc h a0) (.cells [.aB,.aB,(.bool false)])) 3 (aK (.agg l1)) (.ptr (nc h a0).aA 0)) fun v w=>
 RO (cE w (.many 0 3) (.ptr (nc h a0).aA 0)) fun v=>K v w))
 (RO (aJ (nw (nc h a0) (.cells [.aB,.aB,(.bool false)])) (.many 0 5) (.ptr h.aA 0)) fun v=>
 RL (bK [.aB,.aB,.aB,(iv 0),(iv 0),(iv 0),.nilm,.aB,.aB,(.bool false)] [(0,5,v),(5,1,a2),(6,1,(.map (nw (nc h a0) (.cells [.aB,.aB,(.bool false)])).aA))]) fun l6=>cA l6 (
 cA (aK (.agg l6)) (RO (cU (.ptr (nw (nw (nc h a0) (.cells [.aB,.aB,(.bool false)])) (.map [] 0)).aA 0)) fun v=>
 RO (aN 7 v) fun v=>
 RO (aN 2 v) fun v=>
 RP (aW (nw (nw (nw (nc h a0) (.cells [.aB,.aB,(.bool false)])) (.map [] 0)) (.cells (aK (.agg l6)))) 1 (aK (.bool true)) v) fun v w=>
 C 44 [a1] w fun v w=>
 C 282 [(.ptr (nw (nw (nc h a0) (.cells [.aB,.aB,(.bool false)])) (.map [] 0)).aA 0),v] w fun v w=>
 gL BJ YV [(iv 0),(.ptr (nw (nw (nc h a0) (.cells [.aB,.aB,(.bool false)])) (.map [] 0)).aA 0),a3,(.ptr (nc h a0).aA 0)] w [(0,fun v w=>
 RO (cU (bD v 1)) fun x=>
 RO (aN 7 x) fun x=>
 RO (aJ w (.many 0 3) x) fun x=>
 RP (aW w 3 (aK x) (bD v 3)) fun w x=>
 RO (cE x (.many 0 3) (bD v 3)) fun v=>K v x)] fun v w=>
 RO (cE w (.many 0 3) (bD v 3)) fun v=>K v w))))):C 167 [a0,a1,a2,a3] h K:=
 ent Tryz.func167 (A:=YW) rfl rfl (Eq.mp (by kernel_rfl) s)
end
end Ev
