/- Proved here: functions of the program, printed as propositions. Conditions: none beyond the hypotheses that each theorem states. -/
import Derived.Test.YtnlkancjfhgdcaaGreatDoorE09
set_option linter.all false
set_option maxRecDepth 100000
open Go Go.Proofs
namespace Ev
noncomputable section
variable{a0 a1 a2 a3 a4 a5 a6 a7 a8 a9 x0 x1 x2 x3 x4 x5 x6 x7 x8 x9 x10 x11 x12 x13 x14 x15 x16 x17 x18 x19 x20:AV}{h:aL}{K:KH}{N:List AV→aL→Prop}{e:Ends}{rt:List AV→aL→Prop}
theorem e95(s:cA (aK a1) (RO (cU a0) fun v=>
 RO (aN 9 v) fun v=>
 RO (aN 0 v) fun v=>
 RO (aJ (nw (nc h a1) (.cells [(iv 0),(iv 0),(iv 0),(iv 0),(iv 0)])) (.one 0) v) fun v=>
 RO (aO .eql .no v (iv 4)) fun w=>
 cB w (RO (aJ (nw (nc h a1) (.cells [(iv 0),(iv 0),(iv 0),(iv 0),(iv 0)])) (.many 0 5) (.ptr h.aA 0)) fun w=>
 C 193 [w] (nw (nc h a1) (.cells [(iv 0),(iv 0),(iv 0),(iv 0),(iv 0)])) fun w x=>
 RO (aR 0 w) fun y=>
 RO (aR 1 w) fun w=>
 RP (aW x 5 (aK y) (.ptr (nc h a1).aA 0)) fun x y=>
 RO (cE y (.many 0 5) (.ptr (nc h a1).aA 0)) fun x=>aQ w=true∧K (.tuple [x,w]) y)
 (RO (aO .eql .no v (iv 2)) fun v=>
 cB v (RO (aJ (nw (nc h a1) (.cells [(iv 0),(iv 0),(iv 0),(iv 0),(iv 0)])) (.many 0 5) (.ptr h.aA 0)) fun v=>
 C 194 [v] (nw (nc h a1) (.cells [(iv 0),(iv 0),(iv 0),(iv 0),(iv 0)])) fun v w=>
 RO (aR 0 v) fun x=>
 RO (aR 1 v) fun v=>
 RP (aW w 5 (aK x) (.ptr (nc h a1).aA 0)) fun w x=>
 RO (cE x (.many 0 5) (.ptr (nc h a1).aA 0)) fun w=>aQ v=true∧K (.tuple [w,v]) x)
 (RO (aJ (nw (nc h a1) (.cells [(iv 0),(iv 0),(iv 0),(iv 0),(iv 0)])) (.many 0 5) (.ptr h.aA 0)) fun v=>
 C 195 [v] (nw (nc h a1) (.cells [(iv 0),(iv 0),(iv 0),(iv 0),(iv 0)])) fun v w=>
 RO (aR 0 v) fun x=>
 RO (aR 1 v) fun v=>
 RP (aW w 5 (aK x) (.ptr (nc h a1).aA 0)) fun w x=>
 RO (cE x (.many 0 5) (.ptr (nc h a1).aA 0)) fun w=>aQ v=true∧K (.tuple [w,v]) x)))):C 95 [a0,a1] h K:=
 ent Tryz.func95 (A:=cT) rfl rfl (Eq.mp (by kernel_rfl) s)
theorem e50(s:C 94 [a0] (nw h (.cells [(iv 0),(iv 0),.aB])) fun v w=>
 RO (aR 0 v) fun x=>
 RO (aR 1 v) fun v=>
 RP (aW (nw w (.cells [(iv 0),(iv 0),.aB,.aB,.aB,(iv 0),(iv 0),(iv 0),(iv 0),(iv 0),(iv 0)])) 11 (aK x) (.ptr w.aA 0)) fun x y=>
 (fun(j6:AV→aL→Prop)=>
 RO (aO .eql .no v (iv 0)) fun x=>
 cB x (RO (aN 5 (.ptr w.aA 0)) fun x=>
 RO (aJ y (.many 0 5) x) fun x=>
 C 95 [a0,x] y fun x z=>
 RO (aR 0 x) fun u=>
 RO (aR 1 x) fun x=>
 RO (aN 5 (.ptr w.aA 0)) fun t=>
 RP (aW z 5 (aK u) t) fun z u=>
 j6 x u)
 (j6 v y))
 fun x17 v=>
 RO (aO .neq .no x17 (iv 0)) fun x=>
 cB x (RL (bK [(iv 0),(iv 0),.aB] []) fun l20=>cA l20 (
 RP (aW v 3 (aK (.agg l20)) (.ptr h.aA 0)) fun x y=>
 RO (cE y (.many 0 3) (.ptr h.aA 0)) fun x=>aQ x17=true∧K (.tuple [x,x17]) y))
 (RO (aN 0 (.ptr w.aA 0)) fun x=>
 RO (aJ v (.one 0) x) fun x=>
 RO (aN 0 (.ptr w.aA 0)) fun y=>
 RO (aJ v (.one 0) y) fun y=>
 RL (bK [(iv 0)] [(0,1,y)]) fun l28=>cA l28 (
 RL (bK [(iv 0),(iv 0),.aB] [(1,1,x),(2,1,(.slice v.aA 0 1 1 0))]) fun l29=>cA l29 (
 RP (aW (nw (nw v (.cells l28)) (.cells [(iv 0),(iv 0),.aB])) 3 (aK (.agg l29)) (.ptr (nw v (.cells l28)).aA 0)) fun x y=>
 RO (aN 5 (.ptr w.aA 0)) fun x=>
 RO (aJ y (.many 0 5) x) fun x=>
 C 96 [x] y fun x y=>
 RO (gS .not x) fun x=>
 cB x (RO (cU a0) fun x=>
 RO (aN 5 x) fun x=>
 RO (aN 1 x) fun x=>
 cP (fun hh=>cF hh (aJ hh (.one 0) x)) 0 [(up y 12)] fun x=>
 cP (fun hh=>cF hh (aJ hh (.many 0 11) (.ptr w.aA 0))) 0 [(up y 12)] fun z=>
 C 93 [x,z] (up y 12) fun x z=>
 RO (cU a0) fun u=>
 RO (aN 5 u) fun u=>
 RO (aN 1 u) fun u=>
 RP (aW z 1 (aK x) u) fun x z=>
 RO (aN 0 (.ptr w.aA 0)) fun x=>
 RO (aJ z (.one 0) x) fun x=>
 RL (bK [(iv 0),(iv 0),.aB] [(1,1,x)]) fun l51=>cA l51 (
 RP (aW z 3 (aK (.agg l51)) (.ptr h.aA 0)) fun x z=>
 RO (cE z (.many 0 3) (.ptr h.aA 0)) fun x=>aQ (iv 0)=true∧K (.tuple [x,(iv 0)]) z))
 (RO (aN 5 (.ptr w.aA 0)) fun x=>
 RO (aJ y (.many 0 5) x) fun x=>
 C 97 [x] y fun x y=>
 cB x (cP (fun hh=>cF hh (aJ hh (.many 0 11) (.ptr w.aA 0))) 0 [(up y 6)] fun x=>
 C 98 [a0,x,(fn 99)] (up y 6) fun x z=>
 cP (fun hh=>cF hh (aJ hh (.many 0 3) (.ptr (nw v (.cells l28)).aA 0))) 1 [z,(up y 6)] fun u=>
 RP (aW z 3 (aK u) (.ptr h.aA 0)) fun z u=>
 RO (cE u (.many 0 3) (.ptr h.aA 0)) fun z=>aQ x=true∧K (.tuple [z,x]) u)
 (cP (fun hh=>cF hh (aJ hh (.many 0 11) (.ptr w.aA 0))) 0 [(up y 6)] fun w=>
 C 98 [a0,w,(fn 100)] (up y 6) fun w x=>
 cP (fun hh=>cF hh (aJ hh (.many 0 3) (.ptr (nw v (.cells l28)).aA 0))) 1 [x,(up y 6)] fun v=>
 RP (aW x 3 (aK v) (.ptr h.aA 0)) fun v x=>
 RO (cE x (.many 0 3) (.ptr h.aA 0)) fun v=>aQ w=true∧K (.tuple [v,w]) x)))))):C 50 [a0] h K:=
 ent Tryz.func50 (A:=cT) rfl rfl (Eq.mp (by kernel_rfl) s)
theorem e51(s:C 94 [a0] (nw h (.cells [(iv 0),(iv 0),.aB])) fun v w=>
 RO (aR 0 v) fun x=>
 RO (aR 1 v) fun v=>
 RP (aW (nw w (.cells [(iv 0),(iv 0),.aB,.aB,.aB,(iv 0),(iv 0),(iv 0),(iv 0),(iv 0),(iv 0)])) 11 (aK x) (.ptr w.aA 0)) fun x y=>
 RO (aO .neq .no v (iv 0)) fun x=>
 cB x (RL (bK [(iv 0),(iv 0),.aB] []) fun l7=>cA l7 (
 RP (aW y 3 (aK (.agg l7)) (.ptr h.aA 0)) fun x z=>
 RO (cE z (.many 0 3) (.ptr h.aA 0)) fun x=>aQ v=true∧K (.tuple [x,v]) z))
 (cP (fun hh=>cF hh (aJ hh (.many 0 11) (.ptr w.aA 0))) 0 [(up y 11)] fun v=>
 C 98 [a0,v,(fn 100)] (up y 11) fun v x=>
 RO (aN 0 (.ptr w.aA 0)) fun z=>
 cP (fun hh=>cF hh (aJ hh (.one 0) z)) 1 [x,(up y 11)] fun z=>
 RO (aN 0 (.ptr w.aA 0)) fun w=>
 cP (fun hh=>cF hh (aJ hh (.one 0) w)) 1 [x,(up y 11)] fun w=>
 RL (bK [(iv 0)] [(0,1,w)]) fun l18=>cA l18 (
 RL (bK [(iv 0),(iv 0),.aB] [(1,1,z),(2,1,(.slice (y.aA+4) 0 1 1 0))]) fun l19=>cA l19 (
 RP (aW (nwAt x (y.aA+4) (.cells l18)) 3 (aK (.agg l19)) (.ptr h.aA 0)) fun w x=>
 RO (cE x (.many 0 3) (.ptr h.aA 0)) fun w=>aQ v=true∧K (.tuple [w,v]) x)))):C 51 [a0] h K:=
 ent Tryz.func51 (A:=cT) rfl rfl (Eq.mp (by kernel_rfl) s)
def IN:List bH:= [aM 37,aM 36,aM 35,aM 0,aM 2,aM 4,aM 3]
def aBF:CC:=cQ [1,1,1,1,0,1,0,0] (bL E Tryz.f52).code
def aDY(n:Nat):List bH:=bif Nat.beq n 0 then IN else []
theorem aIf(s:RO (aO .lss .no x0 x1) fun v=>
 cB v (RO (cR none 1 x2 (bB x0)) fun v=>
 RO (aJ h (.one 0) v) fun v=>
 RO (cU x3) fun w=>
 RO (aN 5 w) fun w=>
 RO (aN 1 w) fun w=>
 cP (fun hh=>cF hh (aJ hh (.one 0) w)) 0 [(up h 17)] fun w=>
 C 102 [w,v] (up h 17) fun v w=>
 RO (cU x3) fun x=>
 RO (aN 5 x) fun x=>
 RO (aN 1 x) fun x=>
 cP (fun hh=>cF hh (aJ hh (.one 0) x)) 1 [w,(up h 17)] fun x=>
 RO (cR none 11 x (bB v)) fun v=>
 cP (fun hh=>cF hh (aJ hh (.many 0 11) v)) 0 [w,(up h 17)] fun v=>
 C 98 [x3,v,(fn 100)] w fun v w=>
 RO (aO .neq .no v (iv 0)) fun x=>
 cB x (RL (bK [(iv 0),(iv 0),.aB] []) fun l58=>cA l58 (
 RP (aW w 3 (aK (.agg l58)) x4) fun x y=>
 rt [x0,x1,x2,x3,x4,x5,v] y))
 (RO (aO .add .no x0 (iv 1)) fun v=>
 N [v,x1,x2,x3,x4,x5,x6] w))
 (bX e 0 [x0,x1,x2,x3,x4,x5,x6] h)):WC aDY 0 aBF (pts IN [x0,x1,x2,x3,x4,x5,x6]) h (hC IN N e rt):=
 Eq.mp (by kernel_rfl) s
theorem e52(s:RO (cU a0) fun v=>
 RO (aN 5 v) fun v=>
 RO (aN 3 v) fun v=>
 RO (aJ (nw h (.cells [(iv 0),(iv 0),.aB])) (.one 0) v) fun v=>
 RO (aO .eql .no v (iv 1099511627776)) fun v=>
 cB v (RL (bK [(iv 0),(iv 0),.aB] []) fun l5=>cA l5 (
 RP (aW (nw h (.cells [(iv 0),(iv 0),.aB])) 3 (aK (.agg l5)) (.ptr h.aA 0)) fun v w=>
 RO (cE w (.many 0 3) (.ptr h.aA 0)) fun v=>aQ (iv 1)=true∧K (.tuple [v,(iv 1)]) w))
 (RO (cU a0) fun v=>
 RO (aN 5 v) fun v=>
 RO (aN 3 v) fun v=>
 RO (aJ (nw h (.cells [(iv 0),(iv 0),.aB])) (.one 0) v) fun v=>
 RO (aO .add .no v (iv 1)) fun v=>
 RO (cU a0) fun w=>
 RO (aN 5 w) fun w=>
 RO (aN 3 w) fun w=>
 RP (aW (nw h (.cells [(iv 0),(iv 0),.aB])) 1 (aK v) w) fun v w=>
 RO (cU a0) fun v=>
 RO (aN 5 v) fun v=>
 RO (aN 1 v) fun v=>
 cP (fun hh=>cF hh (aJ hh (.one 0) v)) 0 [(up w 12)] fun v=>
 RO (cU a0) fun x=>
 RO (aN 5 x) fun x=>
 RO (aN 3 x) fun x=>
 cP (fun hh=>cF hh (aJ hh (.one 0) x)) 0 [(up w 12)] fun x=>
 C 101 [v,x] (up w 12) fun v w=>
 RP (bO .sl [v] w) fun w x=>
 gL IN aBF [(iv 0),w,v,a0,(.ptr h.aA 0),v,(iv 0)] x [(0,fun v w=>
 RL (bK [(iv 0),(iv 0),.aB] [(2,1,(bD v 5))]) fun l33=>cA l33 (
 RP (aW w 3 (aK (.agg l33)) (bD v 4)) fun w x=>
 RO (cE x (.many 0 3) (bD v 4)) fun v=>aQ (iv 0)=true∧K (.tuple [v,(iv 0)]) x))] fun v w=>
 RO (cE w (.many 0 3) (bD v 4)) fun x=>aQ (bD v 6)=true∧K (.tuple [x,(bD v 6)]) w)):C 52 [a0] h K:=
 ent Tryz.func52 (A:=aDY) rfl rfl (Eq.mp (by kernel_rfl) s)
theorem e21(s:RO (cU a0) fun v=>
 RO (aN 9 v) fun v=>
 RO (aN 0 v) fun v=>
 RO (aJ h (.one 0) v) fun v=>
 (fun(j4:aL→Prop)=>
 RO (aO .eql .no v (iv 1)) fun w=>
 cB w (aQ (.func (.func 49) [a0] [])=true∧K (.func (.func 49) [a0] []) h)
 (RO (aO .eql .no v (iv 2)) fun w=>
 cB w (j4 h)
 (RO (aO .eql .no v (iv 3)) fun w=>
 cB w (j4 h)
 (RO (aO .eql .no v (iv 4)) fun w=>
 cB w (j4 h)
 (RO (aO .eql .no v (iv 5)) fun w=>
 cB w (aQ (.func (.func 51) [a0] [])=true∧K (.func (.func 51) [a0] []) h)
 (RO (aO .eql .no v (iv 6)) fun v=>
 cB v (aQ (.func (.func 52) [a0] [])=true∧K (.func (.func 52) [a0] []) h)
 (aQ .nilf=true∧K .nilf h)))))))
 fun v=>
 aQ (.func (.func 50) [a0] [])=true∧K (.func (.func 50) [a0] []) v):C 21 [a0] h K:=
 ent Tryz.func21 (A:=cT) rfl rfl (Eq.mp (by kernel_rfl) s)
theorem e9(s:cA (aK a0) (cA (aK a1) (cA (aK a2) (cP (fun hh=>cF hh (aJ hh (.many 0 4) (.ptr (nc h a0).aA 0))) 0 [(up (nw (nw (nc (nc (nc h a0) a1) a2) (.cells [.aB,.aB,(iv 0),(iv 0)])) (.cells [(iv 0),(iv 0),.aB])) 7)] fun v=>
 C 19 [v] (up (nw (nw (nc (nc (nc h a0) a1) a2) (.cells [.aB,.aB,(iv 0),(iv 0)])) (.cells [(iv 0),(iv 0),.aB])) 7) fun v w=>
 cP (fun hh=>cF hh (aJ hh (.many 0 5) (.ptr h.aA 0))) 1 [w,(up (nw (nw (nc (nc (nc h a0) a1) a2) (.cells [.aB,.aB,(iv 0),(iv 0)])) (.cells [(iv 0),(iv 0),.aB])) 7)] fun x=>
 cP (fun hh=>cF hh (aJ hh (.many 0 7) (.ptr (nc (nc h a0) a1).aA 0))) 1 [w,(up (nw (nw (nc (nc (nc h a0) a1) a2) (.cells [.aB,.aB,(iv 0),(iv 0)])) (.cells [(iv 0),(iv 0),.aB])) 7)] fun y=>
 RL (bK [.aB,.aB,.aB,(iv 0),(iv 0),.aB,.aB,(iv 0),(iv 0),(iv 0),(iv 0),(iv 0),.aB,.aB,.aB,(iv 0)] [(0,5,x),(5,4,v),(9,7,y)]) fun l5=>cA l5 (
 cA (aK (.agg l5)) (C 21 [(.ptr ((nw (nw (nc (nc (nc h a0) a1) a2) (.cells [.aB,.aB,(iv 0),(iv 0)])) (.cells [(iv 0),(iv 0),.aB])).aA+5) 0)] (nwAt w ((nw (nw (nc (nc (nc h a0) a1) a2) (.cells [.aB,.aB,(iv 0),(iv 0)])) (.cells [(iv 0),(iv 0),.aB])).aA+5) (.cells (aK (.agg l5)))) fun v w=>
 RO (aO .eql .func v .nilf) fun x=>
 Qr x false (aJ w (.many 0 5) (.ptr h.aA 0)) w fun w y=>
 Qr x false (aJ y (.many 0 4) (.ptr (nc h a0).aA 0)) y fun y z=>
 gV x false (fun u=>C 22 [w,y] z fun w y=>
 u w y) z fun w y=>
 Qr x false (gS .not w) y fun w y=>
 RO (bJ (.bool true) w x) fun w=>
 cB w (RO (aJ y (.many 0 4) (.ptr (nc h a0).aA 0)) fun w=>
 C 19 [w] y fun w x=>
 RL (bK [(iv 0),(iv 0),.aB] [(0,1,(iv 1))]) fun l30=>cA l30 (
 RP (aW x 4 (aK w) (.ptr (nc (nc (nc h a0) a1) a2).aA 0)) fun w x=>
 RP (aW x 3 (aK (.agg l30)) (.ptr (nw (nc (nc (nc h a0) a1) a2) (.cells [.aB,.aB,(iv 0),(iv 0)])).aA 0)) fun w x=>
 RO (cE x (.many 0 4) (.ptr (nc (nc (nc h a0) a1) a2).aA 0)) fun w=>RO (cE x (.many 0 3) (.ptr (nw (nc (nc (nc h a0) a1) a2) (.cells [.aB,.aB,(iv 0),(iv 0)])).aA 0)) fun z=>K (.tuple [w,z]) x))
 (CV v [] y fun v w=>
 RO (aR 0 v) fun x=>
 RO (aR 1 v) fun v=>
 RP (aW (nw w (.cells [(iv 0),(iv 0),.aB])) 3 (aK x) (.ptr w.aA 0)) fun x y=>
 RO (aO .neq .no v (iv 0)) fun x=>
 cB x (RO (aJ y (.many 0 4) (.ptr (nc h a0).aA 0)) fun x=>
 C 19 [x] y fun x z=>
 RL (bK [(iv 0),(iv 0),.aB] [(0,1,v)]) fun l47=>cA l47 (
 RP (aW z 4 (aK x) (.ptr (nc (nc (nc h a0) a1) a2).aA 0)) fun v x=>
 RP (aW x 3 (aK (.agg l47)) (.ptr (nw (nc (nc (nc h a0) a1) a2) (.cells [.aB,.aB,(iv 0),(iv 0)])).aA 0)) fun v x=>
 RO (cE x (.many 0 4) (.ptr (nc (nc (nc h a0) a1) a2).aA 0)) fun v=>RO (cE x (.many 0 3) (.ptr (nw (nc (nc (nc h a0) a1) a2) (.cells [.aB,.aB,(iv 0),(iv 0)])).aA 0)) fun z=>K (.tuple [v,z]) x))
 (RO (cU (.ptr ((nw (nw (nc (nc (nc h a0) a1) a2) (.cells [.aB,.aB,(iv 0),(iv 0)])) (.cells [(iv 0),(iv 0),.aB])).aA+5) 0)) fun v=>
 RO (aN 5 v) fun v=>
 cP (fun hh=>cF hh (aJ hh (.many 0 4) v)) 0 [(up y 7)] fun v=>
 RP (aW (up y 7) 4 (aK v) (.ptr (nc (nc (nc h a0) a1) a2).aA 0)) fun v x=>
 cP (fun hh=>cF hh (aJ hh (.many 0 3) (.ptr w.aA 0))) 1 [x,(up y 7)] fun v=>
 RP (aW x 3 (aK v) (.ptr (nw (nc (nc (nc h a0) a1) a2) (.cells [.aB,.aB,(iv 0),(iv 0)])).aA 0)) fun v w=>
 RO (cE w (.many 0 4) (.ptr (nc (nc (nc h a0) a1) a2).aA 0)) fun v=>RO (cE w (.many 0 3) (.ptr (nw (nc (nc (nc h a0) a1) a2) (.cells [.aB,.aB,(iv 0),(iv 0)])).aA 0)) fun x=>K (.tuple [v,x]) w)))))))):C 9 [a0,a1,a2] h K:=
 ent Tryz.func9 (A:=cT) rfl rfl (Eq.mp (by kernel_rfl) s)
def QQ:List bH:= [aM 16,aM 15,aM 14,aM 3,aM 4,aM 8,aM 6]
def aIg:CC:=cQ [1,1,1,0,1,0,0] (bL E Tryz.f7).code
def an7(n:Nat):List bH:=bif Nat.beq n 0 then QQ else []
theorem aOe(s:RO (aO .lss .no x0 x1) fun v=>
 cB v (RO (cR none 7 x2 (bB x0)) fun v=>
 RO (aJ h (.many 0 7) v) fun v=>
 RP (aW (nw h (.cells [(iv 0),(iv 0),(iv 0),.aB,.aB,.aB,(iv 0)])) 7 (aK v) (.ptr h.aA 0)) fun v w=>
 RO (aJ (nw w (.cells [(iv 0),(iv 0),.aB])) (.many 0 5) x3) fun v=>
 RO (aJ (nw w (.cells [(iv 0),(iv 0),.aB])) (.many 0 4) x4) fun x=>
 RO (aJ (nw w (.cells [(iv 0),(iv 0),.aB])) (.many 0 7) (.ptr h.aA 0)) fun y=>
 C 9 [v,x,y] (nw w (.cells [(iv 0),(iv 0),.aB])) fun v x=>
 RO (aR 0 v) fun y=>
 RO (aR 1 v) fun v=>
 RP (aW x 4 (aK y) x4) fun x y=>
 RP (aW y 3 (aK v) (.ptr w.aA 0)) fun v x=>
 RO (aJ x (.many 0 3) (.ptr w.aA 0)) fun v=>
 RL (bK [(iv 0),(iv 0),.aB] [(0,3,v)]) fun l33=>cA l33 (
 RP (cY 3 [x5,(.slice x.aA 0 1 1 0)] (nw x (.cells l33))) fun v w=>
 RO (aO .add .no x0 (iv 1)) fun x=>
 N [x,x1,x2,x3,x4,v,x6] w))
 (bX e 0 [x0,x1,x2,x3,x4,x5,x6] h)):WC an7 0 aIg (pts QQ [x0,x1,x2,x3,x4,x5,x6]) h (hC QQ N e rt):=
 Eq.mp (by kernel_rfl) s
theorem e7(s:cA (aK a0) (cA (aK a1) (RO (aJ (nw (nc (nc h a0) a1) (.cells [.aB,.aB,(iv 0),(iv 0)])) (.many 0 4) (.ptr (nc h a0).aA 0)) fun v=>
 C 19 [v] (nw (nc (nc h a0) a1) (.cells [.aB,.aB,(iv 0),(iv 0)])) fun v w=>
 RP (aW w 4 (aK v) (.ptr (nc h a0).aA 0)) fun v w=>
 RP (bO .sl [a2] w) fun v w=>
 gL QQ aIg [(iv 0),v,a2,(.ptr h.aA 0),(.ptr (nc h a0).aA 0),.aB,(.ptr (nc (nc h a0) a1).aA 0)] w [(0,fun v w=>
 RO (aJ w (.many 0 4) (bD v 4)) fun x=>
 RP (aW w 4 (aK x) (bD v 6)) fun w x=>
 RO (cE x (.many 0 4) (bD v 6)) fun w=>aQ (bD v 5)=true∧K (.tuple [w,(bD v 5)]) x)] fun v w=>
 RO (cE w (.many 0 4) (bD v 6)) fun v=>aQ .other=true∧K (.tuple [v,.other]) w))):C 7 [a0,a1,a2] h K:=
 ent Tryz.func7 (A:=an7) rfl rfl (Eq.mp (by kernel_rfl) s)
end
end Ev
