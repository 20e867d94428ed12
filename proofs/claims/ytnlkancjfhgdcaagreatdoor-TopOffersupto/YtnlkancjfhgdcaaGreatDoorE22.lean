/- Proved here: functions of the program, printed as propositions. Conditions: none beyond the hypotheses that each theorem states. -/
import Derived.Test.YtnlkancjfhgdcaaGreatDoorE09
set_option linter.all false
set_option maxRecDepth 100000
open Go Go.Proofs
namespace Ev
noncomputable section
variable{a0 a1 a2 a3 a4 a5 a6 a7 a8 a9 x0 x1 x2 x3 x4 x5 x6 x7 x8 x9 x10 x11 x12 x13 x14 x15 x16 x17 x18 x19 x20:AV}{h:aL}{K:KH}{N:List AV→aL→Prop}{e:Ends}{rt:List AV→aL→Prop}
theorem e49(s:RO (cU a0) fun v=>
 RO (aN 9 v) fun v=>
 RO (aN 2 v) fun v=>
 RO (aJ (nw h (.cells [(iv 0),(iv 0),.aB])) (.many 0 4) v) fun v=>
 RP (aW (nw (nw h (.cells [(iv 0),(iv 0),.aB])) (.cells [(iv 0),.aB,.aB,.aB])) 4 (aK v) (.ptr (nw h (.cells [(iv 0),(iv 0),.aB])).aA 0)) fun v w=>
 RO (cU a0) fun v=>
 RO (aN 0 v) fun v=>
 cP (fun hh=>cF hh (aJ hh (.many 0 5) v)) 0 [(up w 12)] fun v=>
 RO (cU a0) fun x=>
 RO (aN 5 x) fun x=>
 RO (aN 0 x) fun x=>
 cP (fun hh=>cF hh (aJ hh (.one 0) x)) 0 [(up w 12)] fun x=>
 cP (fun hh=>cF hh (aJ hh (.many 0 4) (.ptr (nw h (.cells [(iv 0),(iv 0),.aB])).aA 0))) 0 [(up w 12)] fun y=>
 C 89 [v,x,y] (up w 12) fun v w=>
 RO (aO .neq .no v (iv 0)) fun x=>
 cB x (RL (bK [(iv 0),(iv 0),.aB] []) fun l17=>cA l17 (
 RP (aW w 3 (aK (.agg l17)) (.ptr h.aA 0)) fun x y=>
 RO (cE y (.many 0 3) (.ptr h.aA 0)) fun x=>aQ v=true∧K (.tuple [x,v]) y))
 (RO (cU a0) fun v=>
 RO (aN 0 v) fun v=>
 cP (fun hh=>cF hh (aJ hh (.many 0 5) v)) 0 [(up w 12)] fun v=>
 RO (cU a0) fun x=>
 RO (aN 5 x) fun x=>
 RO (aN 0 x) fun x=>
 cP (fun hh=>cF hh (aJ hh (.one 0) x)) 0 [(up w 12)] fun x=>
 cP (fun hh=>cF hh (aJ hh (.many 0 4) (.ptr (nw h (.cells [(iv 0),(iv 0),.aB])).aA 0))) 0 [(up w 12)] fun y=>
 C 48 [v,x,y,(iv 64)] (up w 12) fun v w=>
 RO (aO .neq .no v (iv 1)) fun v=>
 cB v (RL (bK [(iv 0),(iv 0),.aB] []) fun l32=>cA l32 (
 RP (aW w 3 (aK (.agg l32)) (.ptr h.aA 0)) fun v x=>
 RO (cE x (.many 0 3) (.ptr h.aA 0)) fun v=>aQ (iv 13)=true∧K (.tuple [v,(iv 13)]) x))
 (RO (cU a0) fun v=>
 RO (aN 0 v) fun v=>
 RO (aN 2 v) fun v=>
 cP (fun hh=>cF hh (aJ hh (.one 0) v)) 0 [(up w 11)] fun v=>
 RO (aN 0 (.ptr (nw h (.cells [(iv 0),(iv 0),.aB])).aA 0)) fun x=>
 cP (fun hh=>cF hh (aJ hh (.one 0) x)) 0 [(up w 11)] fun x=>
 RO (cR none 14 v (bB x)) fun v=>
 cP (fun hh=>cF hh (aJ hh (.many 0 14) v)) 0 [(up w 11)] fun v=>
 RP (aW (nwAt (up w 11) (w.aA+9) (.cells [(.str []),.aB,(iv 0),(iv 0),.aB,(iv 0),(iv 0),.aB,.aB,.aB,(iv 0),(iv 0),(iv 0),(iv 0)])) 14 (aK v) (.ptr (w.aA+9) 0)) fun v x=>
 RO (aN 11 (.ptr (w.aA+9) 0)) fun v=>
 cP (fun hh=>cF hh (aJ hh (.many 0 3) v)) 0 [(up x 14)] fun v=>
 RO (cU a0) fun y=>
 RO (aN 9 y) fun y=>
 RO (aN 6 y) fun y=>
 cP (fun hh=>cF hh (aJ hh (.one 0) y)) 0 [(up x 14)] fun y=>
 C 91 [v,y] (up x 14) fun v y=>
 RO (aR 0 v) fun z=>
 RP (aW (nwAt y (x.aA+11) (.cells [(iv 0),(iv 0),(iv 0),(iv 0),(iv 0)])) 5 (aK z) (.ptr (x.aA+11) 0)) fun y z=>
 RO (aR 1 v) fun v=>
 RO (aO .neq .no v (iv 0)) fun y=>
 cB y (RL (bK [(iv 0),(iv 0),.aB] []) fun l59=>cA l59 (
 RP (aW z 3 (aK (.agg l59)) (.ptr h.aA 0)) fun y u=>
 RO (cE u (.many 0 3) (.ptr h.aA 0)) fun y=>aQ v=true∧K (.tuple [y,v]) u))
 (RO (cU a0) fun v=>
 RO (aN 5 v) fun v=>
 RO (aN 1 v) fun v=>
 RO (aJ z (.one 0) v) fun v=>
 RP (bO .sl [v] z) fun v y=>
 RO (aO .geq .no v (iv 64)) fun v=>
 cB v (RL (bK [(iv 0),(iv 0),.aB] []) fun l70=>cA l70 (
 RP (aW y 3 (aK (.agg l70)) (.ptr h.aA 0)) fun v z=>
 RO (cE z (.many 0 3) (.ptr h.aA 0)) fun v=>aQ (iv 2)=true∧K (.tuple [v,(iv 2)]) z))
 (RO (cU a0) fun v=>
 RO (aN 5 v) fun v=>
 RO (aN 2 v) fun v=>
 RO (aJ y (.one 0) v) fun v=>
 RO (aO .eql .no v (iv 1099511627776)) fun v=>
 cB v (RL (bK [(iv 0),(iv 0),.aB] []) fun l79=>cA l79 (
 RP (aW y 3 (aK (.agg l79)) (.ptr h.aA 0)) fun v z=>
 RO (cE z (.many 0 3) (.ptr h.aA 0)) fun v=>aQ (iv 1)=true∧K (.tuple [v,(iv 1)]) z))
 (RO (cU a0) fun v=>
 RO (aN 5 v) fun v=>
 RO (aN 2 v) fun v=>
 cP (fun hh=>cF hh (aJ hh (.one 0) v)) 0 [(up y 10)] fun v=>
 cP (fun hh=>cF hh (aJ hh (.many 0 4) (.ptr (nw h (.cells [(iv 0),(iv 0),.aB])).aA 0))) 0 [(up y 10)] fun z=>
 cP (fun hh=>cF hh (aJ hh (.many 0 5) (.ptr (x.aA+11) 0))) 0 [(up y 10)] fun x=>
 RL (bK [(iv 0),(iv 0),.aB,.aB,.aB,(iv 0),(iv 0),(iv 0),(iv 0),(iv 0),(iv 0)] [(0,1,v),(1,4,z),(5,5,x)]) fun l89=>cA l89 (
 RP (aW (nwAt (up y 10) (y.aA+8) (.cells [(iv 0),(iv 0),.aB,.aB,.aB,(iv 0),(iv 0),(iv 0),(iv 0),(iv 0),(iv 0)])) 11 (aK (.agg l89)) (.ptr (y.aA+8) 0)) fun v x=>
 (fun(j92:aL→Prop)=>
 RO (aN 10 (.ptr (w.aA+9) 0)) fun v=>
 RO (aJ x (.one 0) v) fun v=>
 RO (aO .gtr .no v (iv 0)) fun v=>
 cB v (RO (cU a0) fun v=>
 RO (aN 5 v) fun v=>
 RO (aN 3 v) fun v=>
 cP (fun hh=>cF hh (aJ hh (.one 0) v)) 0 [(up x 10)] fun v=>
 RO (aN 10 (.ptr (w.aA+9) 0)) fun w=>
 cP (fun hh=>cF hh (aJ hh (.one 0) w)) 0 [(up x 10)] fun w=>
 RO (aO .add .no v w) fun v=>
 RO (aN 10 (.ptr (y.aA+8) 0)) fun w=>
 RP (aW (up x 10) 1 (aK v) w) fun v w=>
 j92 w)
 (j92 x))
 fun v=>
 RO (cU a0) fun w=>
 RO (aN 0 w) fun w=>
 cP (fun hh=>cF hh (aJ hh (.many 0 5) w)) 0 [(up v 20)] fun w=>
 RO (cU a0) fun x=>
 RO (aN 5 x) fun x=>
 RO (aN 0 x) fun x=>
 cP (fun hh=>cF hh (aJ hh (.one 0) x)) 0 [(up v 20)] fun x=>
 cP (fun hh=>cF hh (aJ hh (.many 0 4) (.ptr (nw h (.cells [(iv 0),(iv 0),.aB])).aA 0))) 0 [(up v 20)] fun z=>
 C 92 [w,x,z] (up v 20) fun v w=>
 RO (aR 0 v) fun x=>
 RO (cU a0) fun z=>
 RO (aN 5 z) fun z=>
 RO (aN 0 z) fun z=>
 RP (aW w 1 (aK x) z) fun w x=>
 RO (aR 1 v) fun v=>
 RO (aO .neq .no v (iv 0)) fun w=>
 cB w (RL (bK [(iv 0),(iv 0),.aB] []) fun l125=>cA l125 (
 RP (aW x 3 (aK (.agg l125)) (.ptr h.aA 0)) fun w z=>
 RO (cE z (.many 0 3) (.ptr h.aA 0)) fun w=>aQ v=true∧K (.tuple [w,v]) z))
 (RO (cU a0) fun v=>
 RO (aN 5 v) fun v=>
 RO (aN 1 v) fun v=>
 cP (fun hh=>cF hh (aJ hh (.one 0) v)) 0 [(up x 12)] fun v=>
 cP (fun hh=>cF hh (aJ hh (.many 0 11) (.ptr (y.aA+8) 0))) 0 [(up x 12)] fun w=>
 C 93 [v,w] (up x 12) fun v w=>
 RO (cU a0) fun x=>
 RO (aN 5 x) fun x=>
 RO (aN 1 x) fun x=>
 RP (aW w 1 (aK v) x) fun v w=>
 RO (cU a0) fun v=>
 RO (aN 5 v) fun v=>
 RO (aN 2 v) fun v=>
 RO (aJ w (.one 0) v) fun v=>
 RO (aO .add .no v (iv 1)) fun v=>
 RO (cU a0) fun x=>
 RO (aN 5 x) fun x=>
 RO (aN 2 x) fun x=>
 RP (aW w 1 (aK v) x) fun v w=>
 RO (aN 0 (.ptr (y.aA+8) 0)) fun v=>
 RO (aJ w (.one 0) v) fun v=>
 RL (bK [(iv 0),(iv 0),.aB] [(1,1,v)]) fun l153=>cA l153 (
 RP (aW w 3 (aK (.agg l153)) (.ptr h.aA 0)) fun v w=>
 RO (cE w (.many 0 3) (.ptr h.aA 0)) fun v=>aQ (iv 0)=true∧K (.tuple [v,(iv 0)]) w))))))))):C 49 [a0] h K:=
 ent Tryz.func49 (A:=cT) rfl rfl (Eq.mp (by kernel_rfl) s)
end
end Ev
