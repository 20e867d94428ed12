/- Proved here: functions of the program, printed as propositions. Conditions: none beyond the hypotheses that each theorem states. -/
import Derived.Test.YtnlkancjfhgdcaaGreatDoorE09
set_option linter.all false
set_option maxRecDepth 100000
open Go Go.Proofs
namespace Ev
noncomputable section
variable{a0 a1 a2 a3 a4 a5 a6 a7 a8 a9 x0 x1 x2 x3 x4 x5 x6 x7 x8 x9 x10 x11 x12 x13 x14 x15 x16 x17 x18 x19 x20:AV}{h:aL}{K:KH}{N:List AV→aL→Prop}{e:Ends}{rt:List AV→aL→Prop}
theorem e98(s:cA (aK a1) (RO (cU a0) fun v=>
 RO (aN 0 v) fun v=>
 cP (fun hh=>cF hh (aJ hh (.many 0 5) v)) 0 [(up (nc h a1) 18)] fun v=>
 RO (cU a0) fun w=>
 RO (aN 5 w) fun w=>
 RO (aN 0 w) fun w=>
 cP (fun hh=>cF hh (aJ hh (.one 0) w)) 0 [(up (nc h a1) 18)] fun w=>
 RO (aN 1 (.ptr h.aA 0)) fun x=>
 cP (fun hh=>cF hh (aJ hh (.many 0 4) x)) 0 [(up (nc h a1) 18)] fun x=>
 CV a2 [v,w,x] (up (nc h a1) 18) fun v w=>
 RO (aR 0 v) fun x=>
 RO (aR 1 v) fun v=>
 RO (aO .neq .no v (iv 0)) fun y=>
 cB y (aQ v=true∧K v w)
 (RO (cU a0) fun v=>
 RO (aN 5 v) fun v=>
 RO (aN 1 v) fun v=>
 cP (fun hh=>cF hh (aJ hh (.one 0) v)) 0 [(up w 19)] fun v=>
 RO (aN 0 (.ptr h.aA 0)) fun y=>
 cP (fun hh=>cF hh (aJ hh (.one 0) y)) 0 [(up w 19)] fun y=>
 C 189 [v,y] (up w 19) fun v w=>
 RO (cU a0) fun y=>
 RO (aN 5 y) fun y=>
 RO (aN 0 y) fun y=>
 RP (aW w 1 (aK x) y) fun w x=>
 RO (cU a0) fun w=>
 RO (aN 5 w) fun w=>
 RO (aN 1 w) fun w=>
 RP (aW x 1 (aK v) w) fun v w=>
 aQ (iv 0)=true∧K (iv 0) w))):C 98 [a0,a1,a2] h K:=
 ent Tryz.func98 (A:=cT) rfl rfl (Eq.mp (by kernel_rfl) s)
theorem e94(s:RO (cU a0) fun v=>
 RO (aN 5 v) fun v=>
 RO (aN 1 v) fun v=>
 cP (fun hh=>cF hh (aJ hh (.one 0) v)) 0 [(up (nw h (.cells [(iv 0),(iv 0),.aB,.aB,.aB,(iv 0),(iv 0),(iv 0),(iv 0),(iv 0),(iv 0)])) 12)] fun v=>
 RO (cU a0) fun w=>
 RO (aN 9 w) fun w=>
 RO (aN 1 w) fun w=>
 cP (fun hh=>cF hh (aJ hh (.one 0) w)) 0 [(up (nw h (.cells [(iv 0),(iv 0),.aB,.aB,.aB,(iv 0),(iv 0),(iv 0),(iv 0),(iv 0),(iv 0)])) 12)] fun w=>
 C 102 [v,w] (up (nw h (.cells [(iv 0),(iv 0),.aB,.aB,.aB,(iv 0),(iv 0),(iv 0),(iv 0),(iv 0),(iv 0)])) 12) fun v w=>
 RO (aO .geq .no v (iv 0)) fun x=>
 cB x (RO (cU a0) fun x=>
 RO (aN 5 x) fun x=>
 RO (aN 1 x) fun x=>
 RO (aJ w (.one 0) x) fun x=>
 RO (cR none 11 x (bB v)) fun v=>
 RO (aJ w (.many 0 11) v) fun v=>
 RP (aW w 11 (aK v) (.ptr h.aA 0)) fun v x=>
 RO (cE x (.many 0 11) (.ptr h.aA 0)) fun v=>aQ (iv 0)=true∧K (.tuple [v,(iv 0)]) x)
 (RO (cU a0) fun v=>
 RO (aN 9 v) fun v=>
 RO (aN 1 v) fun v=>
 cP (fun hh=>cF hh (aJ hh (.one 0) v)) 0 [(up w 20)] fun v=>
 RO (aO .gtr .no v (iv 0)) fun v=>
 gV v true (fun x=>x a0 (up w 20)) (up w 20) fun x y=>
 Qr v true (cU x) y fun x y=>
 Qr v true (aN 9 x) y fun x y=>
 Qr v true (aN 1 x) y fun x y=>
 gV v true (fun z=>cP (fun hh=>cF hh (aJ hh (.one 0) x)) 0 [(up w 20)] fun x=>
 z x y) y fun x y=>
 gV v true (fun z=>z a0 y) y fun y z=>
 Qr v true (cU y) z fun y z=>
 Qr v true (aN 5 y) z fun y z=>
 Qr v true (aN 2 y) z fun y z=>
 gV v true (fun u=>cP (fun hh=>cF hh (aJ hh (.one 0) y)) 0 [(up w 20)] fun w=>
 u w z) z fun w y=>
 Qr v true (aO .lss .no x w) y fun w x=>
 RO (bJ w (.bool false) v) fun v=>
 cB v (RL (bK [(iv 0),(iv 0),.aB,.aB,.aB,(iv 0),(iv 0),(iv 0),(iv 0),(iv 0),(iv 0)] []) fun l68=>cA l68 (
 RP (aW x 11 (aK (.agg l68)) (.ptr h.aA 0)) fun v w=>
 RO (cE w (.many 0 11) (.ptr h.aA 0)) fun v=>aQ (iv 12)=true∧K (.tuple [v,(iv 12)]) w))
 (RL (bK [(iv 0),(iv 0),.aB,.aB,.aB,(iv 0),(iv 0),(iv 0),(iv 0),(iv 0),(iv 0)] []) fun l72=>cA l72 (
 RP (aW x 11 (aK (.agg l72)) (.ptr h.aA 0)) fun v w=>
 RO (cE w (.many 0 11) (.ptr h.aA 0)) fun v=>aQ (iv 3)=true∧K (.tuple [v,(iv 3)]) w)))):C 94 [a0] h K:=
 ent Tryz.func94 (A:=cT) rfl rfl (Eq.mp (by kernel_rfl) s)
def AN:List bH:= [aM 10,aM 9,aM 8,aM 1,aM 5]
def W3:CC:=cQ [1,1,0,1,0,0] (bL E Tryz.f189).code
def W4(n:Nat):List bH:=bif Nat.beq n 0 then AN else []
theorem aDy(s:RO (aO .lss .no x0 x1) fun v=>
 cB v ((fun(j7:AV→aL→Prop)=>
 RO (cR none 11 x2 (bB x0)) fun v=>
 RO (aJ h (.many 0 11) v) fun v=>
 RP (aW (nw h (.cells [(iv 0),(iv 0),.aB,.aB,.aB,(iv 0),(iv 0),(iv 0),(iv 0),(iv 0),(iv 0)])) 11 (aK v) (.ptr h.aA 0)) fun v w=>
 RO (aN 0 (.ptr h.aA 0)) fun v=>
 RO (aJ w (.one 0) v) fun v=>
 RO (aO .neq .no v x3) fun v=>
 cB v (RO (aJ w (.many 0 11) (.ptr h.aA 0)) fun v=>
 C 192 [v] w fun v x=>
 RL (bK [(iv 0),(iv 0),.aB,.aB,.aB,(iv 0),(iv 0),(iv 0),(iv 0),(iv 0),(iv 0)] [(0,11,v)]) fun l18=>cA l18 (
 RP (cY 11 [x4,(.slice x.aA 0 1 1 0)] (nw x (.cells l18))) fun v x=>
 j7 v x))
 (j7 x4 w))
 fun x21 v=>
 RO (aO .add .no x0 (iv 1)) fun w=>
 N [w,x1,x2,x3,x21] v)
 (bX e 0 [x0,x1,x2,x3,x4] h)):WC W4 0 W3 (pts AN [x0,x1,x2,x3,x4]) h (hC AN N e rt):=
 Eq.mp (by kernel_rfl) s
theorem aNy(s:RP (bO .sl [a0] h) fun v w=>
 gL AN W3 [(iv 0),v,a0,a1,.aB] w [(0,fun v w=>
 aQ (bD v 4)=true∧K (bD v 4) w)] fun v w=>
 aQ .other=true∧K .other w):C 189 [a0,a1] h K:=
 ent Tryz.func189 (A:=W4) rfl rfl (Eq.mp (by kernel_rfl) s)
theorem aNz(s:cA (aK a0) (RO (aN 1 (.ptr h.aA 0)) fun v=>
 RO (aN 1 v) fun v=>
 cP (fun hh=>cF hh (aJ hh (.one 0) v)) 0 [(up (nw (nc h a0) (.cells [(iv 0),(iv 0),.aB,.aB,.aB,(iv 0),(iv 0),(iv 0),(iv 0),(iv 0),(iv 0)])) 21)] fun v=>
 C 46 [v] (up (nw (nc h a0) (.cells [(iv 0),(iv 0),.aB,.aB,.aB,(iv 0),(iv 0),(iv 0),(iv 0),(iv 0),(iv 0)])) 21) fun v w=>
 RO (aN 1 (.ptr h.aA 0)) fun x=>
 RO (aN 2 x) fun x=>
 cP (fun hh=>cF hh (aJ hh (.one 0) x)) 1 [w,(up (nw (nc h a0) (.cells [(iv 0),(iv 0),.aB,.aB,.aB,(iv 0),(iv 0),(iv 0),(iv 0),(iv 0),(iv 0)])) 21)] fun x=>
 C 46 [x] w fun x y=>
 RO (aN 1 (.ptr h.aA 0)) fun z=>
 RO (aN 3 z) fun z=>
 cP (fun hh=>cF hh (aJ hh (.one 0) z)) 2 [y,w,(up (nw (nc h a0) (.cells [(iv 0),(iv 0),.aB,.aB,.aB,(iv 0),(iv 0),(iv 0),(iv 0),(iv 0),(iv 0)])) 21)] fun w=>
 C 46 [w] y fun w y=>
 RO (aN 1 (.ptr h.aA 0)) fun z=>
 RO (aN 1 z) fun z=>
 RP (aW y 1 (aK v) z) fun v y=>
 RO (aN 1 (.ptr h.aA 0)) fun v=>
 RO (aN 2 v) fun v=>
 RP (aW y 1 (aK x) v) fun v x=>
 RO (aN 1 (.ptr h.aA 0)) fun v=>
 RO (aN 3 v) fun v=>
 RP (aW x 1 (aK w) v) fun v w=>
 RO (aJ w (.many 0 11) (.ptr h.aA 0)) fun v=>
 RP (aW w 11 (aK v) (.ptr (nc h a0).aA 0)) fun v w=>
 RO (cE w (.many 0 11) (.ptr (nc h a0).aA 0)) fun v=>K v w)):C 192 [a0] h K:=
 ent Tryz.func192 (A:=cT) rfl rfl (Eq.mp (by kernel_rfl) s)
theorem e93(s:cA (aK a1) (RO (aN 0 (.ptr h.aA 0)) fun v=>
 RO (aJ (nc h a1) (.one 0) v) fun v=>
 C 189 [a0,v] (nc h a1) fun v w=>
 C 104 [v,(.func (.func 190) [] [(.ptr h.aA 0)])] w fun w x=>
 (fun(j6:AV→aL→Prop)=>
 RO (aO .lss .no w (iv 0)) fun y=>
 cB y (RP (bO .sl [v] x) fun y z=>
 j6 y z)
 (j6 w x))
 fun x10 w=>
 RO (aJ w (.many 0 11) (.ptr h.aA 0)) fun x=>
 C 192 [x] w fun w x=>
 RL (bK [(iv 0),(iv 0),.aB,.aB,.aB,(iv 0),(iv 0),(iv 0),(iv 0),(iv 0),(iv 0)] [(0,11,w)]) fun l15=>cA l15 (
 C 191 [v,x10,(.slice x.aA 0 1 1 0)] (nw x (.cells l15)) fun v w=>
 aQ v=true∧K v w))):C 93 [a0,a1] h K:=
 ent Tryz.func93 (A:=cT) rfl rfl (Eq.mp (by kernel_rfl) s)
theorem aNA(s:cA (aK a0) (RO (aN 0 (.ptr h.aA 0)) fun v=>
 RO (aJ (nc h a0) (.one 0) v) fun v=>
 RO (aN 0 a1) fun w=>
 RO (aJ (nc h a0) (.one 0) w) fun w=>
 RO (aO .gtr .no v w) fun v=>
 aQ v=true∧K v (nc h a0))):C 190 [a0,a1] h K:=
 ent Tryz.func190 (A:=cT) rfl rfl (Eq.mp (by kernel_rfl) s)
def AP:List bH:= [aM 8,aM 7,aM 1,aM 0,aM 4]
def W5:CC:=cQ [1,0,1,0,0] (bL E Tryz.f104).code
def W6(n:Nat):List bH:=bif Nat.beq n 0 then AP else []
theorem aDz(s:RO (aO .lss .no x0 x1) fun v=>
 cB v (RO (cR none 11 x3 (bB x0)) fun v=>
 RO (aJ h (.many 0 11) v) fun v=>
 CV x2 [v] h fun v w=>
 cB v (rt [x0,x1,x2,x3,x0] w)
 (RO (aO .add .no x0 (iv 1)) fun v=>
 N [v,x1,x2,x3,x4] w))
 (bX e 0 [x0,x1,x2,x3,x4] h)):WC W6 0 W5 (pts AP [x0,x1,x2,x3,x4]) h (hC AP N e rt):=
 Eq.mp (by kernel_rfl) s
theorem aNB(s:RP (bO .sl [a0] h) fun v w=>
 gL AP W5 [(iv 0),v,a1,a0,(iv 0)] w [(0,fun v w=>
 aQ (iv (-1))=true∧K (iv (-1)) w)] fun v w=>
 aQ (bD v 4)=true∧K (bD v 4) w):C 104 [a0,a1] h K:=
 ent Tryz.func104 (A:=W6) rfl rfl (Eq.mp (by kernel_rfl) s)
theorem aNC(s:cA (aK a1) (C 104 [a0,(.func (.func 199) [] [(.ptr h.aA 0)])] (nc h a1) fun v w=>
 aQ v=true∧K v w)):C 102 [a0,a1] h K:=
 ent Tryz.func102 (A:=cT) rfl rfl (Eq.mp (by kernel_rfl) s)
theorem aND(s:cA (aK a0) (RO (aN 0 (.ptr h.aA 0)) fun v=>
 RO (aJ (nc h a0) (.one 0) v) fun v=>
 RO (aJ (nc h a0) (.one 0) a1) fun w=>
 RO (aO .eql .no v w) fun v=>
 aQ v=true∧K v (nc h a0))):C 199 [a0,a1] h K:=
 ent Tryz.func199 (A:=cT) rfl rfl (Eq.mp (by kernel_rfl) s)
def IC:List bH:= [aM 10,aM 9,aM 8,aM 5,aM 1,aM 0,aM 4]
def aBy:CC:=cQ [1,1,0,1,0,0] (bL E Tryz.f53).code
def aDA(n:Nat):List bH:=bif Nat.beq n 0 then IC else []
theorem aHT(s:RO (aO .lss .no x0 x1) fun v=>
 cB v (RO (cR none 11 x2 (bB x0)) fun v=>
 RO (aJ h (.many 0 11) v) fun v=>
 RP (aW (nw h (.cells [(iv 0),(iv 0),.aB,.aB,.aB,(iv 0),(iv 0),(iv 0),(iv 0),(iv 0),(iv 0)])) 11 (aK v) (.ptr h.aA 0)) fun v w=>
 RO (aN 0 (.ptr h.aA 0)) fun v=>
 RO (aJ w (.one 0) v) fun v=>
 RO (aO .leq .no v x3) fun v=>
 Qr v false (aN 0 (.ptr h.aA 0)) w fun w x=>
 Qr v false (aJ x (.one 0) w) x fun w x=>
 gV v false (fun y=>y x4 x) x fun x y=>
 Qr v false (aO .geq .no w x) y fun w x=>
 RO (bJ (.bool true) w v) fun v=>
 Qr v false (aN 10 (.ptr h.aA 0)) x fun w x=>
 Qr v false (aJ x (.one 0) w) x fun w x=>
 Qr v false (aO .lss .no w (iv 0)) x fun w x=>
 RO (bJ (.bool true) w v) fun v=>
 Qr v false (aN 5 (.ptr h.aA 0)) x fun w x=>
 Qr v false (aJ x (.many 0 5) w) x fun w x=>
 gV v false (fun y=>C 103 [w] x fun w z=>
 y w z) x fun w x=>
 Qr v false (gS .not w) x fun w x=>
 RO (bJ (.bool true) w v) fun v=>
 Qr v false (aN 5 (.ptr h.aA 0)) x fun w x=>
 Qr v false (aJ x (.many 0 5) w) x fun w x=>
 gV v false (fun y=>C 96 [w] x fun w z=>
 y w z) x fun w x=>
 RO (bJ (.bool true) w v) fun v=>
 cB v (rt [x0,x1,x2,x3,x4,x5,(.bool false)] x)
 (RO (aN 0 (.ptr h.aA 0)) fun v=>
 RO (aJ x (.one 0) v) fun v=>
 RO (aO .add .no x0 (iv 1)) fun w=>
 N [w,x1,x2,v,x4,x5,x6] x))
 (bX e 0 [x0,x1,x2,x3,x4,x5,x6] h)):WC aDA 0 aBy (pts IC [x0,x1,x2,x3,x4,x5,x6]) h (hC IC N e rt):=
 Eq.mp (by kernel_rfl) s
theorem e53(s:RP (bO .sl [a0] h) fun v w=>
 gL IC aBy [(iv 0),v,a0,(iv 0),a1,a0,(.bool false)] w [(0,fun v w=>
 RP (bO .sl [(bD v 5)] w) fun v w=>
 RO (aO .leq .no v (iv 64)) fun v=>
 aQ v=true∧K v w)] fun v w=>
 aQ (bD v 6)=true∧K (bD v 6) w):C 53 [a0,a1] h K:=
 ent Tryz.func53 (A:=aDA) rfl rfl (Eq.mp (by kernel_rfl) s)
theorem e54(s:C 104 [a0,a1] h fun v w=>
 RO (aO .geq .no v (iv 0)) fun v=>
 aQ v=true∧K v w):C 54 [a0,a1] h K:=
 ent Tryz.func54 (A:=cT) rfl rfl (Eq.mp (by kernel_rfl) s)
theorem e22(s:cA (aK a0) (cA (aK a1) (RO (aJ (nc (nc h a0) a1) (.many 0 5) (.ptr h.aA 0)) fun v=>
 RO (aN 0 (.ptr (nc h a0).aA 0)) fun w=>
 RO (aJ (nc (nc h a0) a1) (.one 0) w) fun w=>
 C 42 [v,w] (nc (nc h a0) a1) fun v w=>
 RO (gS .not v) fun v=>
 Qr v false (aN 2 (.ptr (nc h a0).aA 0)) w fun w x=>
 Qr v false (aJ x (.one 0) w) x fun w x=>
 Qr v false (aO .lss .no w (iv 1)) x fun w x=>
 RO (bJ (.bool true) w v) fun v=>
 Qr v false (aN 2 (.ptr (nc h a0).aA 0)) x fun w x=>
 Qr v false (aJ x (.one 0) w) x fun w x=>
 Qr v false (aO .gtr .no w (iv 1099511627776)) x fun w x=>
 RO (bJ (.bool true) w v) fun v=>
 Qr v false (aN 3 (.ptr (nc h a0).aA 0)) x fun w x=>
 Qr v false (aJ x (.one 0) w) x fun w x=>
 Qr v false (aO .lss .no w (iv 0)) x fun w x=>
 RO (bJ (.bool true) w v) fun v=>
 Qr v false (aN 3 (.ptr (nc h a0).aA 0)) x fun w x=>
 Qr v false (aJ x (.one 0) w) x fun w x=>
 Qr v false (aO .gtr .no w (iv 1099511627776)) x fun w x=>
 RO (bJ (.bool true) w v) fun v=>
 Qr v false (aN 1 (.ptr (nc h a0).aA 0)) x fun w x=>
 Qr v false (aJ x (.one 0) w) x fun w x=>
 Qr v false (aN 2 (.ptr (nc h a0).aA 0)) x fun x y=>
 Qr v false (aJ y (.one 0) x) y fun x y=>
 gV v false (fun z=>C 53 [w,x] y fun w x=>
 z w x) y fun w x=>
 Qr v false (gS .not w) x fun w x=>
 RO (bJ (.bool true) w v) fun v=>
 cB v (aQ (.bool false)=true∧K (.bool false) x)
 (RO (aN 1 (.ptr (nc h a0).aA 0)) fun v=>
 RO (aJ x (.one 0) v) fun v=>
 C 54 [v,(.func (.func 55) [] [(.ptr h.aA 0)])] x fun v w=>
 RO (gS .not v) fun v=>
 aQ v=true∧K v w)))):C 22 [a0,a1] h K:=
 ent Tryz.func22 (A:=cT) rfl rfl (Eq.mp (by kernel_rfl) s)
theorem e55(s:cA (aK a0) (RO (aJ (nc h a0) (.many 0 5) a1) fun v=>
 RO (aN 1 (.ptr h.aA 0)) fun w=>
 RO (aJ (nc h a0) (.many 0 4) w) fun w=>
 C 56 [v,w] (nc h a0) fun v w=>
 RO (aR 0 v) fun x=>
 RO (aR 1 v) fun v=>
 RO (aJ w (.many 0 5) a1) fun x=>
 RO (aN 1 (.ptr h.aA 0)) fun y=>
 RO (aJ w (.many 0 4) y) fun y=>
 C 57 [x,y] w fun w x=>
 RO (aR 0 w) fun y=>
 RO (aR 1 w) fun w=>
 RO (aO .neq .no v (iv 0)) fun v=>
 gV v false (fun y=>y w x) x fun w x=>
 Qr v false (aO .neq .no w (iv 0)) x fun w x=>
 RO (bJ (.bool true) w v) fun v=>
 aQ v=true∧K v x)):C 55 [a0,a1] h K:=
 ent Tryz.func55 (A:=cT) rfl rfl (Eq.mp (by kernel_rfl) s)
theorem e5(s:cA (aK a0) (RO (aJ (nw (nc h a0) (.cells [.aB,.aB,(iv 0),(iv 0)])) (.many 0 5) (.ptr h.aA 0)) fun v=>
 C 15 [v] (nw (nc h a0) (.cells [.aB,.aB,(iv 0),(iv 0)])) fun v w=>
 RL (bK [.aB,.aB,(iv 0),(iv 0)] [(0,1,v),(2,1,(iv 1))]) fun l3=>cA l3 (
 RP (aW w 4 (aK (.agg l3)) (.ptr (nc h a0).aA 0)) fun v w=>
 RO (cE w (.many 0 4) (.ptr (nc h a0).aA 0)) fun v=>K v w))):C 5 [a0] h K:=
 ent Tryz.func5 (A:=cT) rfl rfl (Eq.mp (by kernel_rfl) s)
end
end Ev
