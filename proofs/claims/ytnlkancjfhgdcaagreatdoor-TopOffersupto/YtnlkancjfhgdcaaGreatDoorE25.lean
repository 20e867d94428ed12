/- Proved here: functions of the program, printed as propositions. Conditions: none beyond the hypotheses that each theorem states. -/
import Derived.Test.YtnlkancjfhgdcaaGreatDoorE09
set_option linter.all false
set_option maxRecDepth 100000
open Go Go.Proofs
namespace Ev
noncomputable section
variable{a0 a1 a2 a3 a4 a5 a6 a7 a8 a9 x0 x1 x2 x3 x4 x5 x6 x7 x8 x9 x10 x11 x12 x13 x14 x15 x16 x17 x18 x19 x20:AV}{h:aL}{K:KH}{N:List AV→aL→Prop}{e:Ends}{rt:List AV→aL→Prop}
theorem e25(s:cA (aK a0) (RL (bK [.nilf,(iv 0)] [(0,1,(.func (.func 61) [] [(.ptr h.aA 0)])),(1,1,(iv 2))]) fun l0=>cA l0 (
 RL (bK [.nilf,(iv 0)] [(0,1,(.func (.func 62) [] [(.ptr h.aA 0)])),(1,1,(iv 3))]) fun l1=>cA l1 (
 RL (bK [.nilf,(iv 0)] [(0,1,(.func (.func 64) [] [(.ptr h.aA 0)])),(1,1,(iv 1))]) fun l2=>cA l2 (
 RL (bK [.nilf,(iv 0),.nilf,(iv 0),.nilf,(iv 0)] [(0,2,(.agg l0)),(2,2,(.agg l1)),(4,2,(.agg l2))]) fun l3=>cA l3 (
 C 60 [(.slice (nw (nc h a0) (.cells [(iv 0),(iv 0)])).aA 0 3 3 0)] (nw (nw (nc h a0) (.cells [(iv 0),(iv 0)])) (.cells l3)) fun v w=>
 RO (aO .neq .no v (iv 0)) fun x=>
 cB x (RL (bK [(iv 0),(iv 0)] [(0,1,(iv 1))]) fun l7=>cA l7 (
 RP (aW w 2 (aK (.agg l7)) (.ptr (nc h a0).aA 0)) fun x y=>
 RO (cE y (.many 0 2) (.ptr (nc h a0).aA 0)) fun x=>aQ v=true∧K (.tuple [x,v]) y))
 (RO (aJ w (.many 0 5) (.ptr h.aA 0)) fun v=>
 C 65 [v] w fun v w=>
 RO (aR 0 v) fun x=>
 RO (aR 1 v) fun v=>
 RO (aO .neq .no v (iv 0)) fun y=>
 cB y (RL (bK [(iv 0),(iv 0)] [(0,1,(iv 2)),(1,1,x)]) fun l17=>cA l17 (
 RP (aW w 2 (aK (.agg l17)) (.ptr (nc h a0).aA 0)) fun x y=>
 RO (cE y (.many 0 2) (.ptr (nc h a0).aA 0)) fun x=>aQ v=true∧K (.tuple [x,v]) y))
 (RO (aN 1 (.ptr h.aA 0)) fun v=>
 RO (aJ w (.one 0) v) fun v=>
 C 66 [v,(.func (.func 67) [] [(.ptr h.aA 0)])] w fun v w=>
 RO (aR 0 v) fun x=>
 RO (aR 1 v) fun v=>
 RO (aO .neq .no v (iv 0)) fun y=>
 cB y (RL (bK [(iv 0),(iv 0)] [(0,1,(iv 3)),(1,1,x)]) fun l28=>cA l28 (
 RP (aW w 2 (aK (.agg l28)) (.ptr (nc h a0).aA 0)) fun x y=>
 RO (cE y (.many 0 2) (.ptr (nc h a0).aA 0)) fun x=>aQ v=true∧K (.tuple [x,v]) y))
 (RO (aN 2 (.ptr h.aA 0)) fun v=>
 RO (aJ w (.one 0) v) fun v=>
 C 69 [v,(.func (.func 70) [] [(.ptr h.aA 0)])] w fun v w=>
 RO (aR 0 v) fun x=>
 RO (aR 1 v) fun v=>
 RO (aO .neq .no v (iv 0)) fun y=>
 cB y (RL (bK [(iv 0),(iv 0)] [(0,1,(iv 4)),(1,1,x)]) fun l39=>cA l39 (
 RP (aW w 2 (aK (.agg l39)) (.ptr (nc h a0).aA 0)) fun x y=>
 RO (cE y (.many 0 2) (.ptr (nc h a0).aA 0)) fun x=>aQ v=true∧K (.tuple [x,v]) y))
 (RL (bK [(iv 0),(iv 0)] []) fun l43=>cA l43 (
 RP (aW w 2 (aK (.agg l43)) (.ptr (nc h a0).aA 0)) fun v w=>
 RO (cE w (.many 0 2) (.ptr (nc h a0).aA 0)) fun v=>aQ (iv 0)=true∧K (.tuple [v,(iv 0)]) w))))))))))):C 25 [a0] h K:=
 ent Tryz.func25 (A:=cT) rfl rfl (Eq.mp (by kernel_rfl) s)
theorem aO0(s:cA (aK a0) (RO (aN 0 (.ptr h.aA 0)) fun v=>
 RO (aJ (nc h a0) (.one 0) v) fun v=>
 RO (aN 0 a1) fun w=>
 RO (aJ (nc h a0) (.one 0) w) fun w=>
 RO (aO .eql .no v w) fun v=>
 aQ v=true∧K v (nc h a0))):C 136 [a0,a1] h K:=
 ent Tryz.func136 (A:=cT) rfl rfl (Eq.mp (by kernel_rfl) s)
theorem aO1(s:RO (aN 0 a0) fun v=>
 RO (aJ h (.one 0) v) fun v=>
 C 121 [v] h fun v w=>
 aQ v=true∧K v w):C 137 [a0] h K:=
 ent Tryz.func137 (A:=cT) rfl rfl (Eq.mp (by kernel_rfl) s)
theorem aO2(s:RO (aN 2 a0) fun v=>
 cP (fun hh=>cF hh (aJ hh (.one 0) v)) 0 [(up h 8)] fun v=>
 cP (fun hh=>cF hh (aJ hh (.one 0) a1)) 0 [(up h 8)] fun w=>
 RO (iQ none (some w) none v (.sl 14)) fun v=>
 cP (fun hh=>cF hh (aJ hh (.one 0) a2)) 0 [(up h 8)] fun w=>
 C 139 [v,w] (up h 8) fun v w=>
 RO (gS .not v) fun v=>
 aQ v=true∧K v w):C 138 [a0,a1,a2] h K:=
 ent Tryz.func138 (A:=cT) rfl rfl (Eq.mp (by kernel_rfl) s)
theorem aO3(s:C 231 [a0,a1] h fun v w=>
 RO (aO .geq .no v (iv 0)) fun v=>
 aQ v=true∧K v w):C 139 [a0,a1] h K:=
 ent Tryz.func139 (A:=cT) rfl rfl (Eq.mp (by kernel_rfl) s)
theorem aO4(s:RO (aJ h (.one 0) a0) fun v=>
 RO (aO .leq .no v (iv 16)) fun v=>
 Qr v true (aN 7 a1) h fun w x=>
 Qr v true (aJ x (.one 0) w) x fun w x=>
 Qp v true (bO .sl [w] x) x fun w x=>
 Qr v true (aN 8 a1) x fun x y=>
 Qr v true (aJ y (.one 0) x) y fun x y=>
 Qp v true (bO .sl [x] y) y fun x y=>
 Qr v true (aN 9 a1) y fun y z=>
 Qr v true (aJ z (.one 0) y) z fun y z=>
 Qp v true (bO .sl [y] z) z fun y z=>
 Qr v true (iP max2 [w,x,y]) z fun w x=>
 Qr v true (aO .leq .no w (iv 16)) x fun w x=>
 RO (bJ w (.bool false) v) fun v=>
 aQ v=true∧K v x):C 140 [a0,a1] h K:=
 ent Tryz.func140 (A:=cT) rfl rfl (Eq.mp (by kernel_rfl) s)
theorem aO5(s:cA (aK a0) (cA (aK a1) (aQ (.func (.func 232) [] [(.ptr (nc h a0).aA 0),(.ptr h.aA 0)])=true∧K (.func (.func 232) [] [(.ptr (nc h a0).aA 0),(.ptr h.aA 0)]) (nc (nc h a0) a1)))):C 141 [a0,a1] h K:=
 ent Tryz.func141 (A:=cT) rfl rfl (Eq.mp (by kernel_rfl) s)
theorem aO6(s:RO (aJ h (.many 0 5) a0) fun v=>
 RO (aN 1 a1) fun w=>
 RO (aJ h (.one 0) w) fun w=>
 C 143 [v,w] h fun v w=>
 aQ v=true∧K v w):C 142 [a0,a1] h K:=
 ent Tryz.func142 (A:=cT) rfl rfl (Eq.mp (by kernel_rfl) s)
theorem aO7(s:cA (aK a0) (cA (aK a1) (RO (aJ (nc (nc h a0) a1) (.one 0) (.ptr (nc h a0).aA 0)) fun v=>
 C 233 [v,(.func (.func 234) [] [(.ptr (nc h a0).aA 0),(.ptr h.aA 0)])] (nc (nc h a0) a1) fun v w=>
 RO (aR 0 v) fun x=>
 RO (aR 1 v) fun v=>
 aQ v=true∧K v w))):C 143 [a0,a1] h K:=
 ent Tryz.func143 (A:=cT) rfl rfl (Eq.mp (by kernel_rfl) s)
theorem aO8(s:RO (aJ h (.many 0 5) a0) fun v=>
 RO (aJ h (.one 0) a1) fun w=>
 C 43 [v,w] h fun v w=>
 RO (aO .leq .no v (iv 1024)) fun v=>
 aQ v=true∧K v w):C 144 [a0,a1] h K:=
 ent Tryz.func144 (A:=cT) rfl rfl (Eq.mp (by kernel_rfl) s)
theorem aO9(s:RO (aN 2 a0) fun v=>
 RO (aJ h (.many 0 3) v) fun v=>
 RO (aJ h (.one 0) a1) fun w=>
 C 146 [v,w] h fun v w=>
 Qr v true (aN 7 a0) w fun w x=>
 Qr v true (aJ x (.one 0) w) x fun w x=>
 Qp v true (bO .sl [w] x) x fun w x=>
 Qr v true (aO .gtr .no w (iv 0)) x fun w x=>
 RO (bJ w (.bool false) v) fun v=>
 Qr v true (aN 8 a0) x fun w x=>
 Qr v true (aJ x (.one 0) w) x fun w x=>
 Qp v true (bO .sl [w] x) x fun w x=>
 Qr v true (aO .gtr .no w (iv 0)) x fun w x=>
 RO (bJ w (.bool false) v) fun v=>
 aQ v=true∧K v x):C 145 [a0,a1] h K:=
 ent Tryz.func145 (A:=cT) rfl rfl (Eq.mp (by kernel_rfl) s)
theorem aPa(s:RO (aJ h (.many 0 5) a0) fun v=>
 RO (aN 7 a1) fun w=>
 RO (aJ h (.one 0) w) fun w=>
 RO (aJ h (.one 0) a2) fun x=>
 C 148 [v,w,x] h fun v w=>
 aQ v=true∧K v w):C 147 [a0,a1,a2] h K:=
 ent Tryz.func147 (A:=cT) rfl rfl (Eq.mp (by kernel_rfl) s)
theorem aPb(s:cA (aK a0) (cA (aK a2) (C 243 [a1,(.func (.func 244) [] [(.ptr h.aA 0),(.ptr (nc h a0).aA 0)])] (nc (nc h a0) a2) fun v w=>
 RO (aR 0 v) fun x=>
 RO (aR 1 v) fun v=>
 aQ v=true∧K v w))):C 148 [a0,a1,a2] h K:=
 ent Tryz.func148 (A:=cT) rfl rfl (Eq.mp (by kernel_rfl) s)
theorem aPc(s:RO (aJ h (.many 0 5) a0) fun v=>
 RO (aN 8 a1) fun w=>
 RO (aJ h (.one 0) w) fun w=>
 RO (aJ h (.one 0) a2) fun x=>
 C 148 [v,w,x] h fun v w=>
 aQ v=true∧K v w):C 149 [a0,a1,a2] h K:=
 ent Tryz.func149 (A:=cT) rfl rfl (Eq.mp (by kernel_rfl) s)
theorem aPd(s:RO (aJ h (.many 0 5) a0) fun v=>
 RO (aN 9 a1) fun w=>
 RO (aJ h (.one 0) w) fun w=>
 C 151 [v,w] h fun v w=>
 aQ v=true∧K v w):C 150 [a0,a1] h K:=
 ent Tryz.func150 (A:=cT) rfl rfl (Eq.mp (by kernel_rfl) s)
theorem aPe(s:cA (aK a0) (cA (aK a1) (RO (aJ (nc (nc h a0) a1) (.one 0) (.ptr (nc h a0).aA 0)) fun v=>
 C 247 [v,(.func (.func 248) [] [(.ptr h.aA 0),(.ptr (nc h a0).aA 0)])] (nc (nc h a0) a1) fun v w=>
 RO (aR 0 v) fun x=>
 RO (aR 1 v) fun v=>
 aQ v=true∧K v w))):C 151 [a0,a1] h K:=
 ent Tryz.func151 (A:=cT) rfl rfl (Eq.mp (by kernel_rfl) s)
theorem aPf(s:RO (aJ h (.many 0 14) a0) fun v=>
 C 153 [v] h fun v w=>
 aQ v=true∧K v w):C 152 [a0] h K:=
 ent Tryz.func152 (A:=cT) rfl rfl (Eq.mp (by kernel_rfl) s)
theorem aPg(s:cA (aK a0) (RO (aN 11 (.ptr h.aA 0)) fun v=>
 RO (cR (some 3) 1 v (bB (iv 0))) fun v=>
 cP (fun hh=>cF hh (aJ hh (.one 0) v)) 0 [(up (nc h a0) 12)] fun v=>
 RO (aN 11 (.ptr h.aA 0)) fun w=>
 RO (cR (some 3) 1 w (bB (iv 1))) fun w=>
 cP (fun hh=>cF hh (aJ hh (.one 0) w)) 0 [(up (nc h a0) 12)] fun w=>
 RO (aN 11 (.ptr h.aA 0)) fun x=>
 RO (cR (some 3) 1 x (bB (iv 2))) fun x=>
 cP (fun hh=>cF hh (aJ hh (.one 0) x)) 0 [(up (nc h a0) 12)] fun x=>
 RO (aN 11 (.ptr h.aA 0)) fun y=>
 RO (aJ (up (nc h a0) 12) (.many 0 3) y) fun y=>
 RL (bK [(iv 0),(iv 0),(iv 0)] []) fun l11=>cA l11 (
 RO (aO .eql (.flat [.int,.int,.int]) y (.agg l11)) fun y=>
 gV y false (fun z=>z v (up (nc h a0) 12)) (up (nc h a0) 12) fun z u=>
 Qr y false (aO .geq .no z (iv 1)) u fun z u=>
 gV y false (fun t=>t z u) u fun z u=>
 gV z true (fun t=>t v u) u fun v u=>
 gV z true (fun t=>t w u) u fun u t=>
 Qr z true (aO .leq .no v u) t fun v u=>
 Qr y false (bJ v (.bool false) z) u fun v z=>
 gV y false (fun u=>u v z) z fun v z=>
 gV v true (fun u=>u w z) z fun z u=>
 Qr v true (aO .leq .no z (iv 16)) u fun z u=>
 Qr y false (bJ z (.bool false) v) u fun v z=>
 gV y false (fun u=>u v z) z fun v z=>
 gV v true (fun u=>u x z) z fun z u=>
 Qr v true (aO .geq .no z (iv 1)) u fun z u=>
 Qr y false (bJ z (.bool false) v) u fun v z=>
 gV y false (fun u=>u v z) z fun v z=>
 gV v true (fun u=>u x z) z fun x z=>
 gV v true (fun u=>u w z) z fun w z=>
 Qr v true (aO .leq .no x w) z fun w x=>
 Qr y false (bJ w (.bool false) v) x fun v w=>
 RO (bJ (.bool true) v y) fun v=>
 RO (aN 5 (.ptr h.aA 0)) fun x=>
 RO (aJ w (.one 0) x) fun x=>
 RO (aN 7 (.ptr h.aA 0)) fun y=>
 RO (aJ w (.one 0) y) fun y=>
 CV (fn 251) [x,y] w fun w x=>
 gV w true (fun y=>y (fn 251) x) x fun x y=>
 Qr w true (aN 6 (.ptr h.aA 0)) y fun y z=>
 Qr w true (aJ z (.one 0) y) z fun y z=>
 Qr w true (aN 8 (.ptr h.aA 0)) z fun z u=>
 Qr w true (aJ u (.one 0) z) u fun z u=>
 gV w true (fun t=>CV x [y,z] u fun x y=>
 t x y) u fun x y=>
 RO (bJ x (.bool false) w) fun w=>
 Qr w true (aN 10 (.ptr h.aA 0)) y fun x y=>
 Qr w true (aJ y (.one 0) x) y fun x y=>
 Qr w true (aO .geq .no x (iv 0)) y fun x y=>
 RO (bJ x (.bool false) w) fun w=>
 Qr w true (aN 10 (.ptr h.aA 0)) y fun x y=>
 Qr w true (aJ y (.one 0) x) y fun x y=>
 Qr w true (aO .leq .no x (iv 65536)) y fun x y=>
 RO (bJ x (.bool false) w) fun w=>
 gV w true (fun x=>x v y) y fun v x=>
 RO (bJ v (.bool false) w) fun v=>
 aQ v=true∧K v x))):C 153 [a0] h K:=
 ent Tryz.func153 (A:=cT) rfl rfl (Eq.mp (by kernel_rfl) s)
end
end Ev
