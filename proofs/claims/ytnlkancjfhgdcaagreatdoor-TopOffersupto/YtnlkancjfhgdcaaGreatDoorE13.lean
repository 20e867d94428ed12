/- Proved here: functions of the program, printed as propositions. Conditions: none beyond the hypotheses that each theorem states. -/
import Derived.Test.YtnlkancjfhgdcaaGreatDoorE09
set_option linter.all false
set_option maxRecDepth 100000
open Go Go.Proofs
namespace Ev
noncomputable section
variable{a0 a1 a2 a3 a4 a5 a6 a7 a8 a9 x0 x1 x2 x3 x4 x5 x6 x7 x8 x9 x10 x11 x12 x13 x14 x15 x16 x17 x18 x19 x20:AV}{h:aL}{K:KH}{N:List AV→aL→Prop}{e:Ends}{rt:List AV→aL→Prop}
def S91(a0 a1:AV)(h:aL)(K:KH):Prop:=
 cA (aK a0) ((fun(j0:aL→Prop)=>
 RO (aJ (nw (nw h (.cells (aK a0))) (.cells [(iv 0),(iv 0),(iv 0),(iv 0),(iv 0)])) (.many 0 3) (.ptr h.aA 0)) fun v1=>
 RL (bK [(iv 0),(iv 0),(iv 0)] []) fun l2=>cA l2 (
 RO (aO .eql (.flat [.int,.int,.int]) v1 (.agg l2)) fun v3=>
 cB v3 (RL (bK [(iv 0),(iv 0),(iv 0)] [(0,1,(iv 1)),(1,1,(iv 1)),(2,1,(iv 1))]) fun l4=>cA l4 (
 RP (aW (nw (nw h (.cells (aK a0))) (.cells [(iv 0),(iv 0),(iv 0),(iv 0),(iv 0)])) 3 (aK (.agg l4)) (.ptr h.aA 0)) fun v5 h6=>
 j0 h6))
 (j0 (nw (nw h (.cells (aK a0))) (.cells [(iv 0),(iv 0),(iv 0),(iv 0),(iv 0)])))))
 fun h7=>
 RO (cR (some 3) 1 (.ptr h.aA 0) (bB (iv 0))) fun v8=>
 cP (fun hh=>cF hh (aJ hh (.one 0) v8)) 0 [(up h7 9)] fun v9=>
 RO (cR (some 3) 1 (.ptr h.aA 0) (bB (iv 1))) fun v10=>
 cP (fun hh=>cF hh (aJ hh (.one 0) v10)) 0 [(up h7 9)] fun v11=>
 RO (cR (some 3) 1 (.ptr h.aA 0) (bB (iv 2))) fun v12=>
 cP (fun hh=>cF hh (aJ hh (.one 0) v12)) 0 [(up h7 9)] fun v13=>
 RO (aO .lss .no v9 (iv 1)) fun v14=>
 gV v14 false (fun k15=>k15 v11 (up h7 9)) (up h7 9) fun v16 h17=>
 gV v14 false (fun k18=>k18 v9 h17) h17 fun v19 h20=>
 gV v14 false (fun k21=>C 186 [v16,v19,(iv 16)] h20 fun v22 h23=>
 k21 v22 h23) h20 fun v24 h25=>
 gV v14 false (fun k26=>RO (gS .not v24) fun v27=>
 k26 v27 h25) h25 fun v28 h29=>
 RO (bJ (.bool true) v28 v14) fun v30=>
 gV v30 false (fun k31=>k31 v13 h29) h29 fun v32 h33=>
 gV v30 false (fun k34=>k34 v11 h33) h33 fun v35 h36=>
 gV v30 false (fun k37=>C 186 [v32,(iv 1),v35] h36 fun v38 h39=>
 k37 v38 h39) h36 fun v40 h41=>
 gV v30 false (fun k42=>RO (gS .not v40) fun v43=>
 k42 v43 h41) h41 fun v44 h45=>
 RO (bJ (.bool true) v44 v30) fun v46=>
 gV v46 false (fun k47=>k47 a1 h45) h45 fun v48 h49=>
 gV v46 false (fun k50=>k50 v9 h49) h49 fun v51 h52=>
 gV v46 false (fun k53=>k53 v11 h52) h52 fun v54 h55=>
 gV v46 false (fun k56=>C 186 [v48,v51,v54] h55 fun v57 h58=>
 k56 v57 h58) h55 fun v59 h60=>
 gV v46 false (fun k61=>RO (gS .not v59) fun v62=>
 k61 v62 h60) h60 fun v63 h64=>
 RO (bJ (.bool true) v63 v46) fun v65=>
 cB v65 (RL (bK [(iv 0),(iv 0),(iv 0),(iv 0),(iv 0)] []) fun l66=>cA l66 (
 RP (aW h64 5 (aK (.agg l66)) (.ptr (nw h (.cells (aK a0))).aA 0)) fun v67 h68=>
 RO (cE h68 (.many 0 5) (.ptr (nw h (.cells (aK a0))).aA 0)) fun v69=>aQ (iv 1)=true∧K (.tuple [v69,(iv 1)]) h68))
 (RL (bK [(iv 0),(iv 0),(iv 0),(iv 0),(iv 0)] [(0,1,v11),(1,1,v13),(2,1,a1)]) fun l70=>cA l70 (
 RP (aW h64 5 (aK (.agg l70)) (.ptr (nw h (.cells (aK a0))).aA 0)) fun v71 h72=>
 RO (cE h72 (.many 0 5) (.ptr (nw h (.cells (aK a0))).aA 0)) fun v73=>aQ (iv 0)=true∧K (.tuple [v73,(iv 0)]) h72)))
theorem e91{a0 a1:AV}{h:aL}{K:KH}(s:S91 a0 a1 h K):C 91 [a0,a1] h K:=
 ent Tryz.func91 (A:=cT) rfl rfl (Eq.mp (by kernel_rfl:S91 a0 a1 h K=WC cT 0 (bL E Tryz.f91).code (pt [a0,a1] 0 .leaf) h (pD (bL E Tryz.f91).res K)) s)
theorem e96(s:cA (aK a0) (RO (aJ (nc h a0) (.many 0 5) (.ptr h.aA 0)) fun v=>
 C 103 [v] (nc h a0) fun v w=>
 Qr v true (aN 3 (.ptr h.aA 0)) w fun w x=>
 Qr v true (aJ x (.one 0) w) x fun w x=>
 Qr v true (aN 1 (.ptr h.aA 0)) x fun x y=>
 Qr v true (aJ y (.one 0) x) y fun x y=>
 Qr v true (aO .geq .no w x) y fun w x=>
 gV v true (fun y=>y w x) x fun w x=>
 Qr w false (aN 2 (.ptr h.aA 0)) x fun x y=>
 Qr w false (aJ y (.one 0) x) y fun x y=>
 Qr w false (aO .eql .no x (iv 0)) y fun x y=>
 Qr v true (bJ (.bool true) x w) y fun w x=>
 RO (bJ w (.bool false) v) fun v=>
 aQ v=true∧K v x)):C 96 [a0] h K:=
 ent Tryz.func96 (A:=cT) rfl rfl (Eq.mp (by kernel_rfl) s)
theorem e97(s:cA (aK a0) (RO (aJ (nc h a0) (.many 0 5) (.ptr h.aA 0)) fun v=>
 C 103 [v] (nc h a0) fun v w=>
 Qr v true (aN 3 (.ptr h.aA 0)) w fun w x=>
 Qr v true (aJ x (.one 0) w) x fun w x=>
 Qr v true (aN 1 (.ptr h.aA 0)) x fun x y=>
 Qr v true (aJ y (.one 0) x) y fun x y=>
 Qr v true (aO .geq .no w x) y fun w x=>
 RO (bJ w (.bool false) v) fun v=>
 aQ v=true∧K v x)):C 97 [a0] h K:=
 ent Tryz.func97 (A:=cT) rfl rfl (Eq.mp (by kernel_rfl) s)
def AM:List bH:= [aM 25,aM 24,aM 23,aM 1,aM 2]
def WZ:CC:=cQ [1,1,0,1,0,0] (bL E Tryz.f103).code
def W2(n:Nat):List bH:=bif Nat.beq n 0 then AM else []
theorem aDx(s:RO (aO .lss .no x0 x1) fun v=>
 cB v (RO (cR none 1 x2 (bB x0)) fun v=>
 RO (aJ h (.one 0) v) fun v=>
 RO (aN 0 x3) fun w=>
 RO (aJ h (.one 0) w) fun w=>
 C 186 [v,(iv 0),w] h fun v w=>
 RO (gS .not v) fun v=>
 cB v (rt [x0,x1,x2,x3,(.bool false)] w)
 (RO (aO .add .no x0 (iv 1)) fun v=>
 N [v,x1,x2,x3,x4] w))
 (bX e 0 [x0,x1,x2,x3,x4] h)):WC W2 0 WZ (pts AM [x0,x1,x2,x3,x4]) h (hC AM N e rt):=
 Eq.mp (by kernel_rfl) s
theorem aNr(s:cA (aK a0) (RO (aN 0 (.ptr h.aA 0)) fun v=>
 RO (aJ (nc h a0) (.one 0) v) fun v=>
 C 186 [v,(iv 1),(iv 16)] (nc h a0) fun v w=>
 RO (gS .not v) fun v=>
 Qr v false (aN 1 (.ptr h.aA 0)) w fun w x=>
 Qr v false (aJ x (.one 0) w) x fun w x=>
 Qr v false (aN 0 (.ptr h.aA 0)) x fun x y=>
 Qr v false (aJ y (.one 0) x) y fun x y=>
 gV v false (fun z=>C 186 [w,(iv 1),x] y fun w x=>
 z w x) y fun w x=>
 Qr v false (gS .not w) x fun w x=>
 RO (bJ (.bool true) w v) fun v=>
 cB v (aQ (.bool false)=true∧K (.bool false) x)
 (RO (aN 2 (.ptr h.aA 0)) fun v=>
 RO (aJ x (.one 0) v) fun v=>
 RO (aN 3 (.ptr h.aA 0)) fun w=>
 RO (aJ x (.one 0) w) fun w=>
 RO (aN 4 (.ptr h.aA 0)) fun y=>
 RO (aJ x (.one 0) y) fun y=>
 RL (bK [(iv 0),(iv 0),(iv 0)] [(0,1,v),(1,1,w),(2,1,y)]) fun l37=>cA l37 (
 RP (bO .sl [(.slice x.aA 0 3 3 0)] (nw x (.cells l37))) fun v w=>
 gL AM WZ [(iv 0),v,(.slice x.aA 0 3 3 0),(.ptr h.aA 0),(.bool false)] w [(0,fun v w=>
 cP (fun hh=>cF hh (aJ hh (.many 0 5) (bD v 3))) 0 [(up w 6)] fun x=>
 C 200 [x] (up w 6) fun x y=>
 RO (aN 0 (bD v 3)) fun v=>
 cP (fun hh=>cF hh (aJ hh (.one 0) v)) 1 [y,(up w 6)] fun v=>
 C 186 [x,(iv 1),v] y fun v w=>
 aQ v=true∧K v w)] fun v w=>
 aQ (bD v 4)=true∧K (bD v 4) w)))):C 103 [a0] h K:=
 ent Tryz.func103 (A:=W2) rfl rfl (Eq.mp (by kernel_rfl) s)
theorem aNs(s:RO (aO .geq .no a0 a1) fun v=>
 gV v true (fun w=>w a0 h) h fun w x=>
 gV v true (fun y=>y a2 x) x fun x y=>
 Qr v true (aO .leq .no w x) y fun w x=>
 RO (bJ w (.bool false) v) fun v=>
 aQ v=true∧K v x):C 186 [a0,a1,a2] h K:=
 ent Tryz.func186 (A:=cT) rfl rfl (Eq.mp (by kernel_rfl) s)
theorem aNt(s:cA (aK a0) (RO (aJ (nw (nc h a0) (.cells [(iv 0),(iv 0),(iv 0),(iv 0),(iv 0)])) (.many 0 5) (.ptr h.aA 0)) fun v=>
 C 299 [v,(iv 0)] (nw (nc h a0) (.cells [(iv 0),(iv 0),(iv 0),(iv 0),(iv 0)])) fun v w=>
 RO (aR 0 v) fun x=>
 RO (aR 1 v) fun v=>
 RP (aW w 5 (aK x) (.ptr (nc h a0).aA 0)) fun w x=>
 RO (cE x (.many 0 5) (.ptr (nc h a0).aA 0)) fun w=>aQ v=true∧K (.tuple [w,v]) x)):C 193 [a0] h K:=
 ent Tryz.func193 (A:=cT) rfl rfl (Eq.mp (by kernel_rfl) s)
theorem aNu(s:cA (aK a0) (RO (aJ (nw (nc h a0) (.cells [(iv 0),(iv 0),(iv 0),(iv 0),(iv 0)])) (.many 0 5) (.ptr h.aA 0)) fun v=>
 C 299 [v,(iv 1)] (nw (nc h a0) (.cells [(iv 0),(iv 0),(iv 0),(iv 0),(iv 0)])) fun v w=>
 RO (aR 0 v) fun x=>
 RO (aR 1 v) fun v=>
 RP (aW w 5 (aK x) (.ptr (nc h a0).aA 0)) fun w x=>
 RO (cE x (.many 0 5) (.ptr (nc h a0).aA 0)) fun w=>aQ v=true∧K (.tuple [w,v]) x)):C 194 [a0] h K:=
 ent Tryz.func194 (A:=cT) rfl rfl (Eq.mp (by kernel_rfl) s)
theorem aNv(s:cA (aK a0) (RO (aJ (nw (nc h a0) (.cells [(iv 0),(iv 0),(iv 0),(iv 0),(iv 0)])) (.many 0 5) (.ptr h.aA 0)) fun v=>
 C 299 [v,(iv 2)] (nw (nc h a0) (.cells [(iv 0),(iv 0),(iv 0),(iv 0),(iv 0)])) fun v w=>
 RO (aR 0 v) fun x=>
 RO (aR 1 v) fun v=>
 RP (aW w 5 (aK x) (.ptr (nc h a0).aA 0)) fun w x=>
 RO (cE x (.many 0 5) (.ptr (nc h a0).aA 0)) fun w=>aQ v=true∧K (.tuple [w,v]) x)):C 195 [a0] h K:=
 ent Tryz.func195 (A:=cT) rfl rfl (Eq.mp (by kernel_rfl) s)
theorem aNw(s:cA (aK a0) (RO (aN 2 (.ptr h.aA 0)) fun v=>
 RO (aJ (nc h a0) (.one 0) v) fun v=>
 RO (aN 3 (.ptr h.aA 0)) fun w=>
 RO (aJ (nc h a0) (.one 0) w) fun w=>
 RO (aO .add .no v w) fun v=>
 RO (aN 4 (.ptr h.aA 0)) fun w=>
 RO (aJ (nc h a0) (.one 0) w) fun w=>
 RO (aO .add .no v w) fun v=>
 aQ v=true∧K v (nc h a0))):C 200 [a0] h K:=
 ent Tryz.func200 (A:=cT) rfl rfl (Eq.mp (by kernel_rfl) s)
theorem aNx(s:cA (aK a0) (RO (aJ (nw (nc h a0) (.cells [(iv 0),(iv 0),(iv 0),(iv 0),(iv 0)])) (.many 0 5) (.ptr h.aA 0)) fun v=>
 C 103 [v] (nw (nc h a0) (.cells [(iv 0),(iv 0),(iv 0),(iv 0),(iv 0)])) fun v w=>
 RO (gS .not v) fun v=>
 cB v (RO (aJ w (.many 0 5) (.ptr h.aA 0)) fun v=>
 RP (aW w 5 (aK v) (.ptr (nc h a0).aA 0)) fun v x=>
 RO (cE x (.many 0 5) (.ptr (nc h a0).aA 0)) fun v=>aQ (iv 1)=true∧K (.tuple [v,(iv 1)]) x)
 (RO (aJ w (.many 0 5) (.ptr h.aA 0)) fun v=>
 C 96 [v] w fun v w=>
 cB v (RO (aJ w (.many 0 5) (.ptr h.aA 0)) fun v=>
 RP (aW w 5 (aK v) (.ptr (nc h a0).aA 0)) fun v x=>
 RO (cE x (.many 0 5) (.ptr (nc h a0).aA 0)) fun v=>aQ (iv 12)=true∧K (.tuple [v,(iv 12)]) x)
 ((fun(j15:aL→Prop)=>
 (fun(j16:aL→Prop)=>
 RO (aO .eql .no a1 (iv 0)) fun v=>
 cB v (cP (fun hh=>cF hh (aJ hh (.many 0 5) (.ptr h.aA 0))) 0 [(up w 5)] fun v=>
 C 200 [v] (up w 5) fun v x=>
 RO (aN 0 (.ptr h.aA 0)) fun y=>
 cP (fun hh=>cF hh (aJ hh (.one 0) y)) 1 [x,(up w 5)] fun y=>
 RO (aO .eql .no v y) fun v=>
 cB v (RO (aJ x (.many 0 5) (.ptr h.aA 0)) fun v=>
 RP (aW x 5 (aK v) (.ptr (nc h a0).aA 0)) fun v y=>
 RO (cE y (.many 0 5) (.ptr (nc h a0).aA 0)) fun v=>aQ (iv 2)=true∧K (.tuple [v,(iv 2)]) y)
 (RO (aN 2 (.ptr h.aA 0)) fun v=>
 RO (aJ x (.one 0) v) fun v=>
 RO (aO .add .no v (iv 1)) fun v=>
 RO (aN 2 (.ptr h.aA 0)) fun y=>
 RP (aW x 1 (aK v) y) fun v x=>
 j15 x))
 (RO (aO .eql .no a1 (iv 1)) fun v=>
 cB v (RO (aN 3 (.ptr h.aA 0)) fun v=>
 RO (aJ w (.one 0) v) fun v=>
 RO (aO .add .no v (iv 1)) fun v=>
 RO (aN 3 (.ptr h.aA 0)) fun x=>
 RP (aW w 1 (aK v) x) fun v x=>
 RO (aN 4 (.ptr h.aA 0)) fun v=>
 RO (aJ x (.one 0) v) fun v=>
 RO (aO .sub .no v (iv 1)) fun v=>
 RO (aN 4 (.ptr h.aA 0)) fun y=>
 RP (aW x 1 (aK v) y) fun v x=>
 j16 x)
 (RO (aO .eql .no a1 (iv 2)) fun v=>
 cB v (j16 w)
 (j15 w))))
 fun v=>
 RO (aN 4 (.ptr h.aA 0)) fun w=>
 RO (aJ v (.one 0) w) fun w=>
 RO (aO .add .no w (iv 1)) fun w=>
 RO (aN 4 (.ptr h.aA 0)) fun x=>
 RP (aW v 1 (aK w) x) fun v w=>
 RO (aN 2 (.ptr h.aA 0)) fun v=>
 RO (aJ w (.one 0) v) fun v=>
 RO (aO .sub .no v (iv 1)) fun v=>
 RO (aN 2 (.ptr h.aA 0)) fun x=>
 RP (aW w 1 (aK v) x) fun v w=>
 j15 w)
 fun v=>
 RO (aJ v (.many 0 5) (.ptr h.aA 0)) fun w=>
 RP (aW v 5 (aK w) (.ptr (nc h a0).aA 0)) fun v w=>
 RO (cE w (.many 0 5) (.ptr (nc h a0).aA 0)) fun v=>aQ (iv 0)=true∧K (.tuple [v,(iv 0)]) w)))):C 299 [a0,a1] h K:=
 ent Tryz.func299 (A:=cT) rfl rfl (Eq.mp (by kernel_rfl) s)
end
end Ev
