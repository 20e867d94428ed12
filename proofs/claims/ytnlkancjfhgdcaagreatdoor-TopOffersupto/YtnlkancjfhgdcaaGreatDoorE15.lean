/- Proved here: functions of the program, printed as propositions. Conditions: none beyond the hypotheses that each theorem states. -/
import Derived.Test.YtnlkancjfhgdcaaGreatDoorE09
set_option linter.all false
set_option maxRecDepth 100000
open Go Go.Proofs
namespace Ev
noncomputable section
variable{a0 a1 a2 a3 a4 a5 a6 a7 a8 a9 x0 x1 x2 x3 x4 x5 x6 x7 x8 x9 x10 x11 x12 x13 x14 x15 x16 x17 x18 x19 x20:AV}{h:aL}{K:KH}{N:List AV→aL→Prop}{e:Ends}{rt:List AV→aL→Prop}
theorem e37(s:EQ .eql a0 .aB fun v=>
 cB v (aQ .aB=true∧K .aB h)
 (RL (bK [] []) fun l1=>cA l1 (
 RP (cY 2 [(.slice h.aA 0 0 0 0),a0] (nw h (.cells l1))) fun v w=>
 aQ v=true∧K v w))):C 37 [a0] h K:=
 ent Tryz.func37 (A:=cT) rfl rfl (Eq.mp (by kernel_rfl) s)
theorem e46(s:EQ .eql a0 .aB fun v=>
 cB v (aQ .aB=true∧K .aB h)
 (RL (bK [] []) fun l1=>cA l1 (
 RP (cY 1 [(.slice h.aA 0 0 0 0),a0] (nw h (.cells l1))) fun v w=>
 aQ v=true∧K v w))):C 46 [a0] h K:=
 ent Tryz.func46 (A:=cT) rfl rfl (Eq.mp (by kernel_rfl) s)
theorem e87(s:EQ .eql a0 .aB fun v=>
 cB v (aQ .aB=true∧K .aB h)
 (RL (bK [] []) fun l1=>cA l1 (
 RP (cY 1 [(.slice h.aA 0 0 0 0),a0] (nw h (.cells l1))) fun v w=>
 aQ v=true∧K v w))):C 87 [a0] h K:=
 ent Tryz.func87 (A:=cT) rfl rfl (Eq.mp (by kernel_rfl) s)
theorem aMI(s:EQ .eql a0 .aB fun v=>
 cB v (aQ .aB=true∧K .aB h)
 (RL (bK [] []) fun l1=>cA l1 (
 RP (cY 1 [(.slice h.aA 0 0 0 0),a0] (nw h (.cells l1))) fun v w=>
 aQ v=true∧K v w))):C 177 [a0] h K:=
 ent Tryz.func177 (A:=cT) rfl rfl (Eq.mp (by kernel_rfl) s)
theorem e45(s:EQ .eql a0 .aB fun v=>
 cB v (aQ .aB=true∧K .aB h)
 (RL (bK [] []) fun l1=>cA l1 (
 RP (cY 11 [(.slice h.aA 0 0 0 0),a0] (nw h (.cells l1))) fun v w=>
 aQ v=true∧K v w))):C 45 [a0] h K:=
 ent Tryz.func45 (A:=cT) rfl rfl (Eq.mp (by kernel_rfl) s)
def HZ:List bH:= [aM 10,aM 9,aM 8,aM 3]
def aBr:CC:=cQ [1,1,0,1,0,0] (bL E Tryz.f44).code
def aDj(n:Nat):List bH:=bif Nat.beq n 0 then HZ else []
theorem aHv(s:RO (aO .lss .no x0 x1) fun v=>
 cB v (RO (cR none 1 x2 (bB x0)) fun v=>
 RO (aJ h (.one 0) v) fun v=>
 C 37 [v] h fun v w=>
 RO (cR none 1 x3 (bB x0)) fun x=>
 RP (aW w 1 (aK v) x) fun v w=>
 RO (aO .add .no x0 (iv 1)) fun v=>
 N [v,x1,x2,x3] w)
 (bX e 0 [x0,x1,x2,x3] h)):WC aDj 0 aBr (pts HZ [x0,x1,x2,x3]) h (hC HZ N e rt):=
 Eq.mp (by kernel_rfl) s
theorem e44(s:C 87 [a0] h fun v w=>
 RP (bO .sl [v] w) fun w x=>
 gL HZ aBr [(iv 0),w,v,v] x [(0,fun v w=>
 aQ (bD v 3)=true∧K (bD v 3) w)] fun v w=>
 aQ .other=true∧K .other w):C 44 [a0] h K:=
 ent Tryz.func44 (A:=aDj) rfl rfl (Eq.mp (by kernel_rfl) s)
def H6:List bH:= [aM 12,aM 11,aM 10,aM 1,aM 3]
def aBs:CC:=cQ [1,1,0,1,0,0] (bL E Tryz.f15).code
def aDk(n:Nat):List bH:=bif Nat.beq n 0 then H6 else []
theorem aHw(s:RO (aO .lss .no x0 x1) fun v=>
 cB v (RO (cR none 3 x2 (bB x0)) fun v=>
 RO (aJ h (.many 0 3) v) fun v=>
 RP (aW (nw h (.cells [(.str []),(iv 0),.aB])) 3 (aK v) (.ptr h.aA 0)) fun v w=>
 RO (aN 2 (.ptr h.aA 0)) fun v=>
 RO (aJ w (.one 0) v) fun v=>
 C 37 [v] w fun v w=>
 (fun(j17:AV→aL→Prop)=>
 RO (aN 3 x3) fun x=>
 RO (aJ w (.one 0) x) fun x=>
 RO (aO .eql .no x0 x) fun x=>
 cB x (RL (bK [(iv 0)] [(0,1,(iv 0))]) fun l21=>cA l21 (
 C 39 [(.slice w.aA 0 1 1 0)] (nw w (.cells l21)) fun x y=>
 C 38 [v,x] y fun x y=>
 RO (aR 0 x) fun z=>
 RO (aR 1 x) fun x=>
 RO (aO .eql .no x (iv 0)) fun x=>
 cB x (j17 z y)
 (j17 v y)))
 (j17 v w))
 fun x29 v=>
 RL (bK [.aB] [(0,1,x29)]) fun l31=>cA l31 (
 RP (cY 1 [x4,(.slice v.aA 0 1 1 0)] (nw v (.cells l31))) fun v w=>
 RO (aO .add .no x0 (iv 1)) fun x=>
 N [x,x1,x2,x3,v] w))
 (bX e 0 [x0,x1,x2,x3,x4] h)):WC aDk 0 aBs (pts H6 [x0,x1,x2,x3,x4]) h (hC H6 N e rt):=
 Eq.mp (by kernel_rfl) s
theorem e15(s:cA (aK a0) (RO (aN 1 (.ptr h.aA 0)) fun v=>
 RO (aJ (nc h a0) (.one 0) v) fun v=>
 RP (bO .sl [v] (nc h a0)) fun w x=>
 gL H6 aBs [(iv 0),w,v,(.ptr h.aA 0),.aB] x [(0,fun v w=>
 aQ (bD v 4)=true∧K (bD v 4) w)] fun v w=>
 aQ .other=true∧K .other w)):C 15 [a0] h K:=
 ent Tryz.func15 (A:=aDk) rfl rfl (Eq.mp (by kernel_rfl) s)
def H7:List bH:= [aM 16,aM 15,aM 14,aM 2,aM 4]
def aBt:CC:=cQ [1,1,0,1,0,0] (bL E Tryz.f42).code
def aDl(n:Nat):List bH:=bif Nat.beq n 0 then H7 else []
theorem aHx(s:RO (aO .lss .no x0 x1) fun v=>
 cB v (RO (cR none 1 x2 (bB x0)) fun v=>
 RO (aJ h (.one 0) v) fun v=>
 RO (aN 0 x3) fun w=>
 cP (fun hh=>cF hh (aJ hh (.one 0) w)) 0 [(up h 10)] fun w=>
 RO (aN 1 x3) fun x=>
 cP (fun hh=>cF hh (aJ hh (.one 0) x)) 0 [(up h 10)] fun x=>
 RO (cR none 3 x (bB x0)) fun x=>
 RO (aN 1 x) fun x=>
 cP (fun hh=>cF hh (aJ hh (.one 0) x)) 0 [(up h 10)] fun x=>
 C 84 [w,x] (up h 10) fun w x=>
 C 85 [v] x fun x y=>
 RO (gS .not x) fun x=>
 gV x false (fun z=>z v y) y fun y z=>
 Qp x false (bO .sl [y] z) z fun y z=>
 Qr x false (aO .gtr .no y (iv 0)) z fun y z=>
 gV x false (fun u=>u y z) z fun y z=>
 gV y true (fun u=>u v z) z fun z u=>
 gV y true (fun t=>t v u) u fun v u=>
 Qp y true (bO .sl [v] u) u fun v u=>
 Qr y true (aO .sub .no v (iv 1)) u fun v u=>
 Qr y true (cR none 2 z (bB v)) u fun v z=>
 Qr y true (cR (some 2) 1 v (bB (iv 0))) z fun v z=>
 Qr y true (aJ z (.one 0) v) z fun v z=>
 gV y true (fun u=>u w z) z fun w z=>
 Qr y true (aO .geq .no v w) z fun v w=>
 Qr x false (bJ v (.bool false) y) w fun v w=>
 RO (bJ (.bool true) v x) fun v=>
 cB v (rt [x0,x1,x2,x3,(.bool false)] w)
 (RO (aO .add .no x0 (iv 1)) fun v=>
 N [v,x1,x2,x3,x4] w))
 (bX e 0 [x0,x1,x2,x3,x4] h)):WC aDl 0 aBt (pts H7 [x0,x1,x2,x3,x4]) h (hC H7 N e rt):=
 Eq.mp (by kernel_rfl) s
theorem e42(s:cA (aK a0) (RP (bO .sl [a1] (nc h a0)) fun v w=>
 RO (aN 1 (.ptr h.aA 0)) fun x=>
 RO (aJ w (.one 0) x) fun x=>
 RP (bO .sl [x] w) fun w x=>
 RO (aO .neq .no v w) fun v=>
 cB v (aQ (.bool false)=true∧K (.bool false) x)
 (RP (bO .sl [a1] x) fun v w=>
 gL H7 aBt [(iv 0),v,a1,(.ptr h.aA 0),(.bool false)] w [(0,fun v w=>
 aQ (.bool true)=true∧K (.bool true) w)] fun v w=>
 aQ (bD v 4)=true∧K (bD v 4) w))):C 42 [a0,a1] h K:=
 ent Tryz.func42 (A:=aDl) rfl rfl (Eq.mp (by kernel_rfl) s)
def H8:List bH:= [aM 8,aM 7,aM 6,aM 3]
def aBu:CC:=cQ [1,1,0,1,0,0] (bL E Tryz.f18).code
def aDm(n:Nat):List bH:=bif Nat.beq n 0 then H8 else []
theorem aHy(s:RO (aO .lss .no x0 x1) fun v=>
 cB v (RO (cR none 1 x2 (bB x0)) fun v=>
 RO (aJ h (.one 0) v) fun v=>
 C 36 [v] h fun v w=>
 RO (aO .add .no x3 v) fun v=>
 RO (aO .add .no x0 (iv 1)) fun x=>
 N [x,x1,x2,v] w)
 (bX e 0 [x0,x1,x2,x3] h)):WC aDm 0 aBu (pts H8 [x0,x1,x2,x3]) h (hC H8 N e rt):=
 Eq.mp (by kernel_rfl) s
theorem e18(s:RP (bO .sl [a0] h) fun v w=>
 gL H8 aBu [(iv 0),v,a0,(iv 0)] w [(0,fun v w=>
 aQ (bD v 3)=true∧K (bD v 3) w)] fun v w=>
 aQ .other=true∧K .other w):C 18 [a0] h K:=
 ent Tryz.func18 (A:=aDm) rfl rfl (Eq.mp (by kernel_rfl) s)
def AI:List bH:= [aM 17,aM 16,aM 15,aM 1,aM 2,aM 6]
def WO:CC:=cQ [1,1,0,1,0,0] (bL E Tryz.f369).code
def WP(n:Nat):List bH:=bif Nat.beq n 0 then AI else []
theorem aDn(s:RO (aO .lss .no x0 x1) fun v=>
 cB v (RO (cR none 1 x2 (bB x0)) fun v=>
 RO (aJ h (.one 0) v) fun v=>
 RO (cR none 1 x3 (bB x0)) fun w=>
 RO (aJ h (.one 0) w) fun w=>
 CV x4 [v,w] h fun v w=>
 RO (gS .not v) fun v=>
 cB v (rt [x0,x1,x2,x3,x4,(.bool false)] w)
 (RO (aO .add .no x0 (iv 1)) fun v=>
 N [v,x1,x2,x3,x4,x5] w))
 (bX e 0 [x0,x1,x2,x3,x4,x5] h)):WC WP 0 WO (pts AI [x0,x1,x2,x3,x4,x5]) h (hC AI N e rt):=
 Eq.mp (by kernel_rfl) s
theorem aMJ(s:RP (bO .sl [a0] h) fun v w=>
 RP (bO .sl [a1] w) fun w x=>
 RO (aO .neq .no v w) fun v=>
 cB v (aQ (.bool false)=true∧K (.bool false) x)
 (RP (bO .sl [a0] x) fun v w=>
 gL AI WO [(iv 0),v,a0,a1,a2,(.bool false)] w [(0,fun v w=>
 aQ (.bool true)=true∧K (.bool true) w)] fun v w=>
 aQ (bD v 5)=true∧K (bD v 5) w)):C 369 [a0,a1,a2] h K:=
 ent Tryz.func369 (A:=WP) rfl rfl (Eq.mp (by kernel_rfl) s)
def H9:List bH:= [aM 13,aM 12,aM 0,aM 1,aM 4]
def aBv:CC:=cQ [1,1,0,1,0,0] (bL E Tryz.f23).code
def aDo(n:Nat):List bH:=bif Nat.beq n 0 then H9 else []
theorem aHz(s:RO (aO .lss .no x0 x1) fun v=>
 cB v (RO (cR none 1 x2 (bB x0)) fun v=>
 cP (fun hh=>cF hh (aJ hh (.one 0) v)) 0 [(up h 9)] fun v=>
 RO (cR none 1 x3 (bB x0)) fun w=>
 cP (fun hh=>cF hh (aJ hh (.one 0) w)) 0 [(up h 9)] fun w=>
 RO (aO .neq .no v w) fun v=>
 cB v (rt [x0,x1,x2,x3,(.bool false)] (up h 9))
 (RO (aO .add .no x0 (iv 1)) fun v=>
 N [v,x1,x2,x3,x4] (up h 9)))
 (bX e 0 [x0,x1,x2,x3,x4] h)):WC aDo 0 aBv (pts H9 [x0,x1,x2,x3,x4]) h (hC H9 N e rt):=
 Eq.mp (by kernel_rfl) s
theorem e23(s:RP (bO .sl [a0] h) fun v w=>
 RP (bO .sl [a1] w) fun w x=>
 RO (aO .neq .no v w) fun v=>
 cB v (aQ (.bool false)=true∧K (.bool false) x)
 (RP (bO .sl [a0] x) fun v w=>
 gL H9 aBv [(iv 0),v,a0,a1,(.bool false)] w [(0,fun v w=>
 aQ (.bool true)=true∧K (.bool true) w)] fun v w=>
 aQ (bD v 4)=true∧K (bD v 4) w)):C 23 [a0,a1] h K:=
 ent Tryz.func23 (A:=aDo) rfl rfl (Eq.mp (by kernel_rfl) s)
theorem aMK(s:C 369 [a0,a1,(fn 370)] h fun v w=>
 aQ v=true∧K v w):C 289 [a0,a1] h K:=
 ent Tryz.func289 (A:=cT) rfl rfl (Eq.mp (by kernel_rfl) s)
theorem e10(s:cA (aK a0) (cA (aK a1) (RO (aN 0 (.ptr h.aA 0)) fun v=>
 RO (aJ (nc (nc h a0) a1) (.one 0) v) fun v=>
 RO (aN 0 (.ptr (nc h a0).aA 0)) fun w=>
 RO (aJ (nc (nc h a0) a1) (.one 0) w) fun w=>
 RO (aO .eql .no v w) fun v=>
 Qr v true (aN 1 (.ptr h.aA 0)) (nc (nc h a0) a1) fun w x=>
 Qr v true (aJ x (.one 0) w) x fun w x=>
 Qr v true (aN 1 (.ptr (nc h a0).aA 0)) x fun x y=>
 Qr v true (aJ y (.one 0) x) y fun x y=>
 gV v true (fun z=>C 23 [w,x] y fun w x=>
 z w x) y fun w x=>
 RO (bJ w (.bool false) v) fun v=>
 Qr v true (aN 2 (.ptr h.aA 0)) x fun w x=>
 Qr v true (aJ x (.one 0) w) x fun w x=>
 Qr v true (aN 2 (.ptr (nc h a0).aA 0)) x fun x y=>
 Qr v true (aJ y (.one 0) x) y fun x y=>
 gV v true (fun z=>C 23 [w,x] y fun w x=>
 z w x) y fun w x=>
 RO (bJ w (.bool false) v) fun v=>
 Qr v true (aN 3 (.ptr h.aA 0)) x fun w x=>
 Qr v true (aJ x (.one 0) w) x fun w x=>
 Qr v true (aN 3 (.ptr (nc h a0).aA 0)) x fun x y=>
 Qr v true (aJ y (.one 0) x) y fun x y=>
 gV v true (fun z=>C 23 [w,x] y fun w x=>
 z w x) y fun w x=>
 RO (bJ w (.bool false) v) fun v=>
 aQ v=true∧K v x))):C 10 [a0,a1] h K:=
 ent Tryz.func10 (A:=cT) rfl rfl (Eq.mp (by kernel_rfl) s)
theorem e48(s:cA (aK a0) (cA (aK a2) (RO (aJ (nc (nc h a0) a2) (.many 0 5) (.ptr h.aA 0)) fun v=>
 RO (aJ (nc (nc h a0) a2) (.many 0 4) (.ptr (nc h a0).aA 0)) fun w=>
 C 89 [v,a1,w] (nc (nc h a0) a2) fun v w=>
 RO (aO .neq .no v (iv 0)) fun v=>
 cB v (aQ (iv 0)=true∧K (iv 0) w)
 (RO (aN 2 (.ptr h.aA 0)) fun v=>
 RO (aJ w (.one 0) v) fun v=>
 RO (aN 0 (.ptr (nc h a0).aA 0)) fun x=>
 RO (aJ w (.one 0) x) fun x=>
 RO (cR none 14 v (bB x)) fun v=>
 RO (aN 5 v) fun v=>
 RO (aJ w (.one 0) v) fun v=>
 RO (aO .neq .no v (iv 3)) fun v=>
 cB v (aQ (iv 1)=true∧K (iv 1) w)
 (RO (aJ w (.many 0 5) (.ptr h.aA 0)) fun v=>
 RO (aN 0 (.ptr (nc h a0).aA 0)) fun x=>
 RO (aJ w (.one 0) x) fun x=>
 C 90 [v,a1,x,a3] w fun v w=>
 aQ v=true∧K v w))))):C 48 [a0,a1,a2,a3] h K:=
 ent Tryz.func48 (A:=cT) rfl rfl (Eq.mp (by kernel_rfl) s)
def IA:List bH:= [aM 17,aM 16,aM 15,aM 1,aM 2]
def aBw:CC:=cQ [1,1,0,1,0,0] (bL E Tryz.f19).code
def aDq(n:Nat):List bH:=bif Nat.beq n 0 then IA else []
theorem aHA(s:RO (aO .lss .no x0 x1) fun v=>
 cB v (RO (cR none 11 x2 (bB x0)) fun v=>
 RO (aJ h (.many 0 11) v) fun v=>
 RP (aW (nw h (.cells [(iv 0),(iv 0),.aB,.aB,.aB,(iv 0),(iv 0),(iv 0),(iv 0),(iv 0),(iv 0)])) 11 (aK v) (.ptr h.aA 0)) fun v w=>
 RO (aN 1 (.ptr h.aA 0)) fun v=>
 RO (aJ w (.many 0 4) v) fun v=>
 RP (aW (nw w (.cells [(iv 0),.aB,.aB,.aB])) 4 (aK v) (.ptr w.aA 0)) fun v x=>
 RO (aN 1 (.ptr w.aA 0)) fun v=>
 cP (fun hh=>cF hh (aJ hh (.one 0) v)) 0 [(up x 18)] fun v=>
 C 46 [v] (up x 18) fun v y=>
 RO (aN 2 (.ptr w.aA 0)) fun z=>
 cP (fun hh=>cF hh (aJ hh (.one 0) z)) 1 [y,(up x 18)] fun z=>
 C 46 [z] y fun z u=>
 RO (aN 3 (.ptr w.aA 0)) fun t=>
 cP (fun hh=>cF hh (aJ hh (.one 0) t)) 2 [u,y,(up x 18)] fun t=>
 C 46 [t] u fun t r=>
 RO (aN 1 x3) fun q=>
 cP (fun hh=>cF hh (aJ hh (.one 0) q)) 3 [r,u,y,(up x 18)] fun q=>
 RO (aN 0 (.ptr w.aA 0)) fun w=>
 cP (fun hh=>cF hh (aJ hh (.one 0) w)) 3 [r,u,y,(up x 18)] fun w=>
 RL (bK [(iv 0),.aB,.aB,.aB] [(0,1,w),(1,1,v),(2,1,z),(3,1,t)]) fun l52=>cA l52 (
 RO (cR none 11 q (bB x0)) fun v=>
 RO (aN 1 v) fun v=>
 RP (aW r 4 (aK (.agg l52)) v) fun v w=>
 RO (aO .add .no x0 (iv 1)) fun v=>
 N [v,x1,x2,x3,x4] w))
 (bX e 0 [x0,x1,x2,x3,x4] h)):WC aDq 0 aBw (pts IA [x0,x1,x2,x3,x4]) h (hC IA N e rt):=
 Eq.mp (by kernel_rfl) s
theorem e19(s:cA (aK a0) (RO (aN 0 (.ptr h.aA 0)) fun v=>
 cP (fun hh=>cF hh (aJ hh (.one 0) v)) 0 [(up (nw (nc h a0) (.cells [.aB,.aB,(iv 0),(iv 0)])) 10)] fun v=>
 C 44 [v] (up (nw (nc h a0) (.cells [.aB,.aB,(iv 0),(iv 0)])) 10) fun v w=>
 RO (aN 1 (.ptr h.aA 0)) fun x=>
 cP (fun hh=>cF hh (aJ hh (.one 0) x)) 1 [w,(up (nw (nc h a0) (.cells [.aB,.aB,(iv 0),(iv 0)])) 10)] fun x=>
 C 45 [x] w fun w x=>
 RO (aN 0 (.ptr h.aA 0)) fun y=>
 RP (aW x 1 (aK v) y) fun v x=>
 RO (aN 1 (.ptr h.aA 0)) fun v=>
 RP (aW x 1 (aK w) v) fun v w=>
 RO (aN 1 (.ptr h.aA 0)) fun v=>
 RO (aJ w (.one 0) v) fun v=>
 RP (bO .sl [v] w) fun w x=>
 gL IA aBw [(iv 0),w,v,(.ptr h.aA 0),(.ptr (nc h a0).aA 0)] x [(0,fun v w=>
 RO (aJ w (.many 0 4) (bD v 3)) fun x=>
 RP (aW w 4 (aK x) (bD v 4)) fun w x=>
 RO (cE x (.many 0 4) (bD v 4)) fun v=>K v x)] fun v w=>
 RO (cE w (.many 0 4) (bD v 4)) fun v=>K v w)):C 19 [a0] h K:=
 ent Tryz.func19 (A:=aDq) rfl rfl (Eq.mp (by kernel_rfl) s)
end
end Ev
