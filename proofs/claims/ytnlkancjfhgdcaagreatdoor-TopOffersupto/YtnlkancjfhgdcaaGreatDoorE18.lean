/- Proved here: functions of the program, printed as propositions. Conditions: none beyond the hypotheses that each theorem states. -/
import Derived.Test.YtnlkancjfhgdcaaGreatDoorE09
set_option linter.all false
set_option maxRecDepth 100000
open Go Go.Proofs
namespace Ev
noncomputable section
variable{a0 a1 a2 a3 a4 a5 a6 a7 a8 a9 x0 x1 x2 x3 x4 x5 x6 x7 x8 x9 x10 x11 x12 x13 x14 x15 x16 x17 x18 x19 x20:AV}{h:aL}{K:KH}{N:List AV→aL→Prop}{e:Ends}{rt:List AV→aL→Prop}
def AQ:List bH:= [aM 39,aM 38,aM 37,aM 3,aM 2,aM 9,aM 6,aM 7]
def W7:CC:=cQ [1,1,1,1,1,0,1,0,0] (bL E Tryz.f105).code
def W8(n:Nat):List bH:=bif Nat.beq n 0 then AQ else []
theorem aDB(s:RO (aO .lss .no x0 x1) fun v=>
 cB v (RO (cR none 2 x2 (bB x0)) fun v=>
 RO (aJ h (.many 0 2) v) fun v=>
 RP (aW (nw h (.cells [(.str []),(iv 0)])) 2 (aK v) (.ptr h.aA 0)) fun v w=>
 RO (aN 0 x3) fun v=>
 cP (fun hh=>cF hh (aJ hh (.one 0) v)) 0 [(up w 14)] fun v=>
 RO (aN 1 (.ptr h.aA 0)) fun x=>
 cP (fun hh=>cF hh (aJ hh (.one 0) x)) 0 [(up w 14)] fun x=>
 RO (cR none 1 x4 (bB x0)) fun y=>
 cP (fun hh=>cF hh (aJ hh (.one 0) y)) 0 [(up w 14)] fun y=>
 C 201 [v,x,y] (up w 14) fun v w=>
 RO (aR 0 v) fun x=>
 RO (aR 1 v) fun v=>
 RO (gS .not v) fun v=>
 cB v (rt [x0,x1,x2,x3,x4,x5,.aB,(iv 1)] w)
 (RO (cR none 1 x5 (bB x0)) fun v=>
 RP (aW w 1 (aK x) v) fun v w=>
 RO (aO .add .no x0 (iv 1)) fun v=>
 N [v,x1,x2,x3,x4,x5,x6,x7] w))
 (bX e 0 [x0,x1,x2,x3,x4,x5,x6,x7] h)):WC W8 0 W7 (pts AQ [x0,x1,x2,x3,x4,x5,x6,x7]) h (hC AQ N e rt):=
 Eq.mp (by kernel_rfl) s
theorem aNE(s:cA (aK a0) (RO (aO .lss .no a1 (iv 0)) fun v=>
 gV v false (fun w=>w a1 (nc h a0)) (nc h a0) fun w x=>
 Qr v false (aN 2 (.ptr h.aA 0)) x fun x y=>
 Qr v false (aJ y (.one 0) x) y fun x y=>
 Qp v false (bO .sl [x] y) y fun x y=>
 Qr v false (aO .geq .no w x) y fun w x=>
 RO (bJ (.bool true) w v) fun v=>
 cB v (aQ .aB=true∧aQ (iv 3)=true∧K (.tuple [.aB,(iv 3)]) x)
 (RO (aN 2 (.ptr h.aA 0)) fun v=>
 RO (aJ x (.one 0) v) fun v=>
 RO (cR none 14 v (bB a1)) fun v=>
 RO (aN 1 v) fun v=>
 RO (aJ x (.one 0) v) fun v=>
 RP (bO .sl [a2] x) fun w x=>
 RP (bO .sl [v] x) fun x y=>
 RO (aO .neq .no w x) fun w=>
 cB w (aQ .aB=true∧aQ (iv 1)=true∧K (.tuple [.aB,(iv 1)]) y)
 (RP (bO .sl [v] y) fun w x=>
 RP (wH x [(iv 0)] (bB w) (bB w)) fun w x=>
 RP (bO .sl [v] x) fun x y=>
 gL AQ W7 [(iv 0),x,v,(.ptr h.aA 0),a2,w,.aB,(iv 0)] y [(0,fun v w=>
 aQ (bD v 5)=true∧aQ (iv 0)=true∧K (.tuple [(bD v 5),(iv 0)]) w)] fun v w=>
 aQ (bD v 6)=true∧aQ (bD v 7)=true∧K (.tuple [(bD v 6),(bD v 7)]) w)))):C 105 [a0,a1,a2] h K:=
 ent Tryz.func105 (A:=W8) rfl rfl (Eq.mp (by kernel_rfl) s)
def AR:List bH:= [aM 24,aM 23,aM 22,aM 1,aM 3,aM 4,aM 10,aM 8,aM 9]
def W9:CC:=cQ [1,1,0,1,0,0] (bL E Tryz.f106).code
def XA(n:Nat):List bH:=bif Nat.beq n 0 then AR else []
theorem aDC(s:RO (aO .lss .no x0 x1) fun v=>
 cB v (RO (cR none 1 x2 (bB x0)) fun v=>
 RO (aJ h (.one 0) v) fun v=>
 RO (aO .lss .no v (iv 0)) fun w=>
 gV w false (fun x=>x v h) h fun x y=>
 gV w false (fun z=>z x3 y) y fun y z=>
 Qp w false (bO .sl [y] z) z fun y z=>
 Qr w false (aO .geq .no x y) z fun x y=>
 RO (bJ (.bool true) x w) fun w=>
 cB w (rt [x0,x1,x2,x3,x4,x5,x6,.aB,(iv 11)] y)
 (RO (cR none 4 x3 (bB v)) fun w=>
 RO (aN 1 w) fun w=>
 RO (aJ y (.many 0 3) w) fun w=>
 C 202 [w,x4] y fun w x=>
 RO (aR 0 w) fun y=>
 RO (aR 1 w) fun w=>
 RO (aO .neq .no w (iv 0)) fun z=>
 cB z (rt [x0,x1,x2,x3,x4,x5,x6,.aB,w] x)
 (RO (cR none 4 x3 (bB v)) fun v=>
 RO (aN 0 v) fun v=>
 RO (aJ x (.one 0) v) fun v=>
 RO (aO .lss .no v (iv 0)) fun w=>
 gV w false (fun z=>z v x) x fun x z=>
 Qr w false (aN 1 x5) z fun z u=>
 Qr w false (aJ u (.one 0) z) u fun z u=>
 Qp w false (bO .sl [z] u) u fun z u=>
 Qr w false (aO .geq .no x z) u fun x z=>
 RO (bJ (.bool true) x w) fun w=>
 cB w (rt [x0,x1,x2,x3,x4,x5,x6,.aB,(iv 3)] z)
 (RO (aN 0 x5) fun w=>
 cP (fun hh=>cF hh (aJ hh (.one 0) w)) 0 [(up z 15)] fun w=>
 RO (aN 1 x5) fun x=>
 cP (fun hh=>cF hh (aJ hh (.one 0) x)) 0 [(up z 15)] fun x=>
 RO (cR none 3 x (bB v)) fun x=>
 RO (aN 1 x) fun x=>
 cP (fun hh=>cF hh (aJ hh (.one 0) x)) 0 [(up z 15)] fun x=>
 C 203 [w,x,y] (up z 15) fun w x=>
 RO (aR 0 w) fun y=>
 RO (aR 1 w) fun w=>
 RO (gS .not w) fun w=>
 cB w (rt [x0,x1,x2,x3,x4,x5,x6,.aB,(iv 8)] x)
 (RL (bK [(iv 0)] [(0,1,y)]) fun l77=>cA l77 (
 C 39 [(.slice (x.aA+7) 0 1 1 0)] (nwAt (up x 16) (x.aA+7) (.cells l77)) fun w y=>
 RO (cR none 1 x6 (bB v)) fun z=>
 cP (fun hh=>cF hh (aJ hh (.one 0) z)) 1 [y,(up x 16)] fun x=>
 C 38 [x,w] y fun w x=>
 RO (aR 0 w) fun y=>
 RO (cR none 1 x6 (bB v)) fun v=>
 RP (aW x 1 (aK y) v) fun v x=>
 RO (aR 1 w) fun v=>
 RO (aO .neq .no v (iv 0)) fun w=>
 cB w (rt [x0,x1,x2,x3,x4,x5,x6,.aB,v] x)
 (RO (aO .add .no x0 (iv 1)) fun v=>
 N [v,x1,x2,x3,x4,x5,x6,x7,x8] x)))))))
 (bX e 0 [x0,x1,x2,x3,x4,x5,x6,x7,x8] h)):WC XA 0 W9 (pts AR [x0,x1,x2,x3,x4,x5,x6,x7,x8]) h (hC AR N e rt):=
 Eq.mp (by kernel_rfl) s
theorem aNF(s:cA (aK a0) (RO (aN 1 (.ptr h.aA 0)) fun v=>
 RO (aJ (nc h a0) (.one 0) v) fun v=>
 RP (bO .sl [v] (nc h a0)) fun v w=>
 RP (wH w [.aB] (bB v) (bB v)) fun v w=>
 RP (bO .sl [a2] w) fun w x=>
 gL AR W9 [(iv 0),w,a2,a1,a3,(.ptr h.aA 0),v,.aB,(iv 0)] x [(0,fun v w=>
 aQ (bD v 6)=true∧aQ (iv 0)=true∧K (.tuple [(bD v 6),(iv 0)]) w)] fun v w=>
 aQ (bD v 7)=true∧aQ (bD v 8)=true∧K (.tuple [(bD v 7),(bD v 8)]) w)):C 106 [a0,a1,a2,a3] h K:=
 ent Tryz.func106 (A:=XA) rfl rfl (Eq.mp (by kernel_rfl) s)
theorem e56(s:cA (aK a0) (cA (aK a1) (RO (aJ (nc (nc h a0) a1) (.many 0 5) (.ptr h.aA 0)) fun v=>
 RO (aN 0 (.ptr (nc h a0).aA 0)) fun w=>
 RO (aJ (nc (nc h a0) a1) (.one 0) w) fun w=>
 RO (aN 1 (.ptr (nc h a0).aA 0)) fun x=>
 RO (aJ (nc (nc h a0) a1) (.one 0) x) fun x=>
 C 105 [v,w,x] (nc (nc h a0) a1) fun v w=>
 RO (aR 0 v) fun x=>
 RO (aR 1 v) fun v=>
 RO (aO .neq .no v (iv 0)) fun y=>
 cB y (aQ .aB=true∧aQ v=true∧K (.tuple [.aB,v]) w)
 (cP (fun hh=>cF hh (aJ hh (.many 0 5) (.ptr h.aA 0))) 0 [(up w 16)] fun v=>
 RO (aN 2 (.ptr h.aA 0)) fun y=>
 cP (fun hh=>cF hh (aJ hh (.one 0) y)) 0 [(up w 16)] fun y=>
 RO (aN 0 (.ptr (nc h a0).aA 0)) fun z=>
 cP (fun hh=>cF hh (aJ hh (.one 0) z)) 0 [(up w 16)] fun z=>
 RO (cR none 14 y (bB z)) fun y=>
 RO (aN 7 y) fun y=>
 cP (fun hh=>cF hh (aJ hh (.one 0) y)) 0 [(up w 16)] fun y=>
 RO (aN 2 (.ptr (nc h a0).aA 0)) fun z=>
 cP (fun hh=>cF hh (aJ hh (.one 0) z)) 0 [(up w 16)] fun z=>
 C 106 [v,y,z,x] (up w 16) fun v w=>
 RO (aR 0 v) fun x=>
 RO (aR 1 v) fun v=>
 aQ x=true∧aQ v=true∧K (.tuple [x,v]) w)))):C 56 [a0,a1] h K:=
 ent Tryz.func56 (A:=cT) rfl rfl (Eq.mp (by kernel_rfl) s)
theorem e57(s:cA (aK a0) (cA (aK a1) (RO (aJ (nc (nc h a0) a1) (.many 0 5) (.ptr h.aA 0)) fun v=>
 RO (aN 0 (.ptr (nc h a0).aA 0)) fun w=>
 RO (aJ (nc (nc h a0) a1) (.one 0) w) fun w=>
 RO (aN 1 (.ptr (nc h a0).aA 0)) fun x=>
 RO (aJ (nc (nc h a0) a1) (.one 0) x) fun x=>
 C 105 [v,w,x] (nc (nc h a0) a1) fun v w=>
 RO (aR 0 v) fun x=>
 RO (aR 1 v) fun v=>
 RO (aO .neq .no v (iv 0)) fun y=>
 cB y (aQ .aB=true∧aQ v=true∧K (.tuple [.aB,v]) w)
 (cP (fun hh=>cF hh (aJ hh (.many 0 5) (.ptr h.aA 0))) 0 [(up w 16)] fun v=>
 RO (aN 2 (.ptr h.aA 0)) fun y=>
 cP (fun hh=>cF hh (aJ hh (.one 0) y)) 0 [(up w 16)] fun y=>
 RO (aN 0 (.ptr (nc h a0).aA 0)) fun z=>
 cP (fun hh=>cF hh (aJ hh (.one 0) z)) 0 [(up w 16)] fun z=>
 RO (cR none 14 y (bB z)) fun y=>
 RO (aN 8 y) fun y=>
 cP (fun hh=>cF hh (aJ hh (.one 0) y)) 0 [(up w 16)] fun y=>
 RO (aN 3 (.ptr (nc h a0).aA 0)) fun z=>
 cP (fun hh=>cF hh (aJ hh (.one 0) z)) 0 [(up w 16)] fun z=>
 C 106 [v,y,z,x] (up w 16) fun v w=>
 RO (aR 0 v) fun x=>
 RO (aR 1 v) fun v=>
 aQ x=true∧aQ v=true∧K (.tuple [x,v]) w)))):C 57 [a0,a1] h K:=
 ent Tryz.func57 (A:=cT) rfl rfl (Eq.mp (by kernel_rfl) s)
def QH:List bH:= [aM 30,aM 29,aM 6]
def aDD:CC:=cQ [1,1,1,0,1,0,1,0,1,0,1,0,0] (bL E Tryz.f172).code
def QI:List bH:= [aM 43,aM 42,aM 5]
def aDE:CC:=cQ [1,1,1,0,1,0,1,1,1,0,1,0,0] (bL E Tryz.f172).code
def QJ:List bH:= [aM 9,aM 1,aM 5]
def aDF:CC:=cQ [1,1,1,0,1,0,1,1,1,1,1,0,1,0,0] (bL E Tryz.f172).code
def aAL:List bH:= [aM 61,aM 60,aM 9,aM 10,aM 5,aM 1]
def aHU(n:Nat):List bH:=bif Nat.beq n 1 then QH else bif Nat.beq n 3 then QI else bif Nat.beq n 5 then QJ else bif Nat.beq n 7 then aAL else []
theorem aHV(s:RO (aO .lss .no a1 (iv 0)) fun v=>
 gV v false (fun w=>w a1 h) h fun w x=>
 Qr v false (aO .gtr .no w (iv 16)) x fun w x=>
 RO (bJ (.bool true) w v) fun v=>
 gV v false (fun w=>w a0 x) x fun w x=>
 Qr v false (aO .eql .no w (iv 3)) x fun w x=>
 gV v false (fun y=>y w x) x fun w x=>
 gV w true (fun y=>y a1 x) x fun x y=>
 Qr w true (aO .gtr .no x (iv 4)) y fun x y=>
 Qr v false (bJ x (.bool false) w) y fun w x=>
 RO (bJ (.bool true) w v) fun v=>
 cB v (aQ .aB=true∧K .aB x)
 ((fun(j31:AV→aL→Prop)=>
 RO (aO .eql .no a0 (iv 1)) fun v=>
 cB v (gL QH aDD [(iv 0),a1,.aB] x [(1,fun v w=>
 RL (bK [.aB] [(0,1,(bD v 2))]) fun l35=>cA l35 (
 aQ (.slice w.aA 0 1 1 0)=true∧K (.slice w.aA 0 1 1 0) (nw w (.cells l35))))] fun v w=>
 aQ .other=true∧K .other w)
 (RO (aO .eql .no a0 (iv 2)) fun v=>
 cB v (gL QI aDE [(iv 0),a1,.aB] x [(3,fun v w=>
 j31 (bD v 2) w)] fun v w=>
 aQ .other=true∧K .other w)
 (RO (aO .eql .no a0 (iv 3)) fun v=>
 cB v (gL QJ aDF [(iv 1),a1,.aB] x [(5,fun v w=>
 j31 (bD v 2) w)] fun v w=>
 aQ .other=true∧K .other w)
 (j31 .aB x))))
 fun x48 v=>
 aQ x48=true∧K x48 v)):C 172 [a0,a1] h K:=
 ent Tryz.func172 (A:=aHU) rfl rfl (Eq.mp (by kernel_rfl) s)
theorem aNG(s:cA (aK a0) (RO (aJ (nw (nc h a0) (.cells [.aB,.aB,.aB,(iv 0),(iv 0),.aB,(.str []),.aB,(iv 0),(iv 0),.aB,(iv 0),(iv 0),.aB,.aB,.aB,(iv 0),(iv 0),(iv 0),(iv 0),.aB])) (.many 0 5) (.ptr h.aA 0)) fun v=>
 C 105 [v,a2,a3] (nw (nc h a0) (.cells [.aB,.aB,.aB,(iv 0),(iv 0),.aB,(.str []),.aB,(iv 0),(iv 0),.aB,(iv 0),(iv 0),.aB,.aB,.aB,(iv 0),(iv 0),(iv 0),(iv 0),.aB])) fun v w=>
 RO (aR 0 v) fun x=>
 RO (aR 1 v) fun v=>
 RO (aO .neq .no v (iv 0)) fun y=>
 cB y (RL (bK [.aB,.aB,.aB,(iv 0),(iv 0),.aB,(.str []),.aB,(iv 0),(iv 0),.aB,(iv 0),(iv 0),.aB,.aB,.aB,(iv 0),(iv 0),(iv 0),(iv 0),.aB] []) fun l6=>cA l6 (
 RP (aW w 21 (aK (.agg l6)) (.ptr (nc h a0).aA 0)) fun y z=>
 RO (cE z (.many 0 21) (.ptr (nc h a0).aA 0)) fun y=>aQ v=true∧K (.tuple [y,v]) z))
 (cP (fun hh=>cF hh (aJ hh (.many 0 5) (.ptr h.aA 0))) 0 [(up w 11)] fun v=>
 RO (aN 2 (.ptr h.aA 0)) fun y=>
 cP (fun hh=>cF hh (aJ hh (.one 0) y)) 0 [(up w 11)] fun y=>
 RO (cR none 14 y (bB a2)) fun y=>
 cP (fun hh=>cF hh (aJ hh (.many 0 14) y)) 0 [(up w 11)] fun y=>
 RL (bK [.aB,.aB,.aB,(iv 0),(iv 0),.aB,(.str []),.aB,(iv 0),(iv 0),.aB,(iv 0),(iv 0),.aB,.aB,.aB,(iv 0),(iv 0),(iv 0),(iv 0),.aB] [(0,5,v),(5,1,a1),(6,14,y),(20,1,x)]) fun l15=>cA l15 (
 RP (aW (up w 11) 21 (aK (.agg l15)) (.ptr (nc h a0).aA 0)) fun v w=>
 RO (cE w (.many 0 21) (.ptr (nc h a0).aA 0)) fun v=>aQ (iv 0)=true∧K (.tuple [v,(iv 0)]) w)))):C 174 [a0,a1,a2,a3] h K:=
 ent Tryz.func174 (A:=cT) rfl rfl (Eq.mp (by kernel_rfl) s)
theorem aNH(s:cA (aK a0) (RO (aN 6 (.ptr h.aA 0)) fun v=>
 RO (aN 2 v) fun v=>
 RO (aJ (nc h a0) (.many 0 3) v) fun v=>
 RO (aN 20 (.ptr h.aA 0)) fun w=>
 RO (aJ (nc h a0) (.one 0) w) fun w=>
 C 202 [v,w] (nc h a0) fun v w=>
 RO (aR 0 v) fun x=>
 RO (aR 1 v) fun v=>
 RO (aO .neq .no v (iv 0)) fun y=>
 cB y (aQ v=true∧K v w)
 (RO (aO .eql .no x (iv 0)) fun v=>
 cB v (aQ (iv 9)=true∧K (iv 9) w)
 (aQ (iv 0)=true∧K (iv 0) w)))):C 175 [a0] h K:=
 ent Tryz.func175 (A:=cT) rfl rfl (Eq.mp (by kernel_rfl) s)
def QK:List bH:= [aM 42,aM 41,aM 1,aM 2,aM 4]
def aDG:CC:=cQ [1,1,1,0,1,0,0] (bL E Tryz.f180).code
def aHW(n:Nat):List bH:=bif Nat.beq n 1 then QK else []
theorem aNI(s:cA (aK a0) (RO (aN 0 (.ptr h.aA 0)) fun v=>
 RO (aJ (nc h a0) (.many 0 5) v) fun v=>
 RO (aN 6 (.ptr h.aA 0)) fun w=>
 RO (aN 7 w) fun w=>
 RO (aJ (nc h a0) (.one 0) w) fun w=>
 RO (aN 20 (.ptr h.aA 0)) fun x=>
 RO (aJ (nc h a0) (.one 0) x) fun x=>
 C 106 [v,w,a1,x] (nc h a0) fun v w=>
 RO (aR 0 v) fun x=>
 RO (aR 1 v) fun v=>
 RO (aO .neq .no v (iv 0)) fun y=>
 cB y (aQ v=true∧K v w)
 (RO (aN 5 (.ptr h.aA 0)) fun v=>
 RO (aJ w (.one 0) v) fun v=>
 C 289 [x,v] w fun v w=>
 RO (gS .not v) fun v=>
 cB v (aQ (iv 10)=true∧K (iv 10) w)
 (RO (aN 6 (.ptr h.aA 0)) fun v=>
 RO (aN 5 v) fun v=>
 RO (aJ w (.one 0) v) fun v=>
 RO (aO .neq .no v (iv 3)) fun v=>
 cB v (aQ (iv 0)=true∧K (iv 0) w)
 (RO (aN 6 (.ptr h.aA 0)) fun v=>
 RO (aN 7 v) fun v=>
 RO (aJ w (.one 0) v) fun v=>
 RP (bO .sl [v] w) fun v w=>
 gL QK aDG [(iv 0),v,a1,(.ptr h.aA 0),(iv 0)] w [(1,fun v w=>
 aQ (iv 0)=true∧K (iv 0) w)] fun v w=>
 aQ (bD v 4)=true∧K (bD v 4) w))))):C 180 [a0,a1] h K:=
 ent Tryz.func180 (A:=aHW) rfl rfl (Eq.mp (by kernel_rfl) s)
theorem aNJ(s:cA (aK a0) (RO (aN 0 (.ptr h.aA 0)) fun v=>
 RO (aJ (nc h a0) (.many 0 5) v) fun v=>
 RO (aN 6 (.ptr h.aA 0)) fun w=>
 RO (aN 8 w) fun w=>
 RO (aJ (nc h a0) (.one 0) w) fun w=>
 RO (aN 20 (.ptr h.aA 0)) fun x=>
 RO (aJ (nc h a0) (.one 0) x) fun x=>
 C 106 [v,w,a1,x] (nc h a0) fun v w=>
 RO (aR 0 v) fun x=>
 RO (aR 1 v) fun v=>
 aQ v=true∧K v w)):C 179 [a0,a1] h K:=
 ent Tryz.func179 (A:=cT) rfl rfl (Eq.mp (by kernel_rfl) s)
theorem aNK(s:cA (aK a2) (C 172 [a0,a1] (nc h a2) fun v w=>
 C 290 [v,(.func (.func 291) [] [(.ptr h.aA 0)])] w fun v w=>
 aQ v=true∧K v w)):C 181 [a0,a1,a2] h K:=
 ent Tryz.func181 (A:=cT) rfl rfl (Eq.mp (by kernel_rfl) s)
theorem aNL(s:C 288 [a0,a1] h fun v w=>
 RO (aO .geq .no v (iv 0)) fun v=>
 aQ v=true∧K v w):C 290 [a0,a1] h K:=
 ent Tryz.func290 (A:=cT) rfl rfl (Eq.mp (by kernel_rfl) s)
def AS:List bH:= [aM 8,aM 7,aM 1,aM 0,aM 4]
def XB:CC:=cQ [1,0,1,0,0] (bL E Tryz.f288).code
def QL(n:Nat):List bH:=bif Nat.beq n 0 then AS else []
theorem XC(s:RO (aO .lss .no x0 x1) fun v=>
 cB v (RO (cR none 1 x3 (bB x0)) fun v=>
 RO (aJ h (.one 0) v) fun v=>
 CV x2 [v] h fun v w=>
 cB v (rt [x0,x1,x2,x3,x0] w)
 (RO (aO .add .no x0 (iv 1)) fun v=>
 N [v,x1,x2,x3,x4] w))
 (bX e 0 [x0,x1,x2,x3,x4] h)):WC QL 0 XB (pts AS [x0,x1,x2,x3,x4]) h (hC AS N e rt):=
 Eq.mp (by kernel_rfl) s
theorem aHX(s:RP (bO .sl [a0] h) fun v w=>
 gL AS XB [(iv 0),v,a1,a0,(iv 0)] w [(0,fun v w=>
 aQ (iv (-1))=true∧K (iv (-1)) w)] fun v w=>
 aQ (bD v 4)=true∧K (bD v 4) w):C 288 [a0,a1] h K:=
 ent Tryz.func288 (A:=QL) rfl rfl (Eq.mp (by kernel_rfl) s)
theorem aNM(s:RO (aJ h (.one 0) a1) fun v=>
 C 23 [a0,v] h fun v w=>
 aQ v=true∧K v w):C 291 [a0,a1] h K:=
 ent Tryz.func291 (A:=cT) rfl rfl (Eq.mp (by kernel_rfl) s)
theorem e89(s:cA (aK a0) (cA (aK a2) (RO (aJ (nc (nc h a0) a2) (.many 0 5) (.ptr h.aA 0)) fun v=>
 RO (aN 0 (.ptr (nc h a0).aA 0)) fun w=>
 RO (aJ (nc (nc h a0) a2) (.one 0) w) fun w=>
 RO (aN 1 (.ptr (nc h a0).aA 0)) fun x=>
 RO (aJ (nc (nc h a0) a2) (.one 0) x) fun x=>
 C 174 [v,a1,w,x] (nc (nc h a0) a2) fun v w=>
 RO (aR 0 v) fun x=>
 RO (aR 1 v) fun v=>
 RP (aW (nw w (.cells [.aB,.aB,.aB,(iv 0),(iv 0),.aB,(.str []),.aB,(iv 0),(iv 0),.aB,(iv 0),(iv 0),.aB,.aB,.aB,(iv 0),(iv 0),(iv 0),(iv 0),.aB])) 21 (aK x) (.ptr w.aA 0)) fun x y=>
 (fun(j11:AV→aL→Prop)=>
 RO (aO .eql .no v (iv 0)) fun x=>
 cB x (RO (aJ y (.many 0 21) (.ptr w.aA 0)) fun x=>
 C 175 [x] y fun x z=>
 j11 x z)
 (j11 v y))
 fun x16 v=>
 RO (aO .neq .no x16 (iv 0)) fun x=>
 cB x (aQ x16=true∧K x16 v)
 (RO (aN 6 (.ptr w.aA 0)) fun x=>
 RO (aN 5 x) fun x=>
 RO (aJ v (.one 0) x) fun x=>
 RO (aN 6 (.ptr w.aA 0)) fun y=>
 RO (aN 7 y) fun y=>
 RO (aJ v (.one 0) y) fun y=>
 RP (bO .sl [y] v) fun v y=>
 RO (aN 2 (.ptr (nc h a0).aA 0)) fun z=>
 RO (aJ y (.one 0) z) fun z=>
 C 181 [x,v,z] y fun v x=>
 RO (gS .not v) fun v=>
 Qr v false (aN 6 (.ptr w.aA 0)) x fun x y=>
 Qr v false (aN 6 x) y fun x y=>
 Qr v false (aJ y (.one 0) x) y fun x y=>
 Qr v false (aN 6 (.ptr w.aA 0)) y fun y z=>
 Qr v false (aN 8 y) z fun y z=>
 Qr v false (aJ z (.one 0) y) z fun y z=>
 Qp v false (bO .sl [y] z) z fun y z=>
 Qr v false (aN 3 (.ptr (nc h a0).aA 0)) z fun z u=>
 Qr v false (aJ u (.one 0) z) u fun z u=>
 gV v false (fun t=>C 181 [x,y,z] u fun x y=>
 t x y) u fun x y=>
 Qr v false (gS .not x) y fun x y=>
 RO (bJ (.bool true) x v) fun v=>
 cB v (aQ (iv 11)=true∧K (iv 11) y)
 (RO (aJ y (.many 0 21) (.ptr w.aA 0)) fun v=>
 RO (aN 2 (.ptr (nc h a0).aA 0)) fun x=>
 RO (aJ y (.one 0) x) fun x=>
 C 180 [v,x] y fun v x=>
 RO (aO .neq .no v (iv 0)) fun y=>
 cB y (aQ v=true∧K v x)
 (RO (aJ x (.many 0 21) (.ptr w.aA 0)) fun v=>
 RO (aN 3 (.ptr (nc h a0).aA 0)) fun w=>
 RO (aJ x (.one 0) w) fun w=>
 C 179 [v,w] x fun v w=>
 aQ v=true∧K v w)))))):C 89 [a0,a1,a2] h K:=
 ent Tryz.func89 (A:=cT) rfl rfl (Eq.mp (by kernel_rfl) s)
theorem aNN(s:cA (aK a0) (cA (aK a1) (aQ (.func (.func 287) [] [(.ptr (nc h a0).aA 0),(.ptr h.aA 0)])=true∧K (.func (.func 287) [] [(.ptr (nc h a0).aA 0),(.ptr h.aA 0)]) (nc (nc h a0) a1)))):C 173 [a0,a1] h K:=
 ent Tryz.func173 (A:=cT) rfl rfl (Eq.mp (by kernel_rfl) s)
def ID:List bH:= [aM 12,aM 11,aM 7,aM 3,aM 1,aM 2]
def aBz:CC:=cQ [1,1,0,1,0,0] (bL E Tryz.f47).code
def aDH(n:Nat):List bH:=bif Nat.beq n 0 then ID else []
theorem aHY(s:RO (aO .lss .no x0 x1) fun v=>
 cB v (RO (aJ h (.many 0 5) x3) fun v=>
 RP (bO .sl [x2] h) fun w x=>
 RO (aO .sub .no x5 w) fun w=>
 C 88 [v,x4,x0,w] x fun v w=>
 RP (cY 4 [x2,v] w) fun v w=>
 RO (aO .add .no x0 (iv 1)) fun x=>
 N [x,x1,v,x3,x4,x5] w)
 (bX e 0 [x0,x1,x2,x3,x4,x5] h)):WC aDH 0 aBz (pts ID [x0,x1,x2,x3,x4,x5]) h (hC ID N e rt):=
 Eq.mp (by kernel_rfl) s
theorem e47(s:cA (aK a0) (RO (aN 2 (.ptr h.aA 0)) fun v=>
 RO (aJ (nc h a0) (.one 0) v) fun v=>
 RP (bO .sl [v] (nc h a0)) fun v w=>
 gL ID aBz [(iv 0),v,.aB,(.ptr h.aA 0),a1,a2] w [(0,fun v w=>
 aQ (bD v 2)=true∧K (bD v 2) w)] fun v w=>
 aQ .other=true∧K .other w)):C 47 [a0,a1,a2] h K:=
 ent Tryz.func47 (A:=aDH) rfl rfl (Eq.mp (by kernel_rfl) s)
def AT:List bH:= [aM 6,aM 0,aM 1,aM 5]
def XD:CC:=cQ [1,1,1,0,1,0,0] (bL E Tryz.f176).code
def XE(n:Nat):List bH:=bif Nat.beq n 0 then AT else []
theorem aDI(s:RP (bO .sl [x1] h) fun v w=>
 RO (aO .lss .no x0 v) fun v=>
 cB v ((fun(j15:AV→aL→Prop)=>
 RO (cR none 1 x1 (bB x0)) fun v=>
 RO (aJ w (.one 0) v) fun v=>
 CV x2 [v] w fun x y=>
 RO (gS .not x) fun x=>
 cB x (RO (cR none 1 x1 (bB x3)) fun x=>
 RP (aW y 1 (aK v) x) fun v x=>
 RO (aO .add .no x3 (iv 1)) fun v=>
 j15 v x)
 (j15 x3 y))
 fun x25 v=>
 RO (aO .add .no x0 (iv 1)) fun x=>
 N [x,x1,x2,x25] v)
 (bX e 0 [x0,x1,x2,x3] w)):WC XE 0 XD (pts AT [x0,x1,x2,x3]) h (hC AT N e rt):=
 Eq.mp (by kernel_rfl) s
theorem aNO(s:C 288 [a0,a1] h fun v w=>
 RO (aO .eql .no v (iv (-1))) fun x=>
 cB x (aQ a0=true∧K a0 w)
 (RO (aO .add .no v (iv 1)) fun x=>
 gL AT XD [x,a0,a1,v] w [(0,fun v w=>
 RO (iQ (some (bD v 3)) none none (bD v 1) (.sl 1)) fun x=>
 RP (DR [.aB] [x] w) fun w x=>
 RO (iQ none (some (bD v 3)) none (bD v 1) (.sl 1)) fun v=>
 aQ v=true∧K v x)] fun v w=>
 aQ .other=true∧K .other w)):C 176 [a0,a1] h K:=
 ent Tryz.func176 (A:=XE) rfl rfl (Eq.mp (by kernel_rfl) s)
theorem aNP(s:RO (aJ h (.many 0 21) a1) fun v=>
 C 179 [v,a0] h fun v w=>
 RO (aO .neq .no v (iv 0)) fun v=>
 aQ v=true∧K v w):C 178 [a0,a1] h K:=
 ent Tryz.func178 (A:=cT) rfl rfl (Eq.mp (by kernel_rfl) s)
end
end Ev
