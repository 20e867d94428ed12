/- Proved here: functions of the program, printed as propositions. Conditions: none beyond the hypotheses that each theorem states. -/
import Derived.Test.YtnlkancjfhgdcaaGreatDoorE09
set_option linter.all false
set_option maxRecDepth 100000
open Go Go.Proofs
namespace Ev
noncomputable section
variable{a0 a1 a2 a3 a4 a5 a6 a7 a8 a9 x0 x1 x2 x3 x4 x5 x6 x7 x8 x9 x10 x11 x12 x13 x14 x15 x16 x17 x18 x19 x20:AV}{h:aL}{K:KH}{N:List AV→aL→Prop}{e:Ends}{rt:List AV→aL→Prop}
def QT:List bH:= [aM 7,aM 2,aM 3,aM 4]
def aIt:CC:=cQ [1,1,1,1,1,0,1,0,0] (bL E Tryz.f6).code
def an6(n:Nat):List bH:=bif Nat.beq n 0 then QT else []
theorem aPH(s:RO (aN 2 x1) fun v=>
 RO (aJ h (.one 0) v) fun v=>
 RP (bO .sl [v] h) fun v w=>
 RO (aO .lss .no x0 v) fun v=>
 cB v (RO (aN 2 x1) fun v=>
 RO (aJ w (.one 0) v) fun v=>
 RO (cR none 14 v (bB x0)) fun v=>
 RO (aN 5 v) fun v=>
 RO (aJ w (.one 0) v) fun v=>
 RO (aO .eql .no v (iv 3)) fun v=>
 cB v (rt [x0,x1,x2,(.bool false)] w)
 (RO (aO .add .no x0 (iv 1)) fun v=>
 N [v,x1,x2,x3] w))
 (bX e 0 [x0,x1,x2,x3] w)):WC an6 0 aIt (pts QT [x0,x1,x2,x3]) h (hC QT N e rt):=
 Eq.mp (by kernel_rfl) s
theorem e6(s:cA (aK a0) (cA (aK a1) (RO (aN 1 (.ptr (nc h a0).aA 0)) fun v=>
 RO (aJ (nc (nc h a0) a1) (.one 0) v) fun v=>
 C 16 [v] (nc (nc h a0) a1) fun v w=>
 RO (gS .not v) fun v=>
 Qr v false (aN 1 (.ptr (nc h a0).aA 0)) w fun w x=>
 Qr v false (aJ x (.one 0) w) x fun w x=>
 Qp v false (bO .sl [w] x) x fun w x=>
 Qr v false (aO .gtr .no w (iv 6)) x fun w x=>
 RO (bJ (.bool true) w v) fun v=>
 Qr v false (aN 0 (.ptr (nc h a0).aA 0)) x fun w x=>
 Qr v false (aJ x (.one 0) w) x fun w x=>
 Qp v false (bO .sl [w] x) x fun w x=>
 Qr v false (aO .gtr .no w (iv 12)) x fun w x=>
 RO (bJ (.bool true) w v) fun v=>
 cB v (aQ (.bool false)=true∧K (.bool false) x)
 (cP (fun hh=>cF hh (aJ hh (.many 0 5) (.ptr h.aA 0))) 0 [(up x 5)] fun v=>
 C 15 [v] (up x 5) fun v w=>
 cP (fun hh=>cF hh (aJ hh (.many 0 5) (.ptr h.aA 0))) 1 [w,(up x 5)] fun x=>
 C 17 [x,v] w fun v w=>
 RO (gS .not v) fun v=>
 Qr v false (aN 2 (.ptr h.aA 0)) w fun w x=>
 Qr v false (aJ x (.one 0) w) x fun w x=>
 Qp v false (bO .sl [w] x) x fun w x=>
 Qr v false (aO .gtr .no w (iv 6)) x fun w x=>
 RO (bJ (.bool true) w v) fun v=>
 cB v (aQ (.bool false)=true∧K (.bool false) x)
 (gL QT aIt [(iv 0),(.ptr h.aA 0),(.ptr (nc h a0).aA 0),(.bool false)] x [(0,fun v w=>
 RO (aN 0 (bD v 2)) fun v=>
 RO (aJ w (.one 0) v) fun v=>
 C 18 [v] w fun v w=>
 RO (aO .leq .no v (iv 1048576)) fun v=>
 aQ v=true∧K v w)] fun v w=>
 aQ (bD v 3)=true∧K (bD v 3) w))))):C 6 [a0,a1] h K:=
 ent Tryz.func6 (A:=an6) rfl rfl (Eq.mp (by kernel_rfl) s)
def IU:List bH:= [aM 4,aM 0,aM 3]
def aBJ:CC:=cQ [1,1,1,0,1,0,0] (bL E Tryz.f16).code
def aEs(n:Nat):List bH:=bif Nat.beq n 0 then IU else []
theorem aIu(s:RP (bO .sl [x1] h) fun v w=>
 RO (aO .lss .no x0 v) fun v=>
 cB v (RO (cR none 11 x1 (bB x0)) fun v=>
 RO (aN 1 v) fun v=>
 RO (aN 1 v) fun v=>
 cP (fun hh=>cF hh (aJ hh (.one 0) v)) 0 [(up w 26)] fun v=>
 RP (bO .sl [v] (up w 26)) fun v x=>
 RO (aO .add .no x2 v) fun v=>
 RO (cR none 11 x1 (bB x0)) fun y=>
 RO (aN 1 y) fun y=>
 RO (aN 2 y) fun y=>
 cP (fun hh=>cF hh (aJ hh (.one 0) y)) 0 [(up w 26)] fun y=>
 RP (bO .sl [y] x) fun x y=>
 RO (aO .add .no v x) fun v=>
 RO (cR none 11 x1 (bB x0)) fun x=>
 RO (aN 1 x) fun x=>
 RO (aN 3 x) fun x=>
 cP (fun hh=>cF hh (aJ hh (.one 0) x)) 0 [(up w 26)] fun x=>
 RP (bO .sl [x] y) fun x y=>
 RO (aO .add .no v x) fun v=>
 RO (aO .add .no x0 (iv 1)) fun x=>
 N [x,x1,v] y)
 (bX e 0 [x0,x1,x2] w)):WC aEs 0 aBJ (pts IU [x0,x1,x2]) h (hC IU N e rt):=
 Eq.mp (by kernel_rfl) s
theorem e16(s:RP (bO .sl [a0] h) fun v w=>
 RO (aO .gtr .no v (iv 80)) fun v=>
 cB v (aQ (.bool false)=true∧K (.bool false) w)
 (gL IU aBJ [(iv 0),a0,(iv 0)] w [(0,fun v w=>
 RO (aO .leq .no (bD v 2) (iv 1000)) fun v=>
 aQ v=true∧K v w)] fun v w=>
 aQ .other=true∧K .other w)):C 16 [a0] h K:=
 ent Tryz.func16 (A:=aEs) rfl rfl (Eq.mp (by kernel_rfl) s)
def IV:List bH:= [aM 10,aM 2,aM 9]
def aBK:CC:=cQ [1,1,1,1,1,1,1,0,1,0,0] (bL E Tryz.f17).code
def aEt(n:Nat):List bH:=bif Nat.beq n 0 then IV else []
theorem aIv(s:RO (aN 2 x1) fun v=>
 RO (aJ h (.one 0) v) fun v=>
 RP (bO .sl [v] h) fun v w=>
 RO (aO .lss .no x0 v) fun v=>
 cB v (RO (aN 2 x1) fun v=>
 RO (aJ w (.one 0) v) fun v=>
 RO (cR none 14 v (bB x0)) fun v=>
 RO (aJ w (.many 0 14) v) fun v=>
 RP (aW (nw w (.cells [(.str []),.aB,(iv 0),(iv 0),.aB,(iv 0),(iv 0),.aB,.aB,.aB,(iv 0),(iv 0),(iv 0),(iv 0)])) 14 (aK v) (.ptr w.aA 0)) fun v x=>
 cP (fun hh=>cF hh (aJ hh (.many 0 5) x1)) 0 [(up x 15)] fun v=>
 C 43 [v,x0] (up x 15) fun v y=>
 RO (aN 7 (.ptr w.aA 0)) fun z=>
 cP (fun hh=>cF hh (aJ hh (.one 0) z)) 1 [y,(up x 15)] fun z=>
 RP (bO .sl [z] y) fun z u=>
 RO (aN 8 (.ptr w.aA 0)) fun t=>
 cP (fun hh=>cF hh (aJ hh (.one 0) t)) 1 [y,(up x 15)] fun x=>
 RP (bO .sl [x] u) fun x y=>
 RO (aO .mul .no z x) fun x=>
 RO (aO .add .no (iv 1) x) fun x=>
 RO (aO .mul .no v x) fun v=>
 RO (aO .add .no x2 v) fun v=>
 RO (aO .add .no x0 (iv 1)) fun x=>
 N [x,x1,v] y)
 (bX e 0 [x0,x1,x2] w)):WC aEt 0 aBK (pts IV [x0,x1,x2]) h (hC IV N e rt):=
 Eq.mp (by kernel_rfl) s
theorem e17(s:cA (aK a0) (RO (aJ (nc h a0) (.many 0 5) (.ptr h.aA 0)) fun v=>
 C 40 [v] (nc h a0) fun v w=>
 C 41 [a1] w fun w x=>
 RO (gS .not v) fun v=>
 gV v false (fun y=>y w x) x fun w x=>
 Qr v false (gS .not w) x fun w x=>
 RO (bJ (.bool true) w v) fun v=>
 Qr v false (aN 2 (.ptr h.aA 0)) x fun w x=>
 Qr v false (aJ x (.one 0) w) x fun w x=>
 Qp v false (bO .sl [w] x) x fun w x=>
 Qr v false (aO .gtr .no w (iv 12)) x fun w x=>
 RO (bJ (.bool true) w v) fun v=>
 cB v (aQ (.bool false)=true∧K (.bool false) x)
 (RO (aJ x (.many 0 5) (.ptr h.aA 0)) fun v=>
 C 25 [v] x fun v w=>
 RO (aR 0 v) fun x=>
 RO (aR 1 v) fun v=>
 RP (aW (nw w (.cells [(iv 0),(iv 0)])) 2 (aK x) (.ptr w.aA 0)) fun w x=>
 RO (aO .neq .no v (iv 0)) fun v=>
 Qr v false (aJ x (.many 0 5) (.ptr h.aA 0)) x fun w x=>
 gV v false (fun y=>y a1 x) x fun x y=>
 gV v false (fun z=>C 42 [w,x] y fun w x=>
 z w x) y fun w x=>
 Qr v false (gS .not w) x fun w x=>
 RO (bJ (.bool true) w v) fun v=>
 cB v (aQ (.bool false)=true∧K (.bool false) x)
 (gL IV aBK [(iv 0),(.ptr h.aA 0),(iv 0)] x [(0,fun v w=>
 RO (aO .leq .no (bD v 2) (iv 600)) fun v=>
 aQ v=true∧K v w)] fun v w=>
 aQ .other=true∧K .other w)))):C 17 [a0,a1] h K:=
 ent Tryz.func17 (A:=aEt) rfl rfl (Eq.mp (by kernel_rfl) s)
def IW:List bH:= [aM 4,aM 1,aM 3,aM 2]
def aBL:CC:=cQ [1,1,1,0,1,0,0] (bL E Tryz.f40).code
def IX:List bH:= [aM 5,aM 1,aM 4,aM 3,aM 2]
def aBM:CC:=cQ [1,1,1,0,1,0,0,1,0,0,1,1,1,0,0] (bL E Tryz.f40).code
def IY:List bH:= [aM 6,aM 1,aM 3,aM 2]
def aBN:CC:=cQ [1,1,1,1,0,1,0,0] (bL E Tryz.f40).code
def IZ:List bH:= [aM 8,aM 1,aM 7,aM 3,aM 2]
def aBO:CC:=cQ [1,1,1,1,1,1,0,1,0,0] (bL E Tryz.f40).code
def I0:List bH:= [aM 10,aM 9,aM 8,aM 1,aM 7,aM 3,aM 2]
def aBP:CC:=cQ [1,1,1,1,1,1,0,1,0,0,1,0,0,1,1,1,0,1,0,0] (bL E Tryz.f40).code
def BE:List bH:= [aM 12,aM 9,aM 11,aM 8,aM 1,aM 7,aM 3,aM 2]
def YL:CC:=cQ [1,1,1,1,1,1,0,1,0,0,1,0,0,1,1,1,1,1,0,1,0,0] (bL E Tryz.f40).code
def BF:List bH:= [aM 14,aM 9,aM 11,aM 8,aM 1,aM 7,aM 3,aM 2]
def YM:CC:=cQ [1,1,1,1,1,1,0,1,0,0,1,0,0,1,1,1,1,1,1,0,1,0,0] (bL E Tryz.f40).code
def u9(n:Nat):List bH:=bif Nat.beq n 0 then IW else bif Nat.beq n 2 then IX else bif Nat.beq n 4 then IY else bif Nat.beq n 6 then IZ else bif Nat.beq n 8 then I0 else bif Nat.beq n 10 then BE else bif Nat.beq n 12 then BF else []
theorem aIw(s:RO (aN 0 x1) fun v=>
 RO (aJ h (.one 0) v) fun v=>
 RP (bO .sl [v] h) fun v w=>
 RO (aO .lss .no x0 v) fun v=>
 cB v (RO (aN 0 x1) fun v=>
 RO (aJ w (.one 0) v) fun v=>
 RO (cR none 7 v (bB x0)) fun v=>
 RO (aN 4 v) fun v=>
 RO (aJ w (.one 0) v) fun v=>
 RP (bO .sl [v] w) fun v x=>
 RO (aO .add .no x2 v) fun v=>
 RO (aN 0 x1) fun y=>
 RO (aJ x (.one 0) y) fun y=>
 RO (cR none 7 y (bB x0)) fun y=>
 RO (aN 0 y) fun y=>
 RO (aJ x (.one 0) y) fun y=>
 RP (bO .str [y] x) fun x y=>
 RO (aO .gtr .no x (iv 100)) fun x=>
 gV x false (fun z=>z v y) y fun y z=>
 Qr x false (aO .gtr .no y (iv 400)) z fun y z=>
 RO (bJ (.bool true) y x) fun x=>
 cB x (rt [x0,x1,v,(.bool false)] z)
 (gL IX aBM [(iv 0),x1,x0,v,x3] z [(2,fun v x=>
 RO (aO .add .no (bD v 2) (iv 1)) fun y=>
 N [y,(bD v 1),(bD v 3),(bD v 4)] x)] fun v x=>
 rt [(bD v 2),(bD v 1),(bD v 3),(bD v 4)] x))
 (bX e 0 [x0,x1,x2,x3] w)):WC u9 0 aBL (pts IW [x0,x1,x2,x3]) h (hC IW N e rt):=
 Eq.mp (by kernel_rfl) s
theorem aIx(s:RO (aN 1 x1) fun v=>
 RO (aJ h (.one 0) v) fun v=>
 RP (bO .sl [v] h) fun v w=>
 RO (aO .lss .no x0 v) fun v=>
 cB v (RO (aN 1 x1) fun v=>
 RO (aJ w (.one 0) v) fun v=>
 RO (cR none 3 v (bB x0)) fun v=>
 RO (aN 2 v) fun v=>
 RO (aJ w (.one 0) v) fun v=>
 RP (bO .sl [v] w) fun v x=>
 RO (aO .add .no x2 v) fun v=>
 RO (aN 1 x1) fun y=>
 RO (aJ x (.one 0) y) fun y=>
 RO (cR none 3 y (bB x0)) fun y=>
 RO (aN 0 y) fun y=>
 RO (aJ x (.one 0) y) fun y=>
 RP (bO .str [y] x) fun x y=>
 RO (aO .gtr .no x (iv 100)) fun x=>
 cB x (rt [x0,x1,v,(.bool false)] y)
 (RO (aO .add .no x0 (iv 1)) fun x=>
 N [x,x1,v,x3] y))
 (bX e 4 [x0,x1,x2,x3] w)):WC u9 4 aBN (pts IY [x0,x1,x2,x3]) h (hC IY N e rt):=
 Eq.mp (by kernel_rfl) s
theorem aIy(s:RO (aN 2 x1) fun v=>
 RO (aJ h (.one 0) v) fun v=>
 RP (bO .sl [v] h) fun v w=>
 RO (aO .lss .no x0 v) fun v=>
 cB v (RO (aN 2 x1) fun v=>
 RO (aJ w (.one 0) v) fun v=>
 RO (cR none 14 v (bB x0)) fun v=>
 RO (aJ w (.many 0 14) v) fun v=>
 RP (aW (nw w (.cells [(.str []),.aB,(iv 0),(iv 0),.aB,(iv 0),(iv 0),.aB,.aB,.aB,(iv 0),(iv 0),(iv 0),(iv 0)])) 14 (aK v) (.ptr w.aA 0)) fun v x=>
 RO (aN 1 (.ptr w.aA 0)) fun v=>
 RO (aJ x (.one 0) v) fun v=>
 RP (bO .sl [v] x) fun v x=>
 RO (aO .add .no x2 v) fun v=>
 RO (aN 7 (.ptr w.aA 0)) fun y=>
 RO (aJ x (.one 0) y) fun y=>
 RP (bO .sl [y] x) fun x y=>
 RO (aO .add .no v x) fun v=>
 RO (aN 8 (.ptr w.aA 0)) fun x=>
 RO (aJ y (.one 0) x) fun x=>
 RP (bO .sl [x] y) fun x y=>
 RO (aO .add .no v x) fun v=>
 RO (aN 9 (.ptr w.aA 0)) fun x=>
 RO (aJ y (.one 0) x) fun x=>
 RP (bO .sl [x] y) fun x y=>
 RO (aO .add .no v x) fun v=>
 RO (aO .gtr .no v (iv 200)) fun x=>
 Qr x false (aN 0 (.ptr w.aA 0)) y fun y z=>
 Qr x false (aJ z (.one 0) y) z fun y z=>
 Qp x false (bO .str [y] z) z fun y z=>
 Qr x false (aO .gtr .no y (iv 100)) z fun y z=>
 RO (bJ (.bool true) y x) fun x=>
 cB x (rt [x0,x1,v,x3,(.bool false)] z)
 (gL I0 aBP [(iv 0),(.ptr w.aA 0),x0,x1,v,x3,x4] z [(8,fun v x=>
 RO (aN 2 (bD v 1)) fun y=>
 RO (aJ x (.many 0 3) y) fun y=>
 C 83 [y] x fun x y=>
 gL BE YL [(iv 0),(bD v 1),x,(bD v 2),(bD v 3),(bD v 4),(bD v 5),(bD v 6)] y [(10,fun v x=>
 gL BF YM [(iv 0),(bD v 1),(bD v 2),(bD v 3),(bD v 4),(bD v 5),(bD v 6),(bD v 7)] x [(12,fun v x=>
 RO (gS .not (bD v 2)) fun y=>
 cB y (rt [(bD v 3),(bD v 4),(bD v 5),(bD v 6),(.bool false)] x)
 (RO (aO .add .no (bD v 3) (iv 1)) fun y=>
 N [y,(bD v 4),(bD v 5),(bD v 6),(bD v 7)] x))] fun v x=>
 rt [(bD v 3),(bD v 4),(bD v 5),(bD v 6),(bD v 7)] x)] fun v x=>
 rt [(bD v 3),(bD v 4),(bD v 5),(bD v 6),(bD v 7)] x)] fun v x=>
 rt [(bD v 2),(bD v 3),(bD v 4),(bD v 5),(bD v 6)] x))
 (bX e 6 [x0,x1,x2,x3,x4] w)):WC u9 6 aBO (pts IZ [x0,x1,x2,x3,x4]) h (hC IZ N e rt):=
 Eq.mp (by kernel_rfl) s
theorem aIz(s:RO (aN 0 x1) fun v=>
 RO (aJ h (.one 0) v) fun v=>
 RO (cR none 7 v (bB x2)) fun v=>
 RO (aN 4 v) fun v=>
 RO (aJ h (.one 0) v) fun v=>
 RP (bO .sl [v] h) fun v w=>
 RO (aO .lss .no x0 v) fun v=>
 cB v (RO (aN 0 x1) fun v=>
 RO (aJ w (.one 0) v) fun v=>
 RO (cR none 7 v (bB x2)) fun v=>
 RO (aN 4 v) fun v=>
 RO (aJ w (.one 0) v) fun v=>
 RO (cR none 1 v (bB x0)) fun v=>
 RO (aJ w (.one 0) v) fun v=>
 RP (bO .str [v] w) fun v x=>
 RO (aO .gtr .no v (iv 100)) fun v=>
 cB v (rt [x0,x1,x2,x3,(.bool false)] x)
 (RO (aO .add .no x0 (iv 1)) fun v=>
 N [v,x1,x2,x3,x4] x))
 (bX e 2 [x0,x1,x2,x3,x4] w)):WC u9 2 aBM (pts IX [x0,x1,x2,x3,x4]) h (hC IX N e rt):=
 Eq.mp (by kernel_rfl) s
theorem aIA(s:RO (aN 1 x1) fun v=>
 RO (aJ h (.one 0) v) fun v=>
 RP (bO .sl [v] h) fun v w=>
 RO (aO .lss .no x0 v) fun v=>
 cB v (RO (aN 1 x1) fun v=>
 RO (aJ w (.one 0) v) fun v=>
 RO (cR none 2 v (bB x0)) fun v=>
 RO (aN 0 v) fun v=>
 RO (aJ w (.one 0) v) fun v=>
 RP (bO .str [v] w) fun v x=>
 RO (aO .gtr .no v (iv 100)) fun v=>
 cB v (rt [x0,x1,x2,x3,x4,x5,(.bool false)] x)
 (RO (aO .add .no x0 (iv 1)) fun v=>
 N [v,x1,x2,x3,x4,x5,x6] x))
 (bX e 8 [x0,x1,x2,x3,x4,x5,x6] w)):WC u9 8 aBP (pts I0 [x0,x1,x2,x3,x4,x5,x6]) h (hC I0 N e rt):=
 Eq.mp (by kernel_rfl) s
theorem aEu(s:RO (aN 7 x1) fun v=>
 RO (aJ h (.one 0) v) fun v=>
 RP (bO .sl [v] h) fun v w=>
 RO (aO .lss .no x0 v) fun v=>
 cB v (RO (aN 7 x1) fun v=>
 RO (aJ w (.one 0) v) fun v=>
 RO (cR none 4 v (bB x0)) fun v=>
 RO (aN 1 v) fun v=>
 RO (aJ w (.many 0 3) v) fun v=>
 C 83 [v] w fun v x=>
 gV x2 true (fun y=>y v x) x fun v x=>
 RO (bJ v (.bool false) x2) fun v=>
 RO (aO .add .no x0 (iv 1)) fun y=>
 N [y,x1,v,x3,x4,x5,x6,x7] x)
 (bX e 10 [x0,x1,x2,x3,x4,x5,x6,x7] w)):WC u9 10 YL (pts BE [x0,x1,x2,x3,x4,x5,x6,x7]) h (hC BE N e rt):=
 Eq.mp (by kernel_rfl) s
theorem aEv(s:RO (aN 8 x1) fun v=>
 RO (aJ h (.one 0) v) fun v=>
 RP (bO .sl [v] h) fun v w=>
 RO (aO .lss .no x0 v) fun v=>
 cB v (RO (aN 8 x1) fun v=>
 RO (aJ w (.one 0) v) fun v=>
 RO (cR none 4 v (bB x0)) fun v=>
 RO (aN 1 v) fun v=>
 RO (aJ w (.many 0 3) v) fun v=>
 C 83 [v] w fun v x=>
 gV x2 true (fun y=>y v x) x fun v x=>
 RO (bJ v (.bool false) x2) fun v=>
 RO (aO .add .no x0 (iv 1)) fun y=>
 N [y,x1,v,x3,x4,x5,x6,x7] x)
 (bX e 12 [x0,x1,x2,x3,x4,x5,x6,x7] w)):WC u9 12 YM (pts BF [x0,x1,x2,x3,x4,x5,x6,x7]) h (hC BF N e rt):=
 Eq.mp (by kernel_rfl) s
theorem e40(s:cA (aK a0) (RO (aN 0 (.ptr h.aA 0)) fun v=>
 RO (aJ (nc h a0) (.one 0) v) fun v=>
 RP (bO .sl [v] (nc h a0)) fun v w=>
 RO (aO .gtr .no v (iv 40)) fun v=>
 Qr v false (aN 1 (.ptr h.aA 0)) w fun w x=>
 Qr v false (aJ x (.one 0) w) x fun w x=>
 Qp v false (bO .sl [w] x) x fun w x=>
 Qr v false (aO .gtr .no w (iv 70)) x fun w x=>
 RO (bJ (.bool true) w v) fun v=>
 Qr v false (aN 2 (.ptr h.aA 0)) x fun w x=>
 Qr v false (aJ x (.one 0) w) x fun w x=>
 Qp v false (bO .sl [w] x) x fun w x=>
 Qr v false (aO .gtr .no w (iv 70)) x fun w x=>
 RO (bJ (.bool true) w v) fun v=>
 cB v (aQ (.bool false)=true∧K (.bool false) x)
 (gL IW aBL [(iv 0),(.ptr h.aA 0),(iv 0),(.bool false)] x [(0,fun v w=>
 gL IY aBN [(iv 0),(bD v 1),(bD v 2),(bD v 3)] w [(4,fun v w=>
 gL IZ aBO [(iv 0),(bD v 1),(iv 0),(bD v 2),(bD v 3)] w [(6,fun v w=>
 RO (aO .leq .no (bD v 3) (iv 400)) fun v=>
 aQ v=true∧K v w)] fun v w=>
 aQ (bD v 4)=true∧K (bD v 4) w)] fun v w=>
 aQ (bD v 3)=true∧K (bD v 3) w)] fun v w=>
 aQ (bD v 3)=true∧K (bD v 3) w))):C 40 [a0] h K:=
 ent Tryz.func40 (A:=u9) rfl rfl (Eq.mp (by kernel_rfl) s)
def I1:List bH:= [aM 4,aM 0,aM 3]
def aBQ:CC:=cQ [1,1,0,1,0,0] (bL E Tryz.f41).code
def aEw(n:Nat):List bH:=bif Nat.beq n 0 then I1 else []
theorem aIB(s:RP (bO .sl [x1] h) fun v w=>
 RO (aO .lss .no x0 v) fun v=>
 gV v true (fun x=>x x0 w) w fun w x=>
 Qr v true (aO .lss .no w (iv 100)) x fun w x=>
 RO (bJ w (.bool false) v) fun v=>
 cB v (RO (cR none 1 x1 (bB x0)) fun v=>
 RO (aJ x (.one 0) v) fun v=>
 RP (bO .sl [v] x) fun v w=>
 RO (aO .add .no x2 v) fun v=>
 RO (aO .add .no x0 (iv 1)) fun y=>
 N [y,x1,v] w)
 (bX e 0 [x0,x1,x2] x)):WC aEw 0 aBQ (pts I1 [x0,x1,x2]) h (hC I1 N e rt):=
 Eq.mp (by kernel_rfl) s
theorem e41(s:gL I1 aBQ [(iv 0),a0,(iv 0)] h [(0,fun v w=>
 RP (bO .sl [(bD v 1)] w) fun w x=>
 RO (aO .leq .no w (iv 70)) fun w=>
 gV w true (fun y=>y (bD v 2) x) x fun v x=>
 Qr w true (aO .leq .no v (iv 300)) x fun v x=>
 RO (bJ v (.bool false) w) fun v=>
 aQ v=true∧K v x)] fun v w=>
 aQ .other=true∧K .other w):C 41 [a0] h K:=
 ent Tryz.func41 (A:=aEw) rfl rfl (Eq.mp (by kernel_rfl) s)
def I2:List bH:= [aM 21,aM 20,aM 19,aM 2,aM 5,aM 4]
def aBR:CC:=cQ [1,1,1,0,1,0,0] (bL E Tryz.f43).code
def aEx(n:Nat):List bH:=bif Nat.beq n 0 then I2 else []
theorem aIC(s:RO (aO .lss .no x0 x1) fun v=>
 cB v (RO (cR none 2 x2 (bB x0)) fun v=>
 RO (aJ h (.many 0 2) v) fun v=>
 RP (aW (nw h (.cells [(.str []),(iv 0)])) 2 (aK v) (.ptr h.aA 0)) fun v w=>
 RO (aN 0 x3) fun v=>
 RO (aJ w (.one 0) v) fun v=>
 RO (aN 1 (.ptr h.aA 0)) fun x=>
 RO (aJ w (.one 0) x) fun x=>
 C 84 [v,x] w fun v w=>
 RO (aO .eql .no v (iv 0)) fun x=>
 cB x (rt [x0,x1,x2,x3,x4,(iv 0)] w)
 (RO (aO .mul .no x4 v) fun v=>
 RO (iP min2 [v,(iv 1025)]) fun v=>
 RO (aO .add .no x0 (iv 1)) fun x=>
 N [x,x1,x2,x3,v,x5] w))
 (bX e 0 [x0,x1,x2,x3,x4,x5] h)):WC aEx 0 aBR (pts I2 [x0,x1,x2,x3,x4,x5]) h (hC I2 N e rt):=
 Eq.mp (by kernel_rfl) s
theorem e43(s:cA (aK a0) (RO (aN 2 (.ptr h.aA 0)) fun v=>
 RO (aJ (nc h a0) (.one 0) v) fun v=>
 C 86 [v,a1] (nc h a0) fun v w=>
 RO (gS .not v) fun v=>
 cB v (aQ (iv 0)=true∧K (iv 0) w)
 (RO (aN 2 (.ptr h.aA 0)) fun v=>
 RO (aJ w (.one 0) v) fun v=>
 RO (cR none 14 v (bB a1)) fun v=>
 RO (aN 1 v) fun v=>
 RO (aJ w (.one 0) v) fun v=>
 RP (bO .sl [v] w) fun w x=>
 gL I2 aBR [(iv 0),w,v,(.ptr h.aA 0),(iv 1),(iv 0)] x [(0,fun v w=>
 aQ (bD v 4)=true∧K (bD v 4) w)] fun v w=>
 aQ (bD v 5)=true∧K (bD v 5) w))):C 43 [a0,a1] h K:=
 ent Tryz.func43 (A:=aEx) rfl rfl (Eq.mp (by kernel_rfl) s)
theorem e83(s:cA (aK a0) (RO (aJ (nc h a0) (.many 0 3) (.ptr h.aA 0)) fun v=>
 C 170 [v,(iv 60)] (nc h a0) fun v w=>
 RO (aO .gtr .no v (iv 0)) fun v=>
 aQ v=true∧K v w)):C 83 [a0] h K:=
 ent Tryz.func83 (A:=cT) rfl rfl (Eq.mp (by kernel_rfl) s)
def BG:List bH:= [aM 6,aM 2,aM 1,aM 5,aM 4]
def YN:CC:=cQ [1,1,1,0,1,0,0] (bL E Tryz.f170).code
def YO(n:Nat):List bH:=bif Nat.beq n 0 then BG else []
theorem aEy(s:RO (aN 2 x1) fun v=>
 RO (aJ h (.one 0) v) fun v=>
 RP (bO .sl [v] h) fun v w=>
 RO (aO .lss .no x0 v) fun v=>
 cB v (RO (aN 2 x1) fun v=>
 RO (aJ w (.one 0) v) fun v=>
 RO (cR none 3 v (bB x0)) fun v=>
 RO (aJ w (.many 0 3) v) fun v=>
 RO (aO .sub .no x2 (iv 1)) fun x=>
 C 170 [v,x] w fun v x=>
 RO (aO .eql .no v (iv 0)) fun y=>
 cB y (rt [x0,x1,x2,x3,(iv 0)] x)
 (RO (aO .sub .no x3 (iv 500)) fun y=>
 RO (aO .add .no y v) fun v=>
 RO (aO .leq .no v (iv 1)) fun y=>
 cB y (rt [x0,x1,x2,v,(iv 0)] x)
 (RO (aO .add .no x0 (iv 1)) fun y=>
 N [y,x1,x2,v,x4] x)))
 (bX e 0 [x0,x1,x2,x3,x4] w)):WC YO 0 YN (pts BG [x0,x1,x2,x3,x4]) h (hC BG N e rt):=
 Eq.mp (by kernel_rfl) s
theorem aPI(s:cA (aK a0) (RO (aO .leq .no a1 (iv 0)) fun v=>
 Qr v false (aN 2 (.ptr h.aA 0)) (nc h a0) fun w x=>
 Qr v false (aJ x (.one 0) w) x fun w x=>
 Qp v false (bO .sl [w] x) x fun w x=>
 Qr v false (aO .gtr .no w (iv 9)) x fun w x=>
 RO (bJ (.bool true) w v) fun v=>
 cB v (aQ (iv 0)=true∧K (iv 0) x)
 (gL BG YN [(iv 0),(.ptr h.aA 0),a1,(iv 500),(iv 0)] x [(0,fun v w=>
 RO (aO .sub .no (bD v 3) (iv 1)) fun v=>
 aQ v=true∧K v w)] fun v w=>
 aQ (bD v 4)=true∧K (bD v 4) w))):C 170 [a0,a1] h K:=
 ent Tryz.func170 (A:=YO) rfl rfl (Eq.mp (by kernel_rfl) s)
theorem e86(s:RO (aO .geq .no a1 (iv 0)) fun v=>
 gV v true (fun w=>w a1 h) h fun w x=>
 gV v true (fun y=>y a0 x) x fun x y=>
 Qp v true (bO .sl [x] y) y fun x y=>
 Qr v true (aO .lss .no w x) y fun w x=>
 RO (bJ w (.bool false) v) fun v=>
 aQ v=true∧K v x):C 86 [a0,a1] h K:=
 ent Tryz.func86 (A:=cT) rfl rfl (Eq.mp (by kernel_rfl) s)
theorem aPJ(s:C 387 [a0,a1] h fun v w=>
 RO (aO .geq .no v (iv 0)) fun v=>
 aQ v=true∧K v w):C 321 [a0,a1] h K:=
 ent Tryz.func321 (A:=cT) rfl rfl (Eq.mp (by kernel_rfl) s)
def BH:List bH:= [aM 8,aM 7,aM 1,aM 0,aM 4]
def YP:CC:=cQ [1,0,1,0,0] (bL E Tryz.f387).code
def YQ(n:Nat):List bH:=bif Nat.beq n 0 then BH else []
theorem aEz(s:RO (aO .lss .no x0 x1) fun v=>
 cB v (RO (cR none 1 x3 (bB x0)) fun v=>
 RO (aJ h (.one 0) v) fun v=>
 RO (aO .eql .no x2 v) fun v=>
 cB v (rt [x0,x1,x2,x3,x0] h)
 (RO (aO .add .no x0 (iv 1)) fun v=>
 N [v,x1,x2,x3,x4] h))
 (bX e 0 [x0,x1,x2,x3,x4] h)):WC YQ 0 YP (pts BH [x0,x1,x2,x3,x4]) h (hC BH N e rt):=
 Eq.mp (by kernel_rfl) s
theorem aPK(s:RP (bO .sl [a0] h) fun v w=>
 gL BH YP [(iv 0),v,a1,a0,(iv 0)] w [(0,fun v w=>
 aQ (iv (-1))=true∧K (iv (-1)) w)] fun v w=>
 aQ (bD v 4)=true∧K (bD v 4) w):C 387 [a0,a1] h K:=
 ent Tryz.func387 (A:=YQ) rfl rfl (Eq.mp (by kernel_rfl) s)
def QU:List bH:= [aM 10,aM 1,aM 3,aM 8,aM 5,aM 6]
def aID:CC:=cQ [1,1,1,1,1,0,1,0,0] (bL E Tryz.f3).code
def QV:List bH:= [aM 13,aM 11,aM 3,aM 8,aM 12,aM 5,aM 6]
def aIE:CC:=cQ [1,1,1,1,1,1,1,1,1,1,0,1,0,0] (bL E Tryz.f3).code
def an3(n:Nat):List bH:=bif Nat.beq n 0 then QU else bif Nat.beq n 2 then QV else []
theorem aPL(s:RP (bO .sl [x1] h) fun v w=>
 RO (aO .lss .no x0 v) fun v=>
 cB v (RO (cR none 7 x1 (bB x0)) fun v=>
 RO (aN 2 v) fun v=>
 RO (aN 1 v) fun v=>
 RO (aJ w (.one 0) v) fun v=>
 RP (bO .sl [v] w) fun v x=>
 RO (aO .gtr .no v (iv 20)) fun v=>
 gV v false (fun y=>y x1 x) x fun x y=>
 gV v false (fun z=>z x0 y) y fun y z=>
 Qr v false (cR none 7 x (bB y)) z fun x y=>
 Qr v false (aN 2 x) y fun x y=>
 Qr v false (aN 2 x) y fun x y=>
 Qr v false (aJ y (.one 0) x) y fun x y=>
 Qp v false (bO .sl [x] y) y fun x y=>
 Qr v false (aO .gtr .no x (iv 20)) y fun x y=>
 RO (bJ (.bool true) x v) fun v=>
 gV v false (fun x=>x x1 y) y fun x y=>
 gV v false (fun z=>z x0 y) y fun y z=>
 Qr v false (cR none 7 x (bB y)) z fun x y=>
 Qr v false (aN 2 x) y fun x y=>
 Qr v false (aN 3 x) y fun x y=>
 Qr v false (aJ y (.one 0) x) y fun x y=>
 Qp v false (bO .sl [x] y) y fun x y=>
 Qr v false (aO .gtr .no x (iv 20)) y fun x y=>
 RO (bJ (.bool true) x v) fun v=>
 cB v (rt [x0,x1,x2,x3,x4,(.bool true)] y)
 (RO (aO .add .no x0 (iv 1)) fun v=>
 N [v,x1,x2,x3,x4,x5] y))
 (bX e 0 [x0,x1,x2,x3,x4,x5] w)):WC an3 0 aID (pts QU [x0,x1,x2,x3,x4,x5]) h (hC QU N e rt):=
 Eq.mp (by kernel_rfl) s
theorem aPM(s:RP (bO .sl [x1] h) fun v w=>
 RO (aO .lss .no x0 v) fun v=>
 cB v (RO (aN 2 x2) fun v=>
 cP (fun hh=>cF hh (aJ hh (.one 0) v)) 0 [(up w 11)] fun v=>
 RO (cR none 4 x1 (bB x0)) fun x=>
 RO (aN 0 x) fun x=>
 cP (fun hh=>cF hh (aJ hh (.one 0) x)) 0 [(up w 11)] fun x=>
 RO (cR none 14 v (bB x)) fun v=>
 cP (fun hh=>cF hh (aJ hh (.many 0 14) v)) 0 [(up w 11)] fun v=>
 RP (aW (nwAt (up w 11) (w.aA+9) (.cells [(.str []),.aB,(iv 0),(iv 0),.aB,(iv 0),(iv 0),.aB,.aB,.aB,(iv 0),(iv 0),(iv 0),(iv 0)])) 14 (aK v) (.ptr (w.aA+9) 0)) fun v x=>
 cP (fun hh=>cF hh (aJ hh (.many 0 5) x2)) 0 [(up x 19)] fun v=>
 cP (fun hh=>cF hh (aJ hh (.many 0 4) x3)) 0 [(up x 19)] fun y=>
 RO (cR none 4 x1 (bB x0)) fun z=>
 cP (fun hh=>cF hh (aJ hh (.many 0 4) z)) 0 [(up x 19)] fun z=>
 RO (aN 11 (.ptr (w.aA+9) 0)) fun u=>
 RO (cR (some 3) 1 u (bB (iv 0))) fun u=>
 cP (fun hh=>cF hh (aJ hh (.one 0) u)) 0 [(up x 19)] fun u=>
 RO (iP max2 [u,(iv 1)]) fun u=>
 RL (bK [(iv 0),(iv 0),(iv 0),.aB,.aB,.aB,(iv 0)] [(0,1,(iv 1)),(2,4,z),(6,1,u)]) fun l224=>cA l224 (
 C 9 [v,y,(.agg l224)] (up x 19) fun v y=>
 RO (aR 0 v) fun z=>
 RP (aW (nwAt (nwAt y (x.aA+15) (.cells [.aB,.aB,(iv 0),(iv 0)])) (x.aA+16) (.cells [(iv 0),(iv 0),.aB])) 4 (aK z) (.ptr (x.aA+15) 0)) fun y z=>
 RO (aR 1 v) fun v=>
 RP (aW z 3 (aK v) (.ptr (x.aA+16) 0)) fun v y=>
 RO (aN 0 (.ptr (x.aA+16) 0)) fun v=>
 RO (aJ y (.one 0) v) fun v=>
 RO (aO .neq .no v (iv 0)) fun v=>
 Qr v false (aN 1 (.ptr (x.aA+16) 0)) y fun y z=>
 Qr v false (aJ z (.one 0) y) z fun y z=>
 Qr v false (aN 2 x3) z fun z u=>
 Qr v false (aJ u (.one 0) z) u fun z u=>
 Qr v false (aO .neq .no y z) u fun y z=>
 RO (bJ (.bool true) y v) fun v=>
 Qr v false (aN 1 (.ptr (x.aA+15) 0)) z fun x y=>
 Qr v false (aJ y (.one 0) x) y fun x y=>
 Qp v false (bO .sl [x] y) y fun x y=>
 Qr v false (aN 1 x3) y fun y z=>
 Qr v false (aJ z (.one 0) y) z fun y z=>
 Qp v false (bO .sl [y] z) z fun y z=>
 Qr v false (aO .add .no y (iv 1)) z fun y z=>
 Qr v false (aO .neq .no x y) z fun x y=>
 RO (bJ (.bool true) x v) fun v=>
 cB v (rt [x0,x1,x2,x3,x4,x5,(.bool false)] y)
 (gV x4 false (fun v=>v x1 (up y 10)) (up y 10) fun v x=>
 gV x4 false (fun z=>z x0 x) x fun x z=>
 Qr x4 false (cR none 4 v (bB x)) z fun v x=>
 gV x4 false (fun z=>cP (fun hh=>cF hh (aJ hh (.many 0 4) v)) 0 [(up y 10)] fun v=>
 z v x) x fun v x=>
 gV x4 false (fun z=>cP (fun hh=>cF hh (aJ hh (.many 0 4) x5)) 0 [(up y 10)] fun y=>
 z y x) x fun x y=>
 gV x4 false (fun z=>C 10 [v,x] y fun v x=>
 z v x) y fun v x=>
 RO (bJ (.bool true) v x4) fun v=>
 RO (aO .add .no x0 (iv 1)) fun y=>
 N [y,x1,x2,x3,v,x5,x6] x)))
 (bX e 2 [x0,x1,x2,x3,x4,x5,x6] w)):WC an3 2 aIE (pts QV [x0,x1,x2,x3,x4,x5,x6]) h (hC QV N e rt):=
 Eq.mp (by kernel_rfl) s
theorem e3(s:cA (aK a0) (cA (aK a2) (C 4 [] (nc (nc h a0) a2) fun v w=>
 RO (aJ w (.many 0 5) (.ptr h.aA 0)) fun x=>
 C 5 [x] w fun w x=>
 RP (aW (nw x (.cells [.aB,.aB,(iv 0),(iv 0)])) 4 (aK w) (.ptr x.aA 0)) fun w y=>
 RO (aJ y (.many 0 5) (.ptr h.aA 0)) fun w=>
 RO (aJ y (.many 0 4) (.ptr x.aA 0)) fun z=>
 C 6 [w,z] y fun w y=>
 RO (gS .not v) fun z=>
 gV z false (fun u=>u w y) y fun w y=>
 Qr z false (gS .not w) y fun w y=>
 RO (bJ (.bool true) w z) fun w=>
 gV w false (fun z=>z a1 y) y fun y z=>
 Qp w false (bO .sl [y] z) z fun y z=>
 Qr w false (aO .gtr .no y (iv 12)) z fun y z=>
 RO (bJ (.bool true) y w) fun w=>
 Qr w false (aN 1 (.ptr (nc h a0).aA 0)) z fun y z=>
 Qr w false (aJ z (.one 0) y) z fun y z=>
 Qp w false (bO .sl [y] z) z fun y z=>
 Qr w false (aO .gtr .no y (iv 20)) z fun y z=>
 RO (bJ (.bool true) y w) fun w=>
 Qr w false (aN 2 (.ptr (nc h a0).aA 0)) z fun y z=>
 Qr w false (aJ z (.one 0) y) z fun y z=>
 Qp w false (bO .sl [y] z) z fun y z=>
 Qr w false (aO .gtr .no y (iv 20)) z fun y z=>
 RO (bJ (.bool true) y w) fun w=>
 Qr w false (aN 3 (.ptr (nc h a0).aA 0)) z fun y z=>
 Qr w false (aJ z (.one 0) y) z fun y z=>
 Qp w false (bO .sl [y] z) z fun y z=>
 Qr w false (aO .gtr .no y (iv 20)) z fun y z=>
 RO (bJ (.bool true) y w) fun w=>
 cB w (aQ v=true∧K v z)
 (gL QU aID [(iv 0),a1,(.ptr h.aA 0),(.ptr x.aA 0),(.ptr (nc h a0).aA 0),(.bool false)] z [(0,fun v w=>
 RO (aJ w (.many 0 5) (bD v 2)) fun x=>
 RO (aJ w (.many 0 4) (bD v 3)) fun y=>
 C 7 [x,y,(bD v 1)] w fun w x=>
 RO (aR 0 w) fun y=>
 RO (aR 1 w) fun w=>
 RP (aW x 4 (aK y) (bD v 3)) fun w x=>
 RO (aJ x (.many 0 5) (bD v 2)) fun w=>
 RO (aJ x (.many 0 4) (bD v 3)) fun y=>
 C 8 [w,y,(iv 2000)] x fun w x=>
 RP (bO .sl [w] x) fun x y=>
 RO (aO .geq .no x (iv 200)) fun x=>
 cB x (aQ (.bool true)=true∧K (.bool true) y)
 (gL QV aIE [(iv 0),w,(bD v 2),(bD v 3),(.bool false),(bD v 4),(bD v 5)] y [(2,fun v w=>
 RO (aJ w (.many 0 5) (bD v 2)) fun x=>
 RO (aJ w (.many 0 4) (bD v 3)) fun y=>
 RO (aJ w (.many 0 4) (bD v 5)) fun z=>
 RL (bK [(iv 0),(iv 0),(iv 0),.aB,.aB,.aB,(iv 0)] [(0,1,(iv 1)),(2,4,z),(6,1,(iv 1))]) fun l109=>cA l109 (
 C 9 [x,y,(.agg l109)] w fun w x=>
 RO (aR 0 w) fun y=>
 RO (aR 1 w) fun w=>
 RP (aW (nw (nw x (.cells [.aB,.aB,(iv 0),(iv 0)])) (.cells [(iv 0),(iv 0),.aB])) 4 (aK y) (.ptr x.aA 0)) fun y z=>
 RP (aW z 3 (aK w) (.ptr (nw x (.cells [.aB,.aB,(iv 0),(iv 0)])).aA 0)) fun w y=>
 RO (aN 0 (.ptr (nw x (.cells [.aB,.aB,(iv 0),(iv 0)])).aA 0)) fun w=>
 RO (aJ y (.one 0) w) fun w=>
 RO (aO .neq .no w (iv 0)) fun w=>
 gV w false (fun x=>x (bD v 4) y) y fun v x=>
 RO (bJ (.bool true) v w) fun v=>
 aQ v=true∧K v x))] fun v w=>
 aQ (bD v 6)=true∧K (bD v 6) w))] fun v w=>
 aQ (bD v 5)=true∧K (bD v 5) w)))):C 3 [a0,a1,a2] h K:=
 ent Tryz.func3 (A:=an3) rfl rfl (Eq.mp (by kernel_rfl) s)
end
end Ev
