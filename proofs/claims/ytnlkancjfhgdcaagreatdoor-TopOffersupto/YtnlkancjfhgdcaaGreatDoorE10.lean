/- Proved here: functions of the program, printed as propositions. Conditions: none beyond the hypotheses that each theorem states. -/
import Derived.Test.YtnlkancjfhgdcaaGreatDoorE09
set_option linter.all false
set_option maxRecDepth 100000
open Go Go.Proofs
namespace Ev
noncomputable section
variable{a0 a1 a2 a3 a4 a5 a6 a7 a8 a9 x0 x1 x2 x3 x4 x5 x6 x7 x8 x9 x10 x11 x12 x13 x14 x15 x16 x17 x18 x19 x20:AV}{h:aL}{K:KH}{N:List AV→aL→Prop}{e:Ends}{rt:List AV→aL→Prop}
theorem aMw(s:RO (aO .geq .no a0 (.int .u8 97)) fun v=>
 gV v true (fun w=>w a0 h) h fun w x=>
 Qr v true (aO .leq .no w (.int .u8 122)) x fun w x=>
 RO (bJ w (.bool false) v) fun v=>
 gV v false (fun w=>w a0 x) x fun w x=>
 Qr v false (aO .geq .no w (.int .u8 65)) x fun w x=>
 gV v false (fun y=>y w x) x fun w x=>
 gV w true (fun y=>y a0 x) x fun x y=>
 Qr w true (aO .leq .no x (.int .u8 90)) y fun x y=>
 Qr v false (bJ x (.bool false) w) y fun w x=>
 RO (bJ (.bool true) w v) fun v=>
 aQ v=true∧K v x):C 320 [a0] h K:=
 ent Tryz.func320 (A:=cT) rfl rfl (Eq.mp (by kernel_rfl) s)
def AF:List bH:= [aM 20,aM 19,aM 0,aM 2]
def WI:CC:=cQ [1,1,0,1,0,0] (bL E Tryz.f226).code
def WJ(n:Nat):List bH:=bif Nat.beq n 0 then AF else []
theorem aDg(s:RO (aO .lss .no x0 x1) fun v=>
 cB v (RO (ixS x2 (bB x0)) fun v=>
 C 320 [v] h fun w x=>
 RO (gS .not w) fun w=>
 gV w true (fun y=>y v x) x fun x y=>
 Qr w true (aO .lss .no x (.int .u8 48)) y fun x y=>
 gV w true (fun z=>z x y) y fun x y=>
 gV x false (fun z=>z v y) y fun y z=>
 Qr x false (aO .gtr .no y (.int .u8 57)) z fun y z=>
 Qr w true (bJ (.bool true) y x) z fun x y=>
 RO (bJ x (.bool false) w) fun w=>
 gV w true (fun x=>x v y) y fun v x=>
 Qr w true (aO .neq .no v (.int .u8 95)) x fun v x=>
 RO (bJ v (.bool false) w) fun v=>
 cB v (rt [x0,x1,x2,(.bool false)] x)
 (RO (aO .add .no x0 (iv 1)) fun v=>
 N [v,x1,x2,x3] x))
 (bX e 0 [x0,x1,x2,x3] h)):WC WJ 0 WI (pts AF [x0,x1,x2,x3]) h (hC AF N e rt):=
 Eq.mp (by kernel_rfl) s
theorem aMx(s:RO (aO .eql .no a0 (.str [])) fun v=>
 gV v false (fun w=>w a0 h) h fun w x=>
 Qp v false (bO .str [w] x) x fun w x=>
 Qr v false (aO .gtr .no w (iv 32)) x fun w x=>
 RO (bJ (.bool true) w v) fun v=>
 gV v false (fun w=>w a0 x) x fun w x=>
 Qr v false (ixS w (bB (iv 0))) x fun w x=>
 gV v false (fun y=>C 320 [w] x fun w z=>
 y w z) x fun w x=>
 Qr v false (gS .not w) x fun w x=>
 RO (bJ (.bool true) w v) fun v=>
 cB v (aQ (.bool false)=true∧K (.bool false) x)
 (RP (bO .str [a0] x) fun v w=>
 gL AF WI [(iv 0),v,a0,(.bool false)] w [(0,fun v w=>
 aQ (.bool true)=true∧K (.bool true) w)] fun v w=>
 aQ (bD v 3)=true∧K (bD v 3) w)):C 226 [a0] h K:=
 ent Tryz.func226 (A:=WJ) rfl rfl (Eq.mp (by kernel_rfl) s)
theorem aMy(s:RO (aO .gtr .no a0 a1) fun v=>
 cB v (aQ (iv 0)=true∧K (iv 0) h)
 (RO (qM .u64 a1) fun v=>
 RO (qM .u64 a0) fun w=>
 RO (aO .sub .no v w) fun v=>
 RO (iP min2 [v,(.int .u64 1024)]) fun v=>
 RO (qM .i64 v) fun v=>
 RO (aO .add .no v (iv 1)) fun v=>
 aQ v=true∧K v h)):C 389 [a0,a1] h K:=
 ent Tryz.func389 (A:=cT) rfl rfl (Eq.mp (by kernel_rfl) s)
def AG:List bH:= [aM 9,aM 8,aM 7,aM 3,aM 2]
def WK:CC:=cQ [1,1,0,1,0,0] (bL E Tryz.f390).code
def WL(n:Nat):List bH:=bif Nat.beq n 0 then AG else []
theorem aDh(s:RO (aO .lss .no x0 x1) fun v=>
 cB v (RO (cR none 1 x2 (bB x0)) fun v=>
 RO (aJ h (.one 0) v) fun v=>
 C 226 [v] h fun w x=>
 RO (gS .not w) fun w=>
 gV w false (fun y=>y x3 x) x fun x y=>
 gV w false (fun z=>z v y) y fun y z=>
 Qr w false (fT .str (.bool false) false y (dK z x)) z fun x y=>
 RO (bJ (.bool true) x w) fun w=>
 cB w (rt [x0,x1,x2,x3,(.bool false)] y)
 (RP (hU y .str v (.bool true) x3) fun v w=>
 RO (aO .add .no x0 (iv 1)) fun v=>
 N [v,x1,x2,x3,x4] w))
 (bX e 0 [x0,x1,x2,x3,x4] h)):WC WL 0 WK (pts AG [x0,x1,x2,x3,x4]) h (hC AG N e rt):=
 Eq.mp (by kernel_rfl) s
theorem aMz(s:RP (bO .sl [a0] (nw h (.map [] 0))) fun v w=>
 gL AG WK [(iv 0),v,a0,(.map h.aA),(.bool false)] w [(0,fun v w=>
 aQ (.bool true)=true∧K (.bool true) w)] fun v w=>
 aQ (bD v 4)=true∧K (bD v 4) w):C 390 [a0] h K:=
 ent Tryz.func390 (A:=WL) rfl rfl (Eq.mp (by kernel_rfl) s)
theorem aMA(s:cA (aK a0) ((fun(j0:aL→Prop)=>
 RO (aN 1 (.ptr h.aA 0)) fun v=>
 RO (aJ (nc h a0) (.one 0) v) fun v=>
 RO (aO .eql .no v (iv 1)) fun w=>
 cB w (RO (aN 2 (.ptr h.aA 0)) fun w=>
 RO (aJ (nc h a0) (.one 0) w) fun w=>
 RO (aN 3 (.ptr h.aA 0)) fun x=>
 RO (aJ (nc h a0) (.one 0) x) fun x=>
 C 389 [w,x] (nc h a0) fun w x=>
 aQ w=true∧K w x)
 (RO (aO .eql .no v (iv 2)) fun w=>
 cB w (RO (aN 4 (.ptr h.aA 0)) fun w=>
 RO (aJ (nc h a0) (.one 0) w) fun w=>
 C 390 [w] (nc h a0) fun w x=>
 cB w (RO (aN 4 (.ptr h.aA 0)) fun w=>
 RO (aJ x (.one 0) w) fun w=>
 RP (bO .sl [w] x) fun w y=>
 aQ w=true∧K w y)
 (j0 x))
 (RO (aO .eql .no v (iv 3)) fun v=>
 cB v (RO (aN 5 (.ptr h.aA 0)) fun v=>
 RO (aJ (nc h a0) (.one 0) v) fun v=>
 RO (aN 6 (.ptr h.aA 0)) fun w=>
 RO (aJ (nc h a0) (.one 0) w) fun w=>
 RO (iP min2 [v,w]) fun v=>
 RO (aO .geq .no v (iv 0)) fun v=>
 Qr v true (aN 5 (.ptr h.aA 0)) (nc h a0) fun w x=>
 Qr v true (aJ x (.one 0) w) x fun w x=>
 Qr v true (aN 6 (.ptr h.aA 0)) x fun x y=>
 Qr v true (aJ y (.one 0) x) y fun x y=>
 Qr v true (iP max2 [w,x]) y fun w x=>
 gV v true (fun y=>y a1 x) x fun x y=>
 Qp v true (bO .sl [x] y) y fun x y=>
 Qr v true (aO .lss .no w x) y fun w x=>
 RO (bJ w (.bool false) v) fun v=>
 cB v (RO (aN 5 (.ptr h.aA 0)) fun v=>
 cP (fun h=>cF h (aJ h (.one 0) v)) 0 [(up x 12)] fun v=>
 RO (cR none 1 a1 (bB v)) fun v=>
 cP (fun h=>cF h (aJ h (.one 0) v)) 0 [(up x 12)] fun v=>
 RO (aN 6 (.ptr h.aA 0)) fun w=>
 cP (fun h=>cF h (aJ h (.one 0) w)) 0 [(up x 12)] fun w=>
 RO (cR none 1 a1 (bB w)) fun w=>
 cP (fun h=>cF h (aJ h (.one 0) w)) 0 [(up x 12)] fun w=>
 RO (aO .mul .no v w) fun v=>
 aQ v=true∧K v (up x 12))
 (j0 x))
 (j0 (nc h a0)))))
 fun v=>
 aQ (iv 0)=true∧K (iv 0) v)):C 323 [a0,a1] h K:=
 ent Tryz.func323 (A:=cT) rfl rfl (Eq.mp (by kernel_rfl) s)
def AH:List bH:= [aM 15,aM 14,aM 13,aM 5,aM 4,aM 2,aM 3]
def WM:CC:=cQ [1,1,1,1,0,1,0,0] (bL E Tryz.f229).code
def WN(n:Nat):List bH:=bif Nat.beq n 0 then AH else []
theorem aDi(s:RO (aO .lss .no x0 x1) fun v=>
 cB v (RO (cR none 7 x2 (bB x0)) fun v=>
 RO (aJ h (.many 0 7) v) fun v=>
 RP (aW (nw h (.cells [(.str []),(iv 0),(iv 0),(iv 0),.aB,(iv 0),(iv 0)])) 7 (aK v) (.ptr h.aA 0)) fun v w=>
 RO (aJ w (.many 0 7) (.ptr h.aA 0)) fun v=>
 C 323 [v,x3] w fun v w=>
 RO (aN 0 (.ptr h.aA 0)) fun x=>
 RO (aJ w (.one 0) x) fun x=>
 C 226 [x] w fun w x=>
 RO (gS .not w) fun w=>
 gV w false (fun y=>y x4 x) x fun x y=>
 Qr w false (aN 0 (.ptr h.aA 0)) y fun y z=>
 Qr w false (aJ z (.one 0) y) z fun y z=>
 Qr w false (fT .str (.bool false) false y (dK z x)) z fun x y=>
 RO (bJ (.bool true) x w) fun w=>
 gV w false (fun x=>x v y) y fun x y=>
 Qr w false (aO .lss .no x (iv 1)) y fun x y=>
 RO (bJ (.bool true) x w) fun w=>
 gV w false (fun x=>x v y) y fun x y=>
 Qr w false (aO .gtr .no x (iv 1024)) y fun x y=>
 RO (bJ (.bool true) x w) fun w=>
 cB w (rt [x0,x1,x2,x3,x4,.aB,(.bool false)] y)
 (RO (aN 0 (.ptr h.aA 0)) fun w=>
 RO (aJ y (.one 0) w) fun w=>
 RP (hU y .str w (.bool true) x4) fun w x=>
 RL (bK [(iv 0)] [(0,1,v)]) fun l58=>cA l58 (
 RP (cY 1 [x3,(.slice x.aA 0 1 1 0)] (nw x (.cells l58))) fun v w=>
 RO (aO .add .no x0 (iv 1)) fun x=>
 N [x,x1,x2,v,x4,x5,x6] w)))
 (bX e 0 [x0,x1,x2,x3,x4,x5,x6] h)):WC WN 0 WM (pts AH [x0,x1,x2,x3,x4,x5,x6]) h (hC AH N e rt):=
 Eq.mp (by kernel_rfl) s
theorem aMB(s:RP (bO .sl [a0] h) fun v w=>
 RO (aO .gtr .no v (iv 32)) fun v=>
 cB v (aQ .aB=true∧aQ (.bool false)=true∧K (.tuple [.aB,(.bool false)]) w)
 (RP (bO .sl [a0] (nw w (.map [] 0))) fun v x=>
 gL AH WM [(iv 0),v,a0,.aB,(.map w.aA),.aB,(.bool false)] x [(0,fun v w=>
 aQ (bD v 3)=true∧aQ (.bool true)=true∧K (.tuple [(bD v 3),(.bool true)]) w)] fun v w=>
 aQ (bD v 5)=true∧aQ (bD v 6)=true∧K (.tuple [(bD v 5),(bD v 6)]) w)):C 229 [a0] h K:=
 ent Tryz.func229 (A:=WN) rfl rfl (Eq.mp (by kernel_rfl) s)
theorem aMC(s:C 229 [a0] (nw h (.cells [.aB,.aB,(iv 0)])) fun v w=>
 RO (aR 0 v) fun x=>
 RO (aR 1 v) fun v=>
 RO (gS .not v) fun v=>
 gV v false (fun y=>y a1 w) w fun w y=>
 Qr v false (aO .lss .no w (iv 0)) y fun w y=>
 RO (bJ (.bool true) w v) fun v=>
 gV v false (fun w=>w a1 y) y fun w y=>
 gV v false (fun z=>z a0 y) y fun y z=>
 Qp v false (bO .sl [y] z) z fun y z=>
 Qr v false (aO .geq .no w y) z fun w y=>
 RO (bJ (.bool true) w v) fun v=>
 cB v (RL (bK [.aB,.aB,(iv 0)] []) fun l29=>cA l29 (
 RP (aW y 3 (aK (.agg l29)) (.ptr h.aA 0)) fun v w=>
 RO (cE w (.many 0 3) (.ptr h.aA 0)) fun v=>aQ (.bool false)=true∧K (.tuple [v,(.bool false)]) w))
 (RL (bK [.aB,.aB,(iv 0)] [(0,1,a0),(1,1,x),(2,1,a1)]) fun l33=>cA l33 (
 RP (aW y 3 (aK (.agg l33)) (.ptr h.aA 0)) fun v w=>
 RO (cE w (.many 0 3) (.ptr h.aA 0)) fun v=>aQ (.bool true)=true∧K (.tuple [v,(.bool true)]) w))):C 171 [a0,a1] h K:=
 ent Tryz.func171 (A:=cT) rfl rfl (Eq.mp (by kernel_rfl) s)
theorem e84(s:C 171 [a0,a1] h fun v w=>
 RO (aR 0 v) fun x=>
 RO (aR 1 v) fun v=>
 RP (aW (nw w (.cells [.aB,.aB,(iv 0)])) 3 (aK x) (.ptr w.aA 0)) fun x y=>
 RO (gS .not v) fun v=>
 cB v (aQ (iv 0)=true∧K (iv 0) y)
 (RO (aN 1 (.ptr w.aA 0)) fun v=>
 RO (aJ y (.one 0) v) fun v=>
 RO (cR none 1 v (bB a1)) fun v=>
 RO (aJ y (.one 0) v) fun v=>
 aQ v=true∧K v y)):C 84 [a0,a1] h K:=
 ent Tryz.func84 (A:=cT) rfl rfl (Eq.mp (by kernel_rfl) s)
theorem aMD(s:cA (aK a0) (RO (aO .geq .no a1 (iv 0)) fun v=>
 gV v true (fun w=>w a1 (nc h a0)) (nc h a0) fun w x=>
 Qr v true (aN 1 (.ptr h.aA 0)) x fun x y=>
 Qr v true (aJ y (.one 0) x) y fun x y=>
 Qr v true (aN 2 (.ptr h.aA 0)) y fun y z=>
 Qr v true (aJ z (.one 0) y) z fun y z=>
 Qr v true (cR none 1 x (bB y)) z fun x y=>
 Qr v true (aJ y (.one 0) x) y fun x y=>
 Qr v true (aO .lss .no w x) y fun w x=>
 RO (bJ w (.bool false) v) fun v=>
 aQ v=true∧K v x)):C 304 [a0,a1] h K:=
 ent Tryz.func304 (A:=cT) rfl rfl (Eq.mp (by kernel_rfl) s)
theorem aME(s:cA (aK a0) (RO (aN 0 (.ptr h.aA 0)) fun v=>
 RO (aJ (nw (nc h a0) (.cells [(.str []),(iv 0),(iv 0),(iv 0),.aB,(iv 0),(iv 0)])) (.one 0) v) fun v=>
 RO (aN 2 (.ptr h.aA 0)) fun w=>
 RO (aJ (nw (nc h a0) (.cells [(.str []),(iv 0),(iv 0),(iv 0),.aB,(iv 0),(iv 0)])) (.one 0) w) fun w=>
 RO (cR none 7 v (bB w)) fun v=>
 RO (aJ (nw (nc h a0) (.cells [(.str []),(iv 0),(iv 0),(iv 0),.aB,(iv 0),(iv 0)])) (.many 0 7) v) fun v=>
 RP (aW (nw (nc h a0) (.cells [(.str []),(iv 0),(iv 0),(iv 0),.aB,(iv 0),(iv 0)])) 7 (aK v) (.ptr (nc h a0).aA 0)) fun v w=>
 RO (cE w (.many 0 7) (.ptr (nc h a0).aA 0)) fun v=>K v w)):C 305 [a0] h K:=
 ent Tryz.func305 (A:=cT) rfl rfl (Eq.mp (by kernel_rfl) s)
theorem aMF(s:C 171 [a0,a1] h fun v w=>
 RO (aR 0 v) fun x=>
 RO (aR 1 v) fun v=>
 RP (aW (nw w (.cells [.aB,.aB,(iv 0)])) 3 (aK x) (.ptr w.aA 0)) fun x y=>
 RO (gS .not v) fun v=>
 Qr v false (aJ y (.many 0 3) (.ptr w.aA 0)) y fun x y=>
 gV v false (fun z=>z a2 y) y fun y z=>
 gV v false (fun u=>C 304 [x,y] z fun x y=>
 u x y) z fun x y=>
 Qr v false (gS .not x) y fun x y=>
 RO (bJ (.bool true) x v) fun v=>
 cB v (aQ (iv 0)=true∧aQ (.bool false)=true∧K (.tuple [(iv 0),(.bool false)]) y)
 (RO (aJ y (.many 0 3) (.ptr w.aA 0)) fun v=>
 C 305 [v] y fun v x=>
 RO (sJ (.one 1) v) fun v=>
 RO (aO .eql .no v (iv 1)) fun v=>
 cB v (RO (aJ x (.many 0 3) (.ptr w.aA 0)) fun v=>
 C 305 [v] x fun v w=>
 RO (sJ (.one 2) v) fun v=>
 RO (aO .add .no v a2) fun v=>
 aQ v=true∧aQ (.bool true)=true∧K (.tuple [v,(.bool true)]) w)
 (aQ a2=true∧aQ (.bool true)=true∧K (.tuple [a2,(.bool true)]) x))):C 201 [a0,a1,a2] h K:=
 ent Tryz.func201 (A:=cT) rfl rfl (Eq.mp (by kernel_rfl) s)
theorem aMG(s:C 171 [a0,a1] h fun v w=>
 RO (aR 0 v) fun x=>
 RO (aR 1 v) fun v=>
 RP (aW (nw w (.cells [.aB,.aB,(iv 0)])) 3 (aK x) (.ptr w.aA 0)) fun x y=>
 RO (gS .not v) fun v=>
 cB v (aQ (iv 0)=true∧aQ (.bool false)=true∧K (.tuple [(iv 0),(.bool false)]) y)
 ((fun(j7:AV→aL→Prop)=>
 RO (aJ y (.many 0 3) (.ptr w.aA 0)) fun v=>
 C 305 [v] y fun v x=>
 RP (aW (nw x (.cells [(.str []),(iv 0),(iv 0),(iv 0),.aB,(iv 0),(iv 0)])) 7 (aK v) (.ptr x.aA 0)) fun v y=>
 RO (aN 1 (.ptr x.aA 0)) fun v=>
 RO (aJ y (.one 0) v) fun v=>
 RO (aO .eql .no v (iv 1)) fun v=>
 cB v (RO (aN 2 (.ptr x.aA 0)) fun v=>
 RO (aJ y (.one 0) v) fun v=>
 RO (aO .lss .no a2 v) fun v=>
 gV v false (fun z=>z a2 y) y fun z u=>
 Qr v false (aN 3 (.ptr x.aA 0)) u fun u t=>
 Qr v false (aJ t (.one 0) u) t fun u t=>
 Qr v false (aO .gtr .no z u) t fun z u=>
 RO (bJ (.bool true) z v) fun v=>
 cB v (aQ (iv 0)=true∧aQ (.bool false)=true∧K (.tuple [(iv 0),(.bool false)]) u)
 (RO (aN 2 (.ptr x.aA 0)) fun v=>
 RO (aJ u (.one 0) v) fun v=>
 RO (aO .sub .no a2 v) fun v=>
 j7 v u))
 (j7 a2 y))
 fun x38 v=>
 RO (aJ v (.many 0 3) (.ptr w.aA 0)) fun w=>
 C 304 [w,x38] v fun v w=>
 RO (gS .not v) fun v=>
 cB v (aQ (iv 0)=true∧aQ (.bool false)=true∧K (.tuple [(iv 0),(.bool false)]) w)
 (aQ x38=true∧aQ (.bool true)=true∧K (.tuple [x38,(.bool true)]) w))):C 203 [a0,a1,a2] h K:=
 ent Tryz.func203 (A:=cT) rfl rfl (Eq.mp (by kernel_rfl) s)
theorem aMH(s:C 229 [a0] h fun v w=>
 RO (aR 0 v) fun x=>
 RO (aR 1 v) fun v=>
 aQ v=true∧K v w):C 125 [a0] h K:=
 ent Tryz.func125 (A:=cT) rfl rfl (Eq.mp (by kernel_rfl) s)
end
end Ev
