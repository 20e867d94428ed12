/- Proved here: functions of the program, printed as propositions. Conditions: none beyond the hypotheses that each theorem states. -/
import Derived.Test.YtnlkancjfhgdcaaGreatDoorE09
set_option linter.all false
set_option maxRecDepth 100000
open Go Go.Proofs
namespace Ev
noncomputable section
variable{a0 a1 a2 a3 a4 a5 a6 a7 a8 a9 x0 x1 x2 x3 x4 x5 x6 x7 x8 x9 x10 x11 x12 x13 x14 x15 x16 x17 x18 x19 x20:AV}{h:aL}{K:KH}{N:List AV→aL→Prop}{e:Ends}{rt:List AV→aL→Prop}
def AU:List bH:= [aM 19,aM 18,aM 2,aM 0,aM 1,aM 8,aM 6,aM 7]
def XF:CC:=cQ [1,1,0,1,0,0] (bL E Tryz.f187).code
def XG(n:Nat):List bH:=bif Nat.beq n 0 then AU else []
theorem aDJ(s:RO (aO .lss .no x0 x1) fun v=>
 cB v (RO (cR none 1 x3 (bB x0)) fun v=>
 cP (fun hh=>cF hh (aJ hh (.one 0) v)) 0 [(up h 18)] fun v=>
 RO (cR none 1 x4 (bB x0)) fun w=>
 cP (fun hh=>cF hh (aJ hh (.one 0) w)) 0 [(up h 18)] fun w=>
 CV x2 [v,w] (up h 18) fun v w=>
 RO (aR 0 v) fun x=>
 RO (cR none 1 x5 (bB x0)) fun y=>
 RP (aW w 1 (aK x) y) fun w x=>
 RO (aR 1 v) fun v=>
 RO (aO .neq .no v (iv 0)) fun w=>
 cB w (rt [x0,x1,x2,x3,x4,x5,.aB,v] x)
 (RO (aO .add .no x0 (iv 1)) fun v=>
 N [v,x1,x2,x3,x4,x5,x6,x7] x))
 (bX e 0 [x0,x1,x2,x3,x4,x5,x6,x7] h)):WC XG 0 XF (pts AU [x0,x1,x2,x3,x4,x5,x6,x7]) h (hC AU N e rt):=
 Eq.mp (by kernel_rfl) s
theorem aNQ(s:RP (bO .sl [a0] h) fun v w=>
 RP (bO .sl [a1] w) fun w x=>
 RO (iP min2 [v,w]) fun v=>
 RP (wH x [.aB] (bB v) (bB v)) fun v w=>
 RP (bO .sl [v] w) fun w x=>
 gL AU XF [(iv 0),w,a2,a0,a1,v,.aB,(iv 0)] x [(0,fun v w=>
 aQ (bD v 5)=true∧aQ (iv 0)=true∧K (.tuple [(bD v 5),(iv 0)]) w)] fun v w=>
 aQ (bD v 6)=true∧aQ (bD v 7)=true∧K (.tuple [(bD v 6),(bD v 7)]) w):C 187 [a0,a1,a2] h K:=
 ent Tryz.func187 (A:=XG) rfl rfl (Eq.mp (by kernel_rfl) s)
theorem e92(s:cA (aK a0) (cA (aK a2) (RO (aJ (nc (nc h a0) a2) (.many 0 5) (.ptr h.aA 0)) fun v=>
 RO (aJ (nc (nc h a0) a2) (.many 0 4) (.ptr (nc h a0).aA 0)) fun w=>
 C 89 [v,a1,w] (nc (nc h a0) a2) fun v w=>
 RO (aO .neq .no v (iv 0)) fun x=>
 cB x (aQ .aB=true∧aQ v=true∧K (.tuple [.aB,v]) w)
 (RO (aJ w (.many 0 5) (.ptr h.aA 0)) fun v=>
 RO (aJ w (.many 0 4) (.ptr (nc h a0).aA 0)) fun x=>
 C 56 [v,x] w fun v w=>
 RO (aR 0 v) fun x=>
 RO (aR 1 v) fun v=>
 RO (aO .neq .no v (iv 0)) fun y=>
 cB y (aQ .aB=true∧aQ v=true∧K (.tuple [.aB,v]) w)
 (C 187 [a1,x,(fn 188)] w fun v w=>
 RO (aR 0 v) fun x=>
 RO (aR 1 v) fun v=>
 aQ x=true∧aQ v=true∧K (.tuple [x,v]) w))))):C 92 [a0,a1,a2] h K:=
 ent Tryz.func92 (A:=cT) rfl rfl (Eq.mp (by kernel_rfl) s)
def IE:List bH:= [aM 32,aM 31,aM 30,aM 10,aM 8]
def aBA:CC:=cQ [1,1,1,1,0,1,0,0] (bL E Tryz.f99).code
def aDK(n:Nat):List bH:=bif Nat.beq n 0 then IE else []
theorem aHZ(s:RO (aO .lss .no x0 x1) fun v=>
 cB v ((fun(j27:aL→Prop)=>
 RO (cR none 1 x2 (bB x0)) fun v=>
 RO (aJ h (.one 0) v) fun v=>
 RO (aO .geq .no v (iv 0)) fun w=>
 gV w true (fun x=>x v h) h fun x y=>
 gV w true (fun z=>z x3 y) y fun y z=>
 Qp w true (bO .sl [y] z) z fun y z=>
 Qr w true (aO .lss .no x y) z fun x y=>
 RO (bJ x (.bool false) w) fun w=>
 cB w (RO (cR none 1 x3 (bB v)) fun v=>
 RP (aW y 1 (aK .aB) v) fun v w=>
 j27 w)
 (j27 y))
 fun v=>
 RO (aO .add .no x0 (iv 1)) fun w=>
 N [w,x1,x2,x3,x4] v)
 (bX e 0 [x0,x1,x2,x3,x4] h)):WC aDK 0 aBA (pts IE [x0,x1,x2,x3,x4]) h (hC IE N e rt):=
 Eq.mp (by kernel_rfl) s
theorem e99(s:cA (aK a0) (cA (aK a2) (RO (aJ (nc (nc h a0) a2) (.many 0 5) (.ptr h.aA 0)) fun v=>
 RO (aJ (nc (nc h a0) a2) (.many 0 4) (.ptr (nc h a0).aA 0)) fun w=>
 C 57 [v,w] (nc (nc h a0) a2) fun v w=>
 RO (aR 0 v) fun x=>
 RO (aR 1 v) fun v=>
 RO (aO .neq .no v (iv 0)) fun y=>
 cB y (aQ .aB=true∧aQ v=true∧K (.tuple [.aB,v]) w)
 (C 44 [a1] w fun v w=>
 RO (aN 2 (.ptr h.aA 0)) fun y=>
 RO (aJ w (.one 0) y) fun y=>
 RO (aN 0 (.ptr (nc h a0).aA 0)) fun z=>
 RO (aJ w (.one 0) z) fun z=>
 RO (cR none 14 y (bB z)) fun y=>
 RO (aN 9 y) fun y=>
 RO (aJ w (.one 0) y) fun y=>
 RP (bO .sl [y] w) fun w z=>
 gL IE aBA [(iv 0),w,y,v,x] z [(0,fun v w=>
 C 187 [(bD v 3),(bD v 4),(fn 38)] w fun v w=>
 RO (aR 0 v) fun x=>
 RO (aR 1 v) fun v=>
 aQ x=true∧aQ v=true∧K (.tuple [x,v]) w)] fun v w=>
 aQ .other=true∧aQ .other=true∧K (.tuple [.other,.other]) w)))):C 99 [a0,a1,a2] h K:=
 ent Tryz.func99 (A:=aDK) rfl rfl (Eq.mp (by kernel_rfl) s)
theorem aNR(s:cA (aK a0) (cA (aK a2) (RO (aJ (nc (nc h a0) a2) (.many 0 5) (.ptr h.aA 0)) fun v=>
 RO (aJ (nc (nc h a0) a2) (.many 0 4) (.ptr (nc h a0).aA 0)) fun w=>
 C 56 [v,w] (nc (nc h a0) a2) fun v w=>
 RO (aR 0 v) fun x=>
 RO (aR 1 v) fun v=>
 RO (aO .neq .no v (iv 0)) fun y=>
 cB y (aQ .aB=true∧aQ v=true∧K (.tuple [.aB,v]) w)
 (C 187 [a1,x,(fn 38)] w fun v w=>
 RO (aR 0 v) fun x=>
 RO (aR 1 v) fun v=>
 aQ x=true∧aQ v=true∧K (.tuple [x,v]) w)))):C 100 [a0,a1,a2] h K:=
 ent Tryz.func100 (A:=cT) rfl rfl (Eq.mp (by kernel_rfl) s)
def IF:List bH:= [aM 23,aM 22,aM 21,aM 12,aM 4,aM 1,aM 2,aM 10,aM 11]
def aBB:CC:=cQ [1,1,1,1,0,1,0,0] (bL E Tryz.f20).code
def aDL(n:Nat):List bH:=bif Nat.beq n 0 then IF else []
theorem aH0(s:RO (aO .lss .no x0 x1) fun v=>
 cB v ((fun(j10:AV→AV→aL→Prop)=>
 RO (cR none 4 x2 (bB x0)) fun v=>
 RO (aJ h (.many 0 4) v) fun v=>
 RP (aW (nw h (.cells [(iv 0),.aB,.aB,.aB])) 4 (aK v) (.ptr h.aA 0)) fun v w=>
 (fun(j15:aL→Prop)=>
 RO (aN 0 (.ptr h.aA 0)) fun v=>
 RO (aJ w (.one 0) v) fun v=>
 RO (fT .int (iv 0) true v (dK w x3)) fun v=>
 RO (aR 0 v) fun x=>
 RO (aR 1 v) fun v=>
 RO (gS .not v) fun v=>
 cB v (cP (fun hh=>cF hh (aJ hh (.many 0 5) x4)) 0 [(up w 9)] fun v=>
 cP (fun hh=>cF hh (aJ hh (.many 0 4) (.ptr h.aA 0))) 0 [(up w 9)] fun x=>
 C 48 [v,x5,x,x6] (up w 9) fun v x=>
 RO (aN 0 (.ptr h.aA 0)) fun y=>
 cP (fun hh=>cF hh (aJ hh (.one 0) y)) 1 [x,(up w 9)] fun y=>
 RP (hU x .int y v x3) fun v x=>
 j15 x)
 (j15 w))
 fun v=>
 RO (aN 0 (.ptr h.aA 0)) fun w=>
 RO (aJ v (.one 0) w) fun w=>
 RO (fT .int (iv 0) false w (dK v x3)) fun w=>
 RO (aO .eql .no w (iv 1)) fun x=>
 cB x (RO (aJ v (.many 0 4) (.ptr h.aA 0)) fun x=>
 RL (bK [(iv 0),.aB,.aB,.aB] [(0,4,x)]) fun l36=>cA l36 (
 RP (cY 4 [x7,(.slice v.aA 0 1 1 0)] (nw v (.cells l36))) fun x y=>
 j10 x x8 y))
 (RO (aO .eql .no w (iv 2)) fun w=>
 cB w (j10 x7 (.bool false) v)
 (j10 x7 x8 v)))
 fun x40 x41 v=>
 RO (aO .add .no x0 (iv 1)) fun w=>
 N [w,x1,x2,x3,x4,x5,x6,x40,x41] v)
 (bX e 0 [x0,x1,x2,x3,x4,x5,x6,x7,x8] h)):WC aDL 0 aBB (pts IF [x0,x1,x2,x3,x4,x5,x6,x7,x8]) h (hC IF N e rt):=
 Eq.mp (by kernel_rfl) s
theorem e20(s:cA (aK a0) (RO (aJ (nw (nc h a0) (.map [] 0)) (.many 0 5) (.ptr h.aA 0)) fun v=>
 C 47 [v,a1,a3] (nw (nc h a0) (.map [] 0)) fun v w=>
 RP (bO .sl [v] w) fun w x=>
 gL IF aBB [(iv 0),w,v,(.map (nc h a0).aA),(.ptr h.aA 0),a1,a2,.aB,(.bool true)] x [(0,fun v w=>
 aQ (bD v 7)=true∧aQ (bD v 8)=true∧K (.tuple [(bD v 7),(bD v 8)]) w)] fun v w=>
 aQ .other=true∧aQ .other=true∧K (.tuple [.other,.other]) w)):C 20 [a0,a1,a2,a3] h K:=
 ent Tryz.func20 (A:=aDL) rfl rfl (Eq.mp (by kernel_rfl) s)
theorem e8(s:cA (aK a0) (cA (aK a1) (RO (aJ (nc (nc h a0) a1) (.many 0 5) (.ptr h.aA 0)) fun v=>
 RO (aN 0 (.ptr (nc h a0).aA 0)) fun w=>
 RO (aJ (nc (nc h a0) a1) (.one 0) w) fun w=>
 C 20 [v,w,(iv 64),a2] (nc (nc h a0) a1) fun v w=>
 RO (aR 0 v) fun x=>
 RO (aR 1 v) fun v=>
 aQ x=true∧K x w))):C 8 [a0,a1,a2] h K:=
 ent Tryz.func8 (A:=cT) rfl rfl (Eq.mp (by kernel_rfl) s)
end
end Ev
