/- Proved here: functions of the program, printed as propositions. Conditions: none beyond the hypotheses that each theorem states. -/
import Derived.Test.YtnlkancjfhgdcaaGreatDoorE09
set_option linter.all false
set_option maxRecDepth 100000
open Go Go.Proofs
set_option maxHeartbeats 1000000
namespace Ev
noncomputable section
variable{a0 a1 a2 a3 a4 a5 a6 a7 a8 a9 x0 x1 x2 x3 x4 x5 x6 x7 x8 x9 x10 x11 x12 x13 x14 x15 x16 x17 x18 x19 x20:AV}{h:aL}{K:KH}{N:List AV→aL→Prop}{e:Ends}{rt:List AV→aL→Prop}
def AW:List bH:= [aM 0,aM 4,aM 2,aM 1]
def XH:CC:=cQ [1,0,0] (bL E Tryz.f287).code
def AX:List bH:= [aM 5,aM 2,aM 1,aM 4,aM 0]
def XI:CC:=cQ [1,0,0,0,1,1,0,0,0] (bL E Tryz.f287).code
def L8(n:Nat):List bH:=bif Nat.beq n 0 then AW else bif Nat.beq n 2 then AX else []
theorem aDM(s:C 46 [x1] h fun v w=>
 CV x0 [v] w fun v w=>
 RO (gS .not v) fun v=>
 cB v (rt [x0,x1,x2,x3] w)
 (RP (bO .sl [x1] w) fun v w=>
 RO (aO .sub .no v (iv 1)) fun v=>
 gL AX XI [v,x2,x3,x1,x0] w [(2,fun v w=>
 RO (aO .lss .no (bD v 0) (iv 0)) fun x=>
 cB x (rt [(bD v 4),(bD v 3),(bD v 1),(bD v 2)] w)
 (RO (cR none 1 (bD v 3) (bB (bD v 0))) fun x=>
 RO (aJ w (.one 0) x) fun x=>
 RO (aO .add .no x (iv 1)) fun x=>
 RO (cR none 1 (bD v 3) (bB (bD v 0))) fun y=>
 RP (aW w 1 (aK x) y) fun w x=>
 N [(bD v 4),(bD v 3),(bD v 1),(bD v 2)] x))] fun v w=>
 rt [(bD v 4),(bD v 3),(bD v 1),(bD v 2)] w)):WC L8 0 XH (pts AW [x0,x1,x2,x3]) h (hC AW N e rt):=
 Eq.mp (by kernel_rfl) s
theorem aDN(s:RO (aO .geq .no x0 (iv 0)) fun v=>
 Qr v true (aN 0 x1) (up h 19) fun w x=>
 gV v true (fun y=>cP (fun hh=>cF hh (aJ hh (.one 0) w)) 0 [(up h 19)] fun w=>
 y w x) x fun w x=>
 Qr v true (aN 1 x2) x fun x y=>
 gV v true (fun z=>cP (fun hh=>cF hh (aJ hh (.one 0) x)) 0 [(up h 19)] fun x=>
 z x y) y fun x y=>
 gV v true (fun z=>z x0 y) y fun y z=>
 Qr v true (cR none 2 x (bB y)) z fun x y=>
 Qr v true (aN 1 x) y fun x y=>
 gV v true (fun z=>cP (fun hh=>cF hh (aJ hh (.one 0) x)) 0 [(up h 19)] fun x=>
 z x y) y fun x y=>
 gV v true (fun z=>C 84 [w,x] y fun w x=>
 z w x) y fun w x=>
 gV v true (fun y=>y x3 x) x fun y z=>
 gV v true (fun u=>u x0 z) z fun z u=>
 Qr v true (cR none 1 y (bB z)) u fun y z=>
 gV v true (fun u=>cP (fun hh=>cF hh (aJ hh (.one 0) y)) 1 [x,(up h 19)] fun x=>
 u x z) z fun x y=>
 Qr v true (aO .add .no x (iv 1)) y fun x y=>
 Qr v true (aO .geq .no x w) y fun w x=>
 RO (bJ w (.bool false) v) fun v=>
 cB v (RO (cR none 1 x3 (bB x0)) fun v=>
 RP (aW x 1 (aK (iv 0)) v) fun v w=>
 RO (aO .sub .no x0 (iv 1)) fun v=>
 N [v,x1,x2,x3,x4] w)
 (bX e 2 [x0,x1,x2,x3,x4] x)):WC L8 2 XI (pts AX [x0,x1,x2,x3,x4]) h (hC AX N e rt):=
 Eq.mp (by kernel_rfl) s
theorem aNT(s:RO (aN 1 a1) fun v=>
 RO (aJ h (.one 0) v) fun v=>
 RP (bO .sl [v] h) fun v w=>
 RP (wH w [(iv 0)] (bB v) (bB v)) fun v w=>
 gL AW XH [a0,v,a2,a1] w [] fun v w=>
 K (.tuple []) w):C 287 [a0,a1,a2] h K:=
 ent Tryz.func287 (A:=L8) rfl rfl (Eq.mp (by kernel_rfl) s)
end
end Ev
