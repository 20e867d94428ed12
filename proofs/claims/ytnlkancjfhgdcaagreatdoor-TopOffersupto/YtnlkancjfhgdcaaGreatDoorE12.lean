/- Proved here: functions of the program, printed as propositions. Conditions: none beyond the hypotheses that each theorem states. -/
import Derived.Test.YtnlkancjfhgdcaaGreatDoorE09
set_option linter.all false
set_option maxRecDepth 100000
open Go Go.Proofs
namespace Ev
noncomputable section
variable{a0 a1 a2 a3 a4 a5 a6 a7 a8 a9 x0 x1 x2 x3 x4 x5 x6 x7 x8 x9 x10 x11 x12 x13 x14 x15 x16 x17 x18 x19 x20:AV}{h:aL}{K:KH}{N:List AV→aL→Prop}{e:Ends}{rt:List AV→aL→Prop}
theorem aM9(s:cA (aK a0) (RO (aJ (nc h a0) (.many 0 3) (.ptr h.aA 0)) fun v=>
 C 240 [v] (nc h a0) fun v w=>
 RO (aO .leq .no v (iv 40)) fun v=>
 Qr v true (aJ w (.many 0 3) (.ptr h.aA 0)) w fun w x=>
 gV v true (fun y=>C 241 [w] x fun w z=>
 y w z) x fun w x=>
 Qr v true (aO .leq .no w (iv 400)) x fun w x=>
 RO (bJ w (.bool false) v) fun v=>
 Qr v true (aJ x (.many 0 3) (.ptr h.aA 0)) x fun w x=>
 gV v true (fun y=>y a1 x) x fun x y=>
 gV v true (fun z=>C 242 [w,x] y fun w x=>
 z w x) y fun w x=>
 RO (bJ w (.bool false) v) fun v=>
 aQ v=true∧K v x)):C 146 [a0,a1] h K:=
 ent Tryz.func146 (A:=cT) rfl rfl (Eq.mp (by kernel_rfl) s)
theorem aNa(s:cA (aK a0) (RO (aJ (nc h a0) (.many 0 3) (.ptr h.aA 0)) fun v=>
 RP (bO .sl [a1] (nc h a0)) fun w x=>
 C 146 [v,w] x fun v w=>
 RO (gS .not v) fun v=>
 cB v (aQ (iv 0)=true∧aQ (iv 1)=true∧K (.tuple [(iv 0),(iv 1)]) w)
 (RO (aJ w (.many 0 3) (.ptr h.aA 0)) fun v=>
 C 306 [a1,v] w fun v w=>
 RO (aR 0 v) fun x=>
 RO (aR 1 v) fun v=>
 aQ x=true∧aQ v=true∧K (.tuple [x,v]) w))):C 202 [a0,a1] h K:=
 ent Tryz.func202 (A:=cT) rfl rfl (Eq.mp (by kernel_rfl) s)
def AJ:List bH:= [aM 9,aM 8,aM 7,aM 3]
def WT:CC:=cQ [1,1,0,1,0,0] (bL E Tryz.f240).code
def WU(n:Nat):List bH:=bif Nat.beq n 0 then AJ else []
theorem aDu(s:RO (aO .lss .no x0 x1) fun v=>
 cB v (RO (cR none 3 x2 (bB x0)) fun v=>
 RO (aJ h (.many 0 3) v) fun v=>
 RP (aW (nw h (.cells [(iv 0),(iv 0),.aB])) 3 (aK v) (.ptr h.aA 0)) fun v w=>
 RO (aJ w (.many 0 3) (.ptr h.aA 0)) fun v=>
 C 240 [v] w fun v w=>
 RO (iP max2 [x3,v]) fun v=>
 RO (aO .add .no x0 (iv 1)) fun x=>
 N [x,x1,x2,v] w)
 (bX e 0 [x0,x1,x2,x3] h)):WC WU 0 WT (pts AJ [x0,x1,x2,x3]) h (hC AJ N e rt):=
 Eq.mp (by kernel_rfl) s
theorem aNb(s:cA (aK a0) (RO (aN 2 (.ptr h.aA 0)) fun v=>
 RO (aJ (nc h a0) (.one 0) v) fun v=>
 RP (bO .sl [v] (nc h a0)) fun w x=>
 gL AJ WT [(iv 0),w,v,(iv 0)] x [(0,fun v w=>
 RO (aO .add .no (bD v 3) (iv 1)) fun v=>
 aQ v=true∧K v w)] fun v w=>
 aQ .other=true∧K .other w)):C 240 [a0] h K:=
 ent Tryz.func240 (A:=WU) rfl rfl (Eq.mp (by kernel_rfl) s)
def AK:List bH:= [aM 9,aM 8,aM 7,aM 3]
def WV:CC:=cQ [1,1,0,1,0,0] (bL E Tryz.f241).code
def WW(n:Nat):List bH:=bif Nat.beq n 0 then AK else []
theorem aDv(s:RO (aO .lss .no x0 x1) fun v=>
 cB v (RO (cR none 3 x2 (bB x0)) fun v=>
 RO (aJ h (.many 0 3) v) fun v=>
 RP (aW (nw h (.cells [(iv 0),(iv 0),.aB])) 3 (aK v) (.ptr h.aA 0)) fun v w=>
 RO (aJ w (.many 0 3) (.ptr h.aA 0)) fun v=>
 C 241 [v] w fun v w=>
 RO (aO .add .no x3 v) fun v=>
 RO (aO .add .no x0 (iv 1)) fun x=>
 N [x,x1,x2,v] w)
 (bX e 0 [x0,x1,x2,x3] h)):WC WW 0 WV (pts AK [x0,x1,x2,x3]) h (hC AK N e rt):=
 Eq.mp (by kernel_rfl) s
theorem aNc(s:cA (aK a0) (RO (aN 2 (.ptr h.aA 0)) fun v=>
 RO (aJ (nc h a0) (.one 0) v) fun v=>
 RP (bO .sl [v] (nc h a0)) fun w x=>
 gL AK WV [(iv 0),w,v,(iv 1)] x [(0,fun v w=>
 aQ (bD v 3)=true∧K (bD v 3) w)] fun v w=>
 aQ .other=true∧K .other w)):C 241 [a0] h K:=
 ent Tryz.func241 (A:=WW) rfl rfl (Eq.mp (by kernel_rfl) s)
theorem aNd(s:cA (aK a0) (cA (aK a1) (RO (aN 0 (.ptr h.aA 0)) fun v=>
 cP (fun hh=>cF hh (aJ hh (.one 0) v)) 0 [(up (nc (nc h a0) a1) 8)] fun v=>
 C 325 [v] (up (nc (nc h a0) a1) 8) fun v w=>
 RO (aN 2 (.ptr h.aA 0)) fun x=>
 cP (fun hh=>cF hh (aJ hh (.one 0) x)) 1 [w,(up (nc (nc h a0) a1) 8)] fun x=>
 RP (bO .sl [x] w) fun w x=>
 RO (aO .neq .no w v) fun v=>
 cB v (aQ (.bool false)=true∧K (.bool false) x)
 (RO (aN 0 (.ptr h.aA 0)) fun v=>
 RO (aJ x (.one 0) v) fun v=>
 RO (aO .eql .no v (iv 2)) fun v=>
 Qr v true (aN 1 (.ptr h.aA 0)) x fun w x=>
 Qr v true (aJ x (.one 0) w) x fun w x=>
 Qr v true (aO .lss .no w (iv 0)) x fun w x=>
 gV v true (fun y=>y w x) x fun w x=>
 Qr w false (aN 1 (.ptr h.aA 0)) x fun x y=>
 Qr w false (aJ y (.one 0) x) y fun x y=>
 Qr w false (aJ y (.one 0) (.ptr (nc h a0).aA 0)) y fun y z=>
 Qr w false (aO .geq .no x y) z fun x y=>
 Qr v true (bJ (.bool true) x w) y fun w x=>
 RO (bJ w (.bool false) v) fun v=>
 cB v (aQ (.bool false)=true∧K (.bool false) x)
 (RO (aN 0 (.ptr h.aA 0)) fun v=>
 RO (aJ x (.one 0) v) fun v=>
 RO (aO .eql .no v (iv 5)) fun v=>
 Qr v true (aN 1 (.ptr h.aA 0)) x fun w x=>
 Qr v true (aJ x (.one 0) w) x fun w x=>
 gV v true (fun y=>C 326 [w] x fun w z=>
 y w z) x fun w x=>
 Qr v true (gS .not w) x fun w x=>
 RO (bJ w (.bool false) v) fun v=>
 cB v (aQ (.bool false)=true∧K (.bool false) x)
 (RO (aN 2 (.ptr h.aA 0)) fun v=>
 RO (aJ x (.one 0) v) fun v=>
 C 327 [v,(.func (.func 328) [] [(.ptr (nc h a0).aA 0)])] x fun v w=>
 RO (gS .not v) fun v=>
 aQ v=true∧K v w)))))):C 242 [a0,a1] h K:=
 ent Tryz.func242 (A:=cT) rfl rfl (Eq.mp (by kernel_rfl) s)
theorem aNe(s:cA (aK a1) (RO (aN 0 (.ptr h.aA 0)) fun v=>
 cP (fun hh=>cF hh (aJ hh (.one 0) v)) 0 [(up (nc h a1) 10)] fun v=>
 C 375 [a0,v] (up (nc h a1) 10) fun v w=>
 cP (fun hh=>cF hh (aJ hh (.many 0 3) (.ptr h.aA 0))) 1 [w,(up (nc h a1) 10)] fun x=>
 CV v [x] w fun v w=>
 RO (aR 0 v) fun x=>
 RO (aR 1 v) fun v=>
 aQ x=true∧aQ v=true∧K (.tuple [x,v]) w)):C 306 [a0,a1] h K:=
 ent Tryz.func306 (A:=cT) rfl rfl (Eq.mp (by kernel_rfl) s)
theorem aNf(s:(fun(j0:AV→aL→Prop)=>
 RO (aO .eql .no a0 (iv 1)) fun v=>
 cB v (j0 v h)
 (RO (aO .eql .no a0 (iv 2)) fun v=>
 j0 v h))
 fun x3 v=>
 cB x3 (aQ (iv 0)=true∧K (iv 0) v)
 ((fun(j5:AV→aL→Prop)=>
 RO (aO .eql .no a0 (iv 3)) fun w=>
 cB w (j5 w v)
 (RO (aO .eql .no a0 (iv 4)) fun w=>
 j5 w v))
 fun x8 v=>
 cB x8 (aQ (iv 1)=true∧K (iv 1) v)
 (RO (aO .eql .no a0 (iv 5)) fun w=>
 cB w (aQ (iv 2)=true∧K (iv 2) v)
 (RO (aO .eql .no a0 (iv 6)) fun w=>
 cB w (aQ (iv 3)=true∧K (iv 3) v)
 (aQ (iv (-1))=true∧K (iv (-1)) v))))):C 325 [a0] h K:=
 ent Tryz.func325 (A:=cT) rfl rfl (Eq.mp (by kernel_rfl) s)
theorem aNg(s:C 391 [a0,a1] h fun v w=>
 RO (aO .geq .no v (iv 0)) fun v=>
 aQ v=true∧K v w):C 327 [a0,a1] h K:=
 ent Tryz.func327 (A:=cT) rfl rfl (Eq.mp (by kernel_rfl) s)
theorem aNh(s:cA (aK a0) (RO (aJ (nc h a0) (.many 0 3) (.ptr h.aA 0)) fun v=>
 RO (aJ (nc h a0) (.one 0) a1) fun w=>
 C 242 [v,w] (nc h a0) fun v w=>
 RO (gS .not v) fun v=>
 aQ v=true∧K v w)):C 328 [a0,a1] h K:=
 ent Tryz.func328 (A:=cT) rfl rfl (Eq.mp (by kernel_rfl) s)
theorem aNi(s:RO (aO .eql .no a1 (iv 1)) fun v=>
 cB v (aQ (.func (.func 429) [a0] [])=true∧K (.func (.func 429) [a0] []) h)
 (RO (aO .eql .no a1 (iv 2)) fun v=>
 cB v (aQ (.func (.func 430) [a0] [])=true∧K (.func (.func 430) [a0] []) h)
 ((fun(j2:AV→aL→Prop)=>
 RO (aO .eql .no a1 (iv 3)) fun v=>
 cB v (j2 v h)
 (RO (aO .eql .no a1 (iv 4)) fun v=>
 j2 v h))
 fun x5 v=>
 cB x5 (aQ (.func (.func 431) [a0] [])=true∧K (.func (.func 431) [a0] []) v)
 (RO (aO .eql .no a1 (iv 5)) fun w=>
 cB w (aQ (.func (.func 432) [a0] [])=true∧K (.func (.func 432) [a0] []) v)
 (aQ (.func (.func 433) [a0] [])=true∧K (.func (.func 433) [a0] []) v))))):C 375 [a0,a1] h K:=
 ent Tryz.func375 (A:=cT) rfl rfl (Eq.mp (by kernel_rfl) s)
def AL:List bH:= [aM 8,aM 7,aM 1,aM 0,aM 4]
def WX:CC:=cQ [1,0,1,0,0] (bL E Tryz.f391).code
def WY(n:Nat):List bH:=bif Nat.beq n 0 then AL else []
theorem aDw(s:RO (aO .lss .no x0 x1) fun v=>
 cB v (RO (cR none 3 x3 (bB x0)) fun v=>
 RO (aJ h (.many 0 3) v) fun v=>
 CV x2 [v] h fun v w=>
 cB v (rt [x0,x1,x2,x3,x0] w)
 (RO (aO .add .no x0 (iv 1)) fun v=>
 N [v,x1,x2,x3,x4] w))
 (bX e 0 [x0,x1,x2,x3,x4] h)):WC WY 0 WX (pts AL [x0,x1,x2,x3,x4]) h (hC AL N e rt):=
 Eq.mp (by kernel_rfl) s
theorem aNj(s:RP (bO .sl [a0] h) fun v w=>
 gL AL WX [(iv 0),v,a1,a0,(iv 0)] w [(0,fun v w=>
 aQ (iv (-1))=true∧K (iv (-1)) w)] fun v w=>
 aQ (bD v 4)=true∧K (bD v 4) w):C 391 [a0,a1] h K:=
 ent Tryz.func391 (A:=WY) rfl rfl (Eq.mp (by kernel_rfl) s)
theorem aNk(s:cA (aK a1) (RO (aN 1 (.ptr h.aA 0)) fun v=>
 RO (aJ (nc h a1) (.one 0) v) fun v=>
 aQ v=true∧aQ (iv 0)=true∧K (.tuple [v,(iv 0)]) (nc h a1))):C 429 [a0,a1] h K:=
 ent Tryz.func429 (A:=cT) rfl rfl (Eq.mp (by kernel_rfl) s)
theorem aNl(s:cA (aK a1) (RO (aN 1 (.ptr h.aA 0)) fun v=>
 RO (aJ (nc h a1) (.one 0) v) fun v=>
 RO (cR none 1 a0 (bB v)) fun v=>
 RO (aJ (nc h a1) (.one 0) v) fun v=>
 aQ v=true∧aQ (iv 0)=true∧K (.tuple [v,(iv 0)]) (nc h a1))):C 430 [a0,a1] h K:=
 ent Tryz.func430 (A:=cT) rfl rfl (Eq.mp (by kernel_rfl) s)
theorem aNm(s:cA (aK a1) (RO (aN 2 (.ptr h.aA 0)) fun v=>
 RO (aJ (nc h a1) (.one 0) v) fun v=>
 RO (cR none 3 v (bB (iv 0))) fun v=>
 RO (aJ (nc h a1) (.many 0 3) v) fun v=>
 C 306 [a0,v] (nc h a1) fun v w=>
 RO (aR 0 v) fun x=>
 RO (aR 1 v) fun v=>
 RO (aO .neq .no v (iv 0)) fun y=>
 cB y (aQ (iv 0)=true∧aQ v=true∧K (.tuple [(iv 0),v]) w)
 (RO (aN 0 (.ptr h.aA 0)) fun v=>
 RO (aJ w (.one 0) v) fun v=>
 RO (aO .eql .no v (iv 3)) fun v=>
 cB v (C 456 [x] w fun v y=>
 RO (aR 0 v) fun z=>
 RO (aR 1 v) fun v=>
 aQ z=true∧aQ v=true∧K (.tuple [z,v]) y)
 (C 457 [(iv 6),x,(iv 0)] w fun v w=>
 RO (aR 0 v) fun x=>
 RO (aR 1 v) fun v=>
 aQ x=true∧aQ v=true∧K (.tuple [x,v]) w)))):C 431 [a0,a1] h K:=
 ent Tryz.func431 (A:=cT) rfl rfl (Eq.mp (by kernel_rfl) s)
theorem aNn(s:cA (aK a1) (RO (aN 2 (.ptr h.aA 0)) fun v=>
 RO (aJ (nc h a1) (.one 0) v) fun v=>
 RO (cR none 3 v (bB (iv 0))) fun v=>
 RO (aJ (nc h a1) (.many 0 3) v) fun v=>
 C 306 [a0,v] (nc h a1) fun v w=>
 RO (aR 0 v) fun x=>
 RO (aR 1 v) fun v=>
 RO (aO .neq .no v (iv 0)) fun y=>
 cB y (aQ (iv 0)=true∧aQ v=true∧K (.tuple [(iv 0),v]) w)
 ((fun(j9:AV→aL→Prop)=>
 RO (aN 1 (.ptr h.aA 0)) fun v=>
 RO (aJ w (.one 0) v) fun v=>
 RO (aO .eql .no v (iv 10)) fun v=>
 gV v true (fun y=>y x w) w fun w y=>
 Qr v true (aO .eql .no w (iv 0)) y fun w y=>
 RO (bJ w (.bool false) v) fun v=>
 cB v (j9 v y)
 (RO (aN 1 (.ptr h.aA 0)) fun v=>
 RO (aJ y (.one 0) v) fun v=>
 RO (aO .eql .no v (iv 11)) fun v=>
 gV v true (fun w=>w x y) y fun w y=>
 Qr v true (aO .neq .no w (iv 0)) y fun w y=>
 RO (bJ w (.bool false) v) fun v=>
 j9 v y))
 fun x32 v=>
 cB x32 (C 457 [(iv 7),x,(iv 0)] v fun w y=>
 RO (aR 0 w) fun z=>
 RO (aR 1 w) fun w=>
 aQ z=true∧aQ w=true∧K (.tuple [z,w]) y)
 (RO (aN 2 (.ptr h.aA 0)) fun w=>
 RO (aJ v (.one 0) w) fun w=>
 RO (cR none 3 w (bB (iv 1))) fun w=>
 RO (aJ v (.many 0 3) w) fun w=>
 C 306 [a0,w] v fun v w=>
 RO (aR 0 v) fun y=>
 RO (aR 1 v) fun v=>
 RO (aO .neq .no v (iv 0)) fun z=>
 cB z (aQ (iv 0)=true∧aQ v=true∧K (.tuple [(iv 0),v]) w)
 (RO (aN 1 (.ptr h.aA 0)) fun v=>
 RO (aJ w (.one 0) v) fun v=>
 C 457 [v,x,y] w fun v w=>
 RO (aR 0 v) fun x=>
 RO (aR 1 v) fun v=>
 aQ x=true∧aQ v=true∧K (.tuple [x,v]) w))))):C 432 [a0,a1] h K:=
 ent Tryz.func432 (A:=cT) rfl rfl (Eq.mp (by kernel_rfl) s)
theorem aNo(s:cA (aK a1) (RO (aN 2 (.ptr h.aA 0)) fun v=>
 RO (aJ (nc h a1) (.one 0) v) fun v=>
 RO (cR none 3 v (bB (iv 0))) fun v=>
 RO (aJ (nc h a1) (.many 0 3) v) fun v=>
 C 306 [a0,v] (nc h a1) fun v w=>
 RO (aR 0 v) fun x=>
 RO (aR 1 v) fun v=>
 RO (aO .neq .no v (iv 0)) fun y=>
 cB y (aQ (iv 0)=true∧aQ v=true∧K (.tuple [(iv 0),v]) w)
 (RO (aO .neq .no x (iv 0)) fun v=>
 cB v (RO (aN 2 (.ptr h.aA 0)) fun v=>
 RO (aJ w (.one 0) v) fun v=>
 RO (cR none 3 v (bB (iv 1))) fun v=>
 RO (aJ w (.many 0 3) v) fun v=>
 C 306 [a0,v] w fun v x=>
 RO (aR 0 v) fun y=>
 RO (aR 1 v) fun v=>
 aQ y=true∧aQ v=true∧K (.tuple [y,v]) x)
 (RO (aN 2 (.ptr h.aA 0)) fun v=>
 RO (aJ w (.one 0) v) fun v=>
 RO (cR none 3 v (bB (iv 2))) fun v=>
 RO (aJ w (.many 0 3) v) fun v=>
 C 306 [a0,v] w fun v w=>
 RO (aR 0 v) fun x=>
 RO (aR 1 v) fun v=>
 aQ x=true∧aQ v=true∧K (.tuple [x,v]) w)))):C 433 [a0,a1] h K:=
 ent Tryz.func433 (A:=cT) rfl rfl (Eq.mp (by kernel_rfl) s)
end
end Ev
