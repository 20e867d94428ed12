/- Proved here: functions of the program, printed as propositions. Conditions: none beyond the hypotheses that each theorem states. -/
import Derived.Test.YtnlkancjfhgdcaaGreatDoorE09
set_option linter.all false
set_option maxRecDepth 100000
open Go Go.Proofs
namespace Ev
noncomputable section
variable{a0 a1 a2 a3 a4 a5 a6 a7 a8 a9 x0 x1 x2 x3 x4 x5 x6 x7 x8 x9 x10 x11 x12 x13 x14 x15 x16 x17 x18 x19 x20:AV}{h:aL}{K:KH}{N:List AV→aL→Prop}{e:Ends}{rt:List AV→aL→Prop}
def IR:List bH:= [aM 7,aM 6,aM 5,aM 2]
def aBG:CC:=cQ [1,0,1,0,0] (bL E Tryz.f60).code
def aEf(n:Nat):List bH:=bif Nat.beq n 0 then IR else []
theorem aIq(s:RO (aO .lss .no x0 x1) fun v=>
 cB v (RO (cR none 2 x2 (bB x0)) fun v=>
 RO (aJ h (.many 0 2) v) fun v=>
 RP (aW (nw h (.cells [.nilf,(iv 0)])) 2 (aK v) (.ptr h.aA 0)) fun v w=>
 RO (aN 0 (.ptr h.aA 0)) fun v=>
 RO (aJ w (.one 0) v) fun v=>
 CV v [] w fun v w=>
 RO (gS .not v) fun v=>
 cB v (RO (aN 1 (.ptr h.aA 0)) fun v=>
 RO (aJ w (.one 0) v) fun v=>
 rt [x0,x1,x2,v] w)
 (RO (aO .add .no x0 (iv 1)) fun v=>
 N [v,x1,x2,x3] w))
 (bX e 0 [x0,x1,x2,x3] h)):WC aEf 0 aBG (pts IR [x0,x1,x2,x3]) h (hC IR N e rt):=
 Eq.mp (by kernel_rfl) s
theorem e60(s:RP (bO .sl [a0] h) fun v w=>
 gL IR aBG [(iv 0),v,a0,(iv 0)] w [(0,fun v w=>
 aQ (iv 0)=true∧K (iv 0) w)] fun v w=>
 aQ (bD v 3)=true∧K (bD v 3) w):C 60 [a0] h K:=
 ent Tryz.func60 (A:=aEf) rfl rfl (Eq.mp (by kernel_rfl) s)
theorem e61(s:RO (aN 1 a0) fun v=>
 RO (aJ h (.one 0) v) fun v=>
 RP (bO .sl [v] h) fun v w=>
 RO (aO .leq .no v (iv 64)) fun v=>
 Qr v true (aN 2 a0) w fun w x=>
 Qr v true (aJ x (.one 0) w) x fun w x=>
 Qp v true (bO .sl [w] x) x fun w x=>
 Qr v true (aO .leq .no w (iv 64)) x fun w x=>
 RO (bJ w (.bool false) v) fun v=>
 aQ v=true∧K v x):C 61 [a0] h K:=
 ent Tryz.func61 (A:=cT) rfl rfl (Eq.mp (by kernel_rfl) s)
theorem e62(s:RO (aN 1 a0) fun v=>
 RO (aJ h (.one 0) v) fun v=>
 RO (aN 3 a0) fun w=>
 RO (aJ h (.one 0) w) fun w=>
 C 63 [v,w] h fun v w=>
 Qr v true (aN 1 a0) w fun w x=>
 Qr v true (aJ x (.one 0) w) x fun w x=>
 Qr v true (aN 4 a0) x fun x y=>
 Qr v true (aJ y (.one 0) x) y fun x y=>
 gV v true (fun z=>C 63 [w,x] y fun w x=>
 z w x) y fun w x=>
 RO (bJ w (.bool false) v) fun v=>
 aQ v=true∧K v x):C 62 [a0] h K:=
 ent Tryz.func62 (A:=cT) rfl rfl (Eq.mp (by kernel_rfl) s)
theorem e63(s:RO (aO .geq .no a1 (iv 0)) fun v=>
 gV v true (fun w=>w a1 h) h fun w x=>
 gV v true (fun y=>y a0 x) x fun x y=>
 Qp v true (bO .sl [x] y) y fun x y=>
 Qr v true (aO .lss .no w x) y fun w x=>
 RO (bJ w (.bool false) v) fun v=>
 aQ v=true∧K v x):C 63 [a0,a1] h K:=
 ent Tryz.func63 (A:=cT) rfl rfl (Eq.mp (by kernel_rfl) s)
theorem e64(s:RO (aN 3 a0) fun v=>
 RO (aJ h (.one 0) v) fun v=>
 RO (aN 4 a0) fun w=>
 RO (aJ h (.one 0) w) fun w=>
 RO (aO .neq .no v w) fun v=>
 aQ v=true∧K v h):C 64 [a0] h K:=
 ent Tryz.func64 (A:=cT) rfl rfl (Eq.mp (by kernel_rfl) s)
theorem e65(s:cA (aK a0) (RO (aN 0 (.ptr h.aA 0)) fun v=>
 RO (aJ (nc h a0) (.one 0) v) fun v=>
 C 118 [v,(.func (.func 119) [] [(.ptr h.aA 0)])] (nc h a0) fun v w=>
 RO (aR 0 v) fun x=>
 RO (aR 1 v) fun v=>
 aQ x=true∧aQ v=true∧K (.tuple [x,v]) w)):C 65 [a0] h K:=
 ent Tryz.func65 (A:=cT) rfl rfl (Eq.mp (by kernel_rfl) s)
def IS:List bH:= [aM 11,aM 10,aM 9,aM 1,aM 4,aM 5]
def aBH:CC:=cQ [1,0,1,0,0] (bL E Tryz.f66).code
def aEg(n:Nat):List bH:=bif Nat.beq n 0 then IS else []
theorem aIr(s:RO (aO .lss .no x0 x1) fun v=>
 cB v (RO (cR none 3 x2 (bB x0)) fun v=>
 RO (aJ h (.many 0 3) v) fun v=>
 RP (aW (nw h (.cells [(.str []),(iv 0),.aB])) 3 (aK v) (.ptr h.aA 0)) fun v w=>
 RO (aJ w (.many 0 3) (.ptr h.aA 0)) fun v=>
 CV x3 [x0,v] w fun v w=>
 RO (aO .neq .no v (iv 0)) fun x=>
 cB x (rt [x0,x1,x2,x3,x0,v] w)
 (RO (aO .add .no x0 (iv 1)) fun v=>
 N [v,x1,x2,x3,x4,x5] w))
 (bX e 0 [x0,x1,x2,x3,x4,x5] h)):WC aEg 0 aBH (pts IS [x0,x1,x2,x3,x4,x5]) h (hC IS N e rt):=
 Eq.mp (by kernel_rfl) s
theorem e66(s:RP (bO .sl [a0] h) fun v w=>
 gL IS aBH [(iv 0),v,a0,a1,(iv 0),(iv 0)] w [(0,fun v w=>
 aQ (iv 0)=true∧aQ (iv 0)=true∧K (.tuple [(iv 0),(iv 0)]) w)] fun v w=>
 aQ (bD v 4)=true∧aQ (bD v 5)=true∧K (.tuple [(bD v 4),(bD v 5)]) w):C 66 [a0,a1] h K:=
 ent Tryz.func66 (A:=aEg) rfl rfl (Eq.mp (by kernel_rfl) s)
theorem e67(s:cA (aK a1) (RO (aJ (nc h a1) (.many 0 5) a2) fun v=>
 C 68 [v,a0] (nc h a1) fun v w=>
 aQ v=true∧K v w)):C 67 [a0,a1,a2] h K:=
 ent Tryz.func67 (A:=cT) rfl rfl (Eq.mp (by kernel_rfl) s)
theorem e68(s:cA (aK a0) (cA (aK a1) (RO (aN 1 (.ptr h.aA 0)) fun v=>
 RO (aJ (nc (nc h a0) a1) (.one 0) v) fun v=>
 RO (aJ (nc (nc h a0) a1) (.one 0) (.ptr (nc h a0).aA 0)) fun w=>
 C 63 [v,w] (nc (nc h a0) a1) fun v w=>
 RO (gS .not v) fun v=>
 cB v (aQ (iv 3)=true∧K (iv 3) w)
 (RO (aN 1 (.ptr h.aA 0)) fun v=>
 RO (aJ w (.one 0) v) fun v=>
 RO (aJ w (.one 0) (.ptr (nc h a0).aA 0)) fun x=>
 RO (cR none 3 v (bB x)) fun v=>
 RO (aJ w (.many 0 3) v) fun v=>
 RP (aW (nw w (.cells [(.str []),(iv 0),.aB])) 3 (aK v) (.ptr w.aA 0)) fun v x=>
 RP (aW (nw x (.cells [.nilf])) 1 (aK (.func (.func 126) [] [(.ptr w.aA 0)])) (.ptr x.aA 0)) fun v y=>
 RL (bK [.nilf,(iv 0)] [(0,1,(.func (.func 127) [] [(.ptr w.aA 0)])),(1,1,(iv 1))]) fun l15=>cA l15 (
 RL (bK [.nilf,(iv 0)] [(0,1,(.func (.func 128) [] [(.ptr h.aA 0),(.ptr (nc h a0).aA 0),(.ptr x.aA 0)])),(1,1,(iv 5))]) fun l16=>cA l16 (
 RL (bK [.nilf,(iv 0)] [(0,1,(.func (.func 130) [] [(.ptr h.aA 0),(.ptr w.aA 0)])),(1,1,(iv 3))]) fun l17=>cA l17 (
 RL (bK [.nilf,(iv 0)] [(0,1,(.func (.func 132) [] [(.ptr w.aA 0)])),(1,1,(iv 1))]) fun l18=>cA l18 (
 RL (bK [.nilf,(iv 0)] [(0,1,(.func (.func 133) [] [(.ptr h.aA 0),(.ptr w.aA 0)])),(1,1,(iv 8))]) fun l19=>cA l19 (
 RL (bK [.nilf,(iv 0),.nilf,(iv 0),.nilf,(iv 0),.nilf,(iv 0),.nilf,(iv 0)] [(0,2,(.agg l15)),(2,2,(.agg l16)),(4,2,(.agg l17)),(6,2,(.agg l18)),(8,2,(.agg l19))]) fun l20=>cA l20 (
 C 60 [(.slice y.aA 0 5 5 0)] (nw y (.cells l20)) fun v w=>
 aQ v=true∧K v w)))))))))):C 68 [a0,a1] h K:=
 ent Tryz.func68 (A:=cT) rfl rfl (Eq.mp (by kernel_rfl) s)
def IT:List bH:= [aM 11,aM 10,aM 9,aM 1,aM 4,aM 5]
def aBI:CC:=cQ [1,0,1,0,0] (bL E Tryz.f69).code
def aEh(n:Nat):List bH:=bif Nat.beq n 0 then IT else []
theorem aIs(s:RO (aO .lss .no x0 x1) fun v=>
 cB v (RO (cR none 14 x2 (bB x0)) fun v=>
 RO (aJ h (.many 0 14) v) fun v=>
 RP (aW (nw h (.cells [(.str []),.aB,(iv 0),(iv 0),.aB,(iv 0),(iv 0),.aB,.aB,.aB,(iv 0),(iv 0),(iv 0),(iv 0)])) 14 (aK v) (.ptr h.aA 0)) fun v w=>
 RO (aJ w (.many 0 14) (.ptr h.aA 0)) fun v=>
 CV x3 [x0,v] w fun v w=>
 RO (aO .neq .no v (iv 0)) fun x=>
 cB x (rt [x0,x1,x2,x3,x0,v] w)
 (RO (aO .add .no x0 (iv 1)) fun v=>
 N [v,x1,x2,x3,x4,x5] w))
 (bX e 0 [x0,x1,x2,x3,x4,x5] h)):WC aEh 0 aBI (pts IT [x0,x1,x2,x3,x4,x5]) h (hC IT N e rt):=
 Eq.mp (by kernel_rfl) s
theorem e69(s:RP (bO .sl [a0] h) fun v w=>
 gL IT aBI [(iv 0),v,a0,a1,(iv 0),(iv 0)] w [(0,fun v w=>
 aQ (iv 0)=true∧aQ (iv 0)=true∧K (.tuple [(iv 0),(iv 0)]) w)] fun v w=>
 aQ (bD v 4)=true∧aQ (bD v 5)=true∧K (.tuple [(bD v 4),(bD v 5)]) w):C 69 [a0,a1] h K:=
 ent Tryz.func69 (A:=aEh) rfl rfl (Eq.mp (by kernel_rfl) s)
theorem e70(s:cA (aK a1) (RO (aJ (nc h a1) (.many 0 5) a2) fun v=>
 C 71 [v,a0] (nc h a1) fun v w=>
 aQ v=true∧K v w)):C 70 [a0,a1,a2] h K:=
 ent Tryz.func70 (A:=cT) rfl rfl (Eq.mp (by kernel_rfl) s)
def A3:List bH:= [aM 11,aM 10,aM 9,aM 1,aM 4,aM 5]
def X1:CC:=cQ [1,0,1,0,0] (bL E Tryz.f118).code
def X2(n:Nat):List bH:=bif Nat.beq n 0 then A3 else []
theorem aEi(s:RO (aO .lss .no x0 x1) fun v=>
 cB v (RO (cR none 7 x2 (bB x0)) fun v=>
 RO (aJ h (.many 0 7) v) fun v=>
 RP (aW (nw h (.cells [(.str []),(iv 0),(iv 0),(iv 0),.aB,(iv 0),(iv 0)])) 7 (aK v) (.ptr h.aA 0)) fun v w=>
 RO (aJ w (.many 0 7) (.ptr h.aA 0)) fun v=>
 CV x3 [x0,v] w fun v w=>
 RO (aO .neq .no v (iv 0)) fun x=>
 cB x (rt [x0,x1,x2,x3,x0,v] w)
 (RO (aO .add .no x0 (iv 1)) fun v=>
 N [v,x1,x2,x3,x4,x5] w))
 (bX e 0 [x0,x1,x2,x3,x4,x5] h)):WC X2 0 X1 (pts A3 [x0,x1,x2,x3,x4,x5]) h (hC A3 N e rt):=
 Eq.mp (by kernel_rfl) s
theorem aOJ(s:RP (bO .sl [a0] h) fun v w=>
 gL A3 X1 [(iv 0),v,a0,a1,(iv 0),(iv 0)] w [(0,fun v w=>
 aQ (iv 0)=true∧aQ (iv 0)=true∧K (.tuple [(iv 0),(iv 0)]) w)] fun v w=>
 aQ (bD v 4)=true∧aQ (bD v 5)=true∧K (.tuple [(bD v 4),(bD v 5)]) w):C 118 [a0,a1] h K:=
 ent Tryz.func118 (A:=X2) rfl rfl (Eq.mp (by kernel_rfl) s)
theorem aOK(s:cA (aK a0) (cA (aK a1) (RL (bK [.nilf,(iv 0)] [(0,1,(.func (.func 124) [] [a2,(.ptr h.aA 0)])),(1,1,(iv 8))]) fun l0=>cA l0 (
 RL (bK [.nilf,(iv 0)] [(0,1,(.func (.func 120) [] [(.ptr (nc h a0).aA 0)])),(1,1,(iv 8))]) fun l1=>cA l1 (
 RL (bK [.nilf,(iv 0),.nilf,(iv 0)] [(0,2,(.agg l0)),(2,2,(.agg l1))]) fun l2=>cA l2 (
 C 60 [(.slice (nc (nc h a0) a1).aA 0 2 2 0)] (nw (nc (nc h a0) a1) (.cells l2)) fun v w=>
 aQ v=true∧K v w)))))):C 119 [a0,a1,a2] h K:=
 ent Tryz.func119 (A:=cT) rfl rfl (Eq.mp (by kernel_rfl) s)
theorem aOL(s:RO (aN 0 a0) fun v=>
 RO (aJ h (.one 0) v) fun v=>
 C 121 [v] h fun v w=>
 Qr v true (aN 1 a0) w fun w x=>
 Qr v true (aJ x (.one 0) w) x fun w x=>
 Qr v true (aO .neq .no w (iv 2)) x fun w x=>
 gV v true (fun y=>y w x) x fun w x=>
 Qr w false (aN 4 a0) x fun x y=>
 Qr w false (aJ y (.one 0) x) y fun x y=>
 gV w false (fun z=>C 122 [x,(fn 123)] y fun x u=>
 z x u) y fun x y=>
 Qr w false (gS .not x) y fun x y=>
 Qr v true (bJ (.bool true) x w) y fun w x=>
 RO (bJ w (.bool false) v) fun v=>
 aQ v=true∧K v x):C 120 [a0] h K:=
 ent Tryz.func120 (A:=cT) rfl rfl (Eq.mp (by kernel_rfl) s)
theorem aOM(s:C 226 [a0] h fun v w=>
 gV v true (fun x=>x a0 w) w fun w x=>
 gV v true (fun y=>C 227 [w] x fun w z=>
 y w z) x fun w x=>
 Qr v true (gS .not w) x fun w x=>
 RO (bJ w (.bool false) v) fun v=>
 aQ v=true∧K v x):C 121 [a0] h K:=
 ent Tryz.func121 (A:=cT) rfl rfl (Eq.mp (by kernel_rfl) s)
theorem aON(s:C 228 [a0,a1] h fun v w=>
 RO (aO .geq .no v (iv 0)) fun v=>
 aQ v=true∧K v w):C 122 [a0,a1] h K:=
 ent Tryz.func122 (A:=cT) rfl rfl (Eq.mp (by kernel_rfl) s)
theorem aOO(s:C 121 [a0] h fun v w=>
 RO (gS .not v) fun v=>
 aQ v=true∧K v w):C 123 [a0] h K:=
 ent Tryz.func123 (A:=cT) rfl rfl (Eq.mp (by kernel_rfl) s)
theorem aOP(s:RO (aN 0 a0) fun v=>
 RO (aJ h (.one 0) v) fun v=>
 RO (aJ h (.one 0) a1) fun w=>
 RO (aO .add .no w (iv 1)) fun w=>
 RO (iQ none (some w) none v (.sl 7)) fun v=>
 C 125 [v] h fun v w=>
 aQ v=true∧K v w):C 124 [a0,a1] h K:=
 ent Tryz.func124 (A:=cT) rfl rfl (Eq.mp (by kernel_rfl) s)
theorem aOQ(s:cA (aK a0) (RO (aN 0 (.ptr h.aA 0)) fun v=>
 RO (aJ (nc h a0) (.one 0) v) fun v=>
 RO (aN 0 a1) fun w=>
 RO (aJ (nc h a0) (.one 0) w) fun w=>
 RO (aO .eql .no v w) fun v=>
 aQ v=true∧K v (nc h a0))):C 126 [a0,a1] h K:=
 ent Tryz.func126 (A:=cT) rfl rfl (Eq.mp (by kernel_rfl) s)
theorem aOR(s:RO (aN 0 a0) fun v=>
 RO (aJ h (.one 0) v) fun v=>
 C 121 [v] h fun v w=>
 aQ v=true∧K v w):C 127 [a0] h K:=
 ent Tryz.func127 (A:=cT) rfl rfl (Eq.mp (by kernel_rfl) s)
theorem aOS(s:RO (aN 1 a0) fun v=>
 cP (fun hh=>cF hh (aJ hh (.one 0) v)) 0 [(up h 8)] fun v=>
 cP (fun hh=>cF hh (aJ hh (.one 0) a1)) 0 [(up h 8)] fun w=>
 RO (iQ none (some w) none v (.sl 3)) fun v=>
 cP (fun hh=>cF hh (aJ hh (.one 0) a2)) 0 [(up h 8)] fun w=>
 C 129 [v,w] (up h 8) fun v w=>
 RO (gS .not v) fun v=>
 aQ v=true∧K v w):C 128 [a0,a1,a2] h K:=
 ent Tryz.func128 (A:=cT) rfl rfl (Eq.mp (by kernel_rfl) s)
theorem aOT(s:C 224 [a0,a1] h fun v w=>
 RO (aO .geq .no v (iv 0)) fun v=>
 aQ v=true∧K v w):C 129 [a0,a1] h K:=
 ent Tryz.func129 (A:=cT) rfl rfl (Eq.mp (by kernel_rfl) s)
theorem aOU(s:RO (aN 0 a0) fun v=>
 RO (aJ h (.one 0) v) fun v=>
 RO (aN 1 a1) fun w=>
 RO (aJ h (.one 0) w) fun w=>
 C 131 [v,w] h fun v w=>
 aQ v=true∧K v w):C 130 [a0,a1] h K:=
 ent Tryz.func130 (A:=cT) rfl rfl (Eq.mp (by kernel_rfl) s)
theorem aOV(s:RO (aO .geq .no a1 (iv 0)) fun v=>
 gV v true (fun w=>w a1 h) h fun w x=>
 gV v true (fun y=>y a0 x) x fun x y=>
 Qp v true (bO .sl [x] y) y fun x y=>
 Qr v true (aO .lss .no w x) y fun w x=>
 RO (bJ w (.bool false) v) fun v=>
 aQ v=true∧K v x):C 131 [a0,a1] h K:=
 ent Tryz.func131 (A:=cT) rfl rfl (Eq.mp (by kernel_rfl) s)
theorem aOW(s:RO (aN 2 a0) fun v=>
 RO (aJ h (.one 0) v) fun v=>
 C 85 [v] h fun v w=>
 aQ v=true∧K v w):C 132 [a0] h K:=
 ent Tryz.func132 (A:=cT) rfl rfl (Eq.mp (by kernel_rfl) s)
theorem aOX(s:RO (aN 0 a0) fun v=>
 RO (aJ h (.one 0) v) fun v=>
 RO (aN 1 a1) fun w=>
 RO (aJ h (.one 0) w) fun w=>
 C 84 [v,w] h fun v w=>
 RP (aW (nw w (.cells [(iv 0)])) 1 (aK v) (.ptr w.aA 0)) fun v x=>
 RO (aN 2 a1) fun v=>
 RO (aJ x (.one 0) v) fun v=>
 C 134 [v,(.func (.func 135) [] [(.ptr w.aA 0)])] x fun v w=>
 RO (gS .not v) fun v=>
 aQ v=true∧K v w):C 133 [a0,a1] h K:=
 ent Tryz.func133 (A:=cT) rfl rfl (Eq.mp (by kernel_rfl) s)
theorem aOY(s:C 230 [a0,a1] h fun v w=>
 RO (aO .geq .no v (iv 0)) fun v=>
 aQ v=true∧K v w):C 134 [a0,a1] h K:=
 ent Tryz.func134 (A:=cT) rfl rfl (Eq.mp (by kernel_rfl) s)
theorem aOZ(s:cA (aK a0) (RO (cR (some 2) 1 (.ptr h.aA 0) (bB (iv 0))) fun v=>
 RO (aJ (nc h a0) (.one 0) v) fun v=>
 RO (aJ (nc h a0) (.one 0) a1) fun w=>
 RO (aO .geq .no v w) fun v=>
 aQ v=true∧K v (nc h a0))):C 135 [a0,a1] h K:=
 ent Tryz.func135 (A:=cT) rfl rfl (Eq.mp (by kernel_rfl) s)
end
end Ev
