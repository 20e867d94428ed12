/- Proved here: functions of the program, printed as propositions. Conditions: none beyond the hypotheses that each theorem states. -/
import Derived.Test.YtnlkancjfhgdcaaGreatDoorE09
set_option linter.all false
set_option maxRecDepth 100000
open Go Go.Proofs
namespace Ev
noncomputable section
variable{a0 a1 a2 a3 a4 a5 a6 a7 a8 a9 x0 x1 x2 x3 x4 x5 x6 x7 x8 x9 x10 x11 x12 x13 x14 x15 x16 x17 x18 x19 x20:AV}{h:aL}{K:KH}{N:List AV→aL→Prop}{e:Ends}{rt:List AV→aL→Prop}
def A4:List bH:= [aM 8,aM 7,aM 1,aM 0,aM 4]
def X3:CC:=cQ [1,0,1,0,0] (bL E Tryz.f224).code
def X4(n:Nat):List bH:=bif Nat.beq n 0 then A4 else []
theorem aEj(s:RO (aO .lss .no x0 x1) fun v=>
 cB v (RO (cR none 3 x3 (bB x0)) fun v=>
 RO (aJ h (.many 0 3) v) fun v=>
 CV x2 [v] h fun v w=>
 cB v (rt [x0,x1,x2,x3,x0] w)
 (RO (aO .add .no x0 (iv 1)) fun v=>
 N [v,x1,x2,x3,x4] w))
 (bX e 0 [x0,x1,x2,x3,x4] h)):WC X4 0 X3 (pts A4 [x0,x1,x2,x3,x4]) h (hC A4 N e rt):=
 Eq.mp (by kernel_rfl) s
theorem aPh(s:RP (bO .sl [a0] h) fun v w=>
 gL A4 X3 [(iv 0),v,a1,a0,(iv 0)] w [(0,fun v w=>
 aQ (iv (-1))=true∧K (iv (-1)) w)] fun v w=>
 aQ (bD v 4)=true∧K (bD v 4) w):C 224 [a0,a1] h K:=
 ent Tryz.func224 (A:=X4) rfl rfl (Eq.mp (by kernel_rfl) s)
theorem aPi(s:C 322 [] h fun v w=>
 C 321 [v,a0] w fun v w=>
 aQ v=true∧K v w):C 227 [a0] h K:=
 ent Tryz.func227 (A:=cT) rfl rfl (Eq.mp (by kernel_rfl) s)
def A5:List bH:= [aM 8,aM 7,aM 1,aM 0,aM 4]
def X5:CC:=cQ [1,0,1,0,0] (bL E Tryz.f228).code
def X6(n:Nat):List bH:=bif Nat.beq n 0 then A5 else []
theorem aEk(s:RO (aO .lss .no x0 x1) fun v=>
 cB v (RO (cR none 1 x3 (bB x0)) fun v=>
 RO (aJ h (.one 0) v) fun v=>
 CV x2 [v] h fun v w=>
 cB v (rt [x0,x1,x2,x3,x0] w)
 (RO (aO .add .no x0 (iv 1)) fun v=>
 N [v,x1,x2,x3,x4] w))
 (bX e 0 [x0,x1,x2,x3,x4] h)):WC X6 0 X5 (pts A5 [x0,x1,x2,x3,x4]) h (hC A5 N e rt):=
 Eq.mp (by kernel_rfl) s
theorem aPj(s:RP (bO .sl [a0] h) fun v w=>
 gL A5 X5 [(iv 0),v,a1,a0,(iv 0)] w [(0,fun v w=>
 aQ (iv (-1))=true∧K (iv (-1)) w)] fun v w=>
 aQ (bD v 4)=true∧K (bD v 4) w):C 228 [a0,a1] h K:=
 ent Tryz.func228 (A:=X6) rfl rfl (Eq.mp (by kernel_rfl) s)
def A6:List bH:= [aM 8,aM 7,aM 1,aM 0,aM 4]
def X7:CC:=cQ [1,0,1,0,0] (bL E Tryz.f230).code
def X8(n:Nat):List bH:=bif Nat.beq n 0 then A6 else []
theorem aEl(s:RO (aO .lss .no x0 x1) fun v=>
 cB v (RO (cR none 2 x3 (bB x0)) fun v=>
 RO (aJ h (.many 0 2) v) fun v=>
 CV x2 [v] h fun v w=>
 cB v (rt [x0,x1,x2,x3,x0] w)
 (RO (aO .add .no x0 (iv 1)) fun v=>
 N [v,x1,x2,x3,x4] w))
 (bX e 0 [x0,x1,x2,x3,x4] h)):WC X8 0 X7 (pts A6 [x0,x1,x2,x3,x4]) h (hC A6 N e rt):=
 Eq.mp (by kernel_rfl) s
theorem aPk(s:RP (bO .sl [a0] h) fun v w=>
 gL A6 X7 [(iv 0),v,a1,a0,(iv 0)] w [(0,fun v w=>
 aQ (iv (-1))=true∧K (iv (-1)) w)] fun v w=>
 aQ (bD v 4)=true∧K (bD v 4) w):C 230 [a0,a1] h K:=
 ent Tryz.func230 (A:=X8) rfl rfl (Eq.mp (by kernel_rfl) s)
def A7:List bH:= [aM 8,aM 7,aM 1,aM 0,aM 4]
def X9:CC:=cQ [1,0,1,0,0] (bL E Tryz.f231).code
def YA(n:Nat):List bH:=bif Nat.beq n 0 then A7 else []
theorem aEm(s:RO (aO .lss .no x0 x1) fun v=>
 cB v (RO (cR none 14 x3 (bB x0)) fun v=>
 RO (aJ h (.many 0 14) v) fun v=>
 CV x2 [v] h fun v w=>
 cB v (rt [x0,x1,x2,x3,x0] w)
 (RO (aO .add .no x0 (iv 1)) fun v=>
 N [v,x1,x2,x3,x4] w))
 (bX e 0 [x0,x1,x2,x3,x4] h)):WC YA 0 X9 (pts A7 [x0,x1,x2,x3,x4]) h (hC A7 N e rt):=
 Eq.mp (by kernel_rfl) s
theorem aPl(s:RP (bO .sl [a0] h) fun v w=>
 gL A7 X9 [(iv 0),v,a1,a0,(iv 0)] w [(0,fun v w=>
 aQ (iv (-1))=true∧K (iv (-1)) w)] fun v w=>
 aQ (bD v 4)=true∧K (bD v 4) w):C 231 [a0,a1] h K:=
 ent Tryz.func231 (A:=YA) rfl rfl (Eq.mp (by kernel_rfl) s)
theorem aPm(s:cP (fun hh=>cF hh (aJ hh (.one 0) a0)) 0 [(up h 5)] fun v=>
 CV v [] (up h 5) fun v w=>
 cP (fun hh=>cF hh (aJ hh (.one 0) a1)) 1 [w,(up h 5)] fun x=>
 RO (cU x) fun x=>
 RP (aW w 1 (aK v) x) fun v w=>
 RO (aJ w (.one 0) a1) fun v=>
 RO (cU v) fun v=>
 RO (aJ w (.one 0) v) fun v=>
 RO (aO .eql .no v (iv 0)) fun v=>
 aQ v=true∧K v w):C 232 [a0,a1] h K:=
 ent Tryz.func232 (A:=cT) rfl rfl (Eq.mp (by kernel_rfl) s)
def A8:List bH:= [aM 11,aM 10,aM 9,aM 1,aM 4,aM 5]
def YB:CC:=cQ [1,0,1,0,0] (bL E Tryz.f233).code
def YC(n:Nat):List bH:=bif Nat.beq n 0 then A8 else []
theorem aEn(s:RO (aO .lss .no x0 x1) fun v=>
 cB v (RO (cR none 2 x2 (bB x0)) fun v=>
 RO (aJ h (.many 0 2) v) fun v=>
 RP (aW (nw h (.cells [(.str []),(iv 0)])) 2 (aK v) (.ptr h.aA 0)) fun v w=>
 RO (aJ w (.many 0 2) (.ptr h.aA 0)) fun v=>
 CV x3 [x0,v] w fun v w=>
 RO (aO .neq .no v (iv 0)) fun x=>
 cB x (rt [x0,x1,x2,x3,x0,v] w)
 (RO (aO .add .no x0 (iv 1)) fun v=>
 N [v,x1,x2,x3,x4,x5] w))
 (bX e 0 [x0,x1,x2,x3,x4,x5] h)):WC YC 0 YB (pts A8 [x0,x1,x2,x3,x4,x5]) h (hC A8 N e rt):=
 Eq.mp (by kernel_rfl) s
theorem aPn(s:RP (bO .sl [a0] h) fun v w=>
 gL A8 YB [(iv 0),v,a0,a1,(iv 0),(iv 0)] w [(0,fun v w=>
 aQ (iv 0)=true∧aQ (iv 0)=true∧K (.tuple [(iv 0),(iv 0)]) w)] fun v w=>
 aQ (bD v 4)=true∧aQ (bD v 5)=true∧K (.tuple [(bD v 4),(bD v 5)]) w):C 233 [a0,a1] h K:=
 ent Tryz.func233 (A:=YC) rfl rfl (Eq.mp (by kernel_rfl) s)
theorem aPo(s:cA (aK a0) (cA (aK a1) (RP (aW (nw (nc (nc h a0) a1) (.cells [.nilf])) 1 (aK (.func (.func 235) [] [(.ptr (nc h a0).aA 0)])) (.ptr (nc (nc h a0) a1).aA 0)) fun v w=>
 RL (bK [.nilf,(iv 0)] [(0,1,(.func (.func 236) [] [(.ptr (nc h a0).aA 0)])),(1,1,(iv 1))]) fun l2=>cA l2 (
 RL (bK [.nilf,(iv 0)] [(0,1,(.func (.func 237) [] [a2,(.ptr h.aA 0),(.ptr (nc (nc h a0) a1).aA 0)])),(1,1,(iv 5))]) fun l3=>cA l3 (
 RL (bK [.nilf,(iv 0)] [(0,1,(.func (.func 239) [] [a3,(.ptr (nc h a0).aA 0)])),(1,1,(iv 3))]) fun l4=>cA l4 (
 RL (bK [.nilf,(iv 0),.nilf,(iv 0),.nilf,(iv 0)] [(0,2,(.agg l2)),(2,2,(.agg l3)),(4,2,(.agg l4))]) fun l5=>cA l5 (
 C 60 [(.slice w.aA 0 3 3 0)] (nw w (.cells l5)) fun v w=>
 aQ v=true∧K v w))))))):C 234 [a0,a1,a2,a3] h K:=
 ent Tryz.func234 (A:=cT) rfl rfl (Eq.mp (by kernel_rfl) s)
theorem aPp(s:cA (aK a0) (RO (aN 0 (.ptr h.aA 0)) fun v=>
 RO (aJ (nc h a0) (.one 0) v) fun v=>
 RO (aN 0 a1) fun w=>
 RO (aJ (nc h a0) (.one 0) w) fun w=>
 RO (aO .eql .no v w) fun v=>
 aQ v=true∧K v (nc h a0))):C 235 [a0,a1] h K:=
 ent Tryz.func235 (A:=cT) rfl rfl (Eq.mp (by kernel_rfl) s)
theorem aPq(s:RO (aN 0 a0) fun v=>
 RO (aJ h (.one 0) v) fun v=>
 C 121 [v] h fun v w=>
 aQ v=true∧K v w):C 236 [a0] h K:=
 ent Tryz.func236 (A:=cT) rfl rfl (Eq.mp (by kernel_rfl) s)
theorem aPr(s:cP (fun hh=>cF hh (aJ hh (.one 0) a0)) 0 [(up h 7)] fun v=>
 cP (fun hh=>cF hh (aJ hh (.one 0) a1)) 0 [(up h 7)] fun w=>
 RO (iQ none (some w) none v (.sl 2)) fun v=>
 cP (fun hh=>cF hh (aJ hh (.one 0) a2)) 0 [(up h 7)] fun w=>
 C 238 [v,w] (up h 7) fun v w=>
 RO (gS .not v) fun v=>
 aQ v=true∧K v w):C 237 [a0,a1,a2] h K:=
 ent Tryz.func237 (A:=cT) rfl rfl (Eq.mp (by kernel_rfl) s)
theorem aPs(s:C 324 [a0,a1] h fun v w=>
 RO (aO .geq .no v (iv 0)) fun v=>
 aQ v=true∧K v w):C 238 [a0,a1] h K:=
 ent Tryz.func238 (A:=cT) rfl rfl (Eq.mp (by kernel_rfl) s)
theorem aPt(s:RO (aN 0 a0) fun v=>
 RO (aJ h (.one 0) v) fun v=>
 RO (aN 1 a1) fun w=>
 RO (aJ h (.one 0) w) fun w=>
 C 131 [v,w] h fun v w=>
 aQ v=true∧K v w):C 239 [a0,a1] h K:=
 ent Tryz.func239 (A:=cT) rfl rfl (Eq.mp (by kernel_rfl) s)
def A9:List bH:= [aM 11,aM 10,aM 9,aM 1,aM 4,aM 5]
def YD:CC:=cQ [1,0,1,0,0] (bL E Tryz.f243).code
def YE(n:Nat):List bH:=bif Nat.beq n 0 then A9 else []
theorem aEo(s:RO (aO .lss .no x0 x1) fun v=>
 cB v (RO (cR none 4 x2 (bB x0)) fun v=>
 RO (aJ h (.many 0 4) v) fun v=>
 RP (aW (nw h (.cells [(iv 0),(iv 0),(iv 0),.aB])) 4 (aK v) (.ptr h.aA 0)) fun v w=>
 RO (aJ w (.many 0 4) (.ptr h.aA 0)) fun v=>
 CV x3 [x0,v] w fun v w=>
 RO (aO .neq .no v (iv 0)) fun x=>
 cB x (rt [x0,x1,x2,x3,x0,v] w)
 (RO (aO .add .no x0 (iv 1)) fun v=>
 N [v,x1,x2,x3,x4,x5] w))
 (bX e 0 [x0,x1,x2,x3,x4,x5] h)):WC YE 0 YD (pts A9 [x0,x1,x2,x3,x4,x5]) h (hC A9 N e rt):=
 Eq.mp (by kernel_rfl) s
theorem aPu(s:RP (bO .sl [a0] h) fun v w=>
 gL A9 YD [(iv 0),v,a0,a1,(iv 0),(iv 0)] w [(0,fun v w=>
 aQ (iv 0)=true∧aQ (iv 0)=true∧K (.tuple [(iv 0),(iv 0)]) w)] fun v w=>
 aQ (bD v 4)=true∧aQ (bD v 5)=true∧K (.tuple [(bD v 4),(bD v 5)]) w):C 243 [a0,a1] h K:=
 ent Tryz.func243 (A:=YE) rfl rfl (Eq.mp (by kernel_rfl) s)
theorem aPv(s:cA (aK a1) (RL (bK [.nilf,(iv 0)] [(0,1,(.func (.func 245) [] [a2,(.ptr h.aA 0)])),(1,1,(iv 3))]) fun l0=>cA l0 (
 RL (bK [.nilf,(iv 0)] [(0,1,(.func (.func 246) [] [(.ptr h.aA 0),a3])),(1,1,(iv 1))]) fun l1=>cA l1 (
 RL (bK [.nilf,(iv 0),.nilf,(iv 0)] [(0,2,(.agg l0)),(2,2,(.agg l1))]) fun l2=>cA l2 (
 C 60 [(.slice (nc h a1).aA 0 2 2 0)] (nw (nc h a1) (.cells l2)) fun v w=>
 aQ v=true∧K v w))))):C 244 [a0,a1,a2,a3] h K:=
 ent Tryz.func244 (A:=cT) rfl rfl (Eq.mp (by kernel_rfl) s)
theorem aPw(s:RO (aN 1 a0) fun v=>
 RO (aJ h (.one 0) v) fun v=>
 RO (aN 0 a1) fun w=>
 RO (aJ h (.one 0) w) fun w=>
 C 63 [v,w] h fun v w=>
 aQ v=true∧K v w):C 245 [a0,a1] h K:=
 ent Tryz.func245 (A:=cT) rfl rfl (Eq.mp (by kernel_rfl) s)
theorem aPx(s:RO (aN 1 a0) fun v=>
 RO (aJ h (.many 0 3) v) fun v=>
 RO (aJ h (.one 0) a1) fun w=>
 C 146 [v,w] h fun v w=>
 aQ v=true∧K v w):C 246 [a0,a1] h K:=
 ent Tryz.func246 (A:=cT) rfl rfl (Eq.mp (by kernel_rfl) s)
def BA:List bH:= [aM 11,aM 10,aM 9,aM 1,aM 4,aM 5]
def YF:CC:=cQ [1,0,1,0,0] (bL E Tryz.f247).code
def YG(n:Nat):List bH:=bif Nat.beq n 0 then BA else []
theorem aEp(s:RO (aO .lss .no x0 x1) fun v=>
 cB v (RO (cR none 1 x2 (bB x0)) fun v=>
 RO (aJ h (.one 0) v) fun v=>
 CV x3 [x0,v] h fun v w=>
 RO (aO .neq .no v (iv 0)) fun x=>
 cB x (rt [x0,x1,x2,x3,x0,v] w)
 (RO (aO .add .no x0 (iv 1)) fun v=>
 N [v,x1,x2,x3,x4,x5] w))
 (bX e 0 [x0,x1,x2,x3,x4,x5] h)):WC YG 0 YF (pts BA [x0,x1,x2,x3,x4,x5]) h (hC BA N e rt):=
 Eq.mp (by kernel_rfl) s
theorem aPy(s:RP (bO .sl [a0] h) fun v w=>
 gL BA YF [(iv 0),v,a0,a1,(iv 0),(iv 0)] w [(0,fun v w=>
 aQ (iv 0)=true∧aQ (iv 0)=true∧K (.tuple [(iv 0),(iv 0)]) w)] fun v w=>
 aQ (bD v 4)=true∧aQ (bD v 5)=true∧K (.tuple [(bD v 4),(bD v 5)]) w):C 247 [a0,a1] h K:=
 ent Tryz.func247 (A:=YG) rfl rfl (Eq.mp (by kernel_rfl) s)
theorem aPz(s:cA (aK a0) (cA (aK a1) (RL (bK [.nilf,(iv 0)] [(0,1,(.func (.func 249) [] [a2,(.ptr (nc h a0).aA 0)])),(1,1,(iv 3))]) fun l0=>cA l0 (
 RL (bK [.nilf,(iv 0)] [(0,1,(.func (.func 250) [] [a3,(.ptr h.aA 0),(.ptr (nc h a0).aA 0)])),(1,1,(iv 5))]) fun l1=>cA l1 (
 RL (bK [.nilf,(iv 0),.nilf,(iv 0)] [(0,2,(.agg l0)),(2,2,(.agg l1))]) fun l2=>cA l2 (
 C 60 [(.slice (nc (nc h a0) a1).aA 0 2 2 0)] (nw (nc (nc h a0) a1) (.cells l2)) fun v w=>
 aQ v=true∧K v w)))))):C 248 [a0,a1,a2,a3] h K:=
 ent Tryz.func248 (A:=cT) rfl rfl (Eq.mp (by kernel_rfl) s)
theorem aPA(s:RO (aN 1 a0) fun v=>
 RO (aJ h (.one 0) v) fun v=>
 RO (aJ h (.one 0) a1) fun w=>
 C 63 [v,w] h fun v w=>
 aQ v=true∧K v w):C 249 [a0,a1] h K:=
 ent Tryz.func249 (A:=cT) rfl rfl (Eq.mp (by kernel_rfl) s)
theorem aPB(s:cP (fun hh=>cF hh (aJ hh (.one 0) a0)) 0 [(up h 7)] fun v=>
 cP (fun hh=>cF hh (aJ hh (.one 0) a1)) 0 [(up h 7)] fun w=>
 RO (iQ none (some w) none v (.sl 1)) fun v=>
 cP (fun hh=>cF hh (aJ hh (.one 0) a2)) 0 [(up h 7)] fun w=>
 C 162 [v,w] (up h 7) fun v w=>
 RO (gS .not v) fun v=>
 aQ v=true∧K v w):C 250 [a0,a1,a2] h K:=
 ent Tryz.func250 (A:=cT) rfl rfl (Eq.mp (by kernel_rfl) s)
theorem aPC(s:RO (aO .geq .no a0 (iv 1)) fun v=>
 gV v true (fun w=>w a0 h) h fun w x=>
 Qr v true (aO .leq .no w (iv 3)) x fun w x=>
 RO (bJ w (.bool false) v) fun v=>
 gV v true (fun w=>w a0 x) x fun w x=>
 Qr v true (aO .neq .no w (iv 3)) x fun w x=>
 gV v true (fun y=>y w x) x fun w x=>
 gV w false (fun y=>y a1 x) x fun x y=>
 Qp w false (bO .sl [x] y) y fun x y=>
 Qr w false (aO .leq .no x (iv 4)) y fun x y=>
 Qr v true (bJ (.bool true) x w) y fun w x=>
 RO (bJ w (.bool false) v) fun v=>
 aQ v=true∧K v x):C 251 [a0,a1] h K:=
 ent Tryz.func251 (A:=cT) rfl rfl (Eq.mp (by kernel_rfl) s)
def BB:List bH:= [aM 8,aM 7,aM 1,aM 0,aM 4]
def YH:CC:=cQ [1,0,1,0,0] (bL E Tryz.f324).code
def YI(n:Nat):List bH:=bif Nat.beq n 0 then BB else []
theorem aEq(s:RO (aO .lss .no x0 x1) fun v=>
 cB v (RO (cR none 2 x3 (bB x0)) fun v=>
 RO (aJ h (.many 0 2) v) fun v=>
 CV x2 [v] h fun v w=>
 cB v (rt [x0,x1,x2,x3,x0] w)
 (RO (aO .add .no x0 (iv 1)) fun v=>
 N [v,x1,x2,x3,x4] w))
 (bX e 0 [x0,x1,x2,x3,x4] h)):WC YI 0 YH (pts BB [x0,x1,x2,x3,x4]) h (hC BB N e rt):=
 Eq.mp (by kernel_rfl) s
theorem aPD(s:RP (bO .sl [a0] h) fun v w=>
 gL BB YH [(iv 0),v,a1,a0,(iv 0)] w [(0,fun v w=>
 aQ (iv (-1))=true∧K (iv (-1)) w)] fun v w=>
 aQ (bD v 4)=true∧K (bD v 4) w):C 324 [a0,a1] h K:=
 ent Tryz.func324 (A:=YI) rfl rfl (Eq.mp (by kernel_rfl) s)
theorem aPE(s:C 277 [a0,a1] h fun v w=>
 RO (aO .geq .no v (iv 0)) fun v=>
 aQ v=true∧K v w):C 162 [a0,a1] h K:=
 ent Tryz.func162 (A:=cT) rfl rfl (Eq.mp (by kernel_rfl) s)
def BC:List bH:= [aM 8,aM 7,aM 1,aM 0,aM 4]
def YJ:CC:=cQ [1,0,1,0,0] (bL E Tryz.f277).code
def YK(n:Nat):List bH:=bif Nat.beq n 0 then BC else []
theorem aEr(s:RO (aO .lss .no x0 x1) fun v=>
 cB v (RO (cR none 1 x3 (bB x0)) fun v=>
 RO (aJ h (.one 0) v) fun v=>
 RO (aO .eql .no x2 v) fun v=>
 cB v (rt [x0,x1,x2,x3,x0] h)
 (RO (aO .add .no x0 (iv 1)) fun v=>
 N [v,x1,x2,x3,x4] h))
 (bX e 0 [x0,x1,x2,x3,x4] h)):WC YK 0 YJ (pts BC [x0,x1,x2,x3,x4]) h (hC BC N e rt):=
 Eq.mp (by kernel_rfl) s
theorem aPF(s:RP (bO .sl [a0] h) fun v w=>
 gL BC YJ [(iv 0),v,a1,a0,(iv 0)] w [(0,fun v w=>
 aQ (iv (-1))=true∧K (iv (-1)) w)] fun v w=>
 aQ (bD v 4)=true∧K (bD v 4) w):C 277 [a0,a1] h K:=
 ent Tryz.func277 (A:=YK) rfl rfl (Eq.mp (by kernel_rfl) s)
end
end Ev
