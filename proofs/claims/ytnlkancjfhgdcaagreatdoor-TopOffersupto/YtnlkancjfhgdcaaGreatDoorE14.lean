/- Proved here: functions of the program, printed as propositions. Conditions: none beyond the hypotheses that each theorem states. -/
import Derived.Test.YtnlkancjfhgdcaaGreatDoorE09
set_option linter.all false
set_option maxRecDepth 100000
open Go Go.Proofs
namespace Ev
noncomputable section
variable{a0 a1 a2 a3 a4 a5 a6 a7 a8 a9 x0 x1 x2 x3 x4 x5 x6 x7 x8 x9 x10 x11 x12 x13 x14 x15 x16 x17 x18 x19 x20:AV}{h:aL}{K:KH}{N:List AV→aL→Prop}{e:Ends}{rt:List AV→aL→Prop}
def AC:List bH:= [aM 5,aM 0]
def V9:CC:=cQ [1,0,0] (bL E Tryz.f286).code
def WA(n:Nat):List bH:=bif Nat.beq n 0 then AC else []
theorem aC4(s:UE false x0 h fun v w=>
 RO (aR 0 v) fun v=>
 cB v (RO (EZ w x0) fun v=>
 RO (aR 0 v) fun v=>
 CV x1 [v] w fun v x=>
 RO (gS .not v) fun v=>
 cB v (rt [x0,x1] x)
 (N [x0,x1] x))
 (bX e 0 [x0,x1] w)):WC WA 0 V9 (pts AC [x0,x1]) h (hC AC N e rt):=
 Eq.mp (by kernel_rfl) s
theorem aMg(s:RO (aJ h (.one 0) a1) fun v=>
 RP (qL h v) fun v w=>
 gL AC V9 [v,a0] w [(0,fun v w=>
 K (.tuple []) w)] fun v w=>
 K (.tuple []) w):C 286 [a0,a1] h K:=
 ent Tryz.func286 (A:=WA) rfl rfl (Eq.mp (by kernel_rfl) s)
theorem aMh(s:C 366 [.aB,a0] h fun v w=>
 aQ v=true∧K v w):C 284 [a0] h K:=
 ent Tryz.func284 (A:=cT) rfl rfl (Eq.mp (by kernel_rfl) s)
theorem aMi(s:C 284 [a0] h fun v w=>
 C 285 [v] w fun w x=>
 aQ v=true∧K v x):C 168 [a0] h K:=
 ent Tryz.func168 (A:=cT) rfl rfl (Eq.mp (by kernel_rfl) s)
theorem aMj(s:cA (aK a0) (aQ (.func (.func 286) [] [(.ptr h.aA 0)])=true∧K (.func (.func 286) [] [(.ptr h.aA 0)]) (nc h a0))):C 169 [a0] h K:=
 ent Tryz.func169 (A:=cT) rfl rfl (Eq.mp (by kernel_rfl) s)
def HR:List bH:= [aM 13,aM 12,aM 11,aM 4]
def aBk:CC:=cQ [1,1,1,0,1,0,0] (bL E Tryz.f80).code
def aC5(n:Nat):List bH:=bif Nat.beq n 0 then HR else []
theorem aHn(s:RO (aO .lss .no x0 x1) fun v=>
 cB v (RO (cR none 2 x2 (bB x0)) fun v=>
 RO (aJ h (.many 0 2) v) fun v=>
 RP (aW (nw h (.cells [(iv 0),(iv 0)])) 2 (aK v) (.ptr h.aA 0)) fun v w=>
 RO (cR (some 2) 1 (.ptr h.aA 0) (bB (iv 0))) fun v=>
 RO (aJ w (.one 0) v) fun v=>
 RO (cR (some 2) 1 (.ptr h.aA 0) (bB (iv 1))) fun x=>
 RO (aJ w (.one 0) x) fun x=>
 RP (hU w .int v x x3) fun v w=>
 RO (aO .add .no x0 (iv 1)) fun v=>
 N [v,x1,x2,x3] w)
 (bX e 0 [x0,x1,x2,x3] h)):WC aC5 0 aBk (pts HR [x0,x1,x2,x3]) h (hC HR N e rt):=
 Eq.mp (by kernel_rfl) s
theorem e80(s:C 85 [a0] h fun v w=>
 RO (gS .not v) fun v=>
 cB v (aQ .nilm=true∧aQ (.bool false)=true∧K (.tuple [.nilm,(.bool false)]) w)
 (RP (bO .sl [a0] (nw w (.map [] 0))) fun v x=>
 gL HR aBk [(iv 0),v,a0,(.map w.aA)] x [(0,fun v w=>
 aQ (bD v 3)=true∧aQ (.bool true)=true∧K (.tuple [(bD v 3),(.bool true)]) w)] fun v w=>
 aQ .other=true∧aQ .other=true∧K (.tuple [.other,.other]) w)):C 80 [a0] h K:=
 ent Tryz.func80 (A:=aC5) rfl rfl (Eq.mp (by kernel_rfl) s)
theorem e81(s:C 80 [a0] h fun v w=>
 RO (aR 0 v) fun x=>
 RO (aR 1 v) fun v=>
 C 80 [a1] w fun w y=>
 RO (aR 0 w) fun z=>
 RO (aR 1 w) fun w=>
 gV v true (fun u=>u w y) y fun w y=>
 RO (bJ w (.bool false) v) fun v=>
 aQ x=true∧aQ z=true∧aQ v=true∧K (.tuple [x,z,v]) y):C 81 [a0,a1] h K:=
 ent Tryz.func81 (A:=cT) rfl rfl (Eq.mp (by kernel_rfl) s)
def HS:List bH:= [aM 10,aM 9,aM 8,aM 0,aM 3]
def aBl:CC:=cQ [1,1,0,1,0,0] (bL E Tryz.f82).code
def aC6(n:Nat):List bH:=bif Nat.beq n 0 then HS else []
theorem aHo(s:RO (aO .lss .no x0 x1) fun v=>
 cB v ((fun(j11:AV→aL→Prop)=>
 RO (cR none 1 x2 (bB x0)) fun v=>
 RO (aJ h (.one 0) v) fun v=>
 RO (fT .int (iv 0) false v (dK h x3)) fun w=>
 RO (aO .gtr .no w (iv 0)) fun w=>
 cB w (RO (fT .int (iv 0) false v (dK h x3)) fun w=>
 RL (bK [(iv 0),(iv 0)] [(0,1,v),(1,1,w)]) fun l17=>cA l17 (
 RL (bK [(iv 0),(iv 0)] [(0,2,(.agg l17))]) fun l18=>cA l18 (
 RP (cY 2 [x4,(.slice h.aA 0 1 1 0)] (nw h (.cells l18))) fun v w=>
 j11 v w)))
 (j11 x4 h))
 fun x21 v=>
 RO (aO .add .no x0 (iv 1)) fun w=>
 N [w,x1,x2,x3,x21] v)
 (bX e 0 [x0,x1,x2,x3,x4] h)):WC aC6 0 aBl (pts HS [x0,x1,x2,x3,x4]) h (hC HS N e rt):=
 Eq.mp (by kernel_rfl) s
theorem e82(s:C 169 [a0] h fun v w=>
 C 168 [v] w fun v w=>
 RP (bO .sl [v] w) fun w x=>
 gL HS aBl [(iv 0),w,v,a0,.aB] x [(0,fun v w=>
 aQ (bD v 4)=true∧K (bD v 4) w)] fun v w=>
 aQ .other=true∧K .other w):C 82 [a0] h K:=
 ent Tryz.func82 (A:=aC6) rfl rfl (Eq.mp (by kernel_rfl) s)
def HT:List bH:= [aM 8,aM 7,aM 6,aM 3,aM 2]
def aBm:CC:=cQ [1,1,0,1,0,0] (bL E Tryz.f85).code
def aC7(n:Nat):List bH:=bif Nat.beq n 0 then HT else []
theorem aHp(s:RO (aO .lss .no x0 x1) fun v=>
 cB v (RO (cR none 2 x2 (bB x0)) fun v=>
 RO (aJ h (.many 0 2) v) fun v=>
 RP (aW (nw h (.cells [(iv 0),(iv 0)])) 2 (aK v) (.ptr h.aA 0)) fun v w=>
 RO (cR (some 2) 1 (.ptr h.aA 0) (bB (iv 0))) fun v=>
 RO (aJ w (.one 0) v) fun v=>
 RO (aO .leq .no v x3) fun v=>
 Qr v false (cR (some 2) 1 (.ptr h.aA 0) (bB (iv 1))) w fun w x=>
 Qr v false (aJ x (.one 0) w) x fun w x=>
 Qr v false (aO .lss .no w (iv 1)) x fun w x=>
 RO (bJ (.bool true) w v) fun v=>
 Qr v false (cR (some 2) 1 (.ptr h.aA 0) (bB (iv 1))) x fun w x=>
 Qr v false (aJ x (.one 0) w) x fun w x=>
 Qr v false (aO .gtr .no w (iv 1048576)) x fun w x=>
 RO (bJ (.bool true) w v) fun v=>
 cB v (rt [x0,x1,x2,x3,(.bool false)] x)
 (RO (cR (some 2) 1 (.ptr h.aA 0) (bB (iv 0))) fun v=>
 RO (aJ x (.one 0) v) fun v=>
 RO (aO .add .no x0 (iv 1)) fun w=>
 N [w,x1,x2,v,x4] x))
 (bX e 0 [x0,x1,x2,x3,x4] h)):WC aC7 0 aBm (pts HT [x0,x1,x2,x3,x4]) h (hC HT N e rt):=
 Eq.mp (by kernel_rfl) s
theorem e85(s:RP (bO .sl [a0] h) fun v w=>
 gL HT aBm [(iv 0),v,a0,(iv (-1)),(.bool false)] w [(0,fun v w=>
 aQ (.bool true)=true∧K (.bool true) w)] fun v w=>
 aQ (bD v 4)=true∧K (bD v 4) w):C 85 [a0] h K:=
 ent Tryz.func85 (A:=aC7) rfl rfl (Eq.mp (by kernel_rfl) s)
def HU:List bH:= [aM 14,aM 5]
def aBn:CC:=cQ [1,1,1,0,1,0,0] (bL E Tryz.f36).code
def aAC(n:Nat):List bH:=bif Nat.beq n 0 then HU else []
theorem aBo(s:UE false x0 h fun v w=>
 RO (aR 0 v) fun v=>
 cB v (RO (EZ w x0) fun v=>
 RO (aR 1 v) fun v=>
 RO (aO .add .no x1 v) fun v=>
 N [x0,v] w)
 (bX e 0 [x0,x1] w)):WC aAC 0 aBn (pts HU [x0,x1]) h (hC HU N e rt):=
 Eq.mp (by kernel_rfl) s
theorem e36(s:C 80 [a0] h fun v w=>
 RO (aR 0 v) fun x=>
 RO (aR 1 v) fun v=>
 RP (qL w x) fun v w=>
 gL HU aBn [v,(iv 0)] w [(0,fun v w=>
 aQ (bD v 1)=true∧K (bD v 1) w)] fun v w=>
 aQ .other=true∧K .other w):C 36 [a0] h K:=
 ent Tryz.func36 (A:=aAC) rfl rfl (Eq.mp (by kernel_rfl) s)
def HV:List bH:= [aM 21,aM 6,aM 4,aM 5]
def aBp:CC:=cQ [1,1,1,0,1,0,0] (bL E Tryz.f38).code
def aC8(n:Nat):List bH:=bif Nat.beq n 0 then HV else []
theorem aHq(s:UE false x0 h fun v w=>
 RO (aR 0 v) fun v=>
 cB v (RO (EZ w x0) fun v=>
 RO (aR 0 v) fun x=>
 RO (aR 1 v) fun v=>
 RO (fT .int (iv 0) false x (dK w x1)) fun y=>
 RO (aO .add .no y v) fun v=>
 RP (hU w .int x v x1) fun v y=>
 RO (fT .int (iv 0) false x (dK y x1)) fun v=>
 RO (aO .gtr .no v (iv 1048576)) fun v=>
 cB v (rt [x0,x1,.aB,(iv 2)] y)
 (N [x0,x1,x2,x3] y))
 (bX e 0 [x0,x1,x2,x3] w)):WC aC8 0 aBp (pts HV [x0,x1,x2,x3]) h (hC HV N e rt):=
 Eq.mp (by kernel_rfl) s
theorem e38(s:C 81 [a0,a1] h fun v w=>
 RO (aR 0 v) fun x=>
 RO (aR 1 v) fun y=>
 RO (aR 2 v) fun v=>
 RO (gS .not v) fun v=>
 cB v (aQ .aB=true∧aQ (iv 1)=true∧K (.tuple [.aB,(iv 1)]) w)
 (RP (qL w y) fun v w=>
 gL HV aBp [v,x,.aB,(iv 0)] w [(0,fun v w=>
 C 82 [(bD v 1)] w fun v w=>
 aQ v=true∧aQ (iv 0)=true∧K (.tuple [v,(iv 0)]) w)] fun v w=>
 aQ (bD v 2)=true∧aQ (bD v 3)=true∧K (.tuple [(bD v 2),(bD v 3)]) w)):C 38 [a0,a1] h K:=
 ent Tryz.func38 (A:=aC8) rfl rfl (Eq.mp (by kernel_rfl) s)
def HW:List bH:= [aM 9,aM 8,aM 7,aM 3]
def aBq:CC:=cQ [1,1,0,1,0,0] (bL E Tryz.f39).code
def aC9(n:Nat):List bH:=bif Nat.beq n 0 then HW else []
theorem aHr(s:RO (aO .lss .no x0 x1) fun v=>
 cB v ((fun(j9:aL→Prop)=>
 RO (cR none 1 x2 (bB x0)) fun v=>
 RO (aJ h (.one 0) v) fun v=>
 RO (aO .geq .no v (iv 0)) fun w=>
 cB w (RO (fT .int (iv 0) false v (dK h x3)) fun w=>
 RO (aO .add .no w (iv 1)) fun w=>
 RO (iP min2 [w,(iv 1048576)]) fun w=>
 RP (hU h .int v w x3) fun v w=>
 j9 w)
 (j9 h))
 fun v=>
 RO (aO .add .no x0 (iv 1)) fun w=>
 N [w,x1,x2,x3] v)
 (bX e 0 [x0,x1,x2,x3] h)):WC aC9 0 aBq (pts HW [x0,x1,x2,x3]) h (hC HW N e rt):=
 Eq.mp (by kernel_rfl) s
theorem e39(s:RP (bO .sl [a0] (nw h (.map [] 0))) fun v w=>
 gL HW aBq [(iv 0),v,a0,(.map h.aA)] w [(0,fun v w=>
 C 82 [(bD v 3)] w fun v w=>
 aQ v=true∧K v w)] fun v w=>
 aQ .other=true∧K .other w):C 39 [a0] h K:=
 ent Tryz.func39 (A:=aC9) rfl rfl (Eq.mp (by kernel_rfl) s)
def AD:List bH:= [aM 27,aM 6]
def WB:CC:=cQ [1,1,1,0,1,0,0] (bL E Tryz.f188).code
def WD(n:Nat):List bH:=bif Nat.beq n 1 then AD else []
theorem aDa(s:UE false x0 h fun v w=>
 RO (aR 0 v) fun v=>
 cB v (RO (EZ w x0) fun v=>
 RO (aR 0 v) fun x=>
 RO (aR 1 v) fun v=>
 RO (fT .int (iv 0) false x (dK w x1)) fun y=>
 RO (aO .sub .no y v) fun v=>
 RP (hU w .int x v x1) fun v x=>
 N [x0,x1] x)
 (bX e 1 [x0,x1] w)):WC WD 1 WB (pts AD [x0,x1]) h (hC AD N e rt):=
 Eq.mp (by kernel_rfl) s
theorem aMk(s:C 81 [a0,a1] h fun v w=>
 RO (aR 0 v) fun x=>
 RO (aR 1 v) fun y=>
 RO (aR 2 v) fun v=>
 RO (gS .not v) fun v=>
 cB v (aQ .aB=true∧aQ (iv 1)=true∧K (.tuple [.aB,(iv 1)]) w)
 (C 296 [y,x] w fun v w=>
 RO (gS .not v) fun v=>
 cB v (aQ .aB=true∧aQ (iv 10)=true∧K (.tuple [.aB,(iv 10)]) w)
 (RP (qL w y) fun v w=>
 gL AD WB [v,x] w [(1,fun v w=>
 C 82 [(bD v 1)] w fun v w=>
 aQ v=true∧aQ (iv 0)=true∧K (.tuple [v,(iv 0)]) w)] fun v w=>
 aQ .other=true∧aQ .other=true∧K (.tuple [.other,.other]) w))):C 188 [a0,a1] h K:=
 ent Tryz.func188 (A:=WD) rfl rfl (Eq.mp (by kernel_rfl) s)
def AE:List bH:= [aM 8,aM 1,aM 4]
def WE:CC:=cQ [1,0,1,0,0] (bL E Tryz.f296).code
def WF(n:Nat):List bH:=bif Nat.beq n 0 then AE else []
theorem aDb(s:UE false x0 h fun v w=>
 RO (aR 0 v) fun v=>
 cB v (RO (EZ w x0) fun v=>
 RO (aR 0 v) fun x=>
 RO (aR 1 v) fun v=>
 RO (fT .int (iv 0) false x (dK w x1)) fun x=>
 RO (aO .gtr .no v x) fun v=>
 cB v (rt [x0,x1,(.bool false)] w)
 (N [x0,x1,x2] w))
 (bX e 0 [x0,x1,x2] w)):WC WF 0 WE (pts AE [x0,x1,x2]) h (hC AE N e rt):=
 Eq.mp (by kernel_rfl) s
theorem aMl(s:RP (qL h a0) fun v w=>
 gL AE WE [v,a1,(.bool false)] w [(0,fun v w=>
 aQ (.bool true)=true∧K (.bool true) w)] fun v w=>
 aQ (bD v 2)=true∧K (bD v 2) w):C 296 [a0,a1] h K:=
 ent Tryz.func296 (A:=WF) rfl rfl (Eq.mp (by kernel_rfl) s)
theorem aMm(s:C 81 [a0,a1] h fun v w=>
 RO (aR 0 v) fun x=>
 RO (aR 1 v) fun y=>
 RO (aR 2 v) fun v=>
 gV v true (fun z=>z x w) w fun w x=>
 gV v true (fun z=>z y x) x fun x y=>
 gV v true (fun z=>C 296 [w,x] y fun w x=>
 z w x) y fun w x=>
 RO (bJ w (.bool false) v) fun v=>
 aQ v=true∧K v x):C 370 [a0,a1] h K:=
 ent Tryz.func370 (A:=cT) rfl rfl (Eq.mp (by kernel_rfl) s)
end
end Ev
