/- Proved here: functions of the program, printed as propositions. Conditions: none beyond the hypotheses that each theorem states. -/
import Derived.Test.YtnlkancjfhgdcaaGreatDoorE31
set_option linter.all false
set_option maxRecDepth 100000
open Go Go.Proofs
namespace Ev
noncomputable section
variable{a0 a1 a2 a3 a4 a5 a6 a7 a8 a9 x0 x1 x2 x3 x4 x5 x6 x7 x8 x9 x10 x11 x12 x13 x14 x15 x16 x17 x18 x19 x20:AV}{h:aL}{K:KH}{N:List AV→aL→Prop}{e:Ends}{rt:List AV→aL→Prop}
def MJ:List bH:= [aM 7,aM 2,aM 3,aM 9,aM 8,aM 10]
def aAS(a0 a1:AV)(h:aL)(J:List AV→aL→Prop)(K:KH):Prop:=
 cA (aK a0) (cA (aK a1) (RO (aN 2 (.ptr h.aA 0)) fun v0=>
 RO (aJ (nw (nw h (.cells (aK a0))) (.cells (aK a1))) (.one 0) v0) fun v1=>
 RO (aJ (nw (nw h (.cells (aK a0))) (.cells (aK a1))) (.one 0) (.ptr (nw h (.cells (aK a0))).aA 0)) fun v2=>
 C 86 [v1,v2] (nw (nw h (.cells (aK a0))) (.cells (aK a1))) fun v3 h4=>
 RO (gS .not v3) fun v5=>
 cB v5 (aQ (iv 3)=true∧K (iv 3) h4)
 (RO (aJ h4 (.many 0 5) (.ptr h.aA 0)) fun v6=>
 C 65 [v6] h4 fun v7 h8=>
 RO (aR 0 v7) fun v9=>
 RO (aR 1 v7) fun v10=>
 RO (aO .neq .no v10 (iv 0)) fun v11=>
 cB v11 (aQ v10=true∧K v10 h8)
 (RO (aN 2 (.ptr h.aA 0)) fun v12=>
 cP (fun hh=>cF hh (aJ hh (.one 0) v12)) 0 [(up h8 16)] fun v13=>
 cP (fun hh=>cF hh (aJ hh (.one 0) (.ptr (nw h (.cells (aK a0))).aA 0))) 0 [(up h8 16)] fun v14=>
 RO (cR none 14 v13 (bB v14)) fun v15=>
 cP (fun hh=>cF hh (aJ hh (.many 0 14) v15)) 0 [(up h8 16)] fun v16=>
 RP (aW (nwAt (nwAt (up h8 16) (h8.aA+12) (.cells [(.str []),.aB,(iv 0),(iv 0),.aB,(iv 0),(iv 0),.aB,.aB,.aB,(iv 0),(iv 0),(iv 0),(iv 0)])) (h8.aA+13) (.cells [(iv 0)])) 14 (aK v16) (.ptr (h8.aA+12) 0)) fun v25 h24=>
 RO (aN 2 (.ptr h.aA 0)) fun v17=>
 cP (fun hh=>cF hh (aJ hh (.one 0) v17)) 1 [h24,(up h8 16)] fun v18=>
 cP (fun hh=>cF hh (aJ hh (.one 0) (.ptr (nw h (.cells (aK a0))).aA 0))) 1 [h24,(up h8 16)] fun v19=>
 RO (cR none 14 v18 (bB v19)) fun v20=>
 RO (aN 1 v20) fun v21=>
 cP (fun hh=>cF hh (aJ hh (.one 0) v21)) 1 [h24,(up h8 16)] fun v22=>
 RP (bO .sl [v22] h24) fun v23 h26=>
 RP (aW h26 1 (aK v23) (.ptr (h8.aA+13) 0)) fun v27 h28=>
 RP (aW (nw h28 (.cells [.nilf])) 1 (aK (.func (.func 136) [] [(.ptr (h8.aA+12) 0)])) (.ptr h28.aA 0)) fun v29 h30=>
 J [(.ptr (h8.aA+12) 0),(.ptr h.aA 0),(.ptr (nw h (.cells (aK a0))).aA 0),(.ptr h28.aA 0),(.ptr (h8.aA+13) 0),(.ptr h30.aA 0)] (nw h30 (.cells [(iv 0)]))))))
theorem aPN{a0 a1:AV}{h:aL}{J:List AV→aL→Prop}{K:KH}(s:aAS a0 a1 h J K):wpS cT 0 6 (bL E Tryz.f71).code (pt [a0,a1] 0 .leaf) h (fun t h=>J (hZ t MJ) h) (pD (bL E Tryz.f71).res K):=
 Eq.mp (by kernel_rfl:aAS a0 a1 h J K=wpS cT 0 6 (bL E Tryz.f71).code (pt [a0,a1] 0 .leaf) h (fun t h=>J (hZ t MJ) h) (pD (bL E Tryz.f71).res K)) s
def aAT(x0 x1 x2 x3 x4 x5:AV)(h:aL)(K:KH):Prop:=
 RL (bK [.nilf,(iv 0)] [(0,1,(.func (.func 137) [] [x0])),(1,1,(iv 1))]) fun l0=>cA l0 (
 RL (bK [.nilf,(iv 0)] [(0,1,(.func (.func 138) [] [x1,x2,x3])),(1,1,(iv 5))]) fun l1=>cA l1 (
 RL (bK [.nilf,(iv 0)] [(0,1,(.func (.func 140) [] [x4,x0])),(1,1,(iv 2))]) fun l2=>cA l2 (
 C 141 [x5,(.func (.func 142) [] [x1,x0])] h fun v3 h4=>
 RL (bK [.nilf,(iv 0)] [(0,1,v3),(1,1,(iv (-1)))]) fun l5=>cA l5 (
 RL (bK [.nilf,(iv 0)] [(0,1,(.func (.func 144) [] [x1,x2])),(1,1,(iv 2))]) fun l6=>cA l6 (
 RL (bK [.nilf,(iv 0)] [(0,1,(.func (.func 145) [] [x0,x4])),(1,1,(iv 1))]) fun l7=>cA l7 (
 C 141 [x5,(.func (.func 147) [] [x1,x0,x4])] h4 fun v8 h9=>
 RL (bK [.nilf,(iv 0)] [(0,1,v8),(1,1,(iv (-1)))]) fun l10=>cA l10 (
 C 141 [x5,(.func (.func 149) [] [x1,x0,x4])] h9 fun v11 h12=>
 RL (bK [.nilf,(iv 0)] [(0,1,v11),(1,1,(iv (-1)))]) fun l13=>cA l13 (
 C 141 [x5,(.func (.func 150) [] [x1,x0])] h12 fun v14 h15=>
 RL (bK [.nilf,(iv 0)] [(0,1,v14),(1,1,(iv (-1)))]) fun l16=>cA l16 (
 RL (bK [.nilf,(iv 0)] [(0,1,(.func (.func 152) [] [x0])),(1,1,(iv 11))]) fun l17=>cA l17 (
 RL (bK [.nilf,(iv 0),.nilf,(iv 0),.nilf,(iv 0),.nilf,(iv 0),.nilf,(iv 0),.nilf,(iv 0),.nilf,(iv 0),.nilf,(iv 0),.nilf,(iv 0),.nilf,(iv 0)] [(0,2,(.agg l0)),(2,2,(.agg l1)),(4,2,(.agg l2)),(6,2,(.agg l5)),(8,2,(.agg l6)),(10,2,(.agg l7)),(12,2,(.agg l10)),(14,2,(.agg l13)),(16,2,(.agg l16)),(18,2,(.agg l17))]) fun l18=>cA l18 (
 C 60 [(.slice h15.aA 0 10 10 0)] (nw h15 (.cells l18)) fun v19 h20=>
 RO (aO .eql .no v19 (iv (-1))) fun v21=>
 cB v21 (RO (aJ h20 (.one 0) x5) fun v22=>
 aQ v22=true∧K v22 h20)
 (aQ v19=true∧K v19 h20))))))))))))
theorem aPO{x0 x1 x2 x3 x4 x5:AV}{h:aL}{K:KH}(s:aAT x0 x1 x2 x3 x4 x5 h K):WC cT 0 (wR 6 (bL E Tryz.f71).code) (pts MJ [x0,x1,x2,x3,x4,x5]) h (pD (bL E Tryz.f71).res K):=
 Eq.mp (by kernel_rfl:aAT x0 x1 x2 x3 x4 x5 h K=WC cT 0 (wR 6 (bL E Tryz.f71).code) (pts MJ [x0,x1,x2,x3,x4,x5]) h (pD (bL E Tryz.f71).res K)) s
theorem e71{a0 a1:AV}{h:aL}{K:KH}(s:aAS a0 a1 h (fun vs h'=>∃x0 x1 x2 x3 x4 x5,vs= [x0,x1,x2,x3,x4,x5]∧aAT x0 x1 x2 x3 x4 x5 h' K) K):C 71 [a0,a1] h K:=by
 refine aH1 Tryz.func71 rfl rfl (XJ (aPN s) ?_)
 rintro t' h' ⟨x0,x1,x2,x3,x4,x5,e,q⟩
 refine .weaken (xK.pts t' MJ) ?_
 rw[e]
 exact rB X.mono (aPO q)
end
end Ev
