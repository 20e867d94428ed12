/- Proved here: functions of the program, printed as propositions. Conditions: none beyond the hypotheses that each theorem states. -/
import Derived.Test.YtnlkancjfhgdcaaGreatDoorE30
set_option linter.all false
set_option maxRecDepth 100000
open Go Go.Proofs
namespace Ev
noncomputable section
def wpS(A:Nat→List bH)(cur:Nat):Nat→CC→PT→aL→(PT→aL→Prop)→(eK→Prop)→Prop
 |0,_,t,h,J,_=>J t h
 |n+1,.seq a b,t,h,J,Q=>J9 T M X A cur a t h fun r=>match r with| .norm t h=>wpS A cur n b t h J Q| .exit i t h=>Q (.exit i t h)| .ret t h=>Q (.ret t h)| .fail=>False
 |_+1,_,_,_,_,_=>False
def wR:Nat→CC→CC
 |0,c=>c
 |n+1,.seq _ b=>wR n b
 |_,c=>c
theorem XJ{A:Nat→List bH}{cur:Nat}{J:PT→aL→Prop}{Q:eK→Prop}:∀{n:Nat} {c:CC} {t:PT} {h:aL},wpS A cur n c t h J Q→(∀t' h',J t' h'→W T M X (.code (wR n c) t' h') (RQ fun r=>∃r',Wk r r'∧Q r'))→W T M X (.code c t h) (RQ fun r=>∃r',Wk r r'∧Q r')
 |0,c,t,h,q,k=>k t h q
 |n+1,c,t,h,q,k=>by
  cases c with
  |seq a b=>
   have q:J9 T M X A cur a t h (fun r=>match r with| .norm t h=>wpS A cur n b t h J Q| .exit i t h=>Q (.exit i t h)| .ret t h=>Q (.ret t h)| .fail=>False):=q
   refine .seq (rB X.mono q) (fun t' h' ⟨r',hw,kk⟩=> ?_) (fun r ⟨r',hw,kk⟩ hn=> ?_)
   ·cases r' with
    |norm t2 h2=>
     obtain⟨hw,rfl⟩:=hw
     exact .weaken hw (XJ kk k)
    |_=>exact hw.elim
   ·cases r with
    |norm t h=>exact absurd rfl (hn t h)
    |fail=>cases r' with
     |fail=>exact kk.elim
     |_=>exact hw.elim
    |ret t h=>cases r' with
     |ret t2 h2=>exact⟨_,hw,kk⟩
     |_=>exact hw.elim
    |exit i t h=>cases r' with
     |exit j t2 h2=>exact⟨_,hw,kk⟩
     |_=>exact hw.elim
  |_=>exact q.elim
theorem aH1{f:Nat}{fn:Func}(hf:Tryz.prog.funcs[f]?=some fn){args:List AV}{h:aL}{K:KH}(he:(bL E fn).ext=0)(hn:Nat.ble args.length (bL E fn).nt=true)
  (q:W T M X (.code (bL E fn).code (pt args 0 .leaf) h) (RQ fun r=>∃r',Wk r r'∧pD (bL E fn).res K r')):C f args h K:=by
 refine W.fn (aGM hf) he (ble_eq.1 hn) q (fun r ⟨r',hw,k⟩=> ?_)
 cases r with
 |norm t h=>cases r' with
  |norm t2 h2=>
   obtain⟨hw,rfl⟩:=hw
   obtain⟨vs,e,hk⟩:=pE hw k
   exact⟨_,_,by show cF h2 (zE (pK h2 t (bL E fn).res))=_;rw[e];rfl,hk⟩
  |_=>exact hw.elim
 |ret t h=>cases r' with
  |ret t2 h2=>
   obtain⟨hw,rfl⟩:=hw
   obtain⟨vs,e,hk⟩:=pE hw k
   exact⟨_,_,by show cF h2 (zE (pK h2 t (bL E fn).res))=_;rw[e];rfl,hk⟩
  |_=>exact hw.elim
 |exit i t h=>cases r' with
  |exit j t2 h2=>exact k.elim
  |_=>exact hw.elim
 |fail=>cases r' with
  |fail=>exact k.elim
  |_=>exact hw.elim
def sqR(A:Nat→List bH)(cur:Nat)(b:CC)(Q:eK→Prop):eK→Prop:=fun r=>match r with
 | .norm t h=>J9 T M X A cur b t h Q
 | .exit i t h=>Q (.exit i t h)
 | .ret t h=>Q (.ret t h)
 | .fail=>False
def GC:List bH:= [aM 4,aM 9,aM 12,aM 8,aM 5,aM 6,aM 13,aM 11,aM 10,aM 7]
def aAM(a0 a1 a2 a3:AV)(h:aL)(J:List AV→aL→Prop)(K:KH):Prop:=
 cA (aK a0) (cA (aK a1) (cA (aK a2) (cA (aK a3) (RO (aJ (nw (nw (nw (nw (nw h (.cells (aK a0))) (.cells (aK a1))) (.cells (aK a2))) (.cells (aK a3))) (.cells [.aB])) (.one 0) (.ptr (nw (nw h (.cells (aK a0))) (.cells (aK a1))).aA 0)) fun v0=>
 RO (aO .lss .no v0 (iv 0)) fun v1=>
 gV v1 false (fun k2=>RO (aJ (nw (nw (nw (nw (nw h (.cells (aK a0))) (.cells (aK a1))) (.cells (aK a2))) (.cells (aK a3))) (.cells [.aB])) (.one 0) (.ptr (nw (nw h (.cells (aK a0))) (.cells (aK a1))).aA 0)) fun v3=>
 k2 v3 (nw (nw (nw (nw (nw h (.cells (aK a0))) (.cells (aK a1))) (.cells (aK a2))) (.cells (aK a3))) (.cells [.aB]))) (nw (nw (nw (nw (nw h (.cells (aK a0))) (.cells (aK a1))) (.cells (aK a2))) (.cells (aK a3))) (.cells [.aB])) fun v4 h5=>
 gV v1 false (fun k6=>RO (aN 2 (.ptr h.aA 0)) fun v7=>
 k6 v7 h5) h5 fun v8 h9=>
 gV v1 false (fun k10=>RO (aJ h9 (.one 0) v8) fun v11=>
 k10 v11 h9) h9 fun v12 h13=>
 gV v1 false (fun k14=>RP (bO .sl [v12] h13) fun v15 h16=>
 k14 v15 h16) h13 fun v17 h18=>
 gV v1 false (fun k19=>RO (aO .geq .no v4 v17) fun v20=>
 k19 v20 h18) h18 fun v21 h22=>
 RO (bJ (.bool true) v21 v1) fun v23=>
 gV v23 false (fun k24=>RO (aJ h22 (.one 0) (.ptr (nw (nw (nw h (.cells (aK a0))) (.cells (aK a1))) (.cells (aK a2))).aA 0)) fun v25=>
 k24 v25 h22) h22 fun v26 h27=>
 gV v23 false (fun k28=>RO (aO .lss .no v26 (iv 1)) fun v29=>
 k28 v29 h27) h27 fun v30 h31=>
 RO (bJ (.bool true) v30 v23) fun v32=>
 cB v32 (RP (aW h31 1 (aK .aB) (.ptr (nw (nw (nw (nw h (.cells (aK a0))) (.cells (aK a1))) (.cells (aK a2))) (.cells (aK a3))).aA 0)) fun v33 h34=>
 RO (cE h34 (.one 0) (.ptr (nw (nw (nw (nw h (.cells (aK a0))) (.cells (aK a1))) (.cells (aK a2))) (.cells (aK a3))).aA 0)) fun v35=>K v35 h34)
 (RO (aN 2 (.ptr h.aA 0)) fun v36=>
 RO (aJ h31 (.one 0) v36) fun v37=>
 RO (aJ h31 (.one 0) (.ptr (nw (nw h (.cells (aK a0))) (.cells (aK a1))).aA 0)) fun v38=>
 RO (cR none 14 v37 (bB v38)) fun v39=>
 RO (aJ h31 (.many 0 14) v39) fun v40=>
 RP (aW (nw h31 (.cells [(.str []),.aB,(iv 0),(iv 0),.aB,(iv 0),(iv 0),.aB,.aB,.aB,(iv 0),(iv 0),(iv 0),(iv 0)])) 14 (aK v40) (.ptr h31.aA 0)) fun v41 h42=>
 RO (aN 5 (.ptr h31.aA 0)) fun v43=>
 cP (fun hh=>cF hh (aJ hh (.one 0) v43)) 0 [(up h42 16)] fun v44=>
 RO (aN 7 (.ptr h31.aA 0)) fun v45=>
 cP (fun hh=>cF hh (aJ hh (.one 0) v45)) 0 [(up h42 16)] fun v46=>
 RP (bO .sl [v46] (up h42 16)) fun v47 h48=>
 C 172 [v44,v47] h48 fun v49 h50=>
 RO (aN 6 (.ptr h31.aA 0)) fun v51=>
 cP (fun hh=>cF hh (aJ hh (.one 0) v51)) 1 [h50,(up h42 16)] fun v52=>
 RO (aN 8 (.ptr h31.aA 0)) fun v53=>
 cP (fun hh=>cF hh (aJ hh (.one 0) v53)) 1 [h50,(up h42 16)] fun v54=>
 RP (bO .sl [v54] h50) fun v55 h56=>
 C 172 [v52,v55] h56 fun v57 h58=>
 RP (aW (nwAt (nwAt h58 (h42.aA+12) (.cells [.aB])) (h42.aA+13) (.cells [.aB])) 1 (aK v49) (.ptr (h42.aA+12) 0)) fun v59 h60=>
 RP (aW h60 1 (aK v57) (.ptr (h42.aA+13) 0)) fun v61 h62=>
 J [(.ptr h.aA 0),(.ptr h31.aA 0),(.ptr h62.aA 0),(.ptr (nw (nw (nw (nw h (.cells (aK a0))) (.cells (aK a1))) (.cells (aK a2))) (.cells (aK a3))).aA 0),(.ptr (nw h (.cells (aK a0))).aA 0),(.ptr (nw (nw h (.cells (aK a0))) (.cells (aK a1))).aA 0),bS,(.ptr (h42.aA+13) 0),(.ptr (h42.aA+12) 0),(.ptr (nw (nw (nw h (.cells (aK a0))) (.cells (aK a1))) (.cells (aK a2))).aA 0)] (nw h62 (.cells [.aB])))))))
theorem aNV{a0 a1 a2 a3:AV}{h:aL}{J:List AV→aL→Prop}{K:KH}(s:aAM a0 a1 a2 a3 h J K):wpS cT 0 5 (bL E Tryz.f88).code (pt [a0,a1,a2,a3] 0 .leaf) h (fun t h=>J (hZ t GC) h) (pD (bL E Tryz.f88).res K):=
 Eq.mp (by kernel_rfl:aAM a0 a1 a2 a3 h J K=wpS cT 0 5 (bL E Tryz.f88).code (pt [a0,a1,a2,a3] 0 .leaf) h (fun t h=>J (hZ t GC) h) (pD (bL E Tryz.f88).res K)) s
def tV:List bH:= [aM 76,aM 75,aM 74,aM 14,aM 16,aM 13,aM 12,aM 6,aM 7,aM 8]
def OH:CC:=cQ [0,1,1,1,1,0,0] (cQ [1,1,1,1,1,0,1,0,1] (bL E Tryz.f88).code)
def tW:List bH:= [aM 86,aM 85,aM 84,aM 13,aM 18,aM 12,aM 6,aM 7,aM 8,aM 76,aM 75,aM 74,aM 14,aM 16]
def OI:CC:=cQ [0,1,1,1,1,0,0,1,1,0,0,1,1,1,0,0] (cQ [1,1,1,1,1,0,1,0,1] (bL E Tryz.f88).code)
def y6(n:Nat):List bH:=bif Nat.beq n 2 then tV else bif Nat.beq n 4 then tW else []
def OJ(x0 x1 x2 x3 x4 x5 x6 x7 x8 x9:AV)(h:aL)(N:List AV→aL→Prop)(e:Ends)(rt:List AV→aL→Prop):Prop:=
 RO (aO .lss .no x0 x1) fun v36=>
 cB v36 ((fun(j37:AV→AV→AV→AV→AV→AV→AV→AV→AV→AV→aL→Prop)=>
 RO (cR none 1 x2 (bB x0)) fun v38=>
 RO (aJ h (.one 0) v38) fun v39=>
 RO (aJ h (.many 0 21) x3) fun v40=>
 C 180 [v40,v39] h fun v41 h42=>
 RO (aO .neq .no v41 (iv 0)) fun v43=>
 cB v43 (j37 x0 x1 x2 x3 x4 x5 x6 x7 x8 x9 h42)
 (RP (bO .sl [x4] h42) fun v44 h45=>
 gL tW OI [(iv 0),v44,x4,x5,v39,x6,x7,x8,x9,x0,x1,x2,x3,x4] h45 [(4,fun vs46 h47=>
 j37 (bD vs46 9) (bD vs46 10) (bD vs46 11) (bD vs46 12) (bD vs46 13) (bD vs46 3) (bD vs46 5) (bD vs46 6) (bD vs46 7) (bD vs46 8) h47)] fun vs48 h49=>
 rt [(bD vs48 9),(bD vs48 10),(bD vs48 11),(bD vs48 12),(bD vs48 13),(bD vs48 3),(bD vs48 5),(bD vs48 6),(bD vs48 7),(bD vs48 8)] h49))
 fun x50 x51 x52 x53 x54 x55 x56 x57 x58 x59 h60=>
 RO (aO .add .no x50 (iv 1)) fun v61=>
 N [v61,x51,x52,x53,x54,x55,x56,x57,x58,x59] h60)
 (bX e 2 [x0,x1,x2,x3,x4,x5,x6,x7,x8,x9] h)
theorem aDP{x0 x1 x2 x3 x4 x5 x6 x7 x8 x9:AV}{h:aL}{N:List AV→aL→Prop}{e:Ends}{rt:List AV→aL→Prop}(s:OJ x0 x1 x2 x3 x4 x5 x6 x7 x8 x9 h N e rt):WC y6 2 OH (pts tV [x0,x1,x2,x3,x4,x5,x6,x7,x8,x9]) h (hC tV N e rt):=
 Eq.mp (by kernel_rfl:OJ x0 x1 x2 x3 x4 x5 x6 x7 x8 x9 h N e rt=WC y6 2 OH (pts tV [x0,x1,x2,x3,x4,x5,x6,x7,x8,x9]) h (hC tV N e rt)) s
def OK(x0 x1 x2 x3 x4 x5 x6 x7 x8 x9 x10 x11 x12 x13:AV)(h:aL)(N:List AV→aL→Prop)(e:Ends)(rt:List AV→aL→Prop):Prop:=
 RO (aO .lss .no x0 x1) fun v62=>
 cB v62 (RO (cR none 1 x2 (bB x0)) fun v63=>
 RO (aJ h (.one 0) v63) fun v64=>
 C 46 [x3] (up h 12) fun v65 h66=>
 C 46 [x4] h66 fun v67 h68=>
 C 46 [v64] h68 fun v69 h70=>
 cP (fun hh=>cF hh (aJ hh (.one 0) x5)) 3 [h70,h68,h66,(up h 12)] fun v71=>
 cP (fun hh=>cF hh (aJ hh (.one 0) x6)) 3 [h70,h68,h66,(up h 12)] fun v72=>
 RL (bK [(iv 0),.aB,.aB,.aB] [(0,1,v72),(1,1,v65),(2,1,v67),(3,1,v69)]) fun l73=>cA l73 (
 RL (bK [(iv 0),.aB,.aB,.aB] [(0,4,(.agg l73))]) fun l74=>cA l74 (
 RP (cY 4 [v71,(.slice (h.aA+9) 0 1 1 0)] (nwAt h70 (h.aA+9) (.cells l74))) fun v75 h76=>
 RP (aW h76 1 (aK v75) x5) fun v77 h78=>
 RO (aJ h78 (.one 0) x5) fun v79=>
 RP (bO .sl [v79] h78) fun v80 h81=>
 RO (aJ h81 (.one 0) x7) fun v82=>
 RO (aO .eql .no v80 v82) fun v83=>
 cB v83 (RO (aJ h81 (.one 0) x5) fun v84=>
 RP (aW h81 1 (aK v84) x8) fun v85 h86=>
 rt [x0,x1,x2,x3,x4,x5,x6,x7,x8,x9,x10,x11,x12,x13] h86)
 (RO (aO .add .no x0 (iv 1)) fun v87=>
 N [v87,x1,x2,x3,x4,x5,x6,x7,x8,x9,x10,x11,x12,x13] h81))))
 (bX e 4 [x0,x1,x2,x3,x4,x5,x6,x7,x8,x9,x10,x11,x12,x13] h)
theorem aDQ{x0 x1 x2 x3 x4 x5 x6 x7 x8 x9 x10 x11 x12 x13:AV}{h:aL}{N:List AV→aL→Prop}{e:Ends}{rt:List AV→aL→Prop}(s:OK x0 x1 x2 x3 x4 x5 x6 x7 x8 x9 x10 x11 x12 x13 h N e rt):WC y6 4 OI (pts tW [x0,x1,x2,x3,x4,x5,x6,x7,x8,x9,x10,x11,x12,x13]) h (hC tW N e rt):=
 Eq.mp (by kernel_rfl:OK x0 x1 x2 x3 x4 x5 x6 x7 x8 x9 x10 x11 x12 x13 h N e rt=WC y6 4 OI (pts tW [x0,x1,x2,x3,x4,x5,x6,x7,x8,x9,x10,x11,x12,x13]) h (hC tW N e rt)) s
def aDR(x0 x1 x2 x3 x4 x5 x6 x7 x8:AV)(h:aL)(l:Nat)(K:KH):Prop:=
 RO (aJ h (.many 0 5) x0) fun v0=>
 RO (aJ h (.one 0) x1) fun v1=>
 RO (aJ h (.one 0) x2) fun v2=>
 C 174 [v0,v1,v2,x3] h fun v3 h4=>
 RO (aR 0 v3) fun v5=>
 RO (aR 1 v3) fun v6=>
 RP (aW (nw h4 (.cells [.aB,.aB,.aB,(iv 0),(iv 0),.aB,(.str []),.aB,(iv 0),(iv 0),.aB,(iv 0),(iv 0),.aB,.aB,.aB,(iv 0),(iv 0),(iv 0),(iv 0),.aB])) 21 (aK v5) (.ptr h4.aA 0)) fun v7 h8=>
 RO (aO .neq .no v6 (iv 0)) fun v9=>
 gV v9 false (fun k10=>RO (aJ h8 (.many 0 21) (.ptr h4.aA 0)) fun v11=>
 k10 v11 h8) h8 fun v12 h13=>
 gV v9 false (fun k14=>C 175 [v12] h13 fun v15 h16=>
 k14 v15 h16) h13 fun v17 h18=>
 gV v9 false (fun k19=>RO (aO .neq .no v17 (iv 0)) fun v20=>
 k19 v20 h18) h18 fun v21 h22=>
 RO (bJ (.bool true) v21 v9) fun v23=>
 cB v23 (yE l true .ready none h22 K (aP h22 l))
 (RO (aJ h22 (.one 0) x4) fun v24=>
 C 177 [v24] h22 fun v25 h26=>
 C 176 [v25,(.func (.func 178) [] [(.ptr h4.aA 0)])] h26 fun v27 h28=>
 RO (aJ h28 (.one 0) x5) fun v29=>
 RP (bO .sl [v29] h28) fun v30 h31=>
 gL tV OH [(iv 0),v30,v29,(.ptr h4.aA 0),v27,x3,x6,x2,x7,x8] h31 [(2,fun vs32 h33=>
 yE l true .ready none h33 K (aP h33 l))] fun vs34 h35=>
 yE l false .done (some .ret) h35 K (aP h35 l))
def S6:CC:=(bL E Tryz.f88).code
def r88:CC:=cQ [1,1,1,1,1,0,1,0] S6
def wS:CC:= .ops [⟨none,.move (.tmp (aM 54)),some (aM 13)⟩]
def oS:CC:=match r88 with| .range _ _ _ b=>b|_=> .skip
theorem aDS:r88= .range (.tmp (aM 53)) [aM 54] wS oS:=by kernel_rfl
def S7(vs:List AV)(a b f:AV):PT:=PT.set f (aM 53) (PT.set b (aM 52) (PT.set a (aM 51) (pts GC vs)))
def aAN(x4 x9 x12 x8 x5 x6 x13 x11 x10 x7:AV)(h:aL)(K:KH):Prop:=
 RO (aJ h (.many 0 5) x4) fun v51=>
 RO (aJ h (.many 0 14) x9) fun v52=>
 C 173 [v51,v52] h fun v53 h1=>∃g first cap,v53= .func (.func g) first cap∧
  C g (first++(.func (.yield h1.aA) [] []::cap)) (nw h1 (mB (S7 [x4,x9,x12,x8,x5,x6,x13,x11,x10,x7] v51 v52 v53) [aM 54] wS oS .ready none))
   (fun _ h2=>rgE h1.aA h2 (fun h3=>RO (aJ h3 (.one 0) x12) fun v=>RP (aW h3 1 (aK v) x8) fun _ h4=>RO (cE h4 (.one 0) x8) fun w=>K w h4) (fun h3=>RO (cE h3 (.one 0) x8) fun w=>K w h3) (aP h2 h1.aA))
theorem QN{x:Option AV}{K K':AV→Prop}(q:RO x K)(m:∀v,K v→K' v):RO x K':=by
 obtain⟨v,e,k⟩:=CT q;exact tK e (m v k)
theorem aNX{x4 x9 x12 x8 x5 x6 x13 x11 x10 x7:AV}{h:aL}{K:KH}(s:aAN x4 x9 x12 x8 x5 x6 x13 x11 x10 x7 h K):WC cT 0 (wR 5 S6) (pts GC [x4,x9,x12,x8,x5,x6,x13,x11,x10,x7]) h (pD (bL E Tryz.f88).res K):=by
 refine Eq.mp (by kernel_rfl:(RO (aJ h (.many 0 5) x4) fun v51=>RO (aJ h (.many 0 14) x9) fun v52=>C 173 [v51,v52] h fun v53 h1=>
  W T M X (.code r88 (S7 [x4,x9,x12,x8,x5,x6,x13,x11,x10,x7] v51 v52 v53) h1) (RQ fun r=>sqR cT 0 (cQ [1] (wR 5 S6)) (pD (bL E Tryz.f88).res K) (jM 0 r)))=
  WC cT 0 (wR 5 S6) (pts GC [x4,x9,x12,x8,x5,x6,x13,x11,x10,x7]) h (pD (bL E Tryz.f88).res K)) ?_
 refine QN s fun v51 s=>QN s fun v52 s=>aCw s ?_
 rintro v53 h1 ⟨g,first,cap,rfl,q⟩
 rw[aDS]
 refine D4 (g:=g) (first:=first) (cap:=cap) (by kernel_rfl) q ?_ ?_
 ·intro h' q
  exact Eq.mp (by kernel_rfl:(RO (aJ h' (.one 0) x12) fun v=>RP (aW h' 1 (aK v) x8) fun _ h4=>RO (cE h4 (.one 0) x8) fun w=>K w h4)=sqR cT 0 (cQ [1] (wR 5 S6)) (pD (bL E Tryz.f88).res K) (jM 0 (.norm (S7 [x4,x9,x12,x8,x5,x6,x13,x11,x10,x7] v51 v52 (.func (.func g) first cap)) h'))) q
 ·intro h' q
  exact Eq.mp (by kernel_rfl:(RO (cE h' (.one 0) x8) fun w=>K w h')=sqR cT 0 (cQ [1] (wR 5 S6)) (pD (bL E Tryz.f88).res K) (jM 0 (.ret (S7 [x4,x9,x12,x8,x5,x6,x13,x11,x10,x7] v51 v52 (.func (.func g) first cap)) h'))) q
theorem e88{a0 a1 a2 a3:AV}{h:aL}{K:KH}(s:aAM a0 a1 a2 a3 h (fun vs h'=>∃x4 x9 x12 x8 x5 x6 x13 x11 x10 x7,vs= [x4,x9,x12,x8,x5,x6,x13,x11,x10,x7]∧aAN x4 x9 x12 x8 x5 x6 x13 x11 x10 x7 h' K) K):C 88 [a0,a1,a2,a3] h K:=by
 refine aH1 Tryz.func88 rfl rfl (XJ (aNV s) ?_)
 rintro t' h' ⟨x4,x9,x12,x8,x5,x6,x13,x11,x10,x7,e,q⟩
 refine .weaken (xK.pts t' GC) ?_
 rw[e]
 exact rB X.mono (aNX q)
theorem y88{x4 x9 x12 x8 x5 x6 x13 x11 x10 x7 a b f v:AV}{l:Nat}{h:aL}{K:KH}(hb:aP h l=some (mB (S7 [x4,x9,x12,x8,x5,x6,x13,x11,x10,x7] a b f) [aM 54] wS oS .ready none))
  (q:∀h2,h2=bI h l (mB (S7 [x4,x9,x12,x8,x5,x6,x13,x11,x10,x7] a b f) [aM 54] wS oS .busy none)→aDR x4 x5 x6 v x11 x10 x12 x7 x8 h2 l K):
  CV (.func (.yield l) [] []) [v] h K:=by
 refine V8 (A:=y6) (ca:=0) (cb:=0) (r:={state:= .ready,pending:=none,tmps:=S7 [x4,x9,x12,x8,x5,x6,x13,x11,x10,x7] a b f,params:= [aM 54],assign:=wS,body:=oS}) (tm0:=PT.set v (aM 54) (S7 [x4,x9,x12,x8,x5,x6,x13,x11,x10,x7] a b f)) hb rfl rfl ?_
 have q:=q _ rfl
 exact⟨hb,Eq.mp (by kernel_rfl:aDR x4 x5 x6 v x11 x10 x12 x7 x8 (bI h l (mB (S7 [x4,x9,x12,x8,x5,x6,x13,x11,x10,x7] a b f) [aM 54] wS oS .busy none)) l K=
  WC y6 0 oS (PT.set v (aM 13) (PT.set v (aM 54) (S7 [x4,x9,x12,x8,x5,x6,x13,x11,x10,x7] a b f))) (bI h l (mB (S7 [x4,x9,x12,x8,x5,x6,x13,x11,x10,x7] a b f) [aM 54] wS oS .busy none)) (yQ l K)) q⟩
end
end Ev
