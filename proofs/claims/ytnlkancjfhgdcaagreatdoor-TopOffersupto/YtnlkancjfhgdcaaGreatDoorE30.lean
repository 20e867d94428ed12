/- Proved here: the evaluator over abstract heaps and its soundness against the model. Conditions: none beyond the hypotheses that each theorem states. -/
import Derived.Test.YtnlkancjfhgdcaaGreatDoorE29
import Derived.Test.YtnlkancjfhgdcaaGreatDoorE28
import Derived.Test.YtnlkancjfhgdcaaGreatDoorE09
set_option linter.all false
set_option maxRecDepth 100000
open Go
namespace Ev
section
open Go.Proofs
noncomputable section
def uE(h:aL)(p:Nat)(K:KH):KH:=fun v h'=>(∀b,b<h.aA→b≠p→aP h' b=aP h b)∧∃v2 l l2,Fz h'.t h.aA v v2∧aP h' p=some (.cells l)∧oD h'.t h.aA l l2∧K v2 (bI h p (.cells l2))
theorem wU{f p:Nat}{args:List AV}{h:aL}{K:KH}(hp:p<h.aA)(q:C f args h (uE h p K)):C f args h K:=by
 refine W.cool q (fun v h' ⟨h1,v2,l,l2,h2,h3,h4,h5⟩=>⟨v2,bI h p (.cells l2),⟨h2,bC _ _ _,fun b hb=> .inr ?_,fun b hb=> ?_⟩,h5⟩)
 ·show aP (bI h p _) b=aP h b
  rw[aX,if_neg (by omega)]
 ·show Z6 _ _ (aP h b) (aP h' b) (aP (bI h p _) b)
  by_cases e:b=p
  ·subst e
   rw[aU]
   exact .inr (.inr (.inl ⟨l,l2,h3,rfl,h4⟩))
  ·rw[aX,if_neg e]
   exact .inr (.inl ⟨(h1 b hb e).symm,h1 b hb e⟩)
theorem oD.same{t:bE AO}{m:Nat}:∀{l:List AV},bP l=true→oD t m l l
 | [],_=> .nil
 |v::l,h=>by
  simp only[bP,aI]at h
  exact .cons (.same h.1) (oD.same h.2)
end
end
section
open Go.Proofs
noncomputable section
theorem aIl:M 393 "Len" =some (493,some (.one 0)):=by kernel_rfl
theorem aD2:M 393 "Less" =some (494,some (.one 0)):=by kernel_rfl
theorem aD3:M 393 "Swap" =some (495,some (.one 0)):=by kernel_rfl
theorem aIm:M 393 "Pop" =some (496,none):=by kernel_rfl
theorem aD4:M 393 "Push" =some (497,none):=by kernel_rfl
attribute [local irreducible] M in
theorem aD5{name:String}{f qp:Nat}{args:List AV}{h:aL}{v:AV}{K:KH}(hM:M 393 name=some (f,some (.one 0)))(hv:aJ h (.one 0) (.ptr qp 0)=some v)(k:C f (v::args) h K):CI (.iface 393 (.ptr qp 0)) name args h K:=by
 show cI2 T M X (.ptr qp 0) args h K (M 393 name)
 rw[hM]
 show RO (sM h (.ptr qp 0) (some (.one 0))) _
 exact tK hv k
attribute [local irreducible] M in
theorem aIn{name:String}{f qp:Nat}{args:List AV}{h:aL}{K:KH}(hM:M 393 name=some (f,none))(k:C f (.ptr qp 0::args) h K):CI (.iface 393 (.ptr qp 0)) name args h K:=by
 show cI2 T M X (.ptr qp 0) args h K (M 393 name)
 rw[hM]
 exact tK (x:=sM h (.ptr qp 0) none) (K:=fun y'=>F T M X f (y'::args) h K) rfl k
end
end
section
open Go.Proofs
noncomputable section
def yE(l:Nat)(b:Bool)(st:LoopState)(j:Option zC)(h:aL)(K:KH):Option AO→Prop
 |some (.loop r)=>K (.bool b) (bI h l (.loop {r with state:=st,pending:=j}))
 |_=>False
def yQ(l:Nat)(K:KH):eK→Prop
 | .norm _ h=>yE l true .ready none h K (aP h l)
 | .ret _ h=>yE l false .done (some .ret) h K (aP h l)
 | .exit i _ h=>yE l false .done (some (.exit i)) h K (aP h l)
 | .fail=>False
theorem OE{l:Nat}{b:Bool}{st:LoopState}{j:Option zC}{h:aL}{K:KH}{x:Option AO}(q:yE l b st j h K x):∃r,x=some (.loop r)∧K (.bool b) (bI h l (.loop {r with state:=st,pending:=j})):=by
 cases x with
 |none=>exact q.elim
 |some o=>cases o with
  |loop r=>exact⟨r,rfl,q⟩
  |_=>exact q.elim
theorem V8{A:Nat→List bH}{ca cb l:Nat}{args:List AV}{h:aL}{K:KH}{r:yW}{tm0:PT}(hb:aP h l=some (.loop r))(hr:qN r.state=true)(hp:kO r.tmps r.params args=some tm0)
  (q:WC A ca r.assign tm0 h (fun res=>match res with
   | .norm tm1 h2=>aP h2 l=some (.loop r)∧WC A cb r.body tm1 (bI h2 l (.loop {r with state:= .busy})) (yQ l K)
   |_=>False)):CV (.func (.yield l) [] []) args h K:=by
 show Y T M X l args h K
 unfold Y
 refine W.yld hb hp (rB X.mono q) ?_ (Rb:=fun x=>∃r,x= .res r∧∃r',Wk r r'∧yQ l K r') ?_ ?_
 ·rintro res ⟨r',hw,k⟩
  cases r' with
  |norm t2 h2=>cases res with
   |norm t1 h1=>
    obtain⟨-,rfl⟩:=hw
    exact⟨t1,_,r,rfl,k.1,hr⟩
   |_=>exact hw.elim
  |_=>exact k.elim
 ·rintro tm1 h1 r1 ⟨r',hw,k⟩ hb1
  cases r' with
  |norm t2 h2=>
   obtain⟨hw,rfl⟩:=hw
   obtain⟨k1,k2⟩:=k
   rw[k1]at hb1
   cases hb1
   refine W.mono (W.weaken hw (rB X.mono k2)) X.mono ?_
   intro x hx
   cases x with
   |res r=>exact⟨r,rfl,hx⟩
   |val v h=>exact hx.elim
  |_=>exact k.elim
 ·rintro res ⟨r1,e,r',hw,k⟩
  cases e
  cases r' with
  |norm t2 h2=>cases res with
   |norm t1 h1=>
    obtain⟨-,rfl⟩:=hw
    obtain⟨r3,e3,k⟩:=OE k
    exact⟨_,_,by show zF l true .ready none _ _=_;rw[e3];rfl,k⟩
   |_=>exact hw.elim
  |ret t2 h2=>cases res with
   |ret t1 h1=>
    obtain⟨-,rfl⟩:=hw
    obtain⟨r3,e3,k⟩:=OE k
    exact⟨_,_,by show zF l false .done (some .ret) _ _=_;rw[e3];rfl,k⟩
   |_=>exact hw.elim
  |exit i t2 h2=>cases res with
   |exit j t1 h1=>
    obtain⟨rfl,-,rfl⟩:=hw
    obtain⟨r3,e3,k⟩:=OE k
    exact⟨_,_,by show zF l false .done (some (.exit _)) _ _=_;rw[e3];rfl,k⟩
   |_=>exact hw.elim
  |fail=>exact k.elim
def mB(t:PT)(ps:List bH)(asn body:CC)(st:LoopState)(pend:Option zC):AO:= .loop {state:=st,pending:=pend,tmps:=t,params:=ps,assign:=asn,body:=body}
def rgE(l:Nat)(h:aL)(N R:aL→Prop):Option AO→Prop
 |some (.loop r)=>HO r.state=false∧(match r.pending with|none=>N (jK h l)|some .ret=>R (jK h l)|_=>False)
 |_=>False
@[go_sem]theorem aFp(t:PT)(ps:List bH)(asn body:CC)(l:Nat)(h:aL)(N R:aL→Prop):rgE l h N R (some (mB t ps asn body .ready none))=N (jK h l):=by
 show(false=false∧N (jK h l))=_
 simp
@[go_sem]theorem aMf(t:PT)(ps:List bH)(asn body:CC)(st st':LoopState)(p j:Option zC)(l:Nat)(b:Bool)(h:aL)(K:KH):yE l b st' j h K (some (mB t ps asn body st p))=K (.bool b) (bI h l (mB t ps asn body st' j)):=rfl
theorem D4{f:CO}{ps:List bH}{asn body:CC}{t:PT}{h:aL}{g:Nat}{first cap:List AV}{Q:eK→Prop}{N R:aL→Prop}(hf:cH t f= .func (.func g) first cap)
  (q:C g (first++(.func (.yield h.aA) [] []::cap)) (nw h (mB t ps asn body .ready none)) (fun _ h2=>rgE h.aA h2 N R (aP h2 h.aA))) (hN:∀h',N h'→Q (.norm t h')) (hR:∀h',R h'→Q (.ret t h')):
  W T M X (.code (.range f ps asn body) t h) (RQ Q):=by
 have e:xT h (.loop {state:= .ready,pending:=none,tmps:=t,params:=ps,assign:=asn,body:=body})=nw h (mB t ps asn body .ready none):=by cases h;rfl
 refine W.range hf (by rw[e];exact q) ?_
 intro v h2 hv
 have hv:rgE h.aA h2 N R (aP h2 h.aA):=hv
 unfold rgE at hv
 split at hv
 ·rename_i r hb
  obtain⟨h1,hv⟩:=hv
  have e2:sO h.aA t h2 (some (.loop r))=VU t (jK h2 h.aA) r.pending:=by
   show(bif HO r.state then eK.fail else VU t (jK h2 h.aA) r.pending)=_
   rw[h1];rfl
  split at hv
  ·rename_i hp
   refine⟨_,rfl,?_⟩
   rw[hb,e2,hp]
   exact⟨(by intro h;cases h),hN _ hv⟩
  ·rename_i hp
   refine⟨_,rfl,?_⟩
   rw[hb,e2,hp]
   exact⟨(by intro h;cases h),hR _ hv⟩
  ·exact hv.elim
 ·exact hv.elim
end
end
section
open Go.Proofs
noncomputable section
def sqQ(A:Nat→List bH)(cur:Nat)(b:CC)(Q:eK→Prop):eK→Prop:=fun r=>match r with
 | .norm t h=>J9 T M X A cur b t h Q
 | .exit i t h=>Q (.exit i t h)
 | .ret t h=>Q (.ret t h)
 | .fail=>False
def V7:CC:=(bL E Tryz.f366).code
def aC2:CC:=cQ [1,0,1,0] V7
def jN:CC:= .ops [⟨none,.move (.tmp (aM 7)),some (aM 5)⟩]
def gC:CC:=match aC2 with| .range _ _ _ b=>b|_=> .skip
def uW(a0 a1 p:AV):PT:=PT.set a1 (aM 6) (PT.set .aB (aM 4) (PT.set p (aM 2) (pt [a0,a1] 0 .leaf)))
theorem aAB:aC2= .range (.tmp (aM 6)) [aM 7] jN gC:=by kernel_rfl
theorem aMd{a0:AV}{g:Nat}{first cap:List AV}{h:aL}{K:KH}
  (s:cA (aK a0) (C g (first++(.func (.yield (h.aA+1)) [] []::cap)) (nw (nw h (.cells (aK a0))) (mB (uW a0 (.func (.func g) first cap) (.ptr h.aA 0)) [aM 7] jN gC .ready none))
   (fun _ h2=>rgE (h.aA+1) h2 (fun h3=>RO (aJ h3 (.one 0) (.ptr h.aA 0)) fun v=>aQ v=true∧K v h3) (fun _=>False) (aP h2 (h.aA+1))))):C 366 [a0,.func (.func g) first cap] h K:=by
 refine ent Tryz.func366 (A:=cT) rfl rfl (Eq.mp (by kernel_rfl:(cA (aK a0) (W T M X (.code aC2 (uW a0 (.func (.func g) first cap) (.ptr h.aA 0)) (nw h (.cells (aK a0)))) (RQ fun r=>sqQ cT 0 (cQ [1,1] V7) (pD (bL E Tryz.f366).res K) (jM 0 r))))=
  WC cT 0 (bL E Tryz.f366).code (pt [a0,.func (.func g) first cap] 0 .leaf) h (pD (bL E Tryz.f366).res K)) ?_)
 obtain⟨s1,s2⟩:=s
 refine⟨s1,?_⟩
 rw[aAB]
 have en:(nw h (.cells (aK a0))).aA=h.aA+1:=aT _ _
 refine D4 (g:=g) (first:=first) (cap:=cap) (N:=fun h3=>RO (aJ h3 (.one 0) (.ptr h.aA 0)) fun v=>aQ v=true∧K v h3) (R:=fun _=>False) (by kernel_rfl) ?_ ?_ (fun h' q=>q.elim)
 ·rw[en];exact s2
 ·intro h' q
  exact Eq.mp (by kernel_rfl:(RO (aJ h' (.one 0) (.ptr h.aA 0)) fun v=>aQ v=true∧K v h')=sqQ cT 0 (cQ [1,1] V7) (pD (bL E Tryz.f366).res K) (jM 0 (.norm (uW a0 (.func (.func g) first cap) (.ptr h.aA 0)) h'))) q
theorem aMe{a0 f p v:AV}{l:Nat}{h:aL}{K:KH}(hb:aP h l=some (mB (uW a0 f p) [aM 7] jN gC .ready none))
  (q:∀h2,h2=bI h l (mB (uW a0 f p) [aM 7] jN gC .busy none)→RO (aJ h2 (.one 0) p) fun v0=>RL (bK [(iv 0)] [(0,1,v)]) fun l0=>cA l0 (RP (cY 1 [v0,.slice h2.aA 0 1 1 0] (nw h2 (.cells l0))) fun v1 h3=>RP (aW h3 1 (aK v1) p) fun v2 h4=>yE l true .ready none h4 K (aP h4 l))):
  CV (.func (.yield l) [] []) [v] h K:=by
 refine V8 (A:=cT) (ca:=0) (cb:=0) (r:={state:= .ready,pending:=none,tmps:=uW a0 f p,params:= [aM 7],assign:=jN,body:=gC}) (tm0:=PT.set v (aM 7) (uW a0 f p)) hb rfl rfl ?_
 have q:=q _ rfl
 exact⟨hb,Eq.mp (by kernel_rfl:(RO (aJ (bI h l (mB (uW a0 f p) [aM 7] jN gC .busy none)) (.one 0) p) fun v0=>RL (bK [(iv 0)] [(0,1,v)]) fun l0=>cA l0 (RP (cY 1 [v0,.slice (bI h l (mB (uW a0 f p) [aM 7] jN gC .busy none)).aA 0 1 1 0] (nw (bI h l (mB (uW a0 f p) [aM 7] jN gC .busy none)) (.cells l0))) fun v1 h3=>RP (aW h3 1 (aK v1) p) fun v2 h4=>yE l true .ready none h4 K (aP h4 l)))=
  WC cT 0 gC (PT.set v (aM 5) (PT.set v (aM 7) (uW a0 f p))) (bI h l (mB (uW a0 f p) [aM 7] jN gC .busy none)) (yQ l K)) q⟩
end
end
section
open Go.Proofs
noncomputable section
def q8:cX:={code:= .ops [⟨none,.move (.val (strs qZ)),some (aM 0)⟩],res:= [.tmp (aM 0)],ext:=0,nt:=0}
def T':bE cX:=fS T 322 (some q8)
def Rp0(prev:eL):Prop:=∀t h,prev q8.code t h= .fail∨prev q8.code t h= .norm (put t (strs qZ) (some (aM 0))) h
theorem aI7:∀k,Rp0 (ev T' M k)
 |0=>fun t h=> .inl rfl
 |k+1=>fun t h=> .inr rfl
theorem aI8{args:List AV}{h:aL}(ha:args= []):W T M X (.fn 322 args h) (fun x=>x= .val (strs qZ) h):=by
 subst ha
 have:C 322 [] h (fun v h'=>v=strs qZ∧h'=h):=aIH ⟨rfl,rfl⟩
 have w:W T M X (.fn 322 [] h) (V fun v h'=>v=strs qZ∧h'=h):=this
 exact W.mono w X.mono fun x hx=>by
  cases x with
  |val v h'=>obtain⟨rfl,rfl⟩:=hx;rfl
  |res r=>exact hx.elim
theorem aI9:aBW Rp0 T T' M X:=by
 intro f
 by_cases e:f=322
 ·right
  refine⟨q8,by unfold T';rw[bE.get_tset,if_pos e],rfl,fun prev args h v h' hp hc=> ?_⟩
  subst e
  have hc:(bif Nat.ble args.length 0 then tU q8.res (prev q8.code (pt args 0 .leaf) h)else .bad)= .ok v h':=hc
  cases ha:args with
  |cons a l=>rw[ha]at hc;cases hc
  |nil=>
   rw[ha]at hc
   have hc:tU q8.res (prev q8.code (pt [] 0 .leaf) h)= .ok v h':=hc
   rcases hp (pt [] 0 .leaf) h with q|q
   ·rw[q]at hc;cases hc
   ·rw[q]at hc
    have:tU q8.res (.norm (put (pt [] 0 .leaf) (strs qZ) (some (aM 0))) h)= .ok (strs qZ) h:=rfl
    rw[this]at hc
    cases hc
    exact aI8 rfl
 ·left
  unfold T';rw[bE.get_tset,if_neg e]
theorem evW{k f:Nat}{args:List AV}{h h0:aL}{v:AV}(e:gZ T' (ev T' M k) f args h= .ok v h0):W T M X (.fn f args h) (V fun v' h'=>v'=v∧h'=h0):=
 W.mono (TE aI9 aI7 e) X.mono fun x hx=>by subst hx;exact⟨rfl,rfl⟩
def zI(t:bE AO)(n0:Nat):Nat→AV→Option AV
 |0,_=>none
 |k+1,v=>match v with
  | .ptr b o=>bif Nat.blt b n0 then some (.ptr b o)else none
  | .map b=>bif Nat.blt b n0 then some (.map b)else none
  | .slice b off len cap kind=>bif Nat.blt b n0 then some (.slice b off len cap kind)else(match t.get b with
   |some (.cells l)=>(match qU (zI t n0 k) (drop off l)with|some l2=>some (.rslice l2 len len false)|none=>none)
   |_=>none)
  | .agg l=>(match qU (zI t n0 k) l with|some l2=>some (.agg l2)|none=>none)
  | .tuple l=>(match qU (zI t n0 k) l with|some l2=>some (.tuple l2)|none=>none)
  |v=>bif idless v then some v else none
theorem sZ{t:bE AO}{n0:Nat}{f:AV→Option AV}(hf:∀v v2,f v=some v2→Fz t n0 v v2):∀{l l2:List AV},qU f l=some l2→oD t n0 l l2
 | [],_,h=>by cases h;exact .nil
 |v::l,l2,h=>by
  simp only[qU]at h
  cases hv:f v with
  |none=>rw[hv]at h;cases h
  |some v2=>
   rw[hv]at h
   cases hl:qU f l with
   |none=>rw[hl]at h;cases h
   |some l3=>rw[hl]at h;cases h;exact .cons (hf v v2 hv) (sZ hf hl)
theorem BI{t:bE AO}{n0:Nat}:∀(k:Nat) (v v2:AV),zI t n0 k v=some v2→Fz t n0 v v2
 |0,_,_,h=>by cases h
 |k+1,v,v2,h=>by
  have ih:=BI (t:=t) (n0:=n0) k
  have oth:(bif idless v then some v else none)=some v2→Fz t n0 v v2:=fun h=>by
   cases hi:idless v with
   |true=>rw[hi]at h;cases h;exact .same hi
   |false=>rw[hi]at h;cases h
  cases v<;>simp only[zI]at h<;>first
   |exact oth h
   |(cases hm:qU (zI t n0 k) _ with
     |none=>rw[hm]at h;cases h
     |some l2=>rw[hm]at h;cases h;first|exact .agg (sZ ih hm)|exact .tuple (sZ ih hm))
   |skip
  ·rename_i b o
   cases hb:Nat.blt b n0 with
   |true=>rw[hb]at h;cases h;exact .ptr (blt_eq.1 hb)
   |false=>rw[hb]at h;cases h
  ·rename_i b off len cap kind
   cases hb0:Nat.blt b n0 with
   |true=>rw[hb0]at h;cases h;exact .old (blt_eq.1 hb0)
   |false=>
    rw[hb0]at h
    simp only[cond_false]at h
    have hge:n0≤b:=by
     refine Nat.le_of_not_lt fun hlt=> ?_
     rw[blt_eq.2 hlt]at hb0;cases hb0
    cases hb:t.get b with
    |none=>rw[hb]at h;cases h
    |some o=>
     rw[hb]at h
     cases o with
     |cells l=>
      simp only at h
      cases hm:qU (zI t n0 k) (drop off l)with
      |none=>rw[hm]at h;cases h
      |some l2=>
       rw[hm]at h;cases h
       rw[dX]at hm
       exact .slice (m:=(l.drop off).length) hge hb (by rw[List.take_length];exact sZ ih hm)
     |_=>cases h
  ·rename_i b
   cases hb:Nat.blt b n0 with
   |true=>rw[hb]at h;cases h;exact .map (blt_eq.1 hb)
   |false=>rw[hb]at h;cases h
def evy(k:Nat)(f:Nat)(args:List AV):Option AV:=match gZ T' (ev T' M k) f args ⟨.leaf,0⟩with
 | .ok v h=>zI h.t 0 1000 v
 | .bad=>none
theorem y9{k f:Nat}{args:List AV}{v:AV}{h:aL}{K:KH}(hi:bP args=true)(e:evy k f args=some v)(hk:K v h):C f args h K:=by
 unfold evy at e
 cases hc:gZ T' (ev T' M k) f args ⟨.leaf,0⟩with
 |bad=>rw[hc]at e;cases e
 |ok v0 h0=>
  rw[hc]at e
  refine qT (gW.frame hi (D3 (evW hc)) ?_) ⟨v,h,hk⟩
  rintro v' h' ⟨rfl,rfl⟩
  exact⟨v,BI 1000 _ _ e,hk⟩
def YT(t:bE AO)(n0:Nat):Option AO→Option AO
 |some (.cells l)=>(match qU (zI t n0 1000) l with|some l2=>some (.cells l2)|none=>none)
 |some (.map es c)=>bif es.all (fun e=>idless e.1&&idless e.2.1)then some (.map es c)else none
 |_=>none
def TC(t:bE AO)(n0:Nat):List Nat→Option (List (Nat×AO))
 | []=>some []
 |b::bs=>match YT t n0 (t.get b)with
  |some o=>(match TC t n0 bs with|some l=>some ((b,o)::l)|none=>none)
  |none=>none
def MK(t:bE AO):List (Nat×List AV)→Bool
 | []=>true
 |(b,l)::r=>(match t.get b with|some (.cells m)=>PU m l&&bP l|_=>false)&&MK t r
def hpF:List (Nat×AO)→bE AO
 | []=> .leaf
 |(b,o)::l=>fS (hpF l) b (some o)
def i4(n:Nat)(l:List (Nat×AO)):aL:=⟨hpF l,n⟩
def q9(l:List (Nat×List AV)):List (Nat×AO):=l.map fun x=>(x.1,.cells x.2)
def evh(k:Nat)(f:Nat)(args:List AV)(h:aL)(bs:List Nat)(big:List (Nat×List AV)):Option (AV×List (Nat×AO)):=match gZ T' (ev T' M k) f args h with
 | .ok v h'=>(match zI h'.t h.aA 1000 v,TC h'.t h.aA bs with
  |some v2,some bl=>bif MK h'.t big then some (v2,bl)else none
  |_,_=>none)
 | .bad=>none
theorem I4:∀(l:List (Nat×AO)) (b:Nat) (o:AO),(hpF l).get b=some o→(b,o)∈l
 | [],b,o,h=>by cases h
 |(c,x)::l,b,o,h=>by
  simp only[hpF,bE.get_tset]at h
  split at h
  ·rename_i e;cases h;subst e;simp
  ·exact List.mem_cons_of_mem _ (I4 l b o h)
theorem ML{t:bE AO}{n0:Nat}:∀{bs:List Nat} {bl:List (Nat×AO)},TC t n0 bs=some bl→∀b o,(b,o)∈bl→b∈bs∧YT t n0 (t.get b)=some o
 | [],bl,h=>by cases h;intro b o h;cases h
 |c::bs,bl,h=>by
  simp only[TC]at h
  cases hc:YT t n0 (t.get c)with
  |none=>rw[hc]at h;cases h
  |some x=>
   rw[hc]at h
   cases hl:TC t n0 bs with
   |none=>rw[hl]at h;cases h
   |some l=>
    rw[hl]at h;cases h
    intro b o hb
    rcases List.mem_cons.1 hb with hb|hb
    ·cases hb;exact⟨by simp,hc⟩
    ·have:=ML hl b o hb;exact⟨by simp[this.1],this.2⟩
theorem GG{t:bE AO}:∀{big:List (Nat×List AV)},MK t big=true→∀b l,(b,l)∈big→t.get b=some (.cells l)∧bP l=true
 | [],h=>by intro b l h;cases h
 |(c,m)::r,h=>by
  simp only[MK,aI]at h
  obtain⟨h1,h2⟩:=h
  intro b l hb
  rcases List.mem_cons.1 hb with hb|hb
  ·obtain⟨rfl,rfl⟩:b=c∧l=m:=by cases hb;exact⟨rfl,rfl⟩
   cases ht:t.get b with
   |none=>rw[ht]at h1;cases h1
   |some o=>
    rw[ht]at h1
    cases o with
    |cells x=>simp only[aI]at h1;rw[CX h1.1];exact⟨rfl,h1.2⟩
    |_=>cases h1
  ·exact GG h2 b l hb
theorem MM{t:bE AO}{n0:Nat}:∀{l:List AV},bP l=true→oD t n0 l l
 | [],_=> .nil
 |v::l,h=>by simp only[bP,aI]at h;exact .cons (.same h.1) (MM h.2)
theorem Q1{k f:Nat}{args:List AV}{h:aL}{bs:List Nat}{big:List (Nat×List AV)}{v:AV}{bl:List (Nat×AO)}{K:KH}(e:evh k f args h bs big=some (v,bl))(hb:bs.all (fun b=>Nat.blt b h.aA)=true)(hb2:big.all (fun b=>Nat.blt b.1 h.aA)=true)
  (hk:K v (i4 h.aA (bl++q9 big))):C f args h K:=by
 unfold evh at e
 cases hc:gZ T' (ev T' M k) f args h with
 |bad=>rw[hc]at e;cases e
 |ok v0 h0=>
  rw[hc]at e
  simp only at e
  cases h1:zI h0.t h.aA 1000 v0 with
  |none=>rw[h1]at e;cases e
  |some v2=>
   rw[h1]at e
   cases h2:TC h0.t h.aA bs with
   |none=>rw[h2]at e;cases e
   |some bl2=>
    rw[h2]at e
    simp only at e
    cases h3:MK h0.t big with
    |false=>rw[h3]at e;cases e
    |true=>
     rw[h3]at e
     cases e
     have key:∀b o,(b,o)∈bl++q9 big→b<h.aA∧Z6 h0.t h.aA (h.t.get b) (h0.t.get b) (some o):=by
      intro b o hm
      rcases List.mem_append.1 hm with hm|hm
      ·obtain⟨m1,m2⟩:=ML h2 b o hm
       refine⟨blt_eq.1 (List.all_eq_true.1 hb b m1),?_⟩
       cases hg:h0.t.get b with
       |none=>rw[hg]at m2;cases m2
       |some o0=>
        rw[hg]at m2
        cases o0 with
        |cells l=>
         simp only[YT]at m2
         cases hz:qU (zI h0.t h.aA 1000) l with
         |none=>rw[hz]at m2;cases m2
         |some l2=>rw[hz]at m2;cases m2;exact .inr (.inr (.inl ⟨l,l2,rfl,rfl,sZ (BI 1000) hz⟩))
        |map es c=>
         simp only[YT]at m2
         cases ha:es.all (fun e=>idless e.1&&idless e.2.1)with
         |false=>rw[ha]at m2;cases m2
         |true=>
          rw[ha]at m2;cases m2
          refine .inr (.inr (.inr ⟨es,c,rfl,rfl,fun e he=> ?_⟩))
          have:=List.all_eq_true.1 ha e he
          simpa using this
        |_=>cases m2
      ·obtain⟨⟨b2,l⟩,m1,m2⟩:=List.mem_map.1 hm
       cases m2
       refine⟨blt_eq.1 (List.all_eq_true.1 hb2 _ m1),?_⟩
       obtain⟨g1,g2⟩:=GG h3 _ _ m1
       exact .inr (.inr (.inl ⟨l,l,g1,rfl,MM g2⟩))
     refine W.cool (evW hc) (fun v' h' ⟨e1,e2⟩=>⟨v,i4 h.aA (bl++q9 big),?_,hk⟩)
     subst e1 e2
     refine⟨BI 1000 _ _ h1,rfl,fun b hb=> ?_,fun b hb=> ?_⟩
     ·cases hg:(hpF (bl++q9 big)).get b with
      |none=>exact .inl hg
      |some o=>have:=(key b o (I4 _ b o hg)).1;omega
     ·cases hg:(hpF (bl++q9 big)).get b with
      |none=>exact .inl hg
      |some o=>
       have:=(key b o (I4 _ b o hg)).2
       show Z6 _ _ _ _ ((hpF (bl++q9 big)).get b)
       rw[hg];exact this
def EJ(t:bE AO):List (Nat×Nat×AV)→Bool
 | []=>true
 |(b,o,v)::r=>(match t.get b with|some (.cells m)=>(match bR m o with|some x=>DN 1000 x v|none=>false)|_=>false)&&EJ t r
def E3(k:Nat)(f1:Nat)(vT:List AV)(h:aL)(n:Nat)(EL:List (Nat×Nat×AV))(f2:Nat)(vU:List AV)(bs:List Nat)(big:List (Nat×List AV)):Option (AV×AV×List (Nat×AO)):=match gZ T' (ev T' M k) f1 vT h with
 | .ok v1 h1=>bif Nat.beq h1.aA n&&EJ h1.t EL then(match evh k f2 vU h1 bs big with
  |some (v2,bl)=>some (v1,v2,bl)
  |none=>none)else none
 | .bad=>none
theorem EK{t:bE AO}:∀{l:List (Nat×Nat×AV)},EJ t l=true→∀b o v,(b,o,v)∈l→∃m,t.get b=some (.cells m)∧bR m o=some v
 | [],h=>by intro b o v h;cases h
 |(c,p,x)::r,h=>by
  simp only[EJ,aI]at h
  obtain⟨h1,h2⟩:=h
  intro b o v hb
  rcases List.mem_cons.1 hb with hb|hb
  ·obtain⟨rfl,rfl,rfl⟩:b=c∧o=p∧v=x:=by cases hb;exact⟨rfl,rfl,rfl⟩
   cases ht:t.get b with
   |none=>rw[ht]at h1;cases h1
   |some ob=>
    rw[ht]at h1
    cases ob with
    |cells m=>
     simp only at h1
     cases hn:bR m o with
     |none=>rw[hn]at h1;cases h1
     |some y=>rw[hn]at h1;rw[←CY 1000 _ _ h1];exact⟨m,rfl,hn⟩
    |_=>cases h1
  ·exact EK h2 b o v hb
theorem tC{k f1 f2 n:Nat}{vT vU:List AV}{h:aL}{EL:List (Nat×Nat×AV)}{bs:List Nat}{big:List (Nat×List AV)}{v1 v2:AV}{bl:List (Nat×AO)}{K:KH}(e:E3 k f1 vT h n EL f2 vU bs big=some (v1,v2,bl))
  (hb:bs.all (fun b=>Nat.blt b n)=true) (hb2:big.all (fun b=>Nat.blt b.1 n)=true)
  (hk:∀h1:aL,(∀b o v,(b,o,v)∈EL→∃m,aP h1 b=some (.cells m)∧bR m o=some v)→(∀K2:KH,K2 v2 (i4 n (bl++q9 big))→C f2 vU h1 K2)→K v1 h1):C f1 vT h K:=by
 unfold E3 at e
 cases hc:gZ T' (ev T' M k) f1 vT h with
 |bad=>rw[hc]at e;cases e
 |ok v0 h0=>
  rw[hc]at e
  simp only at e
  cases h1:(Nat.beq h0.aA n&&EJ h0.t EL)with
  |false=>rw[h1]at e;cases e
  |true=>
   rw[h1]at e
   simp only[cond_true]at e
   rw[aI]at h1
   obtain⟨hn,hf⟩:=h1
   have hn:h0.aA=n:=beq_eq.1 hn
   cases h2:evh k f2 vU h0 bs big with
   |none=>rw[h2]at e;cases e
   |some p=>
    obtain⟨w2,bl2⟩:=p
    rw[h2]at e
    cases e
    have key:=hk h0 (fun b o v hm=>EK hf b o v hm) (fun K2 k2=>Q1 h2 (by rw[hn];exact hb) (by rw[hn];exact hb2) (by rw[hn];exact k2))
    have w:W T M X (.fn f1 vT h) (V K):=W.mono (evW hc) X.mono fun x hx=>by
     cases x with
     |val v h'=>obtain⟨rfl,rfl⟩:=hx;exact key
     |res r=>exact hx.elim
    exact w
end
end
section
open Go.Proofs
noncomputable section
abbrev yb(n:Int):AV:= .int .u8 n
def ys(l:List Int):List AV:=l.map fun n=> .int .u8 n
def zz(k:Nat)(n:Int):List AV:=List.replicate k (.int .u8 n)
def Q0:AV:= .str [99,111,108,111,117,114,32,110,32,61,32,105,110,116,32,48,32,46,46,32,50,59,32,112,108,97,99,101,32,97,58,32,110,59,32,112,108,97,99,101,32,98,58,32,110,59,32,112,108,97,99,101,32,99,58,32,110,59,32,116,97,115,107,32,116,32,123,32,118,97,114,32,120,58,32,110,59,32,119,104,101,110,32,120,32,60,32,50,59,32,105,110,32,97,40,120,41,59,32,111,117,116,32,98,40,120,32,43,32,49,41,59,32,125,32,116,97,115,107,32,117,32,123,32,118,97,114,32,121,58,32,110,59,32,105,110,32,98,40,121,41,59,32,111,117,116,32,99,40,121,41,59,32,97,102,116,101,114,32,51,59,32,125,32,102,114,111,109,32,97,59,32,116,111,32,99,59]
def dD:List AV:= [.rslice [.str [110],iv 1,iv 0,iv 2,.aB,iv 0,iv 0] 1 1 false,.rslice [.str [97],iv 0,.aB,.str [98],iv 0,.aB,.str [99],iv 0,.aB] 3 3 false,.rslice [.str [116],.rslice [.str [120],iv 0] 1 1 false,iv 5,iv 8,.rslice [iv 2,iv 0,.aB,iv 1,iv 2,.aB] 2 2 false,iv 1,iv 1,.rslice [iv 0,iv 2,iv 0,.aB] 1 1 false,.rslice [iv 1,iv 5,iv 1,.rslice [iv 2,iv 0,.aB,iv 1,iv 1,.aB] 2 2 false] 1 1 false,.aB,iv 0,iv 0,iv 0,iv 0,.str [117],.rslice [.str [121],iv 0] 1 1 false,iv 1,iv 1,.aB,iv 1,iv 1,.rslice [iv 1,iv 2,iv 0,.aB] 1 1 false,.rslice [iv 2,iv 2,iv 0,.aB] 1 1 false,.aB,iv 3,iv 0,iv 0,iv 0] 2 2 false,iv 0,iv 2]
def sY:AV:= .rslice (ys [0,0,3,0,0,0,3,0]) 4 4 false
def gb0:List (Nat×AO):= [(0,.cells dD),
  (2,.cells [iv 0,iv 0,iv 0,iv 0,.aB,.aB,iv 0,iv 0,.bool false,iv 0]),
  (3,.cells dD),
  (7,.cells (dD++ [.ptr 10 0,.ptr 186 0,iv 0,iv 0,iv 0,iv 0,.aB,.aB,iv 0,iv 0,.bool false,iv 0])),
  (10,.cells [.slice 9 0 300 300 0,.aB,.bool false,iv 0,iv 0,iv 0]),
  (186,.cells [.ptr 181 0,.slice 207 0 1 1 8,.slice 209 0 3 3 4,.slice 211 0 2 2 15,iv 0,iv 2,.slice 176 0 3 3 2,.aB,iv 1,iv 0]),
  (181,.cells [.ptr 27 0]),
  (27,.cells [.ptr 10 0,.ptr 41 0,.ptr 55 0,.ptr 26 0,iv 0,iv 0,iv 0,iv 0,.aB,.aB,.bool false]),
  (41,.cells [.ptr 10 0,iv 1,iv 100]),
  (55,.cells [.ptr 10 0,iv 101,iv 100]),
  (26,.cells [.ptr 10 0,iv 201,iv 99]),
  (207,.cells [.str [110],iv 1,iv 0,iv 2,.aB,iv 0,iv 0]),
  (209,.cells [.str [97],iv 0,.aB,.str [98],iv 0,.aB,.str [99],iv 0,.aB]),
  (211,.cells [.str [116],.slice 264 0 1 1 3,iv 5,iv 8,.slice 315 0 2 2 4,iv 1,iv 1,.slice 281 0 1 1 5,.slice 286 0 1 1 5,.aB,iv 0,iv 0,iv 0,iv 0,.str [117],.slice 348 0 1 1 3,iv 1,iv 1,.aB,iv 1,iv 1,.slice 365 0 1 1 5,.slice 370 0 1 1 5,.aB,iv 3,iv 0,iv 0,iv 0]),
  (264,.cells [.str [120],iv 0]),
  (315,.cells [iv 2,iv 0,.aB,iv 1,iv 2,.aB]),
  (281,.cells [iv 0,iv 2,iv 0,.aB]),
  (286,.cells [iv 1,iv 5,iv 1,.slice 291 0 2 2 4]),
  (291,.cells [iv 2,iv 0,.aB,iv 1,iv 1,.aB]),
  (348,.cells [.str [121],iv 0]),
  (365,.cells [iv 1,iv 2,iv 0,.aB]),
  (370,.cells [iv 2,iv 2,iv 0,.aB]),
  (176,.cells [.slice 168 0 1 1 3,.aB,.aB]),
  (168,.cells [iv 0,iv 1])]
def gd0:List (Nat×List AV):= [(9,zz 9600 0)]
def gb1:List (Nat×AO):= [(0,.cells dD),
  (2,.cells [iv 0,iv 0,iv 0,iv 0,.aB,.aB,iv 0,iv 0,.bool false,iv 0]),
  (3,.cells dD),
  (7,.cells (dD++ [.ptr 10 0,.ptr 186 0,iv 0,iv 0,iv 1,iv 0,.aB,.aB,iv 0,iv 0,.bool false,iv 0])),
  (10,.cells [.slice 9 0 300 300 0,.aB,.bool false,iv 0,iv 4,iv 2]),
  (186,.cells [.ptr 181 0,.slice 207 0 1 1 8,.slice 209 0 3 3 4,.slice 211 0 2 2 15,iv 0,iv 2,.slice 4407 0 3 3 0,.slice 4535 0 1 1 12,iv 2,iv 0]),
  (181,.cells [.ptr 27 0]),
  (27,.cells [.ptr 10 0,.ptr 41 0,.ptr 55 0,.ptr 26 0,iv 0,iv 0,iv 86,iv 1,.aB,.slice 5063 0 1 1 2,.bool false]),
  (41,.cells [.ptr 10 0,iv 1,iv 100]),
  (55,.cells [.ptr 10 0,iv 101,iv 100]),
  (26,.cells [.ptr 10 0,iv 201,iv 99]),
  (5063,.cells [.slice 5062 0 80 80 2]),
  (5062,.cells (ys [0,0,0,0,0,0,0,1]++(zz 23 0++(ys [1,0,0,0,0,0,0,0,0,0,0,0,0,0,0,0,1,0,0,0,0,0,0,0,0,0,0,0,0,0,0,0,1,0,0,0,0,0,0,0,0,0,0,0,0,0,0,0,1])))),
  (207,.cells [.str [110],iv 1,iv 0,iv 2,.aB,iv 0,iv 0]),
  (209,.cells [.str [97],iv 0,.aB,.str [98],iv 0,.aB,.str [99],iv 0,.aB]),
  (211,.cells [.str [116],.slice 264 0 1 1 3,iv 5,iv 8,.slice 315 0 2 2 4,iv 1,iv 1,.slice 281 0 1 1 5,.slice 286 0 1 1 5,.aB,iv 0,iv 0,iv 0,iv 0,.str [117],.slice 348 0 1 1 3,iv 1,iv 1,.aB,iv 1,iv 1,.slice 365 0 1 1 5,.slice 370 0 1 1 5,.aB,iv 3,iv 0,iv 0,iv 0]),
  (264,.cells [.str [120],iv 0]),
  (315,.cells [iv 2,iv 0,.aB,iv 1,iv 2,.aB]),
  (281,.cells [iv 0,iv 2,iv 0,.aB]),
  (286,.cells [iv 1,iv 5,iv 1,.slice 291 0 2 2 4]),
  (291,.cells [iv 2,iv 0,.aB,iv 1,iv 1,.aB]),
  (348,.cells [.str [121],iv 0]),
  (365,.cells [iv 1,iv 2,iv 0,.aB]),
  (370,.cells [iv 2,iv 2,iv 0,.aB]),
  (4407,.cells [.aB,.aB,.aB]),
  (4535,.cells [iv 1,iv 0,.slice 4529 0 1 1 2,.slice 4531 0 1 1 2,.slice 4533 0 1 1 2,iv 1,iv 1,iv 1,iv 0,iv 0,iv 0]),
  (4529,.cells [iv 0]),
  (4531,.cells [iv 0]),
  (4533,.cells [iv 0])]
def gd1:List (Nat×List AV):= [(9,(ys [0,13,207,32,76,127,0,0,0,0,0,0,0,0,86,0,0,0,1]++(zz 6414 0++(ys [80,48,228,0,221,0,0,0,0,0,0,0,1]++(zz 23 0++(ys [1,0,0,0,0,0,0,0,0,0,0,0,0,0,0,0,1,0,0,0,0,0,0,0,0,0,0,0,0,0,0,0,1,0,0,0,0,0,0,0,0,0,0,0,0,0,0,0,1]++(zz 3082 0)))))))]
def gb2:List (Nat×AO):= [(0,.cells dD),
  (2,.cells [iv 0,iv 0,iv 0,iv 0,.aB,.aB,iv 0,iv 0,.bool false,iv 0]),
  (3,.cells dD),
  (7,.cells (dD++ [.ptr 10 0,.ptr 186 0,iv 0,iv 0,iv 2,iv 0,.aB,.aB,iv 0,iv 0,.bool false,iv 0])),
  (10,.cells [.slice 9 0 300 300 0,.aB,.bool false,iv 0,iv 8,iv 4]),
  (186,.cells [.ptr 181 0,.slice 207 0 1 1 8,.slice 209 0 3 3 4,.slice 211 0 2 2 15,iv 0,iv 2,.slice 5933 0 3 3 0,.aB,iv 2,iv 0]),
  (181,.cells [.ptr 27 0]),
  (27,.cells [.ptr 10 0,.ptr 41 0,.ptr 55 0,.ptr 26 0,iv 0,iv 0,iv 148,iv 2,.aB,.slice 6511 0 2 2 2,.bool false]),
  (41,.cells [.ptr 10 0,iv 1,iv 100]),
  (55,.cells [.ptr 10 0,iv 101,iv 100]),
  (26,.cells [.ptr 10 0,iv 201,iv 99]),
  (6511,.cells [.slice 5062 0 80 80 2,.slice 6510 0 56 56 2]),
  (5062,.cells (ys [0,0,0,0,0,0,0,1]++(zz 23 0++(ys [1,0,0,0,0,0,0,0,0,0,0,0,0,0,0,0,1,0,0,0,0,0,0,0,0,0,0,0,0,0,0,0,1,0,0,0,0,0,0,0,0,0,0,0,0,0,0,0,1])))),
  (6510,.cells (ys [0,0,0,0,0,0,0,2,0,0,0,0,0,0,0,1]++(zz 40 0))),
  (207,.cells [.str [110],iv 1,iv 0,iv 2,.aB,iv 0,iv 0]),
  (209,.cells [.str [97],iv 0,.aB,.str [98],iv 0,.aB,.str [99],iv 0,.aB]),
  (211,.cells [.str [116],.slice 264 0 1 1 3,iv 5,iv 8,.slice 315 0 2 2 4,iv 1,iv 1,.slice 281 0 1 1 5,.slice 286 0 1 1 5,.aB,iv 0,iv 0,iv 0,iv 0,.str [117],.slice 348 0 1 1 3,iv 1,iv 1,.aB,iv 1,iv 1,.slice 365 0 1 1 5,.slice 370 0 1 1 5,.aB,iv 3,iv 0,iv 0,iv 0]),
  (264,.cells [.str [120],iv 0]),
  (315,.cells [iv 2,iv 0,.aB,iv 1,iv 2,.aB]),
  (281,.cells [iv 0,iv 2,iv 0,.aB]),
  (286,.cells [iv 1,iv 5,iv 1,.slice 291 0 2 2 4]),
  (291,.cells [iv 2,iv 0,.aB,iv 1,iv 1,.aB]),
  (348,.cells [.str [121],iv 0]),
  (365,.cells [iv 1,iv 2,iv 0,.aB]),
  (370,.cells [iv 2,iv 2,iv 0,.aB]),
  (5933,.cells [.aB,.slice 5989 0 1 1 3,.aB]),
  (5989,.cells [iv 1,iv 1])]
def gd2:List (Nat×List AV):= [(9,(ys [0,13,197,252,166,126,0,0,0,0,0,0,0,0,148,0,0,0,2]++(zz 6414 0++(ys [80,48,228,0,221,0,0,0,0,0,0,0,1]++(zz 23 0++(ys [1,0,0,0,0,0,0,0,0,0,0,0,0,0,0,0,1,0,0,0,0,0,0,0,0,0,0,0,0,0,0,0,1,0,0,0,0,0,0,0,0,0,0,0,0,0,0,0,1,0,56,254,30,109,143,0,0,0,0,0,0,0,2,0,0,0,0,0,0,0,1]++(zz 3060 0)))))))]
def gb3:List (Nat×AO):= [(0,.cells dD),
  (2,.cells [iv 0,iv 0,iv 0,iv 0,.aB,.aB,iv 0,iv 0,.bool false,iv 0]),
  (3,.cells dD),
  (7,.cells (dD++ [.ptr 10 0,.ptr 186 0,iv 0,iv 0,iv 3,iv 0,.aB,.aB,iv 0,iv 0,.bool false,iv 0])),
  (10,.cells [.slice 9 0 300 300 0,.aB,.bool false,iv 0,iv 13,iv 6]),
  (186,.cells [.ptr 181 0,.slice 207 0 1 1 8,.slice 209 0 3 3 4,.slice 211 0 2 2 15,iv 0,iv 2,.slice 10114 0 3 3 0,.slice 10242 0 1 1 12,iv 3,iv 0]),
  (181,.cells [.ptr 27 0]),
  (27,.cells [.ptr 10 0,.ptr 41 0,.ptr 55 0,.ptr 26 0,iv 0,iv 0,iv 234,iv 3,.aB,.slice 10828 0 3 3 2,.bool false]),
  (41,.cells [.ptr 10 0,iv 1,iv 100]),
  (55,.cells [.ptr 10 0,iv 101,iv 100]),
  (26,.cells [.ptr 10 0,iv 201,iv 99]),
  (10828,.cells [.slice 5062 0 80 80 2,.slice 6510 0 56 56 2,.slice 10827 0 80 80 2]),
  (5062,.cells (ys [0,0,0,0,0,0,0,1]++(zz 23 0++(ys [1,0,0,0,0,0,0,0,0,0,0,0,0,0,0,0,1,0,0,0,0,0,0,0,0,0,0,0,0,0,0,0,1,0,0,0,0,0,0,0,0,0,0,0,0,0,0,0,1])))),
  (6510,.cells (ys [0,0,0,0,0,0,0,2,0,0,0,0,0,0,0,1]++(zz 40 0))),
  (10827,.cells (ys [0,0,0,0,0,0,0,1,0,0,0,0,0,0,0,0,0,0,0,0,0,0,0,1,0,0,0,0,0,0,0,1,0,0,0,0,0,0,0,1,0,0,0,0,0,0,0,1,0,0,0,0,0,0,0,0,0,0,0,0,0,0,0,1,0,0,0,0,0,0,0,0,0,0,0,0,0,0,0,1])),
  (207,.cells [.str [110],iv 1,iv 0,iv 2,.aB,iv 0,iv 0]),
  (209,.cells [.str [97],iv 0,.aB,.str [98],iv 0,.aB,.str [99],iv 0,.aB]),
  (211,.cells [.str [116],.slice 264 0 1 1 3,iv 5,iv 8,.slice 315 0 2 2 4,iv 1,iv 1,.slice 281 0 1 1 5,.slice 286 0 1 1 5,.aB,iv 0,iv 0,iv 0,iv 0,.str [117],.slice 348 0 1 1 3,iv 1,iv 1,.aB,iv 1,iv 1,.slice 365 0 1 1 5,.slice 370 0 1 1 5,.aB,iv 3,iv 0,iv 0,iv 0]),
  (264,.cells [.str [120],iv 0]),
  (315,.cells [iv 2,iv 0,.aB,iv 1,iv 2,.aB]),
  (281,.cells [iv 0,iv 2,iv 0,.aB]),
  (286,.cells [iv 1,iv 5,iv 1,.slice 291 0 2 2 4]),
  (291,.cells [iv 2,iv 0,.aB,iv 1,iv 1,.aB]),
  (348,.cells [.str [121],iv 0]),
  (365,.cells [iv 1,iv 2,iv 0,.aB]),
  (370,.cells [iv 2,iv 2,iv 0,.aB]),
  (10114,.cells [.aB,.aB,.aB]),
  (10242,.cells [iv 2,iv 1,.slice 10236 0 1 1 2,.slice 10238 0 1 1 2,.slice 10240 0 1 1 2,iv 1,iv 1,iv 1,iv 0,iv 0,iv 3]),
  (10236,.cells [iv 1]),
  (10238,.cells [iv 0]),
  (10240,.cells [iv 0])]
def gd3:List (Nat×List AV):= [(9,(ys [0,13,244,25,200,70,0,0,0,0,0,0,0,0,234,0,0,0,3]++(zz 6414 0++(ys [80,48,228,0,221,0,0,0,0,0,0,0,1]++(zz 23 0++(ys [1,0,0,0,0,0,0,0,0,0,0,0,0,0,0,0,1,0,0,0,0,0,0,0,0,0,0,0,0,0,0,0,1,0,0,0,0,0,0,0,0,0,0,0,0,0,0,0,1,0,56,254,30,109,143,0,0,0,0,0,0,0,2,0,0,0,0,0,0,0,1]++(zz 41 0++(ys [80,192,89,66,24,0,0,0,0,0,0,0,1,0,0,0,0,0,0,0,0,0,0,0,0,0,0,0,1,0,0,0,0,0,0,0,1,0,0,0,0,0,0,0,1,0,0,0,0,0,0,0,1,0,0,0,0,0,0,0,0,0,0,0,0,0,0,0,1,0,0,0,0,0,0,0,0,0,0,0,0,0,0,0,1]++(zz 2934 0)))))))))]
def gb4:List (Nat×AO):= [(0,.cells dD),
  (2,.cells [iv 0,iv 0,iv 0,iv 0,.aB,.aB,iv 0,iv 0,.bool false,iv 0]),
  (3,.cells dD),
  (7,.cells (dD++ [.ptr 10 0,.ptr 186 0,iv 0,iv 0,iv 4,iv 0,.aB,.aB,iv 0,iv 0,.bool false,iv 0])),
  (10,.cells [.slice 9 0 300 300 0,.aB,.bool false,iv 0,iv 17,iv 8]),
  (186,.cells [.ptr 181 0,.slice 207 0 1 1 8,.slice 209 0 3 3 4,.slice 211 0 2 2 15,iv 0,iv 2,.slice 11590 0 3 3 0,.aB,iv 3,iv 0]),
  (181,.cells [.ptr 27 0]),
  (27,.cells [.ptr 10 0,.ptr 41 0,.ptr 55 0,.ptr 26 0,iv 0,iv 0,iv 296,iv 4,.aB,.slice 12168 0 4 4 2,.bool false]),
  (41,.cells [.ptr 10 0,iv 1,iv 100]),
  (55,.cells [.ptr 10 0,iv 101,iv 100]),
  (26,.cells [.ptr 10 0,iv 201,iv 99]),
  (12168,.cells [.slice 5062 0 80 80 2,.slice 6510 0 56 56 2,.slice 10827 0 80 80 2,.slice 12167 0 56 56 2]),
  (5062,.cells (ys [0,0,0,0,0,0,0,1]++(zz 23 0++(ys [1,0,0,0,0,0,0,0,0,0,0,0,0,0,0,0,1,0,0,0,0,0,0,0,0,0,0,0,0,0,0,0,1,0,0,0,0,0,0,0,0,0,0,0,0,0,0,0,1])))),
  (6510,.cells (ys [0,0,0,0,0,0,0,2,0,0,0,0,0,0,0,1]++(zz 40 0))),
  (10827,.cells (ys [0,0,0,0,0,0,0,1,0,0,0,0,0,0,0,0,0,0,0,0,0,0,0,1,0,0,0,0,0,0,0,1,0,0,0,0,0,0,0,1,0,0,0,0,0,0,0,1,0,0,0,0,0,0,0,0,0,0,0,0,0,0,0,1,0,0,0,0,0,0,0,0,0,0,0,0,0,0,0,1])),
  (12167,.cells (ys [0,0,0,0,0,0,0,2,0,0,0,0,0,0,0,2]++(zz 40 0))),
  (207,.cells [.str [110],iv 1,iv 0,iv 2,.aB,iv 0,iv 0]),
  (209,.cells [.str [97],iv 0,.aB,.str [98],iv 0,.aB,.str [99],iv 0,.aB]),
  (211,.cells [.str [116],.slice 264 0 1 1 3,iv 5,iv 8,.slice 315 0 2 2 4,iv 1,iv 1,.slice 281 0 1 1 5,.slice 286 0 1 1 5,.aB,iv 0,iv 0,iv 0,iv 0,.str [117],.slice 348 0 1 1 3,iv 1,iv 1,.aB,iv 1,iv 1,.slice 365 0 1 1 5,.slice 370 0 1 1 5,.aB,iv 3,iv 0,iv 0,iv 0]),
  (264,.cells [.str [120],iv 0]),
  (315,.cells [iv 2,iv 0,.aB,iv 1,iv 2,.aB]),
  (281,.cells [iv 0,iv 2,iv 0,.aB]),
  (286,.cells [iv 1,iv 5,iv 1,.slice 291 0 2 2 4]),
  (291,.cells [iv 2,iv 0,.aB,iv 1,iv 1,.aB]),
  (348,.cells [.str [121],iv 0]),
  (365,.cells [iv 1,iv 2,iv 0,.aB]),
  (370,.cells [iv 2,iv 2,iv 0,.aB]),
  (11590,.cells [.aB,.aB,.slice 11671 0 1 1 3]),
  (11671,.cells [iv 1,iv 1])]
def gd4:List (Nat×List AV):= [(9,(ys [0,13,50,244,53,251,0,0,0,0,0,0,0,1,40,0,0,0,4]++(zz 6414 0++(ys [80,48,228,0,221,0,0,0,0,0,0,0,1]++(zz 23 0++(ys [1,0,0,0,0,0,0,0,0,0,0,0,0,0,0,0,1,0,0,0,0,0,0,0,0,0,0,0,0,0,0,0,1,0,0,0,0,0,0,0,0,0,0,0,0,0,0,0,1,0,56,254,30,109,143,0,0,0,0,0,0,0,2,0,0,0,0,0,0,0,1]++(zz 41 0++(ys [80,192,89,66,24,0,0,0,0,0,0,0,1,0,0,0,0,0,0,0,0,0,0,0,0,0,0,0,1,0,0,0,0,0,0,0,1,0,0,0,0,0,0,0,1,0,0,0,0,0,0,0,1,0,0,0,0,0,0,0,0,0,0,0,0,0,0,0,1,0,0,0,0,0,0,0,0,0,0,0,0,0,0,0,1,0,56,29,87,218,45,0,0,0,0,0,0,0,2,0,0,0,0,0,0,0,2]++(zz 2912 0)))))))))]
def GF:List AV:= [.rslice [.aB,.aB,.rslice [iv 1,iv 1] 1 1 false] 3 3 false,.aB,iv 3,iv 0]
def gb5:List (Nat×AO):= [(0,.cells dD),
  (2,.cells [iv 0,iv 0,iv 0,iv 0,.aB,.aB,iv 0,iv 0,.bool false,iv 0]),
  (3,.cells dD),
  (7,.cells (dD++ [.ptr 10 0,.ptr 186 0,iv 0,iv 0,iv 4,iv 0,.aB,.aB,iv 0,iv 0,.bool false,iv 0]))]
def gM:AV:= .rslice [.aB,.aB,.rslice [iv 1,iv 1] 1 1 false] 3 3 false
def gM0:AV:= .rslice [.rslice [iv 0,iv 1] 1 1 false,.aB,.aB] 3 3 false
def sb0:List (Nat×AO):= [(0,.cells dD),
  (1,.cells [iv 0,iv 0,iv 0,.aB]),
  (9,.cells dD),
  (10,.cells [.aB,.aB,.bool false]),
  (18,.cells dD),
  (19,.cells [.aB,.aB,.bool false]),
  (21,.cells (dD++ [iv 32,.map 20,.slice 130 0 1 1 2,.aB,.bool true])),
  (20,.map [(.str [3,0,1,0,0,0,0,0,0,0,1,0,0,0,0],iv 0,0)] 1),
  (130,.cells [.rslice [.rslice [iv 0,iv 1] 1 1 false,.aB,.aB] 3 3 false])]
def sb1:List (Nat×AO):= [(0,.cells dD),
  (1,.cells [iv 0,iv 0,iv 0,.aB]),
  (9,.cells dD),
  (10,.cells [.aB,.aB,.bool false]),
  (18,.cells dD),
  (19,.cells [.aB,.aB,.bool false]),
  (21,.cells (dD++ [iv 32,.map 20,.slice 3573 0 2 2 2,.slice 3590 0 1 1 7,.bool true])),
  (20,.map [(.str [3,0,1,0,0,0,0,0,0,0,1,0,0,0,0],iv 0,0),(.str [3,0,0,0,1,0,0,0,1,0,0,0,1,0,0],iv 1,1)] 2),
  (3573,.cells [.rslice [.rslice [iv 0,iv 1] 1 1 false,.aB,.aB] 3 3 false,.slice 3383 0 3 3 0]),
  (3383,.cells [.aB,.slice 3439 0 1 1 3,.aB]),
  (3439,.cells [iv 1,iv 1]),
  (3590,.cells [iv 0,iv 1,iv 0,.slice 576 0 1 1 2,.slice 578 0 1 1 2,.slice 580 0 1 1 2]),
  (576,.cells [iv 0]),
  (578,.cells [iv 0]),
  (580,.cells [iv 0])]
def sb2:List (Nat×AO):= [(0,.cells dD),
  (1,.cells [iv 0,iv 0,iv 0,.aB]),
  (9,.cells dD),
  (10,.cells [.aB,.aB,.bool false]),
  (18,.cells dD),
  (19,.cells [.aB,.aB,.bool false]),
  (21,.cells (dD++ [iv 32,.map 20,.slice 6756 0 3 3 2,.slice 6773 0 2 2 7,.bool true])),
  (20,.map [(.str [3,0,1,0,0,0,0,0,0,0,1,0,0,0,0],iv 0,0),(.str [3,0,0,0,1,0,0,0,1,0,0,0,1,0,0],iv 1,1),(.str [3,0,0,0,0,0,1,0,0,0,1,0,0,0,1],iv 2,2)] 3),
  (6756,.cells [.rslice [.rslice [iv 0,iv 1] 1 1 false,.aB,.aB] 3 3 false,.slice 3383 0 3 3 0,.slice 6566 0 3 3 0]),
  (3383,.cells [.aB,.slice 3439 0 1 1 3,.aB]),
  (3439,.cells [iv 1,iv 1]),
  (6566,.cells [.aB,.aB,.slice 6647 0 1 1 3]),
  (6647,.cells [iv 1,iv 1]),
  (6773,.cells [iv 0,iv 1,iv 0,.slice 576 0 1 1 2,.slice 578 0 1 1 2,.slice 580 0 1 1 2,iv 1,iv 2,iv 1,.slice 5226 0 1 1 2,.slice 5228 0 1 1 2,.slice 5230 0 1 1 2]),
  (576,.cells [iv 0]),
  (578,.cells [iv 0]),
  (580,.cells [iv 0]),
  (5226,.cells [iv 1]),
  (5228,.cells [iv 0]),
  (5230,.cells [iv 0])]
def sb3:List (Nat×AO):= [(0,.cells dD),
  (1,.cells [iv 0,iv 0,iv 0,.aB]),
  (9,.cells dD),
  (10,.cells [.aB,.aB,.bool false]),
  (18,.cells dD),
  (19,.cells [.aB,.aB,.bool false]),
  (21,.cells (dD++ [iv 32,.map 20,.slice 6756 0 3 3 2,.slice 6773 0 2 2 7,.bool true])),
  (20,.map [(.str [3,0,1,0,0,0,0,0,0,0,1,0,0,0,0],iv 0,0),(.str [3,0,0,0,1,0,0,0,1,0,0,0,1,0,0],iv 1,1),(.str [3,0,0,0,0,0,1,0,0,0,1,0,0,0,1],iv 2,2)] 3),
  (6756,.cells [.rslice [.rslice [iv 0,iv 1] 1 1 false,.aB,.aB] 3 3 false,.slice 3383 0 3 3 0,.slice 6566 0 3 3 0]),
  (3383,.cells [.aB,.slice 3439 0 1 1 3,.aB]),
  (3439,.cells [iv 1,iv 1]),
  (6566,.cells [.aB,.aB,.slice 6647 0 1 1 3]),
  (6647,.cells [iv 1,iv 1]),
  (6773,.cells [iv 0,iv 1,iv 0,.slice 576 0 1 1 2,.slice 578 0 1 1 2,.slice 580 0 1 1 2,iv 1,iv 2,iv 1,.slice 5226 0 1 1 2,.slice 5228 0 1 1 2,.slice 5230 0 1 1 2]),
  (576,.cells [iv 0]),
  (578,.cells [iv 0]),
  (580,.cells [iv 0]),
  (5226,.cells [iv 1]),
  (5228,.cells [iv 0]),
  (5230,.cells [iv 0])]
def gE:aL:=⟨.leaf,0⟩
def aAW:List AV:= [iv 0,iv 0,iv 0,iv 0,.aB,.aB,iv 0,iv 0,.bool false,iv 0]
def aEK:List AV:=(ys [0,0,3,0,0,0,3,0])
def YS:aL:=nw (nw gE (.cells dD)) (.cells aEK)
def gH6:aL:=bI (nw (nw YS (.cells aAW)) (.cells [.aB,.aB,.aB,iv 0,iv 0])) 3 (.cells dD)
def aI6:aL:=nwAt (nw (nw (up gH6 5) (.cells (zz 9600 0))) (.cells [.slice 9 0 300 300 0,.aB,.bool false,iv 0,iv 0,iv 0])) 7 (.cells (dD++ [.ptr 10 0,.nilp]++aAW))
def gHA:aL:=up (nw (nw gE (.cells dD)) (.cells [iv 0,iv 0,iv 0,.aB])) 7
def gHB:aL:=up (nw (nw gHA (.cells dD)) (.cells [.aB,.aB,.bool false])) 7
def gHC:aL:=nw (nw (nw (nw gHB (.cells dD)) (.cells [.aB,.aB,.bool false])) (.map [] 0)) (.cells (dD++ [iv 32,.map 20,.aB,.aB,.bool true]))
end
end
end Ev
