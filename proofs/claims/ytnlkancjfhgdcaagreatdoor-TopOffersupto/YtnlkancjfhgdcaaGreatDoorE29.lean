/- Proved here: contracts of functions of the program, and the plain law. Conditions: none beyond the hypotheses that each theorem states. -/
import Derived.Test.YtnlkancjfhgdcaaGreatDoorE28
import Derived.Test.YtnlkancjfhgdcaaGreatDoorE10
import Derived.Test.YtnlkancjfhgdcaaGreatDoorE11
import Derived.Test.YtnlkancjfhgdcaaGreatDoorE13
import Derived.Test.YtnlkancjfhgdcaaGreatDoorE05
import Derived.Test.YtnlkancjfhgdcaaGreatDoorE12
set_option linter.all false
set_option maxRecDepth 100000
open Go Go.Proofs
open Nat(reduceAdd reduceMul reduceSub reduceEqDiff reduceLT)
namespace Ev
noncomputable section
attribute [local irreducible] RO RL RP gV cB F cV cI NX LP J9
open Classical
variable{h:aL}{K:KH}
section
def D7(c:Nat):Prop:=(97≤c∧c≤122)∨(65≤c∧c≤90)
def QB(c:Nat):Prop:=D7 c∨(48≤c∧c≤57)∨c=95
def F5(s:List Nat):Prop:=s≠[]∧s.length≤32∧(∀c,s[0]?=some c→D7 c)∧∀(k c:Nat),s[k]?=some c→QB c
theorem aHu{c:Nat}(k1:D7 c→K (.bool true) h)(k2:¬D7 c→K (.bool false) h):C 320 [.int .u8 c] h K:=by
 refine aMw ?_
 refine Sr ?_
 unfold D7 at k1 k2
 repeat'(first|refine And.intro ?_ ?_|intro _)
 all_goals first|exact k1 (by omega)|exact k2 (by omega)
theorem aDf{s:List Nat}(k1:F5 s→K (.bool true) h)(k2:¬F5 s→K (.bool false) h):C 226 [.str s] h K:=by
 refine aMx ?_
 refine Sr ?_
 cases s with
 |nil=>exact⟨fun _=>k2 (fun p=>p.1 rfl),fun q=>absurd rfl q⟩
 |cons c s=>
  refine⟨fun q=>(by cases q),fun _=>⟨fun hl=> ?_,fun hl=> ?_⟩⟩
  ·exact k2 (fun p=>by have:=p.2.1;omega)
  ·rw[J8 (show(c::s)[0]?=some c from rfl)]
   refine Sr ?_
   refine aHu (c:=c) (fun hc=> ?_) (fun hc=> ?_)
   ·refine Sr ?_
    refine cD (fun i:Nat=> [iv i,iv (c::s).length,.str (c::s),.bool false]) (fun _=>h) (fun i=>i≤(c::s).length∧∀k<i,∀c',(c::s)[k]?=some c'→QB c') (fun i=>(c::s).length-i) ?_ 0 ⟨aH _,fun k hk=>absurd hk (Nat.not_lt_zero _)⟩ (A:=WJ) (cur:=0)
    intro i ⟨hi,hk⟩
    refine aDg ?_
    refine Sr ?_
    refine⟨fun hl=> ?_,fun hl=> ?_⟩
    ·have hl:i<(c::s).length:=by omega
     have e:=aC hl
     have hk':QB (c::s)[i]→∀k<i+1,∀c',(c::s)[k]?=some c'→QB c':=fun hn k h1 c' h2=>by
      by_cases hki:k=i
      ·subst hki;rw[e]at h2;cases h2;exact hn
      ·exact hk k (by omega) c' h2
     rw[J8 e]
     refine Sr ?_
     refine aHu (fun hc=> ?_) (fun hc=> ?_)
     ·refine Sr ?_
      exact bT (by omega) (by omega) ⟨rfl,i+1,⟨hl,hk' (.inl hc)⟩,by omega,rfl⟩
     ·refine Sr ?_
      repeat'(first|refine And.intro ?_ ?_|intro _)
      all_goals first
       |exact bT (by omega) (by omega) ⟨rfl,i+1,⟨hl,hk' (.inr (by omega))⟩,by omega,rfl⟩
       |exact k2 (fun p=>by
         rcases p.2.2.2 i _ e with q|q
         ·exact hc q
         ·omega)
    ·refine k1 ⟨by simp,by omega,fun c' h1=>by cases h1;exact hc,fun k c' h1=>hk k ?_ c' h1⟩
     have:=(aD.1 h1).1
     omega
   ·refine Sr ?_
    exact k2 (fun p=>hc (p.2.2.1 c rfl))
end
section
structure cC where
 name:List Nat
 kind:Int
 lo:Int
 hi:Int
 names:List (List Nat)
 first:Int
 thn:Int
def eC(c:cC):List AV:= [.str c.name,iv c.kind,iv c.lo,iv c.hi,strs c.names,iv c.first,iv c.thn]
@[go_sem]theorem qV(c:cC):(eC c).length=7:=by cases c;rfl
@[go_sem]theorem aTy(c:cC):bR (eC c) 0=some (.str c.name):=rfl
@[go_sem]theorem aTz(c:cC):bR (eC c) 1=some (iv c.kind):=rfl
@[go_sem]theorem aTA(c:cC):bR (eC c) 2=some (iv c.lo):=rfl
@[go_sem]theorem aTB(c:cC):bR (eC c) 3=some (iv c.hi):=rfl
@[go_sem]theorem aTC(c:cC):bR (eC c) 4=some (strs c.names):=rfl
@[go_sem]theorem aTD(c:cC):bR (eC c) 5=some (iv c.first):=rfl
@[go_sem]theorem aTE(c:cC):bR (eC c) 6=some (iv c.thn):=rfl
theorem yB(c:cC):aZ (eC c)=true:=by unfold eC;exact Sr trivial
def WH(lo hi:Int):Int:=if hi<lo then 0 else wrap64 (eZ .i64 (min (eZ .u64 (eZ .u64 hi-eZ .u64 lo)) 1024)+1)
theorem aMu{lo hi:Int}(k:K (iv (WH lo hi)) h):C 389 [iv lo,iv hi] h K:=by
 refine aMy ?_
 simp only[go_sem,reduceAdd,reduceMul,reduceSub,g9]
 unfold WH at k
 refine⟨fun q=> ?_,fun q=> ?_⟩
 ·rw[if_pos q]at k;exact k
 ·rw[if_neg q]at k;exact k
def D6(l:List (List Nat)):AO:=zA AV.str (fun _:Unit=> .bool true) (l.map fun s=>(s,()))
theorem wO(s:List Nat):∀(l:List (List Nat)),fL (l.map fun s=>(s,())) s=if s∈l then some ()else none
 | []=>rfl
 |a::l=>by
  simp only[List.map_cons,fL,wO s l,List.mem_cons]
  by_cases h:s=a<;>simp[h]
theorem LW{b:Nat}{l:List (List Nat)}(hb:aP h b=some (D6 l))(s:List Nat)(K:AV→Prop):
  RO (fT .str (.bool false) false (.str s) (dK h (.map b))) K=((s∈l→K (.bool true))∧(¬s∈l→K (.bool false))):=by
 rw[gU hb]
 by_cases q:s∈l
 ·rw[mQ GW (v:=()) _ _ (by rw[wO,if_pos q])];simp[q,RO,sK]
 ·rw[pB GW _ _ (by rw[wO,if_neg q])];simp[q,RO,sK]
theorem P9{b:Nat}{l:List (List Nat)}(hb:aP h b=some (D6 l)){s:List Nat}(hs:¬s∈l):hU h .str (.str s) (.bool true) (.map b)= .ok bS (bI h b (D6 (l++ [s]))):=by
 have:=zT (q:= .str) GW (k:=s) (v:=()) hb
 rw[this,vL (by rw[wO,if_neg hs])]
 unfold D6
 rw[List.map_append];rfl
def yC(l:List (List Nat)):Prop:=(∀s∈l,F5 s)∧l.Nodup
theorem F4{l:List (List Nat)}{i:Nat}{s:List Nat}(e:l[i]?=some s)(hs:¬F5 s∨s∈l.take i):¬yC l:=by
 rintro⟨p,q⟩
 rcases hs with hs|hs
 ·exact hs (p s (aG e))
 ·rw[←List.take_append_drop i l,List.nodup_append]at q
  obtain⟨hi,rfl⟩:=aD.1 e
  exact q.2.2 _ hs _ (by rw[List.drop_eq_getElem_cons hi];exact List.mem_cons_self ..) rfl
theorem dB{α:Type}{l:List α}{i:Nat}{s:α}(e:l[i]?=some s):l.take (i+1)=l.take i++ [s]:=by
 rw[List.take_add_one,e];rfl
theorem aMv{l:List (List Nat)}(hs:l.length<2^40)(k1:yC l→K (.bool true) h)(k2:¬yC l→K (.bool false) h):C 390 [strs l] h K:=by
 refine bG (aMz ?_)
 refine Sr ?_
 refine cD (σ:=Nat×aL) (fun p=> [iv p.1,iv l.length,strs l,.map h.aA,.bool false]) (fun p=>p.2) (fun p=>p.1≤l.length∧bW h.aA h p.2∧aP p.2 h.aA=some (D6 (l.take p.1))∧yC (l.take p.1)) (fun p=>l.length-p.1) ?_ (0,nw h (.map [] 0)) ⟨aH _,(bW.refl _ _).nw (aE _),by refine Sr ?_;rfl,⟨by simp,by simp⟩⟩ (A:=WL) (cur:=0)
 rintro⟨i,g⟩ ⟨hi,ho,hm,hn⟩
 refine aDh ?_
 simp only[go_sem,reduceAdd,reduceMul,reduceSub]at hi ho hm hn⊢
 refine⟨fun hl=> ?_,fun hl=> ?_⟩
 ·have hl:i<l.length:=by omega
  have e:=aC hl
  rw[bV (n:=1) (fun _=>rfl) e]
  refine Sr ?_
  refine aDf (fun hc=> ?_) (fun hc=> ?_)
  ·refine Sr ?_
   rw[LW hm]
   refine Sr ?_
   refine⟨fun q=> ?_,fun q=> ?_⟩
   ·exact bA ho rfl (k2 (F4 e (.inr q)))
   ·rw[P9 hm q]
    refine Sr ?_
    refine bT (by omega) (by omega) ⟨rfl,(i+1,bI g h.aA (D6 (l.take i++ [l[i]]))),⟨by show i+1≤_;omega,ho.set (aE _),?_,?_⟩,by show l.length-(i+1)<_;omega,rfl,rfl⟩
    ·show aP (bI g _ _) _=_
     rw[aU,dB e]
    ·show yC (l.take (i+1))
     rw[dB e]
     exact⟨fun s hs=>(List.mem_append.1 hs).elim (hn.1 s) (fun h=>by rw[List.mem_singleton.1 h];exact hc),List.nodup_append.2 ⟨hn.2,by simp,fun a ha b hb=>by rw[List.mem_singleton.1 hb];exact fun h=>q (h▸ha)⟩⟩
  ·refine Sr ?_
   exact bA ho rfl (k2 (F4 e (.inl hc)))
 ·have:i=l.length:=by omega
  subst this
  rw[List.take_length]at hn
  exact bA ho rfl (k1 hn)
end
section
variable{α:Type}
@[go_sem]theorem aRj(a:aL→R AV)(h h2:aL)(K:AV→Prop):cP a 1 [h,h2] K=RP (a h) (fun v _=>(∃h1,a h2= .ok v h1)∧K v):=rfl
@[go_sem]theorem aRk(v:AV)(h:aL):(∃h1,R.ok v h=R.ok v h1)=True:=eq_true ⟨h,rfl⟩
theorem bU:∀(z vs:List AV),z.length=vs.length→aV z 0 vs=some vs
 | [],[],_=>rfl
 |a::z,x::vs,h=>by
  rw[aGh,bU z vs (by simpa using h)];rfl
 | [],_::_,h=>by cases h
 |_::_,[],h=>by cases h
theorem RR{n b:Nat}{z vs:List AV}(hb:aP h b=some (.cells z))(hz:z.length=n)(hn:vs.length=n)(hv:aZ vs=true):aW h n vs (.ptr b 0)= .ok bS (bI h b (.cells vs)):=by
 rw[ZO hb hn hv,bU z vs (by rw[hz,hn])];rfl
theorem dG.fz'{n0 m n:Nat}{f:α→List AV}{v:AV}{l:List α}(q:dG n0 n f h v l)(hm:m≤n0)(hf:∀x,(f x).length=n)(hi:∀x∈l,bP (f x)=true):Fz h.t m v (sl f l):=by
 refine dG.fz (n0:=m) (n:=n) ?_ hf hi
 cases q with
 |aB=>exact .aB
 |row h1 h2 h3=>exact .row (by omega) h2 h3
theorem zQ:∀{a b:List AV},bP a=true→bP b=true→bP (a++b)=true
 | [],_,_,hb=>hb
 |x::a,b,ha,hb=>by
  simp only[bP,aI]at ha
  simp only[List.cons_append,bP,aI]
  exact⟨ha.1,zQ ha.2 hb⟩
theorem J2{f:α→List AV}(hf:∀x,bP (f x)=true):∀(l:List α),bP (l.flatMap f)=true
 | []=>rfl
 |x::l=>by rw[List.flatMap_cons];exact zQ (hf x) (J2 hf l)
theorem cN{f:α→List AV}(hf:∀x,bP (f x)=true)(l:List α):idless (sl f l)=true:=J2 hf l
theorem aY{a:AV}{l:List AV}(h1:idless a=true)(h2:bP l=true):bP (a::l)=true:=by simp only[bP,aI];exact⟨h1,h2⟩
theorem zR{l:List AV}(h:bP l=true):idless (.agg l)=true:=h
theorem eA{l:List AV}(h:bP l=true):idless (.tuple l)=true:=h
theorem d7{g:aL}{n b:Nat}{z vs:List AV}(hb:b=g.aA)(hz:z.length=n)(hn:vs.length=n)(hv:aZ vs=true):aW (nw g (.cells z)) n vs (.ptr b 0)= .ok bS (bI (nw g (.cells z)) b (.cells vs)):=by
 subst hb;exact RR (bQ _ _) hz hn hv
theorem aF7{n b:Nat}{l:List AV}(hb:aP h b=some (.cells l))(hl:l.length=n):aJ h (.many 0 n) (.ptr b 0)=some (.agg l):=by
 show fO 0 (.many 0 n) (aP h b)=_
 rw[hb]
 show K7 (bZ n (drop (0+0) l))=_
 rw[show drop (0+0) l=l from by cases l<;>rfl,fR (by omega),List.take_of_length_le (by omega)]
 rfl
@[go_sem]theorem UA{n:Nat}{l m:List AV}(hl:l.length=n):bZ n (l++m)=some l:=by
 rw[fR (by simp;omega),←hl,List.take_left]
@[go_sem]theorem aE1{n:Nat}{l:List AV}(hl:l.length=n):bZ n l=some l:=by
 rw[fR (by omega),List.take_of_length_le (by omega)]
theorem zS:∀(l:List Int),l.flatMap (fun x=> [iv x])=l.map iv
 | []=>rfl
 |x::l=>by rw[List.flatMap_cons,zS l];rfl
theorem dG.rdI{n0:Nat}{v:AV}{l:List Int}(q:dG n0 1 (fun x=> [iv x]) h v l):GU h v l:=by
 cases q with
 |aB=>exact .inr (.inl ⟨rfl,rfl⟩)
 | @row b _ h1 h2 h3=>
  refine .inr (.inr ⟨b,0,_,_,_,rfl,h3,?_⟩)
  rw[zS,List.drop_zero,List.take_of_length_le (by simp)]
theorem dG.own{n0 n:Nat}{f:α→List AV}{v:AV}{l:List α}(q:dG n0 n f h v l){b:Nat}(hb:gO v b):n0≤b∧b<h.aA:=by
 cases q with
 |aB=>exact hb.elim
 |row h1 h2 h3=>rw[show b=_ from hb];exact⟨h1,h2⟩
theorem fK(g:aL)(z vs:List AV):(bI (nw g (.cells z)) g.aA (.cells vs)).aA=g.aA+1:=by rw[bC,aT]
theorem ZM(g:aL)(z vs:List AV):aP (bI (nw g (.cells z)) g.aA (.cells vs)) g.aA=some (.cells vs):=aU _ _ _
theorem g8(g:aL)(z vs:List AV){b:Nat}(hb:b<g.aA):aP (bI (nw g (.cells z)) g.aA (.cells vs)) b=aP g b:=by rw[aX,if_neg (by omega),bF,if_neg (by omega)]
theorem iE{n b k c:Nat}{l:List AV}{m:Nat}(hb:aP h b=some (.cells l))(hl:l.length=m*n):elems h n m (.slice b 0 k c 0)=some l:=by
 show cellsIn 0 (Nat.mul m n) (aP h b)=_
 rw[hb]
 show bZ (m*n) (drop 0 l)=_
 rw[J4,fR (by omega),List.take_of_length_le (by omega)]
theorem bW.next'{n:Nat}{h h':aL}(q:bW n h h')(f:∀b,b<n→aP h' b=aP h b):bW n h h':=f
end
section
def rJ(c:cC)(ahead:List Int):Int:=
 if c.kind=1 then WH c.lo c.hi
 else if c.kind=2 then(if yC c.names then c.names.length else 0)
 else if c.kind=3 then
  (if 0≤min c.first c.thn∧max c.first c.thn<ahead.length then wrap64 (ahead.getD c.first.toNat 0*ahead.getD c.thn.toNat 0)else 0)
 else 0
theorem getD_some{l:List Int}{i:Int}(h0:0≤i)(h1:i<l.length):l[i.toNat]?=some (l.getD i.toNat 0):=by
 have:i.toNat<l.length:=by omega
 rw[aC this]
 simp[List.getD,this]
theorem cS{k:IntKind}{i:Int}(h0:0≤i):bB (.int k i)=some i.toNat:=by
 obtain⟨n,rfl⟩:=Int.eq_ofNat_of_zero_le h0
 rfl
theorem aMt{c:cC}{ahead:List Int}{v:AV}(hs:c.names.length<2^40)(hv:GU h v ahead)(hb:∀b,gO v b→b<h.aA)(k:K (iv (rJ c ahead)) h):C 323 [.agg (eC c),v] h K:=by
 refine bG (aMA ?_)
 refine Sr ?_
 have ho:bW h.aA h (nw h (.cells (eC c))):=(bW.refl _ _).nw (aE _)
 have hv':∀n,GU (up (nw h (.cells (eC c))) n) v ahead:=fun n=>by
  rcases hv with e|e|⟨b,off,cap,kind,cs,h1,h2,h3⟩
  ·exact .inl e
  ·exact .inr (.inl e)
  ·refine .inr (.inr ⟨b,off,cap,kind,cs,h1,?_,h3⟩)
   have:b<h.aA:=hb b (by rw[h1];rfl)
   rw[cM,bF,if_neg (by omega)]
   exact h2
 refine⟨yB c,?_⟩
 unfold rJ at k
 refine⟨fun q1=> ?_,fun q1=>⟨fun q2=> ?_,fun q2=>⟨fun q3=> ?_,fun q3=> ?_⟩⟩⟩
 ·rw[if_pos q1]at k
  refine aMu ?_
  refine Sr ?_
  exact bA ho rfl k
 ·rw[if_neg q1,if_pos q2]at k
  refine aMv hs (fun q=> ?_) (fun q=> ?_)
  ·refine Sr ?_
   rw[if_pos q]at k
   exact bA ho rfl k
  ·refine Sr ?_
   rw[if_neg q]at k
   exact bA ho rfl k
 ·rw[if_neg q1,if_neg q2,if_pos q3]at k
  refine⟨fun q4=> ?_,fun q4=> ?_⟩
  ·rw[hv.len]
   refine Sr ?_
   refine⟨fun q5=> ?_,fun q5=> ?_⟩
   ·rw[if_pos ⟨q4,q5⟩]at k
    have b1:0≤c.first∧0≤c.thn∧c.first<ahead.length∧c.thn<ahead.length:=by omega
    obtain⟨p1,p2,p3⟩:=(hv' 12).ix (getD_some b1.1 b1.2.2.1)
    obtain⟨p4,p5,p6⟩:=(hv' 12).ix (getD_some b1.2.1 b1.2.2.2)
    rw[cS b1.1,p2]
    refine Sr ?_
    rw[p3]
    refine Sr ?_
    rw[cS b1.2.1,p5]
    refine Sr ?_
    rw[p6]
    simp only[go_sem,reduceAdd,reduceMul,reduceSub,CQ]
    exact bA ho.up rfl k
   ·rw[if_neg (fun q=>q5 q.2)]at k
    exact bA ho rfl k
  ·rw[if_neg (fun q=>q4 q.1)]at k
   exact bA ho rfl k
 ·rw[if_neg q1,if_neg q2,if_neg q3]at k
  exact bA ho rfl k
end
section
@[go_sem]theorem aRV(K:AV→Prop):RO (aO .eql .bool (.bool true) (.bool true)) K=K (.bool true):=by unfold RO;rfl
@[go_sem]theorem aRW(K:AV→Prop):RO (aO .eql .bool (.bool true) (.bool false)) K=K (.bool false):=by unfold RO;rfl
@[go_sem]theorem aRX(K:AV→Prop):RO (aO .eql .bool (.bool false) (.bool true)) K=K (.bool false):=by unfold RO;rfl
@[go_sem]theorem aRY(K:AV→Prop):RO (aO .eql .bool (.bool false) (.bool false)) K=K (.bool true):=by unfold RO;rfl
@[go_sem]theorem aRZ(K:AV→Prop):RO (aO .neq .bool (.bool true) (.bool true)) K=K (.bool false):=by unfold RO;rfl
@[go_sem]theorem aR0(K:AV→Prop):RO (aO .neq .bool (.bool true) (.bool false)) K=K (.bool true):=by unfold RO;rfl
@[go_sem]theorem aR1(K:AV→Prop):RO (aO .neq .bool (.bool false) (.bool true)) K=K (.bool true):=by unfold RO;rfl
@[go_sem]theorem aR2(K:AV→Prop):RO (aO .neq .bool (.bool false) (.bool false)) K=K (.bool false):=by unfold RO;rfl
theorem L4(q:pN)(a b:Nat)(K:AV→Prop):RO (aO .mul q (.int .u64 a) (.int .u64 b)) K=K (.int .u64 ((a*b%18446744073709551616:Nat):Int)):=by unfold RO;rfl
theorem QE(q:pN)(a b:Nat)(K:AV→Prop):RO (aO .add q (.int .u64 a) (.int .u64 b)) K=K (.int .u64 ((((a+b)%18446744073709551616:Nat)):Int)):=by unfold RO;rfl
theorem L5(q:pN)(a:Nat)(K:AV→Prop):RO (aO .shr q (.int .u64 a) (.int .u64 32)) K=K (.int .u64 ((a>>>32:Nat):Int)):=by unfold RO;rfl
theorem WS(q:pN){a:Nat}(ha:a<18446744073709551616)(K:AV→Prop):RO (aO .and q (.int .u64 a) (.int .u64 4294967295)) K=K (.int .u64 ((a&&&4294967295:Nat):Int)):=by
 have:aO .and q (.int .u64 (a:Int)) (.int .u64 4294967295)=some (.int .u64 ((a&&&4294967295:Nat):Int)):=by
  show EX .u64 a 4294967295 (.int .u64 (.ofNat (Nat.land a 4294967295)))=_
  unfold EX
  rw[show Nat.blt a (nM .u64)=true from blt_eq.2 ha]
  rfl
 rw[this]
 unfold RO
 rfl
def S5(x y:Nat):Nat×Nat:=
 let x0:=x&&&4294967295
 let x1:=x>>>32
 let y0:=y&&&4294967295
 let y1:=y>>>32
 let w0:=x0*y0%18446744073709551616
 let t:=(x1*y0%18446744073709551616+w0>>>32)%18446744073709551616
 let w1:=((t&&&4294967295)+x0*y1%18446744073709551616)%18446744073709551616
 ((((x1*y1%18446744073709551616)+(t>>>32))%18446744073709551616+w1>>>32)%18446744073709551616,x*y%18446744073709551616)
theorem aMZ{x y:Nat}(hx:x<18446744073709551616)(hy:y<18446744073709551616)(k:K (.tuple [.int .u64 ((S5 x y).1:Int),.int .u64 ((S5 x y).2:Int)]) h):C 474 [.int .u64 x,.int .u64 y] h K:=by
 refine aM8 ?_
 have hm:∀n:Nat,n%18446744073709551616<18446744073709551616:=fun n=>Nat.mod_lt _ (by decide)
 rw[WS _ hx,L5,WS _ hy,L5,L4,L4,L5,QE,WS _ (hm _),L5,L4,QE,L4,QE,L5,QE,L4]
 exact⟨rfl,rfl,k⟩
def D9(a:Int):Nat:=if a<0 then(eZ .u64 (0-eZ .u64 a)).toNat else(eZ .u64 a).toNat
theorem QG(a:Int):∃n:Nat,eZ .u64 a=(n:Int)∧n<18446744073709551616:=by
 rw[lU]
 have h:IntKind.wrap .u64 a=a%18446744073709551616:=by simp[IntKind.wrap,IntKind.bits,IntKind.signed]
 rw[h]
 exact⟨(a%18446744073709551616).toNat,by omega,by omega⟩
theorem aHQ{a:Int}(k:D9 a<18446744073709551616→K (.int .u64 (D9 a:Int)) h):C 475 [iv a] h K:=by
 refine aM7 ?_
 unfold D9 at k
 obtain⟨n,hn,hl⟩:=QG a
 obtain⟨m,hm,hl2⟩:=QG (0-eZ .u64 a)
 have ng:gS .neg (.int .u64 (eZ .u64 a))=some (.int .u64 (eZ .u64 (0-eZ .u64 a))):=rfl
 refine Sr ?_
 refine⟨fun q=> ?_,fun q=> ?_⟩
 ·rw[if_pos q,hm]at k
  rw[ng,hm]
  refine Sr ?_
  exact k hl2
 ·rw[if_neg q,hn]at k
  rw[hn]
  exact k hl
end
section
attribute [local irreducible] cl
structure dS where
 most:Int
 enough:Int
 opn:Int
 done:Int
 failed:Int
def eB(b:dS):List AV:= [iv b.most,iv b.enough,iv b.opn,iv b.done,iv b.failed]
@[go_sem]theorem yF(b:dS):(eB b).length=5:=by cases b;rfl
theorem nW(b:dS):aZ (eB b)=true:=by cases b;rfl
@[go_sem]theorem aTV(b:dS):bR (eB b) 0=some (iv b.most):=rfl
@[go_sem]theorem aTW(b:dS):bR (eB b) 1=some (iv b.enough):=rfl
@[go_sem]theorem aTX(b:dS):bR (eB b) 2=some (iv b.opn):=rfl
@[go_sem]theorem aTY(b:dS):bR (eB b) 3=some (iv b.done):=rfl
@[go_sem]theorem aTZ(b:dS):bR (eB b) 4=some (iv b.failed):=rfl
theorem OG{n lo hi:Int}(k1:lo≤n∧n≤hi→K (.bool true) h)(k2:¬(lo≤n∧n≤hi)→K (.bool false) h):C 186 [iv n,iv lo,iv hi] h K:=by
 refine aNs ?_
 refine Sr ?_
 repeat'(first|refine And.intro ?_ ?_|intro _)
 all_goals first|exact k1 (by omega)|exact k2 (by omega)
def yG(b:dS):Int:=wrap64 (wrap64 (b.opn+b.done)+b.failed)
theorem aHS{b:dS}(k:K (iv (yG b)) h):C 200 [.agg (eB b)] h K:=by
 refine bG (aNw ?_)
 simp only[go_sem,reduceAdd,reduceMul,reduceSub,g9]
 first|exact⟨nW b,fP k⟩|exact fP k
end
section
attribute [go_sem] List.length_cons List.length_nil
@[go_sem]theorem aJs(n k:Nat):(n=n+(k+1))=False:=by simp
@[go_sem]theorem aJt(n k:Nat):(n+(k+1)=n)=False:=by simp
@[go_sem]theorem aCe(n k m:Nat):(n+k=n+m)=(k=m):=by simp
@[go_sem]theorem aLQ{o:AO}{b:Nat}(hb:¬b=h.aA):aP (nw h o) b=aP h b:=by rw[bF,if_neg hb]
@[go_sem]theorem aES{c b:Nat}{o:AO}(hb:¬b=c):aP (bI h c o) b=aP h b:=by rw[aX,if_neg hb]
@[go_sem]theorem aCf{c b:Nat}{o:AO}(hb:¬b=c):aP (nwAt h c o) b=aP h b:=by rw[gH,if_neg hb]
@[go_sem]theorem aET{c b:Nat}(hb:¬b=c):aP (jK h c) b=aP h b:=by rw[i7,if_neg hb]
@[go_sem]theorem aEU:aQ .nilm=true:=rfl
@[go_sem]theorem aEV:aQ .nilf=true:=rfl
@[go_sem]theorem aEW:aQ .nilp=true:=rfl
@[go_sem]theorem aEX:aQ .nili=true:=rfl
@[go_sem]theorem aF6{c:List AV}{off size:Nat}{l:List AV}{rest:List (Nat×Nat×AV)}(h1:l.length=size)(h2:aZ l=true):bK c ((off,size,.agg l)::rest)=jY rest (aV c off l):=by
 rw[CR _ _ _ (.agg l) _ (show(aK (.agg l)).length=size from h1) h2]
 show(match aV c off l with|some c=>bK c rest|none=>none)=_
 cases aV c off l<;>rfl
@[go_sem]theorem aEY(c:List AV)(off:Nat)(rest:List (Nat×Nat×AV)):bK c ((off,1,.nilm)::rest)=jY rest (aV c off [.nilm]):=lW c off _ rest rfl rfl
@[go_sem]theorem aEZ(c:List AV)(off:Nat)(rest:List (Nat×Nat×AV)):bK c ((off,1,.nilf)::rest)=jY rest (aV c off [.nilf]):=lW c off _ rest rfl rfl
@[go_sem]theorem aE0(c:List AV)(off:Nat)(rest:List (Nat×Nat×AV)):bK c ((off,1,.nilp)::rest)=jY rest (aV c off [.nilp]):=lW c off _ rest rfl rfl
def stI(h:aL)(b off:Nat)(vs:List AV):Option AO→R AV
 |some (.cells l)=>stS h b (aV l off vs)
 |_=> .bad
@[go_sem]theorem aRi(h:aL)(b off:Nat)(vs l:List AV):stI h b off vs (some (.cells l))=stS h b (aV l off vs):=rfl
@[go_sem]theorem nA{n b off:Nat}{vs:List AV}(hn:vs.length=n)(hv:aZ vs=true):aW h n vs (.ptr b off)=stI h b off vs (aP h b):=by
 show(bif rE n vs then yX bS (bif aZ vs then kM h b off vs (aP h b)else none)else .bad)=_
 rw[show rE n vs=true from beq_eq.2 hn,hv]
 cases hb:aP h b with
 |none=>rfl
 |some o=>
  cases o with
  |cells l=>
   show yX bS (uR h b (aV l off vs))=stS h b (aV l off vs)
   cases aV l off vs<;>rfl
  |_=>rfl
theorem dG.cells{α:Type}{n0 n:Nat}{f:α→List AV}{v:AV}{l:List α}(q:dG n0 n f h v l):aK v= [v]:=by
 generalize l=l' at q
 cases q<;>rfl
theorem dG.cellA{α:Type}{n0 n:Nat}{f:α→List AV}{v:AV}{l:List α}(q:dG n0 n f h v l):cellA v=true:=by
 generalize l=l' at q
 cases q<;>rfl
theorem dG.all1{α:Type}{n0 n:Nat}{f:α→List AV}{v:AV}{l:List α}(q:dG n0 n f h v l):aZ [v]=true:=by
 rw[pA];exact⟨q.cellA,rfl⟩
theorem dG.le{α:Type}{n0 m n:Nat}{f:α→List AV}{v:AV}{l:List α}(q:dG n0 n f h v l)(hm:m≤n0):dG m n f h v l:=by
 cases q with
 |aB=>exact .aB
 |row h1 h2 h3=>exact .row (by omega) h2 h3
theorem vI(n:Nat):∀(l:List Nat),HL n l=true↔n∈l
 | []=>by simp[HL]
 |m::l=>by
  have:=vI n l
  simp only[HL,List.mem_cons]
  cases hb:Nat.beq n m with
  |true=>rw[beq_eq.1 hb];simp
  |false=>
   have:¬n=m:=fun h=>by rw[beq_eq.2 h]at hb;cases hb
   simp[this,vI n l]
theorem uN(S:List Nat)(e:kU):∀(l:List kU),e∈leftOf S l↔e∈l∧¬e.2.2∈S
 | []=>by simp[leftOf]
 |x::l=>by
  have ih:=uN S e l
  simp only[leftOf]
  cases hb:HL x.2.2 S with
  |true=>
   have hx:=(vI _ _).1 hb
   simp only[cond_true,ih,List.mem_cons]
   constructor
   ·rintro⟨h1,h2⟩;exact⟨.inr h1,h2⟩
   ·rintro⟨rfl|h1,h2⟩
    ·exact absurd hx h2
    ·exact⟨h1,h2⟩
  |false=>
   have hx:¬x.2.2∈S:=fun h=>by rw[(vI _ _).2 h]at hb;cases hb
   simp only[cond_false,List.mem_cons,ih]
   constructor
   ·rintro(rfl|⟨h1,h2⟩)
    ·exact⟨.inl rfl,hx⟩
    ·exact⟨.inr h1,h2⟩
   ·rintro⟨rfl|h1,h2⟩
    ·exact .inl rfl
    ·exact .inr ⟨h1,h2⟩
section
variable{κ υ:Type}{fk:κ→AV}{fv:υ→AV}
theorem JZ{e:kU}:∀{l:List (κ×υ)} {n:Nat},e∈gG fk fv n l→∃i k v,l[i]?=some (k,v)∧e=(fk k,fv v,n+i)
 | [],_,h=>by cases h
 |(k,v)::l,n,h=>by
  rcases List.mem_cons.1 h with rfl|h
  ·exact⟨0,k,v,rfl,rfl⟩
  ·obtain⟨i,k',v',h1,h2⟩:=JZ h
   exact⟨i+1,k',v',by simpa using h1,by rw[h2];congr 2;omega⟩
theorem ZK{l:List (κ×υ)}{i:Nat}{k:κ}{v:υ}(n:Nat)(h:l[i]?=some (k,v)):(fk k,fv v,n+i)∈gG fk fv n l:=by
 induction l generalizing i n with
 |nil=>cases h
 |cons x l ih=>
  obtain⟨k',v'⟩:=x
  cases i with
  |zero=>simp at h;obtain⟨rfl,rfl⟩:=h;exact List.mem_cons_self ..
  |succ i=>
   have:=ih (n+1) (by simpa using h)
   rw[show n+(i+1)=n+1+i by omega]
   exact List.mem_cons_of_mem _ this
theorem J0{l:List (κ×υ)}{i:Nat}{k:κ}{v:υ}(n:Nat)(h:l[i]?=some (k,v)):kN (n+i) (gG fk fv n l)=some (fk k,fv v):=by
 induction l generalizing i n with
 |nil=>cases h
 |cons x l ih=>
  obtain⟨k',v'⟩:=x
  cases i with
  |zero=>
   simp at h;obtain⟨rfl,rfl⟩:=h
   show(bif Nat.beq n (n+0)then _ else _)=_
   rw[show Nat.beq n (n+0)=true from beq_eq.2 rfl];rfl
  |succ i=>
   show(bif Nat.beq n (n+(i+1))then _ else kN (n+(i+1)) (gG fk fv (n+1) l))=_
   rw[show Nat.beq n (n+(i+1))=false from by cases hb:Nat.beq n (n+(i+1))with|false=>rfl|true=>have:=beq_eq.1 hb;omega]
   rw[show n+(i+1)=n+1+i by omega]
   exact ih (n+1) (by simpa using h)
theorem J1{l:List (κ×υ)}{n m:Nat}(hl:l≠[])(h:n<m):sL m (gG fk fv n l)=false:=by
 cases l with
 |nil=>exact absurd rfl hl
 |cons x l=>
  obtain⟨k,v⟩:=x
  show(bif Nat.ble m n then _ else false)=false
  rw[show Nat.ble m n=false from by cases hb:Nat.ble m n with|false=>rfl|true=>have:=ble_eq.1 hb;omega]
  rfl
theorem CN{l:List (κ×υ)}{S:List Nat}{b mb:Nat}(hb:aP h b=some (.miter (some mb) l.length S l.length))(hm:aP h mb=some (zA fk fv l))
  (k1:∀i k v,l[i]?=some (k,v)→¬i∈S→K (.tuple [.bool true,fk k,fv v]) (bI h b (.miter (some mb) l.length (S++ [i]) l.length)))
  (k2:(∀i,i<l.length→i∈S)→K (.tuple [.bool false]) h):UE false (.ptr b 0) h K:=by
 have hma:gY h mb=some (gG fk fv 0 l,l.length):=by
  show wC (aP h mb)=_
  rw[hm];rfl
 unfold UE NX
 refine W.next (t:= .leaf) (it:= .val (.ptr b 0)) rfl hb hma ?_ ?_
 ·cases l with
  |nil=>simp[gG,pJ]
  |cons x l=>rw[J1 (by simp) (by simp)];simp
 ·rintro v h' (⟨e,he,rfl,rfl⟩|⟨he,rfl,rfl⟩)
  ·obtain⟨h1,h2⟩:=(uN _ _ _).1 he
   obtain⟨i,k,v,h3,rfl⟩:=JZ h1
   simp only[Nat.zero_add]at h2⊢
   exact k1 i k v h3 h2
  ·refine k2 fun i hi=>Classical.byContradiction fun hn=> ?_
   have e1:l[i]?=some (l[i].1,l[i].2):=by rw[aC hi]
   have:=he _ ((uN _ _ _).2 ⟨ZK (fk:=fk) (fv:=fv) 0 e1,by simpa using hn⟩)
   simp only[Nat.zero_add]at this
   omega
theorem vJ{l:List (κ×υ)}{S:List Nat}{b mb n i:Nat}{k:κ}{v:υ}(hb:aP h b=some (.miter (some mb) n (S++ [i]) l.length))(hm:aP h mb=some (zA fk fv l))(e:l[i]?=some (k,v)):
  EZ h (.ptr b 0)=some (.tuple [fk k,fv v]):=by
 show SU h (aP h b)=_
 rw[hb]
 show(match(S++ [i]).getLast? with|some s=>VP s l.length (gY h mb)|none=>none)=_
 rw[List.getLast?_concat]
 show VP i l.length (wC (aP h mb))=_
 rw[hm]
 show(bif Nat.beq l.length l.length then P0 (kN i (gG fk fv 0 l))else none)=_
 rw[beq_eq.2 rfl]
 have:=J0 (fk:=fk) (fv:=fv) 0 e
 rw[Nat.zero_add]at this
 rw[this];rfl
theorem oZ{l:List (κ×υ)}{mb:Nat}(hm:aP h mb=some (zA fk fv l)):qL h (.map mb)= .ok (.ptr h.aA 0) (nw h (.miter (some mb) l.length [] l.length)):=by
 show HK h mb (wC (aP h mb))=_
 rw[hm]
 exact fJ _ _ _
def rS(l:List (κ×υ))(S:List Nat):List (κ×υ):=S.filterMap fun i=>l[i]?
theorem vK{l:List (κ×υ)}{S:List Nat}{i:Nat}{x:κ×υ}(e:l[i]?=some x):rS l (S++ [i])=rS l S++ [x]:=by
 unfold rS
 rw[List.filterMap_append]
 congr 1
 simp[e]
theorem RN:∀(l:List (κ×υ)),(List.range l.length).filterMap (fun i=>l[i]?)=l:=fun l=>by
 have:∀n,n≤l.length→(List.range n).filterMap (fun i=>l[i]?)=l.take n:=by
  intro n
  induction n with
  |zero=>intro _;rfl
  |succ n ih=>
   intro hn
   rw[List.range_succ,List.filterMap_append,ih (by omega),List.take_add_one]
   simp[aC (show n<l.length by omega)]
 rw[this _ (aE _),List.take_length]
def iI(l:List (κ×υ))(S:List Nat):Prop:=S.Nodup∧∀i∈S,i<l.length
theorem iI.nil(l:List (κ×υ)):iI l []:=⟨List.nodup_nil,fun _ h=>by cases h⟩
theorem iI.app{l:List (κ×υ)}{S:List Nat}(q:iI l S){i:Nat}{x:κ×υ}(e:l[i]?=some x)(hi:¬i∈S):iI l (S++ [i]):=by
 refine⟨List.nodup_append.2 ⟨q.1,by simp,fun a ha b hb=> ?_⟩,fun j hj=> ?_⟩
 ·rw[List.mem_singleton.1 hb];exact fun h=>hi (h▸ha)
 ·rcases List.mem_append.1 hj with h|h
  ·exact q.2 j h
  ·rw[List.mem_singleton.1 h];exact(aD.1 e).1
theorem iI.len{l:List (κ×υ)}{S:List Nat}(q:iI l S):S.length≤l.length:=by
 have:=List.Nodup.length_le_of_subset q.1 (l₂:=List.range l.length) fun i hi=>List.mem_range.2 (q.2 i hi)
 simpa using this
theorem iI.perm{l:List (κ×υ)}{S:List Nat}(q:iI l S)(hc:∀i,i<l.length→i∈S):(rS l S).Perm l:=by
 have:S.Perm (List.range l.length):=(List.perm_ext_iff_of_nodup q.1 List.nodup_range).2 fun i=>by
  rw[List.mem_range];exact⟨q.2 i,hc i⟩
 have:=this.filterMap (fun i=>l[i]?)
 rw[RN]at this
 exact this
theorem iI.lt{l:List (κ×υ)}{S:List Nat}(q:iI l S){i:Nat}{x:κ×υ}(e:l[i]?=some x)(hi:¬i∈S):S.length<l.length:=by
 have:=(q.app e hi).len
 simp at this;omega
theorem ZL{l:List (κ×υ)}{S:List Nat}{x:κ×υ}:x∈rS l S↔∃i∈S,l[i]?=some x:=List.mem_filterMap
theorem GT{l:List (κ×υ)}{S:List Nat}(hn:(l.map Prod.fst).Nodup){i:Nat}{k:κ}{v:υ}(e:l[i]?=some (k,v))(hi:¬i∈S):¬k∈(rS l S).map Prod.fst:=by
 intro h
 obtain⟨⟨k',v'⟩,h1,rfl⟩:=List.mem_map.1 h
 obtain⟨j,h2,h3⟩:=ZL.1 h1
 have e1:(l.map Prod.fst)[i]?=some k':=by rw[List.getElem?_map,e];rfl
 have e2:(l.map Prod.fst)[j]?=some k':=by rw[List.getElem?_map,h3];rfl
 have hl:=(aD.1 e1).1
 have hl2:=(aD.1 e2).1
 have:i=j:=(List.getElem?_inj hl hn).1 (by rw[e1,e2])
 exact hi (this▸h2)
end
end
section
def nS:List cC→List Int→List (List Nat)→Option (List Int)
 | [],acc,_=>some acc
 |c::l,acc,had=>if F5 c.name∧¬c.name∈had∧1≤rJ c acc∧rJ c acc≤1024 then nS l (acc++ [rJ c acc]) (had++ [c.name])else none
def nT(l:List cC):Option (List Int):=if 32<(l.length:Int)then none else nS l [] []
theorem aHt{l:List cC}(hs:∀c∈l,c.names.length<2^40)(k1:∀n,nT l=some n→K (.tuple [ints n,.bool true]) h)(k2:nT l=none→K (.tuple [.aB,.bool false]) h):C 229 [sl eC l] h K:=by
 refine bG (aMB ?_)
 unfold nT at k1 k2
 refine Sr ?_
 refine⟨fun q=> ?_,fun q=> ?_⟩
 ·exact bA (bW.refl _ _) rfl (k2 (if_pos q))
 ·rw[if_neg q]at k1 k2
  refine cD (σ:=Nat×aL×AV×List Int) (fun p=> [iv p.1,iv l.length,sl eC l,p.2.2.1,.map h.aA,.aB,.bool false]) (fun p=>p.2.1)
   (fun p=>p.1≤l.length∧bW h.aA h p.2.1∧h.aA<p.2.1.aA∧aP p.2.1 h.aA=some (D6 ((l.take p.1).map cC.name))∧dG (h.aA+1) 1 (fun x=> [iv x]) p.2.1 p.2.2.1 p.2.2.2∧p.2.2.2.length=p.1∧nS l [] []=nS (l.drop p.1) p.2.2.2 ((l.take p.1).map cC.name))
   (fun p=>l.length-p.1) ?_ (0,nw h (.map [] 0),.aB,[]) ⟨aH _,(bW.refl _ _).nw (aE _),Nat.lt_succ_self _,by refine Sr ?_;rfl,.aB,rfl,rfl⟩ (A:=WN) (cur:=0)
  rintro⟨i,g,v,acc⟩ ⟨hi,ho,hg,hm,hv,hac,hf⟩
  refine aDi ?_
  simp only at hi ho hg hm hv hac hf
  refine Sr ?_
  refine⟨fun hl=> ?_,fun hl=> ?_⟩
  ·have hl:i<l.length:=by omega
   have e:=aC hl
   rw[bV qV e]
   refine Sr ?_
   simp only[go_sem,reduceAdd,reduceMul,reduceSub,d7,yB,List.length_cons,List.length_nil]
   obtain⟨g2,hg2⟩:∃g2,g2=bI (nw g (.cells [(.str []),(iv 0),(iv 0),(iv 0),.aB,(iv 0),(iv 0)])) g.aA (.cells (eC l[i])):=⟨_,rfl⟩
   have n2:g2.aA=g.aA+1:=by rw[hg2,fK]
   have s2:aP g2 g.aA=some (.cells (eC l[i])):=by rw[hg2,ZM]
   have f2:∀b,b<g.aA→aP g2 b=aP g b:=fun b hb=>by rw[hg2,g8 _ _ _ hb]
   rw[←hg2]
   have ho2:bW h.aA h g2:=fun b hb=>by rw[f2 b (by omega)];exact ho b hb
   have hm2:aP g2 h.aA=some (D6 ((l.take i).map cC.name)):=by rw[f2 _ hg];exact hm
   have hv2:=hv.mono (h':=g2) (by omega) (fun b hb=>f2 b (hv.own hb).2)
   have hin:l[i]∈l:=List.getElem_mem hl
   refine aMt (hs _ hin) hv2.rdI (fun b hb=>(hv2.own hb).2) ?_
   rw[s2]
   refine Sr ?_
   have st:nS (l.drop i) acc ((l.take i).map cC.name)=if F5 l[i].name∧¬l[i].name∈(l.take i).map cC.name∧1≤rJ l[i] acc∧rJ l[i] acc≤1024 then nS (l.drop (i+1)) (acc++ [rJ l[i] acc]) ((l.take i).map cC.name++ [l[i].name])else none:=by
    rw[List.drop_eq_getElem_cons hl];rfl
   rw[hf,st]at k2
   refine aDf (fun hc=> ?_) (fun hc=> ?_)
   ·refine Sr ?_
    rw[s2]
    refine Sr ?_
    rw[LW hm2]
    refine Sr ?_
    refine⟨fun q1=> ?_,fun q1=>⟨fun q2=> ?_,fun q2=>⟨fun q3=> ?_,fun q3=> ?_⟩⟩⟩
    ·exact⟨hv.seen,bA ho2 rfl (k2 (if_neg (fun p=>p.2.1 q1)))⟩
    ·exact⟨hv.seen,bA ho2 rfl (k2 (if_neg (fun p=>by omega)))⟩
    ·exact⟨hv.seen,bA ho2 rfl (k2 (if_neg (fun p=>by omega)))⟩
    ·rw[s2]
     refine Sr ?_
     rw[P9 hm2 q1]
     refine Sr ?_
     have hlen:l.length≤32:=by omega
     obtain⟨g3,hg3⟩:∃g3,g3=bI g2 h.aA (D6 ((l.take i).map cC.name++ [l[i].name])):=⟨_,rfl⟩
     rw[←hg3]
     have n3:g3.aA=g.aA+1:=by rw[hg3,bC,n2]
     have ho3:bW h.aA h g3:=by rw[hg3];exact ho2.set (aE _)
     have hm3:aP g3 h.aA=some (D6 ((l.take i).map cC.name++ [l[i].name])):=by rw[hg3,aU]
     have hv3:=hv2.mono (h':=nw g3 (.cells [iv (rJ l[i] acc)])) (by rw[aT,n3,n2];omega) (fun b hb=>by
      have:=(hv.own hb)
      rw[bF,if_neg (by omega),hg3,aX,if_neg (by omega)])
     obtain⟨v',g5,a1,a2,a3,a4,a5,a6⟩:=hv3.app (xs:= [rJ l[i] acc]) (x:= .slice g2.aA 0 1 1 0) (fun _=>rfl) (by rw[aT];omega) (fun y _=>rfl) (by simp) rfl (iE (by rw[show g2.aA=g3.aA by omega];exact bQ _ _) rfl) (by simp;omega)
     rw[a1]
     refine Sr ?_
     refine bT (by omega) (by omega) ⟨⟨rfl,a2.seen⟩,(i+1,g5,v',acc++ [rJ l[i] acc]),⟨hl,?_,?_,?_,a2,by simp[hac],?_⟩,by show l.length-(i+1)<_;omega,rfl,rfl⟩
     ·intro b hb
      show aP g5 b=_
      rw[a4 b (by rw[aT];omega) (hv3.old (by omega)),bF,if_neg (by omega)]
      exact ho3 b hb
     ·show h.aA<g5.aA
      rw[a3,aT];omega
     ·show aP g5 h.aA=some (D6 ((l.take (i+1)).map cC.name))
      rw[a4 _ (by rw[aT];omega) (hv3.old (by omega)),bF,if_neg (by omega),hm3,dB e,List.map_append]
      rfl
     ·show _=nS (l.drop (i+1)) (acc++ [rJ l[i] acc]) ((l.take (i+1)).map cC.name)
      rw[hf,st,if_pos ⟨hc,q1,by omega,by omega⟩,dB e,List.map_append]
      rfl
   ·refine Sr ?_
    exact⟨hv.seen,bA ho2 rfl (k2 (if_neg (fun p=>hc p.1)))⟩
  ·have:i=l.length:=by omega
   subst this
   rw[List.drop_length]at hf
   exact⟨hv.seen,hv.seen,ho,.tuple [ints acc,.bool true],.tuple (.cons (hv.fz' (Nat.le_succ _) (fun _=>rfl) (fun _ _=>rfl)) (.cons (.same rfl) .nil)),k1 acc hf⟩
end
section
def L2(p:Int×Int):AV:= .tuple [iv p.1,iv p.2]
@[go_sem]theorem aHH(p:Int×Int):aR 0 (L2 p)=some (iv p.1):=rfl
@[go_sem]theorem aHI(p:Int×Int):aR 1 (L2 p)=some (iv p.2):=rfl
theorem rQ{p:Int×Int}{x y:Int}(k:K (L2 p) h)(e:p=(x,y)):K (.tuple [iv x,iv y]) h:=by rw[e]at k;exact k
def aHJ(a b:Int):Int×Int:=if((a<0)↔(b<0))∧¬((wrap64 (a+b)<0)↔(a<0))then(0,6)else(wrap64 (a+b),0)
def aHK(a b:Int):Int×Int:=if¬((a<0)↔(b<0))∧¬((wrap64 (a-b)<0)↔(a<0))then(0,6)else(wrap64 (a-b),0)
theorem aMU{a b:Int}(k:K (L2 (aHJ a b)) h):C 464 [iv a,iv b] h K:=by
 refine aM3 ?_
 simp only[go_sem,reduceAdd,reduceMul,reduceSub,g9]
 repeat'(first|refine And.intro ?_ ?_|intro _)
 all_goals first
  |exact rQ k (if_pos (by omega))
  |exact rQ k (if_neg (by omega))
theorem aMV{a b:Int}(k:K (L2 (aHK a b)) h):C 465 [iv a,iv b] h K:=by
 refine aM4 ?_
 simp only[go_sem,reduceAdd,reduceMul,reduceSub,CP]
 repeat'(first|refine And.intro ?_ ?_|intro _)
 all_goals first
  |exact rQ k (if_pos (by omega))
  |exact rQ k (if_neg (by omega))
def aDt(a b:Int):Int×Int:=
 if 0<((S5 (D9 a) (D9 b)).1:Int)∨(if(a<0↔b<0)then 9223372036854775807 else 9223372036854775808)<((S5 (D9 a) (D9 b)).2:Int)then(0,6)else(wrap64 (a*b),0)
theorem aMW{a b:Int}(k:K (L2 (aDt a b)) h):C 466 [iv a,iv b] h K:=by
 refine aM5 ?_
 refine aHQ (fun ha=>aHQ (fun hb=>aMZ ha hb ?_))
 unfold aDt at k
 have u1:∀(q:pN) (K:AV→Prop),RO (aO .add q (.int .u64 9223372036854775807) (.int .u64 1)) K=K (.int .u64 9223372036854775808):=fun q K=>by unfold RO;rfl
 simp only[go_sem,reduceAdd,reduceMul,reduceSub,u1,CQ]
 generalize ((S5 (D9 a) (D9 b)).1:Int)=m1 at*
 generalize ((S5 (D9 a) (D9 b)).2:Int)=m2 at*
 repeat'(first|refine And.intro ?_ ?_|intro _)
 all_goals first
  |exact rQ k (if_pos (by split<;>omega))
  |exact rQ k (if_neg (by split<;>omega))
def S0(a b:Int):Int×Int×Int:=if b=0 then(0,0,7)else if a= -9223372036854775808∧b= -1 then(0,0,6)else(eZ .i64 (a.tdiv b),a.tmod b,0)
def pr3(p:Int×Int×Int):AV:= .tuple [iv p.1,iv p.2.1,iv p.2.2]
@[go_sem]theorem aHM(p:Int×Int×Int):aR 0 (pr3 p)=some (iv p.1):=rfl
@[go_sem]theorem aHN(p:Int×Int×Int):aR 1 (pr3 p)=some (iv p.2.1):=rfl
@[go_sem]theorem aHO(p:Int×Int×Int):aR 2 (pr3 p)=some (iv p.2.2):=rfl
theorem aAI{p:Int×Int×Int}{x y z:Int}(k:K (pr3 p) h)(e:p=(x,y,z)):K (.tuple [iv x,iv y,iv z]) h:=by rw[e]at k;exact k
theorem WR(q:pN){a b:Int}(hb:¬b=0)(K:AV→Prop):RO (aO .quo q (iv a) (iv b)) K=K (iv (eZ .i64 (a.tdiv b))):=by
 have:aO .quo q (iv a) (iv b)=some (iv (eZ .i64 (a.tdiv b))):=by
  show(bif NZ b 0 then none else some (iv (eZ .i64 (a.tdiv b))))=_
  rw[lY,decide_eq_false hb];rfl
 rw[this];unfold RO;rfl
theorem aBx(q:pN){a b:Int}(hb:¬b=0)(K:AV→Prop):RO (aO .rem q (iv a) (iv b)) K=K (iv (a.tmod b)):=by
 have:aO .rem q (iv a) (iv b)=some (iv (a.tmod b)):=by
  show(bif NZ b 0 then none else some (iv (a.tmod b)))=_
  rw[lY,decide_eq_false hb];rfl
 rw[this];unfold RO;rfl
theorem aHP{a b:Int}(k:K (pr3 (S0 a b)) h):C 467 [iv a,iv b] h K:=by
 refine bG (aM6 ?_)
 unfold S0 at k
 refine Sr ?_
 refine⟨fun q=> ?_,fun q=>⟨fun q1=>⟨fun q2=> ?_,fun q2=> ?_⟩,fun q1=> ?_⟩⟩
 ·exact fP (aAI k (if_pos q))
 ·exact fP (aAI k (by rw[if_neg q,if_pos ⟨q1,q2⟩]))
 ·rw[WR _ q,aBx _ q]
  exact⟨rfl,rfl,fP (aAI k (by rw[if_neg q,if_neg (fun x=>q2 x.2)]))⟩
 ·rw[WR _ q,aBx _ q]
  exact⟨rfl,rfl,fP (aAI k (by rw[if_neg q,if_neg (fun x=>q1 x.1)]))⟩
theorem F7(k:K (.tuple [iv 1,iv 0]) h):C 468 [.bool true] h K:=by
 refine aHR ?_
 refine Sr ?_;exact k
theorem F8(k:K (.tuple [iv 0,iv 0]) h):C 468 [.bool false] h K:=by
 refine aHR ?_
 refine Sr ?_;exact k
theorem aMX{a:Int}(k1:1≤a∧a≤11→K (.bool true) h)(k2:¬(1≤a∧a≤11)→K (.bool false) h):C 326 [iv a] h K:=by
 refine aM0 ?_
 refine Sr ?_
 repeat'(first|refine And.intro ?_ ?_|intro _)
 all_goals first|exact k1 (by omega)|exact k2 (by omega)
def zH(p:Prop):Int×Int:=if p then(1,0)else(0,0)
def D8(op a b:Int):Int×Int:=
 if op=1 then aHJ a b else if op=2 then aHK a b else if op=3 then aDt a b
 else if op=4 then((S0 a b).1,(S0 a b).2.2)else if op=5 then((S0 a b).2.1,(S0 a b).2.2)
 else if op=6 then zH (a=b)else if op=7 then zH (¬a=b)else if op=8 then zH (a<b)else if op=9 then zH (a≤b)
 else if op=10 then zH (¬a=0∧¬b=0)else if op=11 then zH (¬a=0∨¬b=0)else(0,1)
theorem aAJ{op a b:Int}(k:K (L2 (D8 op a b)) h):C 457 [iv op,iv a,iv b] h K:=by
 refine aM2 ?_
 unfold D8 at k
 refine Sr ?_
 refine⟨fun q=> ?_,fun q=> ?_⟩
 ·rw[if_pos q]at k
  refine aMU ?_
  refine Sr ?_
  exact k
 ·rw[if_neg q]at k
  refine⟨fun q=> ?_,fun q=> ?_⟩
  ·rw[if_pos q]at k
   refine aMV ?_
   refine Sr ?_
   exact k
  ·rw[if_neg q]at k
   refine⟨fun q=> ?_,fun q=> ?_⟩
   ·rw[if_pos q]at k
    refine aMW ?_
    refine Sr ?_
    exact k
   ·rw[if_neg q]at k
    refine⟨fun q=> ?_,fun q=> ?_⟩
    ·rw[if_pos q]at k
     refine aHP ?_
     refine Sr ?_
     exact k
    ·rw[if_neg q]at k
     refine⟨fun q=> ?_,fun q=> ?_⟩
     ·rw[if_pos q]at k
      refine aHP ?_
      refine Sr ?_
      exact k
     ·rw[if_neg q]at k
      refine⟨fun q=> ?_,fun q=> ?_⟩
      ·rw[if_pos q]at k
       unfold zH at k
       repeat'(first|refine And.intro ?_ ?_|intro _)
       all_goals first
        |(refine F7 ?_;refine Sr ?_;exact rQ k (if_pos (by omega)))
        |(refine F8 ?_;refine Sr ?_;exact rQ k (if_neg (by omega)))
      ·rw[if_neg q]at k
       refine⟨fun q=> ?_,fun q=> ?_⟩
       ·rw[if_pos q]at k
        unfold zH at k
        repeat'(first|refine And.intro ?_ ?_|intro _)
        all_goals first
         |(refine F7 ?_;refine Sr ?_;exact rQ k (if_pos (by omega)))
         |(refine F8 ?_;refine Sr ?_;exact rQ k (if_neg (by omega)))
       ·rw[if_neg q]at k
        refine⟨fun q=> ?_,fun q=> ?_⟩
        ·rw[if_pos q]at k
         unfold zH at k
         repeat'(first|refine And.intro ?_ ?_|intro _)
         all_goals first
          |(refine F7 ?_;refine Sr ?_;exact rQ k (if_pos (by omega)))
          |(refine F8 ?_;refine Sr ?_;exact rQ k (if_neg (by omega)))
        ·rw[if_neg q]at k
         refine⟨fun q=> ?_,fun q=> ?_⟩
         ·rw[if_pos q]at k
          unfold zH at k
          repeat'(first|refine And.intro ?_ ?_|intro _)
          all_goals first
           |(refine F7 ?_;refine Sr ?_;exact rQ k (if_pos (by omega)))
           |(refine F8 ?_;refine Sr ?_;exact rQ k (if_neg (by omega)))
         ·rw[if_neg q]at k
          refine⟨fun q=> ?_,fun q=> ?_⟩
          ·rw[if_pos q]at k
           unfold zH at k
           repeat'(first|refine And.intro ?_ ?_|intro _)
           all_goals first
            |(refine F7 ?_;refine Sr ?_;exact rQ k (if_pos (by omega)))
            |(refine F8 ?_;refine Sr ?_;exact rQ k (if_neg (by omega)))
          ·rw[if_neg q]at k
           refine⟨fun q=> ?_,fun q=> ?_⟩
           ·rw[if_pos q]at k
            unfold zH at k
            repeat'(first|refine And.intro ?_ ?_|intro _)
            all_goals first
             |(refine F7 ?_;refine Sr ?_;exact rQ k (if_pos (by omega)))
             |(refine F8 ?_;refine Sr ?_;exact rQ k (if_neg (by omega)))
           ·rw[if_neg q]at k
            exact k
theorem aMY{a:Int}(k:K (L2 (D8 2 0 a)) h):C 456 [iv a] h K:=by
 refine aM1 ?_
 refine aAJ ?_
 refine Sr ?_
 exact k
end
section
attribute [local irreducible] cl
def sW(b:dS):Prop:=(1≤b.most∧b.most≤16)∧(1≤b.enough∧b.enough≤b.most)∧(0≤b.opn∧b.opn≤b.most)∧(0≤b.done∧b.done≤b.most)∧(0≤b.failed∧b.failed≤b.most)∧(1≤yG b∧yG b≤b.most)
theorem aAK{b:dS}(k1:sW b→K (.bool true) h)(k2:¬sW b→K (.bool false) h):C 103 [.agg (eB b)] h K:=by
 refine bG (aNr ?_)
 unfold sW at k1 k2
 refine Sr ?_
 refine⟨nW b,?_⟩
 refine OG (fun q1=> ?_) (fun q1=> ?_)
 ·refine Sr ?_
  refine OG (fun q2=> ?_) (fun q2=> ?_)
  ·refine Sr ?_
   obtain⟨g,hg⟩:∃g,g=nw (nw h (.cells (eB b))) (.cells [.int .i64 b.opn,.int .i64 b.done,.int .i64 b.failed]):=⟨_,rfl⟩
   have ho:bW h.aA h g:=by rw[hg];exact Oq
   have g0:aP g h.aA=some (.cells (eB b)):=by rw[hg];exact Sr trivial
   have hr:GU g (.slice (h.aA+1) 0 3 3 0) [b.opn,b.done,b.failed]:= .inr (.inr ⟨_,0,3,0,_,rfl,by rw[hg,bF,if_pos (by rw[aT])],rfl⟩)
   rw[←hg]
   refine cD (σ:=Nat) (fun i=> [iv i,iv (3:Nat),.slice (h.aA+1) 0 3 3 0,.ptr h.aA 0,.bool false]) (fun _=>g) (fun i=>i≤3∧∀(j:Nat) x,[b.opn,b.done,b.failed][j]?=some x→j<i→0≤x∧x≤b.most) (fun i=>3-i) ?_ 0 ⟨(by omega),fun j x _ hj=>absurd hj (Nat.not_lt_zero _)⟩ (A:=W2) (cur:=0)
   rintro i ⟨hi,hb⟩
   refine aDx ?_
   refine Sr ?_
   refine⟨fun q=> ?_,fun q=> ?_⟩
   ·have hil:i< [b.opn,b.done,b.failed].length:=by show i<3;omega
    have ee:=aC hil
    obtain⟨p,e1,e2⟩:=hr.ix ee
    rw[e1]
    refine S2 e2 g0 ?_
    refine OG (fun q3=> ?_) (fun q3=> ?_)
    ·refine Sr ?_
     refine bT (by omega) (by omega) ⟨rfl,i+1,⟨hil,fun j x hx hj=> ?_⟩,(by omega),rfl⟩
     by_cases hji:j=i
     ·subst hji;rw[ee]at hx;cases hx;exact q3
     ·exact hb j x hx (by omega)
    ·refine Sr ?_
     refine bA ho rfl (k2 (fun p=>q3 ?_))
     have:i=0∨i=1∨i=2:=by omega
     rcases this with rfl|rfl|rfl
     ·exact p.2.2.1
     ·exact p.2.2.2.1
     ·exact p.2.2.2.2.1
   ·have h1:=hb 0 _ rfl (by omega)
    have h2:=hb 1 _ rfl (by omega)
    have h3:=hb 2 _ rfl (by omega)
    refine S1 g0 ?_
    refine aHS ?_
    refine S1 g0 ?_
    refine OG (fun q4=> ?_) (fun q4=> ?_)
    ·refine Sr ?_
     exact bA ho.up rfl (k1 ⟨q1,q2,h1,h2,h3,q4⟩)
    ·refine Sr ?_
     exact bA ho.up rfl (k2 (fun p=>q4 p.2.2.2.2.2))
  ·refine Sr ?_
   exact fP (k2 (fun p=>q2 p.2.1))
 ·refine Sr ?_
  exact fP (k2 (fun p=>q1 p.1))
end
section
open Go.Sort
def gT(l:List Int):List Int:=l.mergeSort fun x y=>decide (x≤y)
theorem dI.grown{E:bE TypeInfo}{ρ:Ren}{w:World}(s:dI E ρ h w)(os:Array Obj):gQ ρ h w ρ h (grow w os)∧dI E ρ h (grow w os):=by
 have hk:∀k,k<w.heap.size→(grow w os).heap[k]?=w.heap[k]?:=fun k h=>heap_grow_old w os h
 have hs:w.heap.size≤(grow w os).heap.size:=by simp[grow]
 have keep:n6 ρ w ρ (grow w os):=⟨fun _ _ e=>e,fun k hF _=>fB (hk k (s.old k hF)),fun _ e=>e⟩
 exact⟨⟨fun _ _ e=>e,hs,fun k hl _=>hk k hl,fun k e=> .inl e,aE _,fun _ _=>rfl,rfl,rfl,rfl,fun l r e=>⟨r,by rw[hk l (Array.getElem?_eq_some_iff.1 e).1];exact e,rfl⟩,fun k hF=>hk k (s.old k hF),fun _ e=>e,fun _ e=> .inl e⟩,
  ⟨fun b o hc=>by
   obtain⟨m,hm,hor⟩:=s.obj b o hc
   exact⟨m,hm,hor.mono keep (hk _ (s.low b m hm))⟩,s.inj,s.fresh,s.ren,fun b m e=>Nat.lt_of_lt_of_le (s.low b m e) hs,s.cold,fun k e=>Nat.lt_of_lt_of_le (s.old k e) hs⟩⟩
theorem JY(vs:Array Value)(w:World):(callFunc 285 vs).run Tryz.prog w= .ok (.enter 285 vs) w:=by
 have h1:(Tryz.f285.name== "runtime.NumGoroutine")=false:=by kernel_rfl
 have h2:Tryz.f285.body.isNone=false:=by kernel_rfl
 have h1:¬Tryz.f285.name= "runtime.NumGoroutine" :=by simpa using h1
 have h2:¬Tryz.f285.body=none:=fun e=>by rw[e]at h2;cases h2
 unfold callFunc
 simp[Tryz.func285,h1,h2]
theorem aF5(k:K (.tuple []) h):C 285 [.aB] h K:=by
 refine qT (fun r n ρ w vs s hg hv=> ?_) ⟨_,_,k⟩
 obtain⟨v,us,e,hv,hu⟩:=hv
 cases hu
 cases hv
 obtain rfl:vs= #[.slice none 0 0]:=by cases vs;simp_all
 refine .inl ⟨JY _ _,?_⟩
 refine CallsIn.mono (R:=fun e w'=>e= .returned (.tuple #[])∧w'=w) (callsIn_wide.2 (Any.slices_Sort_int_none aC1 none 0 w)) ?_
 rintro e w' ⟨rfl,rfl⟩
 exact⟨.tuple [],h,k,ρ,gQ.refl _ _ _,s,#[],rfl,rfl⟩
theorem T9:∀L:List Int,L.flatMap (fun x=> [iv x])=L.map iv
 | []=>rfl
 |x::L=>by rw[List.flatMap_cons,T9 L];rfl
theorem aLP{b kind:Nat}{L:List Int}(hb:aP h b=some (.cells (L.flatMap fun x=> [iv x])))(hl:L.length<2^40)(k:K (.tuple []) (bI h b (.cells ((gT L).flatMap fun x=> [iv x])))):
  C 285 [.slice b 0 L.length L.length kind] h K:=by
 rw[T9]at hb k
 refine qT (fun r n ρ w vs s hg hv=> ?_) ⟨_,_,k⟩
 obtain⟨v,us,e,hv,hu⟩:=hv
 cases hu
 obtain rfl:vs= #[v]:=by cases vs;simp_all
 obtain⟨m,cap',o',hm,rfl,hoo,hlc,hcc,_,_⟩:=hv
 have hb':h.t.get b=some (.cells (L.map iv)):=hb
 obtain⟨m2,hm2,hor⟩:=s.obj b _ hb'
 obtain rfl:m2=m:=Option.some.inj (hm2.symm.trans hm)
 refine .inl ⟨JY _ _,?_⟩
 have hsl:(gT L).length=L.length:=List.length_mergeSort _
 by_cases h0:L= []
 ·subst h0
  refine CallsIn.mono (R:=fun e w'=>e= .returned (.tuple #[])∧w'=w) (callsIn_wide.2 (Any.slices_Sort_int_none aC1 _ _ w)) ?_
  rintro e w' ⟨rfl,rfl⟩
  obtain⟨st,s1⟩:=s.upd hb' hm (.cells ([].map iv)) rfl (fun _ _=>rfl) ⟨rfl,rfl,rfl⟩ (fun r e=>⟨r,e,rfl⟩) (fun _=>hor)
  have:gT []= []:=List.length_eq_zero_iff.1 hsl
  rw[this]at k
  exact⟨.tuple [],_,k,ρ,st,s1,#[],rfl,rfl⟩
 ·have hpos:0<L.length:=List.length_pos_iff.2 h0
  rcases hoo with hz|rfl
  ·omega
  obtain⟨⟨hcl,hpl⟩,hnc,hrc⟩:=hor
  rw[List.length_map]at hnc
  have hH:Holds (Value.int .i64) w m2.blk (m2.sh+0) L.toArray:=by
   intro j hj
   have hj:j<L.length:=by simpa using hj
   obtain⟨u,h1,_,h2⟩:=hrc.get (i:=j) (a:=iv L[j]) (by simp[hj])
   have h2:u=_:=h2
   subst h2
   refine⟨?_,(hcl _ (by omega)).2⟩
   rw[Nat.add_zero,h1,getElem!_pos _ j (by simpa using hj)]
   simp
  refine CallsIn.mono (callsIn_wide.2 (Any.slices_Sort_int aC1 m2.blk (m2.sh+0) cap' L w hH (s.low _ _ hm) (by omega))) ?_
  rintro e w' ⟨rfl,n',os,rfl⟩
  obtain⟨W1,hW1⟩:∃W1,W1=putRow (Value.int .i64) (Go.Sort.ahead w n') m2.blk (m2.sh+0) (gT L).toArray:=⟨_,rfl⟩
  have hcell:∀j,j<L.length→W1.cell? ⟨m2.blk,m2.sh+j,none⟩=some (.int .i64 ((gT L)[j]?.getD 0)):=by
   intro j hj
   rw[hW1]
   have:=cell?_putRow (Value.int .i64) (Go.Sort.ahead w n') m2.blk (m2.sh+0) L.toArray (gT L).toArray hH (by simp[hsl]) j (by simp[hsl,hj])
   rw[Nat.add_zero]at this
   rw[Nat.add_zero,this,getElem!_pos _ j (by simp[hsl,hj])]
   simp[hsl,hj]
  have hO:OR ρ W1 E m2 (.cells ((gT L).map iv)):=by
   refine⟨⟨fun j hj=>⟨?_,by rw[hW1];simp[(hcl j hj).2]⟩,fun hp j=>by rw[hW1];simp[hpl hp j]⟩,by rw[List.length_map,hsl];exact hnc,RC.of_get fun i x hx=> ?_⟩
   ·by_cases hj2:m2.sh+0≤j∧j<m2.sh+0+L.length
    ·have:=hcell (j-m2.sh) (by omega)
     rw[show m2.sh+(j-m2.sh)=j by omega]at this
     rw[this];rfl
    ·rw[hW1,cell?_putRow_other _ _ _ _ _ _ (.inr (by simp[hsl];omega))]
     exact(hcl j hj).1
   ·rw[List.getElem?_map]at hx
    cases hg':(gT L)[i]? with
    |none=>rw[hg']at hx;cases hx
    |some y=>
     rw[hg']at hx
     cases hx
     have hi:=(aD.1 hg').1
     refine⟨_,hcell i (by omega),rfl,?_⟩
     rw[hg']
     rfl
  obtain⟨st,s1⟩:=s.upd (w':=W1) hb' hm (.cells ((gT L).map iv)) (by rw[hW1,size_putRow];rfl)
   (fun j hj=>by rw[hW1];simp[putRow,mapBlock,Go.Sort.ahead,Array.getElem?_modify,Ne.symm hj]) (by rw[hW1];exact⟨rfl,rfl,rfl⟩)
   (fun r e=>⟨r,by rw[hW1];simp[putRow,mapBlock,Go.Sort.ahead,Array.getElem?_modify,e,onCells],rfl⟩) (fun _=>hO)
  rw[show grow (putRow (Value.int .i64) (Go.Sort.ahead w n') m2.blk (m2.sh+0) (L.mergeSort fun x y=>decide (x≤y)).toArray) os=grow W1 os from by rw[hW1];rfl]
  obtain⟨st2,s2⟩:=s1.grown os
  exact⟨.tuple [],_,k,ρ,st.trans st2,s2,#[],rfl,rfl⟩
end
section
def nR(l:List cC):Prop:=∀c∈l,c.names.length<2^40
def SY(l:List cC)(k:Int):Option (List Int):=match nT l with
 |some n=>if 0≤k∧k<l.length then some n else none
 |none=>none
def E1(l:List cC)(n:List Int)(k:Int):List AV:= [sl eC l,ints n,iv k]
theorem HX(c:cC):bP (eC c)=true:=aY rfl (aY rfl (aY rfl (aY rfl (aY (cN (fun _=>rfl) _) rfl))))
theorem WG(l:List cC)(n:List Int)(k:Int):idless (.agg (E1 l n k))=true:=aY (cN HX _) (aY (cN (fun _=>rfl) _) rfl)
theorem sU(l:List cC)(n:List Int)(k:Int):aZ (E1 l n k)=true:=by cases k<;>rfl
@[go_sem]theorem aMn(l:List cC)(n:List Int)(k:Int):bR (E1 l n k) 0=some (sl eC l):=rfl
@[go_sem]theorem aMo(l:List cC)(n:List Int)(k:Int):bR (E1 l n k) 1=some (ints n):=rfl
@[go_sem]theorem aMp(l:List cC)(n:List Int)(k:Int):bR (E1 l n k) 2=some (iv k):=rfl
@[go_sem]theorem aHs(l:List cC)(n:List Int)(k:Int):(E1 l n k).length=3:=by cases k<;>rfl
theorem D5:∀(l:List cC) (acc:List Int) (had:List (List Nat)) (n:List Int),nS l acc had=some n→n.length=acc.length+l.length
 | [],acc,had,n,h=>by cases h;rfl
 |c::l,acc,had,n,h=>by
  unfold nS at h
  split at h
  ·rw[D5 l _ _ n h];simp;omega
  ·cases h
theorem OF{l:List cC}{n:List Int}(h:nT l=some n):n.length=l.length:=by
 unfold nT at h
 split at h
 ·cases h
 ·simpa using D5 l [] [] n h
theorem wN{l:List cC}{k:Int}{n:List Int}(h:SY l k=some n):nT l=some n∧0≤k∧k<l.length∧k<n.length:=by
 unfold SY at h
 cases e:nT l with
 |none=>rw[e]at h;cases h
 |some m=>
  rw[e]at h
  have h:(if 0≤k∧k<(l.length:Int)then some m else none)=some n:=h
  have:=OF e
  by_cases q:0≤k∧k<l.length
  ·rw[if_pos q]at h;cases h;exact⟨rfl,q.1,q.2,by omega⟩
  ·rw[if_neg q]at h;cases h
theorem aMq{l:List cC}(hs:nR l)(k1:(nT l).isSome→K (.bool true) h)(k2:¬(nT l).isSome→K (.bool false) h):C 125 [sl eC l] h K:=by
 refine aMH ?_
 refine aHt hs (fun n hn=> ?_) (fun hn=> ?_)
 ·refine Sr ?_
  exact k1 (by rw[hn];rfl)
 ·refine Sr ?_
  exact k2 (by rw[hn];simp)
theorem aDc{l:List cC}{k:Int}(hs:nR l)(k1:∀n,SY l k=some n→K (.tuple [.agg (E1 l n k),.bool true]) h)(k2:SY l k=none→K (.tuple [.agg [.aB,.aB,iv 0],.bool false]) h):C 171 [sl eC l,iv k] h K:=by
 refine bG (aMC ?_)
 unfold SY at k1 k2
 have no:∀g v,g=bI (nw h (.cells [.aB,.aB,iv 0])) h.aA (.cells v)→SY l k=none→cl h K (.tuple [.agg [.aB,.aB,iv 0],.bool false]) g:=by
  intro g v e q
  exact bA (by rw[e];exact((bW.refl _ _).nw (aE _)).set (aE _)) rfl (k2 q)
 refine aHt hs (fun n hn=> ?_) (fun hn=> ?_)
 ·rw[hn]at k1 k2
  refine Sr ?_
  have nn:¬(0≤k∧k<l.length)→SY l k=none:=fun q=>by unfold SY;rw[hn];exact if_neg q
  refine⟨fun q1=> ?_,fun q1=>⟨fun q2=> ?_,fun q2=> ?_⟩⟩
  ·try simp only[go_sem,reduceAdd,reduceMul,reduceSub,d7,List.length_cons,List.length_nil]
   exact no _ _ rfl (nn (by omega))
  ·try simp only[go_sem,reduceAdd,reduceMul,reduceSub,d7,List.length_cons,List.length_nil]
   exact no _ _ rfl (nn (by omega))
  ·try simp only[go_sem,reduceAdd,reduceMul,reduceSub,d7,List.length_cons,List.length_nil]
   refine bA (((bW.refl _ _).nw (aE _)).set (aE _)) ?_ (k1 n (if_pos (by omega)))
   exact eA (aY (WG _ _ _) rfl)
 ·try simp only[go_sem,reduceAdd,reduceMul,reduceSub,d7,List.length_cons,List.length_nil]
  exact no _ _ rfl (by unfold SY;rw[hn])
def fD(l:List cC)(k:Int):Int:=match SY l k with
 |some n=>n.getD k.toNat 0
 |none=>0
theorem HY{n:List Int}{k:Int}(h0:0≤k)(h1:k<n.length):∃r,cR none 1 (ints n) (bB (iv k))=some (.rptr (iv (n.getD k.toNat 0)::r)):=by
 rw[cS h0]
 exact⟨_,bV (n:=1) (fun _=>rfl) (getD_some h0 h1)⟩
theorem c84{l:List cC}{k:Int}(hs:nR l)(q:K (iv (fD l k)) h):C 84 [sl eC l,iv k] h K:=by
 refine bG (e84 ?_)
 unfold fD at q
 have ho:∀v,bW h.aA h (bI (nw h (.cells [.aB,.aB,iv 0])) h.aA (.cells v)):=fun v=>((bW.refl _ _).nw (aE _)).set (aE _)
 refine aDc hs (fun n hn=> ?_) (fun hn=> ?_)
 ·rw[hn]at q
  obtain⟨-,h0,-,h1⟩:=wN hn
  obtain⟨r,hr⟩:=HY h0 h1
  try simp only[go_sem,reduceAdd,reduceMul,reduceSub,d7,List.length_cons,List.length_nil,sU]
  rw[hr]
  refine Sr ?_
  exact bA (ho _) rfl q
 ·rw[hn]at q
  try simp only[go_sem,reduceAdd,reduceMul,reduceSub,d7,List.length_cons,List.length_nil]
  exact bA (ho _) rfl q
theorem aDd{l:List cC}{n:List Int}{k m:Int}(h0:0≤k)(h1:k<n.length)(k1:0≤m∧m<n.getD k.toNat 0→K (.bool true) h)(k2:¬(0≤m∧m<n.getD k.toNat 0)→K (.bool false) h):C 304 [.agg (E1 l n k),iv m] h K:=by
 refine bG (aMD ?_)
 obtain⟨r,hr⟩:=HY h0 h1
 have ho:bW h.aA h (nw h (.cells (E1 l n k))):=(bW.refl _ _).nw (aE _)
 refine Sr ?_
 refine⟨sU _ _ _,fun q=> ?_,fun q=> ?_⟩
 ·rw[hr]
  refine Sr ?_
  exact⟨fun p=>bA ho rfl (k1 ⟨q,p⟩),fun p=>bA ho rfl (k2 (fun x=>p x.2))⟩
 ·exact bA ho rfl (k2 (fun x=>q x.1))
theorem aDe{l:List cC}{n:List Int}{k:Int}{c:cC}(h0:0≤k)(hc:l[k.toNat]?=some c)(q:K (.agg (eC c)) h):C 305 [.agg (E1 l n k)] h K:=by
 refine bG (aME ?_)
 refine Sr ?_
 refine⟨sU _ _ _,?_⟩
 rw[cS h0,bV qV hc]
 try simp only[go_sem,reduceAdd,reduceMul,reduceSub,d7,yB,List.length_cons,List.length_nil]
 exact bA ((((bW.refl _ _).nw (aE _)).nw (by rw[aT];omega)).set (by omega)) (HX c) q
theorem aMr{l:List cC}{k m:Int}(hs:nR l)(k1:∀n c,SY l k=some n→l[k.toNat]?=some c→0≤m∧m<n.getD k.toNat 0→K (.tuple [iv (if c.kind=1 then wrap64 (c.lo+m)else m),.bool true]) h)
  (k2:¬(0≤m∧m<fD l k)→K (.tuple [iv 0,.bool false]) h):C 201 [sl eC l,iv k,iv m] h K:=by
 refine bG (aMF ?_)
 unfold fD at k2
 have ho:∀v,bW h.aA h (bI (nw h (.cells [.aB,.aB,iv 0])) h.aA (.cells v)):=fun v=>((bW.refl _ _).nw (aE _)).set (aE _)
 refine aDc hs (fun n hn=> ?_) (fun hn=> ?_)
 ·rw[hn]at k2
  obtain⟨-,h0,h2,h1⟩:=wN hn
  obtain⟨c,hc⟩:∃c,l[k.toNat]?=some c:=⟨l[k.toNat]'(by omega),aC _⟩
  try simp only[go_sem,reduceAdd,reduceMul,reduceSub,d7,List.length_cons,List.length_nil,sU]
  refine aDd h0 h1 (fun q=> ?_) (fun q=> ?_)
  ·have k1:=k1 n c hn hc q
   refine Sr ?_
   refine aDe h0 hc ?_
   refine Sr ?_
   refine⟨fun p=> ?_,fun p=> ?_⟩
   ·rw[if_pos p]at k1
    refine aDe h0 hc ?_
    simp only[go_sem,reduceAdd,reduceMul,reduceSub,g9]
    exact bA (ho _) rfl k1
   ·rw[if_neg p]at k1
    exact bA (ho _) rfl k1
  ·refine Sr ?_
   exact bA (ho _) rfl (k2 q)
 ·rw[hn]at k2
  try simp only[go_sem,reduceAdd,reduceMul,reduceSub,d7,List.length_cons,List.length_nil]
  exact bA (ho _) rfl (k2 (fun q=>(show¬(0≤m∧m<(0:Int)) by omega) q))
def SZ(l:List cC)(k x:Int):Option Int:=match SY l k,l[k.toNat]? with
 |some n,some c=>if c.kind=1 then(if x<c.lo∨c.hi<x then none else(if 0≤wrap64 (x-c.lo)∧wrap64 (x-c.lo)<n.getD k.toNat 0 then some (wrap64 (x-c.lo))else none))
   else(if 0≤x∧x<n.getD k.toNat 0 then some x else none)
 |_,_=>none
theorem aAD{l:List cC}{k x y:Int}(h:SZ l k x=some y):0≤y∧y<fD l k:=by
 unfold SZ at h
 unfold fD
 split at h
 ·rename_i e _
  rw[e]
  split at h
  ·split at h
   ·cases h
   ·split at h
    ·cases h;assumption
    ·cases h
  ·split at h
   ·cases h;assumption
   ·cases h
 ·cases h
theorem aMs{l:List cC}{k x:Int}(hs:nR l)(k1:∀y,SZ l k x=some y→K (.tuple [iv y,.bool true]) h)
  (k2:SZ l k x=none→K (.tuple [iv 0,.bool false]) h):C 203 [sl eC l,iv k,iv x] h K:=by
 refine bG (aMG ?_)
 unfold SZ at k1 k2
 have ho:∀v,bW h.aA h (bI (nw h (.cells [.aB,.aB,iv 0])) h.aA (.cells v)):=fun v=>((bW.refl _ _).nw (aE _)).set (aE _)
 refine aDc hs (fun n hn=> ?_) (fun hn=> ?_)
 ·rw[hn]at k1 k2
  obtain⟨-,h0,h2,h1⟩:=wN hn
  obtain⟨c,hc⟩:∃c,l[k.toNat]?=some c:=⟨l[k.toNat]'(by omega),aC _⟩
  rw[hc]at k1 k2
  try simp only[go_sem,reduceAdd,reduceMul,reduceSub,d7,List.length_cons,List.length_nil,sU]
  refine aDe h0 hc ?_
  try simp only[go_sem,reduceAdd,reduceMul,reduceSub,d7,List.length_cons,List.length_nil,yB]
  have sm:∀y,0≤y∧y<n.getD k.toNat 0∨¬(0≤y∧y<n.getD k.toNat 0):=fun y=>Classical.em _
  refine⟨fun q1=>⟨fun q2=> ?_,fun q2=>⟨fun q3=> ?_,fun q3=> ?_⟩⟩,fun q1=> ?_⟩
  ·exact fP (k2 (by simp only[if_pos q1,if_pos (Or.inl q2)]))
  ·exact fP (k2 (by simp only[if_pos q1,if_pos (Or.inr q3)]))
  ·simp only[go_sem,reduceAdd,reduceMul,reduceSub,CP]
   refine aDd h0 h1 (fun q4=> ?_) (fun q4=> ?_)
   ·refine Sr ?_
    exact fP (k1 _ (by simp only[if_pos q1,if_neg (not_or.2 ⟨q2,q3⟩),if_pos q4]))
   ·refine Sr ?_
    exact fP (k2 (by simp only[if_pos q1,if_neg (not_or.2 ⟨q2,q3⟩),if_neg q4]))
  ·refine aDd h0 h1 (fun q4=> ?_) (fun q4=> ?_)
   ·refine Sr ?_
    exact fP (k1 _ (by simp only[if_neg q1,if_pos q4]))
   ·refine Sr ?_
    exact fP (k2 (by simp only[if_neg q1,if_neg q4]))
 ·rw[hn]at k1 k2
  try simp only[go_sem,reduceAdd,reduceMul,reduceSub,d7,List.length_cons,List.length_nil]
  exact bA (ho _) rfl (k2 rfl)
end
section
inductive Expr where
 |mk (kind num:Int) (kids:List Expr)
def Expr.kind:Expr→Int| .mk k _ _=>k
def Expr.num:Expr→Int| .mk _ n _=>n
def Expr.kids:Expr→List Expr| .mk _ _ l=>l
mutual
def eE:Expr→List AV
 | .mk k n l=> [iv k,iv n,.rslice (eEs l) l.length l.length false]
def eEs:List Expr→List AV
 | []=> []
 |e::l=>eE e++eEs l
end
theorem LZ:∀(l:List Expr),eEs l=l.flatMap eE
 | []=>by simp[eEs]
 |e::l=>by rw[eEs,LZ l,List.flatMap_cons]
theorem sV(e:Expr):eE e= [iv e.kind,iv e.num,sl eE e.kids]:=by
 cases e with
 |mk k n l=>rw[eE,LZ];rfl
@[go_sem]theorem nU(e:Expr):(eE e).length=3:=by rw[sV];cases e;rfl
@[go_sem]theorem aTR(e:Expr):bR (eE e) 0=some (iv e.kind):=by rw[sV];rfl
@[go_sem]theorem aTS(e:Expr):bR (eE e) 1=some (iv e.num):=by rw[sV];rfl
@[go_sem]theorem aTT(e:Expr):bR (eE e) 2=some (sl eE e.kids):=by rw[sV];rfl
theorem iZ(e:Expr):aZ (eE e)=true:=by rw[sV];rfl
theorem aDs{e k:Expr}(h:k∈e.kids):SizeOf.sizeOf k<SizeOf.sizeOf e:=by
 cases e with
 |mk a b l=>
  have:SizeOf.sizeOf k<SizeOf.sizeOf l:=List.sizeOf_lt_of_mem h
  simp only[Expr.mk.sizeOf_spec]
  omega
theorem WQ:∀(n:Nat) (e:Expr),SizeOf.sizeOf e<n→bP (eE e)=true
 |0,_,h=>absurd h (Nat.not_lt_zero _)
 |n+1,e,h=>by
  rw[sV]
  have:∀l:List Expr,(∀k∈l,SizeOf.sizeOf k<n)→bP (l.flatMap eE)=true:=by
   intro l
   induction l with
   |nil=>intro _;rfl
   |cons k l ih=>intro hl;rw[List.flatMap_cons];exact zQ (WQ n k (hl k (by simp))) (ih fun x hx=>hl x (by simp[hx]))
  exact aY rfl (aY rfl (aY (this e.kids (fun k hk=>by have:=aDs hk;omega)) rfl))
def kV:Nat→Expr→Prop
 |0,_=>False
 |n+1,e=>e.kids.length<2^40∧∀k∈e.kids,kV n k
def aAG(f:Expr→Int)(l:List Expr)(n:Int):Int:=l.foldl (fun n k=>max n (f k)) n
def L0:Nat→Expr→Int
 |0,_=>0
 |d+1,e=>wrap64 (aAG (L0 d) e.kids 0+1)
theorem aHF:∀(d:Nat) {e:Expr} {h:aL} {K:KH},kV d e→K (iv (L0 d e)) h→C 240 [.agg (eE e)] h K
 |0,e,h,K,hd,_=>hd.elim
 |d+1,e,h,K,hd,k=>by
  refine bG (aNb ?_)
  refine Sr ?_
  refine⟨iZ e,?_⟩
  obtain⟨hl,hk⟩:=hd
  refine cD (σ:=Nat×aL×Int) (fun p=> [iv p.1,iv e.kids.length,sl eE e.kids,iv p.2.2]) (fun p=>p.2.1) (fun p=>p.1≤e.kids.length∧bW h.aA h p.2.1∧h.aA≤p.2.1.aA∧aAG (L0 d) e.kids 0=aAG (L0 d) (e.kids.drop p.1) p.2.2) (fun p=>e.kids.length-p.1) ?_ (0,nw h (.cells (eE e)),0) ⟨aH _,Oq,by rw[aT];omega,rfl⟩ (A:=WU) (cur:=0)
  rintro⟨i,g,x⟩ ⟨hi,ho,hg,hf⟩
  refine aDu ?_
  simp only at hi ho hg hf
  refine Sr ?_
  refine⟨fun q=> ?_,fun q=> ?_⟩
  ·have hil:i<e.kids.length:=by omega
   have ee:=aC hil
   have hin:e.kids[i]∈e.kids:=List.getElem_mem hil
   rw[bV nU ee]
   simp only[go_sem,reduceAdd,reduceMul,reduceSub,d7,iZ,List.length_cons,List.length_nil]
   refine aHF d (hk _ hin) ?_
   refine Sr ?_
   refine bT (by omega) (by omega) ⟨rfl,(i+1,bI (nw g (.cells [iv 0,iv 0,.aB])) g.aA (.cells (eE e.kids[i])),max x (L0 d e.kids[i])),⟨hil,?_,?_,?_⟩,(show _-(i+1)<_ by omega),rfl,rfl⟩
   ·show bW h.aA h (bI (nw g _) _ _)
    exact Oq
   ·show h.aA≤(bI (nw g _) _ _).aA
    refine Sr ?_;omega
   ·show _=aAG (L0 d) (e.kids.drop (i+1)) _
    rw[hf,List.drop_eq_getElem_cons hil];rfl
  ·have:i=e.kids.length:=by omega
   subst this
   rw[List.drop_length]at hf
   simp only[go_sem,reduceAdd,reduceMul,reduceSub,g9]
   refine bA ho rfl ?_
   unfold L0 at k
   rw[hf]at k
   exact k
def aAH(f:Expr→Int)(l:List Expr)(n:Int):Int:=l.foldl (fun n k=>wrap64 (n+f k)) n
def L1:Nat→Expr→Int
 |0,_=>0
 |d+1,e=>aAH (L1 d) e.kids 1
theorem aHG:∀(d:Nat) {e:Expr} {h:aL} {K:KH},kV d e→K (iv (L1 d e)) h→C 241 [.agg (eE e)] h K
 |0,e,h,K,hd,_=>hd.elim
 |d+1,e,h,K,hd,k=>by
  refine bG (aNc ?_)
  refine Sr ?_
  refine⟨iZ e,?_⟩
  obtain⟨hl,hk⟩:=hd
  refine cD (σ:=Nat×aL×Int) (fun p=> [iv p.1,iv e.kids.length,sl eE e.kids,iv p.2.2]) (fun p=>p.2.1) (fun p=>p.1≤e.kids.length∧bW h.aA h p.2.1∧h.aA≤p.2.1.aA∧aAH (L1 d) e.kids 1=aAH (L1 d) (e.kids.drop p.1) p.2.2) (fun p=>e.kids.length-p.1) ?_ (0,nw h (.cells (eE e)),1) ⟨aH _,Oq,by rw[aT];omega,rfl⟩ (A:=WW) (cur:=0)
  rintro⟨i,g,x⟩ ⟨hi,ho,hg,hf⟩
  refine aDv ?_
  simp only at hi ho hg hf
  refine Sr ?_
  refine⟨fun q=> ?_,fun q=> ?_⟩
  ·have hil:i<e.kids.length:=by omega
   have ee:=aC hil
   have hin:e.kids[i]∈e.kids:=List.getElem_mem hil
   rw[bV nU ee]
   simp only[go_sem,reduceAdd,reduceMul,reduceSub,d7,iZ,List.length_cons,List.length_nil]
   refine aHG d (hk _ hin) ?_
   rw[g9]
   refine bT (by omega) (by omega) ⟨⟨rfl,rfl⟩,(i+1,bI (nw g (.cells [iv 0,iv 0,.aB])) g.aA (.cells (eE e.kids[i])),wrap64 (x+L1 d e.kids[i])),⟨hil,?_,?_,?_⟩,(show _-(i+1)<_ by omega),rfl,rfl⟩
   ·show bW h.aA h (bI (nw g _) _ _)
    exact Oq
   ·show h.aA≤(bI (nw g _) _ _).aA
    refine Sr ?_;omega
   ·show _=aAH (L1 d) (e.kids.drop (i+1)) _
    rw[hf,List.drop_eq_getElem_cons hil];rfl
  ·have:i=e.kids.length:=by omega
   subst this
   rw[List.drop_length]at hf
   refine bA ho rfl ?_
   unfold L1 at k
   rw[hf]at k
   exact k
end
section
abbrev dF:=List (Int×Int)
def eR(r:Int×Int):List AV:= [iv r.1,iv r.2]
@[go_sem]theorem uL(r:Int×Int):(eR r).length=2:=by cases r;rfl
theorem M7(r:Int×Int):aZ (eR r)=true:=by cases r;rfl
theorem rZ(r:Int×Int):bP (eR r)=true:=by cases r;rfl
abbrev gF(b:dF):AV:=sl eR b
def eF(b:dF):Prop:=b.Pairwise (fun x y=>x.1<y.1)∧∀r∈b,0≤r.1∧1≤r.2∧r.2≤1048576
def cnt(b:dF)(m:Int):Int:=(fL b m).getD 0
def lR(b:dF):Prop:=b.Pairwise (fun x y=>x.1<y.1)∧∀r∈b,0<r.2
theorem eF.S{b:dF}(h:eF b):lR b:=⟨h.1,fun r hr=>by have:=h.2 r hr;omega⟩
theorem lR.nodup{b:dF}(h:b.Pairwise (fun x y=>x.1<y.1)):(b.map Prod.fst).Nodup:=by
 refine List.pairwise_map.2 (h.imp fun h=> ?_)
 omega
theorem pV(m:Int):cnt [] m=0:=rfl
theorem eH(k v:Int)(b:dF)(m:Int):cnt ((k,v)::b) m=if m=k then v else cnt b m:=by
 unfold cnt
 simp only[fL]
 split<;>rfl
theorem pW{b:dF}{m:Int}(h:¬m∈b.map Prod.fst):cnt b m=0:=by
 induction b with
 |nil=>rfl
 |cons r b ih=>
  obtain⟨k,v⟩:=r
  simp only[List.map_cons,List.mem_cons,not_or]at h
  rw[eH,if_neg h.1,ih h.2]
theorem zP{b:dF}{r:Int×Int}(hn:(b.map Prod.fst).Nodup)(h:r∈b):cnt b r.1=r.2:=by
 induction b with
 |nil=>cases h
 |cons x b ih=>
  obtain⟨k,v⟩:=x
  simp only[List.map_cons,List.nodup_cons]at hn
  rcases List.mem_cons.1 h with rfl|h
  ·rw[eH,if_pos rfl]
  ·rw[eH,if_neg ?_,ih hn.2 h]
   intro e
   exact hn.1 (e▸List.mem_map_of_mem h)
theorem mJ{b:dF}{m:Int}(h:cnt b m≠0):(m,cnt b m)∈b:=by
 induction b with
 |nil=>exact absurd rfl h
 |cons x b ih=>
  obtain⟨k,v⟩:=x
  rw[eH]at h⊢
  by_cases e:m=k
  ·rw[if_pos e,e];exact List.mem_cons_self ..
  ·rw[if_neg e]at h⊢;exact List.mem_cons_of_mem _ (ih h)
theorem JV{a b:dF}(hn:(a.map Prod.fst).Nodup)(h:a.Perm b)(m:Int):cnt a m=cnt b m:=by
 have hn2:(b.map Prod.fst).Nodup:=(h.map Prod.fst).nodup hn
 by_cases e:cnt a m=0
 ·by_cases e2:cnt b m=0
  ·rw[e,e2]
  ·have:=zP hn (h.mem_iff.2 (mJ e2));simpa using this
 ·have:=zP hn2 (h.mem_iff.1 (mJ e));simpa using this.symm
theorem CH(l:dF)(k v m:Int):cnt (fI k v l) m=if m=k then v else cnt l m:=by
 induction l with
 |nil=>simp only[fI];rw[eH]
 |cons x l ih=>
  obtain⟨k',v'⟩:=x
  simp only[fI]
  by_cases e:k=k'
  ·subst e
   rw[if_pos rfl,eH,eH]
   by_cases e2:m=k<;>simp[e2]
  ·rw[if_neg e,eH,eH,ih]
   by_cases e2:m=k'
   ·subst e2;rw[if_pos rfl,if_pos rfl,if_neg (fun h=>e h.symm)]
   ·rw[if_neg e2,if_neg e2]
theorem RJ(l:dF)(k v:Int):(fI k v l).map Prod.fst=if k∈l.map Prod.fst then l.map Prod.fst else l.map Prod.fst++ [k]:=by
 induction l with
 |nil=>rfl
 |cons x l ih=>
  obtain⟨k',v'⟩:=x
  simp only[fI]
  by_cases e:k=k'
  ·subst e;simp
  ·rw[if_neg e,List.map_cons,List.map_cons,ih]
   simp only[List.mem_cons,e,false_or]
   by_cases hk:k∈l.map Prod.fst
   ·rw[if_pos hk,if_pos hk]
   ·rw[if_neg hk,if_neg hk];rfl
theorem CJ{l:dF}(h:(l.map Prod.fst).Nodup)(k v:Int):((fI k v l).map Prod.fst).Nodup:=by
 rw[RJ]
 split
 ·exact h
 ·rename_i hk
  exact List.nodup_append.2 ⟨h,by simp,fun a ha b hb=>by rw[List.mem_singleton.1 hb];exact fun e=>hk (e▸ha)⟩
theorem lR.ext:∀{a b:dF},lR a→lR b→(∀m,cnt a m=cnt b m)→a=b
 | [],[],_,_,_=>rfl
 | [],(k,v)::b,_,hb,h=>by
  have:=h k;rw[pV,eH,if_pos rfl]at this
  have:=hb.2 (k,v) (List.mem_cons_self ..);simp only at this;omega
 |(k,v)::a,[],ha,_,h=>by
  have:=h k;rw[pV,eH,if_pos rfl]at this
  have:=ha.2 (k,v) (List.mem_cons_self ..);simp only at this;omega
 |(k,v)::a,(k',v')::b,ha,hb,h=>by
  obtain⟨ha1,ha2⟩:=ha
  obtain⟨hb1,hb2⟩:=hb
  rw[List.pairwise_cons]at ha1 hb1
  have pv:=ha2 (k,v) (List.mem_cons_self ..)
  have pv':=hb2 (k',v') (List.mem_cons_self ..)
  simp only at pv pv'
  have low:∀{x:Int} {l:dF},(∀r∈l,x<r.1)→cnt l x=0:=fun hl=>pW fun hm=>by
   obtain⟨r,hr,e⟩:=List.mem_map.1 hm
   have:=hl r hr;omega
  have low2:∀{x y:Int} {l:dF},(∀r∈l,x<r.1)→y<x→cnt l y=0:=fun hl hxy=>pW fun hm=>by
   obtain⟨r,hr,e⟩:=List.mem_map.1 hm
   have:=hl r hr;omega
  have hk:k=k':=by
   have h1:=h k
   have h2:=h k'
   simp only[eH,if_true]at h1 h2
   rcases Int.lt_trichotomy k k' with e|e|e
   ·rw[if_neg (by omega),low2 hb1.1 e]at h1;omega
   ·exact e
   ·rw[if_neg (by omega),low2 ha1.1 e]at h2;omega
  subst hk
  have hv:v=v':=by have:=h k;simpa[eH]using this
  subst hv
  rw[lR.ext (a:=a) (b:=b) ⟨ha1.2,fun r hr=>ha2 r (List.mem_cons_of_mem _ hr)⟩ ⟨hb1.2,fun r hr=>hb2 r (List.mem_cons_of_mem _ hr)⟩ fun m=>by
   by_cases e:m=k
   ·subst e;rw[low ha1.1,low hb1.1]
   ·have:=h m;simpa[eH,e]using this]
theorem jH(l:List Int):(gT l).Perm l:=List.mergeSort_perm l _
theorem pX(l:List Int):(gT l).Pairwise (fun a b=>a≤b):=by
 have:=List.pairwise_mergeSort (le:=fun x y:Int=>decide (x≤y)) (fun a b c h1 h2=>by simp only[decide_eq_true_eq]at*;omega) (fun a b=>by simp only[Bool.or_eq_true,decide_eq_true_eq];omega) l
 exact this.imp fun h=>by simpa using h
theorem T8{l m:List Int}(h:l.Perm m):gT l=gT m:=by
 refine List.Perm.eq_of_pairwise (le:=fun a b:Int=>a≤b) (fun a b _ _ h1 h2=>by omega) (pX l) (pX m) (((jH l).trans h).trans (jH m).symm)
theorem GS{l:List Int}(h:l.Nodup):(gT l).Pairwise (fun a b=>a<b):=by
 have hn:(gT l).Nodup:=(jH l).symm.nodup h
 exact((pX l).and hn).imp fun h=>by
  obtain⟨h1,h2⟩:=h
  have:¬(_=_):=h2
  omega
def oX(l:dF)(ks:List Int):dF:=ks.filterMap fun k=>if 0<cnt l k then some (k,cnt l k)else none
def oY(l:dF):dF:=oX l (gT (l.map Prod.fst))
theorem tI{l:dF}{ks:List Int}{r:Int×Int}:r∈oX l ks↔r.1∈ks∧0<r.2∧cnt l r.1=r.2:=by
 unfold oX
 rw[List.mem_filterMap]
 constructor
 ·rintro⟨k,hk,e⟩
  split at e
  ·rename_i h;cases e;exact⟨hk,h,rfl⟩
  ·cases e
 ·rintro⟨h1,h2,h3⟩
  exact⟨r.1,h1,by rw[h3,if_pos h2]⟩
theorem JW(l:dF):∀{ks:List Int},ks.Pairwise (fun a b=>a<b)→(oX l ks).Pairwise (fun x y=>x.1<y.1)
 | [],_=>List.Pairwise.nil
 |k::ks,h=>by
  rw[List.pairwise_cons]at h
  have ih:=JW l h.2
  unfold oX at ih⊢
  rw[List.filterMap_cons]
  split
  ·exact ih
  ·rename_i x e
   split at e
   ·cases e
    refine List.pairwise_cons.2 ⟨fun r hr=> ?_,ih⟩
    exact h.1 _ (tI.1 hr).1
   ·cases e
theorem tJ{l:dF}(hn:(l.map Prod.fst).Nodup):lR (oY l):=⟨JW l (GS hn),fun r hr=>(tI.1 hr).2.1⟩
theorem xI{l:dF}(hn:(l.map Prod.fst).Nodup)(m:Int):cnt (oY l) m=max (cnt l m) 0:=by
 have hs:=tJ hn
 by_cases h:0<cnt l m
 ·have:(m,cnt l m)∈oY l:=tI.2 ⟨by
   rw[(jH _).mem_iff]
   exact List.mem_map_of_mem (mJ (by omega)),h,rfl⟩
  have:=zP (lR.nodup hs.1) this
  simp only at this
  rw[this];omega
 ·have:cnt (oY l) m=0:=pW fun hm=>by
   obtain⟨r,hr,rfl⟩:=List.mem_map.1 hm
   obtain⟨-,h2,h3⟩:=tI.1 hr
   omega
  rw[this];omega
theorem CK{l:dF}{b:dF}(hn:(l.map Prod.fst).Nodup)(hb:lR b)(h:∀m,cnt b m=max (cnt l m) 0):oY l=b:=lR.ext (tJ hn) hb fun m=>by rw[xI hn,h]
def iV(a:dF)(b:dF):dF:=b.foldl (fun l r=>fI r.1 (cnt l r.1+r.2) l) a
def iW(a:dF)(b:dF):dF:=b.foldl (fun l r=>fI r.1 (cnt l r.1-r.2) l) a
theorem M8(a b:dF)(r:Int×Int):iV a (b++ [r])=fI r.1 (cnt (iV a b) r.1+r.2) (iV a b):=by
 unfold iV;rw[List.foldl_append];rfl
theorem M9(a b:dF)(r:Int×Int):iW a (b++ [r])=fI r.1 (cnt (iW a b) r.1-r.2) (iW a b):=by
 unfold iW;rw[List.foldl_append];rfl
theorem jP:∀(b a:dF),(a.map Prod.fst).Nodup→(b.map Prod.fst).Nodup→((iV a b).map Prod.fst).Nodup∧∀m,cnt (iV a b) m=cnt a m+cnt b m
 | [],a,ha,_=>⟨ha,fun m=>by rw[pV];show cnt a m=_;omega⟩
 |(k,v)::b,a,ha,hb=>by
  simp only[List.map_cons,List.nodup_cons]at hb
  obtain⟨h1,h2⟩:=jP b (fI k (cnt a k+v) a) (CJ ha _ _) hb.2
  refine⟨h1,fun m=> ?_⟩
  show cnt (iV (fI k (cnt a k+v) a) b) m=_
  rw[h2 m,CH,eH]
  by_cases e:m=k
  ·subst e;rw[if_pos rfl,if_pos rfl,pW hb.1];omega
  ·rw[if_neg e,if_neg e]
theorem jQ:∀(b a:dF),(a.map Prod.fst).Nodup→(b.map Prod.fst).Nodup→((iW a b).map Prod.fst).Nodup∧∀m,cnt (iW a b) m=cnt a m-cnt b m
 | [],a,ha,_=>⟨ha,fun m=>by rw[pV];show cnt a m=_;omega⟩
 |(k,v)::b,a,ha,hb=>by
  simp only[List.map_cons,List.nodup_cons]at hb
  obtain⟨h1,h2⟩:=jQ b (fI k (cnt a k-v) a) (CJ ha _ _) hb.2
  refine⟨h1,fun m=> ?_⟩
  show cnt (iW (fI k (cnt a k-v) a) b) m=_
  rw[h2 m,CH,eH]
  by_cases e:m=k
  ·subst e;rw[if_pos rfl,if_pos rfl,pW hb.1];omega
  ·rw[if_neg e,if_neg e]
def JX(a b:dF):dF:=oY (iV a b)
def CL(a b:dF):dF:=oY (iW a b)
def O7(a b:dF):Prop:=∃r∈b,1048576<cnt a r.1+r.2
def EP(a b:dF):Prop:=∀r∈a,r.2≤cnt b r.1
open Classical in
def i6(a b:dF):Int×dF:=if¬(eF a∧eF b)then(1,[])else if O7 a b then(2,[])else(0,JX a b)
open Classical in
def mD(a b:dF):Int×dF:=if¬(eF a∧eF b)then(1,[])else if¬EP b a then(10,[])else(0,CL a b)
theorem eU{b:dF}(h:lR b)(m:Int):0≤cnt b m:=by
 by_cases e:cnt b m=0
 ·omega
 ·have:=h.2 _ (mJ e);simp only at this;omega
theorem eF.cnt_le{b:dF}(h:eF b)(m:Int):cnt b m≤1048576:=by
 by_cases e:cnt b m=0
 ·omega
 ·have:=h.2 _ (mJ e);simp only at this;omega
theorem CM{a b:dF}(ha:eF a)(hb:eF b)(m:Int):cnt (JX a b) m=cnt a m+cnt b m:=by
 obtain⟨h1,h2⟩:=jP b a (lR.nodup ha.1) (lR.nodup hb.1)
 unfold JX
 rw[xI h1,h2]
 have:=eU ha.S m
 have:=eU hb.S m
 omega
theorem NA{a b:dF}(ha:eF a)(h:EP b a)(m:Int):cnt b m≤cnt a m:=by
 by_cases e:cnt b m=0
 ·rw[e];exact eU ha.S m
 ·exact h _ (mJ e)
theorem xJ{a b:dF}(ha:eF a)(hb:eF b)(h:EP b a)(m:Int):cnt (CL a b) m=cnt a m-cnt b m:=by
 obtain⟨h1,h2⟩:=jQ b a (lR.nodup ha.1) (lR.nodup hb.1)
 unfold CL
 rw[xI h1,h2]
 have:=NA ha h m
 omega
theorem uM{b:dF}(h:lR b){r:Int×Int}(hr:r∈b):cnt b r.1=r.2:=zP (lR.nodup h.1) hr
theorem eF.of{b:dF}(h:lR b)(h0:∀m,cnt b m≠0→0≤m∧cnt b m≤1048576):eF b:=⟨h.1,fun r hr=>by
 have e:=uM h hr
 have p:=h.2 r hr
 have:=h0 r.1 (by omega)
 omega⟩
theorem eF.mem_nn{b:dF}(h:eF b){m:Int}(e:cnt b m≠0):0≤m:=(h.2 _ (mJ e)).1
theorem aCd{a b:dF}(ha:eF a)(hb:eF b)(hm:¬O7 a b):eF (JX a b):=by
 refine eF.of (tJ (jP b a (lR.nodup ha.1) (lR.nodup hb.1)).1) fun m hm0=> ?_
 have e:cnt (JX a b) m=cnt a m+cnt b m:=CM ha hb m
 have h1:=eU ha.S m
 have h2:=eU hb.S m
 rw[e]at hm0⊢
 by_cases z:cnt b m=0
 ·exact⟨ha.mem_nn (by omega),by have:=ha.cnt_le m;omega⟩
 ·refine⟨hb.mem_nn z,Classical.byContradiction fun n=>hm ⟨_,mJ z,by show 1048576<cnt a m+cnt b m;omega⟩⟩
theorem ZJ{a b:dF}(ha:eF a)(hb:eF b)(h:EP b a):eF (CL a b):=by
 refine eF.of (tJ (jQ b a (lR.nodup ha.1) (lR.nodup hb.1)).1) fun m hm0=> ?_
 have e:cnt (CL a b) m=cnt a m-cnt b m:=xJ ha hb h m
 have:=NA ha h m
 have h1:=eU ha.S m
 have h2:=eU hb.S m
 rw[e]at hm0⊢
 exact⟨ha.mem_nn (by omega),by have:=ha.cnt_le m;omega⟩
theorem RK(t:Int):oY [(t,1)]= [(t,1)]:=CK (by simp) ⟨by simp,by simp⟩ fun m=>by
 rw[eH,pV];split<;>omega
end
section
attribute [local irreducible] cl
def nV(b:dS):Prop:=sW b∧(b.enough≤b.done∨b.opn=0)
def F9(b:dS):Prop:=sW b∧b.enough≤b.done
theorem c96{b:dS}(k1:nV b→K (.bool true) h)(k2:¬nV b→K (.bool false) h):C 96 [.agg (eB b)] h K:=by
 refine bG (e96 ?_)
 unfold nV at k1 k2
 refine Sr ?_
 refine⟨nW b,?_⟩
 refine aAK (fun q1=> ?_) (fun q1=> ?_)
 ·refine Sr ?_
  repeat'(first|refine And.intro ?_ ?_|intro _)
  all_goals first|exact fP (k1 ⟨q1,(by omega)⟩)|exact fP (k2 (fun p=>by have:=p.2;omega))
 ·refine Sr ?_
  exact fP (k2 (fun p=>q1 p.1))
theorem c97{b:dS}(k1:F9 b→K (.bool true) h)(k2:¬F9 b→K (.bool false) h):C 97 [.agg (eB b)] h K:=by
 refine bG (e97 ?_)
 unfold F9 at k1 k2
 refine Sr ?_
 refine⟨nW b,?_⟩
 refine aAK (fun q1=> ?_) (fun q1=> ?_)
 ·refine Sr ?_
  repeat'(first|refine And.intro ?_ ?_|intro _)
  all_goals first|exact fP (k1 ⟨q1,(by omega)⟩)|exact fP (k2 (fun p=>by have:=p.2;omega))
 ·refine Sr ?_
  exact fP (k2 (fun p=>q1 p.1))
end
section
def E2{α:Type}(P:α→Prop):List α→Int→Int
 | [],_=> -1
 |x::l,i=>if P x then i else E2 P l (i+1)
def mC{α:Type}(P:α→Prop)(l:List α):Int:=E2 P l 0
theorem F6{α:Type}{P:α→Prop}:∀{l:List α} {i:Int},(∀(j:Nat) x,l[j]?=some x→¬P x)→E2 P l i= -1
 | [],_,_=>rfl
 |x::l,i,h=>by
  unfold E2
  rw[if_neg (h 0 x rfl)]
  exact F6 fun j y hy=>h (j+1) y (by simpa using hy)
theorem QD{α:Type}{P:α→Prop}:∀{l:List α} {i:Nat} {x:α} {b:Int},l[i]?=some x→P x→(∀j y,l[j]?=some y→j<i→¬P y)→E2 P l b=b+i
 | [],i,x,b,e,_,_=>by cases e
 |y::l,0,x,b,e,hp,_=>by
  cases e
  unfold E2
  rw[if_pos hp];simp
 |y::l,i+1,x,b,e,hp,h=>by
  unfold E2
  rw[if_neg (h 0 y rfl (Nat.succ_pos _)),QD (l:=l) (i:=i) (by simpa using e) hp (fun j z hz hj=>h (j+1) z (by simpa using hz) (by omega))]
  push_cast
  omega
theorem pL{α:Type}{P:α→Prop}{l:List α}(h:∀(j:Nat) x,l[j]?=some x→¬P x):mC P l= -1:=F6 h
theorem wQ{α:Type}{P:α→Prop}{l:List α}{i:Nat}{x:α}(e:l[i]?=some x)(hp:P x)(h:∀j y,l[j]?=some y→j<i→¬P y):mC P l=i:=by
 have:=QD (b:=0) e hp h
 rw[Int.zero_add]at this
 exact this
theorem kR{α:Type}{P:α→Prop}{l:List α}:0≤mC P l↔∃x∈l,P x:=by
 have f:∀(l:List α) (i:Int),0≤i→(0≤E2 P l i↔∃x∈l,P x):=by
  intro l
  induction l with
  |nil=>intro i _;simp[E2]
  |cons x l ih=>
   intro i hi
   unfold E2
   by_cases hp:P x
   ·rw[if_pos hp];simp[hp,hi]
   ·rw[if_neg hp,ih (i+1) (by omega)];simp[hp]
 exact f l 0 (Int.le_refl _)
theorem aMS{l:List Expr}{fv:AV}{P:Expr→Prop}(hl:l.length<2^40)(hs:aQ fv=true)
  (hp:∀x∈l,∀K:KH,(P x→K (.bool true) h)→(¬P x→K (.bool false) h)→CV fv [.agg (eE x)] h K) (k:K (iv (mC P l)) h):C 391 [sl eE l,fv] h K:=by
 refine aNj ?_
 refine Sr ?_
 refine cD (σ:=Nat) (fun i=> [iv i,iv l.length,fv,sl eE l,iv 0]) (fun _=>h) (fun i=>i≤l.length∧∀j x,l[j]?=some x→j<i→¬P x) (fun i=>l.length-i) ?_ 0 ⟨aH _,fun j x _ hj=>absurd hj (Nat.not_lt_zero _)⟩ (A:=WY) (cur:=0)
 rintro i ⟨hi,hb⟩
 refine aDw ?_
 refine Sr ?_
 refine⟨fun q=> ?_,fun q=> ?_⟩
 ·have hil:i<l.length:=by omega
  have ee:=aC hil
  rw[bV (n:=3) nU ee]
  refine Sr ?_
  refine hp _ (List.getElem_mem hil) _ (fun p=> ?_) (fun p=> ?_)
  ·refine S1 hs ?_
   rw[wQ ee p hb]at k
   exact k
  ·refine Sr ?_
   refine bT (by omega) (by omega) ⟨⟨rfl,hs⟩,i+1,⟨hil,fun j x hx hj=> ?_⟩,(by omega),rfl⟩
   by_cases hji:j=i
   ·subst hji;rw[ee]at hx;cases hx;exact p
   ·exact hb j x hx (by omega)
 ·refine S1 hs ?_
  rw[pL (fun j x hx=>hb j x hx (by have:=(aD.1 hx).1;omega))]at k
  exact k
theorem aMT{l:List Expr}{fv:AV}{P:Expr→Prop}(hl:l.length<2^40)(hs:aQ fv=true)
  (hp:∀x∈l,∀K:KH,(P x→K (.bool true) h)→(¬P x→K (.bool false) h)→CV fv [.agg (eE x)] h K) (k1:(∃x∈l,P x)→K (.bool true) h) (k2:(¬∃x∈l,P x)→K (.bool false) h):C 327 [sl eE l,fv] h K:=by
 refine aNg ?_
 refine aMS hl hs hp ?_
 refine Sr ?_
 exact⟨fun q=>k1 (kR.1 q),fun q=>k2 (fun x=>q (kR.2 x))⟩
end
section
attribute [local irreducible] cl
def qZ:List (List Nat):= [[99,111,108,111,117,114],[112,108,97,99,101],[116,97,115,107],[118,97,114],[119,104,101,110],[106,111,105,110],[115,112,108,105,116],[105,110],[111,117,116],[99,97,110,99,101,108],[97,102,116,101,114],[109,97,110,121],[102,114,111,109],[116,111],[105,110,116],[101,110,117,109],[112,97,105,114],[97,110,100],[120,111,114],[111,114],[105,102]]
theorem aIG:Y0 300 322 []=some (strs qZ):=by kernel_rfl
theorem aIH(k:K (strs qZ) h):C 322 [] h K:=LV rfl aIG k
end
section
attribute [local irreducible] cl
def LX(k:Int):Int:=if k=1∨k=2 then 0 else if k=3∨k=4 then 1 else if k=5 then 2 else if k=6 then 3 else-1
theorem aMR{a:Int}(k:K (iv (LX a)) h):C 325 [iv a] h K:=by
 refine aNf ?_
 unfold LX at k
 refine Sr ?_
 repeat'(first|refine And.intro ?_ ?_|intro _)
 all_goals first
  |(rw[if_pos (by omega)]at k;exact k)
  |(rw[if_neg (by omega),if_pos (by omega)]at k;exact k)
  |(rw[if_neg (by omega),if_neg (by omega),if_pos (by omega)]at k;exact k)
  |(rw[if_neg (by omega),if_neg (by omega),if_neg (by omega),if_pos (by omega)]at k;exact k)
  |(rw[if_neg (by omega),if_neg (by omega),if_neg (by omega),if_neg (by omega)]at k;exact k)
def LY:Nat→Int→Expr→Prop
 |0,_,_=>False
 |d+1,vars,e=>(e.kids.length:Int)=LX e.kind∧¬(e.kind=2∧(e.num<0∨vars≤e.num))∧¬(e.kind=5∧¬(1≤e.num∧e.num≤11))∧∀k∈e.kids,LY d vars k
theorem aHD:∀(d:Nat) {e:Expr} {vars:Int} {h:aL} {K:KH},kV d e→(LY d vars e→K (.bool true) h)→(¬LY d vars e→K (.bool false) h)→C 242 [.agg (eE e),iv vars] h K
 |0,e,vars,h,K,hd,_,_=>hd.elim
 |d+1,e,vars,h,K,hd,k1,k2=>by
  refine bG (aNd ?_)
  refine Sr ?_
  refine⟨iZ e,?_⟩
  refine aMR ?_
  refine Sr ?_
  unfold LY at k1 k2
  obtain⟨hl,hk⟩:=hd
  have ho:bW h.aA h (up (nw (nw h (.cells (eE e))) (.cells [iv vars])) 8):=Oq
  obtain⟨g,hg⟩:∃g,g=up (nw (nw h (.cells (eE e))) (.cells [iv vars])) 8:=⟨_,rfl⟩
  have g0:aP g h.aA=some (.cells (eE e)):=by rw[hg];exact Sr trivial
  have g1:aP g (h.aA+1)=some (.cells [iv vars]):=by rw[hg];exact Sr trivial
  have gn:g.aA=h.aA+10:=by rw[hg];exact Sr trivial
  rw[←hg]at ho⊢
  have rest:(e.kids.length:Int)=LX e.kind→¬(e.kind=2∧(e.num<0∨vars≤e.num))→¬(e.kind=5∧¬(1≤e.num∧e.num≤11))→
    C 327 [sl eE e.kids,.func (.func 328) [] [.ptr (h.aA+1) 0]] g (fun v71 h72=>RO (gS .not v71) fun v73=>aQ v73=true∧cl h K v73 h72):=by
   intro a1 a2 a3
   refine aMT (P:=fun x=>¬LY d vars x) hl rfl (fun x hx K' p1 p2=> ?_) (fun p=> ?_) (fun p=> ?_)
   ·refine Sr ?_
    refine bG (aNh ?_)
    refine Sr ?_
    refine⟨iZ x,?_⟩
    rw[J7 (by omega),g1]
    refine Sr ?_
    refine aHD d (hk x hx) (fun q=> ?_) (fun q=> ?_)
    ·refine Sr ?_
     exact fP (p2 (fun n=>n q))
    ·refine Sr ?_
     exact fP (p1 q)
   ·refine Sr ?_
    exact bA ho rfl (k2 (fun q=>by obtain⟨x,hx,n⟩:=p;exact n (q.2.2.2 x hx)))
   ·refine Sr ?_
    exact bA ho rfl (k1 ⟨a1,a2,a3,fun x hx=>Classical.byContradiction fun n=>p ⟨x,hx,n⟩⟩)
  repeat'(first|refine And.intro ?_ ?_|intro _)
  all_goals first
   |exact bA ho rfl (k2 (fun q=>by omega))
   |exact rest (by omega) (by omega) (by omega)
   |(refine aMX (fun p=> ?_) (fun p=> ?_)
     ·refine S1 g0 ?_
      exact rest (by omega) (by omega) (by omega)
     ·refine Sr ?_
      exact bA ho rfl (k2 (fun q=>by omega)))
end
section
attribute [local irreducible] cl
def aAF(d:Nat)(vars:Int)(e:Expr):Prop:=L0 d e≤40∧L1 d e≤400∧LY d vars e
theorem aDr{d:Nat}{e:Expr}{vars:Int}(hd:kV d e)(k1:aAF d vars e→K (.bool true) h)(k2:¬aAF d vars e→K (.bool false) h):C 146 [.agg (eE e),iv vars] h K:=by
 refine bG (aM9 ?_)
 unfold aAF at k1 k2
 refine Sr ?_
 refine⟨iZ e,?_⟩
 refine aHF d hd ?_
 refine Sr ?_
 refine⟨fun q1=> ?_,fun q1=> ?_⟩
 ·refine aHG d hd ?_
  refine Sr ?_
  refine⟨fun q2=> ?_,fun q2=> ?_⟩
  ·refine aHD d hd (fun q3=> ?_) (fun q3=> ?_)
   ·refine Sr ?_
    exact fP (k1 ⟨q1,q2,q3⟩)
   ·refine Sr ?_
    exact fP (k2 (fun p=>q3 p.2.2))
  ·exact fP (k2 (fun p=>q2 p.2.1))
 ·exact fP (k2 (fun p=>q1 p.1))
end
section
attribute [local irreducible] cl
theorem QC(k:IntKind):bB (.int k 1)=some 1:=rfl
theorem aAE(k:IntKind):bB (.int k 2)=some 2:=rfl
def Expr.kid(e:Expr)(k:Nat):Expr:=e.kids.getD k (.mk 0 0 [])
def rK(ev:Expr→Int×Int)(env:List Int)(e:Expr):Int×Int:=
 if e.kind=1 then(e.num,0)
 else if e.kind=2 then(env.getD e.num.toNat 0,0)
 else if(ev (e.kid 0)).2≠0 then(0,(ev (e.kid 0)).2)
 else if e.kind=3 then D8 2 0 (ev (e.kid 0)).1
 else if e.kind=4 then D8 6 (ev (e.kid 0)).1 0
 else if e.kind=5 then
  (if(e.num=10∧(ev (e.kid 0)).1=0)∨(e.num=11∧¬(ev (e.kid 0)).1=0)then D8 7 (ev (e.kid 0)).1 0
   else if(ev (e.kid 1)).2≠0 then(0,(ev (e.kid 1)).2)else D8 e.num (ev (e.kid 0)).1 (ev (e.kid 1)).1)
 else if(ev (e.kid 0)).1≠0 then ev (e.kid 1)else ev (e.kid 2)
def y5:Nat→List Int→Expr→Int×Int
 |0,_,_=>(0,0)
 |d+1,env,e=>rK (y5 d env) env e
theorem yD{e:Expr}{k:Nat}(h:k<e.kids.length):e.kids[k]?=some (e.kid k)∧e.kid k∈e.kids:=by
 have h1:=aC h
 have:e.kid k=e.kids[k]:=by unfold Expr.kid;simp[List.getD,h1]
 rw[this]
 exact⟨h1,List.getElem_mem h⟩
def IB(env:List Int)(ev:Expr→Int×Int)(e:Expr):Prop:=∀x∈e.kids,∀(h:aL) (K:KH),K (L2 (ev x)) h→C 306 [ints env,.agg (eE x)] h K
theorem aMO{env:List Int}{ev:Expr→Int×Int}{e:Expr}(hk:IB env ev e)(h1:e.kids.length=1)(q:e.kind=3∨e.kind=4)(k:K (L2 (rK ev env e)) h):C 431 [ints env,.agg (eE e)] h K:=by
 refine bG (aNm ?_)
 unfold rK at k
 obtain⟨a0,b0⟩:=yD (e:=e) (k:=0) (by omega)
 have ho:bW h.aA h (nw h (.cells (eE e))):=Oq
 refine Sr ?_
 refine⟨iZ e,?_⟩
 rw[bV nU a0]
 refine Sr ?_
 refine hk _ b0 _ _ ?_
 rw[if_neg (by omega),if_neg (by omega)]at k
 refine Sr ?_
 refine⟨fun p=>⟨fun r=> ?_,fun r=> ?_⟩,fun p=> ?_⟩
 ·rw[if_neg (fun n=>n p),if_pos r]at k
  refine aMY ?_
  refine Sr ?_
  exact bA ho rfl k
 ·rw[if_neg (fun n=>n p),if_neg r,if_pos (by omega)]at k
  refine aAJ ?_
  refine Sr ?_
  exact bA ho rfl k
 ·rw[if_pos p]at k
  exact bA ho rfl k
theorem aMP{env:List Int}{ev:Expr→Int×Int}{e:Expr}(hk:IB env ev e)(h1:e.kids.length=2)(q:e.kind=5)(k:K (L2 (rK ev env e)) h):C 432 [ints env,.agg (eE e)] h K:=by
 refine bG (aNn ?_)
 unfold rK at k
 obtain⟨a0,b0⟩:=yD (e:=e) (k:=0) (by omega)
 obtain⟨a1,b1⟩:=yD (e:=e) (k:=1) (by omega)
 have ho:bW h.aA h (nw h (.cells (eE e))):=Oq
 refine Sr ?_
 refine⟨iZ e,?_⟩
 rw[bV nU a0]
 refine Sr ?_
 refine hk _ b0 _ _ ?_
 rw[if_neg (by omega),if_neg (by omega)]at k
 refine Sr ?_
 refine⟨fun p=> ?_,fun p=> ?_⟩
 ·rw[if_neg (fun n=>n p),if_neg (by omega),if_neg (by omega),if_pos q]at k
  repeat'(first|refine And.intro ?_ ?_|intro _)
  all_goals first
   |(rw[if_pos (by omega)]at k
     refine aAJ ?_
     refine Sr ?_
     exact bA ho rfl k)
   |(rw[if_neg (by omega)]at k
     rw[QC,bV nU a1]
     refine Sr ?_
     refine hk _ b1 _ _ ?_
     refine Sr ?_
     refine⟨fun p=> ?_,fun p=> ?_⟩
     ·rw[if_neg (fun n=>n p)]at k
      refine aAJ ?_
      refine Sr ?_
      exact bA ho rfl k
     ·rw[if_pos p]at k
      exact bA ho rfl k)
 ·rw[if_pos p]at k
  exact bA ho rfl k
theorem aMQ{env:List Int}{ev:Expr→Int×Int}{e:Expr}(hk:IB env ev e)(h1:e.kids.length=3)(q:e.kind=6)(k:K (L2 (rK ev env e)) h):C 433 [ints env,.agg (eE e)] h K:=by
 refine bG (aNo ?_)
 unfold rK at k
 obtain⟨a0,b0⟩:=yD (e:=e) (k:=0) (by omega)
 obtain⟨a1,b1⟩:=yD (e:=e) (k:=1) (by omega)
 obtain⟨a2,b2⟩:=yD (e:=e) (k:=2) (by omega)
 have ho:bW h.aA h (nw h (.cells (eE e))):=Oq
 refine Sr ?_
 refine⟨iZ e,?_⟩
 rw[bV nU a0]
 refine Sr ?_
 refine hk _ b0 _ _ ?_
 rw[if_neg (by omega),if_neg (by omega)]at k
 refine Sr ?_
 refine⟨fun p=>⟨fun r=> ?_,fun r=> ?_⟩,fun p=> ?_⟩
 ·rw[if_neg (fun n=>n p),if_neg (by omega),if_neg (by omega),if_neg (by omega),if_neg (fun n=>n r)]at k
  rw[aAE,bV nU a2]
  refine Sr ?_
  refine hk _ b2 _ _ ?_
  refine Sr ?_
  exact bA ho rfl k
 ·rw[if_neg (fun n=>n p),if_neg (by omega),if_neg (by omega),if_neg (by omega),if_pos r]at k
  rw[QC,bV nU a1]
  refine Sr ?_
  refine hk _ b1 _ _ ?_
  refine Sr ?_
  exact bA ho rfl k
 ·rw[if_pos p]at k
  exact bA ho rfl k
end
section
attribute [local irreducible] cl
theorem aML{env:List Int}{ev:Expr→Int×Int}{e:Expr}(q:e.kind=1)(k:K (L2 (rK ev env e)) h):C 429 [ints env,.agg (eE e)] h K:=by
 refine bG (aNk ?_)
 unfold rK at k
 rw[if_pos q]at k
 refine Sr ?_
 exact⟨iZ e,fP k⟩
theorem aMM{env:List Int}{ev:Expr→Int×Int}{e:Expr}(q:e.kind=2)(h0:0≤e.num)(h1:e.num<env.length)(k:K (L2 (rK ev env e)) h):C 430 [ints env,.agg (eE e)] h K:=by
 refine bG (aNl ?_)
 unfold rK at k
 rw[if_neg (by omega),if_pos q]at k
 refine Sr ?_
 obtain⟨r,hr⟩:=HY h0 h1
 refine⟨iZ e,?_⟩
 rw[hr]
 refine Sr ?_
 exact fP k
theorem aMN{env:AV}{kind:Int}(k:K (.func (.func (if kind=1 then 429 else if kind=2 then 430 else if kind=3∨kind=4 then 431 else if kind=5 then 432 else 433)) [env] []) h):C 375 [env,iv kind] h K:=by
 refine aNi ?_
 refine Sr ?_
 repeat'(first|refine And.intro ?_ ?_|intro _)
 all_goals first
  |(rw[if_pos (by omega)]at k;exact k)
  |(rw[if_neg (by omega),if_pos (by omega)]at k;exact k)
  |(rw[if_neg (by omega),if_neg (by omega),if_pos (by omega)]at k;exact k)
  |(rw[if_neg (by omega),if_neg (by omega),if_neg (by omega),if_pos (by omega)]at k;exact k)
  |(rw[if_neg (by omega),if_neg (by omega),if_neg (by omega),if_neg (by omega)]at k;exact k)
theorem aHB:∀(d:Nat) {env:List Int} {e:Expr} {h:aL} {K:KH},LY d env.length e→K (L2 (y5 d env e)) h→C 306 [ints env,.agg (eE e)] h K
 |0,env,e,h,K,hp,_=>hp.elim
 |d+1,env,e,h,K,hp,k=>by
  refine bG (aNe ?_)
  unfold y5 at k
  unfold LY at hp
  obtain⟨p1,p2,p3,p4⟩:=hp
  have ho:bW h.aA h (up (nw h (.cells (eE e))) 10):=Oq
  have hk:IB env (y5 d env) e:=fun x hx h K q=>aHB d (p4 x hx) q
  have k':cl h K (L2 (rK (y5 d env) env e)) (up (nw h (.cells (eE e))) 10):=bA ho rfl k
  unfold LX at p1
  refine Sr ?_
  refine⟨iZ e,?_⟩
  refine aMN ?_
  refine Sr ?_
  by_cases q1:e.kind=1
  ·rw[if_pos q1]
   refine aML (ev:=y5 d env) q1 ?_
   refine Sr ?_
   exact k'
  ·by_cases q2:e.kind=2
   ·rw[if_neg q1,if_pos q2]
    refine aMM (ev:=y5 d env) q2 (by omega) (by omega) ?_
    refine Sr ?_
    exact k'
   ·rw[if_neg (by omega)]at p1
    rw[if_neg q1,if_neg q2]
    by_cases q3:e.kind=3∨e.kind=4
    ·rw[if_pos q3]at p1
     rw[if_pos q3]
     refine aMO hk (by omega) q3 ?_
     refine Sr ?_
     exact k'
    ·rw[if_neg q3]at p1
     rw[if_neg q3]
     by_cases q5:e.kind=5
     ·rw[if_pos q5]at p1
      rw[if_pos q5]
      refine aMP hk (by omega) q5 ?_
      refine Sr ?_
      exact k'
     ·rw[if_neg q5]at p1
      rw[if_neg q5]
      have q6:e.kind=6:=Classical.byContradiction fun n=>by
       rw[if_neg n]at p1
       omega
      rw[if_pos q6]at p1
      refine aMQ hk (by omega) q6 ?_
      refine Sr ?_
      exact k'
def wP(d:Nat)(e:Expr)(env:List Int):Int×Int:=if aAF d env.length e then y5 d env e else(0,1)
theorem aHC{d:Nat}{env:List Int}{e:Expr}(hd:kV d e)(k:K (L2 (wP d e env)) h):C 202 [.agg (eE e),ints env] h K:=by
 refine bG (aNa ?_)
 unfold wP at k
 refine Sr ?_
 refine⟨iZ e,?_⟩
 refine aDr hd (fun q=> ?_) (fun q=> ?_)
 ·rw[if_pos q]at k
  refine Sr ?_
  refine aHB d q.2.2 ?_
  refine Sr ?_
  exact fP k
 ·rw[if_neg q]at k
  refine Sr ?_
  exact fP k
end
end
end Ev
