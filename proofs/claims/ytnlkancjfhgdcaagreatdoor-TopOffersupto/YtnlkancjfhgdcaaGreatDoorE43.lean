/- Proved here: contracts of functions of the program, and the plain law. Conditions: none beyond the hypotheses that each theorem states. -/
import Derived.Laws.NewBlocks
import Derived.Test.YtnlkancjfhgdcaaGreatDoorE29
import Derived.Test.YtnlkancjfhgdcaaGreatDoorE30
import Derived.Test.YtnlkancjfhgdcaaGreatDoorE14
import Derived.Test.YtnlkancjfhgdcaaGreatDoorE15
import Derived.Test.YtnlkancjfhgdcaaGreatDoorE16
import Derived.Test.YtnlkancjfhgdcaaGreatDoorE18
import Derived.Test.YtnlkancjfhgdcaaGreatDoorE28
import Derived.Test.YtnlkancjfhgdcaaGreatDoorE20
import Derived.Test.YtnlkancjfhgdcaaGreatDoorE19
import Derived.Test.YtnlkancjfhgdcaaGreatDoorE31
import Derived.Test.YtnlkancjfhgdcaaGreatDoorE08
import Derived.Test.YtnlkancjfhgdcaaGreatDoorE21
import Derived.Test.YtnlkancjfhgdcaaGreatDoorE22
set_option linter.all false
set_option maxRecDepth 100000
open Go Go.Proofs
open Nat(reduceAdd reduceMul reduceSub reduceEqDiff reduceLT)
namespace Ev
noncomputable section
attribute [local irreducible] RO RL RP gV cB F cV cI NX LP J9
open Classical
variable{h:aL}{K:KH}
section
attribute [local irreducible] cl
abbrev fi:Int→List AV:=fun x=> [iv x]
def f9(l:List (Int×Int)):AO:=zA iv iv l
theorem aMc{pb mb:Nat}{l:List (Int×Int)}(hl:l.length<2^22)(hp:aP h pb=some (.cells [.map mb]))(hm:aP h mb=some (f9 l))(hp1:pb<h.aA)(hm1:mb<h.aA)
  (k:∀g v L,bW h.aA h g→h.aA≤g.aA→dG h.aA 1 fi g v L→L.Perm (l.map Prod.fst)→K v g):C 366 [.aB,.func (.func 286) [] [.ptr pb 0]] h K:=by
 refine aMd ?_
 refine Zr ?_
 refine aMg ?_
 generalize hT:uW .aB (.func (.func 286) [] [.ptr pb 0]) (.ptr h.aA 0)=tm
 have q0:aP (nw (nw h (.cells [.aB])) (mB tm [aM 7] jN gC .ready none)) pb=some (.cells [.map mb]):=by rw[bF,if_neg (by rw[aT];omega),bF,if_neg (by omega)];exact hp
 have q1:aP (nw (nw h (.cells [.aB])) (mB tm [aM 7] jN gC .ready none)) mb=some (f9 l):=by rw[bF,if_neg (by rw[aT];omega),bF,if_neg (by omega)];exact hm
 simp only[go_sem,reduceAdd,reduceMul,reduceSub,aa,reduceEqDiff,reduceLT,q0]
 rw[oZ q1]
 refine Zr ?_
 obtain⟨G,hG⟩:∃G,G=nw (nw (nw h (.cells [.aB])) (mB tm [aM 7] jN gC .ready none)) (.miter (some mb) l.length [] l.length):=⟨_,rfl⟩
 rw[←hG]
 refine cD (σ:=List Nat×aL×AV) (fun p=> [.ptr (h.aA+2) 0,.func (.yield (h.aA+1)) [] []]) (fun p=>p.2.1)
  (fun p=>iI l p.1∧bW h.aA h p.2.1∧h.aA+3≤p.2.1.aA∧aP p.2.1 h.aA=some (.cells [p.2.2])∧aP p.2.1 (h.aA+1)=some (mB tm [aM 7] jN gC .ready none)∧
   aP p.2.1 (h.aA+2)=some (.miter (some mb) l.length p.1 l.length)∧dG (h.aA+3) 1 fi p.2.1 p.2.2 ((rS l p.1).map Prod.fst))
  (fun p=>l.length-p.1.length) ?_ ([],G,.aB) ⟨iI.nil l,(by rw[hG];exact Oq),(by rw[hG];refine Zr ?_;omega),(by rw[hG];exact Zr trivial),(by rw[hG];exact Zr trivial),(by rw[hG];exact Zr trivial),.aB⟩ (A:=WA) (cur:=0)
 clear hG q0 q1
 ·rintro⟨S,g,v⟩ ⟨hv,ho,hg,g0,g1,g2,hO⟩
  simp only at hv ho hg g0 g1 g2 hO
  have gm:aP g mb=some (f9 l):=by rw[ho mb hm1];exact hm
  refine aC4 ?_
  refine CN g2 gm (fun i k' v' e hi=> ?_) (fun hc=> ?_)
  ·refine Zr ?_
   rw[vJ (aU _ _ _) (by rw[aX,if_neg (by omega)];exact gm) e]
   refine Zr ?_
   subst hT
   refine aMe (by rw[aX,if_neg (by omega)];exact g1) ?_
   intro h2 e2
   have n2:h2.aA=g.aA:=by rw[e2,bC,bC]
   have f2:∀b,b≠h.aA+1→b≠h.aA+2→aP h2 b=aP g b:=fun b h1 h3=>by rw[e2,aX,if_neg h1,aX,if_neg h3]
   have r2:aP h2 (h.aA+1)=some (mB (uW .aB (.func (.func 286) [] [.ptr pb 0]) (.ptr h.aA 0)) [aM 7] jN gC .busy none):=by rw[e2,aU]
   have i2:aP h2 (h.aA+2)=some (.miter (some mb) l.length (S++ [i]) l.length):=by rw[e2,aX,if_neg (by omega),aU]
   have b2:aP h2 h.aA=some (.cells [v]):=by rw[f2 _ (by omega) (by omega)];exact g0
   clear e2
   refine Z1 b2 ?_
   have hO2:=hO.mono (h':=nw h2 (.cells [iv k'])) (by rw[aT];omega) (fun b hb=>by
    have:=hO.own hb
    rw[bF,if_neg (by omega),f2 _ (by omega) (by omega)])
   have hvl:=hv.lt e hi
   have hvv:(rS l S).length≤S.length:=List.length_filterMap_le ..
   obtain⟨v2,g5,a1,a2,a3,a4,a5,a6⟩:=hO2.app (xs:= [k']) (x:= .slice h2.aA 0 1 1 0) (fun _=>rfl) (by rw[aT];omega) (fun y _=>rfl) (by simp) rfl (iE (bQ _ _) rfl) (by simp;omega)
   rw[a1]
   have o5:∀c,c<h.aA+3→aP g5 c=aP h2 c:=fun c hc=>by rw[a4 c (by rw[aT];omega) (hO2.old hc),bF,if_neg (by omega)]
   simp only[go_sem,reduceAdd,reduceMul,reduceSub,aa,reduceEqDiff,reduceLT,a2.cells]
   rw[nA (by rfl) a2.all1,o5 _ (by omega),b2]
   refine Zr ?_
   rw[o5 _ (by omega),r2]
   refine Zr ?_
   obtain⟨G2,t7⟩:∃G2,G2=bI (bI g5 h.aA (.cells [v2])) (h.aA+1) (mB (uW .aB (.func (.func 286) [] [.ptr pb 0]) (.ptr h.aA 0)) [aM 7] jN gC .ready none):=⟨_,rfl⟩
   rw[←t7]
   refine⟨(S++ [i],G2,v2),⟨hv.app e hi,?_,?_,?_,?_,?_,?_⟩,?_,rfl⟩
   ·intro b hb
    rw[t7,aX,if_neg (by omega),aX,if_neg (by omega),o5 _ (by omega),f2 _ (by omega) (by omega)]
    exact ho b hb
   ·show _≤G2.aA
    rw[t7,bC,bC,a3,aT];omega
   ·rw[t7,aX,if_neg (by omega),aU]
   ·rw[t7];exact aU _ _ _
   ·rw[t7,aX,if_neg (by omega),aX,if_neg (by omega),o5 _ (by omega)]
    exact i2
   ·rw[vK e,List.map_append]
    refine a2.mono (by rw[t7,bC,bC];exact aE _) (fun b hb=> ?_)
    have:=a2.own hb
    rw[t7,aX,if_neg (by omega),aX,if_neg (by omega)]
   ·show l.length-(S++ [i]).length<l.length-S.length
    simp;omega
  ·refine Zr ?_
   rw[g1]
   refine Zr ?_
   have d:∀b,b≠h.aA+1→aP (jK g (h.aA+1)) b=aP g b:=fun b hb=>by rw[i7,if_neg hb]
   rw[g0]
   refine Zr ?_
   refine⟨hO.seen,k _ _ _ (fun b hb=> ?_) ?_ ?_ ((hv.perm hc).map Prod.fst)⟩
   ·rw[d _ (by omega)];exact ho b hb
   ·rw[jZ];omega
   ·exact(hO.mono (by rw[jZ];exact aE _) (fun b hb=>d b (by have:=hO.own hb;omega))).le (by omega)
end
section
attribute [local irreducible] cl
@[go_sem]theorem aF3(k:IntKind):bB (.int k 1)=some 1:=rfl
@[go_sem]theorem aF4(k:IntKind):bB (.int k 2)=some 2:=rfl
@[go_sem]theorem aRg(b:Nat):cR (some 2) 1 (.ptr b 0) (some 0)=some (.ptr b 0):=rfl
@[go_sem]theorem aRh(b:Nat):cR (some 2) 1 (.ptr b 0) (some 1)=some (.ptr b 1):=rfl
@[go_sem]theorem aTe(r:Int×Int):bR (eR r) 0=some (iv r.1):=rfl
@[go_sem]theorem aTf(r:Int×Int):bR (eR r) 1=some (iv r.2):=rfl
@[go_sem]theorem aJr(r:Int×Int):aZ (eR r)=true:=M7 r
@[go_sem]theorem aTg(a b:AV)(r:Int×Int):aV [a,b] 0 (eR r)=some (eR r):=by cases r;rfl
theorem O6{b:dF}{i:Nat}{r x:Int×Int}(e:b[i]?=some r)(hx:x∈b.take i)(h:r.1≤x.1):¬eF b:=by
 rintro⟨p,-⟩
 obtain⟨j,hj,rfl⟩:=List.mem_iff_getElem.1 hx
 simp at hj
 obtain⟨hi,rfl⟩:=aD.1 e
 have:=List.pairwise_iff_getElem.1 p j i (by omega) hi (by omega)
 rw[List.getElem_take]at h
 omega
theorem c85{b:dF}(hl:b.length<2^40)(k1:eF b→K (.bool true) h)(k2:¬eF b→K (.bool false) h):C 85 [gF b] h K:=by
 refine bG (e85 ?_)
 refine Zr ?_
 refine cD (σ:=Nat×Int×aL) (fun p=> [iv p.1,iv b.length,gF b,iv p.2.1,.bool false]) (fun p=>p.2.2)
  (fun p=>p.1≤b.length∧bW h.aA h p.2.2∧h.aA≤p.2.2.aA∧eF (b.take p.1)∧-1≤p.2.1∧(∀r∈b.take p.1,r.1≤p.2.1)∧(p.2.1= -1∨∃r∈b.take p.1,r.1=p.2.1)) (fun p=>b.length-p.1) ?_ (0,-1,h) ⟨aH _,bW.refl _ _,aE _,⟨by simp,by simp⟩,Int.le_refl _,by simp,.inl rfl⟩ (A:=aC7) (cur:=0)
 rintro⟨i,last,g⟩ ⟨hi,ho,hg,hb,h1,h2,h3⟩
 simp only at hi ho hg hb h1 h2 h3
 refine aHp ?_
 refine Zr ?_
 refine⟨fun hl=> ?_,fun hl=> ?_⟩
 ·have hl:i<b.length:=by omega
  have e:=aC hl
  have hin:b[i]∈b:=List.getElem_mem hl
  rw[bV uL e]
  refine Zr ?_
  obtain⟨G,hG⟩:∃G,G=bI (nw g (.cells [iv 0,iv 0])) g.aA (.cells (eR b[i])):=⟨_,rfl⟩
  rw[←hG]
  have hoG:bW h.aA h G:=by rw[hG];exact Oq
  have hgG:h.aA≤G.aA:=by rw[hG,fK];omega
  have no:¬eF b→cl h K (.bool false) G:=fun q=>bA hoG rfl (k2 q)
  refine⟨fun q1=>no ?_,fun q1=>⟨fun q2=>no (fun p=>by have:=p.2 _ hin;omega),fun q2=>⟨fun q3=>no (fun p=>by have:=p.2 _ hin;omega),fun q3=> ?_⟩⟩⟩
  ·rcases h3 with h3|⟨r,hr,h3⟩
   ·exact fun p=>by have:=p.2 _ hin;omega
   ·exact O6 e hr (by omega)
  ·refine bT (by omega) (by omega) ⟨rfl,(i+1,b[i].1,G),⟨hl,hoG,hgG,?_,by show-1≤b[i].1;omega,?_,?_⟩,(by omega),rfl,rfl⟩
   ·show eF (b.take (i+1))
    rw[dB e]
    refine⟨List.pairwise_append.2 ⟨hb.1,by simp,fun x hx y hy=> ?_⟩,fun r hr=> ?_⟩
    ·rw[List.mem_singleton.1 hy];have:=h2 x hx;omega
    ·rcases List.mem_append.1 hr with hr|hr
     ·exact hb.2 r hr
     ·rw[List.mem_singleton.1 hr];omega
   ·show∀r∈b.take (i+1),r.1≤b[i].1
    rw[dB e]
    intro r hr
    rcases List.mem_append.1 hr with hr|hr
    ·have:=h2 r hr;omega
    ·rw[List.mem_singleton.1 hr];omega
   ·show b[i].1= -1∨∃r∈b.take (i+1),r.1=b[i].1
    rw[dB e]
    exact .inr ⟨_,List.mem_append_right _ (List.mem_singleton.2 rfl),rfl⟩
 ·have:i=b.length:=by omega
  subst this
  rw[List.take_length]at hb
  exact bA ho rfl (k1 hb)
end
section
attribute [local irreducible] cl
theorem RI{l:dF}{k:Int}(h:¬k∈l.map Prod.fst):fL l k=none:=by
 induction l with
 |nil=>rfl
 |cons x l ih=>
  obtain⟨a,b⟩:=x
  simp only[List.map_cons,List.mem_cons,not_or]at h
  simp only[fL,if_neg h.1,ih h.2]
theorem T7{b:dF}{i:Nat}{r:Int×Int}(hb:eF b)(e:b[i]?=some r):¬r.1∈(b.take i).map Prod.fst:=fun hm=>by
 obtain⟨x,hx,he⟩:=List.mem_map.1 hm
 exact O6 e hx (by omega) hb
theorem JU{mb:Nat}{l:dF}{k v:Int}(hm:aP h mb=some (f9 l)):hU h .int (iv k) (iv v) (.map mb)= .ok bS (bI h mb (f9 (fI k v l))):=zT (fv:=iv) gB hm
theorem xH{mb:Nat}{l:dF}{k:Int}(hm:aP h mb=some (f9 l)):fT .int (iv 0) false (iv k) (dK h (.map mb))=some (iv (cnt l k)):=by
 rw[gU hm]
 unfold cnt
 cases e:fL l k with
 |none=>rw[pB (fv:=iv) gB _ _ e];rfl
 |some v=>rw[mQ (fv:=iv) gB _ _ e];rfl
theorem c80{b:dF}(hl:b.length<2^21)(k1:eF b→∀g mb,bW h.aA h g→h.aA≤mb→mb<g.aA→aP g mb=some (f9 b)→K (.tuple [.map mb,.bool true]) g)
  (k2:¬eF b→K (.tuple [.nilm,.bool false]) h):C 80 [gF b] h K:=by
 refine e80 ?_
 refine c85 (by omega) (fun hb=> ?_) (fun hb=> ?_)
 ·have k1:=k1 hb
  refine Zr ?_
  refine cD (σ:=Nat×aL) (fun p=> [iv p.1,iv b.length,gF b,.map h.aA]) (fun p=>p.2)
   (fun p=>p.1≤b.length∧bW h.aA h p.2∧h.aA<p.2.aA∧aP p.2 h.aA=some (f9 (b.take p.1))) (fun p=>b.length-p.1) ?_ (0,nw h (.map [] 0)) ⟨aH _,Oq,(by refine Zr ?_;omega),(by refine Zr ?_;rfl)⟩ (A:=aC5) (cur:=0)
  rintro⟨i,g⟩ ⟨hi,ho,hg,hm⟩
  simp only at hi ho hg hm
  refine aHn ?_
  refine Zr ?_
  refine⟨fun hl=> ?_,fun hl=> ?_⟩
  ·have hl:i<b.length:=by omega
   have e:=aC hl
   rw[bV uL e]
   refine Zr ?_
   obtain⟨G,hG⟩:∃G,G=bI (nw g (.cells [iv 0,iv 0])) g.aA (.cells (eR b[i])):=⟨_,rfl⟩
   rw[←hG]
   have hmG:aP G h.aA=some (f9 (b.take i)):=by rw[hG,g8 _ _ _ hg];exact hm
   rw[JU hmG]
   refine Zr ?_
   refine bT (by omega) (by omega) ⟨rfl,(i+1,bI G h.aA (f9 (fI b[i].1 b[i].2 (b.take i)))),⟨hl,?_,?_,?_⟩,(by omega),rfl,rfl⟩
   ·show bW h.aA h (bI G _ _)
    rw[hG];exact Oq
   ·show h.aA<(bI G _ _).aA
    rw[hG,bC,fK];omega
   ·show aP (bI G _ _) _=some (f9 (b.take (i+1)))
    rw[aU,vL (RI (T7 hb e)),dB e]
  ·have:i=b.length:=by omega
   subst this
   rw[List.take_length]at hm
   exact k1 _ _ ho (aE _) hg hm
 ·refine Zr ?_
  exact k2 hb
theorem c81{a b:dF}(ha:a.length<2^21)(hb:b.length<2^21)(k1:eF a→eF b→∀g ma mb,bW h.aA h g→h.aA≤ma→ma<mb→mb<g.aA→aP g ma=some (f9 a)→aP g mb=some (f9 b)→K (.tuple [.map ma,.map mb,.bool true]) g)
  (k2:¬(eF a∧eF b)→∀g x y,bW h.aA h g→K (.tuple [x,y,.bool false]) g):C 81 [gF a,gF b] h K:=by
 refine e81 ?_
 refine c80 ha (fun pa g ma o1 l1 l2 m1=> ?_) (fun pa=> ?_)
 ·refine Zr ?_
  refine c80 hb (fun pb g2 mb o2 l3 l4 m2=> ?_) (fun pb=> ?_)
  ·refine Zr ?_
   exact k1 pa pb g2 ma mb (fun b hb=>by rw[o2 b (by omega)];exact o1 b hb) l1 (by omega) l4 (by rw[o2 _ l2];exact m1) m2
  ·refine Zr ?_
   exact k2 (fun p=>pb p.2) _ _ _ o1
 ·refine Zr ?_
  refine c80 hb (fun pb g2 mb o2 l3 l4 m2=> ?_) (fun pb=> ?_)
  ·refine Zr ?_
   exact k2 (fun p=>pa p.1) _ _ _ o2
  ·refine Zr ?_
   exact k2 (fun p=>pa p.1) _ _ _ (bW.refl _ _)
theorem aLN{pb mb:Nat}{l:dF}(hl:l.length<2^22)(hp:aP h pb=some (.cells [.map mb]))(hm:aP h mb=some (f9 l))(hp1:pb<h.aA)(hm1:mb<h.aA)
  (k:K (ints (gT (l.map Prod.fst))) h):C 168 [.func (.func 286) [] [.ptr pb 0]] h K:=by
 refine bG (aMi ?_)
 refine aMh ?_
 refine aMc hl hp hm hp1 hm1 (fun g v L ho hg hO hL=> ?_)
 have hs:=T8 hL
 have hv:=hO.seen
 refine⟨hv,?_⟩
 have hll:L.length<2^22:=by have:=hL.length_eq;simp at this;omega
 have fin:∀g2,bW h.aA h g2→dG h.aA 1 fi g2 v (gT L)→cl h K v g2:=fun g2 o q=>by
  unfold cl
  exact⟨o,_,q.fz (fun _=>rfl) (fun _ _=>rfl),by rw[hs];exact k⟩
 cases hO with
 |aB=>exact aF5 ⟨rfl,fin _ ho (by rw[show gT []= []from by simp[gT]];exact .aB)⟩
 | @row b _ h1 h2 h3=>
  refine aLP h3 (by omega) ⟨rfl,fin _ (ho.set h1) ?_⟩
  have e:(gT L).length=L.length:=(jH L).length_eq
  have:=dG.row (n0:=h.aA) (n:=1) (f:=fi) (b:=b) (h:=bI g b (.cells ((gT L).flatMap fi))) (l:=gT L) h1 (by rw[bC];exact h2) (aU _ _ _)
  rw[e]at this
  exact this
end
section
attribute [local irreducible] cl
theorem RH(l:dF)(ks:List Int)(k:Int):oX l (ks++ [k])=oX l ks++(if 0<cnt l k then [(k,cnt l k)]else []):=by
 unfold oX
 rw[List.filterMap_append]
 congr 1
 rw[List.filterMap_cons]
 split
 ·rename_i e;split at e
  ·cases e
  ·rename_i h;rw[if_neg h];rfl
 ·rename_i x e;split at e
  ·rename_i h;rw[if_pos h];cases e;rfl
  ·cases e
theorem E9(l:dF)(ks:List Int):(oX l ks).length≤ks.length:=List.length_filterMap_le ..
theorem c82{mb:Nat}{l:dF}(hl:l.length<2^22)(hm:aP h mb=some (f9 l))(hm1:mb<h.aA)(k:K (gF (oY l)) h):C 82 [.map mb] h K:=by
 refine bG (e82 ?_)
 refine aMj ?_
 refine Zr ?_
 refine aLN (pb:=h.aA) (mb:=mb) (l:=l) hl (by exact Zr trivial) (by rw[bF,if_neg (by omega)];exact hm) (by rw[aT];omega) (by rw[aT];omega) ?_
 obtain⟨ks,hks⟩:∃ks,ks=gT (l.map Prod.fst):=⟨_,rfl⟩
 have hkl:ks.length<2^22:=by rw[hks,(jH _).length_eq];simpa using hl
 unfold oY at k
 rw[←hks]at k⊢
 refine Zr ?_
 refine cD (σ:=Nat×aL×AV) (fun p=> [iv p.1,iv ks.length,ints ks,.map mb,p.2.2]) (fun p=>p.2.1)
  (fun p=>p.1≤ks.length∧bW h.aA h p.2.1∧h.aA+1≤p.2.1.aA∧dG (h.aA+1) 2 eR p.2.1 p.2.2 (oX l (ks.take p.1))) (fun p=>ks.length-p.1) ?_ (0,nw h (.cells [.map mb]),.aB) ⟨aH _,Oq,(by refine Zr ?_;omega),.aB⟩ (A:=aC6) (cur:=0)
 rintro⟨i,g,v⟩ ⟨hi,ho,hg,hO⟩
 simp only at hi ho hg hO
 have gm:aP g mb=some (f9 l):=by rw[ho mb hm1];exact hm
 refine aHo ?_
 refine Zr ?_
 refine⟨fun hl=> ?_,fun hl=> ?_⟩
 ·have hl:i<ks.length:=by omega
  have e:=aC hl
  rw[bV (f:=fun x=> [iv x]) (n:=1) (fun _=>rfl) e]
  refine Zr ?_
  rw[xH gm]
  refine Zr ?_
  have pa:=RH l (ks.take i) ks[i]
  rw[←dB e]at pa
  refine⟨fun q=> ?_,fun q=> ?_⟩
  ·rw[if_pos q]at pa
   have hO2:=hO.mono (h':=nw g (.cells [iv ks[i],iv (cnt l ks[i])])) (by rw[aT];omega) (fun b hb=>by rw[bF,if_neg (by have:=hO.own hb;omega)])
   have hpl:=E9 l (ks.take i)
   rw[List.length_take]at hpl
   obtain⟨v2,g5,a1,a2,a3,a4,a5,a6⟩:=hO2.app (xs:= [(ks[i],cnt l ks[i])]) (x:= .slice g.aA 0 1 1 0) uL (by rw[aT];omega) (fun y _=>M7 y) (by simp) rfl (iE (l:= [iv ks[i],iv (cnt l ks[i])]) (bQ _ _) rfl) (by simp;omega)
   rw[a1]
   refine Zr ?_
   refine bT (by omega) (by omega) ⟨⟨rfl,a2.seen⟩,(i+1,g5,v2),⟨hl,?_,by show h.aA+1≤g5.aA;rw[a3,aT];omega,by show dG _ _ _ g5 v2 (oX l (ks.take (i+1)));rw[pa];exact a2⟩,(by omega),rfl,rfl⟩
   intro b hb
   show aP g5 b=_
   rw[a4 b (by rw[aT];omega) (hO2.old (by omega)),bF,if_neg (by omega)]
   exact ho b hb
  ·rw[if_neg q,List.append_nil]at pa
   refine bT (by omega) (by omega) ⟨⟨rfl,hO.seen⟩,(i+1,g,v),⟨hl,ho,hg,by show dG _ _ _ g v (oX l (ks.take (i+1)));rw[pa];exact hO⟩,(by omega),rfl,rfl⟩
 ·have:i=ks.length:=by omega
  subst this
  rw[List.take_length]at hO
  unfold cl
  exact⟨hO.seen,hO.seen,ho,_,hO.fz' (by omega) uL (fun r _=>rZ r),k⟩
end
section
attribute [local irreducible] cl
theorem rY(k v:Int):∀(l:dF),(fI k v l).length≤l.length+1
 | []=>by simp[fI]
 |(a,b)::l=>by
  simp only[fI]
  split
  ·simp
  ·have:=rY k v l;simp;omega
theorem uK:∀(b a:dF),(iV a b).length≤a.length+b.length
 | [],a=>by show a.length≤_;simp
 |r::b,a=>by
  have h1:=uK b (fI r.1 (cnt a r.1+r.2) a)
  have h2:=rY r.1 (cnt a r.1+r.2) a
  show(iV (fI r.1 (cnt a r.1+r.2) a) b).length≤_
  simp;omega
theorem CG:∀(b a:dF),(iW a b).length≤a.length+b.length
 | [],a=>by show a.length≤_;simp
 |r::b,a=>by
  have h1:=CG b (fI r.1 (cnt a r.1-r.2) a)
  have h2:=rY r.1 (cnt a r.1-r.2) a
  show(iW (fI r.1 (cnt a r.1-r.2) a) b).length≤_
  simp;omega
theorem RG(l:dF):(oY l).length≤l.length:=by
 have:=E9 l (gT (l.map Prod.fst))
 rw[(jH _).length_eq,List.length_map]at this
 exact this
theorem T6(a b:dF):(JX a b).length≤a.length+b.length:=Nat.le_trans (RG _) (uK b a)
theorem mP{l:dF}{S:List Nat}(hn:(l.map Prod.fst).Nodup)(q:iI l S):((rS l S).map Prod.fst).Nodup:=by
 obtain⟨q1,q2⟩:=q
 induction S with
 |nil=>exact List.nodup_nil
 |cons i S ih=>
  rw[List.nodup_cons]at q1
  have hi:=q2 i (List.mem_cons_self ..)
  have e:=aC hi
  have:rS l (i::S)=l[i]::rS l S:=by unfold rS;rw[List.filterMap_cons,e]
  rw[this,List.map_cons,List.nodup_cons]
  exact⟨GT hn (v:=l[i].2) (k:=l[i].1) e q1.1,ih q1.2 fun j hj=>q2 j (List.mem_cons_of_mem _ hj)⟩
theorem c38{a b:dF}(ha:a.length<2^21)(hb:b.length<2^21)(k:K (.tuple [gF (i6 a b).2,iv (i6 a b).1]) h):C 38 [gF a,gF b] h K:=by
 refine bG (e38 ?_)
 unfold i6 at k
 have zz:∀g e,bW h.aA h g→K (.tuple [gF [],iv e]) h→cl h K (.tuple [.aB,iv e]) g:=fun g e o q=>by
  unfold cl
  exact⟨o,_,.tuple (.cons .aB (.cons (.same rfl) .nil)),q⟩
 refine c81 ha hb (fun pa pb g ma mb o1 l1 l2 l3 m1 m2=> ?_) (fun np g x y o1=> ?_)
 ·rw[if_neg (fun n=>n ⟨pa,pb⟩)]at k
  refine Zr ?_
  rw[oZ m2]
  refine Zr ?_
  have nb:=lR.nodup pb.1
  have na:=lR.nodup pa.1
  have hvl:∀S,iI b S→(iV a (rS b S)).length<2^22:=fun S q=>by
   have h1:=uK (rS b S) a
   have h2:(rS b S).length≤S.length:=List.length_filterMap_le ..
   have h3:=q.len
   omega
  refine cD (σ:=List Nat×aL) (fun p=> [.ptr g.aA 0,.map ma,.aB,iv 0]) (fun p=>p.2)
   (fun p=>iI b p.1∧bW h.aA h p.2∧g.aA<p.2.aA∧aP p.2 ma=some (f9 (iV a (rS b p.1)))∧aP p.2 mb=some (f9 b)∧aP p.2 g.aA=some (.miter (some mb) b.length p.1 b.length)∧∀r∈rS b p.1,cnt a r.1+r.2≤1048576)
   (fun p=>b.length-p.1.length) ?_ ([],nw g (.miter (some mb) b.length [] b.length)) ⟨iI.nil b,?_,by refine Zr ?_;omega,?_,?_,by exact Zr trivial,?_⟩ (A:=aC8) (cur:=0)
  ·rintro⟨S,G⟩ ⟨hv,ho,hg,g1,g2,g3,hle⟩
   simp only at hv ho hg g1 g2 g3 hle
   refine aHq ?_
   refine CN g3 g2 (fun i k' v' e hi=> ?_) (fun hc=> ?_)
   ·refine Zr ?_
    rw[vJ (aU _ _ _) (by rw[aX,if_neg (by omega)];exact g2) e]
    obtain⟨G1,pO⟩:∃G1,G1=bI G g.aA (.miter (some mb) b.length (S++ [i]) b.length):=⟨_,rfl⟩
    rw[←pO]
    have n1:G1.aA=G.aA:=by rw[pO,bC]
    have f1:∀b,b≠g.aA→aP G1 b=aP G b:=fun b hb=>by rw[pO,aX,if_neg hb]
    have i1:aP G1 g.aA=some (.miter (some mb) b.length (S++ [i]) b.length):=by rw[pO,aU]
    have m1':aP G1 ma=some (f9 (iV a (rS b S))):=by rw[f1 _ (by omega)];exact g1
    have hin:(k',v')∈b:=aG e
    have bv:=pb.2 _ hin
    simp only at bv
    have hk0:cnt (iV a (rS b S)) k'=cnt a k':=by
     rw[(jP (rS b S) a na (mP nb hv)).2,pW (GT nb e hi)];omega
    have c1:=pa.cnt_le k'
    have c2:=eU pa.S k'
    refine Zr ?_
    rw[xH m1']
    refine Zr ?_
    rw[hk0]
    refine bT (by omega) (by omega) ?_
    rw[JU m1']
    refine Zr ?_
    rw[xH (aU _ _ _),CH,if_pos rfl]
    refine Zr ?_
    refine⟨fun q=> ?_,fun q=> ?_⟩
    ·refine zz _ 2 ?_ ?_
     ·rw[pO];exact Oq
     ·rw[if_pos ⟨_,hin,q⟩]at k;exact k
    ·obtain⟨G2,t7⟩:∃G2,G2=bI G1 ma (f9 (fI k' (cnt a k'+v') (iV a (rS b S)))):=⟨_,rfl⟩
     rw[←t7]
     refine⟨(S++ [i],G2),⟨hv.app e hi,?_,?_,?_,?_,?_,?_⟩,?_,rfl⟩
     ·rw[t7,pO];exact Oq
     ·show _<G2.aA
      rw[t7,bC,n1];exact hg
     ·show aP G2 ma=some (f9 (iV a (rS b (S++ [i]))))
      rw[vK e,M8,t7,aU,hk0]
     ·show aP G2 mb=_
      rw[t7,aX,if_neg (by omega),f1 _ (by omega)];exact g2
     ·show aP G2 g.aA=_
      rw[t7,aX,if_neg (by omega)];exact i1
     ·show∀r∈rS b (S++ [i]),_
      rw[vK e]
      intro r hr
      rcases List.mem_append.1 hr with hr|hr
      ·exact hle r hr
      ·rw[List.mem_singleton.1 hr];show cnt a k'+v'≤_;omega
     ·show b.length-(S++ [i]).length<b.length-S.length
      have:=hv.lt e hi
      simp;omega
   ·refine Zr ?_
    have hp:=hv.perm hc
    refine c82 (hvl S hv) g1 (by omega) ?_
    refine Zr ?_
    have nm:¬O7 a b:=fun⟨r,hr,hx⟩=>by
     have:=hle r (hp.mem_iff.2 hr)
     omega
    rw[if_neg nm]at k
    refine bA ho (eA (aY (cN rZ _) rfl)) ?_
    obtain⟨s1,s2⟩:=jP (rS b S) a na (mP nb hv)
    rw[CK s1 (b:=JX a b) (tJ (jP b a na nb).1) fun m=>by
     rw[CM pa pb,s2,JV (mP nb hv) hp]
     have:=eU pa.S m
     have:=eU pb.S m
     omega]
    exact k
  ·exact Oq
  ·show aP (nw g _) ma=_
   rw[bF,if_neg (by omega)];exact m1
  ·show aP (nw g _) mb=_
   rw[bF,if_neg (by omega)];exact m2
  ·intro r hr;cases hr
 ·rw[if_pos np]at k
  refine Zr ?_
  exact zz _ 1 o1 k
end
section
attribute [local irreducible] cl
theorem aF1{ma mb:Nat}{a b:dF}(m1:aP h ma=some (f9 a))(m2:aP h mb=some (f9 b))(l1:ma<h.aA)(l2:mb<h.aA)(k1:EP a b→K (.bool true) h)(k2:¬EP a b→K (.bool false) h):
  C 296 [.map ma,.map mb] h K:=by
 refine bG (aMl ?_)
 rw[oZ m1]
 refine Zr ?_
 refine cD (σ:=List Nat×aL) (fun p=> [.ptr h.aA 0,.map mb,.bool false]) (fun p=>p.2)
  (fun p=>iI a p.1∧bW h.aA h p.2∧h.aA<p.2.aA∧aP p.2 h.aA=some (.miter (some ma) a.length p.1 a.length)∧∀r∈rS a p.1,r.2≤cnt b r.1)
  (fun p=>a.length-p.1.length) ?_ ([],nw h (.miter (some ma) a.length [] a.length)) ⟨iI.nil a,Oq,by refine Zr ?_;omega,by exact Zr trivial,fun r hr=>by cases hr⟩ (A:=WF) (cur:=0)
 rintro⟨S,G⟩ ⟨hv,ho,hg,g3,hle⟩
 simp only at hv ho hg g3 hle
 have g1:aP G ma=some (f9 a):=by rw[ho _ l1];exact m1
 have g2:aP G mb=some (f9 b):=by rw[ho _ l2];exact m2
 refine aDb ?_
 refine CN g3 g1 (fun i k' v' e hi=> ?_) (fun hc=> ?_)
 ·refine Zr ?_
  rw[vJ (aU _ _ _) (by rw[aX,if_neg (by omega)];exact g1) e]
  obtain⟨G1,pO⟩:∃G1,G1=bI G h.aA (.miter (some ma) a.length (S++ [i]) a.length):=⟨_,rfl⟩
  rw[←pO]
  have hin:(k',v')∈a:=aG e
  refine Zr ?_
  rw[xH (l:=b) (by rw[pO,aX,if_neg (by omega)];exact g2)]
  refine Zr ?_
  have ho1:bW h.aA h G1:=by rw[pO];exact Oq
  refine⟨fun q=> ?_,fun q=> ?_⟩
  ·exact bA ho1 rfl (k2 (fun p=>absurd (p _ hin) (by show¬v'≤cnt b k';omega)))
  ·refine⟨(S++ [i],G1),⟨hv.app e hi,ho1,?_,?_,?_⟩,?_,rfl⟩
   ·show _<G1.aA
    rw[pO,bC];exact hg
   ·show aP G1 _=_
    rw[pO,aU]
   ·show∀r∈rS a (S++ [i]),_
    rw[vK e]
    intro r hr
    rcases List.mem_append.1 hr with hr|hr
    ·exact hle r hr
    ·rw[List.mem_singleton.1 hr];show v'≤cnt b k';omega
   ·show a.length-(S++ [i]).length<a.length-S.length
    have:=hv.lt e hi
    simp;omega
 ·refine Zr ?_
  exact bA ho rfl (k1 fun r hr=>hle r ((hv.perm hc).mem_iff.2 hr))
def zO(a b:dF):Prop:=eF a∧eF b∧EP a b
theorem aLJ{a b:dF}(ha:a.length<2^21)(hb:b.length<2^21)(k1:zO a b→K (.bool true) h)(k2:¬zO a b→K (.bool false) h):C 370 [gF a,gF b] h K:=by
 refine bG (aMm ?_)
 refine c81 ha hb (fun pa pb g ma mb o1 l1 l2 l3 m1 m2=> ?_) (fun np g x y o1=> ?_)
 ·refine Zr ?_
  refine aF1 m1 m2 (by omega) l3 (fun q=> ?_) (fun q=> ?_)
  ·refine Zr ?_
   exact bA o1 rfl (k1 ⟨pa,pb,q⟩)
  ·refine Zr ?_
   exact bA o1 rfl (k2 (fun p=>q p.2.2))
 ·refine Zr ?_
  exact bA o1 rfl (k2 (fun p=>np ⟨p.1,p.2.1⟩))
theorem aF2{a b:dF}(ha:a.length<2^21)(hb:b.length<2^21)(k:K (.tuple [gF (mD a b).2,iv (mD a b).1]) h):C 188 [gF a,gF b] h K:=by
 refine bG (aMk ?_)
 unfold mD at k
 have zz:∀g e,bW h.aA h g→K (.tuple [gF [],iv e]) h→cl h K (.tuple [.aB,iv e]) g:=fun g e o q=>by
  unfold cl
  exact⟨o,_,.tuple (.cons .aB (.cons (.same rfl) .nil)),q⟩
 refine c81 ha hb (fun pa pb g ma mb o1 l1 l2 l3 m1 m2=> ?_) (fun np g x y o1=> ?_)
 ·rw[if_neg (fun n=>n ⟨pa,pb⟩)]at k
  refine Zr ?_
  refine aF1 m2 m1 l3 (by omega) (fun hfew=> ?_) (fun hfew=> ?_)
  ·rw[if_neg (fun n=>n hfew)]at k
   refine Zr ?_
   rw[oZ m2]
   refine Zr ?_
   have nb:=lR.nodup pb.1
   have na:=lR.nodup pa.1
   have hvl:∀S,iI b S→(iW a (rS b S)).length<2^22:=fun S q=>by
    have h1:=CG (rS b S) a
    have h2:(rS b S).length≤S.length:=List.length_filterMap_le ..
    have h3:=q.len
    omega
   refine cD (σ:=List Nat×aL) (fun p=> [.ptr g.aA 0,.map ma]) (fun p=>p.2)
    (fun p=>iI b p.1∧bW h.aA h p.2∧g.aA<p.2.aA∧aP p.2 ma=some (f9 (iW a (rS b p.1)))∧aP p.2 mb=some (f9 b)∧aP p.2 g.aA=some (.miter (some mb) b.length p.1 b.length))
    (fun p=>b.length-p.1.length) ?_ ([],nw g (.miter (some mb) b.length [] b.length)) ⟨iI.nil b,Oq,by refine Zr ?_;omega,?_,?_,by exact Zr trivial⟩ (A:=WD) (cur:=1)
   ·rintro⟨S,G⟩ ⟨hv,ho,hg,g1,g2,g3⟩
    simp only at hv ho hg g1 g2 g3
    refine aDa ?_
    refine CN g3 g2 (fun i k' v' e hi=> ?_) (fun hc=> ?_)
    ·refine Zr ?_
     rw[vJ (aU _ _ _) (by rw[aX,if_neg (by omega)];exact g2) e]
     obtain⟨G1,pO⟩:∃G1,G1=bI G g.aA (.miter (some mb) b.length (S++ [i]) b.length):=⟨_,rfl⟩
     rw[←pO]
     have n1:G1.aA=G.aA:=by rw[pO,bC]
     have f1:∀b,b≠g.aA→aP G1 b=aP G b:=fun b hb=>by rw[pO,aX,if_neg hb]
     have i1:aP G1 g.aA=some (.miter (some mb) b.length (S++ [i]) b.length):=by rw[pO,aU]
     have m1':aP G1 ma=some (f9 (iW a (rS b S))):=by rw[f1 _ (by omega)];exact g1
     have hin:(k',v')∈b:=aG e
     have bv:=pb.2 _ hin
     simp only at bv
     have hk0:cnt (iW a (rS b S)) k'=cnt a k':=by
      rw[(jQ (rS b S) a na (mP nb hv)).2,pW (GT nb e hi)];omega
     have c1:=pa.cnt_le k'
     have c2:=eU pa.S k'
     refine Zr ?_
     rw[xH m1']
     refine Zr ?_
     rw[hk0]
     refine pC (by omega) (by omega) ?_
     rw[JU m1']
     refine Zr ?_
     obtain⟨G2,t7⟩:∃G2,G2=bI G1 ma (f9 (fI k' (cnt a k'-v') (iW a (rS b S)))):=⟨_,rfl⟩
     rw[←t7]
     refine⟨(S++ [i],G2),⟨hv.app e hi,?_,?_,?_,?_,?_⟩,?_,rfl⟩
     ·rw[t7,pO];exact Oq
     ·show _<G2.aA
      rw[t7,bC,n1];exact hg
     ·show aP G2 ma=some (f9 (iW a (rS b (S++ [i]))))
      rw[vK e,M9,t7,aU,hk0]
     ·show aP G2 mb=_
      rw[t7,aX,if_neg (by omega),f1 _ (by omega)];exact g2
     ·show aP G2 g.aA=_
      rw[t7,aX,if_neg (by omega)];exact i1
     ·show b.length-(S++ [i]).length<b.length-S.length
      have:=hv.lt e hi
      simp;omega
    ·refine Zr ?_
     have hp:=hv.perm hc
     refine c82 (hvl S hv) g1 (by omega) ?_
     refine Zr ?_
     refine bA ho (eA (aY (cN rZ _) rfl)) ?_
     obtain⟨s1,s2⟩:=jQ (rS b S) a na (mP nb hv)
     rw[CK s1 (b:=CL a b) (tJ (jQ b a na nb).1) fun m=>by
      rw[xJ pa pb hfew,s2,JV (mP nb hv) hp]
      have:=NA pa hfew m
      omega]
     exact k
   ·show aP (nw g _) ma=_
    rw[bF,if_neg (by omega)];exact m1
   ·show aP (nw g _) mb=_
    rw[bF,if_neg (by omega)];exact m2
  ·rw[if_pos hfew]at k
   refine Zr ?_
   exact zz _ 10 o1 k
 ·rw[if_pos np]at k
  refine Zr ?_
  exact zz _ 1 o1 k
theorem ZI{b:Nat}(hb:aP h b=some (.miter none 0 [] 0))(k:K (.tuple [.bool false]) h):UE false (.ptr b 0) h K:=by
 unfold UE NX
 refine W.act (v:=N6) (h':=h) rfl ?_ k
 show FV h b (aP h b)=_
 rw[hb]
 rfl
theorem c36{b:dF}(hb:b.length<2^21)(k:∀n,K (iv n) h):C 36 [gF b] h K:=by
 refine bG (e36 ?_)
 refine c80 hb (fun pb g mb o1 l1 l2 m1=> ?_) (fun pb=> ?_)
 ·refine Zr ?_
  rw[oZ m1]
  refine Zr ?_
  refine cD (σ:=List Nat×aL×Int) (fun p=> [.ptr g.aA 0,iv p.2.2]) (fun p=>p.2.1)
   (fun p=>iI b p.1∧bW h.aA h p.2.1∧g.aA<p.2.1.aA∧aP p.2.1 mb=some (f9 b)∧aP p.2.1 g.aA=some (.miter (some mb) b.length p.1 b.length))
   (fun p=>b.length-p.1.length) ?_ ([],nw g (.miter (some mb) b.length [] b.length),0) ⟨iI.nil b,Oq,by refine Zr ?_;omega,by show aP (nw g _) mb=_;rw[bF,if_neg (by omega)];exact m1,by exact Zr trivial⟩ (A:=aAC) (cur:=0)
  rintro⟨S,G,n⟩ ⟨hv,ho,hg,g2,g3⟩
  simp only at hv ho hg g2 g3
  refine aBo ?_
  refine CN g3 g2 (fun i k' v' e hi=> ?_) (fun hc=> ?_)
  ·refine Zr ?_
   rw[vJ (aU _ _ _) (by rw[aX,if_neg (by omega)];exact g2) e]
   obtain⟨G1,pO⟩:∃G1,G1=bI G g.aA (.miter (some mb) b.length (S++ [i]) b.length):=⟨_,rfl⟩
   rw[←pO]
   simp only[go_sem,reduceAdd,reduceMul,reduceSub,aa,reduceEqDiff,reduceLT,g9]
   refine⟨(S++ [i],G1,wrap64 (n+v')),⟨hv.app e hi,by rw[pO];exact Oq,?_,?_,?_⟩,?_,rfl,rfl⟩
   ·show _<G1.aA
    rw[pO,bC];exact hg
   ·show aP G1 mb=_
    rw[pO,aX,if_neg (by omega)];exact g2
   ·show aP G1 _=_
    rw[pO,aU]
   ·show b.length-(S++ [i]).length<b.length-S.length
    have:=hv.lt e hi
    simp;omega
  ·refine Zr ?_
   exact bA ho rfl (k n)
 ·refine Zr ?_
  show RP (eY h (.miter none 0 [] 0) EY) _
  rw[fJ]
  show RP (.ok (.ptr h.aA 0) _) _
  refine Zr ?_
  refine cD (σ:=Unit) (fun p=> [.ptr h.aA 0,iv 0]) (fun p=>nw h (.miter none 0 [] 0)) (fun p=>True) (fun p=>0) ?_ () trivial (A:=aAC) (cur:=0)
  intro _ _
  refine aBo ?_
  refine ZI (bQ _ _) ?_
  refine Zr ?_
  exact fP (k 0)
end
section
attribute [local irreducible] cl
variable{α:Type}
def rO(n:Nat)(f:α→List AV)(h:aL)(v:AV)(l:List α):Prop:=
 v=sl f l∨(v= .aB∧l= [])∨∃b off cap kind cs,v= .slice b off l.length cap kind∧aP h b=some (.cells cs)∧(cs.drop off).take (l.length*n)=l.flatMap f∧b<h.aA
inductive kT(n0 n:Nat)(f:α→List AV)(h:aL):AV→List α→Prop
 |aB:kT n0 n f h .aB []
 |row {b:Nat} {l:List α} (cap kind:Nat):n0≤b→b<h.aA→aP h b=some (.cells (l.flatMap f))→kT n0 n f h (.slice b 0 l.length cap kind) l
theorem dG.slB{n0 n:Nat}{f:α→List AV}{v:AV}{l:List α}(q:dG n0 n f h v l):kT n0 n f h v l:=by
 cases q with
 |aB=>exact .aB
 |row h1 h2 h3=>exact .row _ _ h1 h2 h3
theorem kT.fz{n0 m n:Nat}{f:α→List AV}{v:AV}{l:List α}(q:kT n0 n f h v l)(hm:m≤n0)(hf:∀x,(f x).length=n)(hi:∀x∈l,bP (f x)=true):Fz h.t m v (sl f l):=by
 cases q with
 |aB=>exact .aB
 |row c k h1 h2 h3=>
  have fzl:∀(a:List AV),bP a=true→oD h.t m a a:=by
   intro a;induction a with
   |nil=>intro _;exact .nil
   |cons x a ih=>intro ha;simp only[bP,aI]at ha;exact .cons (.same ha.1) (ih ha.2)
  have all:∀(l:List α),(∀x∈l,bP (f x)=true)→bP (l.flatMap f)=true:=by
   intro l;induction l with
   |nil=>intro _;rfl
   |cons x l ih=>intro hl;rw[List.flatMap_cons];exact zQ (hl x (by simp)) (ih fun y hy=>hl y (by simp[hy]))
  exact .slice (m:=(l.flatMap f).length) (by omega) h3 (by rw[List.drop_zero,List.take_length];exact fzl _ (all l hi))
theorem kT.seen{n0 n:Nat}{f:α→List AV}{v:AV}{l:List α}(q:kT n0 n f h v l):aQ v=true:=by cases q<;>rfl
theorem kT.len{n0 n:Nat}{f:α→List AV}{v:AV}{l:List α}(q:kT n0 n f h v l)(h':aL):bO .sl [v] h'= .ok (iv l.length) h':=by cases q<;>rfl
theorem rO.fro{n:Nat}{f:α→List AV}{l:List α}:rO n f h (sl f l) l:= .inl rfl
theorem rO.lenOf{n:Nat}{f:α→List AV}{v:AV}{l:List α}(q:rO n f h v l):lenOf v=some l.length:=by
 rcases q with rfl|⟨rfl,rfl⟩|⟨b,off,cap,kind,cs,rfl,_⟩<;>rfl
theorem rO.elems{n:Nat}{f:α→List AV}{v:AV}{l:List α}(q:rO n f h v l)(hf:∀x,(f x).length=n)(o:AO):elems (nw h o) n l.length v=some (l.flatMap f):=by
 rcases q with rfl|⟨rfl,rfl⟩|⟨b,off,cap,kind,cs,rfl,h1,h2,h3⟩
 ·show bZ (l.length*n) (l.flatMap f)=_
  rw[fR (by rw[dA hf,Nat.mul_comm];omega),List.take_of_length_le (by rw[dA hf,Nat.mul_comm];omega)]
 ·rfl
 ·show cellsIn off (Nat.mul l.length n) (aP (nw h o) b)=_
  rw[bF,if_neg (by omega),h1]
  show bZ (l.length*n) (drop off cs)=_
  rw[dX,fR,h2]
  have:=congrArg List.length h2
  rw[dA hf,List.length_take]at this
  rw[Nat.mul_comm]at this
  rw[Nat.mul_comm]
  omega
theorem rO.nil{n:Nat}{f:α→List AV}{v:AV}{l:List α}(q:rO n f h v l){K:AV→Prop}(k1:l= []→K (.bool true))(k2:K (.bool false)):EQ .eql v .aB K:=by
 rcases q with rfl|⟨rfl,rfl⟩|⟨b,off,cap,kind,cs,rfl,h1,h2,h3⟩
 ·cases l with
  |nil=>exact .inr ⟨.inl rfl,⟨_,_,_,rfl⟩,rfl,k1 rfl,k2⟩
  |cons a l=>exact .inl (tK rfl k2)
 ·exact .inl (tK rfl (k1 rfl))
 ·exact .inl (tK rfl k2)
theorem uJ{n:Nat}{f:α→List AV}{v:AV}{l:List α}(q:rO n f h v l)(hl:l.length<16777216)(hf:∀x,(f x).length=n)(hc:∀x∈l,aZ (f x)=true)
  (k:∀g v',bW h.aA h g→h.aA≤g.aA→kT h.aA n f g v' l→K v' g):
  EQ .eql v .aB fun v0=>cB v0 (Ev.aQ .aB=true∧K .aB h) (RL (bK [] []) fun l1=>cA l1 (RP (cY n [.slice h.aA 0 0 0 0,v] (nw h (.cells l1))) fun v2 h3=>Ev.aQ v2=true∧K v2 h3)):=by
 refine q.nil (fun e=> ?_) ?_
 ·subst e
  refine Zr ?_
  exact k h .aB (bW.refl _ _) (aE _) .aB
 ·refine Zr ?_
  have e:cY n [.slice h.aA 0 0 0 0,v] (nw h (.cells []))=DP (nw h (.cells [])) n h.aA 0 0 0 0 l.length (l.flatMap f) (some []):=by
   show lN (nw h (.cells [])) n (.slice h.aA 0 0 0 0) v (lenOf v)=_
   rw[q.lenOf]
   show oM (nw h (.cells [])) n l.length _ (elems (nw h (.cells [])) n l.length v)=_
   rw[q.elems hf]
   show(bif aZ (l.flatMap f)then qJ (nw h (.cells [])) n l.length (l.flatMap f) _ else .bad)=_
   rw[k9 hc]
   show DP _ n h.aA 0 0 0 0 l.length (l.flatMap f) (cellsIn 0 (Nat.mul 0 n) (aP (nw h (.cells [])) h.aA))=_
   rw[bQ]
   show DP _ n h.aA 0 0 0 0 l.length (l.flatMap f) (bZ (0*n) (drop 0 []))=_
   rw[Nat.zero_mul]
   rfl
  rw[e]
  show RP (bif Nat.ble (0+l.length) 0 then yX (.slice h.aA 0 (0+l.length) 0 0) (storeAt (nw h (.cells [])) h.aA (0+Nat.mul 0 n) (l.flatMap f))else kX (nw h (.cells [])) (0+l.length) ([]++l.flatMap f) (sl0 n (0+l.length))) _
  cases l with
  |nil=>
   have e2:yX (.slice h.aA 0 (0+0) 0 0) (storeAt (nw h (.cells [])) h.aA (0+Nat.mul 0 n) (([]:List α).flatMap f))= .ok (.slice h.aA 0 0 0 0) (bI (nw h (.cells [])) h.aA (.cells [])):=by
    show yX _ (kM _ h.aA _ [] (aP (nw h (.cells [])) h.aA))=_
    rw[bQ]
    rw[show Nat.mul 0 n=0 from Nat.zero_mul n]
    rfl
   show RP (yX (.slice h.aA 0 (0+0) 0 0) _) _
   rw[e2]
   refine Zr ?_
   exact k _ _ Oq (by rw[bC,aT];omega) (.row (l:= []) 0 0 (aE _) (by rw[bC,aT];omega) (aU _ _ _))
  |cons a l=>
   rw[show Nat.ble (0+(a::l).length) 0=false from by cases hb:Nat.ble (0+(a::l).length) 0 with|false=>rfl|true=>have:=ble_eq.1 hb;simp at this,Nat.zero_add,List.nil_append]
   show RP (bif Nat.blt (a::l).length 16777216 then eY (nw h (.cells [])) (.cells ((a::l).flatMap f)) (sl0 n (a::l).length)else .bad) _
   rw[show Nat.blt (a::l).length 16777216=true from blt_eq.2 hl]
   rw[cond_true,fJ]
   show RP (.ok (.slice (nw h (.cells [])).aA 0 (a::l).length (a::l).length (n+1)) _) _
   rw[aGk]
   exact⟨rfl,k _ _ Oq (by rw[aT,aT];omega) (.row (l:=a::l) _ _ (by rw[aT];omega) (by rw[aT];exact Nat.lt_succ_self _) (bQ _ _))⟩
theorem JT{n:Nat}{f:α→List AV}{v:AV}{l:List α}(q:rO n f h v l)(hl:l.length<16777216)(hf:∀x,(f x).length=n)(hc:∀x∈l,aZ (f x)=true)(hi:∀x∈l,bP (f x)=true)
  (k:K (sl f l) h):
  EQ .eql v .aB fun v0=>cB v0 (Ev.aQ .aB=true∧cl h K .aB h) (RL (bK [] []) fun l1=>cA l1 (RP (cY n [.slice h.aA 0 0 0 0,v] (nw h (.cells l1))) fun v2 h3=>Ev.aQ v2=true∧cl h K v2 h3)):=
 uJ q hl hf hc fun g v' o _ s=>by unfold cl;exact⟨o,_,s.fz (aE _) hf hi,k⟩
theorem c37{v:AV}{b:dF}(q:rO 2 eR h v b)(hl:b.length<16777216)(k:K (gF b) h):C 37 [v] h K:=by
 refine bG (e37 ?_)
 exact JT q hl uL (fun x _=>M7 x) (fun x _=>rZ x) k
theorem YY{v:AV}{l:List Int}(q:rO 1 fi h v l)(hl:l.length<16777216)(k:K (ints l) h):C 46 [v] h K:=by
 refine bG (e46 ?_)
 exact JT q hl (fun _=>rfl) (fun x _=>rfl) (fun x _=>rfl) k
abbrev fm:dF→List AV:=fun b=> [gF b]
abbrev Mark:=List dF
abbrev dC(m:Mark):AV:=sl fm m
theorem mZ(b:dF):bP (fm b)=true:=aY (cN rZ _) rfl
theorem c87{m:Mark}(hl:m.length<16777216)(k:∀g v',bW h.aA h g→h.aA≤g.aA→kT h.aA 1 fm g v' m→K v' g):C 87 [dC m] h K:=by
 refine e87 ?_
 exact uJ .fro hl (fun _=>rfl) (fun _ _=>rfl) k
end
section
attribute [local irreducible] cl
theorem GQ(e:Expr):bP (eE e)=true:=WQ _ e (Nat.lt_succ_self _)
structure Place where
 name:List Nat
 colour:Int
 first:dF
def oV(x:Place):List AV:= [.str x.name,iv x.colour,gF x.first]
@[go_sem]theorem jW(x:Place):(oV x).length=3:=by cases x;rfl
@[go_sem]theorem ZF(x:Place):aZ (oV x)=true:=by cases x;rfl
@[go_sem]theorem aQI(x:Place):bR (oV x) 0=some (.str x.name):=rfl
@[go_sem]theorem aQJ(x:Place):bR (oV x) 1=some (iv x.colour):=rfl
@[go_sem]theorem aQK(x:Place):bR (oV x) 2=some (gF x.first):=rfl
@[go_sem]theorem aQL(x:Place):bZ 3 (oV x)=some (oV x):=by cases x;rfl
theorem O5(x:Place):bP (oV x)=true:=aY (rfl) (aY (rfl) (aY (cN rZ _) (rfl)))
structure EM where
 name:List Nat
 colour:Int
def gN(x:EM):List AV:= [.str x.name,iv x.colour]
@[go_sem]theorem jX(x:EM):(gN x).length=2:=by cases x;rfl
@[go_sem]theorem T3(x:EM):aZ (gN x)=true:=by cases x;rfl
@[go_sem]theorem aLz(x:EM):bR (gN x) 0=some (.str x.name):=rfl
@[go_sem]theorem aLA(x:EM):bR (gN x) 1=some (iv x.colour):=rfl
@[go_sem]theorem aLB(x:EM):bZ 2 (gN x)=some (gN x):=by cases x;rfl
theorem JS(x:EM):bP (gN x)=true:=aY (rfl) (aY (rfl) (rfl))
structure yN where
 place:Int
 expr:Expr
def iM(x:yN):List AV:= [iv x.place,iv x.expr.kind,iv x.expr.num,sl eE x.expr.kids]
@[go_sem]theorem oW(x:yN):(iM x).length=4:=by cases x;rfl
@[go_sem]theorem T4(x:yN):aZ (iM x)=true:=by cases x;rfl
@[go_sem]theorem aLC(x:yN):bR (iM x) 0=some (iv x.place):=rfl
@[go_sem]theorem aLD(x:yN):bR (iM x) 1=some (iv x.expr.kind):=rfl
@[go_sem]theorem aLE(x:yN):bR (iM x) 2=some (iv x.expr.num):=rfl
@[go_sem]theorem aLF(x:yN):bR (iM x) 3=some (sl eE x.expr.kids):=rfl
@[go_sem]theorem aJl(x:yN):bZ 3 (drop 1 (iM x))=some (eE x.expr):=by rw[sV x.expr];rfl
@[go_sem]theorem aLG(x:yN):bZ 4 (iM x)=some (iM x):=by cases x;rfl
theorem vH(x:yN):bP (iM x)=true:=aY (rfl) (aY (rfl) (aY (rfl) (aY (cN GQ _) (rfl))))
structure Task where
 name:List Nat
 vars:List EM
 guard:Expr
 jn:Int
 split:Int
 ins:List yN
 outs:List yN
 cancel:List Int
 after:Int
 m0:Int
 m1:Int
 m2:Int
def eT(x:Task):List AV:= [.str x.name,sl gN x.vars,iv x.guard.kind,iv x.guard.num,sl eE x.guard.kids,iv x.jn,iv x.split,sl iM x.ins,sl iM x.outs,sl fi x.cancel,iv x.after,iv x.m0,iv x.m1,iv x.m2]
@[go_sem]theorem eS(x:Task):(eT x).length=14:=by cases x;rfl
@[go_sem]theorem aCb(x:Task):aZ (eT x)=true:=by cases x;rfl
@[go_sem]theorem aSK(x:Task):bR (eT x) 0=some (.str x.name):=rfl
@[go_sem]theorem aSL(x:Task):bR (eT x) 1=some (sl gN x.vars):=rfl
@[go_sem]theorem aSM(x:Task):bR (eT x) 2=some (iv x.guard.kind):=rfl
@[go_sem]theorem aSN(x:Task):bR (eT x) 3=some (iv x.guard.num):=rfl
@[go_sem]theorem aSO(x:Task):bR (eT x) 4=some (sl eE x.guard.kids):=rfl
@[go_sem]theorem aSP(x:Task):bR (eT x) 5=some (iv x.jn):=rfl
@[go_sem]theorem aSQ(x:Task):bR (eT x) 6=some (iv x.split):=rfl
@[go_sem]theorem aSR(x:Task):bR (eT x) 7=some (sl iM x.ins):=rfl
@[go_sem]theorem aSS(x:Task):bR (eT x) 8=some (sl iM x.outs):=rfl
@[go_sem]theorem aST(x:Task):bR (eT x) 9=some (sl fi x.cancel):=rfl
@[go_sem]theorem aQM(x:Task):bR (eT x) 10=some (iv x.after):=rfl
@[go_sem]theorem aQN(x:Task):bR (eT x) 11=some (iv x.m0):=rfl
@[go_sem]theorem aQO(x:Task):bR (eT x) 12=some (iv x.m1):=rfl
@[go_sem]theorem aQP(x:Task):bR (eT x) 13=some (iv x.m2):=rfl
@[go_sem]theorem aQQ(x:Task):bZ 3 (drop 2 (eT x))=some (eE x.guard):=by rw[sV x.guard];rfl
@[go_sem]theorem aSU(x:Task):bZ 14 (eT x)=some (eT x):=by cases x;rfl
theorem T5(x:Task):bP (eT x)=true:=aY (rfl) (aY (cN JS _) (aY (rfl) (aY (rfl) (aY (cN GQ _) (aY (rfl) (aY (rfl) (aY (cN vH _) (aY (cN vH _) (aY (cN (fun _=>rfl) _) (aY (rfl) (aY (rfl) (aY (rfl) (aY (rfl) (rfl))))))))))))))
structure dL where
 colours:List cC
 places:List Place
 tasks:List Task
 frm:Int
 to:Int
def eN(x:dL):List AV:= [sl eC x.colours,sl oV x.places,sl eT x.tasks,iv x.frm,iv x.to]
@[go_sem]theorem aLH(x:dL):(eN x).length=5:=by cases x;rfl
@[go_sem]theorem aCc(x:dL):aZ (eN x)=true:=by cases x;rfl
@[go_sem]theorem aSV(x:dL):bR (eN x) 0=some (sl eC x.colours):=rfl
@[go_sem]theorem aSW(x:dL):bR (eN x) 1=some (sl oV x.places):=rfl
@[go_sem]theorem aSX(x:dL):bR (eN x) 2=some (sl eT x.tasks):=rfl
@[go_sem]theorem aSY(x:dL):bR (eN x) 3=some (iv x.frm):=rfl
@[go_sem]theorem aSZ(x:dL):bR (eN x) 4=some (iv x.to):=rfl
@[go_sem]theorem aS0(x:dL):bZ 5 (eN x)=some (eN x):=by cases x;rfl
structure Mode where
 task:Int
 vars:List Int
 ins:List Int
 outs:List Int
def iU(x:Mode):List AV:= [iv x.task,sl fi x.vars,sl fi x.ins,sl fi x.outs]
@[go_sem]theorem gA(x:Mode):(iU x).length=4:=by cases x;rfl
@[go_sem]theorem tG(x:Mode):aZ (iU x)=true:=by cases x;rfl
@[go_sem]theorem aQR(x:Mode):bR (iU x) 0=some (iv x.task):=rfl
@[go_sem]theorem aQS(x:Mode):bR (iU x) 1=some (sl fi x.vars):=rfl
@[go_sem]theorem aQT(x:Mode):bR (iU x) 2=some (sl fi x.ins):=rfl
@[go_sem]theorem aQU(x:Mode):bR (iU x) 3=some (sl fi x.outs):=rfl
@[go_sem]theorem aQV(x:Mode):bZ 4 (iU x)=some (iU x):=by cases x;rfl
theorem zM(x:Mode):bP (iU x)=true:=aY (rfl) (aY (cN (fun _=>rfl) _) (aY (cN (fun _=>rfl) _) (aY (cN (fun _=>rfl) _) (rfl))))
structure Item where
 id:Int
 mode:Mode
 batch:dS
 til:Int
def eI(x:Item):List AV:= [iv x.id,iv x.mode.task,sl fi x.mode.vars,sl fi x.mode.ins,sl fi x.mode.outs,iv x.batch.most,iv x.batch.enough,iv x.batch.opn,iv x.batch.done,iv x.batch.failed,iv x.til]
@[go_sem]theorem dV(x:Item):(eI x).length=11:=by cases x;rfl
@[go_sem]theorem rW(x:Item):aZ (eI x)=true:=by cases x;rfl
@[go_sem]theorem aS1(x:Item):bR (eI x) 0=some (iv x.id):=rfl
@[go_sem]theorem aS2(x:Item):bR (eI x) 1=some (iv x.mode.task):=rfl
@[go_sem]theorem aS3(x:Item):bR (eI x) 2=some (sl fi x.mode.vars):=rfl
@[go_sem]theorem aS4(x:Item):bR (eI x) 3=some (sl fi x.mode.ins):=rfl
@[go_sem]theorem aS5(x:Item):bR (eI x) 4=some (sl fi x.mode.outs):=rfl
@[go_sem]theorem aS6(x:Item):bR (eI x) 5=some (iv x.batch.most):=rfl
@[go_sem]theorem aS7(x:Item):bR (eI x) 6=some (iv x.batch.enough):=rfl
@[go_sem]theorem aS8(x:Item):bR (eI x) 7=some (iv x.batch.opn):=rfl
@[go_sem]theorem aS9(x:Item):bR (eI x) 8=some (iv x.batch.done):=rfl
@[go_sem]theorem aTa(x:Item):bR (eI x) 9=some (iv x.batch.failed):=rfl
@[go_sem]theorem aQW(x:Item):bR (eI x) 10=some (iv x.til):=rfl
@[go_sem]theorem aF0(x:Item):bZ 4 (drop 1 (eI x))=some (iU x.mode):=rfl
@[go_sem]theorem aQX(x:Item):bZ 5 (drop 5 (eI x))=some (eB x.batch):=rfl
@[go_sem]theorem aTb(x:Item):bZ 11 (eI x)=some (eI x):=by cases x;rfl
theorem uI(x:Item):bP (eI x)=true:=aY (rfl) (aY (rfl) (aY (cN (fun _=>rfl) _) (aY (cN (fun _=>rfl) _) (aY (cN (fun _=>rfl) _) (aY (rfl) (aY (rfl) (aY (rfl) (aY (rfl) (aY (rfl) (aY (rfl) (rfl)))))))))))
structure pU where
 m:Mark
 items:List Item
 aA:Int
 now:Int
def mY(x:pU):List AV:= [sl fm x.m,sl eI x.items,iv x.aA,iv x.now]
@[go_sem]theorem lH(x:pU):(mY x).length=4:=by cases x;rfl
@[go_sem]theorem aJm(x:pU):aZ (mY x)=true:=by cases x;rfl
@[go_sem]theorem aQY(x:pU):bR (mY x) 0=some (sl fm x.m):=rfl
@[go_sem]theorem aQZ(x:pU):bR (mY x) 1=some (sl eI x.items):=rfl
@[go_sem]theorem aQ0(x:pU):bR (mY x) 2=some (iv x.aA):=rfl
@[go_sem]theorem aQ1(x:pU):bR (mY x) 3=some (iv x.now):=rfl
@[go_sem]theorem aQ2(x:pU):bZ 4 (mY x)=some (mY x):=by cases x;rfl
theorem zN(x:pU):bP (mY x)=true:=aY (cN mZ _) (aY (cN uI _) (aY (rfl) (aY (rfl) (rfl))))
structure Call where
 doN:Int
 id:Int
 mode:Mode
 num:Int
def yO(x:Call):List AV:= [iv x.doN,iv x.id,iv x.mode.task,sl fi x.mode.vars,sl fi x.mode.ins,sl fi x.mode.outs,iv x.num]
@[go_sem]theorem tH(x:Call):(yO x).length=7:=by cases x;rfl
@[go_sem]theorem ZG(x:Call):aZ (yO x)=true:=by cases x;rfl
@[go_sem]theorem aQ3(x:Call):bR (yO x) 0=some (iv x.doN):=rfl
@[go_sem]theorem aQ4(x:Call):bR (yO x) 1=some (iv x.id):=rfl
@[go_sem]theorem aQ5(x:Call):bR (yO x) 2=some (iv x.mode.task):=rfl
@[go_sem]theorem aQ6(x:Call):bR (yO x) 3=some (sl fi x.mode.vars):=rfl
@[go_sem]theorem aQ7(x:Call):bR (yO x) 4=some (sl fi x.mode.ins):=rfl
@[go_sem]theorem aQ8(x:Call):bR (yO x) 5=some (sl fi x.mode.outs):=rfl
@[go_sem]theorem aQ9(x:Call):bR (yO x) 6=some (iv x.num):=rfl
@[go_sem]theorem aLI(x:Call):bZ 4 (drop 2 (yO x))=some (iU x.mode):=rfl
@[go_sem]theorem aRa(x:Call):bZ 7 (yO x)=some (yO x):=by cases x;rfl
structure fN where
 err:Int
 id:Int
 closed:List Int
def CF(x:fN):List AV:= [iv x.err,iv x.id,sl fi x.closed]
@[go_sem]theorem mH(x:fN):(CF x).length=3:=by cases x;rfl
@[go_sem]theorem ZH(x:fN):aZ (CF x)=true:=by cases x;rfl
@[go_sem]theorem aRb(x:fN):bR (CF x) 0=some (iv x.err):=rfl
@[go_sem]theorem aRc(x:fN):bR (CF x) 1=some (iv x.id):=rfl
@[go_sem]theorem aRd(x:fN):bR (CF x) 2=some (sl fi x.closed):=rfl
@[go_sem]theorem aRe(x:fN):bZ 3 (CF x)=some (CF x):=by cases x;rfl
theorem GR(x:fN):bP (CF x)=true:=aY (rfl) (aY (rfl) (aY (cN (fun _=>rfl) _) (rfl)))
@[go_sem]theorem aJn(x:dS):aZ (eB x)=true:=nW x
@[go_sem]theorem aJo(x:cC):aZ (eC x)=true:=yB x
@[go_sem]theorem aJp(x:Expr):aZ (eE x)=true:=iZ x
end
section
attribute [local irreducible] cl
theorem GU.one{b:Nat}{t:Int}(hb:aP h b=some (.cells [iv t])):GU h (.slice b 0 1 1 0) [t]:= .inr (.inr ⟨b,0,1,0,_,rfl,hb,rfl⟩)
def yM(t:Int):dF:=if 0≤t then [(t,1)]else []
theorem c39{v:AV}{t:Int}(hv:GU h v [t])(hb:∀b,gO v b→b<h.aA)(k:K (gF (yM t)) h):C 39 [v] h K:=by
 refine bG (e39 ?_)
 unfold yM at k
 have hv':∀g,bW h.aA h g→GU g v [t]:=fun g o=>by
  rcases hv with e|e|⟨b,off,cap,kind,cs,h1,h2,h3⟩
  ·exact .inl e
  ·exact .inr (.inl e)
  ·exact .inr (.inr ⟨b,off,cap,kind,cs,h1,by rw[o b (hb b (by rw[h1];rfl))];exact h2,h3⟩)
 have sv:aQ v=true:=by rcases hv with rfl|⟨rfl,_⟩|⟨b,off,cap,kind,cs,rfl,_⟩<;>rfl
 rw[hv.len]
 refine Zr ?_
 refine cD (σ:=Nat×aL) (fun p=> [iv p.1,iv ([t]:List Int).length,v,.map h.aA]) (fun p=>p.2)
  (fun p=>p.1≤1∧bW h.aA h p.2∧h.aA<p.2.aA∧aP p.2 h.aA=some (f9 (if p.1=0 then []else if 0≤t then [(t,1)]else []))) (fun p=>1-p.1) ?_ (0,nw h (.map [] 0)) ⟨aH _,Oq,(by refine Zr ?_;omega),(by refine Zr ?_;rfl)⟩ (A:=aC9) (cur:=0)
 rintro⟨i,g⟩ ⟨hi,ho,hg,hm⟩
 simp only at hi ho hg hm
 refine aHr ?_
 refine Zr ?_
 refine⟨fun hl=> ?_,fun hl=> ?_⟩
 ·have:i=0:=by omega
  subst this
  obtain⟨p,p1,p2⟩:=(hv' g ho).ix (i:=0) (x:=t) rfl
  rw[p1]
  refine Zr ?_
  rw[p2]
  refine Zr ?_
  rw[if_pos rfl]at hm
  refine⟨fun q=> ?_,fun q=> ?_⟩
  ·rw[xH hm]
   refine Zr ?_
   refine bT (a:=cnt [] t) (b:=1) (by rw[pV];omega) (by rw[pV];omega) ?_
   refine Zr ?_
   rw[JU hm]
   refine Zr ?_
   refine bT (by omega) (by omega) ⟨⟨rfl,sv⟩,(1,bI g h.aA (f9 [(t,1)])),⟨by show 1≤1;omega,by show bW _ _ _;exact Oq,by show _<(bI _ _ _).aA;rw[bC];exact hg,?_⟩,by show 1-1<1-0;omega,rfl,?_⟩
   ·show aP (bI _ _ _) _=_
    rw[aU,if_neg (by omega),if_pos q]
   ·rfl
  ·refine bT (by omega) (by omega) ⟨⟨rfl,sv⟩,(1,g),⟨by show 1≤1;omega,ho,hg,?_⟩,by show 1-1<1-0;omega,rfl,rfl⟩
   show aP g _=_
   rw[if_neg (by omega),if_neg q];exact hm
 ·have:(([t]:List Int).length:Int)=1:=rfl
  have:i=1:=by omega
  subst this
  rw[if_neg (by omega)]at hm
  refine⟨sv,?_⟩
  refine c82 (l:=if 0≤t then [(t,1)]else []) (by split<;>simp) hm hg ?_
  have:oY (if 0≤t then [(t,1)]else [])=if 0≤t then [(t,1)]else []:=by
   split
   ·exact RK t
   ·simp[oY,gT,oX]
  rw[this]
  exact⟨rfl,bA ho (cN rZ _) k⟩
def jG(m:Mark):Prop:=m.length<2^21∧∀b∈m,b.length<2^21
theorem c18{m:Mark}(hm:jG m)(k:∀n,K (iv n) h):C 18 [dC m] h K:=by
 refine e18 ?_
 have:=hm.1
 refine Zr ?_
 refine cD (σ:=Nat×Int) (fun p=> [iv p.1,iv m.length,dC m,iv p.2]) (fun p=>h) (fun p=>p.1≤m.length) (fun p=>m.length-p.1) ?_ (0,0) (aH _) (A:=aDm) (cur:=0)
 rintro⟨i,n⟩ hi
 simp only at hi
 refine aHy ?_
 refine Zr ?_
 refine⟨fun hl=> ?_,fun hl=> ?_⟩
 ·have hl:i<m.length:=by omega
  have e:=aC hl
  rw[bV (f:=fm) (n:=1) (fun _=>rfl) e]
  refine Zr ?_
  refine c36 (hm.2 _ (List.getElem_mem hl)) (fun t=> ?_)
  rw[g9]
  refine bT (by omega) (by omega) ⟨⟨rfl,rfl⟩,(i+1,wrap64 (n+t)),hl,(by omega),rfl,rfl⟩
 ·exact k n
end
section
attribute [local irreducible] cl
def k8(n:dL)(k:Nat)(p:Place):dF:=if(k:Int)=n.frm then(if(i6 p.first (yM 0)).1=0 then(i6 p.first (yM 0)).2 else p.first)else p.first
def jV(n:dL):Nat→List Place→Mark
 |_,[]=> []
 |k,p::l=>k8 n k p::jV n (k+1) l
def lV(n:dL):Mark:=jV n 0 n.places
theorem CE(n:dL)(p:Place):∀(l:List Place) (k:Nat),jV n k (l++ [p])=jV n k l++ [k8 n (k+l.length) p]
 | [],k=>rfl
 |q::l,k=>by
  show k8 n k q::jV n (k+1) (l++ [p])=_
  rw[CE n p l (k+1)]
  show _=k8 n k q::(jV n (k+1) l++ [k8 n (k+(l.length+1)) p])
  rw[show k+1+l.length=k+(l.length+1) by omega]
theorem uH(n:dL):∀(l:List Place) (k:Nat),(jV n k l).length=l.length
 | [],_=>rfl
 |p::l,k=>by show(jV n (k+1) l).length+1=_;rw[uH n l];rfl
def T2(l:List Place):Prop:=l.length<2^21∧∀p∈l,p.first.length<2^20
theorem c15{n:dL}(hp:T2 n.places)(k:K (dC (lV n)) h):C 15 [.agg (eN n)] h K:=by
 refine bG (e15 ?_)
 have hpl:=hp.1
 refine Zr ?_
 refine cD (σ:=Nat×aL×AV) (fun p=> [iv p.1,iv n.places.length,sl oV n.places,.ptr h.aA 0,p.2.2]) (fun p=>p.2.1)
  (fun p=>p.1≤n.places.length∧bW h.aA h p.2.1∧h.aA+1≤p.2.1.aA∧aP p.2.1 h.aA=some (.cells (eN n))∧dG (h.aA+1) 1 fm p.2.1 p.2.2 (jV n 0 (n.places.take p.1))) (fun p=>n.places.length-p.1) ?_ (0,nw h (.cells (eN n)),.aB) ⟨aH _,Oq,(by refine Zr ?_;omega),(by exact Zr trivial),.aB⟩ (A:=aDk) (cur:=0)
 rintro⟨i,g,v⟩ ⟨hi,ho,hg,hn,hO⟩
 simp only at hi ho hg hn hO
 refine aHw ?_
 refine Zr ?_
 refine⟨fun hl=> ?_,fun hl=> ?_⟩
 ·have hl:i<n.places.length:=by omega
  have e:=aC hl
  have hin:n.places[i]∈n.places:=List.getElem_mem hl
  have hfl:=hp.2 _ hin
  rw[bV jW e]
  simp only[go_sem,reduceAdd,reduceMul,reduceSub,aa,reduceEqDiff,reduceLT,bU]
  obtain⟨G,hG⟩:∃G,G=bI (nw g (.cells [.str [],iv 0,.aB])) g.aA (.cells (oV n.places[i])):=⟨_,rfl⟩
  rw[←hG]
  have nG:G.aA=g.aA+1:=by rw[hG,fK]
  have oG:∀b,b<g.aA→aP G b=aP g b:=fun b hb=>by rw[hG,g8 _ _ _ hb]
  clear hG
  refine c37 .fro (by omega) ?_
  have hft:jV n 0 (n.places.take (i+1))=jV n 0 (n.places.take i)++ [k8 n i n.places[i]]:=by
   rw[dB e,CE,List.length_take,Nat.zero_add,Nat.min_eq_left (by omega)]
  have hlen:(jV n 0 (n.places.take i)).length=i:=by rw[uH,List.length_take,Nat.min_eq_left (by omega)]
  have fin:∀(g2:aL) (b:dF),(∀c,c<g.aA→aP g2 c=aP g c)→g.aA≤g2.aA→k8 n i n.places[i]=b→
    RP (cY 1 [v,.slice g2.aA 0 1 1 0] (nw g2 (.cells [gF b]))) fun v32 h33=>RO (aO .add .no (iv i) (iv 1)) fun v34=>
     (aQ v34=true∧aQ v32=true)∧∃s':Nat×aL×AV,(s'.1≤n.places.length∧bW h.aA h s'.2.1∧h.aA+1≤s'.2.1.aA∧aP s'.2.1 h.aA=some (.cells (eN n))∧dG (h.aA+1) 1 fm s'.2.1 s'.2.2 (jV n 0 (n.places.take s'.1)))∧
      n.places.length-s'.1<n.places.length-i∧[v34,iv n.places.length,sl oV n.places,.ptr h.aA 0,v32]= [iv s'.1,iv n.places.length,sl oV n.places,.ptr h.aA 0,s'.2.2]∧h33=s'.2.1:=by
   intro g2 b o2 n2 hb
   have hO2:=hO.mono (h':=nw g2 (.cells [gF b])) (by rw[aT];omega) (fun c hc=>by
    have:=hO.own hc
    rw[bF,if_neg (by omega),o2 c (by omega)])
   obtain⟨v2,g5,a1,a2,a3,a4,a5,a6⟩:=hO2.app (xs:= [b]) (x:= .slice g2.aA 0 1 1 0) (fun _=>rfl) (by rw[aT];omega) (fun y _=>rfl) (by simp) rfl (iE (l:= [gF b]) (bQ _ _) rfl) (by simp;omega)
   rw[a1]
   refine Zr ?_
   have o5:∀c,c<h.aA+1→aP g5 c=aP g c:=fun c hc=>by rw[a4 c (by rw[aT];omega) (hO2.old hc),bF,if_neg (by omega),o2 c (by omega)]
   refine bT (by omega) (by omega) ⟨⟨rfl,a2.seen⟩,(i+1,g5,v2),⟨hl,fun c hc=> ?_,?_,?_,?_⟩,(by omega),rfl,rfl⟩
   ·show aP g5 c=_
    rw[o5 c (by omega)];exact ho c hc
   ·show _≤g5.aA
    rw[a3,aT];omega
   ·show aP g5 _=_
    rw[o5 _ (by omega)];exact hn
   ·show dG _ _ _ g5 v2 _
    rw[hft,hb];exact a2
  rw[oG _ (by omega),hn]
  refine Zr ?_
  refine⟨fun q=> ?_,fun q=> ?_⟩
  ·refine c39 (GU.one (bQ _ _)) (fun b hb=>by rw[show b=G.aA from hb,aT];omega) ?_
   refine c38 (by omega) (by unfold yM;simp) ?_
   refine Zr ?_
   have hfb:k8 n i n.places[i]=if(i6 n.places[i].first (yM 0)).1=0 then(i6 n.places[i].first (yM 0)).2 else n.places[i].first:=by unfold k8;rw[if_pos q]
   refine⟨fun q2=> ?_,fun q2=> ?_⟩
   ·have:=fin (nw G (.cells [iv 0])) _ (fun c hc=>by rw[bF,if_neg (by omega)];exact oG c hc) (by rw[aT];omega) (hfb.trans (if_pos q2))
    simp only[go_sem,reduceAdd,reduceMul,reduceSub,aa,reduceEqDiff,reduceLT]at this
    exact this
   ·have:=fin (nw G (.cells [iv 0])) _ (fun c hc=>by rw[bF,if_neg (by omega)];exact oG c hc) (by rw[aT];omega) (hfb.trans (if_neg q2))
    simp only[go_sem,reduceAdd,reduceMul,reduceSub,aa,reduceEqDiff,reduceLT]at this
    exact this
  ·have:=fin G _ oG (by omega) (show k8 n i n.places[i]=n.places[i].first from by unfold k8;rw[if_neg q])
   exact this
 ·have:i=n.places.length:=by omega
  subst this
  rw[List.take_length]at hO
  unfold cl
  exact⟨hO.seen,hO.seen,ho,_,hO.fz' (by omega) (fun _=>rfl) (fun b _=>mZ b),k⟩
end
section
attribute [local irreducible] cl
structure oO(d:Nat)(t:Task):Prop where
 vars:t.vars.length<2^20
 ins:t.ins.length<2^21
 outs:t.outs.length<2^21
 cancel:t.cancel.length<2^21
 guard:kV d t.guard
 insE:∀a∈t.ins,kV d a.expr
 outsE:∀a∈t.outs,kV d a.expr
structure dR(d:Nat)(n:dL):Prop where
 col:nR n.colours
 cols:n.colours.length<2^21
 pl:T2 n.places
 tasks:n.tasks.length<2^21
 task:∀t∈n.tasks,oO d t
def InC(n:dL)(b:dF)(p:Place):Prop:=eF b∧∀r∈b,r.1<fD n.colours p.colour
def eX(n:dL)(m:Mark):Prop:=m.length=n.places.length∧∀(k:Nat) b p,m[k]?=some b→n.places[k]?=some p→InC n b p
theorem T1{n:dL}{b:dF}{p:Place}(hb:eF b):(∀(r:Int×Int),b[b.length-1]?=some r→r.1<fD n.colours p.colour)↔InC n b p:=by
 constructor
 ·intro h
  refine⟨hb,fun r hr=> ?_⟩
  obtain⟨j,hj,rfl⟩:=List.mem_iff_getElem.1 hr
  have hl:b.length-1<b.length:=by omega
  have:=h _ (aC hl)
  by_cases e:j=b.length-1
  ·subst e;exact this
  ·have:=List.pairwise_iff_getElem.1 hb.1 j (b.length-1) hj hl (by omega);omega
 ·intro h r hr
  exact h.2 r (aG hr)
@[go_sem]theorem aJk(k:IntKind)(n:Nat):bB (.int k (Int.ofNat n))=some n:=rfl
@[go_sem]theorem lQ:∀(k i:Nat) (l:List AV),bR (List.drop k l) i=bR l (k+i)
 |0,i,l=>by simp
 |k+1,i,[]=>by cases i<;>rfl
 |k+1,i,a::l=>by
  rw[List.drop_succ_cons,lQ k i l,show k+1+i=(k+i)+1 by omega];rfl
@[go_sem]theorem GP:∀{i:Nat} {l m:List AV},i<l.length→bR (l++m) i=bR l i
 |_,[],_,h=>by simp at h
 |0,a::l,m,_=>rfl
 |i+1,a::l,m,h=>by
  show bR (l++m) i=bR l i
  exact GP (by simpa using h)
@[go_sem]theorem aLx(l:List AV):cR (some 2) 1 (.rptr l) (some 0)=some (.rptr l):=by
 show some (AV.rptr (drop (Nat.mul 0 1) l))=_
 rw[show Nat.mul 0 1=0 from rfl,J4]
@[go_sem]theorem aLy(l:List AV):cR (some 2) 1 (.rptr l) (some 1)=some (.rptr (l.drop 1)):=by
 show some (AV.rptr (drop (Nat.mul 1 1) l))=_
 rw[dX]
@[go_sem]theorem M4(h:aL)(o:Nat)(l:List AV):aJ h (.one o) (.rptr l)=bR l o:=by
 show bR l (0+o)=_
 rw[Nat.zero_add]
theorem c42{d:Nat}{n:dL}{m:Mark}(hn:dR d n)(hm:jG m)(k1:eX n m→K (.bool true) h)(k2:¬eX n m→K (.bool false) h):C 42 [.agg (eN n),dC m] h K:=by
 refine bG (e42 ?_)
 have hml:=hm.1
 have ho:bW h.aA h (nw h (.cells (eN n))):=Oq
 refine Zr ?_
 refine⟨fun q1=> ?_,fun q1=> ?_⟩
 ·have q1:m.length=n.places.length:=by omega
  refine cD (σ:=Nat×aL) (fun p=> [iv p.1,iv m.length,dC m,.ptr h.aA 0,.bool false]) (fun p=>p.2)
   (fun p=>p.1≤m.length∧bW h.aA h p.2∧h.aA<p.2.aA∧aP p.2 h.aA=some (.cells (eN n))∧∀(k:Nat) b p',k<p.1→m[k]?=some b→n.places[k]?=some p'→InC n b p') (fun p=>m.length-p.1) ?_ (0,nw h (.cells (eN n))) ⟨aH _,ho,by refine Zr ?_;omega,by exact Zr trivial,fun k _ _ hk=>absurd hk (Nat.not_lt_zero _)⟩ (A:=aDl) (cur:=0)
  rintro⟨i,g⟩ ⟨hi,ho,hg,hn1,hb⟩
  simp only at hi ho hg hn1 hb
  refine aHx ?_
  refine Zr ?_
  refine⟨fun hl=> ?_,fun hl=> ?_⟩
  ·have hl:i<m.length:=by omega
   have e:=aC hl
   have hlp:i<n.places.length:=by omega
   have ep:=aC hlp
   rw[bV (f:=fm) (n:=1) (fun _=>rfl) e]
   refine Zr ?_
   rw[hn1]
   refine Zr ?_
   rw[bV jW ep]
   refine Zr ?_
   refine c84 hn.col ?_
   have no:¬InC n m[i] n.places[i]→cl h K (.bool false) (up g 10):=fun q=>bA ho.up rfl (k2 (fun p=>q (p.2 i _ _ e ep)))
   have hbl:=hm.2 _ (List.getElem_mem hl)
   refine c85 (by omega) (fun pb=> ?_) (fun pb=> ?_)
   ·have il:=T1 (n:=n) (p:=n.places[i]) pb
    have yes:InC n m[i] n.places[i]→RO (aO .add .no (iv i) (iv 1)) fun v82=>aQ v82=true∧∃s':Nat×aL,(s'.1≤m.length∧bW h.aA h s'.2∧h.aA<s'.2.aA∧aP s'.2 h.aA=some (.cells (eN n))∧∀(k:Nat) b p',k<s'.1→m[k]?=some b→n.places[k]?=some p'→InC n b p')∧m.length-s'.1<m.length-i∧[v82,iv m.length,dC m,.ptr h.aA 0,.bool false]= [iv s'.1,iv m.length,dC m,.ptr h.aA 0,.bool false]∧up g 10=s'.2:=fun q=>by
     refine bT (by omega) (by omega) ⟨rfl,(i+1,up g 10),⟨hl,ho.up,by show _<(up g 10).aA;rw[cW];omega,hn1,fun k b p' hk hb' hp'=> ?_⟩,(by omega),rfl,rfl⟩
     by_cases hk':k=i
     ·subst hk';rw[e]at hb';rw[ep]at hp';cases hb';cases hp';exact q
     ·exact hb k b p' (by have:k<i+1:=hk;omega) hb' hp'
    refine Zr ?_
    refine⟨fun q2=> ?_,fun q2=> ?_⟩
    ·refine pC (by omega) (by omega) ?_
     have hl2:m[i].length-1<m[i].length:=by omega
     have e2:=aC hl2
     rw[show((m[i].length:Int)-1)=((m[i].length-1:Nat):Int) by omega]
     refine Zr ?_
     rw[bV uL e2]
     refine Zr ?_
     refine⟨fun q3=>no (fun p=> ?_),fun q3=>yes (il.1 fun r hr=> ?_)⟩
     ·have:=p.2 _ (List.getElem_mem hl2);omega
     ·rw[e2]at hr;cases hr;omega
    ·refine yes (il.1 fun r hr=> ?_)
     have:=(aD.1 hr).1
     omega
   ·refine Zr ?_
    exact no (fun p=>pb p.1)
  ·have:i=m.length:=by omega
   subst this
   exact bA ho rfl (k1 ⟨q1,fun k b p' hb' hp'=>hb k b p' (aD.1 hb').1 hb' hp'⟩)
 ·exact bA ho rfl (k2 (fun p=>q1 (by rw[p.1])))
end
section
attribute [local irreducible] cl
variable{α:Type}
@[go_sem]theorem aQC(a:aL→R AV)(m:Nat)(h:aL)(hs:List aL)(K:AV→Prop):cP a m (h::hs) K=RP (a h) (fun v _=>rdS a v (K v) m hs):=rfl
@[go_sem]theorem aQD(a:aL→R AV)(v:AV)(B:Prop)(hs:List aL):rdS a v B 0 hs=B:=by cases hs<;>rfl
@[go_sem]theorem aQE(a:aL→R AV)(v:AV)(B:Prop)(m:Nat)(h:aL)(hs:List aL):rdS a v B (m+1) (h::hs)=((∃h1,a h= .ok v h1)∧rdS a v B m hs):=rfl
theorem xF:∀(l:List AV) (k:Nat) (vs:List AV),k+vs.length≤l.length→aV l k vs=some (l.take k++vs++l.drop (k+vs.length))
 |l,0,[],_=>by rw[aGg];simp
 | [],0,v::vs,h=>by simp at h
 |a::l,0,v::vs,h=>by
  rw[aGh,xF l 0 vs (by simp at h⊢;omega)]
  simp[uA]
 | [],k+1,vs,h=>by simp at h
 |a::l,k+1,vs,h=>by
  rw[aLT,xF l k vs (by simp at h⊢;omega)]
  simp[uA,show k+1+vs.length=(k+vs.length)+1 by omega]
theorem lP{n:Nat}{f:α→List AV}(hf:∀x,(f x).length=n){l:List α}{i:Nat}(hi:i<l.length)(x:α):aV (l.flatMap f) (i*n) (f x)=some ((l.set i x).flatMap f):=by
 have hm:(i+1)*n≤l.length*n:=Nat.mul_le_mul_right n hi
 rw[Nat.succ_mul]at hm
 rw[xF _ _ _ (by rw[hf,dA hf,Nat.mul_comm n];exact hm),pY hf,hf,←Nat.succ_mul,mK hf,List.set_eq_take_append_cons_drop,if_pos hi]
 simp
theorem TZ{l:List α}{i:Nat}{x:α}(e:l[i]?=some x):l.set i x=l:=by
 obtain⟨hi,rfl⟩:=aD.1 e
 simp
theorem oC{n:Nat}{f:α→List AV}(hf:∀x,(f x).length=n){l:List α}{i:Nat}{x:α}(e:l[i]?=some x):(l.flatMap f).drop (i*n)=f x++(l.drop (i+1)).flatMap f:=by
 obtain⟨hi,rfl⟩:=aD.1 e
 rw[mK hf,List.drop_eq_getElem_cons hi,List.flatMap_cons]
theorem kT.ix{n0 n:Nat}{f:α→List AV}{v:AV}{l:List α}(q:kT n0 n f h v l){i:Nat}(hi:i<l.length):∃b,n0≤b∧b<h.aA∧cR none n v (some i)=some (.ptr b (i*n))∧aP h b=some (.cells (l.flatMap f))∧gO v b:=by
 cases q with
 |aB=>simp at hi
 | @row b _ c k h1 h2 h3=>
  refine⟨b,h1,h2,?_,h3,rfl⟩
  show DS i l.length (.ptr b (0+Nat.mul i n))=_
  unfold DS
  rw[show Nat.blt i l.length=true from blt_eq.2 hi,Nat.zero_add];rfl
theorem kT.own{n0 n:Nat}{f:α→List AV}{v:AV}{l:List α}(q:kT n0 n f h v l){b:Nat}(hb:gO v b):n0≤b∧b<h.aA:=by
 cases q with
 |aB=>exact hb.elim
 |row c k h1 h2 h3=>rw[show b=_ from hb];exact⟨h1,h2⟩
theorem kT.mono{n0 n:Nat}{f:α→List AV}{h h':aL}{v:AV}{l:List α}(q:kT n0 n f h v l)(hn:h.aA≤h'.aA)(hb:∀b,gO v b→aP h' b=aP h b):kT n0 n f h' v l:=by
 cases q with
 |aB=>exact .aB
 |row c k h1 h2 h3=>exact .row c k h1 (by omega) (by rw[hb _ rfl];exact h3)
theorem kT.put{n0 n:Nat}{f:α→List AV}{v:AV}{l:List α}(q:kT n0 n f h v l){b:Nat}(hb:gO v b)(l':List α)(hl:l'.length=l.length):kT n0 n f (bI h b (.cells (l'.flatMap f))) v l':=by
 cases q with
 |aB=>exact hb.elim
 |row c k h1 h2 h3=>
  cases(show b=_ from hb)
  rw[←hl]
  exact .row c k h1 (by rw[bC];exact h2) (aU _ _ _)
theorem kT.cells{n0 n:Nat}{f:α→List AV}{v:AV}{l:List α}(q:kT n0 n f h v l):aK v= [v]:=by cases q<;>rfl
theorem kT.cellA{n0 n:Nat}{f:α→List AV}{v:AV}{l:List α}(q:kT n0 n f h v l):cellA v=true:=by cases q<;>rfl
theorem aFZ{m:Mark}(hm:jG m)(k:∀g v',bW h.aA h g→h.aA≤g.aA→kT h.aA 1 fm g v' m→K v' g):C 44 [dC m] h K:=by
 refine e44 ?_
 have hml:=hm.1
 refine c87 (by omega) (fun g v o n s=> ?_)
 rw[s.len]
 refine Zr ?_
 refine cD (σ:=Nat×aL) (fun p=> [iv p.1,iv m.length,v,v]) (fun p=>p.2)
  (fun p=>p.1≤m.length∧bW h.aA h p.2∧h.aA≤p.2.aA∧kT h.aA 1 fm p.2 v m) (fun p=>m.length-p.1) ?_ (0,g) ⟨aH _,o,n,s⟩ (A:=aDj) (cur:=0)
 rintro⟨i,G⟩ ⟨hi,ho,hg,hs⟩
 simp only at hi ho hg hs
 refine aHv ?_
 refine Zr ?_
 refine⟨fun hl=> ?_,fun hl=> ?_⟩
 ·have hl:i<m.length:=by omega
  have e:=aC hl
  obtain⟨b,b1,b2,b3,b4,b5⟩:=hs.ix hl
  rw[b3]
  refine Zr ?_
  rw[b4]
  have hd:=oC (f:=fm) (n:=1) (fun _=>rfl) e
  have hr:bR (m.flatMap fm) (i*1)=some (gF m[i]):=by
   have:=congrArg (fun l=>bR l 0) hd
   simp only[lQ,Nat.add_zero]at this
   rw[this];rfl
  have hx:=hm.2 _ (List.getElem_mem hl)
  refine Z1 hr ?_
  refine c37 .fro (by omega) ?_
  refine Zr ?_
  rw[b4]
  have hp:=lP (f:=fm) (n:=1) (fun _=>rfl) hl m[i]
  rw[TZ e]at hp
  refine Z1 hp ?_
  refine bT (by omega) (by omega) ⟨⟨rfl,hs.seen,hs.seen⟩,(i+1,bI G b (.cells (m.flatMap fm))),⟨hl,?_,?_,?_⟩,(by omega),rfl,rfl⟩
  ·show bW _ _ (bI _ _ _);exact ho.set b1
  ·show _≤(bI _ _ _).aA;rw[bC];exact hg
  ·exact hs.put b5 m rfl
 ·exact⟨⟨hs.seen,hs.seen⟩,hs.seen,k _ _ ho hg hs⟩
end
section
attribute [local irreducible] cl
variable{α:Type}
theorem c45{m:List Item}(hl:m.length<16777216)(k:∀g v',bW h.aA h g→h.aA≤g.aA→kT h.aA 11 eI g v' m→K v' g):C 45 [sl eI m] h K:=by
 refine e45 ?_
 exact uJ .fro hl dV (fun x _=>rW x) k
structure vG(o:Mode):Prop where
 vars:o.vars.length<2^21
 ins:o.ins.length<2^21
 outs:o.outs.length<2^21
structure M3(c:pU):Prop where
 m:jG c.m
 items:c.items.length<2^21
 mode:∀x∈c.items,vG x.mode
theorem CD{n o:Nat}{l r:List AV}(h:o+n≤l.length):bZ n (drop o (l++r))=bZ n (drop o l):=by
 rw[dX,dX,List.drop_append,fR (by simp;omega),fR (by simp;omega),List.take_append_of_le_length (by simp;omega)]
theorem TY:∀{l:List AV} {k n:Nat} {vs:List AV},bZ (n+1) (drop k l)=some vs→vs.length=n+1→aV l k vs=some l:=by
 intro l k n vs h hn
 rw[dX]at h
 have hle:n+1≤(l.drop k).length:=by
  by_cases hl:n+1≤(l.drop k).length
  ·exact hl
  ·exfalso
   have:∀(n:Nat) (l:List AV),¬n≤l.length→bZ n l=none:=by
    intro n
    induction n with
    |zero=>intro l h;omega
    |succ n ih=>
     intro l h
     cases l with
     |nil=>rfl
     |cons a l=>simp only[bZ,ih l (by simp at h;omega)]
   rw[this _ _ hl]at h;cases h
 rw[fR hle]at h
 have h:(l.drop k).take (n+1)=vs:=by simpa using h
 simp at hle
 rw[xF _ _ _ (by omega),←h]
 congr 1
 rw[List.append_assoc]
 have:(l.drop k).take (n+1)++l.drop (k+((l.drop k).take (n+1)).length)=l.drop k:=by
  rw[List.length_take,Nat.min_eq_left (by simp;omega),←List.drop_drop,List.take_append_drop]
 rw[this,List.take_append_drop]
theorem c19{c:pU}(hc:M3 c)(k:K (.agg (mY c)) h):C 19 [.agg (mY c)] h K:=by
 refine bG (e19 ?_)
 have hil:=hc.items
 refine Zr ?_
 refine aFZ hc.m (fun g v o n s=> ?_)
 have o1:∀b,b<h.aA+2→aP g b=aP (up (nw (nw h (.cells (mY c))) (.cells [.aB,.aB,iv 0,iv 0])) 10) b:=fun b hb=>o b (by rw[cW,aT,aT];omega)
 rw[cW,aT,aT]at n
 have s:=s.mono (aE _) (fun _ _=>rfl)
 have g0:aP g h.aA=some (.cells (mY c)):=by rw[o1 _ (by omega)];exact Zr trivial
 have g1:aP g (h.aA+1)=some (.cells [.aB,.aB,iv 0,iv 0]):=by rw[o1 _ (by omega)];exact Zr trivial
 have og:bW h.aA h g:=fun b hb=>by rw[o1 _ (by omega),cM,bF,if_neg (by rw[aT];omega),bF,if_neg (by omega)]
 refine Z1 g0 ?_
 refine c45 (by omega) (fun g' v' o' n' s'=> ?_)
 have g0':aP g' h.aA=some (.cells (mY c)):=by rw[o' _ (by omega)];exact g0
 have g1':aP g' (h.aA+1)=some (.cells [.aB,.aB,iv 0,iv 0]):=by rw[o' _ (by omega)];exact g1
 simp only[go_sem,reduceAdd,reduceMul,reduceSub,aa,reduceEqDiff,reduceLT,s.cells,s.cellA,g0',g1',s'.cells,s'.cellA,mY]
 obtain⟨G,hG⟩:∃G,G=bI (bI g' h.aA (.cells [v,sl eI c.items,iv c.aA,iv c.now])) h.aA (.cells [v,v',iv c.aA,iv c.now]):=⟨_,rfl⟩
 rw[←hG]
 have ov:∀b,gO v b→h.aA+2≤b∧b<g.aA:=fun b hb=>by have:=s.own hb;rw[cW,aT,aT]at this;omega
 have ov':∀b,gO v' b→g.aA≤b∧b<g'.aA:=fun b hb=>s'.own hb
 have nG:G.aA=g'.aA:=by rw[hG,bC,bC]
 have fG:∀b,b≠h.aA→aP G b=aP g' b:=fun b hb=>by rw[hG,aX,if_neg hb,aX,if_neg hb]
 have hG0:aP G h.aA=some (.cells [v,v',iv c.aA,iv c.now]):=by rw[hG,aU]
 have pO:aP G (h.aA+1)=some (.cells [.aB,.aB,iv 0,iv 0]):=by rw[fG _ (by omega)];exact g1'
 have oG:bW h.aA h G:=fun b hb=>by rw[fG _ (by omega),o' _ (by omega)];exact og b hb
 have sG:=s'.mono (h':=G) (by omega) (fun b hb=>fG b (by have:=ov' b hb;omega))
 have mG:kT (h.aA+12) 1 fm G v c.m:=kT.mono (by rw[cW,aT,aT]at s;exact s) (h':=G) (by omega) (fun b hb=>by have:=ov b hb;rw[fG b (by omega),o' _ (by omega)])
 clear hG
 rw[sG.len]
 refine Zr ?_
 refine cD (σ:=Nat×aL) (fun p=> [iv p.1,iv c.items.length,v',.ptr h.aA 0,.ptr (h.aA+1) 0]) (fun p=>p.2)
  (fun p=>p.1≤c.items.length∧bW h.aA h p.2∧G.aA≤p.2.aA∧aP p.2 h.aA=some (.cells [v,v',iv c.aA,iv c.now])∧aP p.2 (h.aA+1)=some (.cells [.aB,.aB,iv 0,iv 0])∧kT g.aA 11 eI p.2 v' c.items∧kT (h.aA+12) 1 fm p.2 v c.m) (fun p=>c.items.length-p.1) ?_ (0,G) ⟨aH _,oG,aE _,hG0,pO,sG,mG⟩ (A:=aDq) (cur:=0)
 rintro⟨i,g2⟩ ⟨hi,ho,hg,h0,h1,hs,hm⟩
 simp only at hi ho hg h0 h1 hs hm
 refine aHA ?_
 refine Zr ?_
 refine⟨fun hl=> ?_,fun hl=> ?_⟩
 ·have hl:i<c.items.length:=by omega
  have e:=aC hl
  obtain⟨b,b1,b2,b3,b4,b5⟩:=hs.ix hl
  rw[b3]
  have hd:=oC (f:=eI) (n:=11) dV e
  have hr:bZ 11 (drop (i*11) (c.items.flatMap eI))=some (eI c.items[i]):=by
   rw[dX,hd,UA (dV _)]
  have hx:=hc.mode _ (List.getElem_mem hl)
  refine Zr ?_
  rw[b4]
  simp only[go_sem,reduceAdd,reduceMul,reduceSub,aa,reduceEqDiff,reduceLT,hr,bU]
  obtain⟨G3,MO⟩:∃G3,G3=up (bI (nw (bI (nw g2 (.cells [iv 0,iv 0,.aB,.aB,.aB,iv 0,iv 0,iv 0,iv 0,iv 0,iv 0])) g2.aA (.cells (eI c.items[i]))) (.cells [iv 0,.aB,.aB,.aB])) (g2.aA+1) (.cells (iU c.items[i].mode))) 18:=⟨_,rfl⟩
  rw[←MO]
  have n3:G3.aA=g2.aA+20:=by rw[MO];exact Zr trivial
  have f3:∀b,b<g2.aA→aP G3 b=aP g2 b:=fun b hb=>by rw[MO,cM,aX,if_neg (by omega),bF,if_neg (by rw[bC,aT];omega),aX,if_neg (by omega),bF,if_neg (by omega)]
  have e3:aP G3 (g2.aA+1)=some (.cells (iU c.items[i].mode)):=by rw[MO];exact Zr trivial
  clear MO
  refine YY .fro (by have:=hx.vars;omega) ?_
  rw[e3]
  refine Zr ?_
  refine YY .fro (by have:=hx.ins;omega) ?_
  rw[e3]
  refine Zr ?_
  refine YY .fro (by have:=hx.outs;omega) ?_
  rw[f3 _ (by omega),h0]
  refine Zr ?_
  rw[b3]
  simp only[go_sem,reduceAdd,reduceMul,reduceSub,aa,reduceEqDiff,reduceLT,f3 _ b2,b4]
  have hmo:bZ 4 (drop (i*11+1) (c.items.flatMap eI))=some (iU c.items[i].mode):=by
   rw[dX,←List.drop_drop,hd,←dX,CD (by rw[dV];omega)];exact aF0 _
  have hrs:=TY hmo (gA _)
  unfold iU at hrs
  have d1:(h.aA=g2.aA)=False:=eq_false (by omega)
  have d2:(h.aA=g2.aA+1)=False:=eq_false (by omega)
  simp only[go_sem,reduceAdd,reduceMul,reduceSub,aa,reduceEqDiff,reduceLT,hrs,d1,d2,h0,e3]
  rw[f3 _ b2,b4]
  refine Z1 hrs ?_
  refine bT (by omega) (by omega) ⟨⟨rfl,hs.seen⟩,(i+1,bI G3 b (.cells (c.items.flatMap eI))),⟨hl,?_,?_,?_,?_,?_,?_⟩,(by omega),rfl,rfl⟩
  ·show bW _ _ (bI _ _ _)
   exact bW.set (fun b hb=>by rw[f3 _ (by omega)];exact ho b hb) (by omega)
  ·show _≤(bI _ _ _).aA
   rw[bC];omega
  ·show aP (bI _ _ _) _=_
   rw[aX,if_neg (by omega),f3 _ (by omega)];exact h0
  ·show aP (bI _ _ _) _=_
   rw[aX,if_neg (by omega),f3 _ (by omega)];exact h1
  ·exact(hs.mono (h':=G3) (by omega) (fun c hc=>f3 _ (hs.own hc).2)).put b5 _ rfl
  ·refine hm.mono (by rw[bC];omega) (fun c hc=> ?_)
   have:=ov c hc
   rw[aX,if_neg (by omega),f3 _ (by omega)]
 ·refine⟨hs.seen,?_⟩
  rw[h0]
  simp only[go_sem,reduceAdd,reduceMul,reduceSub,aa,reduceEqDiff,reduceLT,h1,hs.cellA,hm.cellA]
  unfold cl
  refine⟨Oq,.agg (mY c),.agg (.cons ?_ (.cons ?_ (.cons (.same rfl) (.cons (.same rfl) .nil)))),k⟩
  ·exact(hm.mono (by rw[bC];exact aE _) (fun b hb=>by have:=ov b hb;rw[aX,if_neg (by omega)])).fz (by omega) (fun _=>rfl) (fun b _=>mZ b)
  ·exact(hs.mono (by rw[bC];exact aE _) (fun b hb=>by have:=hs.own hb;rw[aX,if_neg (by omega)])).fz (by omega) dV (fun x _=>uI x)
end
section
attribute [local irreducible] cl
theorem pT(z:AV):∀n,rP n [z]=(List.replicate n z)
 |0=>rfl
 |n+1=>by show [z]++rP n [z]=_;rw[pT z n];rfl
theorem zL{z:List AV}{n:Nat}(hn:n<16777216):wH h z (some n) (some n)= .ok (.slice h.aA 0 n n 0) (nw h (.cells (rP n z))):=by
 show(bif Nat.ble n n then kX h n (rP n z) (sl1 n n)else .bad)=_
 rw[show Nat.ble n n=true from ble_eq.2 (aE _),cond_true]
 show(bif Nat.blt n 16777216 then eY h (.cells (rP n z)) (sl1 n n)else .bad)=_
 rw[show Nat.blt n 16777216=true from blt_eq.2 hn,cond_true,fJ]
 rfl
def M2(l:List cC)(k m:Int):Option Int:=if 0≤m∧m<fD l k then(l[k.toNat]?).map fun c=>if c.kind=1 then wrap64 (c.lo+m)else m else none
theorem aFY{l:List cC}{k m:Int}(hs:nR l)(k1:∀y,M2 l k m=some y→K (.tuple [iv y,.bool true]) h)(k2:M2 l k m=none→K (.tuple [iv 0,.bool false]) h):C 201 [sl eC l,iv k,iv m] h K:=by
 unfold M2 at k1 k2
 refine aMr hs (fun n c h1 h2 h3=> ?_) (fun h1=>k2 (if_neg h1))
 have:0≤m∧m<fD l k:=by unfold fD;rw[h1];exact h3
 rw[if_pos this,h2]at k1
 exact k1 _ rfl
def CB(n:dL):List EM→List Int→Option (List Int)
 | [],_=>some []
 |_::_,[]=>none
 |v::vs,x::xs=>match M2 n.colours v.colour x with
  |some y=>(CB n vs xs).map (y::·)
  |none=>none
def hY(n:dL)(task:Int)(vars:List Int):Int×List Int:=
 if task<0∨(n.tasks.length:Int)≤task then(3,[])else
 match n.tasks[task.toNat]? with
 |none=>(3,[])
 |some t=>if¬vars.length=t.vars.length then(1,[])else match CB n t.vars vars with
  |some l=>(0,l)
  |none=>(1,[])
theorem GO{α:Type}(acc:List α)(z y:α)(k:Nat):(acc++List.replicate (k+1) z).set acc.length y=acc++ [y]++List.replicate k z:=by
 rw[List.set_append_right _ _ (aE _),Nat.sub_self,List.replicate_succ]
 simp
theorem aB9{d:Nat}{n:dL}{task:Int}{vars:List Int}(hn:dR d n)(hv:vars.length<2^40)(k:K (.tuple [ints (hY n task vars).2,iv (hY n task vars).1]) h):C 105 [.agg (eN n),iv task,ints vars] h K:=by
 refine bG (aNE ?_)
 unfold hY at k
 have htl:=hn.tasks
 have zz:∀g e,bW h.aA h g→K (.tuple [ints [],iv e]) h→cl h K (.tuple [.aB,iv e]) g:=fun g e o q=>by
  unfold cl
  exact⟨o,_,.tuple (.cons .aB (.cons (.same rfl) .nil)),q⟩
 refine Zr ?_
 refine⟨fun q1=> ?_,fun q1=>⟨fun q2=> ?_,fun q2=> ?_⟩⟩
 ·rw[if_pos (.inl q1)]at k
  exact zz _ 3 Oq k
 ·rw[if_pos (.inr q2)]at k
  exact zz _ 3 Oq k
 ·rw[if_neg (by omega)]at k
  have hlt:task.toNat<n.tasks.length:=by omega
  have et:=aC hlt
  rw[et]at k
  obtain⟨t,ht⟩:∃t,t=n.tasks[task.toNat]:=⟨_,rfl⟩
  rw[←ht]at et k
  have hts:=hn.task t (by rw[ht];exact List.getElem_mem hlt)
  have htv:=hts.vars
  simp only at k
  rw[cS (by omega),bV eS et]
  refine Zr ?_
  refine⟨fun q3=> ?_,fun q3=> ?_⟩
  ·have q3:vars.length=t.vars.length:=by omega
   rw[if_neg (fun n=>n q3)]at k
   rw[zL (by omega)]
   refine Zr ?_
   refine cD (σ:=Nat×aL×List Int) (fun p=> [iv p.1,iv t.vars.length,sl gN t.vars,.ptr h.aA 0,ints vars,.slice (h.aA+1) 0 t.vars.length t.vars.length 0,.aB,iv 0]) (fun p=>p.2.1)
    (fun p=>p.1≤t.vars.length∧bW h.aA h p.2.1∧h.aA+2≤p.2.1.aA∧aP p.2.1 h.aA=some (.cells (eN n))∧kT (h.aA+1) 1 fi p.2.1 (.slice (h.aA+1) 0 t.vars.length t.vars.length 0) (p.2.2++List.replicate (t.vars.length-p.1) 0)∧p.2.2.length=p.1∧
     CB n t.vars vars=(CB n (t.vars.drop p.1) (vars.drop p.1)).map (p.2.2++·))
    (fun p=>t.vars.length-p.1) ?_ (0,nw (nw h (.cells (eN n))) (.cells (rP t.vars.length [iv 0])),[]) ⟨aH _,Oq,(by refine Zr ?_;omega),(by exact Zr trivial),?_,rfl,?_⟩ (A:=W8) (cur:=0)
   ·rintro⟨i,g,acc⟩ ⟨hi,ho,hg,g0,hS,hac,hE⟩
    simp only at hi ho hg g0 hS hac hE
    refine aDB ?_
    refine Zr ?_
    refine⟨fun hl=> ?_,fun hl=> ?_⟩
    ·have hl:i<t.vars.length:=by omega
     have e:=aC hl
     have hlx:i<vars.length:=by omega
     have ex:=aC hlx
     rw[bV jX e]
     have d1:(h.aA=g.aA)=False:=eq_false (by omega)
     simp only[go_sem,reduceAdd,reduceMul,reduceSub,aa,reduceEqDiff,reduceLT,bU,g0,d1]
     obtain⟨G,hG⟩:∃G,G=bI (nw g (.cells [.str [],iv 0])) g.aA (.cells (gN t.vars[i])):=⟨_,rfl⟩
     rw[←hG]
     have nG:G.aA=g.aA+1:=by rw[hG,fK]
     have oG:∀b,b<g.aA→aP G b=aP g b:=fun b hb=>by rw[hG,g8 _ _ _ hb]
     rw[bV (f:=fi) (n:=1) (fun _=>rfl) ex]
     refine Zr ?_
     have st:CB n (t.vars.drop i) (vars.drop i)=match M2 n.colours t.vars[i].colour vars[i]with
       |some y=>(CB n (t.vars.drop (i+1)) (vars.drop (i+1))).map (y::·)
       |none=>none:=by
      rw[List.drop_eq_getElem_cons hl,List.drop_eq_getElem_cons hlx];rfl
     refine aFY hn.col (fun y hy=> ?_) (fun hy=> ?_)
     ·rw[hy]at st
      refine Zr ?_
      have hS3:=hS.mono (h':=up G 14) (by rw[cW];omega) (fun b hb=>by rw[cM,oG b (hS.own hb).2])
      obtain⟨b,b1,b2,b3,b4,b5⟩:=hS3.ix (i:=i) (by simp;omega)
      rw[b3]
      refine Z1 b4 ?_
      have hr:=lP (f:=fi) (n:=1) (fun _=>rfl) (l:=acc++List.replicate (t.vars.length-i) 0) (i:=i) (by simp;omega) y
      have hst:(acc++List.replicate (t.vars.length-i) 0).set i y=(acc++ [y])++List.replicate (t.vars.length-(i+1)) 0:=by
       have:=GO acc 0 y (t.vars.length-(i+1))
       rw[show t.vars.length-(i+1)+1=t.vars.length-i by omega,hac]at this
       exact this
      rw[hst]at hr
      rw[cM]at b4
      refine Z2 b4 hr ?_
      refine bT (by omega) (by omega) ⟨rfl,(i+1,bI (up G 14) b (.cells (((acc++ [y])++List.replicate (t.vars.length-(i+1)) 0).flatMap fi)),acc++ [y]),⟨hl,?_,?_,?_,?_,?_,?_⟩,(by omega),rfl,rfl⟩
      ·show bW _ _ (bI _ _ _)
       exact bW.set (fun c hc=>by rw[cM,oG c (by omega)];exact ho c hc) (by omega)
      ·show _≤(bI _ _ _).aA
       rw[bC,cW];omega
      ·show aP (bI _ _ _) _=_
       rw[aX,if_neg (by omega),cM,oG _ (by omega)];exact g0
      ·exact hS3.put b5 _ (by simp;omega)
      ·simp[hac]
      ·show _=(CB n (t.vars.drop (i+1)) (vars.drop (i+1))).map ((acc++ [y])++·)
       rw[hE,st,Option.map_map]
       congr 1
       funext l
       simp
     ·rw[hy]at st
      rw[hE,st]at k
      refine Zr ?_
      exact zz _ 1 (fun c hc=>by rw[cM,oG c (by omega)];exact ho c hc) k
    ·have:i=t.vars.length:=by omega
     subst this
     rw[List.drop_length]at hE
     rw[hE]at k
     rw[Nat.sub_self,List.replicate_zero,List.append_nil]at hS
     unfold cl
     have hk:K (.tuple [ints acc,iv 0]) h:=by
      have:(CB n [] (vars.drop t.vars.length)).map (acc++·)=some acc:=by show some (acc++ [])=_;rw[List.append_nil]
      rw[this]at k;exact k
     exact⟨ho,_,.tuple (.cons (hS.fz (by omega) (fun _=>rfl) (fun _ _=>rfl)) (.cons (.same rfl) .nil)),hk⟩
   ·have:=kT.row (n0:=h.aA+1) (n:=1) (f:=fi) (h:=nw (nw h (.cells (eN n))) (.cells (rP t.vars.length [iv 0]))) (l:=List.replicate t.vars.length (0:Int)) (b:=h.aA+1) t.vars.length 0 (aE _) (by refine Zr ?_;omega) (by refine Zr ?_;rw[pT,zS];simp)
    simpa using this
   ·simp
  ·rw[if_pos (fun q=>q3 (by omega))]at k
   exact zz _ 1 Oq k
end
section
attribute [local irreducible] cl
def fo:Option dF→List AV
 |none=> [.aB]
 |some b=> [gF b]
def ob(x:Option dF):dF:=x.getD []
theorem BZ(x:Option dF):(fo x).length=1:=by cases x<;>rfl
def foV:Option dF→AV
 |none=> .aB
 |some b=>gF b
theorem aFX(x:Option dF):fo x= [foV x]:=by cases x<;>rfl
theorem TX{t:bE AO}{m:Nat}:∀(M:List (Option dF)),oD t m (M.flatMap fo) ((M.map ob).flatMap fm)
 | []=> .nil
 |none::M=>by
  show oD t m (.aB::M.flatMap fo) (gF []::(M.map ob).flatMap fm)
  exact .cons .aB (TX M)
 |some b::M=>by
  show oD t m (gF b::M.flatMap fo) (gF b::(M.map ob).flatMap fm)
  exact .cons (.same (cN rZ b)) (TX M)
theorem kT.fzo{n0 m:Nat}{v:AV}{M:List (Option dF)}(q:kT n0 1 fo h v M)(hm:m≤n0):Fz h.t m v (dC (M.map ob)):=by
 cases q with
 |aB=>exact .aB
 |row c k h1 h2 h3=>
  have:=Fz.slice (off:=0) (len:=M.length) (cap:=c) (kind:=k) (m:=(M.flatMap fo).length) (l2:=(M.map ob).flatMap fm) (Nat.le_trans hm h1) h3 (by rw[List.drop_zero,List.take_length];exact TX M)
  have e:dC (M.map ob)= .rslice ((M.map ob).flatMap fm) M.length M.length false:=by show AV.rslice _ (M.map ob).length (M.map ob).length false=_;rw[List.length_map]
  rw[e];exact this
theorem M1{f:Nat}{args args':List AV}(q:qC args args')(s:C f args' h K):C f args h K:=by
 unfold C F at s⊢
 exact W.nilw q s
theorem aB8{x:Option dF}{b:dF}(ha:(ob x).length<2^21)(hb:b.length<2^21)(k:K (.tuple [gF (i6 (ob x) b).2,iv (i6 (ob x) b).1]) h):C 38 [foV x,gF b] h K:=by
 cases x with
 |none=>exact M1 (.aB (.same .nil)) (c38 (a:= []) ha hb k)
 |some a=>exact c38 ha hb k
@[go_sem]theorem aA1{n o:Nat}{l r:List AV}(h:o+n<l.length+1):bZ n (List.drop o (l++r))=bZ n (drop o l):=by
 rw[←dX];exact CD (by omega)
@[go_sem]theorem aA2(h:aL)(c:Nat)(o:AO):aP (nwAt h c o) c=some o:=nB h c o
def xD(d:Nat)(n:dL)(l:List yN)(env:List Int):List Int→Mark→Int×Mark
 | [],m=>(0,m)
 |k::ks,m=>
  if k<0∨(l.length:Int)≤k then(11,[])else match l[k.toNat]? with
  |none=>(11,[])
  |some a=>
   if¬(wP d a.expr env).2=0 then((wP d a.expr env).2,[])else
   if a.place<0∨(n.places.length:Int)≤a.place then(3,[])else match n.places[a.place.toNat]? with
   |none=>(3,[])
   |some p=>match SZ n.colours p.colour (wP d a.expr env).1 with
    |none=>(8,[])
    |some t=>
     if¬(i6 (m.getD a.place.toNat []) (yM t)).1=0 then((i6 (m.getD a.place.toNat []) (yM t)).1,[])else
     xD d n l env ks (m.set a.place.toNat (i6 (m.getD a.place.toNat []) (yM t)).2)
def xE(d:Nat)(n:dL)(l:List yN)(which env:List Int):Int×Mark:=xD d n l env which (List.replicate n.places.length [])
theorem CA{a b:dF}:(i6 a b).2.length≤a.length+b.length:=by
 unfold i6
 split
 ·simp
 ·split
  ·simp
  ·exact T6 a b
theorem O4(t:Int):(yM t).length≤1:=by unfold yM;split<;>simp
theorem ZE{d:Nat}{n:dL}{l:List yN}{which env:List Int}(hn:dR d n)(hl:l.length<2^21)(he:∀a∈l,kV d a.expr)(hw:which.length<2^20)
  (k:K (.tuple [dC (xE d n l which env).2,iv (xE d n l which env).1]) h):C 106 [.agg (eN n),sl iM l,ints which,ints env] h K:=by
 refine bG (aNF ?_)
 unfold xE at k
 have hpl:=hn.pl.1
 have zz:∀g e,bW h.aA h g→K (.tuple [dC [],iv e]) h→cl h K (.tuple [.aB,iv e]) g:=fun g e o q=>by
  unfold cl
  exact⟨o,_,.tuple (.cons .aB (.cons (.same rfl) .nil)),q⟩
 refine Zr ?_
 rw[zL (by omega)]
 refine Zr ?_
 refine cD (σ:=Nat×aL×List (Option dF)) (fun p=> [iv p.1,iv which.length,ints which,sl iM l,ints env,.ptr h.aA 0,.slice (h.aA+1) 0 n.places.length n.places.length 0,.aB,iv 0]) (fun p=>p.2.1)
  (fun p=>p.1≤which.length∧bW h.aA h p.2.1∧h.aA+2≤p.2.1.aA∧aP p.2.1 h.aA=some (.cells (eN n))∧kT (h.aA+1) 1 fo p.2.1 (.slice (h.aA+1) 0 n.places.length n.places.length 0) p.2.2∧p.2.2.length=n.places.length∧(∀x∈p.2.2,(ob x).length≤p.1)∧
   xD d n l env which (List.replicate n.places.length [])=xD d n l env (which.drop p.1) (p.2.2.map ob))
  (fun p=>which.length-p.1) ?_ (0,nw (nw h (.cells (eN n))) (.cells (rP n.places.length [.aB])),List.replicate n.places.length none) ⟨aH _,Oq,(by refine Zr ?_;omega),(by exact Zr trivial),?_,by simp,?_,?_⟩ (A:=XA) (cur:=0)
 ·rintro⟨i,g,M⟩ ⟨hi,ho,hg,g0,hS,hac,hbl,hE⟩
  simp only at hi ho hg g0 hS hac hbl hE
  rw[hE]at k
  refine aDC ?_
  refine Zr ?_
  refine⟨fun hl2=> ?_,fun hl2=> ?_⟩
  ·have hl2:i<which.length:=by omega
   have e:=aC hl2
   rw[List.drop_eq_getElem_cons hl2]at k
   obtain⟨w,hw2⟩:∃w,w=which[i]:=⟨_,rfl⟩
   rw[←hw2]at e k
   unfold xD at k
   rw[bV (f:=fi) (n:=1) (fun _=>rfl) e]
   refine Zr ?_
   refine⟨fun q1=> ?_,fun q1=>⟨fun q2=> ?_,fun q2=> ?_⟩⟩
   ·rw[if_pos (.inl q1)]at k
    exact zz _ 11 ho k
   ·rw[if_pos (.inr q2)]at k
    exact zz _ 11 ho k
   ·rw[if_neg (by omega)]at k
    have hlt:w.toNat<l.length:=by omega
    have ea:=aC hlt
    rw[ea]at k
    obtain⟨a,ha⟩:∃a,a=l[w.toNat]:=⟨_,rfl⟩
    have hal:a∈l:=by rw[ha];exact List.getElem_mem hlt
    rw[←ha]at ea k
    simp only at k
    rw[cS (by omega),bV oW ea]
    refine Zr ?_
    refine aHC (d:=d) (he a hal) ?_
    obtain⟨x,hx⟩:∃x,x=wP d a.expr env:=⟨_,rfl⟩
    rw[←hx]at k⊢
    refine Zr ?_
    refine⟨fun q3=> ?_,fun q3=> ?_⟩
    ·rw[if_neg (fun n=>n q3)]at k
     refine⟨fun q4=> ?_,fun q4=> ?_⟩
     ·rw[if_pos (.inl q4)]at k
      exact zz _ 3 ho k
     ·refine Z1 g0 ?_
      refine⟨fun q5=> ?_,fun q5=> ?_⟩
      ·rw[if_pos (.inr q5)]at k
       exact zz _ 3 ho k
      ·rw[if_neg (by omega)]at k
       have hpt:a.place.toNat<n.places.length:=by omega
       have ep:=aC hpt
       rw[ep]at k
       obtain⟨p,hp⟩:∃p,p=n.places[a.place.toNat]:=⟨_,rfl⟩
       rw[←hp]at ep k
       simp only at k
       rw[cS (by omega),bV jW ep]
       refine Zr ?_
       refine aMs hn.col (fun t ht=> ?_) (fun ht=> ?_)
       ·rw[ht]at k
        simp only at k
        refine Zr ?_
        refine c39 (GU.one (nB _ _ _)) (fun b hb=>by rw[show b=g.aA+15+7 from hb];refine Zr ?_;omega) ?_
        obtain⟨G,hG⟩:∃G,G=nwAt (up (up g 15) 16) (g.aA+22) (.cells [iv t]):=⟨_,rfl⟩
        rw[←hG]
        have nG:G.aA=g.aA+31:=by rw[hG,FA,cW,cW]
        have fG:∀b,b<g.aA→aP G b=aP g b:=fun b hb=>by rw[hG,gH,if_neg (by omega),cM,cM]
        have oG:bW h.aA h G:=fun c hc=>by rw[fG c (by omega)];exact ho c hc
        clear hG
        obtain⟨b,b1,b2,b3,b4,b5⟩:=hS.ix (i:=a.place.toNat) (by omega)
        have hMt:a.place.toNat<M.length:=by omega
        have eM:=aC hMt
        obtain⟨y,hy⟩:∃y,y=M[a.place.toNat]:=⟨_,rfl⟩
        rw[←hy]at eM
        have hyM:y∈M:=by rw[hy];exact List.getElem_mem hMt
        have hyl:=hbl y hyM
        have hgd:(M.map ob).getD a.place.toNat []=ob y:=by
         rw[List.getD_eq_getElem?_getD,List.getElem?_map,eM];rfl
        rw[hgd]at k
        have hr:bR (M.flatMap fo) (a.place.toNat*1)=some (foV y):=by
         have:=congrArg (fun l=>bR l 0) (oC (f:=fo) (n:=1) BZ eM)
         simp only[lQ,Nat.add_zero]at this
         rw[this,aFX];rfl
        rw[b3]
        refine Zr ?_
        rw[fG b b2,b4]
        refine Z2 hr b4 ?_
        have ho1:=O4 t
        refine aB8 (by omega) (by omega) ?_
        refine Zr ?_
        rw[fG b b2,b4]
        have hrf:=lP (f:=fo) (n:=1) BZ hMt (some (i6 (ob y) (yM t)).2)
        have hrf:aV (M.flatMap fo) (a.place.toNat*1) [gF (i6 (ob y) (yM t)).2]=_:=hrf
        refine Z1 hrf ?_
        refine⟨fun q6=> ?_,fun q6=> ?_⟩
        ·rw[if_neg (fun n=>n q6)]at k
         refine bT (by omega) (by omega) ⟨rfl,(i+1,bI G b (.cells ((M.set a.place.toNat (some (i6 (ob y) (yM t)).2)).flatMap fo)),M.set a.place.toNat (some (i6 (ob y) (yM t)).2)),⟨hl2,?_,?_,?_,?_,?_,?_,?_⟩,(by omega),rfl,rfl⟩
         ·show bW _ _ (bI _ _ _)
          exact oG.set (by omega)
         ·show _≤(bI _ _ _).aA
          rw[bC];omega
         ·show aP (bI _ _ _) _=_
          rw[aX,if_neg (by omega),fG _ (by omega)];exact g0
         ·exact(hS.mono (h':=G) (by omega) (fun c hc=>fG c (hS.own hc).2)).put b5 _ (by simp)
         ·show(M.set _ _).length=_
          rw[List.length_set];exact hac
         ·intro z hz
          rcases List.mem_or_eq_of_mem_set hz with hz|rfl
          ·have:=hbl z hz
           show _≤i+1
           omega
          ·have:=CA (a:=ob y) (b:=yM t)
           show(i6 (ob y) (yM t)).2.length≤i+1
           omega
         ·show _=xD d n l env (which.drop (i+1)) ((M.set _ _).map ob)
          rw[hE,List.drop_eq_getElem_cons hl2,←hw2]
          conv=>lhs;unfold xD
          rw[if_neg (by omega),ea]
          simp only
          rw[←hx,if_neg (fun n=>n q3),if_neg (by omega),ep]
          simp only
          rw[ht]
          simp only
          rw[hgd,if_neg (fun n=>n q6),List.map_set]
          rfl
        ·rw[if_pos q6]at k
         exact zz _ _ (oG.set (by omega)) k
       ·rw[ht]at k
        simp only at k
        refine Zr ?_
        exact zz _ 8 ho.up k
    ·rw[if_pos q3]at k
     exact zz _ _ ho k
  ·have:i=which.length:=by omega
   subst this
   rw[List.drop_length]at k
   unfold cl
   exact⟨ho,_,.tuple (.cons (hS.fzo (by omega)) (.cons (.same rfl) .nil)),k⟩
 ·have:=kT.row (n0:=h.aA+1) (n:=1) (f:=fo) (h:=nw (nw h (.cells (eN n))) (.cells (rP n.places.length [.aB]))) (l:=List.replicate n.places.length (none:Option dF)) (b:=h.aA+1) n.places.length 0 (aE _) (by refine Zr ?_;omega) (by
   refine Zr ?_
   rw[pT]
   congr 1
   generalize n.places.length=m
   congr 1
   induction m with
   |zero=>rfl
   |succ m ih=>rw[List.replicate_succ,List.replicate_succ,List.flatMap_cons,ih];rfl)
  simpa using this
 ·intro x hx
  rw[(List.mem_replicate.1 hx).2];simp[ob]
 ·simp[ob]
end
section
attribute [local irreducible] cl
abbrev fl:List Int→List AV:=fun x=> [ints x]
theorem aLu{l:List (List Int)}{fv:AV}{P:(List Int)→Prop}(hl:l.length<2^40)(hs:aQ fv=true)
  (hp:∀x∈l,∀K:KH,(P x→K (.bool true) h)→(¬P x→K (.bool false) h)→CV fv [ints x] h K) (k:K (iv (mC P l)) h):C 288 [sl fl l,fv] h K:=by
 refine aHX ?_
 refine Sr ?_
 refine cD (σ:=Nat) (fun i=> [iv i,iv l.length,fv,sl fl l,iv 0]) (fun _=>h) (fun i=>i≤l.length∧∀j x,l[j]?=some x→j<i→¬P x) (fun i=>l.length-i) ?_ 0 ⟨aH _,fun j x _ hj=>absurd hj (Nat.not_lt_zero _)⟩ (A:=QL) (cur:=0)
 rintro i ⟨hi,hb⟩
 refine XC ?_
 refine Sr ?_
 refine⟨fun q=> ?_,fun q=> ?_⟩
 ·have hil:i<l.length:=by omega
  have ee:=aC hil
  rw[bV (f:=fl) (n:=1) (fun _=>rfl) ee]
  refine Sr ?_
  refine hp _ (List.getElem_mem hil) _ (fun p=> ?_) (fun p=> ?_)
  ·refine S1 hs ?_
   rw[wQ ee p hb]at k
   exact k
  ·refine Sr ?_
   refine bT (by omega) (by omega) ⟨⟨rfl,hs⟩,i+1,⟨hil,fun j x hx hj=> ?_⟩,(by omega),rfl⟩
   by_cases hji:j=i
   ·subst hji;rw[ee]at hx;cases hx;exact p
   ·exact hb j x hx (by omega)
 ·refine S1 hs ?_
  rw[pL (fun j x hx=>hb j x hx (by have:=(aD.1 hx).1;omega))]at k
  exact k
theorem aLv{l:List (List Int)}{fv:AV}{P:(List Int)→Prop}(hl:l.length<2^40)(hs:aQ fv=true)
  (hp:∀x∈l,∀K:KH,(P x→K (.bool true) h)→(¬P x→K (.bool false) h)→CV fv [ints x] h K) (k1:(∃x∈l,P x)→K (.bool true) h) (k2:(¬∃x∈l,P x)→K (.bool false) h):C 290 [sl fl l,fv] h K:=by
 refine aNL ?_
 refine aLu hl hs hp ?_
 refine Sr ?_
 exact⟨fun q=>k1 (kR.1 q),fun q=>k2 (fun x=>q (kR.2 x))⟩
theorem c23{a b:List Int}(ha:a.length<2^40)(k1:a=b→K (.bool true) h)(k2:¬a=b→K (.bool false) h):C 23 [ints a,ints b] h K:=by
 refine bG (e23 ?_)
 refine Zr ?_
 refine⟨fun q1=> ?_,fun q1=> ?_⟩
 ·have q1:a.length=b.length:=by omega
  refine cD (σ:=Nat×aL) (fun p=> [iv p.1,iv a.length,ints a,ints b,.bool false]) (fun p=>p.2) (fun p=>p.1≤a.length∧bW h.aA h p.2∧∀(j:Nat),j<p.1→a[j]?=b[j]?) (fun p=>a.length-p.1) ?_ (0,h) ⟨aH _,Oq,fun j hj=>absurd hj (Nat.not_lt_zero _)⟩ (A:=aDo) (cur:=0)
  rintro⟨i,g⟩ ⟨hi,ho,he⟩
  simp only at hi ho he
  refine aHz ?_
  refine Zr ?_
  refine⟨fun hl=> ?_,fun hl=> ?_⟩
  ·have hl:i<a.length:=by omega
   have e1:=aC hl
   have hl2:i<b.length:=by omega
   have e2:=aC hl2
   rw[bV (f:=fi) (n:=1) (fun _=>rfl) e1,bV (f:=fi) (n:=1) (fun _=>rfl) e2]
   refine Zr ?_
   refine⟨fun q=> ?_,fun q=> ?_⟩
   ·refine bT (by omega) (by omega) ⟨rfl,(i+1,up g 9),⟨hl,ho.up,fun j hj=> ?_⟩,(by omega),rfl,rfl⟩
    by_cases hji:j=i
    ·subst hji;rw[e1,e2,q]
    ·exact he j (by have:j<i+1:=hj;omega)
   ·exact bA ho.up rfl (k2 (fun x=>q (by subst x;rfl)))
  ·refine bA ho rfl (k1 (List.ext_getElem? fun j=> ?_))
   by_cases hj:j<a.length
   ·exact he j (by omega)
   ·rw[List.getElem?_eq_none (show a.length≤j by omega),List.getElem?_eq_none (show b.length≤j by omega)]
 ·exact bA (bW.refl _ _) rfl (k2 (fun x=>q1 (by rw[x])))
def zK(a b:Mark):Prop:=a.length=b.length∧∀(j:Nat) x y,a[j]?=some x→b[j]?=some y→zO x y
theorem aLw{a b:Mark}(ha:jG a)(hb:jG b)(k1:zK a b→K (.bool true) h)(k2:¬zK a b→K (.bool false) h):C 289 [dC a,dC b] h K:=by
 refine aMK ?_
 refine aMJ ?_
 have:=ha.1
 refine Zr ?_
 refine⟨fun q1=> ?_,fun q1=> ?_⟩
 ·have q1:a.length=b.length:=by omega
  refine cD (σ:=Nat) (fun p=> [iv p,iv a.length,dC a,dC b,fn 370,.bool false]) (fun p=>h) (fun p=>p≤a.length∧∀(j:Nat) x y,j<p→a[j]?=some x→b[j]?=some y→zO x y) (fun p=>a.length-p) ?_ 0 ⟨aH _,fun j _ _ hj=>absurd hj (Nat.not_lt_zero _)⟩ (A:=WP) (cur:=0)
  rintro i ⟨hi,he⟩
  refine aDn ?_
  refine Zr ?_
  refine⟨fun hl=> ?_,fun hl=> ?_⟩
  ·have hl:i<a.length:=by omega
   have e1:=aC hl
   have hl2:i<b.length:=by omega
   have e2:=aC hl2
   rw[bV (f:=fm) (n:=1) (fun _=>rfl) e1,bV (f:=fm) (n:=1) (fun _=>rfl) e2]
   refine Zr ?_
   refine aLJ (ha.2 _ (List.getElem_mem hl)) (hb.2 _ (List.getElem_mem hl2)) (fun q=> ?_) (fun q=> ?_)
   ·refine Zr ?_
    refine bT (by omega) (by omega) ⟨rfl,i+1,⟨hl,fun j x y hj hx hy=> ?_⟩,(by omega),rfl⟩
    by_cases hji:j=i
    ·subst hji;rw[e1]at hx;rw[e2]at hy;cases hx;cases hy;exact q
    ·exact he j x y (by omega) hx hy
   ·refine Zr ?_
    exact k2 (fun p=>q (p.2 i _ _ e1 e2))
  ·exact k1 ⟨q1,fun j x y hx hy=>he j x y (by have:=(aD.1 hx).1;omega) hx hy⟩
 ·exact k2 (fun p=>q1 (by rw[p.1]))
end
section
attribute [local irreducible] cl
def E8(n:Nat):List (List Int):=(List.range (2^n-1)).map fun s=>((List.range n).filter fun k=>(s+1).testBit k).map Int.ofNat
def xC(n:Int):List Int:=(List.range n.toNat).map Int.ofNat
def d9(kind arcs:Int):List (List Int):=
 if arcs<0∨16<arcs∨(kind=3∧4<arcs)then []else if kind=1 then [xC arcs]else if kind=2 then(xC arcs).map ([·])else if kind=3 then E8 arcs.toNat else []
theorem aFW:Y0 60 172 [iv 3,iv 0]=some (sl fl (E8 0))∧Y0 60 172 [iv 3,iv 1]=some (sl fl (E8 1))∧Y0 60 172 [iv 3,iv 2]=some (sl fl (E8 2))∧Y0 60 172 [iv 3,iv 3]=some (sl fl (E8 3))∧Y0 60 172 [iv 3,iv 4]=some (sl fl (E8 4)):=by
 refine⟨?_,?_,?_,?_,?_⟩<;>kernel_rfl
end
section
attribute [local irreducible] cl
theorem aB5:(List.range 17).map (fun n=>Y0 60 172 [iv 1,iv (Int.ofNat n)])=(List.range 17).map (fun n=>some (sl fl [xC (Int.ofNat n)])):=by kernel_rfl
theorem aB6:(List.range 17).map (fun n=>Y0 60 172 [iv 2,iv (Int.ofNat n)])=(List.range 17).map (fun n=>some (sl fl ((xC (Int.ofNat n)).map ([·])))):=by kernel_rfl
theorem BY{β:Type}{f g:Nat→β}{m:Nat}(h:(List.range m).map f=(List.range m).map g){n:Nat}(hn:n<m):f n=g n:=by
 have:=congrArg (fun l=>l[n]?) h
 simp only[List.getElem?_map,List.getElem?_range hn,Option.map_some]at this
 exact Option.some.inj this
theorem aB7{kind arcs:Int}(k:K (sl fl (d9 kind arcs)) h):C 172 [iv kind,iv arcs] h K:=by
 unfold d9 at k
 have zz:K (sl fl []) h→cl h K .aB h:=fun q=>by
  unfold cl
  exact⟨bW.refl _ _,_,.aB,q⟩
 by_cases q:arcs<0∨16<arcs∨(kind=3∧4<arcs)
 ·rw[if_pos q]at k
  refine bG (aHV ?_)
  refine Zr ?_
  refine⟨fun q1=>zz k,fun q1=>⟨fun q2=>zz k,fun q2=>⟨fun q3=>⟨fun q4=>zz k,fun q4=> ?_⟩,fun q3=> ?_⟩⟩⟩
  ·exfalso;omega
  ·exfalso;omega
 ·rw[if_neg q]at k
  obtain⟨n,rfl⟩:∃n:Nat,arcs=Int.ofNat n:=⟨arcs.toNat,by simp;omega⟩
  have hn:n<17:=by simp at q;omega
  by_cases k1:kind=1
  ·subst k1
   rw[if_pos rfl]at k
   exact LV rfl (BY aB5 hn) k
  ·rw[if_neg k1]at k
   by_cases k2:kind=2
   ·subst k2
    rw[if_pos rfl]at k
    exact LV rfl (BY aB6 hn) k
   ·rw[if_neg k2]at k
    by_cases k3:kind=3
    ·subst k3
     rw[if_pos rfl]at k
     have hn4:n<5:=by simp at q;omega
     have hnn:(Int.ofNat n).toNat=n:=rfl
     rw[hnn]at k
     obtain⟨e0,e1,e2,e3,e4⟩:=aFW
     have:n=0∨n=1∨n=2∨n=3∨n=4:=by omega
     rcases this with rfl|rfl|rfl|rfl|rfl
     ·exact LV rfl e0 k
     ·exact LV rfl e1 k
     ·exact LV rfl e2 k
     ·exact LV rfl e3 k
     ·exact LV rfl e4 k
    ·rw[if_neg k3]at k
     refine bG (aHV ?_)
     refine Zr ?_
     have g1:¬(Int.ofNat n<0):=by simp
     have g2:¬(16<Int.ofNat n):=by simp;omega
     refine⟨fun q1=>absurd q1 g1,fun _=>⟨fun q1=>absurd q1 g2,fun _=>⟨fun q1=>absurd q1 k3,fun _=>⟨fun q1=>absurd q1 k1,fun _=>⟨fun q1=>absurd q1 k2,fun _=>⟨fun q1=>absurd q1 k3,fun _=>zz k⟩⟩⟩⟩⟩⟩
theorem mO{kind arcs:Int}:(d9 kind arcs).length<64∧∀r∈d9 kind arcs,r.length<64:=by
 unfold d9
 by_cases q:arcs<0∨16<arcs∨(kind=3∧4<arcs)
 ·rw[if_pos q];simp
 ·rw[if_neg q]
  have hr:(xC arcs).length<64:=by
   unfold xC
   rw[List.length_map,List.length_range];omega
  split
  ·exact⟨by simp,fun r hr2=>by rw[List.mem_singleton.1 hr2];exact hr⟩
  ·split
   ·exact⟨by simpa using hr,fun r hr2=>by obtain⟨x,_,rfl⟩:=List.mem_map.1 hr2;simp⟩
   ·split
    ·rename_i k3
     have:arcs.toNat=0∨arcs.toNat=1∨arcs.toNat=2∨arcs.toNat=3∨arcs.toNat=4:=by omega
     rcases this with e|e|e|e|e<;>rw[e]<;>decide
    ·simp
theorem aFV{kind arcs:Int}{row:List Int}(k1:row∈d9 kind arcs→K (.bool true) h)(k2:¬row∈d9 kind arcs→K (.bool false) h):C 181 [iv kind,iv arcs,ints row] h K:=by
 refine bG (aNK ?_)
 refine Zr ?_
 refine aB7 ?_
 have ho:bW h.aA h (nw h (.cells [ints row])):=Oq
 refine aLv (P:=fun x=>x=row) (by have:=(mO (kind:=kind) (arcs:=arcs)).1;omega) rfl (fun x hx K k1 k2=> ?_) (fun q=> ?_) (fun q=> ?_)
 ·refine Zr ?_
  refine aNM ?_
  refine Zr ?_
  refine c23 (by have:=(mO (kind:=kind) (arcs:=arcs)).2 x hx;omega) (fun q=> ?_) (fun q=> ?_)
  ·refine Zr ?_;exact k1 q
  ·refine Zr ?_;exact k2 q
 ·refine Zr ?_
  obtain⟨x,hx,rfl⟩:=q
  exact bA ho rfl (k1 hx)
 ·refine Zr ?_
  exact bA ho rfl (k2 fun hx=>q ⟨row,hx,rfl⟩)
end
section
attribute [local irreducible] cl
structure dE where
 net:dL
 m:Mark
 task:Task
 env:List Int
def rA(x:dE):List AV:= [sl eC x.net.colours,sl oV x.net.places,sl eT x.net.tasks,iv x.net.frm,iv x.net.to,sl fm x.m,.str x.task.name,sl gN x.task.vars,iv x.task.guard.kind,iv x.task.guard.num,sl eE x.task.guard.kids,iv x.task.jn,iv x.task.split,sl iM x.task.ins,sl iM x.task.outs,sl fi x.task.cancel,iv x.task.after,iv x.task.m0,iv x.task.m1,iv x.task.m2,sl fi x.env]
@[go_sem]theorem O2(x:dE):(rA x).length=21:=by cases x;rfl
@[go_sem]theorem aJh(x:dE):aZ (rA x)=true:=by cases x;rfl
@[go_sem]theorem aQp(x:dE):bR (rA x) 0=some (sl eC x.net.colours):=rfl
@[go_sem]theorem aQq(x:dE):bR (rA x) 1=some (sl oV x.net.places):=rfl
@[go_sem]theorem aQr(x:dE):bR (rA x) 2=some (sl eT x.net.tasks):=rfl
@[go_sem]theorem aQs(x:dE):bR (rA x) 3=some (iv x.net.frm):=rfl
@[go_sem]theorem aQt(x:dE):bR (rA x) 4=some (iv x.net.to):=rfl
@[go_sem]theorem aQu(x:dE):bR (rA x) 5=some (sl fm x.m):=rfl
@[go_sem]theorem aQv(x:dE):bR (rA x) 6=some (.str x.task.name):=rfl
@[go_sem]theorem aQw(x:dE):bR (rA x) 7=some (sl gN x.task.vars):=rfl
@[go_sem]theorem aQx(x:dE):bR (rA x) 8=some (iv x.task.guard.kind):=rfl
@[go_sem]theorem aQy(x:dE):bR (rA x) 9=some (iv x.task.guard.num):=rfl
@[go_sem]theorem aLf(x:dE):bR (rA x) 10=some (sl eE x.task.guard.kids):=rfl
@[go_sem]theorem aLg(x:dE):bR (rA x) 11=some (iv x.task.jn):=rfl
@[go_sem]theorem aLh(x:dE):bR (rA x) 12=some (iv x.task.split):=rfl
@[go_sem]theorem aLi(x:dE):bR (rA x) 13=some (sl iM x.task.ins):=rfl
@[go_sem]theorem aLj(x:dE):bR (rA x) 14=some (sl iM x.task.outs):=rfl
@[go_sem]theorem aLk(x:dE):bR (rA x) 15=some (sl fi x.task.cancel):=rfl
@[go_sem]theorem aLl(x:dE):bR (rA x) 16=some (iv x.task.after):=rfl
@[go_sem]theorem aLm(x:dE):bR (rA x) 17=some (iv x.task.m0):=rfl
@[go_sem]theorem aLn(x:dE):bR (rA x) 18=some (iv x.task.m1):=rfl
@[go_sem]theorem aLo(x:dE):bR (rA x) 19=some (iv x.task.m2):=rfl
@[go_sem]theorem aLp(x:dE):bR (rA x) 20=some (sl fi x.env):=rfl
@[go_sem]theorem aLq(x:dE):bZ 5 (rA x)=some (eN x.net):=rfl
@[go_sem]theorem aLr(x:dE):bZ 5 (drop 0 (rA x))=some (eN x.net):=rfl
@[go_sem]theorem aLs(x:dE):bZ 14 (drop 6 (rA x))=some (eT x.task):=rfl
@[go_sem]theorem aQz(x:dE):bZ 21 (rA x)=some (rA x):=by cases x;rfl
theorem ZD(x:dE):bP (rA x)=true:=aY (cN HX _) (aY (cN O5 _) (aY (cN T5 _) (aY (rfl) (aY (rfl) (aY (cN mZ _) (aY (rfl) (aY (cN JS _) (aY (rfl) (aY (rfl) (aY (cN GQ _) (aY (rfl) (aY (rfl) (aY (cN vH _) (aY (cN vH _) (aY (cN (fun _=>rfl) _) (aY (rfl) (aY (rfl) (aY (rfl) (aY (rfl) (aY (cN (fun _=>rfl) _) (rfl)))))))))))))))))))))
@[go_sem]theorem aQA(x:dE):bZ 3 (drop 8 (rA x))=some (eE x.task.guard):=by rw[sV];rfl
def fW(d:Nat)(n:dL)(o:Mode):Int×Mark:=
 if¬(hY n o.task o.vars).1=0 then((hY n o.task o.vars).1,[])else match n.tasks[o.task.toNat]? with
 |some t=>xE d n t.ins o.ins (hY n o.task o.vars).2
 |none=>(3,[])
def iF(d:Nat)(n:dL)(o:Mode):Int×Mark:=
 if¬(hY n o.task o.vars).1=0 then((hY n o.task o.vars).1,[])else match n.tasks[o.task.toNat]? with
 |some t=>xE d n t.outs o.outs (hY n o.task o.vars).2
 |none=>(3,[])
theorem n9{n:dL}{task:Int}{vars:List Int}(h:(hY n task vars).1=0):0≤task∧task<n.tasks.length∧∃t,n.tasks[task.toNat]?=some t:=by
 unfold hY at h
 by_cases q:task<0∨(n.tasks.length:Int)≤task
 ·rw[if_pos q]at h;simp at h
 ·exact⟨by omega,by omega,n.tasks[task.toNat]'(by omega),aC _⟩
theorem c56{d:Nat}{n:dL}{o:Mode}(hn:dR d n)(hv:o.vars.length<2^40)(hi:o.ins.length<2^20)(k:K (.tuple [dC (fW d n o).2,iv (fW d n o).1]) h):C 56 [.agg (eN n),.agg (iU o)] h K:=by
 refine bG (e56 ?_)
 unfold fW at k
 have zz:∀g e,bW h.aA h g→K (.tuple [dC [],iv e]) h→cl h K (.tuple [.aB,iv e]) g:=fun g e o q=>by
  unfold cl
  exact⟨o,_,.tuple (.cons .aB (.cons (.same rfl) .nil)),q⟩
 refine Zr ?_
 refine aB9 hn hv ?_
 refine Zr ?_
 refine⟨fun q=> ?_,fun q=> ?_⟩
 ·rw[if_neg (fun n=>n q)]at k
  obtain⟨h0,h1,t,ht⟩:=n9 q
  rw[ht]at k
  simp only at k
  have hts:=hn.task t (aG ht)
  rw[cS h0,bV eS ht]
  refine Zr ?_
  refine ZE hn hts.ins hts.insE hi ?_
  refine Zr ?_
  exact bA Oq (eA (aY (cN mZ _) rfl)) k
 ·rw[if_pos q]at k
  exact zz _ _ Oq k
theorem c57{d:Nat}{n:dL}{o:Mode}(hn:dR d n)(hv:o.vars.length<2^40)(hi:o.outs.length<2^20)(k:K (.tuple [dC (iF d n o).2,iv (iF d n o).1]) h):C 57 [.agg (eN n),.agg (iU o)] h K:=by
 refine bG (e57 ?_)
 unfold iF at k
 have zz:∀g e,bW h.aA h g→K (.tuple [dC [],iv e]) h→cl h K (.tuple [.aB,iv e]) g:=fun g e o q=>by
  unfold cl
  exact⟨o,_,.tuple (.cons .aB (.cons (.same rfl) .nil)),q⟩
 refine Zr ?_
 refine aB9 hn hv ?_
 refine Zr ?_
 refine⟨fun q=> ?_,fun q=> ?_⟩
 ·rw[if_neg (fun n=>n q)]at k
  obtain⟨h0,h1,t,ht⟩:=n9 q
  rw[ht]at k
  simp only at k
  have hts:=hn.task t (aG ht)
  rw[cS h0,bV eS ht]
  refine Zr ?_
  refine ZE hn hts.outs hts.outsE hi ?_
  refine Zr ?_
  exact bA Oq (eA (aY (cN mZ _) rfl)) k
 ·rw[if_pos q]at k
  exact zz _ _ Oq k
def BX(d:Nat)(t:Task)(env:List Int):Int:=if¬(wP d t.guard env).2=0 then(wP d t.guard env).2 else if(wP d t.guard env).1=0 then 9 else 0
open Classical in
def pS(d:Nat)(b:dE)(ins:List Int):Int:=if¬(xE d b.net b.task.ins ins b.env).1=0 then(xE d b.net b.task.ins ins b.env).1 else if¬zK (xE d b.net b.task.ins ins b.env).2 b.m then 10 else 0
def M0(d:Nat)(b:dE)(outs:List Int):Int:=(xE d b.net b.task.outs outs b.env).1
theorem aFS{d:Nat}{b:dE}(hb:oO d b.task)(k:K (iv (BX d b.task b.env)) h):C 175 [.agg (rA b)] h K:=by
 refine bG (aNH ?_)
 unfold BX at k
 refine Zr ?_
 refine aHC (d:=d) hb.guard ?_
 refine Zr ?_
 refine⟨fun q=>⟨fun q2=> ?_,fun q2=> ?_⟩,fun q=> ?_⟩
 ·rw[if_neg (fun n=>n q),if_pos q2]at k
  exact fP k
 ·rw[if_neg (fun n=>n q),if_neg q2]at k
  exact fP k
 ·rw[if_pos q]at k
  exact fP k
theorem aFT{d:Nat}{b:dE}{outs:List Int}(hn:dR d b.net)(hb:oO d b.task)(ho:outs.length<2^20)(k:K (iv (M0 d b outs)) h):C 179 [.agg (rA b),ints outs] h K:=by
 refine bG (aNJ ?_)
 unfold M0 at k
 refine Zr ?_
 refine ZE hn hb.outs hb.outsE ho ?_
 refine Zr ?_
 exact fP k
theorem O3{d:Nat}{n:dL}{l:List yN}{env:List Int}{c:Nat}:∀(ks:List Int) (m:Mark),m.length=n.places.length→(∀b∈m,b.length≤c)→(xD d n l env ks m).2.length≤n.places.length∧∀b∈(xD d n l env ks m).2,b.length≤c+ks.length
 | [],m,hm,hb=>⟨Nat.le_of_eq hm,fun b hbm=>by have:=hb b hbm;simp;exact this⟩
 |k::ks,m,hm,hb=>by
  have nil:∀e:Int,(((e,[]):Int×Mark)).2.length≤n.places.length∧∀b∈(((e,[]):Int×Mark)).2,b.length≤c+(k::ks).length:=fun e=>⟨aH _,fun b h=>by cases h⟩
  unfold xD
  split
  ·exact nil _
  ·split
   ·exact nil _
   ·split
    ·exact nil _
    ·split
     ·exact nil _
     ·split
      ·exact nil _
      ·split
       ·exact nil _
       ·rename_i a _ _ _ _ p _ _ t _
        split
        ·exact nil _
        ·have:=O3 (d:=d) (n:=n) (l:=l) (env:=env) (c:=c+1) ks (m.set a.place.toNat (i6 (m.getD a.place.toNat []) (yM t)).2) (by rw[List.length_set];exact hm) (fun b hbm=>by
          rcases List.mem_or_eq_of_mem_set hbm with hbm|rfl
          ·have:=hb b hbm;omega
          ·have h1:=CA (a:=m.getD a.place.toNat []) (b:=yM t)
           have h2:=O4 t
           have h3:(m.getD a.place.toNat []).length≤c:=by
            rw[List.getD_eq_getElem?_getD]
            cases e:m[a.place.toNat]? with
            |none=>simp
            |some b=>exact hb b (aG e)
           omega)
         refine⟨this.1,fun b hbm=> ?_⟩
         have:=this.2 b hbm
         simp only[List.length_cons]
         omega
theorem GN{d:Nat}{n:dL}{l:List yN}{which env:List Int}(hn:dR d n)(hw:which.length<2^20):jG (xE d n l which env).2:=by
 have:=O3 (d:=d) (n:=n) (l:=l) (env:=env) (c:=0) which (List.replicate n.places.length []) (by simp) (fun b hb=>by rw[(List.mem_replicate.1 hb).2];simp)
 refine⟨?_,fun b hb=> ?_⟩
 ·have h1:=this.1
  have h2:=hn.pl.1
  unfold xE;omega
 ·have h1:=this.2 b hb
  omega
theorem aFU{d:Nat}{b:dE}{ins:List Int}(hn:dR d b.net)(hm:jG b.m)(hb:oO d b.task)(ho:ins.length<2^20)(hj:¬b.task.jn=3)(k:K (iv (pS d b ins)) h):C 180 [.agg (rA b),ints ins] h K:=by
 refine bG (aNI ?_)
 unfold pS at k
 refine Zr ?_
 refine ZE hn hb.ins hb.insE ho ?_
 refine Zr ?_
 refine⟨fun q=> ?_,fun q=> ?_⟩
 ·rw[if_neg (fun n=>n q)]at k
  refine aLw (GN hn ho) hm (fun q2=> ?_) (fun q2=> ?_)
  ·rw[if_neg (fun n=>n q2)]at k
   refine Zr ?_
   exact⟨fun q3=>absurd q3 hj,fun _=>fP k⟩
  ·rw[if_pos q2]at k
   refine Zr ?_
   exact fP k
 ·rw[if_pos q]at k
  exact fP k
end
section
attribute [local irreducible] cl
def YX:List AV:= [.aB,.aB,.aB,iv 0,iv 0,.aB,.str [],.aB,iv 0,iv 0,.aB,iv 0,iv 0,.aB,.aB,.aB,iv 0,iv 0,iv 0,iv 0,.aB]
theorem aB4: [AV.aB,.aB,.aB,iv 0,iv 0,.aB,.str [],.aB,iv 0,iv 0,.aB,iv 0,iv 0,.aB,.aB,.aB,iv 0,iv 0,iv 0,iv 0,.aB]=YX:=rfl
@[go_sem]theorem aJf:YX.length=21:=rfl
@[go_sem]theorem aJg:aZ YX=true:=rfl
@[go_sem]theorem aLd(rest:List (Nat×Nat×AV)):bK YX rest=bK [.aB,.aB,.aB,iv 0,iv 0,.aB,.str [],.aB,iv 0,iv 0,.aB,iv 0,iv 0,.aB,.aB,.aB,iv 0,iv 0,iv 0,iv 0,.aB] rest:=rfl
theorem aFR{d:Nat}{n:dL}{m:Mark}{task:Int}{vars:List Int}(hn:dR d n)(hv:vars.length<2^40)
  (k1:∀t,n.tasks[task.toNat]?=some t→(hY n task vars).1=0→K (.tuple [.agg (rA ⟨n,m,t,(hY n task vars).2⟩),iv 0]) h) (k2:¬(hY n task vars).1=0→K (.tuple [.agg YX,iv (hY n task vars).1]) h):C 174 [.agg (eN n),dC m,iv task,ints vars] h K:=by
 refine bG (aNG ?_)
 refine Zr ?_
 refine aB9 hn hv ?_
 refine Zr ?_
 refine⟨fun q=> ?_,fun q=> ?_⟩
 ·obtain⟨h0,h1,t,ht⟩:=n9 q
  rw[cS h0,bV eS ht]
  simp only[go_sem,reduceAdd,reduceMul,reduceSub,aa,reduceEqDiff,reduceLT,eN,eT]
  exact bA Oq (eA (aY (zR (ZD ⟨n,m,t,(hY n task vars).2⟩)) rfl)) (k1 t ht q)
 ·exact fP (k2 q)
open Classical in
def eQ(d:Nat)(n:dL)(m:Mark)(o:Mode):Int:=
 if¬(hY n o.task o.vars).1=0 then(hY n o.task o.vars).1 else match n.tasks[o.task.toNat]? with
 |none=>3
 |some t=>
  if¬BX d t (hY n o.task o.vars).2=0 then BX d t (hY n o.task o.vars).2 else
  if¬o.ins∈d9 t.jn t.ins.length∨¬o.outs∈d9 t.split t.outs.length then 11 else
  if¬pS d ⟨n,m,t,(hY n o.task o.vars).2⟩ o.ins=0 then pS d ⟨n,m,t,(hY n o.task o.vars).2⟩ o.ins else M0 d ⟨n,m,t,(hY n o.task o.vars).2⟩ o.outs
def k7(n:dL):Prop:=∀t∈n.tasks,¬t.jn=3
theorem c89{d:Nat}{n:dL}{m:Mark}{o:Mode}(hn:dR d n)(hj:k7 n)(hm:jG m)(ho:vG o)(hoi:o.ins.length<2^20)(hoo:o.outs.length<2^20)(k:K (iv (eQ d n m o)) h):C 89 [.agg (eN n),dC m,.agg (iU o)] h K:=by
 refine bG (e89 ?_)
 unfold eQ at k
 refine Zr ?_
 refine aFR hn (by have:=ho.vars;omega) (fun t ht q=> ?_) (fun q=> ?_)
 ·rw[if_neg (fun n=>n q),ht]at k
  simp only at k
  have htm:=aG ht
  have hts:=hn.task t htm
  obtain⟨b,hb⟩:∃b:dE,b=⟨n,m,t,(hY n o.task o.vars).2⟩:=⟨_,rfl⟩
  rw[←hb]at k⊢
  have b1:b.task=t:=by rw[hb]
  have b2:b.env=(hY n o.task o.vars).2:=by rw[hb]
  have b3:b.net=n:=by rw[hb]
  have b4:b.m=m:=by rw[hb]
  clear hb
  refine Zr ?_
  rw[bU _ _ (by rw[O2];rfl)]
  refine Zr ?_
  refine⟨fun _=> ?_,fun x=>absurd trivial x⟩
  refine aFS (d:=d) (b1▸hts) ?_
  rw[b1,b2]
  refine Zr ?_
  refine⟨fun q1=> ?_,fun q1=> ?_⟩
  ·rw[if_neg (fun n=>n q1)]at k
   refine aFV (fun q2=> ?_) (fun q2=> ?_)
   ·refine Zr ?_
    refine aFV (fun q3=> ?_) (fun q3=> ?_)
    ·refine Zr ?_
     rw[if_neg (by rintro(x|x);exact x (b1▸q2);exact x (b1▸q3))]at k
     refine aFU (d:=d) (b3▸hn) (b4▸hm) (b1▸hts) hoi (b1▸hj t htm) ?_
     refine Zr ?_
     refine⟨fun q4=> ?_,fun q4=> ?_⟩
     ·rw[if_neg (fun n=>n q4)]at k
      refine aFT (d:=d) (b3▸hn) (b1▸hts) hoo ?_
      refine Zr ?_
      exact fP k
     ·rw[if_pos q4]at k
      exact fP k
    ·refine Zr ?_
     rw[if_pos (.inr (fun x=>q3 (b1▸x)))]at k
     exact fP k
   ·refine Zr ?_
    rw[if_pos (.inl (fun x=>q2 (b1▸x)))]at k
    exact fP k
  ·rw[if_pos q1]at k
   exact fP k
 ·rw[if_pos q]at k
  simp only[go_sem,reduceAdd,reduceMul,reduceSub,aa,reduceEqDiff,reduceLT,YX]
  refine⟨fun q1=>absurd q1 q,fun _=>⟨fun q1=>absurd q1 q,fun _=> ?_⟩⟩
  exact fP k
end
section
attribute [local irreducible] cl
def xB(n0:Nat)(h:aL)(v:AV)(m:Mark):Prop:=v=dC m∨∃M,M.map ob=m∧kT n0 1 fo h v M
theorem xB.len{n0:Nat}{v:AV}{m:Mark}(q:xB n0 h v m)(h':aL):bO .sl [v] h'= .ok (iv m.length) h':=by
 rcases q with rfl|⟨M,rfl,s⟩
 ·rfl
 ·rw[s.len,List.length_map]
theorem xB.seen{n0:Nat}{v:AV}{m:Mark}(q:xB n0 h v m):Ev.aQ v=true:=by
 rcases q with rfl|⟨M,rfl,s⟩
 ·rfl
 ·exact s.seen
theorem xB.mono{n0:Nat}{h h':aL}{v:AV}{m:Mark}(q:xB n0 h v m)(hn:h.aA≤h'.aA)(hb:∀b,gO v b→aP h' b=aP h b):xB n0 h' v m:=by
 rcases q with rfl|⟨M,rfl,s⟩
 ·exact .inl rfl
 ·exact .inr ⟨M,rfl,s.mono hn hb⟩
theorem xB.own{n0:Nat}{v:AV}{m:Mark}(q:xB n0 h v m){b:Nat}(hb:gO v b):n0≤b∧b<h.aA:=by
 rcases q with rfl|⟨M,rfl,s⟩
 ·exact hb.elim
 ·exact s.own hb
theorem xB.ix{n0:Nat}{v:AV}{m:Mark}(q:xB n0 h v m){i:Nat}{x:dF}(e:m[i]?=some x):∃p y,cR none 1 v (some i)=some p∧aJ h (.one 0) p=some (foV y)∧ob y=x:=by
 rcases q with rfl|⟨M,rfl,s⟩
 ·exact⟨_,some x,bV (f:=fm) (n:=1) (fun _=>rfl) e,rfl,rfl⟩
 ·rw[List.getElem?_map]at e
  cases ey:M[i]? with
  |none=>rw[ey]at e;cases e
  |some y=>
   rw[ey]at e
   have hx:ob y=x:=by simpa using e
   have hi:=(aD.1 ey).1
   obtain⟨b,b1,b2,b3,b4,b5⟩:=s.ix hi
   refine⟨_,y,b3,?_,hx⟩
   have hr:bR (M.flatMap fo) (i*1)=some (foV y):=by
    have:=congrArg (fun l=>bR l 0) (oC (f:=fo) (n:=1) BZ ey)
    simp only[lQ,Nat.add_zero]at this
    rw[this,aFX];rfl
   show fO (i*1) (.one 0) (aP h b)=_
   rw[b4]
   exact hr
def dN(how:dF→dF→Int×dF):Mark→Mark→Int×Mark
 |a::m,b::n=>if¬(how a b).1=0 then((how a b).1,[])else if¬(dN how m n).1=0 then((dN how m n).1,[])else(0,(how a b).2::(dN how m n).2)
 |_,_=>(0,[])
def MZ(acc:Mark)(r:Int×Mark):Int×Mark:=if¬r.1=0 then(r.1,[])else(0,acc++r.2)
theorem oU{how:dF→dF→Int×dF}{m n:Mark}(h:m= []∨n= []):dN how m n=(0,[]):=by
 rcases h with rfl|rfl
 ·unfold dN;rfl
 ·cases m<;>rfl
theorem aB3{how:dF→dF→Int×dF}{fv:AV}{n0:Nat}{v:AV}{m n:Mark}(hs:aQ fv=true)(hv:xB n0 h v m)(hm:jG m)(hn:jG n)
  (hh:∀(x:Option dF) (b:dF) (g:aL) (K:KH),(ob x).length<2^21→b.length<2^21→K (.tuple [gF (how (ob x) b).2,iv (how (ob x) b).1]) g→CV fv [foV x,gF b] g K)
  (k:K (.tuple [dC (dN how m n).2,iv (dN how m n).1]) h):C 187 [v,dC n,fv] h K:=by
 refine bG (aNQ ?_)
 have zz:∀g e,bW h.aA h g→K (.tuple [dC [],iv e]) h→cl h K (.tuple [.aB,iv e]) g:=fun g e o q=>by
  unfold cl
  exact⟨o,_,.tuple (.cons .aB (.cons (.same rfl) .nil)),q⟩
 have hml:=hm.1
 have hnl:=hn.1
 rw[hv.len]
 refine Zr ?_
 obtain⟨L,hL⟩:∃L:Nat,L=min m.length n.length:=⟨_,rfl⟩
 rw[show min (m.length:Int) (n.length:Int)=(L:Int) by omega]
 refine Zr ?_
 rw[zL (by omega)]
 refine Zr ?_
 refine cD (σ:=Nat×aL×Mark) (fun p=> [iv p.1,iv L,fv,v,dC n,.slice h.aA 0 L L 0,.aB,iv 0]) (fun p=>p.2.1)
  (fun p=>p.1≤L∧bW h.aA h p.2.1∧h.aA+1≤p.2.1.aA∧kT h.aA 1 fo p.2.1 (.slice h.aA 0 L L 0) (p.2.2.map some++List.replicate (L-p.1) none)∧p.2.2.length=p.1∧dN how m n=MZ p.2.2 (dN how (m.drop p.1) (n.drop p.1)))
  (fun p=>L-p.1) ?_ (0,nw h (.cells (rP L [.aB])),[]) ⟨aH _,Oq,(by refine Zr ?_;omega),?_,rfl,?_⟩ (A:=XG) (cur:=0)
 ·rintro⟨i,g,acc⟩ ⟨hi,ho,hg,hS,hac,hE⟩
  simp only at hi ho hg hS hac hE
  refine aDJ ?_
  refine Zr ?_
  refine⟨fun hl=> ?_,fun hl=> ?_⟩
  ·have hl:i<L:=by omega
   have e1:=aC (show i<m.length by omega)
   have e2:=aC (show i<n.length by omega)
   have hmx:=hm.2 _ (List.getElem_mem (show i<m.length by omega))
   have hnx:=hn.2 _ (List.getElem_mem (show i<n.length by omega))
   have hvg:xB n0 g v m:=by
    rcases hv with e|⟨M,e,s⟩
    ·exact .inl e
    ·exact .inr ⟨M,e,s.mono (by omega) (fun b hb=>ho b (s.own hb).2)⟩
   obtain⟨p,y,p1,p2,p3⟩:=hvg.ix e1
   rw[p1]
   have p2:aJ (up g 18) (.one 0) p=some (foV y):=by
    cases p<;>first|exact p2|(rw[ZN]at p2⊢;rw[cM];exact p2)
   refine Z1 p2 ?_
   rw[bV (f:=fm) (n:=1) (fun _=>rfl) e2]
   refine Zr ?_
   refine hh y _ _ _ (by rw[p3];exact hmx) hnx ?_
   rw[p3]
   have st:dN how (m.drop i) (n.drop i)=if¬(how m[i] n[i]).1=0 then((how m[i] n[i]).1,[])else if¬(dN how (m.drop (i+1)) (n.drop (i+1))).1=0 then((dN how (m.drop (i+1)) (n.drop (i+1))).1,[])else(0,(how m[i] n[i]).2::(dN how (m.drop (i+1)) (n.drop (i+1))).2):=by
    rw[List.drop_eq_getElem_cons (show i<m.length by omega),List.drop_eq_getElem_cons (show i<n.length by omega)];rfl
   obtain⟨r,hr⟩:∃r,r=how m[i] n[i]:=⟨_,rfl⟩
   rw[←hr]at st⊢
   have hS3:=hS.mono (h':=up g 18) (by rw[cW];omega) (fun b hb=>cM _ _ _)
   have hil:i<(acc.map some++List.replicate (L-i) (none:Option dF)).length:=by simp;omega
   obtain⟨b,b1,b2,b3,b4,b5⟩:=hS3.ix (i:=i) hil
   refine Zr ?_
   rw[b3]
   refine Zr ?_
   rw[cM]at b4
   have hrf:=lP (f:=fo) (n:=1) BZ hil (some r.2)
   have hst:(acc.map some++List.replicate (L-i) (none:Option dF)).set i (some r.2)=(acc++ [r.2]).map some++List.replicate (L-(i+1)) none:=by
    have:=GO (acc.map some) (none:Option dF) (some r.2) (L-(i+1))
    rw[show L-(i+1)+1=L-i by omega,List.length_map,hac]at this
    rw[this,List.map_append];rfl
   rw[hst]at hrf
   have hrf:aV ((acc.map some++List.replicate (L-i) (none:Option dF)).flatMap fo) (i*1) [gF r.2]=_:=hrf
   refine Z2 b4 hrf ?_
   refine⟨fun q=> ?_,fun q=> ?_⟩
   ·rw[if_neg (fun n=>n q)]at st
    refine bT (by omega) (by omega) ⟨⟨rfl,hs,hv.seen⟩,(i+1,bI (up g 18) b (.cells (((acc++ [r.2]).map some++List.replicate (L-(i+1)) none).flatMap fo)),acc++ [r.2]),⟨hl,?_,?_,?_,?_,?_⟩,(by omega),rfl,rfl⟩
    ·show bW _ _ (bI _ _ _)
     exact ho.up.set (by omega)
    ·show _≤(bI _ _ _).aA
     rw[bC,cW];omega
    ·exact hS3.put b5 _ (by simp;omega)
    ·simp[hac]
    ·show _=MZ (acc++ [r.2]) (dN how (m.drop (i+1)) (n.drop (i+1)))
     rw[hE,st]
     unfold MZ
     by_cases z:(dN how (m.drop (i+1)) (n.drop (i+1))).1=0
     ·simp[z]
     ·simp[z]
   ·rw[if_pos q]at st
    rw[hE,st]at k
    unfold MZ at k
    rw[if_pos q]at k
    exact⟨⟨hs,hv.seen⟩,zz _ _ (ho.up.set (by omega)) k⟩
  ·have:i=L:=by omega
   subst this
   have hnil:m.drop i= []∨n.drop i= []:=by
    rcases Nat.le_total m.length n.length with h|h
    ·exact .inl (List.drop_eq_nil_of_le (by omega))
    ·exact .inr (List.drop_eq_nil_of_le (by omega))
   rw[oU hnil]at hE
   unfold MZ at hE
   rw[if_neg (fun n=>n rfl),List.append_nil]at hE
   rw[hE]at k
   rw[Nat.sub_self,List.replicate_zero,List.append_nil]at hS
   have hz:=hS.fzo (m:=h.aA) (aE _)
   rw[List.map_map]at hz
   have:(ob∘some)=(id:dF→dF):=rfl
   rw[this,List.map_id]at hz
   unfold cl
   exact⟨⟨hs,hv.seen⟩,ho,_,.tuple (.cons hz (.cons (.same rfl) .nil)),k⟩
 ·have:=kT.row (n0:=h.aA) (n:=1) (f:=fo) (h:=nw h (.cells (rP L [.aB]))) (l:=List.replicate L (none:Option dF)) (b:=h.aA) L 0 (aE _) (by refine Zr ?_;omega) (by
   refine Zr ?_
   rw[pT]
   congr 2
   generalize L=q
   induction q with
   |zero=>rfl
   |succ q ih=>rw[List.replicate_succ,List.replicate_succ,List.flatMap_cons,ih];rfl)
  simpa using this
 ·show _=MZ [] (dN how m n)
  unfold MZ
  split
  ·rename_i q
   have:∀(m n:Mark),¬(dN how m n).1=0→(dN how m n).2= []:=by
    intro m
    induction m with
    |nil=>intro n h;unfold dN;rfl
    |cons a m ih=>
     intro n h
     cases n with
     |nil=>rfl
     |cons b n=>
      unfold dN at h⊢
      split
      ·rfl
      ·split
       ·rfl
       ·rename_i h1 h2;rw[if_neg h1,if_neg h2]at h;exact absurd rfl h
   rw[←this m n q]
  ·rename_i q
   have q:(dN how m n).1=0:=Classical.byContradiction q
   rw[List.nil_append,←q]
end
section
attribute [local irreducible] cl
theorem aFQ{x:Option dF}{b:dF}(ha:(ob x).length<2^21)(hb:b.length<2^21)(k:K (.tuple [gF (mD (ob x) b).2,iv (mD (ob x) b).1]) h):C 188 [foV x,gF b] h K:=by
 cases x with
 |none=>exact M1 (.aB (.same .nil)) (aF2 (a:= []) ha hb k)
 |some a=>exact aF2 ha hb k
def mX(d:Nat)(n:dL)(m:Mark)(o:Mode):Int×Mark:=if¬eQ d n m o=0 then(eQ d n m o,[])else if¬(fW d n o).1=0 then((fW d n o).1,[])else dN mD m (fW d n o).2
def iL(d:Nat)(n:dL)(m:Mark)(o:Mode):Int×Mark:=if¬(fW d n o).1=0 then((fW d n o).1,[])else dN i6 m (fW d n o).2
def jU(l:List Int)(m:Mark):Mark:=l.foldl (fun(m:Mark) (k:Int)=>if 0≤k∧k<(m.length:Int)then m.set k.toNat []else m) m
def GM(n:dL)(o:Mode):List Int:=match n.tasks[o.task.toNat]? with
 |some t=>t.cancel
 |none=> []
def vF(d:Nat)(n:dL)(m:Mark)(o:Mode):Int×Mark:=if¬(iF d n o).1=0 then((iF d n o).1,[])else dN i6 (jU (GM n o) m) (iF d n o).2
theorem E7{d:Nat}{n:dL}{o:Mode}(hn:dR d n)(hi:o.ins.length<2^20):jG (fW d n o).2:=by
 unfold fW
 split
 ·exact⟨by simp,by simp⟩
 ·split
  ·exact GN hn hi
  ·exact⟨by simp,by simp⟩
theorem RF{d:Nat}{n:dL}{o:Mode}(hn:dR d n)(hi:o.outs.length<2^20):jG (iF d n o).2:=by
 unfold iF
 split
 ·exact⟨by simp,by simp⟩
 ·split
  ·exact GN hn hi
  ·exact⟨by simp,by simp⟩
structure dO(o:Mode):Prop where
 vars:o.vars.length<2^20
 ins:o.ins.length<2^20
 outs:o.outs.length<2^20
theorem dO.sm{o:Mode}(h:dO o):vG o:=⟨by have:=h.vars;omega,by have:=h.ins;omega,by have:=h.outs;omega⟩
theorem c92{d:Nat}{n:dL}{m:Mark}{o:Mode}(hn:dR d n)(hj:k7 n)(hm:jG m)(ho:dO o)(k:K (.tuple [dC (mX d n m o).2,iv (mX d n m o).1]) h):C 92 [.agg (eN n),dC m,.agg (iU o)] h K:=by
 refine bG (e92 ?_)
 unfold mX at k
 have hv:=ho.vars
 have zz:∀g e,bW h.aA h g→K (.tuple [dC [],iv e]) h→cl h K (.tuple [.aB,iv e]) g:=fun g e o q=>by
  unfold cl
  exact⟨o,_,.tuple (.cons .aB (.cons (.same rfl) .nil)),q⟩
 refine Zr ?_
 refine c89 (d:=d) hn hj hm ho.sm ho.ins ho.outs ?_
 refine Zr ?_
 refine⟨fun q=> ?_,fun q=> ?_⟩
 ·rw[if_neg (fun n=>n q)]at k
  refine c56 (d:=d) hn (by omega) ho.ins ?_
  refine Zr ?_
  refine⟨fun q2=> ?_,fun q2=> ?_⟩
  ·rw[if_neg (fun n=>n q2)]at k
   refine aB3 (how:=mD) (n0:=0) rfl (.inl rfl) hm (E7 hn ho.ins) (fun x b g K h1 h2 k=> ?_) ?_
   ·refine Zr ?_
    exact aFQ h1 h2 k
   ·refine Zr ?_
    exact bA Oq (eA (aY (cN mZ _) rfl)) k
  ·rw[if_pos q2]at k
   exact zz _ _ Oq k
 ·rw[if_pos q]at k
  exact zz _ _ Oq k
theorem aB2{d:Nat}{n:dL}{m:Mark}{o:Mode}(hn:dR d n)(hm:jG m)(ho:dO o)(k:K (.tuple [dC (iL d n m o).2,iv (iL d n m o).1]) h):C 100 [.agg (eN n),dC m,.agg (iU o)] h K:=by
 refine bG (aNR ?_)
 unfold iL at k
 have hv:=ho.vars
 have zz:∀g e,bW h.aA h g→K (.tuple [dC [],iv e]) h→cl h K (.tuple [.aB,iv e]) g:=fun g e o q=>by
  unfold cl
  exact⟨o,_,.tuple (.cons .aB (.cons (.same rfl) .nil)),q⟩
 refine Zr ?_
 refine c56 (d:=d) hn (by omega) ho.ins ?_
 refine Zr ?_
 refine⟨fun q2=> ?_,fun q2=> ?_⟩
 ·rw[if_neg (fun n=>n q2)]at k
  refine aB3 (how:=i6) (n0:=0) rfl (.inl rfl) hm (E7 hn ho.ins) (fun x b g K h1 h2 k=> ?_) ?_
  ·refine Zr ?_
   exact aB8 h1 h2 k
  ·refine Zr ?_
   exact bA Oq (eA (aY (cN mZ _) rfl)) k
 ·rw[if_pos q2]at k
  exact zz _ _ Oq k
theorem kT.toO{n0:Nat}{v:AV}{m:Mark}(q:kT n0 1 fm h v m):kT n0 1 fo h v (m.map some):=by
 cases q with
 |aB=>exact .aB
 | @row b _ c k h1 h2 h3=>
  have e:(m.map some).flatMap fo=m.flatMap fm:=by rw[List.flatMap_map];rfl
  have:=kT.row (n0:=n0) (n:=1) (f:=fo) (h:=h) (b:=b) (l:=m.map some) c k h1 h2 (by rw[e];exact h3)
  rwa[List.length_map]at this
theorem pR(k:Int)(l:List Int)(m:Mark):jU (k::l) m=jU l (if 0≤k∧k<m.length then m.set k.toNat []else m):=rfl
theorem BW:∀(l:List Int) {m:Mark},jG m→jG (jU l m)
 | [],m,h=>h
 |k::l,m,h=>by
  rw[pR]
  refine BW l ?_
  split
  ·refine⟨by rw[List.length_set];exact h.1,fun b hb=> ?_⟩
   rcases List.mem_or_eq_of_mem_set hb with hb|rfl
   ·exact h.2 b hb
   ·simp
  ·exact h
theorem c99{d:Nat}{n:dL}{m:Mark}{o:Mode}(hn:dR d n)(hm:jG m)(ho:dO o)(k:K (.tuple [dC (vF d n m o).2,iv (vF d n m o).1]) h):C 99 [.agg (eN n),dC m,.agg (iU o)] h K:=by
 refine bG (e99 ?_)
 unfold vF at k
 have hv:=ho.vars
 have zz:∀g e,bW h.aA h g→K (.tuple [dC [],iv e]) h→cl h K (.tuple [.aB,iv e]) g:=fun g e o q=>by
  unfold cl
  exact⟨o,_,.tuple (.cons .aB (.cons (.same rfl) .nil)),q⟩
 refine Zr ?_
 refine c57 (d:=d) hn (by omega) ho.outs ?_
 refine Zr ?_
 refine⟨fun q2=> ?_,fun q2=> ?_⟩
 ·rw[if_neg (fun n=>n q2)]at k
  have henv:(hY n o.task o.vars).1=0:=Classical.byContradiction fun q=>by
   unfold iF at q2
   rw[if_pos q]at q2
   exact q q2
  obtain⟨h0,h1,t,ht⟩:=n9 henv
  have hcs:GM n o=t.cancel:=by unfold GM;rw[ht]
  have hts:=hn.task t (aG ht)
  have htc:=hts.cancel
  rw[hcs]at k
  refine aFZ hm (fun g v og ng s=> ?_)
  have gn:h.aA+2≤g.aA:=by have:=ng;rw[aT,aT]at this;omega
  have g0:aP g h.aA=some (.cells (eN n)):=by rw[og _ (by rw[aT,aT];omega)];exact Zr trivial
  have g1:aP g (h.aA+1)=some (.cells (iU o)):=by rw[og _ (by rw[aT,aT];omega)];exact Zr trivial
  have oh:bW h.aA h g:=fun b hb=>by rw[og b (by rw[aT,aT];omega),bF,if_neg (by rw[aT];omega),bF,if_neg (by omega)]
  have s:kT (h.aA+2) 1 fo g v (m.map some):=by have:=s.toO;rw[aT,aT]at this;exact this
  clear og ng
  refine Z2 g0 g1 ?_
  rw[cS h0,bV eS ht]
  refine Zr ?_
  have hex:jU t.cancel m=jU t.cancel ((m.map some).map ob):=by
   rw[List.map_map]
   have:(ob∘some)=(id:dF→dF):=rfl
   rw[this,List.map_id]
  refine cD (σ:=Nat×aL×List (Option dF)) (fun p=> [iv p.1,iv t.cancel.length,ints t.cancel,v,dC (iF d n o).2]) (fun p=>p.2.1)
   (fun p=>p.1≤t.cancel.length∧bW h.aA h p.2.1∧g.aA≤p.2.1.aA∧kT (h.aA+2) 1 fo p.2.1 v p.2.2∧jU t.cancel m=jU (t.cancel.drop p.1) (p.2.2.map ob))
   (fun p=>t.cancel.length-p.1) ?_ (0,g,m.map some) ⟨aH _,oh,aE _,s,hex⟩ (A:=aDK) (cur:=0)
  rintro⟨i,G,M⟩ ⟨hi,ho2,hg,hS,hE⟩
  simp only at hi ho2 hg hS hE
  refine aHZ ?_
  refine Zr ?_
  refine⟨fun hl=> ?_,fun hl=> ?_⟩
  ·have hl:i<t.cancel.length:=by omega
   have e:=aC hl
   rw[bV (f:=fi) (n:=1) (fun _=>rfl) e]
   refine Zr ?_
   obtain⟨c,hc⟩:∃c,c=t.cancel[i]:=⟨_,rfl⟩
   rw[←hc]
   rw[List.drop_eq_getElem_cons hl,pR,←hc,List.length_map]at hE
   refine⟨fun q3=> ?_,fun q3=> ?_⟩
   ·rw[hS.len]
    refine Zr ?_
    refine⟨fun q4=> ?_,fun q4=> ?_⟩
    ·rw[if_pos ⟨q3,q4⟩]at hE
     have hct:c.toNat<M.length:=by omega
     obtain⟨b,b1,b2,b3,b4,b5⟩:=hS.ix hct
     rw[cS q3,b3]
     refine Zr ?_
     have hrf:=lP (f:=fo) (n:=1) BZ hct none
     have hrf:aV (M.flatMap fo) (c.toNat*1) [.aB]=_:=hrf
     refine Z2 b4 hrf ?_
     refine bT (by omega) (by omega) ⟨⟨rfl,hS.seen⟩,(i+1,bI G b (.cells ((M.set c.toNat none).flatMap fo)),M.set c.toNat none),⟨hl,?_,?_,?_,?_⟩,(by omega),rfl,rfl⟩
     ·show bW _ _ (bI _ _ _)
      exact ho2.set (by omega)
     ·show _≤(bI _ _ _).aA
      rw[bC];exact hg
     ·exact hS.put b5 _ (by simp)
     ·show _=jU (t.cancel.drop (i+1)) ((M.set c.toNat none).map ob)
      rw[hE,List.map_set];rfl
    ·rw[if_neg (fun x=>q4 x.2)]at hE
     refine bT (by omega) (by omega) ⟨⟨rfl,hS.seen⟩,(i+1,G,M),⟨hl,ho2,hg,hS,hE⟩,(by omega),rfl,rfl⟩
   ·rw[if_neg (fun x=>q3 x.1)]at hE
    refine bT (by omega) (by omega) ⟨⟨rfl,hS.seen⟩,(i+1,G,M),⟨hl,ho2,hg,hS,hE⟩,(by omega),rfl,rfl⟩
  ·have:i=t.cancel.length:=by omega
   subst this
   rw[List.drop_length]at hE
   have hE:jU t.cancel m=M.map ob:=hE
   refine⟨hS.seen,?_⟩
   refine aB3 (how:=i6) (n0:=h.aA+2) rfl (.inr ⟨M,hE.symm,hS⟩) (BW _ hm) (RF hn ho.outs) (fun x b g K h1 h2 k=> ?_) ?_
   ·refine Zr ?_
    exact aB8 h1 h2 k
   ·refine Zr ?_
    exact bA ho2 (eA (aY (cN mZ _) rfl)) k
 ·rw[if_pos q2]at k
  exact zz _ _ Oq k
end
section
def fF(n:Nat):List Int:=List.replicate n 0
def IH:List Int→List Int→Option (List Int)
 |s::ss,x::xs=>match IH ss xs with
  |some ys=>some (x::ys)
  |none=>if s≤x+1 then none else some ((x+1)::fF xs.length)
 |_,_=>none
def fM:List Int→List (List Int)
 | []=> [[]]
 |s::ss=>(List.range (max s 1).toNat).flatMap fun(x:Nat)=>(fM ss).map ((x:Int)::·)
theorem EA:∀(ss:List Int),0<(fM ss).length
 | []=>by simp[fM]
 |s::ss=>by
  have:=EA ss
  obtain⟨m,hm⟩:∃m,(max s 1).toNat=m+1:=⟨(max s 1).toNat-1,by omega⟩
  show 0<((List.range (max s 1).toNat).flatMap fun(x:Nat)=>(fM ss).map ((x:Int)::·)).length
  rw[hm,List.range_succ,List.flatMap_append]
  simp;omega
theorem EB{α β:Type}{f:α→List β}{n:Nat}(hf:∀x,(f x).length=n):∀(l:List α) (i j:Nat),j<n→(l.flatMap f)[i*n+j]?=(l[i]?).bind fun x=>(f x)[j]?
 | [],i,j,_=>by simp
 |x::l,0,j,hj=>by
  rw[List.flatMap_cons,Nat.zero_mul,Nat.zero_add,List.getElem?_append_left (by rw[hf];exact hj)]
  rfl
 |x::l,i+1,j,hj=>by
  rw[List.flatMap_cons,List.getElem?_append_right (by rw[hf,Nat.succ_mul];omega),hf,show(i+1)*n+j-n=i*n+j by rw[Nat.succ_mul];omega,EB hf l i j hj]
  rfl
theorem kS:∀{ss v:List Int},v∈fM ss→v.length=ss.length
 | [],v,h=>by rw[List.mem_singleton.1 h]
 |s::ss,v,h=>by
  obtain⟨x,_,hx⟩:=List.mem_flatMap.1 h
  obtain⟨w,hw,rfl⟩:=List.mem_map.1 hx
  simp[kS hw]
theorem yH:∀(ss:List Int),(fM ss)[0]?=some (fF ss.length)
 | []=>rfl
 |s::ss=>by
  have h0:=EA ss
  have:=EB (f:=fun(x:Nat)=>(fM ss).map ((x:Int)::·)) (n:=(fM ss).length) (by simp) (List.range (max s 1).toNat) 0 0 h0
  rw[Nat.zero_mul,Nat.zero_add]at this
  show((List.range (max s 1).toNat).flatMap fun(x:Nat)=>(fM ss).map ((x:Int)::·))[0]?=_
  rw[this,List.getElem?_range (by omega)]
  show((fM ss).map _)[0]?=_
  rw[List.getElem?_map,yH ss]
  rfl
theorem GB:∀(ss:List Int) (k:Nat) (v:List Int),(fM ss)[k]?=some v→IH ss v=(fM ss)[k+1]?
 | [],k,v,h=>by
  cases k with
  |zero=>cases h;rfl
  |succ k=>cases h
 |s::ss,k,v,h=>by
  obtain⟨N,hN⟩:∃N,N=(fM ss).length:=⟨_,rfl⟩
  have hN0:0<N:=by rw[hN];exact EA ss
  have hlen:∀x:Nat,((fun(x:Nat)=>(fM ss).map ((x:Int)::·)) x).length=N:=fun x=>by simp[hN]
  have at_:=EB hlen (List.range (max s 1).toNat)
  have hk:k=(k/N)*N+k%N:=by rw[Nat.mul_comm];exact(Nat.div_add_mod k N).symm
  have hj:k%N<N:=Nat.mod_lt _ hN0
  obtain⟨i,hi⟩:∃i,i=k/N:=⟨_,rfl⟩
  obtain⟨j,hj2⟩:∃j,j=k%N:=⟨_,rfl⟩
  rw[←hi,←hj2]at hk
  rw[←hj2]at hj
  have h:((List.range (max s 1).toNat).flatMap fun(x:Nat)=>(fM ss).map ((x:Int)::·))[k]?=some v:=h
  rw[hk,at_ i j hj]at h
  by_cases hir:i<(max s 1).toNat
  ·rw[List.getElem?_range hir]at h
   have h:((fM ss).map ((i:Int)::·))[j]?=some v:=h
   rw[List.getElem?_map]at h
   cases hw:(fM ss)[j]? with
   |none=>rw[hw]at h;cases h
   |some w=>
    rw[hw]at h
    cases h
    have ih:=GB ss j w hw
    have hwl:=kS (aG hw)
    show(match IH ss w with|some ys=>some ((i:Int)::ys)|none=>if s≤(i:Int)+1 then none else some (((i:Int)+1)::fF w.length))=((List.range (max s 1).toNat).flatMap fun(x:Nat)=>(fM ss).map ((x:Int)::·))[k+1]?
    rw[ih]
    by_cases hj1:j+1<N
    ·rw[show k+1=i*N+(j+1) by omega,at_ i (j+1) hj1,List.getElem?_range hir]
     show _=((fM ss).map ((i:Int)::·))[j+1]?
     rw[List.getElem?_map,aC (show j+1<(fM ss).length by omega)]
     rfl
    ·have hjn:j+1=N:=by omega
     rw[List.getElem?_eq_none (show(fM ss).length≤j+1 by omega)]
     have hk1:k+1=(i+1)*N+0:=by rw[Nat.succ_mul];omega
     rw[hk1,at_ (i+1) 0 hN0]
     show(if s≤(i:Int)+1 then none else some (((i:Int)+1)::fF w.length))=_
     by_cases hs:s≤(i:Int)+1
     ·rw[if_pos hs,List.getElem?_eq_none (by simp;omega)];rfl
     ·rw[if_neg hs,List.getElem?_range (by omega)]
      show _=((fM ss).map (((i+1:Nat):Int)::·))[0]?
      rw[List.getElem?_map,yH ss,hwl]
      simp
  ·rw[List.getElem?_eq_none (by simp;omega)]at h
   cases h
theorem L6:∀{ss v:List Int},(v.length=ss.length∧∀(i:Nat) s x,ss[i]?=some s→v[i]?=some x→0≤x∧x<s)→v∈fM ss
 | [],v,h=>by
  have:v= []:=List.length_eq_zero_iff.1 h.1
  subst this;exact List.mem_singleton.2 rfl
 |s::ss,[],h=>by simp at h
 |s::ss,x::v,h=>by
  obtain⟨h1,h2⟩:=h
  have h0:=h2 0 s x rfl rfl
  refine List.mem_flatMap.2 ⟨x.toNat,List.mem_range.2 (by omega),List.mem_map.2 ⟨v,L6 ⟨by simpa using h1,fun i s' x' hs hx=>h2 (i+1) s' x' (by simpa using hs) (by simpa using hx)⟩,?_⟩⟩
  have:((x.toNat:Nat):Int)=x:=by omega
  rw[this]
theorem L7:∀{ss v:List Int},v∈fM ss→∀x∈v,0≤x∧∃s∈ss,x<max s 1
 | [],v,h=>by rw[List.mem_singleton.1 h];simp
 |s::ss,v,h=>by
  obtain⟨x,hx,hv⟩:=List.mem_flatMap.1 h
  obtain⟨w,hw,rfl⟩:=List.mem_map.1 hv
  intro y hy
  rcases List.mem_cons.1 hy with rfl|hy
  ·exact⟨by omega,s,List.mem_cons_self ..,by have:=List.mem_range.1 hx;omega⟩
  ·obtain⟨h1,s',h2,h3⟩:=L7 hw y hy
   exact⟨h1,s',List.mem_cons_of_mem _ h2,h3⟩
theorem QM:∀(k:Nat) (ss v w:List Int),k≤v.length→ss.length=v.length→IH (ss.drop k) (v.drop k)=some w→IH ss v=some (v.take k++w)
 |0,ss,v,w,_,_,h=>by simpa using h
 |k+1,[],[],w,hk,_,h=>by simp at hk
 |k+1,s::ss,[],w,hk,hl,h=>by simp at hl
 |k+1,[],x::v,w,hk,hl,h=>by simp at hl
 |k+1,s::ss,x::v,w,hk,hl,h=>by
  have:=QM k ss v w (by simpa using hk) (by simpa using hl) (by simpa using h)
  show(match IH ss v with|some ys=>some (x::ys)|none=>_)=_
  rw[this];rfl
end
section
def RE(sz:Int)(b:dF):Prop:=eF b∧∀r∈b,r.1<sz
theorem RE.cnt{sz:Int}{b:dF}(h:RE sz b){m:Int}(e:cnt b m≠0):m<sz:=h.2 _ (mJ e)
theorem ZC{a b:dF}(h:(i6 a b).1=0):eF a∧eF b∧¬O7 a b∧(i6 a b).2=JX a b:=by
 unfold i6 at h⊢
 split at h
 ·cases h
 ·rename_i h1
  split at h
  ·cases h
  ·rename_i h2
   have h1:eF a∧eF b:=Classical.byContradiction h1
   rw[if_neg (fun q=>q h1),if_neg h2]
   exact⟨h1.1,h1.2,h2,rfl⟩
theorem TV{a b:dF}(h:(mD a b).1=0):eF a∧eF b∧EP b a∧(mD a b).2=CL a b:=by
 unfold mD at h⊢
 split at h
 ·cases h
 ·rename_i h1
  split at h
  ·cases h
  ·rename_i h2
   have h1:eF a∧eF b:=Classical.byContradiction h1
   have h2:EP b a:=Classical.byContradiction h2
   rw[if_neg (fun q=>q h1),if_neg (fun q=>q h2)]
   exact⟨h1.1,h1.2,h2,rfl⟩
theorem MY{a b:dF}(ha:eF a)(hb:eF b)(h:EP b a):(mD a b).1=0:=by
 unfold mD
 rw[if_neg (fun q=>q ⟨ha,hb⟩),if_neg (fun q=>q h)]
theorem O1{sz:Int}{a b:dF}(ha:RE sz a)(hb:RE sz b)(h:(i6 a b).1=0):RE sz (i6 a b).2:=by
 obtain⟨h1,h2,h3,h4⟩:=ZC h
 rw[h4]
 have hp:=aCd h1 h2 h3
 refine⟨hp,fun r hr=> ?_⟩
 have h5:=uM hp.S hr
 have h6:=(hp.2 r hr).2.1
 rw[CM h1 h2]at h5
 by_cases e:Ev.cnt a r.1=0
 ·exact hb.cnt (m:=r.1) (by omega)
 ·exact ha.cnt e
theorem TW{sz:Int}{a b:dF}(ha:RE sz a)(h:(mD a b).1=0):RE sz (mD a b).2:=by
 obtain⟨h1,h2,h3,h4⟩:=TV h
 rw[h4]
 have hp:=ZJ h1 h2 h3
 refine⟨hp,fun r hr=> ?_⟩
 have h5:=uM hp.S hr
 have h6:=(hp.2 r hr).2.1
 rw[xJ h1 h2 h3]at h5
 have h7:=eU h2.S r.1
 exact ha.cnt (m:=r.1) (by omega)
theorem JQ{how:dF→dF→Int×dF}:∀{m k:Mark},(dN how m k).1=0→(dN how m k).2.length=min m.length k.length∧∀(i:Nat) a b,m[i]?=some a→k[i]?=some b→(how a b).1=0∧(dN how m k).2[i]?=some (how a b).2
 | [],k,h=>by rw[oU (.inl rfl)];exact⟨by simp,fun i a b e=>by cases e⟩
 |a::m,[],h=>by rw[oU (.inr rfl)];exact⟨by simp,fun i a b _ e=>by cases e⟩
 |a::m,b::k,h=>by
  have un:dN how (a::m) (b::k)=if¬(how a b).1=0 then((how a b).1,[])else if¬(dN how m k).1=0 then((dN how m k).1,[])else(0,(how a b).2::(dN how m k).2):=by rw[dN]
  rw[un]at h⊢
  by_cases h1:(how a b).1=0
  ·rw[if_neg (fun q=>q h1)]at h⊢
   by_cases h2:(dN how m k).1=0
   ·rw[if_neg (fun q=>q h2)]at h⊢
    obtain⟨i1,i2⟩:=JQ h2
    refine⟨by simp[i1],fun i x y ex ey=> ?_⟩
    cases i with
    |zero=>cases ex;cases ey;exact⟨h1,rfl⟩
    |succ i=>exact i2 i x y (by simpa using ex) (by simpa using ey)
   ·rw[if_pos h2]at h;exact absurd h h2
  ·rw[if_pos h1]at h;exact absurd h h1
theorem BV{how:dF→dF→Int×dF}:∀{m k:Mark},(∀(i:Nat) a b,m[i]?=some a→k[i]?=some b→(how a b).1=0)→(dN how m k).1=0
 | [],k,h=>by rw[oU (.inl rfl)]
 |a::m,[],h=>by rw[oU (.inr rfl)]
 |a::m,b::k,h=>by
  have un:dN how (a::m) (b::k)=if¬(how a b).1=0 then((how a b).1,[])else if¬(dN how m k).1=0 then((dN how m k).1,[])else(0,(how a b).2::(dN how m k).2):=by rw[dN]
  rw[un,if_neg (fun q=>q (h 0 a b rfl rfl)),if_neg (fun q=>q (BV (fun i x y ex ey=>h (i+1) x y (by simpa using ex) (by simpa using ey))))]
end
section
attribute [local irreducible] cl
theorem GA:∀(l:List cC) (acc:List Int) (had:List (List Nat)) (n:List Int),nS l acc had=some n→(∀x∈acc,1≤x∧x≤1024)→∀x∈n,1≤x∧x≤1024
 | [],acc,had,n,h,ha=>by cases h;exact ha
 |c::l,acc,had,n,h,ha=>by
  unfold nS at h
  split at h
  ·rename_i q
   refine GA l _ _ n h (fun x hx=> ?_)
   rcases List.mem_append.1 hx with hx|hx
   ·exact ha x hx
   ·rw[List.mem_singleton.1 hx];exact⟨q.2.2.1,q.2.2.2⟩
  ·cases h
theorem uX(l:List cC)(k:Int):0≤fD l k∧fD l k≤1024:=by
 unfold fD
 cases e:SY l k with
 |none=>simp
 |some n=>
  obtain⟨h1,h2,h3,h4⟩:=wN e
  unfold nT at h1
  split at h1
  ·cases h1
  ·have hin:n.getD k.toNat 0∈n:=by
    have:=getD_some (l:=n) h2 h4
    exact aG this
   have:=GA l [] [] n h1 (by simp) _ hin
   show 0≤n.getD k.toNat 0∧n.getD k.toNat 0≤1024
   omega
def iS(n:dL)(t:Task):List Int:=t.vars.map fun v=>fD n.colours v.colour
theorem kT.rdI{n0:Nat}{v:AV}{l:List Int}(q:kT n0 1 fi h v l):rO 1 fi h v l:=by
 cases q with
 |aB=>exact .inr (.inl ⟨rfl,rfl⟩)
 | @row b _ c k h1 h2 h3=>
  refine .inr (.inr ⟨b,0,c,k,_,rfl,h3,?_,h2⟩)
  rw[List.drop_zero,List.take_of_length_le (by rw[dA (n:=1) (fun _=>rfl)];omega)]
theorem kT.get1{n0:Nat}{v:AV}{l:List Int}(q:kT n0 1 fi h v l){i:Nat}{x:Int}(e:l[i]?=some x):∃b,n0≤b∧b<h.aA∧cR none 1 v (some i)=some (.ptr b i)∧aP h b=some (.cells (l.flatMap fi))∧gO v b∧bR (l.flatMap fi) i=some (iv x):=by
 obtain⟨b,b1,b2,b3,b4,b5⟩:=q.ix (aD.1 e).1
 refine⟨b,b1,b2,by rw[b3,Nat.mul_one],b4,b5,?_⟩
 have:=congrArg (fun l=>bR l 0) (oC (f:=fi) (n:=1) (fun _=>rfl) e)
 simp only[lQ,Nat.add_zero,Nat.mul_one]at this
 rw[this];rfl
theorem aNS{d:Nat}{yv:AV}{pt pn:Nat}{t:Task}{n:dL}(hys:aQ yv=true)(hn:dR d n)(ht:oO d t)(Inv:Nat→aL→Prop)(Stop:aL→Prop)(hpt:aP h pt=some (.cells (eT t)))
  (hin:∀k g,Inv k g→aP g pt=some (.cells (eT t))∧aP g pn=some (.cells (eN n))∧h.aA<g.aA)
  (hmv:∀k g g',Inv k g→g.aA≤g'.aA→(∀b,b≠h.aA→b<g.aA→aP g' b=aP g b)→Inv k g')
  (h0:Inv 0 (nw h (.cells (rP t.vars.length [iv 0]))))
  (step:∀k v g K',(fM (iS n t))[k]?=some v→Inv k g→(∀g',aP g' h.aA=aP g h.aA→Inv (k+1) g'→K' (.bool true) g')→(∀g',Stop g'→K' (.bool false) g')→CV yv [ints v] g K')
  (hend:∀g,Inv (fM (iS n t)).length g→K (.tuple []) g) (hstop:∀g,Stop g→K (.tuple []) g):C 287 [yv,.ptr pt 0,.ptr pn 0] h K:=by
 refine aNT ?_
 have htv:=ht.vars
 have hsl:(iS n t).length=t.vars.length:=by unfold iS;simp
 refine Zr ?_
 rw[hpt]
 refine Zr ?_
 rw[zL (by omega)]
 refine Zr ?_
 obtain⟨vv,hvv⟩:∃vv,vv=AV.slice h.aA 0 t.vars.length t.vars.length 0:=⟨_,rfl⟩
 rw[←hvv]
 have hvs:aQ vv=true:=by rw[hvv];rfl
 have hvo:∀b,gO vv b→b=h.aA:=fun b hb=>by rw[hvv]at hb;exact hb
 have hvl:∀h',bO .sl [vv] h'= .ok (iv t.vars.length) h':=fun h'=>by rw[hvv];rfl
 have mk:∀(g:aL) (v:List Int),h.aA<g.aA→v.length=t.vars.length→aP g h.aA=some (.cells (v.flatMap fi))→kT h.aA 1 fi g vv v:=fun g v h1 h2 h3=>by
  rw[hvv,←h2];exact .row _ _ (aE _) h1 h3
 clear hvv
 refine cD (σ:=Nat×List Int×aL) (fun p=> [yv,vv,.ptr pn 0,.ptr pt 0]) (fun p=>p.2.2)
  (fun p=>(fM (iS n t))[p.1]?=some p.2.1∧Inv p.1 p.2.2∧aP p.2.2 h.aA=some (.cells (p.2.1.flatMap fi))) (fun p=>(fM (iS n t)).length-p.1) ?_ (0,fF t.vars.length,nw h (.cells (rP t.vars.length [iv 0]))) ⟨by rw[←hsl];exact yH _,h0,?_⟩ (A:=L8) (cur:=0)
 ·rintro⟨k,v,g⟩ ⟨hk,hI,hS⟩
  simp only at hk hI hS
  have hkl:=(aD.1 hk).1
  have hvm:=aG hk
  have hvlen:v.length=t.vars.length:=by rw[kS hvm,hsl]
  obtain⟨j1,j2,j3⟩:=hin _ _ hI
  refine aDM ?_
  refine YY (mk g v j3 hvlen hS).rdI (by omega) ?_
  refine step k v g _ hk hI (fun g' hg' hI'=> ?_) (fun g' hst=> ?_)
  ·refine Zr ?_
   rw[hvl]
   refine Zr ?_
   refine pC (by omega) (by omega) ?_
   have hS':aP g' h.aA=some (.cells (v.flatMap fi)):=by rw[hg'];exact hS
   have hnx:=GB _ _ _ hk
   rw[show(t.vars.length:Int)-1=((t.vars.length:Nat):Int)-1 from rfl]
   refine cD (σ:=Nat×aL) (fun p=> [iv ((p.1:Int)-1),.ptr pn 0,.ptr pt 0,vv,yv]) (fun p=>p.2)
    (fun p=>p.1≤t.vars.length∧Inv (k+1) p.2∧aP p.2 h.aA=some (.cells ((v.take p.1++fF (t.vars.length-p.1)).flatMap fi))∧IH ((iS n t).drop p.1) (v.drop p.1)=none) (fun p=>p.1) ?_ (t.vars.length,g') ⟨aE _,hI',?_,?_⟩ (A:=L8) (cur:=2)
   ·rintro⟨c,G⟩ ⟨hc,hG,hb,hbn⟩
    simp only at hc hG hb hbn
    obtain⟨m1,m2,m3⟩:=hin _ _ hG
    have hwl:(v.take c++fF (t.vars.length-c)).length=t.vars.length:=by unfold fF;simp;omega
    refine aDN ?_
    refine Zr ?_
    refine⟨fun q=> ?_,fun q=> ?_⟩
    ·
     obtain⟨c',rfl⟩:∃c',c=c'+1:=⟨c-1,by omega⟩
     have e0:(((c'+1:Nat):Int)-1)=(c':Int):=by omega
     rw[e0]
     have hcl:c'<t.vars.length:=by omega
     have ev:=aC hcl
     have hcv:c'<v.length:=by omega
     have ex:=aC hcv
     have exw:(v.take (c'+1)++fF (t.vars.length-(c'+1)))[c']?=some v[c']:=by
      rw[List.getElem?_append_left (by rw[List.length_take];omega),List.getElem?_take_of_lt (by omega)];exact ex
     have SG:=mk G _ m3 hwl hb
     obtain⟨b,b1,b2,b3,b4,b5,b6⟩:=SG.get1 exw
     refine Z2 m1 m2 ?_
     rw[bV jX ev]
     refine Zr ?_
     refine c84 hn.col ?_
     try simp only[go_sem,reduceAdd,reduceMul,reduceSub,aa,reduceEqDiff,reduceLT]
     rw[b3]
     refine Z2 b4 b6 ?_
     obtain⟨cs,hcs⟩:∃cs,cs=fD n.colours t.vars[c'].colour:=⟨_,rfl⟩
     rw[←hcs]
     have hcb:=uX n.colours t.vars[c'].colour
     rw[←hcs]at hcb
     have hxr:=L7 hvm v[c'] (List.getElem_mem hcv)
     obtain⟨x0,s',hs',x1⟩:=hxr
     have hs'b:s'≤1024:=by
      obtain⟨vv',_,rfl⟩:=List.mem_map.1 hs'
      exact(uX _ _).2
     have ess:(iS n t)[c']?=some cs:=by unfold iS;rw[List.getElem?_map,ev,hcs];rfl
     have hbump:IH ((iS n t).drop c') (v.drop c')=if cs≤v[c']+1 then none else some ((v[c']+1)::fF (t.vars.length-(c'+1))):=by
      rw[List.drop_eq_getElem_cons (show c'<(iS n t).length by omega),List.drop_eq_getElem_cons hcv]
      have:(iS n t)[c']'(by omega)=cs:=by have:=aD.1 ess;exact this.2
      rw[this]
      show(match IH ((iS n t).drop (c'+1)) (v.drop (c'+1))with|some ys=>some (v[c']::ys)|none=>if cs≤v[c']+1 then none else some ((v[c']+1)::fF (v.drop (c'+1)).length))=_
      rw[hbn,List.length_drop,hvlen]
     refine bT (by omega) (by omega) ?_
     refine Zr ?_
     refine⟨fun q2=> ?_,fun q2=> ?_⟩
     ·
      rw[if_pos q2]at hbump
      try rw[b3]
      try simp only[go_sem,reduceAdd,reduceMul,reduceSub,aa,reduceEqDiff,reduceLT,b4]
      have hrf:=lP (f:=fi) (n:=1) (fun _=>rfl) (l:=v.take (c'+1)++fF (t.vars.length-(c'+1))) (i:=c') (by omega) 0
      have hst:(v.take (c'+1)++fF (t.vars.length-(c'+1))).set c' 0=v.take c'++fF (t.vars.length-c'):=by
       rw[dB ex,List.append_assoc]
       have:=GO (v.take c') v[c'] 0 0
       rw[List.length_take,Nat.min_eq_left (by omega)]at this
       rw[List.set_append_right _ _ (by rw[List.length_take];omega),List.length_take,Nat.min_eq_left (by omega),Nat.sub_self]
       show v.take c'++(0::fF (t.vars.length-(c'+1)))=_
       unfold fF
       rw[show t.vars.length-c'=(t.vars.length-(c'+1))+1 by omega,List.replicate_succ]
      rw[hst,Nat.mul_one]at hrf
      refine Z1 hrf ?_
      have hbn':b=h.aA:=hvo b b5
      refine pC (by omega) (by omega) ⟨⟨rfl,hvs,hys⟩,(c',bI (up G 19) b (.cells ((v.take c'++fF (t.vars.length-c')).flatMap fi))),⟨by show c'≤_;omega,?_,?_,hbump⟩,Nat.lt_succ_self _,rfl,rfl⟩
      ·refine hmv _ G _ hG (by show _≤(bI _ _ _).aA;rw[bC,cW];omega) (fun b' h1 h2=> ?_)
       show aP (bI _ _ _) b'=_
       rw[aX,if_neg (by omega),cM]
      ·show aP (bI _ _ _) _=_
       rw[hbn',aU]
     ·
      rw[if_neg q2]at hbump
      refine⟨⟨hvs,hys⟩,fun q3=>absurd q3 (by omega),fun _=> ?_⟩
      try rw[b3]
      try simp only[go_sem,reduceAdd,reduceMul,reduceSub,aa,reduceEqDiff,reduceLT,b4,b6]
      refine bT (by omega) (by omega) ?_
      refine Zr ?_
      try rw[b3]
      try refine Z1 b4 ?_
      have hrf:=lP (f:=fi) (n:=1) (fun _=>rfl) (l:=v.take (c'+1)++fF (t.vars.length-(c'+1))) (i:=c') (by omega) (v[c']+1)
      have hst:(v.take (c'+1)++fF (t.vars.length-(c'+1))).set c' (v[c']+1)=v.take c'++(v[c']+1)::fF (t.vars.length-(c'+1)):=by
       rw[dB ex,List.append_assoc,List.set_append_right _ _ (by rw[List.length_take];omega),List.length_take,Nat.min_eq_left (by omega),Nat.sub_self]
       rfl
      rw[hst,Nat.mul_one]at hrf
      refine Z1 hrf ?_
      have hbn':b=h.aA:=hvo b b5
      have hfin:=QM c' _ _ _ (by omega) (by omega) hbump
      rw[hnx]at hfin
      have hk1:=(aD.1 hfin).1
      refine⟨⟨hys,hvs⟩,(k+1,v.take c'++(v[c']+1)::fF (t.vars.length-(c'+1)),bI (up G 19) b (.cells ((v.take c'++(v[c']+1)::fF (t.vars.length-(c'+1))).flatMap fi))),⟨hfin,?_,?_⟩,by show _-(k+1)<_-k;omega,rfl⟩
      ·refine hmv _ G _ hG (by show _≤(bI _ _ _).aA;rw[bC,cW];omega) (fun b' h1 h2=> ?_)
       show aP (bI _ _ _) b'=_
       rw[aX,if_neg (by omega),cM]
      ·show aP (bI _ _ _) _=_
       rw[hbn',aU]
    ·
     have:c=0:=by omega
     subst this
     rw[List.drop_zero,List.drop_zero,hnx]at hbn
     have hke:=List.getElem?_eq_none_iff.1 hbn
     have:k+1=(fM (iS n t)).length:=by omega
     refine⟨⟨hvs,hys⟩,fun _=> ?_,fun q3=>absurd (by omega) q3⟩
     exact⟨⟨hys,hvs⟩,hend _ (hmv _ G _ (by rw[←this];exact hG) (by rw[cW];omega) (fun b' _ _=>cM _ _ _))⟩
   ·show aP g' _=_
    rw[Nat.sub_self,List.take_of_length_le (by omega)]
    unfold fF
    rw[List.replicate_zero,List.append_nil];exact hS'
   ·rw[List.drop_of_length_le (by omega),List.drop_of_length_le (by omega)];rfl
  ·refine Zr ?_
   exact⟨⟨hys,hvs⟩,hstop _ hst⟩
 ·show aP (nw h _) _=_
  rw[bQ,pT,zS]
  unfold fF
  simp
end
section
theorem BT{n:dL}{m:Mark}(h:eX n m){i:Nat}{b:dF}(e:m[i]?=some b):∃p,n.places[i]?=some p∧InC n b p:=by
 have hi:=(aD.1 e).1
 rw[h.1]at hi
 exact⟨_,aC hi,h.2 i b _ e (aC hi)⟩
theorem BU{n:dL}{how:dF→dF→Int×dF}{m k:Mark}(hm:eX n m)(hk:eX n k)(hh:∀(sz:Int) a b,RE sz a→RE sz b→(how a b).1=0→RE sz (how a b).2)(h:(dN how m k).1=0):eX n (dN how m k).2:=by
 obtain⟨h1,h2⟩:=JQ h
 refine⟨by rw[h1,hm.1,hk.1,Nat.min_self],fun i b p eb ep=> ?_⟩
 have hi:i<m.length:=by
  have:=(aD.1 eb).1
  rw[h1]at this;omega
 have hi2:i<k.length:=by rw[hk.1,←hm.1];exact hi
 obtain⟨q1,q2⟩:=h2 i _ _ (aC hi) (aC hi2)
 rw[q2]at eb
 cases eb
 have e1:=hm.2 i _ p (aC hi) ep
 have e2:=hk.2 i _ p (aC hi2) ep
 exact hh _ _ _ e1 e2 q1
theorem MX{n:dL}{m k:Mark}(hm:eX n m)(hk:eX n k)(h:(dN mD m k).1=0):eX n (dN mD m k).2:=BU hm hk (fun _ _ _ a _ e=>TW a e) h
theorem E6{n:dL}{m k:Mark}(hm:eX n m)(hk:eX n k)(h:(dN i6 m k).1=0):eX n (dN i6 m k).2:=BU hm hk (fun _ _ _ a b e=>O1 a b e) h
theorem JP:∀(l:List Int) (lo hi:Int),l.Pairwise (·<·)→(∀x∈l,lo≤x∧x<hi)→(l.length:Int)≤max 0 (hi-lo)
 | [],lo,hi,_,_=>by simp;omega
 |x::l,lo,hi,hp,h=>by
  have h1:=h x (List.mem_cons_self ..)
  rw[List.pairwise_cons]at hp
  have ih:=JP l (x+1) hi hp.2 (fun y hy=>by have:=hp.1 y hy;have:=h y (List.mem_cons_of_mem _ hy);omega)
  rw[List.length_cons]
  omega
theorem ZB{sz:Int}{b:dF}(h:RE sz b)(hs:sz≤1024):b.length≤1024:=by
 have h1:(b.map Prod.fst).Pairwise (·<·):=List.pairwise_map.2 h.1.1
 have:=JP (b.map Prod.fst) 0 sz h1 (fun x hx=>by
  obtain⟨r,hr,rfl⟩:=List.mem_map.1 hx
  exact⟨(h.1.2 r hr).1,h.2 r hr⟩)
 rw[List.length_map]at this
 omega
end
section
attribute [local irreducible] cl
variable{α:Type}
def OV(n:Nat)(v:AV)(len:Nat):Prop:=v= .aB∨∃b kd,v= .slice b 0 len len kd∧(kd=0∨kd=n+1)
theorem MF{α:Type}{n:Nat}{f:α→List AV}{v:AV}{l:List α}(q:rO n f h v l)(hl:l.length<16777216)(hf:∀x,(f x).length=n)(hc:∀x∈l,aZ (f x)=true)
  (k:∀g v',bW h.aA h g→h.aA≤g.aA→kT h.aA n f g v' l→OV n v' l.length→K v' g):
  EQ .eql v .aB fun v0=>cB v0 (Ev.aQ .aB=true∧K .aB h) (RL (bK [] []) fun l1=>cA l1 (RP (cY n [.slice h.aA 0 0 0 0,v] (nw h (.cells l1))) fun v2 h3=>Ev.aQ v2=true∧K v2 h3)):=by
 refine q.nil (fun e=> ?_) ?_
 ·subst e
  refine Zr ?_
  exact k h .aB (bW.refl _ _) (aE _) .aB (.inl rfl)
 ·refine Zr ?_
  have e:cY n [.slice h.aA 0 0 0 0,v] (nw h (.cells []))=DP (nw h (.cells [])) n h.aA 0 0 0 0 l.length (l.flatMap f) (some []):=by
   show lN (nw h (.cells [])) n (.slice h.aA 0 0 0 0) v (lenOf v)=_
   rw[q.lenOf]
   show oM (nw h (.cells [])) n l.length _ (elems (nw h (.cells [])) n l.length v)=_
   rw[q.elems hf]
   show(bif aZ (l.flatMap f)then qJ (nw h (.cells [])) n l.length (l.flatMap f) _ else .bad)=_
   rw[k9 hc]
   show DP _ n h.aA 0 0 0 0 l.length (l.flatMap f) (cellsIn 0 (Nat.mul 0 n) (aP (nw h (.cells [])) h.aA))=_
   rw[bQ]
   show DP _ n h.aA 0 0 0 0 l.length (l.flatMap f) (bZ (0*n) (drop 0 []))=_
   rw[Nat.zero_mul]
   rfl
  rw[e]
  show RP (bif Nat.ble (0+l.length) 0 then yX (.slice h.aA 0 (0+l.length) 0 0) (storeAt (nw h (.cells [])) h.aA (0+Nat.mul 0 n) (l.flatMap f))else kX (nw h (.cells [])) (0+l.length) ([]++l.flatMap f) (sl0 n (0+l.length))) _
  cases l with
  |nil=>
   have e2:yX (.slice h.aA 0 (0+0) 0 0) (storeAt (nw h (.cells [])) h.aA (0+Nat.mul 0 n) (([]:List α).flatMap f))= .ok (.slice h.aA 0 0 0 0) (bI (nw h (.cells [])) h.aA (.cells [])):=by
    show yX _ (kM _ h.aA _ [] (aP (nw h (.cells [])) h.aA))=_
    rw[bQ]
    rw[show Nat.mul 0 n=0 from Nat.zero_mul n]
    rfl
   show RP (yX (.slice h.aA 0 (0+0) 0 0) _) _
   rw[e2]
   refine Zr ?_
   exact k _ _ Oq (by rw[bC,aT];omega) (.row (l:= []) 0 0 (aE _) (by rw[bC,aT];omega) (aU _ _ _)) (.inr ⟨_,0,rfl,.inl rfl⟩)
  |cons a l=>
   rw[show Nat.ble (0+(a::l).length) 0=false from by cases hb:Nat.ble (0+(a::l).length) 0 with|false=>rfl|true=>have:=ble_eq.1 hb;simp at this,Nat.zero_add,List.nil_append]
   show RP (bif Nat.blt (a::l).length 16777216 then eY (nw h (.cells [])) (.cells ((a::l).flatMap f)) (sl0 n (a::l).length)else .bad) _
   rw[show Nat.blt (a::l).length 16777216=true from blt_eq.2 hl]
   rw[cond_true,fJ]
   show RP (.ok (.slice (nw h (.cells [])).aA 0 (a::l).length (a::l).length (n+1)) _) _
   rw[aGk]
   exact⟨rfl,k _ _ Oq (by rw[aT,aT];omega) (.row (l:=a::l) _ _ (by rw[aT];omega) (by rw[aT];exact Nat.lt_succ_self _) (bQ _ _)) (.inr ⟨_,n+1,rfl,.inr rfl⟩)⟩
theorem aN6{v:AV}{l:List (List Int)}(q:rO 1 fl h v l)(hl:l.length<16777216)(k:∀g v',bW h.aA h g→h.aA≤g.aA→kT h.aA 1 fl g v' l→OV 1 v' l.length→K v' g):C 177 [v] h K:=by
 refine aMI ?_
 exact MF q hl (fun _=>rfl) (fun _ _=>rfl) k
theorem rO.ix{n:Nat}{f:α→List AV}{v:AV}{l:List α}(q:rO n f h v l)(hf:∀x,(f x).length=n)(hn:0<n){i:Nat}{x:α}(e:l[i]?=some x):∃p,cR none n v (some i)=some p∧∀a,bR (f x) 0=some a→aJ h (.one 0) p=some a:=by
 have hi:=(aD.1 e).1
 rcases q with rfl|⟨rfl,rfl⟩|⟨b,off,cap,kind,cs,rfl,h1,h2,h3⟩
 ·refine⟨_,bV hf e,fun a ha=> ?_⟩
  rw[M4,GP (by rw[hf];exact hn)];exact ha
 ·cases e
 ·refine⟨.ptr b (off+i*n),?_,fun a ha=> ?_⟩
  ·show DS i l.length _=_
   unfold DS
   rw[show Nat.blt i l.length=true from blt_eq.2 hi];rfl
  ·show fO (off+i*n) (.one 0) (aP h b)=_
   rw[h1]
   show bR cs (off+i*n+0)=_
   rw[Nat.add_zero,←lQ,←Nat.add_zero (i*n)]
   have h4:=oC hf e
   rw[←h2]at h4
   have h5:bR (((cs.drop off).take (l.length*n)).drop (i*n)) 0=some a:=by
    rw[h4,GP (by rw[hf];exact hn)];exact ha
   rw[lQ]at h5
   rw[kL]at h5⊢
   rw[List.getElem?_take]at h5
   split at h5
   ·exact h5
   ·cases h5
theorem rO.lenB{n:Nat}{f:α→List AV}{v:AV}{l:List α}(q:rO n f h v l)(h':aL):bO .sl [v] h'= .ok (iv l.length) h':=by
 rcases q with rfl|⟨rfl,rfl⟩|⟨b,off,cap,kind,cs,rfl,_⟩<;>rfl
theorem rO.seen{n:Nat}{f:α→List AV}{v:AV}{l:List α}(q:rO n f h v l):Ev.aQ v=true:=by
 rcases q with rfl|⟨rfl,rfl⟩|⟨b,off,cap,kind,cs,rfl,_⟩<;>rfl
theorem kT.rdS{n0 n:Nat}{f:α→List AV}{v:AV}{l:List α}(q:kT n0 n f h v l)(hf:∀x,(f x).length=n):rO n f h v l:=by
 cases q with
 |aB=>exact .inr (.inl ⟨rfl,rfl⟩)
 | @row b _ c k h1 h2 h3=>
  refine .inr (.inr ⟨b,0,c,k,_,rfl,h3,?_,h2⟩)
  rw[List.drop_zero,List.take_of_length_le (by rw[dA hf,Nat.mul_comm];omega)]
theorem aIb{l:List (List Int)}{v fv:AV}{P:List Int→Prop}(q:rO 1 fl h v l)(hl:l.length<2^40)(hs:aQ fv=true)
  (hp:∀x∈l,∀K:KH,(P x→K (.bool true) h)→(¬P x→K (.bool false) h)→CV fv [ints x] h K) (k:K (iv (mC P l)) h):C 288 [v,fv] h K:=by
 refine aHX ?_
 rw[q.lenB]
 refine Zr ?_
 refine cD (σ:=Nat) (fun i=> [iv i,iv l.length,fv,v,iv 0]) (fun _=>h) (fun i=>i≤l.length∧∀(j:Nat) x,l[j]?=some x→j<i→¬P x) (fun i=>l.length-i) ?_ 0 ⟨aH _,fun j x _ hj=>absurd hj (Nat.not_lt_zero _)⟩ (A:=QL) (cur:=0)
 rintro i ⟨hi,hb⟩
 refine XC ?_
 refine Zr ?_
 refine⟨fun q1=> ?_,fun q1=> ?_⟩
 ·have hil:i<l.length:=by omega
  have ee:=aC hil
  obtain⟨p,p1,p2⟩:=q.ix (fun _=>rfl) (by omega) ee
  rw[p1]
  simp only[go_sem,reduceAdd,reduceMul,reduceSub,aa,reduceEqDiff,reduceLT,p2 _ rfl]
  refine hp _ (List.getElem_mem hil) _ (fun pp=> ?_) (fun pp=> ?_)
  ·simp only[go_sem,reduceAdd,reduceMul,reduceSub,aa,reduceEqDiff,reduceLT,hs,q.seen]
   rw[wQ ee pp hb]at k
   exact k
  ·refine Zr ?_
   refine bT (by omega) (by omega) ⟨⟨rfl,hs,q.seen⟩,i+1,⟨hil,fun j x hx hj=> ?_⟩,(by omega),rfl⟩
   by_cases hji:j=i
   ·subst hji;rw[ee]at hx;cases hx;exact pp
   ·exact hb j x hx (by omega)
 ·simp only[go_sem,reduceAdd,reduceMul,reduceSub,aa,reduceEqDiff,reduceLT,hs,q.seen]
  rw[pL (fun j x hx=>hb j x hx (by have:=(aD.1 hx).1;omega))]at k
  exact k
end
section
theorem vE{d:Nat}{n:dL}{m:Mark}(hn:dR d n)(h:eX n m):jG m:=by
 refine⟨by rw[h.1];exact hn.pl.1,fun b hb=> ?_⟩
 obtain⟨i,hi,rfl⟩:=List.mem_iff_getElem.1 hb
 obtain⟨p,_,hc⟩:=BT h (aC hi)
 have:=ZB hc (uX _ _).2
 omega
theorem ZA{sz t:Int}(h0:0≤t)(h1:t<sz):RE sz (yM t):=by
 unfold yM
 rw[if_pos h0]
 exact⟨⟨by simp,fun r hr=>by rw[List.mem_singleton.1 hr];exact⟨h0,by show(1:Int)≤1;decide,by show(1:Int)≤1048576;decide⟩⟩,fun r hr=>by rw[List.mem_singleton.1 hr];exact h1⟩
theorem GL{sz:Int}:RE sz []:=⟨⟨.nil,by simp⟩,by simp⟩
theorem RD(n:dL):eX n (List.replicate n.places.length []):=⟨by simp,fun k b p e _=>by
 have:b= []:=by
  have:=aG e
  exact(List.mem_replicate.1 this).2
 rw[this];exact GL⟩
theorem BR{d:Nat}{n:dL}{l:List yN}{env:List Int}:∀(ks:List Int) {m:Mark},eX n m→(xD d n l env ks m).1=0→eX n (xD d n l env ks m).2
 | [],m,hm,_=>hm
 |k::ks,m,hm,h=>by
  rw[xD]at h⊢
  split at h
  ·cases h
  ·rename_i q1
   rw[if_neg q1]
   split at h
   ·cases h
   ·rename_i a ea
    try rw[ea]
    try simp only
    split at h
    ·rename_i q2;exact absurd h q2
    ·rename_i q2
     rw[if_neg q2]
     split at h
     ·cases h
     ·rename_i q3
      rw[if_neg q3]
      split at h
      ·cases h
      ·rename_i p ep
       try rw[ep]
       try simp only
       split at h
       ·cases h
       ·rename_i t et
        try rw[et]
        try simp only
        split at h
        ·rename_i q4;exact absurd h q4
        ·rename_i q4
         rw[if_neg q4]
         refine BR ks ⟨by rw[List.length_set];exact hm.1,fun i b p' eb ep'=> ?_⟩ h
         rw[List.getElem?_set]at eb
         split at eb
         ·rename_i e
          split at eb
          ·cases eb
           rw[←e,ep]at ep'
           cases ep'
           have q4:(i6 (m.getD a.place.toNat []) (yM t)).1=0:=Classical.byContradiction q4
           obtain⟨t0,t1⟩:=aAD et
           refine O1 ?_ (ZA t0 t1) q4
           cases em:m[a.place.toNat]? with
           |none=>rw[List.getD_eq_getElem?_getD,em];exact GL
           |some b=>rw[List.getD_eq_getElem?_getD,em];exact hm.2 _ b p em ep
          ·cases eb
         ·exact hm.2 i b p' eb ep'
theorem BS{d:Nat}{n:dL}{l:List yN}{ks env:List Int}(h:(xE d n l ks env).1=0):eX n (xE d n l ks env).2:=BR ks (RD n) h
end
section
attribute [local irreducible] cl
theorem tY{α:Type}{P:α→Prop}{l:List α}(h:0≤mC P l):∃i x,mC P l=(i:Nat)∧l[i]?=some x∧P x∧∀(j:Nat) y,j<i→l[j]?=some y→¬P y:=by
 have⟨x,hx,px⟩:=kR.1 h
 have:∀(n:Nat),(∃(i:Nat) (y:α),i<n∧l[i]?=some y∧P y)→∃(i:Nat) (y:α),l[i]?=some y∧P y∧∀(j:Nat) z,j<i→l[j]?=some z→¬P z:=by
  intro n
  induction n with
  |zero=>rintro⟨i,_,hi,_⟩;omega
  |succ n ih=>
   rintro⟨i,y,hi,hy,py⟩
   by_cases q:∃(i:Nat) (y:α),i<n∧l[i]?=some y∧P y
   ·exact ih q
   ·exact⟨i,y,hy,py,fun j z hj hz pz=>q ⟨j,z,by omega,hz,pz⟩⟩
 obtain⟨i0,hi0,rfl⟩:=List.mem_iff_getElem.1 hx
 obtain⟨i,y,hy,py,hmin⟩:=this (i0+1) ⟨i0,_,by omega,aC hi0,px⟩
 exact⟨i,y,wQ hy py (fun j z hz hj=>hmin j z hj hz),hy,py,hmin⟩
theorem aAP{b n i kind m:Nat}(hi:i≤n)(hk:kind=0∨kind=m+1):iQ (some (iv i)) none none (.slice b 0 n n kind) (.sl m)=some (.slice b (i*m) (n-i) (n-i) kind):=by
 show(bif Nat.beq kind 0||Nat.beq kind (m+1)then iD b 0 n m kind (nN i n n)else none)=_
 have h1:(Nat.beq kind 0||Nat.beq kind (m+1))=true:=by
  rcases hk with rfl|rfl
  ·rfl
  ·rw[show Nat.beq (m+1) (m+1)=true from beq_eq.2 rfl];simp
 have h2:nN i n n=some (i,n):=by
  show(bif Nat.ble n n&&Nat.ble i n then some (i,n)else none)=_
  rw[show Nat.ble n n=true from ble_eq.2 (aE _),show Nat.ble i n=true from ble_eq.2 hi];rfl
 rw[h1,h2]
 show some (AV.slice b (0+i*m) (n-i) (n-i) kind)=_
 rw[Nat.zero_add]
theorem aIa{b n i kind m:Nat}(hi:i≤n)(hk:kind=0∨kind=m+1):iQ none (some (iv i)) none (.slice b 0 n n kind) (.sl m)=some (.slice b 0 i n kind):=by
 show(bif Nat.beq kind 0||Nat.beq kind (m+1)then iD b 0 n m kind (nN 0 i n)else none)=_
 have h1:(Nat.beq kind 0||Nat.beq kind (m+1))=true:=by
  rcases hk with rfl|rfl
  ·rfl
  ·rw[show Nat.beq (m+1) (m+1)=true from beq_eq.2 rfl];simp
 have h2:nN 0 i n=some (0,i):=by
  show(bif Nat.ble i n&&Nat.ble 0 i then some (0,i)else none)=_
  rw[show Nat.ble i n=true from ble_eq.2 hi,show Nat.ble 0 i=true from ble_eq.2 (aH _)];rfl
 rw[h1,h2]
 show some (AV.slice b (0+Nat.mul 0 m) (i-0) (n-0) kind)=_
 rw[show Nat.mul 0 m=0 from Nat.zero_mul m]
 rfl
theorem aN5{n0:Nat}{v fv:AV}{l:List (List Int)}{P:List Int→Prop}(q:kT n0 1 fl h v l)(kd:OV 1 v l.length)(hl:l.length<2^40)(hs:aQ fv=true)
  (hp:∀g,(∀b,¬gO v b→aP g b=aP h b)→g.aA=h.aA→∀x∈l,∀K:KH,(P x→K (.bool true) g)→(¬P x→K (.bool false) g)→CV fv [ints x] g K)
  (k:∀g v',(∀b,¬gO v b→aP g b=aP h b)→g.aA=h.aA→rO 1 fl g v' (l.filter fun x=>decide (¬P x))→(∀b,gO v' b→gO v b)→K v' g):C 176 [v,fv] h K:=by
 refine aNO ?_
 refine aIb (q.rdS (fun _=>rfl)) hl hs (hp h (fun _ _=>rfl) rfl) ?_
 refine Zr ?_
 refine⟨fun q1=>⟨q.seen,?_⟩,fun q1=> ?_⟩
 ·have:l.filter (fun x=>decide (¬P x))=l:=by
   rw[List.filter_eq_self]
   intro x hx
   refine decide_eq_true (fun px=> ?_)
   have:=(kR (P:=P) (l:=l)).2 ⟨x,hx,px⟩
   omega
  exact k h v (fun _ _=>rfl) rfl (by rw[this];exact q.rdS (fun _=>rfl)) (fun b hb=>hb)
 ·have h0:0≤mC P l:=by
   by_cases hx:∃x∈l,P x
   ·exact kR.2 hx
   ·exfalso
    exact q1 (pL fun j x hj px=>hx ⟨x,aG hj,px⟩)
  obtain⟨i0,x0,e0,ex0,px0,hmin⟩:=tY h0
  have hi0:=(aD.1 ex0).1
  rw[e0]
  obtain⟨b,kind,hv,hkind,b1,b2,b3⟩:∃b kind,v= .slice b 0 l.length l.length kind∧(kind=0∨kind=2)∧n0≤b∧b<h.aA∧aP h b=some (.cells (l.flatMap fl)):=by
   cases q with
   |aB=>simp at hi0
   |row c k h1 h2 h3=>
    rcases kd with e|⟨b',kd',e,hk⟩
    ·cases e
    ·cases e;exact⟨_,_,rfl,hk,h1,h2,h3⟩
  have hvs:aQ v=true:=by rw[hv];rfl
  have hix:∀(i:Nat),i<l.length→cR none 1 v (some i)=some (.ptr b i):=fun i hi=>by
   rw[hv]
   show DS i l.length (.ptr b (0+Nat.mul i 1))=_
   unfold DS
   rw[show Nat.blt i l.length=true from blt_eq.2 hi,Nat.zero_add]
   show some (AV.ptr b (i*1))=_
   rw[Nat.mul_one]
  have hvl:∀h',bO .sl [v] h'= .ok (iv l.length) h':=fun h'=>by rw[hv];rfl
  have hvo:∀c,gO v c→c=b:=fun c hc=>by rw[hv]at hc;exact hc
  refine bT (by omega) (by omega) ?_
  refine cD (σ:=Nat×Nat×aL×List (List Int)) (fun p=> [iv p.1,v,fv,iv p.2.1]) (fun p=>p.2.2.1)
   (fun p=>p.2.1<p.1∧p.1≤l.length∧(∀c,¬gO v c→aP p.2.2.1 c=aP h c)∧p.2.2.1.aA=h.aA∧aP p.2.2.1 b=some (.cells (p.2.2.2.flatMap fl))∧p.2.2.2.length=l.length∧p.2.2.2.take p.2.1=(l.take p.1).filter (fun x=>decide (¬P x))∧p.2.2.2.drop p.1=l.drop p.1)
   (fun p=>l.length-p.1) ?_ (i0+1,i0,h,l) ⟨by show i0<i0+1;omega,hi0,fun _ _=>rfl,rfl,b3,rfl,?_,rfl⟩ (A:=XE) (cur:=0)
  ·rintro⟨j,i,g,M⟩ ⟨hij,hj,hf,hg,hb,hM,hT,hD⟩
   simp only at hij hj hf hg hb hM hT hD
   refine aDI ?_
   rw[hvl]
   refine Zr ?_
   refine⟨fun q2=> ?_,fun q2=> ?_⟩
   ·have hjl:j<l.length:=by omega
    have el:=aC hjl
    have eM:M[j]?=some l[j]:=by
     have:=congrArg (fun m=>m[0]?) hD
     simp only[List.getElem?_drop,Nat.add_zero]at this
     rw[this];exact el
    have hr:bR (M.flatMap fl) j=some (ints l[j]):=by
     have:=congrArg (fun l=>bR l 0) (oC (f:=fl) (n:=1) (fun _=>rfl) eM)
     simp only[lQ,Nat.add_zero,Nat.mul_one]at this
     rw[this];rfl
    rw[hix j hjl]
    refine Z2 hb hr ?_
    refine hp g hf hg _ (List.getElem_mem hjl) _ (fun px=> ?_) (fun px=> ?_)
    ·refine Zr ?_
     refine bT (by omega) (by omega) ⟨⟨rfl,hvs,hs⟩,(j+1,i,g,M),⟨by show i<j+1;omega,hjl,hf,hg,hb,hM,?_,?_⟩,(by omega),rfl,rfl⟩
     ·show M.take i=(l.take (j+1)).filter _
      rw[hT,dB el,List.filter_append]
      have: [l[j]].filter (fun x=>decide (¬P x))= []:=by
       rw[List.filter_cons,if_neg (by simp[px])];rfl
      rw[this,List.append_nil]
     ·show M.drop (j+1)=l.drop (j+1)
      rw[←List.drop_drop,hD,List.drop_drop]
    ·refine Zr ?_
     have hil:i<l.length:=by omega
     rw[hix i hil]
     have hrf:=lP (f:=fl) (n:=1) (fun _=>rfl) (l:=M) (i:=i) (by omega) l[j]
     rw[Nat.mul_one]at hrf
     have hrf:aV (M.flatMap fl) i [ints l[j]]=_:=hrf
     refine Z2 hb hrf ?_
     refine bT (by omega) (by omega) ?_
     refine bT (by omega) (by omega) ⟨⟨rfl,hvs,hs,rfl⟩,(j+1,i+1,bI g b (.cells ((M.set i l[j]).flatMap fl)),M.set i l[j]),⟨by show i+1<j+1;omega,hjl,?_,?_,?_,?_,?_,?_⟩,(by omega),rfl,rfl⟩
     ·intro c hc
      show aP (bI _ _ _) c=_
      rw[aX,if_neg (fun e=>hc (by rw[hv,e];rfl))];exact hf c hc
     ·show(bI _ _ _).aA=_
      rw[bC];exact hg
     ·exact aU _ _ _
     ·show(M.set _ _).length=_
      rw[List.length_set];exact hM
     ·show(M.set i l[j]).take (i+1)=(l.take (j+1)).filter _
      rw[dB el,List.filter_append,←hT]
      have: [l[j]].filter (fun x=>decide (¬P x))= [l[j]]:=by
       rw[List.filter_cons,if_pos (by simp[px])];rfl
      rw[this,dB (i:=i) (s:=l[j]) (by rw[List.getElem?_set_self (by omega)]),List.take_set,List.set_eq_of_length_le (by simp;omega)]
     ·show(M.set i l[j]).drop (j+1)=l.drop (j+1)
      rw[List.drop_set,if_pos (by omega),←List.drop_drop,hD,List.drop_drop]
   ·have:j=l.length:=by omega
    subst this
    rw[List.take_length]at hT
    have hil:i≤l.length:=by omega
    refine⟨⟨hvs,hs⟩,?_⟩
    rw[hv,aAP hil hkind]
    refine Zr ?_
    have hcl:DR [.aB] [.slice b (i*1) (l.length-i) (l.length-i) kind] g= .ok bS (bI g b (.cells (((M.take i).flatMap fl)++List.replicate (l.length-i) .aB))):=by
     show yX bS (bif aZ (rP (l.length-i) [.aB])then kM g b (i*1) (rP (l.length-i) [.aB]) (aP g b)else none)=_
     have ha:aZ (rP (l.length-i) [AV.aB])=true:=by
      rw[pT]
      generalize l.length-i=m
      induction m with
      |zero=>rfl
      |succ m ih=>rw[List.replicate_succ,pA];exact⟨rfl,ih⟩
     rw[ha,hb,cond_true]
     show yX bS (uR g b (aV (M.flatMap fl) (i*1) (rP (l.length-i) [.aB])))=_
     rw[pT,xF _ _ _ (by rw[List.length_replicate,dA (n:=1) (fun _=>rfl)];omega)]
     rw[pY (n:=1) (fun _=>rfl),List.length_replicate,List.drop_of_length_le (by rw[dA (n:=1) (fun _=>rfl)];omega),List.append_nil]
     rfl
    rw[hcl]
    refine Zr ?_
    rw[aIa hil hkind]
    refine Zr ?_
    rw[←hT]at k
    refine k _ _ (fun c hc=> ?_) (by rw[bC];exact hg) ?_ (fun c hc=>by rw[hv];exact hc)
    ·rw[aX,if_neg (fun e=>hc (by rw[hv,e];rfl))];exact hf c hc
    ·have hti:(M.take i).length=i:=by rw[List.length_take];omega
     refine .inr (.inr ⟨b,0,l.length,kind,_,by rw[hti],aU _ _ _,?_,by rw[bC];omega⟩)
     rw[List.drop_zero,hti,Nat.mul_one,List.take_append_of_le_length (by rw[dA (n:=1) (fun _=>rfl)];omega),List.take_of_length_le (by rw[dA (n:=1) (fun _=>rfl)];omega)]
  ·show l.take i0=(l.take (i0+1)).filter _
   rw[dB ex0,List.filter_append]
   have h1: [x0].filter (fun x=>decide (¬P x))= []:=by
    rw[List.filter_cons,if_neg (by simp[px0])];rfl
   rw[h1,List.append_nil,List.filter_eq_self.2 fun x hx=> ?_]
   obtain⟨j,hj,rfl⟩:=List.mem_iff_getElem.1 hx
   simp at hj
   refine decide_eq_true (hmin j _ (by omega) ?_)
   rw[List.getElem_take]
   exact aC _
end
section
theorem pQ{d:Nat}{n:dL}{o:Mode}(h:(fW d n o).1=0):eX n (fW d n o).2:=by
 unfold fW at h⊢
 split at h
 ·rename_i q;exact absurd h q
 ·rename_i q
  rw[if_neg q]
  split at h
  ·rename_i t et
   try rw[et]
   exact BS h
  ·cases h
theorem GK{d:Nat}{n:dL}{o:Mode}(h:(iF d n o).1=0):eX n (iF d n o).2:=by
 unfold iF at h⊢
 split at h
 ·rename_i q;exact absurd h q
 ·rename_i q
  rw[if_neg q]
  split at h
  ·rename_i t et
   try rw[et]
   exact BS h
  ·cases h
theorem t8{n:dL}:∀(l:List Int) {m:Mark},eX n m→eX n (jU l m)
 | [],m,h=>h
 |k::l,m,h=>by
  rw[pR]
  refine t8 l ?_
  split
  ·refine⟨by rw[List.length_set];exact h.1,fun i b p eb ep=> ?_⟩
   rw[List.getElem?_set]at eb
   split at eb
   ·split at eb
    ·cases eb;exact GL
    ·cases eb
   ·exact h.2 i b p eb ep
  ·exact h
theorem JN{d:Nat}{n:dL}{m:Mark}{o:Mode}(hm:eX n m)(h:(mX d n m o).1=0):eX n (mX d n m o).2:=by
 unfold mX at h⊢
 by_cases q1:eQ d n m o=0
 ·rw[if_neg (fun q=>q q1)]at h⊢
  by_cases q2:(fW d n o).1=0
  ·rw[if_neg (fun q=>q q2)]at h⊢
   exact MX hm (pQ q2) h
  ·rw[if_pos q2]at h;exact absurd h q2
 ·rw[if_pos q1]at h;exact absurd h q1
theorem n8{d:Nat}{n:dL}{m:Mark}{o:Mode}(hm:eX n m)(h:(iL d n m o).1=0):eX n (iL d n m o).2:=by
 unfold iL at h⊢
 by_cases q2:(fW d n o).1=0
 ·rw[if_neg (fun q=>q q2)]at h⊢
  exact E6 hm (pQ q2) h
 ·rw[if_pos q2]at h;exact absurd h q2
theorem JO{d:Nat}{n:dL}{m:Mark}{o:Mode}(hm:eX n m)(h:(vF d n m o).1=0):eX n (vF d n m o).2:=by
 unfold vF at h⊢
 by_cases q2:(iF d n o).1=0
 ·rw[if_neg (fun q=>q q2)]at h⊢
  exact E6 (t8 _ hm) (GK q2) h
 ·rw[if_pos q2]at h;exact absurd h q2
end
section
attribute [local irreducible] cl
open Classical in
def eO(d:Nat)(n:dL)(m:Mark)(t:Task)(task:Int)(vars:List Int):List Mode:=
 if¬(hY n task vars).1=0 then []else if¬BX d t (hY n task vars).2=0 then []else
 ((d9 t.jn t.ins.length).filter fun i=>decide (pS d ⟨n,m,t,(hY n task vars).2⟩ i=0)).flatMap fun i=>
  ((d9 t.split t.outs.length).filter fun o=>decide (¬¬M0 d ⟨n,m,t,(hY n task vars).2⟩ o=0)).map fun o=>⟨task,vars,i,o⟩
def oT(d:Nat)(n:dL)(m:Mark)(task most:Int):List Mode:=
 if task<0∨(n.tasks.length:Int)≤task∨most<1 then []else match n.tasks[task.toNat]? with
 |none=> []
 |some t=>((fM (iS n t)).flatMap (eO d n m t task)).take most.toNat
theorem rO.mono{α:Type}{n:Nat}{f:α→List AV}{h h':aL}{v:AV}{l:List α}(q:rO n f h v l)(hn:h.aA≤h'.aA)(hb:∀b,gO v b→aP h' b=aP h b):rO n f h' v l:=by
 rcases q with e|e|⟨b,off,cap,kind,cs,rfl,h1,h2,h3⟩
 ·exact .inl e
 ·exact .inr (.inl e)
 ·exact .inr (.inr ⟨b,off,cap,kind,cs,rfl,by rw[hb b rfl];exact h1,h2,by omega⟩)
theorem rO.own{α:Type}{n:Nat}{f:α→List AV}{v:AV}{l:List α}(q:rO n f h v l){b:Nat}(hb:gO v b):b<h.aA:=by
 rcases q with rfl|⟨rfl,rfl⟩|⟨b,off,cap,kind,cs,rfl,h1,h2,h3⟩
 ·exact hb.elim
 ·exact hb.elim
 ·rw[show _=_ from hb];exact h3
theorem XN{α:Type}{a b:List α}(h:a<+:b):b.take a.length=a:=(List.prefix_iff_eq_take.1 h).symm
structure FB(H:Nat)(h:aL)(n:dL)(m:Mark)(t:Task)(task most:Int)(g:aL):Prop where
 old:bW H h g
 net:aP g H=some (.cells (eN n))
 mrk:aP g (H+1)=some (.cells [dC m])
 tsk:aP g (H+2)=some (.cells [iv task])
 mst:aP g (H+3)=some (.cells [iv most])
 ins:aP g (H+18)=some (.cells [sl fl (d9 t.jn t.ins.length)])
 outs:aP g (H+19)=some (.cells [sl fl (d9 t.split t.outs.length)])
 net2:aP g (H+23)=some (.cells (eN n))
 tsk2:aP g (H+24)=some (.cells (eT t))
 nx:H+27≤g.aA
theorem FB.move{H:Nat}{n:dL}{m:Mark}{t:Task}{task most:Int}{g g':aL}(q:FB H h n m t task most g)(hn:H+27≤g'.aA)(hb:∀b,b≠H+4→b≠H+22→b<H+25→aP g' b=aP g b):FB H h n m t task most g' where
 old b h1:=by rw[hb b (by omega) (by omega) (by omega)];exact q.old b h1
 net:=by rw[hb _ (by omega) (by omega) (by omega)];exact q.net
 mrk:=by rw[hb _ (by omega) (by omega) (by omega)];exact q.mrk
 tsk:=by rw[hb _ (by omega) (by omega) (by omega)];exact q.tsk
 mst:=by rw[hb _ (by omega) (by omega) (by omega)];exact q.mst
 ins:=by rw[hb _ (by omega) (by omega) (by omega)];exact q.ins
 outs:=by rw[hb _ (by omega) (by omega) (by omega)];exact q.outs
 net2:=by rw[hb _ (by omega) (by omega) (by omega)];exact q.net2
 tsk2:=by rw[hb _ (by omega) (by omega) (by omega)];exact q.tsk2
 nx:=hn
structure LS(H:Nat)(h:aL)(n:dL)(m:Mark)(t:Task)(task most:Int)(rb:AO)(R0 R1:Nat)(G1:aL)(g:aL)(O:List Mode):Prop where
 fb:FB H h n m t task most g
 rec_:aP g (H+25)=some rb
 res:∃x,aP g (H+4)=some (.cells [x])
 out:∃v,aP g (H+22)=some (.cells [v])∧dG (H+27) 4 iU g v O∧∀c,gO v c→c<R0∨R1≤c
 few:(O.length:Int)<most
 nx:R1≤g.aA
 rnd:∀b,R0≤b→b<R1→aP g b=aP G1 b
 low:H+27≤R0
 vb:aP g (H+26)=aP G1 (H+26)
theorem XO{H:Nat}{n:dL}{m:Mark}{t:Task}{task most:Int}{rb:AO}{R0 R1:Nat}{G1 g:aL}{O:List Mode}(q:LS H h n m t task most rb R0 R1 G1 g O)(o:Mode)(hm:most<2^20):
  ∃v v2 g5,aP (nwAt (up g 12) (g.aA+9) (.cells (iU o))) (H+22)=some (.cells [v])∧aP (up g 12) (H+22)=some (.cells [v])∧cY 4 [v,.slice (g.aA+9) 0 1 1 0] (nwAt (up g 12) (g.aA+9) (.cells (iU o)))= .ok v2 g5∧aK v2= [v2]∧cellA v2=true∧aP g5 (H+22)=some (.cells [v])∧aP g5 (H+3)=some (.cells [iv most])∧
   (∀h',bO .sl [v2] h'= .ok (iv ((O.length+1:Nat):Int)) h')∧dG (H+27) 4 iU g5 v2 (O++ [o])∧(∀c,gO v2 c→R1≤c∧c<g5.aA)∧g.aA≤g5.aA∧(∀b,b<H+27→aP g5 b=aP g b)∧(∀b,R0≤b→b<R1→aP g5 b=aP G1 b):=by
 obtain⟨v,hv1,hv2,hv3⟩:=q.out
 have hnx:=q.fb.nx
 have hlow:=q.low
 have hr1:=q.nx
 have hG:∀b,b<g.aA→aP (nwAt (up g 12) (g.aA+9) (.cells (iU o))) b=aP g b:=fun b hb=>by rw[gH,if_neg (by omega),cM]
 have hnG:(nwAt (up g 12) (g.aA+9) (.cells (iU o))).aA=g.aA+12:=by rw[FA,cW]
 have hO2:=hv2.mono (h':=nwAt (up g 12) (g.aA+9) (.cells (iU o))) (by omega) (fun b hb=>hG b (hv2.own hb).2)
 have hfew:=q.few
 obtain⟨v2,g5,a1,a2,a3,a4,a5,a6⟩:=hO2.app (xs:= [o]) (x:= .slice (g.aA+9) 0 1 1 0) gA (by omega) (fun y _=>tG y) (by simp) rfl (iE (l:=iU o) (nB _ _ _) (by rw[gA];rfl)) (by simp;omega)
 have h5:∀b,b<g.aA→¬gO v b→aP g5 b=aP g b:=fun b hb hn=>by rw[a4 b (by omega) hn,hG b hb]
 have hvlow:∀b,b<H+27→¬gO v b:=fun b hb=>hv2.old hb
 refine⟨v,v2,g5,by rw[hG _ (by omega)];exact hv1,by rw[cM];exact hv1,a1,a2.cells,a2.cellA,by rw[h5 _ (by omega) (hvlow _ (by omega))];exact hv1,by rw[h5 _ (by omega) (hvlow _ (by omega))];exact q.fb.mst,fun h'=> ?_,a2,fun c hc=> ?_,by omega,fun b hb=>h5 b (by omega) (hvlow b hb),fun b h1 h2=> ?_⟩
 ·rw[a2.len];simp
 ·have:=a6 c hc;omega
 ·rw[h5 b (by omega) (fun hb=>by have:=hv3 b hb;omega)];exact q.rnd b h1 h2
theorem LS.app{H:Nat}{n:dL}{m:Mark}{t:Task}{task most:Int}{rb:AO}{R0 R1:Nat}{G1 g g5:aL}{O:List Mode}{o:Mode}{v2:AV}(q:LS H h n m t task most rb R0 R1 G1 g O)(hO:dG (H+27) 4 iU g5 v2 (O++ [o]))(ho:∀c,gO v2 c→R1≤c∧c<g5.aA)(hn:g.aA≤g5.aA)
  (hlo:∀b,b<H+27→aP g5 b=aP g b) (hr:∀b,R0≤b→b<R1→aP g5 b=aP G1 b) (hfew:((O.length+1:Nat):Int)<most):LS H h n m t task most rb R0 R1 G1 (bI g5 (H+22) (.cells [v2])) (O++ [o]):=by
 have hnx:=q.fb.nx
 have hlow:=q.low
 have hr1:=q.nx
 have f:∀b,b≠H+22→aP (bI g5 (H+22) (.cells [v2])) b=aP g5 b:=fun b hb=>by rw[aX,if_neg hb]
 refine⟨q.fb.move (by rw[bC];omega) (fun b h1 h2 h3=>by rw[f b h2,hlo b (by omega)]),by rw[f _ (by omega),hlo _ (by omega)];exact q.rec_,?_,⟨v2,aU _ _ _,?_,fun c hc=> .inr (ho c hc).1⟩,by simp;omega,by rw[bC];omega,fun b h1 h2=>by rw[f b (by omega)];exact hr b h1 h2,hlow,by rw[f _ (by omega),hlo _ (by omega)];exact q.vb⟩
 ·obtain⟨x,hx⟩:=q.res
  exact⟨x,by rw[f _ (by omega),hlo _ (by omega)];exact hx⟩
 ·exact hO.mono (by rw[bC];exact aE _) (fun b hb=>f b (by have:=hO.own hb;omega))
end
section
attribute [local irreducible] cl
structure EG(H:Nat)(h:aL)(n:dL)(m:Mark)(t:Task)(task most:Int)(rb:AO)(O:List Mode)(g:aL):Prop where
 fb:FB H h n m t task most g
 rec_:aP g (H+25)=some rb
 res:∃x,aP g (H+4)=some (.cells [x])
 out:∃v,aP g (H+22)=some (.cells [v])∧dG (H+27) 4 iU g v O
 few:(O.length:Int)<most
structure aH9(H:Nat)(h:aL)(rb:AO)(O:List Mode)(g:aL):Prop where
 old:bW H h g
 rec_:aP g (H+25)=some rb
 res:∃v,aP g (H+4)=some (.cells [v])∧dG (H+27) 4 iU g v O
theorem EG.keep{H:Nat}{n:dL}{m:Mark}{t:Task}{task most:Int}{rb rb':AO}{O:List Mode}{g g':aL}(q:EG H h n m t task most rb O g)(hn:g.aA≤g'.aA)(hb:∀b,b≠H+25→b≠H+26→b<g.aA→aP g' b=aP g b)(hr:aP g' (H+25)=some rb'):EG H h n m t task most rb' O g':=by
 obtain⟨q1,q2,⟨x,q3⟩,⟨v,q4,q5⟩,q6⟩:=q
 have hnx:=q1.nx
 refine⟨q1.move (by omega) (fun b _ _ h3=>hb b (by omega) (by omega) (by omega)),hr,⟨x,by rw[hb _ (by omega) (by omega) (by omega)];exact q3⟩,⟨v,by rw[hb _ (by omega) (by omega) (by omega)];exact q4,q5.mono hn (fun b h1=>hb b (by have:=q5.own h1;omega) (by have:=q5.own h1;omega) (q5.own h1).2)⟩,q6⟩
theorem LS.inn{H:Nat}{n:dL}{m:Mark}{t:Task}{task most:Int}{rb:AO}{R0 R1:Nat}{G1 g:aL}{O:List Mode}(q:LS H h n m t task most rb R0 R1 G1 g O):EG H h n m t task most rb O g:=by
 obtain⟨v,q4,q5,q6⟩:=q.out
 exact⟨q.fb,q.rec_,q.res,⟨v,q4,q5⟩,q.few⟩
theorem EG.ls{H:Nat}{n:dL}{m:Mark}{t:Task}{task most:Int}{rb:AO}{O:List Mode}{g g':aL}(q:EG H h n m t task most rb O g)(hn:g.aA≤g'.aA)(hb:∀b,b<g.aA→aP g' b=aP g b):LS H h n m t task most rb g.aA g'.aA g' g' O:=by
 obtain⟨q1,q2,⟨x,q3⟩,⟨v,q4,q5⟩,q6⟩:=q
 have hnx:=q1.nx
 exact⟨q1.move (by omega) (fun b _ _ h3=>hb b (by omega)),by rw[hb _ (by omega)];exact q2,⟨x,by rw[hb _ (by omega)];exact q3⟩,⟨v,by rw[hb _ (by omega)];exact q4,q5.mono hn (fun b h1=>hb b (q5.own h1).2),fun c hc=> .inl (q5.own hc).2⟩,q6,aE _,fun b _ _=>rfl,hnx,rfl⟩
theorem ME{α β:Type}{f:α→List β}{l:List α}{k:Nat}{y:α}{x:List β}(e:l[k]?=some y)(h:x<+:f y):(l.take k).flatMap f++x<+:l.flatMap f:=by
 obtain⟨z,hz⟩:=h
 refine⟨z++(l.drop (k+1)).flatMap f,?_⟩
 have h1:=dB e
 have h2:l=l.take (k+1)++l.drop (k+1):=(List.take_append_drop _ _).symm
 conv=>rhs;rw[h2,h1,List.flatMap_append,List.flatMap_append]
 simp[←hz]
theorem y7{α β:Type}{f:α→List β}{p:α→Bool}:∀(l:List α),(l.filter p).flatMap f=l.flatMap fun x=>if p x=true then f x else []
 | []=>rfl
 |x::l=>by
  rw[List.filter_cons,List.flatMap_cons,←y7 l]
  split<;>simp
theorem aAO{d H k:Nat}{h g:aL}{n:dL}{m:Mark}{t:Task}{task most:Int}{TT:List AV}{a b f x13:AV}{vars:List Int}{rr:LoopState→Option zC→AO}{K':KH}(hn:dR d n)(hm:jG m)(ht:oO d t)(hj:¬t.jn=3)(hmost:most<2^20)
  (htask:n.tasks[task.toNat]?=some t) (hk:(fM (iS n t))[k]?=some vars)
  (hTT:TT= [.ptr H 0,.ptr (H+5) 0,.ptr (H+22) 0,.ptr (H+4) 0,.ptr (H+1) 0,.ptr (H+2) 0,x13,.ptr (H+19) 0,.ptr (H+18) 0,.ptr (H+3) 0])
  (hrr:rr=fun st p=>mB (S7 TT a b f) [aM 54] wS oS st p) (hI:EG H h n m t task most (rr .ready none) (((fM (iS n t)).take k).flatMap (eO d n m t task)) g)
  (k1:∀g',aP g' (H+26)=aP g (H+26)→EG H h n m t task most (rr .ready none) (((fM (iS n t)).take (k+1)).flatMap (eO d n m t task)) g'→K' (.bool true) g')
  (k2:∀g',aH9 H h (rr .done (some .ret)) (((fM (iS n t)).flatMap (eO d n m t task)).take most.toNat) g'→K' (.bool false) g'):
  CV (.func (.yield (H+25)) [] []) [ints vars] g K':=by
 have hre:=hI.rec_
 rw[hrr,hTT]at hre
 refine y88 hre ?_
 intro G hG
 rw[←hTT]at hG
 have hG:G=bI g (H+25) (rr .busy none):=by rw[hrr];exact hG
 have hy:∀(st st':LoopState) (p j:Option zC) (l:Nat) (b:Bool) (h:aL) (K:KH),yE l b st' j h K (some (rr st p))=K (.bool b) (bI h l (rr st' j)):=by rw[hrr];exact fun st st' p j l b h K=>rfl
 clear hrr hre
 unfold aDR
 have hnx:=hI.fb.nx
 have nG:G.aA=g.aA:=by rw[hG,bC]
 have fG:∀b,b≠H+25→aP G b=aP g b:=fun b hb=>by rw[hG,aX,if_neg hb]
 have eG:aP G (H+25)=some (rr .busy none):=by rw[hG];exact aU _ _ _
 clear hG
 have hJ:EG H h n m t task most (rr .busy none) (((fM (iS n t)).take k).flatMap (eO d n m t task)) G:=hI.keep (by omega) (fun b h1 _ _=>fG b h1) eG
 have hG26:aP G (H+26)=aP g (H+26):=fG _ (by omega)
 have nJ:H+27≤G.aA:=by omega
 clear hI hnx
 obtain⟨g0,g1,g2,g3,g18,g19⟩:aP G H=some (.cells (eN n))∧aP G (H+1)=some (.cells [dC m])∧aP G (H+2)=some (.cells [iv task])∧aP G (H+3)=some (.cells [iv most])∧aP G (H+18)=some (.cells [sl fl (d9 t.jn t.ins.length)])∧aP G (H+19)=some (.cells [sl fl (d9 t.split t.outs.length)]):=⟨hJ.fb.net,hJ.fb.mrk,hJ.fb.tsk,hJ.fb.mst,hJ.fb.ins,hJ.fb.outs⟩
 refine Z3 g0 g1 g2 ?_
 have hmo:eO d n m t task vars=eO d n m t task vars:=rfl
 conv at hmo=>rhs;unfold eO
 have htk:(fM (iS n t)).take (k+1)=(fM (iS n t)).take k++ [vars]:=dB hk
 rw[htk,List.flatMap_append,List.flatMap_cons,List.flatMap_nil,List.append_nil]at k1
 have hvl:vars.length<2^21:=by have:=kS (aG hk);have h2:=ht.vars;unfold iS at this;rw[List.length_map]at this;omega
 refine aFR (d:=d) hn (by omega) (fun t' ht' henv=> ?_) (fun henv=> ?_)
 ·rw[htask]at ht'
  cases ht'
  rw[if_neg (fun n=>n henv)]at hmo
  obtain⟨env,henv2⟩:∃env,env=(hY n task vars).2:=⟨_,rfl⟩
  rw[←henv2]at hmo⊢
  obtain⟨b,hb⟩:∃b:dE,b=⟨n,m,t,env⟩:=⟨_,rfl⟩
  rw[←hb]at hmo⊢
  have b1:b.task=t:=by rw[hb]
  have b2:b.env=env:=by rw[hb]
  have b3:b.net=n:=by rw[hb]
  have b4:b.m=m:=by rw[hb]
  refine Zr ?_
  rw[bU _ _ (by rw[O2];rfl)]
  refine Zr ?_
  rw[aB4]
  obtain⟨G1,pO⟩:∃G1,G1=bI (nw G (.cells YX)) G.aA (.cells (rA b)):=⟨_,rfl⟩
  rw[←pO]
  have hb1:∀b,b<G.aA→aP G1 b=aP G b:=fun b hb=>by rw[pO,aX,if_neg (by omega),bF,if_neg (by omega)]
  have hn1:G1.aA=G.aA+1:=by rw[pO,bC,aT]
  have hbd:aP G1 G.aA=some (.cells (rA b)):=by rw[pO];exact aU _ _ _
  clear pO
  refine⟨fun _=> ?_,fun x=>absurd trivial x⟩
  refine aFS (d:=d) (b1▸ht) ?_
  rw[b1,b2]
  refine Zr ?_
  refine⟨fun q1=> ?_,fun q1=> ?_⟩
  ·
   rw[if_neg (fun n=>n q1)]at hmo
   rw[hb1 _ (by omega),g19]
   refine Zr ?_
   have csm:=mO (kind:=t.split) (arcs:=t.outs.length)
   have ism:=mO (kind:=t.jn) (arcs:=t.ins.length)
   refine aN6 (.inl rfl) (by omega) fun G2 v' o2 n2 s2 kd2=> ?_
   refine aN5 (P:=fun o=>¬M0 d b o=0) s2 kd2 (by omega) rfl (fun g f1 f2 x hx K k1 k2=> ?_) fun G3 may f3 n3 r3 ow3=> ?_
   ·rw[kC]
    refine aNP ?_
    rw[show aJ g (.many 0 21) (.ptr G.aA 0)=fO 0 (.many 0 21) (aP g G.aA)from rfl,f1 _ (fun hc=>by have:=s2.own hc;omega),o2 _ (by omega),hbd]
    refine Zr ?_
    have:=csm.2 x hx
    refine aFT (d:=d) (b3▸hn) (b1▸ht) (by omega) ?_
    refine Zr ?_
    exact⟨fun q=>k2 (fun z=>z q),k1⟩
   ·obtain⟨M,hM⟩:∃M,M=(d9 t.split t.outs.length).filter (fun x=>decide (¬¬M0 d b x=0)):=⟨_,rfl⟩
    obtain⟨I,hI⟩:∃I,I=d9 t.jn t.ins.length:=⟨_,rfl⟩
    rw[←hI]at hmo g18 ism
    rw[←hM]at hmo
    have r3:rO 1 fl G3 may M:=by
     rw[hM]
     exact Eq.mp (congrArg (rO 1 fl G3 may) (List.filter_congr fun x _=>by congr)) r3
    have lM:M.length<64:=by rw[hM];exact Nat.lt_of_le_of_lt (List.length_filter_le _ _) csm.1
    have lMx:∀x∈M,x.length<64:=fun x hx=>csm.2 x (by rw[hM]at hx;exact(List.mem_filter.1 hx).1)
    clear hM
    have hb3:∀b,b<G.aA+1→aP G3 b=aP G1 b:=fun b hb=>by
     rw[f3 b (fun hc=>by have:=s2.own hc;omega),o2 b (by omega)]
    have hbd3:aP G3 G.aA=some (.cells (rA b)):=by rw[hb3 _ (by omega)];exact hbd
    rw[hb3 _ (by omega),hb1 _ (by omega),g18]
    refine Zr ?_
    have L3:=hJ.ls (g':=G3) (by omega) (fun b hb=>by rw[hb3 b (by omega),hb1 b hb])
    have hown:∀c,gO may c→G.aA≤c∧c<G3.aA:=fun c hc=>by have:=s2.own (ow3 c hc);omega
    rw[y7]at hmo
    obtain⟨gi,hgi⟩:∃gi:List Int→List Mode,gi=fun x=>if decide (pS d b x=0)=true then M.map fun o=>(⟨task,vars,x,o⟩:Mode)else []:=⟨_,rfl⟩
    have hmo:eO d n m t task vars=I.flatMap gi:=by rw[hgi];exact hmo
    obtain⟨T0,hT0⟩:∃T0,T0=((fM (iS n t)).take k).flatMap (eO d n m t task):=⟨_,rfl⟩
    rw[←hT0]at L3 k1
    have hpre:∀x,x<+:I.flatMap gi→T0++x<+:(fM (iS n t)).flatMap (eO d n m t task):=fun x hx=>by rw[hT0];exact ME hk (by rw[hmo];exact hx)
    rw[hmo]at k1
    have h26:aP G3 (H+26)=aP g (H+26):=by rw[hb3 _ (by omega),hb1 _ (by omega)];exact hG26
    have hms:aQ may=true:=r3.seen
    have gi1:∀x,pS d b x=0→gi x=M.map fun o=>(⟨task,vars,x,o⟩:Mode):=fun x q=>by rw[hgi];show(if _ then _ else _)=_;rw[if_pos (decide_eq_true q)]
    have gi2:∀x,¬pS d b x=0→gi x= []:=fun x q=>by rw[hgi];show(if _ then _ else _)=_;rw[if_neg (by simp[q])]
    clear hgi
    refine cD (σ:=Nat×aL×List Mode) (fun p=> [iv p.1,iv I.length,sl fl I,.ptr G.aA 0,may,ints vars,.ptr (H+22) 0,.ptr (H+2) 0,.ptr (H+3) 0,.ptr (H+4) 0]) (fun p=>p.2.1)
     (fun p=>p.1≤I.length∧LS H h n m t task most (rr .busy none) G.aA G3.aA G3 p.2.1 p.2.2∧p.2.2=T0++(I.take p.1).flatMap gi) (fun p=>I.length-p.1) ?_ (0,G3,T0) ⟨aH _,L3,by simp⟩ (A:=y6) (cur:=2)
    rintro⟨i,g4,O⟩ ⟨hi,hL,hO⟩
    simp only at hi hL hO
    refine aDP ?_
    unfold OJ
    refine Zr ?_
    refine⟨fun hl=> ?_,fun hl=> ?_⟩
    ·have hl:i<I.length:=by omega
     have e:=aC hl
     obtain⟨x,hx⟩:∃x,x=I[i]:=⟨_,rfl⟩
     rw[←hx]at e
     have hxl:=ism.2 x (aG e)
     have hOn:(I.take (i+1)).flatMap gi=(I.take i).flatMap gi++gi x:=by rw[dB e,List.flatMap_append];simp
     have r4:aP g4 G.aA=some (.cells (rA b)):=by rw[hL.rnd _ (aE _) (by omega)];exact hbd3
     rw[bV (f:=fl) (n:=1) (fun _=>rfl) e]
     refine Z1 r4 ?_
     refine aFU (d:=d) (b3▸hn) (b4▸hm) (b1▸ht) (by omega) (b1▸hj) ?_
     refine Zr ?_
     refine⟨fun qt=> ?_,fun qt=> ?_⟩
     ·have hgx:=gi1 x qt
      rw[r3.lenB]
      refine Zr ?_
      refine cD (σ:=Nat×aL×List Mode) (fun p=> [iv p.1,iv M.length,may,ints vars,ints x,.ptr (H+22) 0,.ptr (H+2) 0,.ptr (H+3) 0,.ptr (H+4) 0,iv i,iv I.length,sl fl I,.ptr G.aA 0,may]) (fun p=>p.2.1)
       (fun p=>p.1≤M.length∧LS H h n m t task most (rr .busy none) G.aA G3.aA G3 p.2.1 p.2.2∧p.2.2=T0++((I.take i).flatMap gi++(M.take p.1).map fun o=>(⟨task,vars,x,o⟩:Mode))) (fun p=>M.length-p.1) ?_ (0,g4,O) ⟨aH _,hL,by simp[hO]⟩ (A:=y6) (cur:=4)
      rintro⟨j,g5,O'⟩ ⟨hj2,hL2,hO2⟩
      simp only at hj2 hL2 hO2
      refine aDQ ?_
      unfold OK
      refine Zr ?_
      refine⟨fun hl2=> ?_,fun hl2=> ?_⟩
      ·have hl2:j<M.length:=by omega
       have e2:=aC hl2
       obtain⟨o,ho⟩:∃o,o=M[j]:=⟨_,rfl⟩
       rw[←ho]at e2
       have hol:=lMx o (aG e2)
       have rM:=r3.mono (h':=g5) hL2.nx (fun c hc=>hL2.rnd c (hown c hc).1 (hown c hc).2)
       obtain⟨p,u1,u2⟩:=rM.ix (fun _=>rfl) (by omega) e2
       rw[u1]
       have u2:aJ g5 (.one 0) p=some (ints o):=u2 _ rfl
       refine Z1 u2 ?_
       refine YY (.inl rfl) (by omega) ?_
       refine YY (.inl rfl) (by omega) ?_
       refine YY (.inl rfl) (by omega) ?_
       obtain⟨v,v2,g6,m1,m2,m3,m4,m5,m6,m7,m8,m9,m10,m11,m12,m13⟩:=XO hL2 ⟨task,vars,x,o⟩ hmost
       have m3:cY 4 [v,.slice (g5.aA+9) 0 1 1 0] (nwAt (up g5 12) (g5.aA+9) (.cells [iv task,ints vars,ints x,ints o]))= .ok v2 g6:=m3
       have m2':aP g5 (H+22)=some (.cells [v]):=m2
       have t2:=hL2.fb.tsk
       have t25:=hL2.rec_
       simp only[go_sem,reduceAdd,reduceMul,reduceSub,aa,reduceEqDiff,reduceLT,m2,m2',t2,m3,m4,m5,m6,m7,m8]
       have hM1:(M.take (j+1)).map (fun o=>(⟨task,vars,x,o⟩:Mode))=(M.take j).map (fun o=>(⟨task,vars,x,o⟩:Mode))++ [⟨task,vars,x,o⟩]:=by rw[dB e2,List.map_append];rfl
       have hO3:O'++ [⟨task,vars,x,o⟩]=T0++((I.take i).flatMap gi++(M.take (j+1)).map fun o=>(⟨task,vars,x,o⟩:Mode)):=by rw[hM1,hO2];simp
       have hH:=hL2.fb.nx
       refine⟨fun q5=> ?_,fun q5=> ?_⟩
       ·obtain⟨xr,e4⟩:=hL2.res
        have e4':aP g6 (H+4)=some (.cells [xr]):=by rw[m12 _ (by omega)];exact e4
        have hpr:O'++ [⟨task,vars,x,o⟩]<+:(fM (iS n t)).flatMap (eO d n m t task):=by
         rw[hO3]
         refine hpre _ (ME e ?_)
         rw[hgx]
         exact(List.take_prefix _ _).map _
        have htl:=XN hpr
        rw[List.length_append,List.length_singleton,show O'.length+1=most.toNat by omega]at htl
        simp only[go_sem,reduceAdd,reduceMul,reduceSub,aa,reduceEqDiff,reduceLT,e4',m12 _ (show H+25<H+27 by omega),t25,hy]
        refine⟨⟨hms,hms⟩,hms,k2 _ ⟨fun c hc=> ?_,aU _ _ _,v2,?_,?_⟩⟩
        ·rw[aX,if_neg (by omega),aX,if_neg (by omega),aX,if_neg (by omega),m12 _ (by omega)];exact hL2.fb.old c hc
        ·rw[aX,if_neg (by omega)];exact aU _ _ _
        ·rw[htl]
         refine m9.mono (by rw[bC,bC,bC];exact aE _) (fun c hc=> ?_)
         have:=m10 c hc
         rw[aX,if_neg (by omega),aX,if_neg (by omega),aX,if_neg (by omega)]
       ·have hLn:=hL2.app m9 m10 m11 m12 m13 (by have:=hL2.few;omega)
        refine bT (by omega) (by omega) ⟨⟨rfl,hms,hms⟩,(j+1,_,O'++ [⟨task,vars,x,o⟩]),⟨hl2,hLn,hO3⟩,(by omega),rfl,rfl⟩
      ·have:j=M.length:=by omega
       subst this
       rw[List.take_length,←hgx,←hOn]at hO2
       refine⟨⟨hms,hms⟩,?_⟩
       refine bT (by omega) (by omega) ⟨⟨rfl,hms⟩,(i+1,g5,O'),⟨hl,hL2,hO2⟩,(by omega),rfl,rfl⟩
     ·rw[gi2 x qt,List.append_nil]at hOn
      refine bT (by omega) (by omega) ⟨⟨rfl,hms⟩,(i+1,g4,O),⟨hl,hL,by rw[hOn];exact hO⟩,(by omega),rfl,rfl⟩
    ·have:i=I.length:=by omega
     subst this
     rw[List.take_length]at hO
     refine⟨hms,?_⟩
     rw[hL.rec_,hy]
     rw[←hO]at k1
     refine k1 _ (by rw[aX,if_neg (by omega),hL.vb];exact h26) (hL.inn.keep (by rw[bC];exact aE _) (fun b h1 _ h2=>by rw[aX,if_neg h1]) (aU _ _ _))
  ·rw[if_pos q1]at hmo
   rw[hmo,List.append_nil]at k1
   rw[hb1 _ (by omega),eG,hy]
   refine k1 _ (by rw[aX,if_neg (by omega),hb1 _ (by omega)];exact hG26) (hJ.keep (by rw[bC];omega) (fun b h1 _ h2=>by rw[aX,if_neg h1];exact hb1 b h2) (aU _ _ _))
 ·rw[if_pos henv]at hmo
  rw[hmo,List.append_nil]at k1
  simp only[go_sem,reduceAdd,reduceMul,reduceSub,aa,reduceEqDiff,reduceLT,YX]
  refine⟨fun q1=>absurd q1 henv,fun _=> ?_⟩
  obtain⟨G1,pO⟩:∃G1,G1=bI (nw G (.cells YX)) G.aA (.cells YX):=⟨_,rfl⟩
  have hb1:∀b,b<G.aA→aP G1 b=aP G b:=fun b hb=>by rw[pO,aX,if_neg (by omega),bF,if_neg (by omega)]
  have hn1:G.aA≤G1.aA:=by rw[pO,bC,aT];omega
  refine Eq.mp (congrArg (fun x=>yE (H+25) true .ready none x K' (aP x (H+25))) (show G1=_ from pO)) ?_
  rw[hb1 _ (by omega),eG,hy]
  refine k1 _ (by rw[aX,if_neg (by omega),hb1 _ (by omega)];exact hG26) (hJ.keep (by rw[bC];exact hn1) (fun b h1 _ h2=>by rw[aX,if_neg h1];exact hb1 b h2) (aU _ _ _))
end
section
attribute [local irreducible] cl
theorem aH8{d H:Nat}{n:dL}{m:Mark}{t:Task}{task most:Int}{h G0:aL}{TT:List AV}{a b f x13:AV}{rr:LoopState→Option zC→AO}(hn:dR d n)(hm:jG m)(ht:oO d t)(hj:¬t.jn=3)(hmost:most<2^20)
  (htask:n.tasks[task.toNat]?=some t)
  (hTT:TT= [.ptr H 0,.ptr (H+5) 0,.ptr (H+22) 0,.ptr (H+4) 0,.ptr (H+1) 0,.ptr (H+2) 0,x13,.ptr (H+19) 0,.ptr (H+18) 0,.ptr (H+3) 0])
  (hrr:rr=fun st p=>mB (S7 TT a b f) [aM 54] wS oS st p) (hH:H=h.aA) (nx:G0.aA=H+26) (hpt:aP G0 (H+24)=some (.cells (eT t)))
  (hI:∀G1:aL,H+27≤G1.aA→(∀b,b<H+26→aP G1 b=aP G0 b)→EG H h n m t task most (rr .ready none) [] G1)
  (k:K (sl iU (((fM (iS n t)).flatMap (eO d n m t task)).take most.toNat)) h):C 287 [.func (.yield (H+25)) [] [],.ptr (H+24) 0,.ptr (H+23) 0] G0 fun x h2=>
  rgE (H+25) h2
   (fun h3=>
    RO (fO 0 (.one 0) (aP h3 (H+22))) fun v=>
     RP (aW h3 1 (aK v) (.ptr (H+4) 0)) fun x h4=>
      RO (fO 0 (.one 0) (aP h4 (H+4))) fun w=>cl h K w h4)
   (fun h3=>RO (fO 0 (.one 0) (aP h3 (H+4))) fun w=>cl h K w h3) (aP h2 (H+25)):=by
 have fin:∀g v,bW H h g→dG (H+27) 4 iU g v (((fM (iS n t)).flatMap (eO d n m t task)).take most.toNat)→cl h K v g:=fun g v o q=>by
  unfold cl
  exact⟨hH▸o,_,q.fz' (by omega) gA (fun x _=>zM x),k⟩
 refine aNS (d:=d) rfl hn ht (fun k g=>EG H h n m t task most (rr .ready none) (((fM (iS n t)).take k).flatMap (eO d n m t task)) g) (fun g=>aH9 H h (rr .done (some .ret)) (((fM (iS n t)).flatMap (eO d n m t task)).take most.toNat) g) hpt
  (fun k g q=>⟨q.fb.tsk2,q.fb.net2,by rw[nx];have:=q.fb.nx;omega⟩) (fun k g g' q h1 h2=> ?_) ?_ (fun k v g K' e q k1 k2=> ?_) (fun g q=> ?_) (fun g q=> ?_)
 ·rw[nx]at h2
  have:=q.fb.nx
  exact q.keep h1 (fun b _ h3 h4=>h2 b h3 h4) (by rw[h2 _ (by omega) (by omega)];exact q.rec_)
 ·exact hI _ (by rw[aT];omega) (fun b hb=>by rw[bF,if_neg (by omega)])
 ·rw[nx]at k1
  exact aAO hn hm ht hj hmost htask e hTT hrr q k1 k2
 ·obtain⟨v,h1,h2⟩:=q.out
  obtain⟨x,h3⟩:=q.res
  have hf:=q.few
  rw[List.take_length]at h2 hf
  rw[q.rec_,hrr]
  refine Zr ?_
  rw[h1]
  refine Zr ?_
  rw[h2.cells]
  simp only[go_sem,reduceAdd,reduceMul,reduceSub,aa,reduceEqDiff,reduceLT,h2.all1,h3]
  refine fin _ _ (fun b hb=> ?_) ?_
  ·rw[aX,if_neg (by omega),i7,if_neg (by omega)];exact q.fb.old b hb
  ·rw[List.take_of_length_le (by omega)]
   refine h2.mono (by rw[bC,jZ];exact aE _) (fun b hb=> ?_)
   have:=h2.own hb
   rw[aX,if_neg (by omega),i7,if_neg (by omega)]
 ·obtain⟨v,h1,h2⟩:=q.res
  rw[q.rec_,hrr]
  refine⟨rfl,?_⟩
  show RO _ _
  rw[i7,if_neg (by omega),h1]
  refine Zr ?_
  refine fin _ _ (fun b hb=> ?_) ?_
  ·rw[i7,if_neg (by omega)];exact q.old b hb
  ·refine h2.mono (by rw[jZ];exact aE _) (fun b hb=> ?_)
   have:=h2.own hb
   rw[i7,if_neg (by omega)]
theorem aDV{d:Nat}{n:dL}{m:Mark}{t:Task}{task most:Int}{h G:aL}{x13 x:AV}(hn:dR d n)(hj:k7 n)(hm:jG m)(hmost:most<2^20)(hmo1:1≤most)(htask:n.tasks[task.toNat]?=some t)
  (o:bW h.aA h G) (nx:G.aA=h.aA+23) (g0:aP G h.aA=some (.cells (eN n))) (g1:aP G (h.aA+1)=some (.cells [dC m])) (g2:aP G (h.aA+2)=some (.cells [iv task])) (g3:aP G (h.aA+3)=some (.cells [iv most])) (g4:aP G (h.aA+4)=some (.cells [x])) (g5:aP G (h.aA+5)=some (.cells (eT t)))
  (g18:aP G (h.aA+18)=some (.cells [sl fl (d9 t.jn t.ins.length)])) (g19:aP G (h.aA+19)=some (.cells [sl fl (d9 t.split t.outs.length)])) (g22:aP G (h.aA+22)=some (.cells [.aB]))
  (k:K (sl iU (((fM (iS n t)).flatMap (eO d n m t task)).take most.toNat)) h):aAN (.ptr h.aA 0) (.ptr (h.aA+5) 0) (.ptr (h.aA+22) 0) (.ptr (h.aA+4) 0) (.ptr (h.aA+1) 0) (.ptr (h.aA+2) 0) x13 (.ptr (h.aA+19) 0) (.ptr (h.aA+18) 0) (.ptr (h.aA+3) 0) G (cl h K):=by
 have htm:=aG htask
 have hts:=hn.task t htm
 unfold aAN
 refine Z2 g0 g5 ?_
 refine aNN ?_
 refine Zr ?_
 rw[nx]
 refine⟨_,_,_,rfl,?_⟩
 refine Zr ?_
 refine aH8 (d:=d) (a:= .agg (eN n)) (b:= .agg (eT t)) (f:= .func (.func 287) [] [.ptr (h.aA+24) 0,.ptr (h.aA+23) 0]) (TT:= [.ptr h.aA 0,.ptr (h.aA+5) 0,.ptr (h.aA+22) 0,.ptr (h.aA+4) 0,.ptr (h.aA+1) 0,.ptr (h.aA+2) 0,x13,.ptr (h.aA+19) 0,.ptr (h.aA+18) 0,.ptr (h.aA+3) 0]) hn hm hts (hj t htm) hmost htask rfl rfl rfl (by rw[aT,aT,aT,nx]) ?_ (fun G1 h1 h2=> ?_) k
 ·rw[bF,if_neg (by rw[aT,aT,nx];omega),bF,if_pos (by rw[aT,nx])]
 ·have lo:∀b,b<h.aA+23→aP G1 b=aP G b:=fun b hb=>by
   rw[h2 b (by omega),bF,if_neg (by rw[aT,aT,nx];omega),bF,if_neg (by rw[aT,nx];omega),bF,if_neg (by omega)]
  refine⟨⟨fun b hb=>(lo b (by omega)).trans (o b hb),(lo _ (by omega)).trans g0,(lo _ (by omega)).trans g1,(lo _ (by omega)).trans g2,(lo _ (by omega)).trans g3,(lo _ (by omega)).trans g18,(lo _ (by omega)).trans g19,?_,?_,h1⟩,?_,⟨x,(lo _ (by omega)).trans g4⟩,⟨.aB,(lo _ (by omega)).trans g22,.aB⟩,by simp;omega⟩
  ·rw[h2 _ (by omega),bF,if_neg (by rw[aT,aT,nx];omega),bF,if_neg (by rw[aT,nx];omega),bF,if_pos nx.symm]
  ·rw[h2 _ (by omega),bF,if_neg (by rw[aT,aT,nx];omega),bF,if_pos (by rw[aT,nx])]
  ·rw[h2 _ (by omega),bF,if_pos (by rw[aT,aT,nx])]
theorem c88{d:Nat}{n:dL}{m:Mark}{task most:Int}(hn:dR d n)(hj:k7 n)(hm:jG m)(hmost:most<2^20)(k:K (sl iU (oT d n m task most)) h):C 88 [.agg (eN n),dC m,iv task,iv most] h K:=by
 refine bG (e88 ?_)
 unfold aAM
 unfold oT at k
 have zz:K (sl iU []) h→∀g,bW h.aA h g→cl h K .aB g:=fun q g o=>by
  unfold cl
  exact⟨o,_,.aB,q⟩
 refine Zr ?_
 refine⟨fun q1=> ?_,fun q1=>⟨fun q2=> ?_,fun q2=>⟨fun q3=> ?_,fun q3=> ?_⟩⟩⟩
 ·rw[if_pos (.inl q1)]at k
  exact zz k _ Oq
 ·rw[if_pos (.inr (.inl q2))]at k
  exact zz k _ Oq
 ·rw[if_pos (.inr (.inr q3))]at k
  exact zz k _ Oq
 rw[if_neg (by omega)]at k
 have hl:task.toNat<n.tasks.length:=by omega
 have e:=aC hl
 obtain⟨t,ht⟩:∃t,t=n.tasks[task.toNat]:=⟨_,rfl⟩
 rw[←ht]at e
 rw[e]at k
 simp only at k
 have htm:=aG e
 have hts:=hn.task t htm
 rw[cS (by omega),bV eS e]
 refine Zr ?_
 rw[bU _ _ (by rw[eS];rfl)]
 refine Zr ?_
 refine aB7 ?_
 refine Zr ?_
 refine aB7 ?_
 refine Zr ?_
 refine⟨_,_,_,_,_,_,_,_,_,_,rfl,?_⟩
 refine aDV (d:=d) hn hj hm hmost (by omega) e ?_ ?_ ?_ ?_ ?_ ?_ (x:= .aB) ?_ ?_ ?_ ?_ ?_ k
 ·refine bW.nw (bW.set (bW.set (bW.nwAt (bW.nwAt (bW.up Oq) (by omega)) (by omega)) (by omega)) (by omega)) (by refine Zr ?_;omega)
 all_goals exact Zr trivial
end
section
attribute [local irreducible] cl
theorem dG.appE{α:Type}{n0 n:Nat}{f:α→List AV}{v:AV}{l xs:List α}(q:dG n0 n f h v l)(hf:∀x,(f x).length=n)(hn0:n0≤h.aA)
  (hc:∀y∈xs,aZ (f y)=true) (hs:l.length+xs.length<16777216):
  ∃v' h',cY n [v,sl f xs] h= .ok v' h'∧dG n0 n f h' v' (l++xs)∧h.aA≤h'.aA∧(∀c,c<h.aA→¬gO v c→aP h' c=aP h c)∧(∀c,gO v' c→gO v c∨h.aA≤c):=by
 have he:elems h n xs.length (sl f xs)=some (xs.flatMap f):=by
  show bZ (xs.length*n) (xs.flatMap f)=_
  rw[fR (by rw[dA hf,Nat.mul_comm];exact aE _),List.take_of_length_le (by rw[dA hf,Nat.mul_comm];exact aE _)]
 by_cases hx:xs= []
 ·subst hx
  refine⟨v,h,?_,by rw[List.append_nil];exact q,aE _,fun _ _ _=>rfl,fun c hc=> .inl hc⟩
  have e1:cY n [v,sl f ([]:List α)] h=qJ h n 0 [] v:=by
   show lN h n v _ (lenOf (sl f ([]:List α)))=_
   rw[show lenOf (sl f ([]:List α))=some 0 from rfl]
   show oM h n 0 v (elems h n 0 (sl f ([]:List α)))=_
   rw[show elems h n 0 (sl f ([]:List α))=some []from he]
   rfl
  rw[e1]
  cases q with
  |aB=>rfl
  | @row b _ h1 h2 h3=>
   show DP h n b 0 l.length l.length (n+1) 0 [] (cellsIn 0 (Nat.mul l.length n) (aP h b))=_
   rw[h3]
   have:cellsIn 0 (Nat.mul l.length n) (some (.cells (l.flatMap f)))=some (l.flatMap f):=by
    show bZ (Nat.mul l.length n) (drop 0 (l.flatMap f))=_
    rw[J4,fR (by rw[dA hf];show l.length*n≤_;rw[Nat.mul_comm];omega)]
    rw[List.take_of_length_le (by rw[dA hf];show _≤l.length*n;rw[Nat.mul_comm];omega)]
   rw[this]
   rfl
 ·obtain⟨v',h',a1,a2,a3,a4,a5,a6⟩:=q.app (xs:=xs) (x:=sl f xs) hf hn0 hc hx rfl he hs
  exact⟨v',h',a1,a2,by omega,a4,fun c hc=> .inr (by have:=a6 c hc;omega)⟩
def allM(d:Nat)(n:dL)(m:Mark)(most:Int):Nat→List Mode
 |0=> []
 |k+1=>allM d n m most k++oT d n m k (most-(allM d n m most k).length)
theorem EE{d:Nat}{n:dL}{m:Mark}{task most:Int}(h:0≤most):((oT d n m task most).length:Int)≤most:=by
 unfold oT
 split
 ·simpa using h
 ·split
  ·simpa using h
  ·rw[List.length_take];omega
theorem EF{d:Nat}{n:dL}{m:Mark}{most:Int}(h:0≤most):∀k,((allM d n m most k).length:Int)≤most
 |0=>by simpa[allM]using h
 |k+1=>by
  have h1:=EF (d:=d) (n:=n) (m:=m) h k
  have h2:=EE (d:=d) (n:=n) (m:=m) (task:=k) (most:=most-(allM d n m most k).length) (by omega)
  show((allM d n m most k++_).length:Int)≤most
  rw[List.length_append];omega
theorem c47{d:Nat}{n:dL}{m:Mark}{most:Int}(hn:dR d n)(hj:k7 n)(hm:jG m)(hm0:0≤most)(hmost:most<2^20)(k:K (sl iU (allM d n m most n.tasks.length)) h):C 47 [.agg (eN n),dC m,iv most] h K:=by
 refine bG (e47 ?_)
 have htl:=hn.tasks
 refine Zr ?_
 refine cD (σ:=Nat×aL×AV) (fun p=> [iv p.1,iv n.tasks.length,p.2.2,.ptr h.aA 0,dC m,iv most]) (fun p=>p.2.1)
  (fun p=>p.1≤n.tasks.length∧bW h.aA h p.2.1∧h.aA+1≤p.2.1.aA∧aP p.2.1 h.aA=some (.cells (eN n))∧dG (h.aA+1) 4 iU p.2.1 p.2.2 (allM d n m most p.1)) (fun p=>n.tasks.length-p.1) ?_ (0,nw h (.cells (eN n)),.aB) ⟨aH _,Oq,(by refine Zr ?_;omega),(by exact Zr trivial),.aB⟩ (A:=aDH) (cur:=0)
 rintro⟨i,g,v⟩ ⟨hi,ho,hg,hN,hO⟩
 simp only at hi ho hg hN hO
 refine aHY ?_
 refine Zr ?_
 refine⟨fun hl=> ?_,fun hl=> ?_⟩
 ·have hl:i<n.tasks.length:=by omega
  refine Z1 hN ?_
  rw[hO.len]
  refine Zr ?_
  have hal:=EF (d:=d) (n:=n) (m:=m) hm0 i
  refine pC (by omega) (by omega) ?_
  refine c88 (d:=d) hn hj hm (by omega) ?_
  have hml:=EE (d:=d) (n:=n) (m:=m) (task:=(i:Int)) (most:=most-(allM d n m most i).length) (by omega)
  obtain⟨v',g',a1,a2,a3,a4,a5⟩:=hO.appE (xs:=oT d n m i (most-(allM d n m most i).length)) gA (by omega) (fun y _=>tG y) (by omega)
  refine Z1 a1 ?_
  refine bT (by omega) (by omega) ⟨⟨rfl,a2.seen⟩,(i+1,g',v'),⟨hl,fun b hb=> ?_,by show h.aA+1≤g'.aA;omega,?_,a2⟩,(by omega),rfl,rfl⟩
  ·show aP g' b=_
   rw[a4 b (by omega) (hO.old (by omega))];exact ho b hb
  ·show aP g' h.aA=_
   rw[a4 _ (by omega) (hO.old (by omega))];exact hN
 ·have:i=n.tasks.length:=by omega
  subst this
  refine⟨hO.seen,hO.seen,?_⟩
  unfold cl
  exact⟨ho,_,hO.fz' (by omega) gA (fun x _=>zM x),k⟩
theorem c48{d:Nat}{n:dL}{m:Mark}{o:Mode}{bud:AV}(hn:dR d n)(hj:k7 n)(hm:jG m)(ho:dO o)(k:K (iv (if eQ d n m o=0 then 1 else 0)) h):C 48 [.agg (eN n),dC m,.agg (iU o),bud] h K:=by
 refine bG (e48 ?_)
 have hv:=ho.vars
 refine Zr ?_
 refine c89 (d:=d) hn hj hm ho.sm ho.ins ho.outs ?_
 refine Zr ?_
 refine⟨fun q=> ?_,fun q=> ?_⟩
 ·rw[if_pos q]at k
  have henv:(hY n o.task o.vars).1=0:=Classical.byContradiction fun q2=>by
   unfold eQ at q
   rw[if_pos q2]at q
   exact q2 q
  obtain⟨h0,h1,t,ht⟩:=n9 henv
  rw[cS h0,bV eS ht]
  refine Zr ?_
  have hjt:=hj t (aG ht)
  refine⟨fun q3=>absurd q3 hjt,fun _=> ?_⟩
  exact fP k
 ·rw[if_neg q]at k
  exact fP k
end
section
attribute [local irreducible] cl
theorem MC{mb:Nat}{l:List (Int×Int)}{k:Int}(hm:aP h mb=some (f9 l))(e:fL l k=none):fT .int (iv 0) true (iv k) (dK h (.map mb))=some (.tuple [iv 0,.bool false]):=by
 rw[gU hm,pB (fv:=iv) gB _ _ e];rfl
theorem MD{mb:Nat}{l:List (Int×Int)}{k v:Int}(hm:aP h mb=some (f9 l))(e:fL l k=some v):fT .int (iv 0) true (iv k) (dK h (.map mb))=some (.tuple [iv v,.bool true]):=by
 rw[gU hm,mQ (fv:=iv) gB _ _ e];rfl
theorem XM{mb:Nat}{l:List (Int×Int)}{k v:Int}(hm:aP h mb=some (f9 l))(e:fL l k=some v):fT .int (iv 0) false (iv k) (dK h (.map mb))=some (iv v):=by
 rw[gU hm,mQ (fv:=iv) gB _ _ e];rfl
theorem tX{κ υ:Type}[DecidableEq κ]{k k':κ}{v:υ}:∀{l:List (κ×υ)},fL (fI k v l) k'=if k'=k then some v else fL l k'
 | []=>by by_cases h:k'=k<;>simp[fI,fL,h]
 |(a,b)::l=>by
  by_cases h1:k=a
  ·subst h1
   by_cases h2:k'=k<;>simp[fI,fL,h2]
  ·simp only[fI,h1,if_false,fL,tX (l:=l)]
   by_cases h2:k'=a
   ·subst h2
    rw[if_pos rfl,if_neg (fun e=>h1 e.symm),if_pos rfl]
   ·simp[h2]
theorem c20{d:Nat}{n:dL}{m:Mark}{most:Int}(hn:dR d n)(hj:k7 n)(hm:jG m)(hm0:0≤most)(hmost:most<2^20)(hall:∀o∈allM d n m most n.tasks.length,eQ d n m o=0∧dO o)
  (k:K (.tuple [sl iU (allM d n m most n.tasks.length),.bool true]) h):C 20 [.agg (eN n),dC m,iv 64,iv most] h K:=by
 refine bG (e20 ?_)
 have hal:=EF (d:=d) (n:=n) (m:=m) hm0 n.tasks.length
 refine Zr ?_
 refine c47 (d:=d) hn hj hm hm0 hmost ?_
 obtain⟨L,hL⟩:∃L,L=allM d n m most n.tasks.length:=⟨_,rfl⟩
 rw[←hL]at hall hal k⊢
 refine Zr ?_
 refine cD (σ:=Nat×aL×AV×List (Int×Int)) (fun p=> [iv p.1,iv L.length,sl iU L,.map (h.aA+1),.ptr h.aA 0,dC m,iv 64,p.2.2.1,.bool true]) (fun p=>p.2.1)
  (fun p=>p.1≤L.length∧bW h.aA h p.2.1∧h.aA+2≤p.2.1.aA∧aP p.2.1 h.aA=some (.cells (eN n))∧aP p.2.1 (h.aA+1)=some (f9 p.2.2.2)∧(∀k v,fL p.2.2.2 k=some v→v=1)∧dG (h.aA+2) 4 iU p.2.1 p.2.2.1 (L.take p.1)) (fun p=>L.length-p.1) ?_ (0,nw (nw h (.cells (eN n))) (.map [] 0),.aB,[]) ⟨aH _,Oq,(by refine Zr ?_;omega),(by exact Zr trivial),(by refine Zr ?_;rfl),(by rintro k v ⟨⟩),.aB⟩ (A:=aDL) (cur:=0)
 rintro⟨i,g,v,ml⟩ ⟨hi,ho,hg,hN,hM,hM1,hO⟩
 simp only at hi ho hg hN hM hM1 hO
 refine aH0 ?_
 refine Zr ?_
 refine⟨fun hl=> ?_,fun hl=> ?_⟩
 ·have hl:i<L.length:=by omega
  have e:=aC hl
  obtain⟨o,hoo⟩:∃o,o=L[i]:=⟨_,rfl⟩
  rw[←hoo]at e
  have hom:=hall o (aG e)
  rw[bV gA e]
  refine Zr ?_
  rw[bU _ _ (by rw[gA];rfl)]
  refine Zr ?_
  obtain⟨G,hG⟩:∃G,G=bI (nw g (.cells [iv 0,.aB,.aB,.aB])) g.aA (.cells (iU o)):=⟨_,rfl⟩
  rw[←hG]
  have nG:G.aA=g.aA+1:=by rw[hG,fK]
  have oG:∀b,b<g.aA→aP G b=aP g b:=fun b hb=>by rw[hG,g8 _ _ _ hb]
  have sG:aP G g.aA=some (.cells (iU o)):=by rw[hG];exact aU _ _ _
  clear hG
  have hMG:aP G (h.aA+1)=some (f9 ml):=by rw[oG _ (by omega)];exact hM
  have hNG:aP G h.aA=some (.cells (eN n)):=by rw[oG _ (by omega)];exact hN
  have hLt:L.take (i+1)=L.take i++ [o]:=dB e
  have fin:∀(g2:aL) (ml2:List (Int×Int)),(∀b,b<G.aA→b≠h.aA+1→aP g2 b=aP G b)→G.aA≤g2.aA→aP g2 (h.aA+1)=some (f9 ml2)→(∀k v,fL ml2 k=some v→v=1)→
    ∃v' g',cY 4 [v,.slice g2.aA 0 1 1 0] (nw g2 (.cells (iU o)))= .ok v' g'∧aQ v'=true∧(i+1≤L.length∧bW h.aA h g'∧h.aA+2≤g'.aA∧aP g' h.aA=some (.cells (eN n))∧aP g' (h.aA+1)=some (f9 ml2)∧(∀k v,fL ml2 k=some v→v=1)∧dG (h.aA+2) 4 iU g' v' (L.take (i+1))):=by
   intro g2 ml2 o2 n2 m2 m3
   have hO2:=hO.mono (h':=nw g2 (.cells (iU o))) (by rw[aT];omega) (fun c hc=>by
    have:=hO.own hc
    rw[bF,if_neg (by omega),o2 c (by omega) (by omega),oG c (by omega)])
   obtain⟨v2,g5,a1,a2,a3,a4,a5,a6⟩:=hO2.app (xs:= [o]) (x:= .slice g2.aA 0 1 1 0) gA (by rw[aT];omega) (fun y _=>tG y) (by simp) rfl (iE (l:=iU o) (bQ _ _) (by rw[gA];rfl)) (by simp;omega)
   have old:∀b,b<h.aA+2→aP g5 b=aP g2 b:=fun b hb=>by rw[a4 b (by rw[aT];omega) (hO2.old hb),bF,if_neg (by omega)]
   refine⟨v2,g5,a1,a2.seen,hl,fun b hb=> ?_,by rw[a3,aT];omega,by rw[old _ (by omega),o2 _ (by omega) (by omega)];exact hNG,by rw[old _ (by omega)];exact m2,m3,by rw[hLt];exact a2⟩
   rw[old b (by omega),o2 b (by omega) (by omega),oG b (by omega)];exact ho b hb
  cases hag:fL ml o.task with
  |none=>
   rw[MC hMG hag]
   refine Z2 hNG sG ?_
   refine c48 (d:=d) hn hj hm hom.2 ?_
   rw[if_pos hom.1]
   refine Z1 sG ?_
   rw[JU (l:=ml) (show aP (up G 9) (h.aA+1)=_ from hMG)]
   refine Zr ?_
   obtain⟨G2,t7⟩:∃G2,G2=bI (up G 9) (h.aA+1) (f9 (fI o.task 1 ml)):=⟨_,rfl⟩
   rw[←t7,show G.aA+9=G2.aA from by rw[t7,bC,cW]]
   have f2:∀b,b<G.aA→b≠h.aA+1→aP G2 b=aP G b:=fun b _ hb=>by rw[t7,aX,if_neg hb,cM]
   have m2:aP G2 (h.aA+1)=some (f9 (fI o.task 1 ml)):=by rw[t7];exact aU _ _ _
   have n2:G.aA≤G2.aA:=by rw[t7,bC,cW];omega
   clear t7
   rw[f2 g.aA (by omega) (by omega),sG]
   refine Zr ?_
   rw[XM m2 (by rw[tX,if_pos rfl])]
   obtain⟨v',g',b1,b2,b3⟩:=fin G2 _ f2 n2 m2 (fun k v hk=>by
    rw[tX]at hk
    split at hk
    ·exact(Option.some.inj hk).symm
    ·exact hM1 k v hk)
   refine Zr ?_
   refine⟨fun _=> ?_,fun q=>absurd trivial q⟩
   rw[bU _ _ (by rw[gA];rfl)]
   try rw[←nG]
   simp only[go_sem,reduceAdd,reduceMul,reduceSub,aa,reduceEqDiff,reduceLT,b1,tG]
   refine bT (by omega) (by omega) ⟨⟨rfl,b2⟩,(i+1,g',v',_),b3,(by omega),rfl,rfl⟩
  |some v0=>
   rw[MD hMG hag]
   try simp only[go_sem,reduceAdd,reduceMul,reduceSub,aa,reduceEqDiff,reduceLT]
   have hv0:=hM1 _ _ hag
   subst hv0
   rw[XM hMG hag]
   try simp only[go_sem,reduceAdd,reduceMul,reduceSub,aa,reduceEqDiff,reduceLT]
   obtain⟨v',g',b1,b2,b3⟩:=fin G ml (fun _ _ _=>rfl) (aE _) hMG hM1
   try simp only[go_sem,reduceAdd,reduceMul,reduceSub,aa,reduceEqDiff,reduceLT]
   refine⟨fun _=> ?_,fun q=>absurd trivial q⟩
   rw[bU _ _ (by rw[gA];rfl)]
   try rw[←nG]
   simp only[go_sem,reduceAdd,reduceMul,reduceSub,aa,reduceEqDiff,reduceLT,b1,tG]
   refine bT (by omega) (by omega) ⟨⟨rfl,b2⟩,(i+1,g',v',ml),b3,(by omega),rfl,rfl⟩
 ·have:i=L.length:=by omega
  subst this
  rw[List.take_length]at hO
  refine⟨hO.seen,hO.seen,?_⟩
  unfold cl
  exact⟨ho,_,.tuple (.cons (hO.fz' (by omega) gA (fun x _=>zM x)) (.cons (.same rfl) .nil)),k⟩
end
section
attribute [local irreducible] cl
theorem c10{a b:Mode}(ha:dO a)(hb:dO b)(k1:a=b→K (.bool true) h)(k2:¬a=b→K (.bool false) h):C 10 [.agg (iU a),.agg (iU b)] h K:=by
 refine bG (e10 ?_)
 have h1:=ha.vars
 have h2:=ha.ins
 have h3:=ha.outs
 have h4:=hb.vars
 have h5:=hb.ins
 have h6:=hb.outs
 have kn:∀g,bW h.aA h g→¬a=b→cl h K (.bool false) g:=fun g o q=>bA o rfl (k2 q)
 refine Zr ?_
 refine⟨fun q0=> ?_,fun q0=>kn _ Oq (fun e=>q0 (e▸rfl))⟩
 refine c23 (by omega) (fun q1=> ?_) (fun q1=> ?_)
 ·refine Zr ?_
  refine c23 (by omega) (fun q2=> ?_) (fun q2=> ?_)
  ·refine Zr ?_
   refine c23 (by omega) (fun q3=> ?_) (fun q3=> ?_)
   ·refine Zr ?_
    refine fP (k1 ?_)
    cases a;cases b;simp only at q0 q1 q2 q3;rw[q0,q1,q2,q3]
   ·refine Zr ?_
    exact kn _ Oq (fun e=>q3 (e▸rfl))
  ·refine Zr ?_
   exact kn _ Oq (fun e=>q2 (e▸rfl))
 ·refine Zr ?_
  exact kn _ Oq (fun e=>q1 (e▸rfl))
theorem OU{d:Nat}{n:dL}{m:Mark}{t:Task}{task:Int}{vars:List Int}{o:Mode}(ht:n.tasks[task.toNat]?=some t)(h:o∈eO d n m t task vars):eQ d n m o=0∧o.task=task∧o.vars=vars∧o.ins.length<64∧o.outs.length<64:=by
 unfold eO at h
 split at h
 ·cases h
 ·rename_i h1
  split at h
  ·cases h
  ·rename_i h2
   obtain⟨i,hi,ho⟩:=List.mem_flatMap.1 h
   obtain⟨u,hu,rfl⟩:=List.mem_map.1 ho
   obtain⟨i1,i2⟩:=List.mem_filter.1 hi
   obtain⟨u1,u2⟩:=List.mem_filter.1 hu
   have i2:=of_decide_eq_true i2
   have u2:M0 d ⟨n,m,t,(hY n task vars).2⟩ u=0:=by simpa using u2
   refine⟨?_,rfl,rfl,mO.2 _ i1,mO.2 _ u1⟩
   unfold eQ
   rw[if_neg h1]
   show(match n.tasks[task.toNat]? with|none=>(3:Int)|some t=>_)=0
   rw[ht]
   show(if _ then _ else _)=(0:Int)
   rw[if_neg h2,if_neg (by rintro(q|q);exact q i1;exact q u1),if_neg (fun q=>q i2)]
   exact u2
theorem S9{d:Nat}{n:dL}{m:Mark}{task most:Int}{o:Mode}(hn:dR d n)(h:o∈oT d n m task most):eQ d n m o=0∧o.task=task∧dO o:=by
 unfold oT at h
 split at h
 ·cases h
 ·split at h
  ·cases h
  ·rename_i t ht
   obtain⟨vars,hv,ho⟩:=List.mem_flatMap.1 (List.mem_of_mem_take h)
   obtain⟨h1,h2,h3,h4,h5⟩:=OU ht ho
   have hl:=kS hv
   have hts:=(hn.task t (aG ht)).vars
   unfold iS at hl
   rw[List.length_map]at hl
   exact⟨h1,h2,by rw[h3];omega,by omega,by omega⟩
theorem IK{d:Nat}{n:dL}{m:Mark}{most:Int}(hn:dR d n):∀{k:Nat} {o:Mode},o∈allM d n m most k→eQ d n m o=0∧dO o
 |0,o,h=>by cases h
 |k+1,o,h=>by
  rcases List.mem_append.1 h with h|h
  ·exact IK hn h
  ·have:=S9 hn h
   exact⟨this.1,this.2.2⟩
theorem c8{d:Nat}{n:dL}{c:pU}(hn:dR d n)(hj:k7 n)(hm:jG c.m)(k:K (sl iU (allM d n c.m 2000 n.tasks.length)) h):C 8 [.agg (eN n),.agg (mY c),iv 2000] h K:=by
 refine bG (e8 ?_)
 refine Zr ?_
 refine c20 (d:=d) hn hj hm (by omega) (by omega) (fun o ho=>IK hn ho) ?_
 refine Zr ?_
 exact bA Oq (cN zM _) k
end
section
attribute [local irreducible] cl
def XL(b:dS)(which:Int):dS:=
 if which=0 then{b with opn:=b.opn+1}
 else if which=1 then{b with done:=b.done+1,opn:=b.opn-1}
 else{b with failed:=b.failed+1,opn:=b.opn-1}
def oN(b:dS)(which:Int):dS×Int:=
 if¬sW b then(b,1)else if nV b then(b,12)else if which=0∧yG b=b.most then(b,2)else(XL b which,0)
def OM(p:dS×Int):AV:= .tuple [.agg (eB p.1),iv p.2]
theorem qX(b:dS):idless (.agg (eB b))=true:=by cases b;rfl
theorem ON(a b c d e x:AV):aV [a,b,c,d,e] 2 [x]=some [a,b,x,d,e]:=by rfl
theorem OO(a b c d e x:AV):aV [a,b,c,d,e] 3 [x]=some [a,b,c,x,e]:=by rfl
theorem OP(a b c d e x:AV):aV [a,b,c,d,e] 4 [x]=some [a,b,c,d,x]:=by rfl
theorem EC(a b c d e x y z u v:AV):aV [a,b,c,d,e] 0 [x,y,z,u,v]=some [x,y,z,u,v]:=by rfl
theorem OQ(a b c d e:AV):bR [a,b,c,d,e] 2=some c:=by rfl
theorem OS(a b c d e:AV):bR [a,b,c,d,e] 3=some d:=by rfl
theorem OT(a b c d e:AV):bR [a,b,c,d,e] 4=some e:=by rfl
theorem ED(a b c d e:Int):eB ⟨a,b,c,d,e⟩= [iv a,iv b,iv c,iv d,iv e]:=rfl
theorem aN0{b:dS}{w:Int}(hw:w=0∨w=1∨w=2)(k:K (OM (oN b w)) h):C 299 [.agg (eB b),iv w] h K:=by
 refine bG (aNx ?_)
 unfold oN at k
 simp only[go_sem,reduceAdd,reduceMul,reduceSub,aa,reduceEqDiff,reduceLT,nW]
 refine aAK (fun q1=> ?_) (fun q1=> ?_)
 ·refine Zr ?_
  refine c96 (fun q2=> ?_) (fun q2=> ?_)
  ·simp only[go_sem,reduceAdd,reduceMul,reduceSub,aa,reduceEqDiff,reduceLT,nW]
   rw[if_neg (fun n=>n q1),if_pos q2]at k
   rw[bU _ _ (by rw[yF];rfl)]
   refine Zr ?_
   exact bA Oq (eA (aY (qX b) rfl)) k
  ·simp only[go_sem,reduceAdd,reduceMul,reduceSub,aa,reduceEqDiff,reduceLT,nW]
   rw[if_neg (fun n=>n q1),if_neg q2]at k
   obtain⟨⟨b1,b2⟩,⟨b3,b4⟩,⟨b5,b6⟩,⟨b7,b8⟩,⟨b9,b10⟩,b11,b12⟩:=q1
   clear q2 b11 b12
   refine⟨fun w0=> ?_,fun w0=>⟨fun w1=> ?_,fun w1=>⟨fun w2=> ?_,fun w2=>by omega⟩⟩⟩
   ·refine aHS ?_
    refine Zr ?_
    refine⟨fun q3=> ?_,fun q3=> ?_⟩
    ·rw[if_pos ⟨w0,q3⟩]at k
     rw[bU _ _ (by rw[yF];rfl)]
     refine Zr ?_
     exact bA Oq (eA (aY (qX b) rfl)) k
    ·rw[if_neg (fun q=>q3 q.2)]at k
     subst w0
     obtain⟨mo,en,op,dn,fa⟩:=b
     simp only at b1 b2 b3 b4 b5 b6 b7 b8 b9 b10
     dsimp only
     refine bT (by omega) (by omega) ?_
     simp only[go_sem,reduceAdd,reduceMul,reduceSub,aa,reduceEqDiff,reduceLT,ED,ON,OO,OP,EC,OQ,OS,OT]
     exact bA Oq (eA (aY (qX ⟨mo,en,op+1,dn,fa⟩) rfl)) k
   ·rw[if_neg (fun q=>w0 q.1)]at k
    subst w1
    obtain⟨mo,en,op,dn,fa⟩:=b
    simp only at b1 b2 b3 b4 b5 b6 b7 b8 b9 b10
    dsimp only
    refine bT (by omega) (by omega) ?_
    simp only[go_sem,reduceAdd,reduceMul,reduceSub,aa,reduceEqDiff,reduceLT,ED,ON,OO,OP,EC,OQ,OS,OT]
    refine pC (by omega) (by omega) ?_
    simp only[go_sem,reduceAdd,reduceMul,reduceSub,aa,reduceEqDiff,reduceLT,ED,ON,OO,OP,EC,OQ,OS,OT]
    refine bT (by omega) (by omega) ?_
    simp only[go_sem,reduceAdd,reduceMul,reduceSub,aa,reduceEqDiff,reduceLT,ED,ON,OO,OP,EC,OQ,OS,OT]
    refine pC (by omega) (by omega) ?_
    simp only[go_sem,reduceAdd,reduceMul,reduceSub,aa,reduceEqDiff,reduceLT,ED,ON,OO,OP,EC,OQ,OS,OT]
    rw[Int.sub_add_cancel]
    exact bA Oq (eA (aY (qX ⟨mo,en,op-1,dn+1,fa⟩) rfl)) k
   ·rw[if_neg (fun q=>w0 q.1)]at k
    subst w2
    obtain⟨mo,en,op,dn,fa⟩:=b
    simp only at b1 b2 b3 b4 b5 b6 b7 b8 b9 b10
    dsimp only
    refine bT (by omega) (by omega) ?_
    simp only[go_sem,reduceAdd,reduceMul,reduceSub,aa,reduceEqDiff,reduceLT,ED,ON,OO,OP,EC,OQ,OS,OT]
    refine pC (by omega) (by omega) ?_
    simp only[go_sem,reduceAdd,reduceMul,reduceSub,aa,reduceEqDiff,reduceLT,ED,ON,OO,OP,EC,OQ,OS,OT]
    exact bA Oq (eA (aY (qX ⟨mo,en,op-1,dn,fa+1⟩) rfl)) k
 ·simp only[go_sem,reduceAdd,reduceMul,reduceSub,aa,reduceEqDiff,reduceLT,nW]
  rw[if_pos q1]at k
  rw[bU _ _ (by rw[yF];rfl)]
  refine Zr ?_
  exact bA Oq (eA (aY (qX b) rfl)) k
theorem yI{b:dS}{w:Int}(hw:w=0∨w=1∨w=2)(k:K (OM (oN b w)) h):cA (aK (.agg (eB b))) (RO (aJ (nw (nw h (.cells (aK (.agg (eB b))))) (.cells [(iv 0),(iv 0),(iv 0),(iv 0),(iv 0)])) (.many 0 5) (.ptr h.aA 0)) fun v0=>
  C 299 [v0,iv w] (nw (nw h (.cells (aK (.agg (eB b))))) (.cells [(iv 0),(iv 0),(iv 0),(iv 0),(iv 0)])) fun v1 h2=>
  RO (aR 0 v1) fun v3=>
  RO (aR 1 v1) fun v4=>
  RP (aW h2 5 (aK v3) (.ptr (nw h (.cells (aK (.agg (eB b))))).aA 0)) fun v5 h6=>
  RO (cE h6 (.many 0 5) (.ptr (nw h (.cells (aK (.agg (eB b))))).aA 0)) fun v7=>aQ v4=true∧cl h K (.tuple [v7,v4]) h6):=by
 simp only[go_sem,reduceAdd,reduceMul,reduceSub,aa,reduceEqDiff,reduceLT,nW]
 refine aN0 hw ?_
 unfold OM at k⊢
 simp only[go_sem,reduceAdd,reduceMul,reduceSub,aa,reduceEqDiff,reduceLT,nW]
 rw[bU _ _ (by rw[yF];rfl)]
 refine Zr ?_
 exact bA Oq (eA (aY (qX _) rfl)) k
def jO(m0 m1 m2 num:Int):dS×Int:=
 let a:=if m0=0∧m1=0∧m2=0 then 1 else m0
 let b:=if m0=0∧m1=0∧m2=0 then 1 else m1
 let c:=if m0=0∧m1=0∧m2=0 then 1 else m2
 if 1≤a∧(a≤b∧b≤16)∧(1≤c∧c≤b)∧(a≤num∧num≤b)then(⟨b,c,num,0,0⟩,0)else(⟨0,0,0,0,0⟩,1)
theorem aBD(a b c x y z:Int):aO .eql (.flat [.int,.int,.int]) (.agg [iv a,iv b,iv c]) (.agg [iv x,iv y,iv z])=some (.bool (decide (a=x∧b=y∧c=z))):=by
 show K9 (match oR .int (iv a) (iv x)with|some true=>(match oR .int (iv b) (iv y)with|some true=>(match oR .int (iv c) (iv z)with|some true=>some true|some false=>some false|none=>none)|some false=>some false|none=>none)|some false=>some false|none=>none)=_
 rw[gB a x,gB b y,gB c z]
 by_cases h1:a=x<;>by_cases h2:b=y<;>by_cases h3:c=z<;>simp[h1,h2,h3,K9]
theorem ix3{b i:Nat}(hi:i<3):cR (some 3) 1 (.ptr b 0) (some i)=some (.ptr b i):=by
 show DS i 3 (.ptr b (Nat.add 0 (i*1)))=_
 unfold DS
 rw[show Nat.blt i 3=true from blt_eq.2 hi,Nat.mul_one]
 show some (AV.ptr b (0+i))=_
 rw[Nat.zero_add]
def T91(num:Int)(h:aL)(K:KH)(h7:aL):Prop:=
 RO (cR (some 3) 1 (.ptr h.aA 0) (bB (iv 0))) fun v8=>
 cP (fun hh=>cF hh (aJ hh (.one 0) v8)) 0 [(up h7 9)] fun v9=>
 RO (cR (some 3) 1 (.ptr h.aA 0) (bB (iv 1))) fun v10=>
 cP (fun hh=>cF hh (aJ hh (.one 0) v10)) 0 [(up h7 9)] fun v11=>
 RO (cR (some 3) 1 (.ptr h.aA 0) (bB (iv 2))) fun v12=>
 cP (fun hh=>cF hh (aJ hh (.one 0) v12)) 0 [(up h7 9)] fun v13=>
 RO (aO .lss .no v9 (iv 1)) fun v14=>
 gV v14 false (fun k15=>k15 v11 (up h7 9)) (up h7 9) fun v16 h17=>
 gV v14 false (fun k18=>k18 v9 h17) h17 fun v19 h20=>
 gV v14 false (fun k21=>C 186 [v16,v19,(iv 16)] h20 fun v22 h23=>
 k21 v22 h23) h20 fun v24 h25=>
 gV v14 false (fun k26=>RO (gS .not v24) fun v27=>
 k26 v27 h25) h25 fun v28 h29=>
 RO (bJ (.bool true) v28 v14) fun v30=>
 gV v30 false (fun k31=>k31 v13 h29) h29 fun v32 h33=>
 gV v30 false (fun k34=>k34 v11 h33) h33 fun v35 h36=>
 gV v30 false (fun k37=>C 186 [v32,(iv 1),v35] h36 fun v38 h39=>
 k37 v38 h39) h36 fun v40 h41=>
 gV v30 false (fun k42=>RO (gS .not v40) fun v43=>
 k42 v43 h41) h41 fun v44 h45=>
 RO (bJ (.bool true) v44 v30) fun v46=>
 gV v46 false (fun k47=>k47 (iv num) h45) h45 fun v48 h49=>
 gV v46 false (fun k50=>k50 v9 h49) h49 fun v51 h52=>
 gV v46 false (fun k53=>k53 v11 h52) h52 fun v54 h55=>
 gV v46 false (fun k56=>C 186 [v48,v51,v54] h55 fun v57 h58=>
 k56 v57 h58) h55 fun v59 h60=>
 gV v46 false (fun k61=>RO (gS .not v59) fun v62=>
 k61 v62 h60) h60 fun v63 h64=>
 RO (bJ (.bool true) v63 v46) fun v65=>
 cB v65 (RL (bK [(iv 0),(iv 0),(iv 0),(iv 0),(iv 0)] []) fun l66=>cA l66 (
 RP (aW h64 5 (aK (.agg l66)) (.ptr (h.aA+1) 0)) fun v67 h68=>
 RO (cE h68 (.many 0 5) (.ptr (h.aA+1) 0)) fun v69=>aQ (iv 1)=true∧cl h K (.tuple [v69,(iv 1)]) h68))
 (RL (bK [(iv 0),(iv 0),(iv 0),(iv 0),(iv 0)] [(0,1,v11),(1,1,v13),(2,1,(iv num))]) fun l70=>cA l70 (
 RP (aW h64 5 (aK (.agg l70)) (.ptr (h.aA+1) 0)) fun v71 h72=>
 RO (cE h72 (.many 0 5) (.ptr (h.aA+1) 0)) fun v73=>aQ (iv 0)=true∧cl h K (.tuple [v73,(iv 0)]) h72))
theorem t91{a b c num:Int}{h h7:aL}(o:bW h.aA h h7)(h0:aP h7 h.aA=some (.cells [iv a,iv b,iv c]))(h1:aP h7 (h.aA+1)=some (.cells [iv 0,iv 0,iv 0,iv 0,iv 0]))
  (k:K (OM (if 1≤a∧(a≤b∧b≤16)∧(1≤c∧c≤b)∧(a≤num∧num≤b)then(⟨b,c,num,0,0⟩,0)else(⟨0,0,0,0,0⟩,1))) h):T91 num h K h7:=by
 unfold T91
 have e0:bB (iv 0)=some 0:=rfl
 have e1:bB (iv 1)=some 1:=rfl
 have e2:bB (iv 2)=some 2:=rfl
 rw[e0,e1,e2,ix3 (by omega),ix3 (by omega),ix3 (by omega)]
 simp only[go_sem,reduceAdd,reduceMul,reduceSub,aa,reduceEqDiff,reduceLT,h0,h1]
 have bad:∀g,bW h.aA h g→K (OM (⟨0,0,0,0,0⟩,1)) h→cl h K (.tuple [.agg [iv 0,iv 0,iv 0,iv 0,iv 0],iv 1]) g:=fun g o k=>bA o rfl k
 have h1':aP (up h7 9) (h.aA+1)=some (.cells [iv 0,iv 0,iv 0,iv 0,iv 0]):=h1
 refine⟨fun q1=> ?_,fun q1=> ?_⟩
 ·rw[if_neg (by omega)]at k
  exact bad _ (o.up.set (by omega)) k
 refine OG (fun q2=> ?_) (fun q2=> ?_)
 ·refine Zr ?_
  refine OG (fun q3=> ?_) (fun q3=> ?_)
  ·refine Zr ?_
   refine OG (fun q4=> ?_) (fun q4=> ?_)
   ·rw[if_pos ⟨by omega,q2,q3,q4⟩]at k
    simp only[go_sem,reduceAdd,reduceMul,reduceSub,aa,reduceEqDiff,reduceLT,h1',EC]
    exact bA (o.up.set (by omega)) (eA (aY (qX ⟨b,c,num,0,0⟩) rfl)) k
   ·rw[if_neg (fun q=>q4 q.2.2.2)]at k
    simp only[go_sem,reduceAdd,reduceMul,reduceSub,aa,reduceEqDiff,reduceLT,h1',EC]
    exact bad _ (o.up.set (by omega)) k
  ·rw[if_neg (fun q=>q3 q.2.2.1)]at k
   simp only[go_sem,reduceAdd,reduceMul,reduceSub,aa,reduceEqDiff,reduceLT,h1',EC]
   exact bad _ (o.up.set (by omega)) k
 ·rw[if_neg (fun q=>q2 q.2.1)]at k
  simp only[go_sem,reduceAdd,reduceMul,reduceSub,aa,reduceEqDiff,reduceLT,h1',EC]
  exact bad _ (o.up.set (by omega)) k
theorem aDU(a0:AV)(num:Int)(h:aL)(K:KH):S91 a0 (iv num) h (cl h K)=cA (aK a0) (
 RO (aJ (nw (nw h (.cells (aK a0))) (.cells [(iv 0),(iv 0),(iv 0),(iv 0),(iv 0)])) (.many 0 3) (.ptr h.aA 0)) fun v1=>
 RL (bK [(iv 0),(iv 0),(iv 0)] []) fun l2=>cA l2 (
 RO (aO .eql (.flat [.int,.int,.int]) v1 (.agg l2)) fun v3=>
 cB v3 (RL (bK [(iv 0),(iv 0),(iv 0)] [(0,1,(iv 1)),(1,1,(iv 1)),(2,1,(iv 1))]) fun l4=>cA l4 (
 RP (aW (nw (nw h (.cells (aK a0))) (.cells [(iv 0),(iv 0),(iv 0),(iv 0),(iv 0)])) 3 (aK (.agg l4)) (.ptr h.aA 0)) fun v5 h6=>
 T91 num h K h6))
 (T91 num h K (nw (nw h (.cells (aK a0))) (.cells [(iv 0),(iv 0),(iv 0),(iv 0),(iv 0)]))))):=rfl
theorem c91{m0 m1 m2 num:Int}(k:K (OM (jO m0 m1 m2 num)) h):C 91 [.agg [iv m0,iv m1,iv m2],iv num] h K:=by
 refine bG (e91 ?_)
 rw[aDU]
 unfold jO at k
 refine Zr ?_
 rw[aBD]
 by_cases q:m0=0∧m1=0∧m2=0
 ·rw[decide_eq_true q]
  simp only[if_pos q]at k
  refine Zr ?_
  refine t91 (a:=1) (b:=1) (c:=1) ?_ ?_ ?_ k
  ·exact Oq
  ·exact Zr trivial
  ·exact Zr trivial
 ·rw[decide_eq_false q]
  simp only[if_neg q]at k
  refine Zr ?_
  refine t91 (a:=m0) (b:=m1) (c:=m2) ?_ ?_ ?_ k
  ·exact Oq
  ·exact Zr trivial
  ·exact Zr trivial
theorem aN2{b:dS}(k:K (OM (oN b 0)) h):C 193 [.agg (eB b)] h K:=by
 refine bG (aNt ?_)
 exact yI (.inl rfl) k
theorem aN3{b:dS}(k:K (OM (oN b 1)) h):C 194 [.agg (eB b)] h K:=by
 refine bG (aNu ?_)
 exact yI (.inr (.inl rfl)) k
theorem aN4{b:dS}(k:K (OM (oN b 2)) h):C 195 [.agg (eB b)] h K:=by
 refine bG (aNv ?_)
 exact yI (.inr (.inr rfl)) k
end
section
attribute [local irreducible] cl
theorem rO.ixw{α:Type}{n:Nat}{f:α→List AV}{v:AV}{l:List α}(q:rO n f h v l)(hf:∀x,(f x).length=n)(hc:∀x,aZ (f x)=true){i:Nat}{x:α}(e:l[i]?=some x):∃p,cR none n v (some i)=some p∧aJ h (.many 0 n) p=some (.agg (f x)):=by
 have hi:=(aD.1 e).1
 rcases q with rfl|⟨rfl,rfl⟩|⟨b,off,cap,kind,cs,rfl,h1,h2,h3⟩
 ·refine⟨_,bV hf e,?_⟩
  have:bZ n (f x++(l.drop (i+1)).flatMap f)=some (f x):=by
   rw[fR (by rw[List.length_append,hf];omega),List.take_append_of_le_length (by rw[hf];exact aE _),List.take_of_length_le (by rw[hf];exact aE _)]
  show kW (f x++(l.drop (i+1)).flatMap f) 0 (.many 0 n)=_
  show K7 (bZ n (drop 0 _))=_
  rw[J4,this]
  rfl
 ·cases e
 ·refine⟨.ptr b (off+i*n),?_,?_⟩
  ·show DS i l.length _=_
   unfold DS
   rw[show Nat.blt i l.length=true from blt_eq.2 hi];rfl
  ·show fO (off+i*n) (.many 0 n) (aP h b)=_
   rw[h1]
   show K7 (bZ n (drop (off+i*n+0) cs))=_
   have h4:=oC hf e
   rw[←h2]at h4
   have h5:(cs.drop (off+i*n)).take n=f x:=by
    have:=congrArg (List.take n) h4
    rw[List.take_append_of_le_length (by rw[hf];exact aE _),List.take_of_length_le (l:=f x) (by rw[hf];exact aE _),List.drop_take,List.drop_drop,List.take_take]at this
    rw[Nat.min_eq_left (by
     have:(i+1)*n≤l.length*n:=Nat.mul_le_mul_right n hi
     rw[Nat.succ_mul]at this;omega)]at this
    exact this
   have h6:n≤(cs.drop (off+i*n)).length:=by
    have:=congrArg List.length h5
    rw[List.length_take,hf]at this;omega
   rw[Nat.add_zero,dX,fR h6,h5]
   rfl
theorem aDT{l:List Item}{v fv:AV}{P:Item→Prop}(q:rO 11 eI h v l)(hl:l.length<2^40)(hs:aQ fv=true)
  (hp:∀x∈l,∀K:KH,(P x→K (.bool true) h)→(¬P x→K (.bool false) h)→CV fv [.agg (eI x)] h K) (k:K (iv (mC P l)) h):C 104 [v,fv] h K:=by
 refine aNB ?_
 rw[q.lenB]
 refine Zr ?_
 refine cD (σ:=Nat) (fun i=> [iv i,iv l.length,fv,v,iv 0]) (fun _=>h) (fun i=>i≤l.length∧∀(j:Nat) x,l[j]?=some x→j<i→¬P x) (fun i=>l.length-i) ?_ 0 ⟨aH _,fun j x _ hj=>absurd hj (Nat.not_lt_zero _)⟩ (A:=W6) (cur:=0)
 rintro i ⟨hi,hb⟩
 refine aDz ?_
 refine Zr ?_
 refine⟨fun q1=> ?_,fun q1=> ?_⟩
 ·have hil:i<l.length:=by omega
  have ee:=aC hil
  obtain⟨p,p1,p2⟩:=q.ixw dV rW ee
  rw[p1]
  refine Z1 p2 ?_
  refine hp _ (List.getElem_mem hil) _ (fun pp=> ?_) (fun pp=> ?_)
  ·simp only[go_sem,reduceAdd,reduceMul,reduceSub,aa,reduceEqDiff,reduceLT,hs,q.seen]
   rw[wQ ee pp hb]at k
   exact k
  ·refine Zr ?_
   refine bT (by omega) (by omega) ⟨⟨rfl,hs,q.seen⟩,i+1,⟨hil,fun j x hx hj=> ?_⟩,(by omega),rfl⟩
   by_cases hji:j=i
   ·subst hji;rw[ee]at hx;cases hx;exact pp
   ·exact hb j x hx (by omega)
 ·simp only[go_sem,reduceAdd,reduceMul,reduceSub,aa,reduceEqDiff,reduceLT,hs,q.seen]
  rw[pL (fun j x hx=>hb j x hx (by have:=(aD.1 hx).1;omega))]at k
  exact k
theorem aH7{l:List Item}{id:Int}(hl:l.length<2^40)(k:K (iv (mC (fun x:Item=>x.id=id) l)) h):C 102 [sl eI l,iv id] h K:=by
 refine bG (aNC ?_)
 refine Zr ?_
 refine aDT (P:=fun x:Item=>x.id=id) (.inl rfl) hl rfl (fun x hx K k1 k2=> ?_) ?_
 ·rw[kC]
  refine bG (aND ?_)
  refine Zr ?_
  by_cases q:x.id=id
  ·exact⟨fun _=>fP (k1 q),fun n=>absurd q n⟩
  ·exact⟨fun n=>absurd n q,fun _=>fP (k2 q)⟩
 ·refine Zr ?_
  exact fP k
theorem c54{l:List Item}{v fv:AV}{P:Item→Prop}(q:rO 11 eI h v l)(hl:l.length<2^40)(hs:aQ fv=true)
  (hp:∀x∈l,∀K:KH,(P x→K (.bool true) h)→(¬P x→K (.bool false) h)→CV fv [.agg (eI x)] h K) (k1:(∃x∈l,P x)→K (.bool true) h) (k2:¬(∃x∈l,P x)→K (.bool false) h):C 54 [v,fv] h K:=by
 refine e54 ?_
 refine aDT q hl hs hp ?_
 refine Zr ?_
 exact⟨fun q=>k1 (kR.1 q),fun q=>k2 (fun x=>q (kR.2 x))⟩
end
section
attribute [local irreducible] cl
theorem aH2(x:Item):aV (eI x) 2 [sl (fun x=> [iv x]) x.mode.vars]=some (eI x):=by rfl
theorem aH3(x:Item):aV (eI x) 3 [sl (fun x=> [iv x]) x.mode.ins]=some (eI x):=by rfl
theorem aH4(x:Item):aV (eI x) 4 [sl (fun x=> [iv x]) x.mode.outs]=some (eI x):=by rfl
theorem aH5{x:Item}(hx:vG x.mode)(k:K (.agg (eI x)) h):C 192 [.agg (eI x)] h K:=by
 refine bG (aNz ?_)
 have h1:=hx.vars
 have h2:=hx.ins
 have h3:=hx.outs
 refine Zr ?_
 refine YY (.inl rfl) (by omega) ?_
 refine Zr ?_
 refine YY (.inl rfl) (by omega) ?_
 refine Zr ?_
 refine YY (.inl rfl) (by omega) ?_
 simp only[go_sem,reduceAdd,reduceMul,reduceSub,aa,reduceEqDiff,reduceLT,aH2,aH3,aH4,rW]
 rw[bU _ _ (by rw[dV];rfl)]
 refine Zr ?_
 exact bA Oq (zR (uI x)) k
def dZ(l:List Item)(id:Int):List Item:=l.filter fun x=>decide (¬x.id=id)
theorem aH6{l:List Item}{id:Int}(hl:l.length<2^20)(hx:∀x∈l,vG x.mode)(k:∀g v,bW h.aA h g→h.aA≤g.aA→dG h.aA 11 eI g v (dZ l id)→K v g):C 189 [sl eI l,iv id] h K:=by
 refine aNy ?_
 refine Zr ?_
 refine cD (σ:=Nat×aL×AV) (fun p=> [iv p.1,iv l.length,sl eI l,iv id,p.2.2]) (fun p=>p.2.1)
  (fun p=>p.1≤l.length∧bW h.aA h p.2.1∧h.aA≤p.2.1.aA∧dG h.aA 11 eI p.2.1 p.2.2 (dZ (l.take p.1) id)) (fun p=>l.length-p.1) ?_ (0,h,.aB) ⟨aH _,bW.refl _ _,aE _,.aB⟩ (A:=W4) (cur:=0)
 rintro⟨i,g,v⟩ ⟨hi,ho,hg,hO⟩
 simp only at hi ho hg hO
 refine aDy ?_
 refine Zr ?_
 refine⟨fun hl=> ?_,fun hl=> ?_⟩
 ·have hl:i<l.length:=by omega
  have e:=aC hl
  obtain⟨o,hoo⟩:∃o,o=l[i]:=⟨_,rfl⟩
  rw[←hoo]at e
  have hom:=hx o (aG e)
  have hdt:dZ (l.take (i+1)) id=dZ (l.take i) id++dZ [o] id:=by rw[dB e];unfold dZ;rw[List.filter_append]
  have hdl:(dZ (l.take i) id).length≤i:=by unfold dZ;refine Nat.le_trans (List.length_filter_le _ _) ?_;rw[List.length_take];omega
  rw[bV dV e]
  refine Zr ?_
  rw[bU _ _ (by rw[dV];rfl)]
  refine Zr ?_
  obtain⟨G,hG⟩:∃G,G=bI (nw g (.cells [iv 0,iv 0,.aB,.aB,.aB,iv 0,iv 0,iv 0,iv 0,iv 0,iv 0])) g.aA (.cells (eI o)):=⟨_,rfl⟩
  rw[←hG]
  have nG:G.aA=g.aA+1:=by rw[hG,fK]
  have oG:∀b,b<g.aA→aP G b=aP g b:=fun b hb=>by rw[hG,g8 _ _ _ hb]
  have sG:aP G g.aA=some (.cells (eI o)):=by rw[hG];exact aU _ _ _
  clear hG
  try simp only[go_sem,reduceAdd,reduceMul,reduceSub,aa,reduceEqDiff,reduceLT]
  refine⟨fun q=> ?_,fun q=> ?_⟩
  ·have:dZ [o] id= []:=by unfold dZ;rw[List.filter_cons,if_neg (by simp[q])];rfl
   rw[this,List.append_nil]at hdt
   refine bT (by omega) (by omega) ⟨⟨rfl,hO.seen⟩,(i+1,G,v),⟨hl,fun b hb=>(oG b (by omega)).trans (ho b hb),by show h.aA≤G.aA;omega,?_⟩,(by omega),rfl,rfl⟩
   show dG h.aA 11 eI G v (dZ (l.take (i+1)) id)
   rw[hdt]
   exact hO.mono (by omega) (fun b hb=>oG b (hO.own hb).2)
  ·have:dZ [o] id= [o]:=by unfold dZ;rw[List.filter_cons,if_pos (by simp[q])];rfl
   rw[this]at hdt
   try simp only[go_sem,reduceAdd,reduceMul,reduceSub,aa,reduceEqDiff,reduceLT]
   refine aH5 hom ?_
   refine Zr ?_
   rw[bU _ _ (by rw[dV];rfl)]
   refine Zr ?_
   have hO2:=hO.mono (h':=nw G (.cells (eI o))) (by rw[aT];omega) (fun c hc=>by
    have:=hO.own hc
    rw[bF,if_neg (by omega),oG c (by omega)])
   obtain⟨v2,g5,a1,a2,a3,a4,a5,a6⟩:=hO2.app (xs:= [o]) (x:= .slice G.aA 0 1 1 0) dV (by rw[aT];omega) (fun y _=>rW y) (by simp) rfl (iE (l:=eI o) (bQ _ _) (by rw[dV];rfl)) (by simp;omega)
   try rw[←nG]
   simp only[go_sem,reduceAdd,reduceMul,reduceSub,aa,reduceEqDiff,reduceLT,a1,rW]
   refine bT (by omega) (by omega) ⟨⟨rfl,a2.seen⟩,(i+1,g5,v2),⟨hl,fun b hb=> ?_,by show h.aA≤g5.aA;rw[a3,aT];omega,by show dG _ _ _ _ _ (dZ (l.take (i+1)) id);rw[hdt];exact a2⟩,(by omega),rfl,rfl⟩
   show aP g5 b=_
   rw[a4 b (by rw[aT];omega) (hO2.old hb),bF,if_neg (by omega),oG b (by omega)];exact ho b hb
 ·have:i=l.length:=by omega
  subst this
  rw[List.take_length]at hO
  try simp only[go_sem,reduceAdd,reduceMul,reduceSub,aa,reduceEqDiff,reduceLT]
  exact⟨hO.seen,hO.seen,k _ _ ho hg hO⟩
end
section
attribute [local irreducible] cl
theorem XK(vs:Array Value)(w:World):(callFunc 191 vs).run Tryz.prog w= .ok (.enter 191 vs) w:=by
 have h1:(Tryz.f191.name== "runtime.NumGoroutine")=false:=by kernel_rfl
 have h2:Tryz.f191.body.isNone=false:=by kernel_rfl
 have h1:¬Tryz.f191.name= "runtime.NumGoroutine" :=by simpa using h1
 have h2:¬Tryz.f191.body=none:=fun e=>by rw[e]at h2;cases h2
 unfold callFunc
 simp[Tryz.func191,h1,h2]
structure L9(k:Nat)(w W:World):Prop where
 sz:W.heap.size=w.heap.size
 oth:∀j,j≠k→W.heap[j]?=w.heap[j]?
 os:W.os=w.os∧W.tape=w.tape∧W.output=w.output
 lo:∀r:Loop,w.heap[k]?=some (Obj.loop r)→∃r':Loop,W.heap[k]?=some (Obj.loop r')∧r'.defers=r.defers
 fz:∀a,W.frozen? a=w.frozen? a
 so:∀j,(w.cell? ⟨k,j,none⟩).isSome=true→(W.cell? ⟨k,j,none⟩).isSome=true
theorem L9.refl(k:Nat)(w:World):L9 k w w:=⟨rfl,fun _ _=>rfl,⟨rfl,rfl,rfl⟩,fun r e=>⟨r,e,rfl⟩,fun _=>rfl,fun _ e=>e⟩
theorem L9.drew{k:Nat}{w W:World}(t:L9 k w W):L9 k w W.drew:=⟨t.sz,t.oth,t.os,t.lo,t.fz,t.so⟩
theorem L9.set{k:Nat}{w W:World}(t:L9 k w W)(o:Nat)(vs:List Value)(hin:∀j,j<vs.length→(w.cell? ⟨k,o+j,none⟩).isSome=true):L9 k w (W.setCells k o vs):=by
 obtain⟨q1,q2,q3,q4,q5⟩:=lJ k vs o W
 exact⟨q1.trans t.sz,fun j hj=>(q2 j hj).trans (t.oth j hj),⟨q3.trans t.os.1,q4.trans t.os.2.1,q5.trans t.os.2.2⟩,fun r e=>by
  obtain⟨r1,e1,d1⟩:=t.lo r e
  exact⟨r1,lK _ _ _ _ _ _ e1,d1⟩,fun a=>by rw[World.frozen?_setCells];exact t.fz a,fun j hj=>eV _ _ _ _ _ (t.so j hj) (fun j hj=>t.so _ (hin j hj))⟩
section
variable{ρ:Ren}{h:aL}{w W:World}
theorem QP(s:dI E ρ h w){b:Nat}{l0:List AV}{m:HC}(hb:h.t.get b=some (.cells l0))(hm:ρ b=some m)(t:L9 m.blk w W){Lc:List AV}{vals:List Value}
  (hr:dH ρ w Lc vals) (ha:aZ Lc=true) (hle:m.sh+Lc.length≤m.nc) (hc:∀j u,vals[j]?=some u→W.cell? ⟨m.blk,m.sh+j,none⟩=some u):
  gQ ρ h w ρ (bI h b (.cells Lc)) W∧dI E ρ (bI h b (.cells Lc)) W:=by
 obtain⟨m',hm',⟨o1,o4⟩,o2,o3⟩:=s.obj b _ hb
 rw[hm]at hm'
 cases hm'
 exact s.upd hb hm (.cells Lc) t.sz t.oth t.os t.lo fun k=>⟨⟨fun j hj=>⟨t.so j (o1 j hj).1,by rw[t.fz];exact(o1 j hj).2⟩,fun hp j=>by rw[t.fz];exact o4 hp j⟩,hle,RC.of_vals (dH.mono k _ _ hr) hc ha⟩
theorem MA(s:dI E ρ h w){row:Array Value}{ty:TypeId}(t:L9 w.heap.size (w.alloc (.cells row ty)) W){Lc:List AV}{vals:List Value}
  (hr:dH ρ w Lc vals) (ha:aZ Lc=true) (hle:Lc.length≤row.size) (hc:∀j u,vals[j]?=some u→W.cell? ⟨w.heap.size,j,none⟩=some u):
  ∃ρ',gQ ρ h w ρ' (bI (nw h (.cells [])) h.aA (.cells Lc)) W∧dI E ρ' (bI (nw h (.cells [])) h.aA (.cells Lc)) W∧ρ' h.aA=some ⟨w.heap.size,0,row.size,true⟩:=by
 obtain⟨ρ',st,s1,hρ⟩:=s.new (.cells []) (.cells row ty) ⟨w.heap.size,0,row.size,true⟩ rfl (fun ρ' k=>by
  refine⟨⟨fun j hj=>⟨?_,World.frozen?_alloc_at row ty _ j rfl⟩,fun _ j=>World.frozen?_alloc_at row ty _ j rfl⟩,aH _,trivial⟩
  have hj:j<row.size:=hj
  show((w.alloc (.cells row ty)).cell? ⟨w.heap.size,j,none⟩).isSome=true
  rw[World.cell?_alloc_at row ty _ j rfl,Array.getElem?_eq_getElem hj]
  rfl)
 obtain⟨st2,s2⟩:=QP s1 (b:=h.aA) (l0:= []) (bQ h _) hρ t (hr.stp st) ha (by simpa using hle) (fun j u hj=>by rw[Nat.zero_add];exact hc j u hj)
 exact⟨ρ',st.trans st2,s2,hρ⟩
theorem MB{b j:Nat}(e:(w.cell? ⟨b,j,none⟩).isSome=true):∃t k,w.shape? b=some (t,k)∧k≠0:=by
 unfold World.cell? at e
 unfold World.shape?
 cases hb:w.heap[b]? with
 |none=>simp[hb]at e
 |some o=>
  cases o with
  |cells c t f=>
   refine⟨t,c.size,rfl,fun hz=> ?_⟩
   simp[hb]at e
   omega
  |_=>simp[hb]at e
end
theorem II(l:List Item):(l.flatMap eI).length=l.length*11:=by
 induction l with
 |nil=>rfl
 |cons x l ih=>rw[List.flatMap_cons,List.length_append,ih,dV,List.length_cons,Nat.add_mul];omega
theorem IJ(l:List Item):aZ (l.flatMap eI)=true:=by
 induction l with
 |nil=>rfl
 |cons x l ih=>rw[List.flatMap_cons];exact iB.2 ⟨rW x,ih⟩
theorem aBC{ys xs bs:List Value}{na nx:Nat}(ha:ys.length=na)(hx:xs.length=nx){f:Nat→Option Value}(h1:∀j u,ys[j]?=some u→f j=some u)(h2:∀j (hj:j<xs.length),f (na+j)=some xs[j])
  (h3:∀j (hj:j<bs.length),f (na+nx+j)=some bs[j]) (j:Nat) (u:Value) (hj:(ys++(xs++bs))[j]?=some u):f j=some u:=by
 subst ha
 subst hx
 rcases Nat.lt_or_ge j ys.length with q|q
 ·exact h1 j u (by rwa[List.getElem?_append_left q]at hj)
 ·rw[List.getElem?_append_right q]at hj
  rcases Nat.lt_or_ge (j-ys.length) xs.length with q2|q2
  ·rw[List.getElem?_append_left q2,aC q2]at hj
   have:=h2 _ q2
   rw[show ys.length+(j-ys.length)=j by omega]at this
   rw[this];exact hj
  ·rw[List.getElem?_append_right q2]at hj
   have q3:=(aD.1 hj).1
   rw[aC q3]at hj
   have:=h3 _ q3
   rw[show ys.length+xs.length+(j-ys.length-xs.length)=j by omega]at this
   rw[this];exact hj
theorem aNZ{n0 xb:Nat}{v:AV}{l:List Item}{x:Item}{i:Nat}(q:dG n0 11 eI h v l)(hn0:n0≤h.aA)(hi:i≤l.length)(hl:l.length<2^20)(hx:aP h xb=some (.cells (eI x)))(hxb:¬gO v xb)
  (k:∀g v',(∀b,b<h.aA→¬gO v b→aP g b=aP h b)→h.aA≤g.aA→dG n0 11 eI g v' (l.take i++x::l.drop i)→K v' g):C 191 [v,iv i,.slice xb 0 1 1 0] h K:=by
 obtain⟨L,hL⟩:∃L,L=l.take i++x::l.drop i:=⟨_,rfl⟩
 rw[←hL]at k
 have hLl:L.length=l.length+1:=by rw[hL];simp;omega
 have hLf:L.flatMap eI=(l.take i).flatMap eI++(eI x++(l.drop i).flatMap eI):=by rw[hL,List.flatMap_append,List.flatMap_cons]
 have hlf:l.flatMap eI=(l.take i).flatMap eI++(l.drop i).flatMap eI:=by rw[←List.flatMap_append,List.take_append_drop]
 have hAl:((l.take i).flatMap eI).length=i*11:=by rw[II,List.length_take,Nat.min_eq_left hi]
 have hBl:((l.drop i).flatMap eI).length=(l.length-i)*11:=by rw[II,List.length_drop]
 have hLc:(L.flatMap eI).length=(l.length+1)*11:=by rw[II,hLl]
 have hsum:(l.length+1)*11=i*11+11+(l.length-i)*11:=by omega
 have hl':l.length+1<2097152:=by omega
 have new:∀ρ':Ren,∀w':World,∀(k0 G sz n:Nat),n=l.length+1→ρ' h.aA=some ⟨k0,0,sz,true⟩→n≤G→G*11≤sz→RV ρ' w' (.slice h.aA 0 L.length L.length 12) (.slice (some ⟨k0,0,none⟩) n G):=fun ρ' w' k0 G sz n hn e h1 h2=>by
  subst hn
  rw[hLl]
  exact⟨_,G,0,e,rfl,.inr rfl,aE _,h1,fun h=>(by cases h),fun s hs=>by
   have:s=11:=by omega
   subst this
   exact⟨by simpa using h2,.inr rfl⟩⟩
 have newK:K (.slice h.aA 0 L.length L.length 12) (bI (nw h (.cells [])) h.aA (.cells (L.flatMap eI))):=by
  refine k _ _ (fun b hb _=> ?_) ?_ (.row hn0 ?_ ?_)
  ·rw[aX,if_neg (by omega),bF,if_neg (by omega)]
  ·rw[bC,aT];omega
  ·rw[bC,aT];omega
  ·rw[aX,if_pos rfl]
 refine qT (fun r n ρ w vs s hg hv=> ?_) ⟨_,_,newK⟩
 refine .inl ⟨XK _ _,?_⟩
 obtain⟨v0,us,e,hv0,vi,us2,rfl,hvi,vx,us3,rfl,hvx,hu3⟩:=hv
 cases hu3
 obtain rfl:vs= #[v0,vi,vx]:=by cases vs;simp_all
 have hvi:vi= .int .i64 i:=hvi
 subst hvi
 obtain⟨mx,cx,ox,hmx,rfl,hox,_,_,hcx,_⟩:=hvx
 have hcx:cx=1:=hcx rfl
 subst hcx
 have hox:ox=mx.sh+0:=by rcases hox with h|h<;>omega
 rw[Nat.add_zero]at hox
 subst hox
 obtain⟨mx',hmx',⟨x1,_⟩,x2,x3⟩:=s.obj xb _ hx
 rw[hmx]at hmx'
 cases hmx'
 obtain⟨xs,xv1,xv2,xv3⟩:=x3.vals
 have hxl:xs.length=1*11:=by rw[xv1.length,dV]
 have hxl':xs.length=11:=hxl
 have hx1:∀u∈xs,u.oneCell'=true:=xv1.one (rW x)
 rw[dV]at x2
 obtain⟨i0,z,hi0,hz0,hzs,hzb,hzc⟩:=AY
 cases q with
 |aB=>
  have hv0:v0= .slice none 0 0:=hv0
  subst hv0
  have hi0':i=0:=by simpa using hi
  subst hi0'
  refine CallsIn.mono (callsIn_wide.2 (wT 0 0 mx.blk mx.sh 1 1 [] xs w none z ⟨i0,hi0,hz0⟩ (by omega) (by omega) (by omega) (by omega) rfl hxl (fun _=>rfl) (fun _ e=>by cases e) xv2 hx1)) ?_
  rintro e w' ⟨rfl,rfl⟩
  have hG:=grownCap_ge w (0+1) 0 121
  obtain⟨ρ',st,s1,hρ⟩:=MA s (W:=w.drew.alloc (.cells (([]++xs).toArray++Builtin.zeroCells z.cells (grownCap w (0+1) 0 121-(0+1))) 121)) (Lc:=L.flatMap eI) (vals:=xs)
   (row:=([]++xs).toArray++Builtin.zeroCells z.cells (grownCap w (0+1) 0 121-(0+1))) (ty:=121) (L9.refl _ _).drew
   (by rw[hLf];simpa using xv1) (IJ _) (by rw[hLc];simp only[Array.size_append,List.size_toArray,List.nil_append,hxl',size_zeroCells,hzc];simp) (fun j u hj=>by
    rw[World.cell?_alloc_at (w:=w.drew) _ _ w.heap.size j rfl]
    have:=(aD.1 hj).1
    simp only[List.nil_append]
    rw[Array.getElem?_append_left (by simpa using this)]
    simpa using hj)
  refine⟨_,_,newK,ρ',st,s1,new _ _ _ _ _ (0+1) rfl hρ hG ?_⟩
  simp only[Array.size_append,List.size_toArray,List.nil_append,hxl',size_zeroCells,hzc]
  omega
 | @row b _ hb0 hbn hb=>
  obtain⟨m,c,o',hm,rfl,hoo,_,hnc,_,hkd⟩:=hv0
  obtain⟨hkd,hpl⟩:=hkd 11 rfl
  have hpl:m.pl=true:=hpl.resolve_left (by decide)
  obtain⟨m',hm',⟨o1,o4⟩,o2,o3⟩:=s.obj b _ hb
  rw[hm]at hm'
  cases hm'
  have o4:=o4 hpl
  rw[hlf]at o3
  obtain⟨oA,oB⟩:=RC.append.1 o3
  rw[hAl]at oB
  obtain⟨ys,av1,av2,av3⟩:=oA.vals
  obtain⟨bs,bv1,bv2,bv3⟩:=oB.vals
  have hal:ys.length=i*11:=by rw[av1.length,hAl]
  have hbl:bs.length=(l.length-i)*11:=by rw[bv1.length,hBl]
  have hb1:∀u∈bs,u.oneCell'=true:=bv1.one bv3
  have hvb:mx.blk≠m.blk:=fun e=>hxb (s.inj _ _ _ _ _ _ hx hb hmx hm e)
  have hvw:mx.blk<w.heap.size:=s.low _ _ hmx
  have hbw:m.blk<w.heap.size:=s.low _ _ hm
  have hRV:dH ρ w (L.flatMap eI) (ys++(xs++bs)):=by rw[hLf];exact av1.append (xv1.append bv1)
  have inK:K (.slice b 0 L.length L.length 12) (bI h b (.cells (L.flatMap eI))):=by
   refine k _ _ (fun c hc hn=> ?_) ?_ (.row hb0 ?_ ?_)
   ·rw[aX,if_neg (show¬(c=b)from hn)]
   ·rw[bC];exact aE _
   ·rw[bC];exact hbn
   ·rw[aX,if_pos rfl]
  have inV:∀w',L.length≤c→RV ρ w' (.slice b 0 L.length L.length 12) (.slice (some ⟨m.blk,m.sh+0,none⟩) L.length c):=fun w' h1=>
   ⟨m,c,_,hm,rfl,.inr rfl,aE _,h1,fun h=>(by cases h),fun s hs=>by
    have:s=11:=by omega
    subst this
    exact⟨hkd,.inr hpl⟩⟩
  rw[Nat.add_zero]at hkd hoo inV
  by_cases hroom:l.length+1≤c
  ·
   obtain rfl:o'=m.sh:=by rcases hoo with h|h<;>omega
   have hnc2:m.sh+(l.length+1)*11≤m.nc:=Nat.le_trans (Nat.add_le_add_left (Nat.mul_le_mul_right 11 hroom) _) hkd
   have fin:∀W,L9 m.blk w W→(∀j u,ys[j]?=some u→W.cell? ⟨m.blk,m.sh+j,none⟩=some u)→(∀j (hj:j<xs.length),W.cell? ⟨m.blk,m.sh+(i*11+j),none⟩=some xs[j])→
     (∀j (hj:j<bs.length),W.cell? ⟨m.blk,m.sh+(i*11+11+j),none⟩=some bs[j])→R8 E ρ h w K (.returned (.slice (some ⟨m.blk,m.sh,none⟩) (l.length+1) c)) W:=by
    intro W t h1 h2 h3
    obtain⟨st,s1⟩:=QP s hb hm t hRV (IJ _) (by rw[hLc];exact hnc2) (aBC hal hxl' (f:=fun j=>W.cell? ⟨m.blk,m.sh+j,none⟩) h1 h2 h3)
    have:=inV W (by omega)
    rw[hLl]at this
    refine⟨_,_,inK,ρ,st,s1,?_⟩
    rw[hLl]
    exact this
   rcases Nat.lt_or_ge i l.length with hin|hin
   ·
    obtain⟨tA,kA,hsa,hkA⟩:=MB (x1 mx.sh (by omega)).1
    obtain⟨tB,kB,hsb,_⟩:=MB (o1 m.sh (by omega)).1
    have hsp:∀j,j<(l.length+1)*11→(w.cell? ⟨m.blk,m.sh+j,none⟩).isSome=true:=fun j hj=>(o1 _ (by omega)).1
    refine CallsIn.mono (callsIn_wide.2 (TA m.blk m.sh l.length c i mx.blk mx.sh 1 1 bs xs w hin (by omega) hroom hl' hvb hbl hxl (fun j u hj=>bv2 j u hj) hsp o4 xv2 hb1 hx1 tA tB kA kB hsa hsb hkA)) ?_
    rintro e w' ⟨rfl,rfl⟩
    have d1:∀j,j<bs.length→(w.drew.cell? ⟨m.blk,m.sh+(i+1)*11+j,none⟩).isSome=true:=fun j hj=>by rw[Nat.add_assoc];exact hsp _ (by omega)
    have d2:∀j,j<xs.length→((w.drew.setCells m.blk (m.sh+(i+1)*11) bs).cell? ⟨m.blk,m.sh+i*11+j,none⟩).isSome=true:=fun j hj=>
     eV _ _ _ _ _ (by rw[Nat.add_assoc];exact hsp _ (by omega)) d1
    refine fin _ (((L9.refl m.blk w).drew.set _ _ d1).set _ _ (fun j hj=>by rw[Nat.add_assoc];exact hsp _ (by omega))) (fun j u hj=> ?_) (fun j hj=> ?_) (fun j hj=> ?_)
    ·have hj2:=(aD.1 hj).1
     rw[World.cell?_setCells_out _ _ _ _ _ (fun _ _=>by simp only;omega),World.cell?_setCells_out _ _ _ _ _ (fun _ _=>by simp only;omega)]
     exact av2 j u hj
    ·rw[←Nat.add_assoc]
     exact World.cell?_setCells_in m.blk xs (m.sh+i*11) _ d2 j hj
    ·rw[World.cell?_setCells_out _ _ _ _ _ (fun _ _=>by simp only;omega)]
     have:=World.cell?_setCells_in m.blk bs (m.sh+(i+1)*11) w.drew d1 j hj
     rw[show m.sh+(i+1)*11+j=m.sh+(i*11+11+j) by omega]at this
     exact this
   ·
    obtain rfl:i=l.length:=Nat.le_antisymm hi hin
    have hbe:bs= []:=List.length_eq_zero_iff.1 (by rw[hbl,Nat.sub_self,Nat.zero_mul])
    subst hbe
    have hsp:∀j,j<1*11→(w.cell? ⟨m.blk,m.sh+l.length*11+j,none⟩).isSome=true:=fun j hj=>(o1 _ (by omega)).1
    refine CallsIn.mono (callsIn_wide.2 (IM m.blk m.sh l.length c mx.blk mx.sh 1 1 xs w (by omega) hroom hl' hxl hsp o4 xv2 hx1)) ?_
    rintro e w' ⟨rfl,rfl⟩
    refine fin _ ((L9.refl m.blk w).set _ _ (fun j hj=>hsp j (by omega))) (fun j u hj=> ?_) (fun j hj=> ?_) (fun j hj=>by cases hj)
    ·have hj2:=(aD.1 hj).1
     rw[World.cell?_setCells_out _ _ _ _ _ (fun _ _=>by simp only;omega)]
     exact av2 j u hj
    ·rw[←Nat.add_assoc]
     exact World.cell?_setCells_in m.blk xs (m.sh+l.length*11) _ (fun j hj=>hsp j (by omega)) j hj
  ·
   have hc:c<l.length+1:=by omega
   have hGe:=grownCap_ge w (l.length+1) c 121
   obtain⟨G,hG⟩:∃G,G=grownCap w (l.length+1) c 121:=⟨_,rfl⟩
   have fin:∀(row:Array Value) W,row.size=G*11→L9 w.heap.size (w.alloc (.cells row 121)) W→(∀j u,ys[j]?=some u→W.cell? ⟨w.heap.size,j,none⟩=some u)→(∀j (hj:j<xs.length),W.cell? ⟨w.heap.size,i*11+j,none⟩=some xs[j])→
     (∀j (hj:j<bs.length),W.cell? ⟨w.heap.size,i*11+11+j,none⟩=some bs[j])→R8 E ρ h w K (.returned (.slice (some ⟨w.heap.size,0,none⟩) (l.length+1) G)) W:=by
    intro row W hs t h1 h2 h3
    have hle:(l.length+1)*11≤row.size:=by rw[hs,hG];exact Nat.mul_le_mul_right _ hGe
    obtain⟨ρ',st,s1,hρ⟩:=MA s t hRV (IJ _) (by rw[hLc];exact hle) (aBC hal hxl' (f:=fun j=>W.cell? ⟨w.heap.size,j,none⟩) h1 h2 h3)
    exact⟨_,_,newK,ρ',st,s1,new _ _ _ _ _ _ rfl hρ (by rw[hG];exact hGe) (by rw[hs];exact aE _)⟩
   rcases Nat.lt_or_ge i l.length with hin|hin
   ·
    obtain rfl:o'=m.sh:=by rcases hoo with h|h<;>omega
    refine CallsIn.mono (callsIn_wide.2 (XQ m.blk m.sh l.length c i mx.blk mx.sh 1 1 ys bs xs w z ⟨i0,hi0,hz0,hzc⟩ hin (by omega) hnc hc hl' hal hbl hxl (fun j u hj=>av2 j u hj) (fun j u hj=>bv2 j u hj) xv2 hb1 hx1 hbw hvw)) ?_
    rintro e w' ⟨rfl,rfl⟩
    rw[←hG]at hGe⊢
    obtain⟨row,hrow⟩:∃row:Array Value,row=ys.toArray++Builtin.zeroCells z.cells (l.length+1-i)++Builtin.zeroCells z.cells (G-(l.length+1)):=⟨_,rfl⟩
    have hrs:row.size=G*11:=by
     rw[hrow]
     simp only[Array.size_append,List.size_toArray,hal,size_zeroCells,hzc]
     omega
    have hra:∀j u,ys[j]?=some u→row[j]?=some u:=fun j u hj=>by
     have hj2:=(aD.1 hj).1
     rw[hrow,Array.append_assoc,Array.getElem?_append_left (by simpa using hj2)]
     simpa using hj
    rw[←hrow]
    have hN:∀j,j<row.size→((w.alloc (.cells row 121)).cell? ⟨w.heap.size,j,none⟩).isSome=true:=fun j hj=>by
     rw[World.cell?_alloc_at row 121 _ j rfl,Array.getElem?_eq_getElem hj];rfl
    have d1:∀j,j<xs.length→((w.alloc (.cells row 121)).drew.cell? ⟨w.heap.size,i*11+j,none⟩).isSome=true:=fun j hj=>hN _ (by omega)
    have d2:∀j,j<bs.length→(((w.alloc (.cells row 121)).drew.setCells w.heap.size (i*11) xs).drew.cell? ⟨w.heap.size,(i+1)*11+j,none⟩).isSome=true:=fun j hj=>
     eV _ _ _ _ _ (hN _ (by omega)) d1
    refine fin row _ hrs ((((L9.refl w.heap.size (w.alloc (.cells row 121))).drew.set _ _ d1).drew).set _ _ (fun j hj=>hN _ (by omega))) (fun j u hj=> ?_) (fun j hj=> ?_) (fun j hj=> ?_)
    ·have hj2:=(aD.1 hj).1
     rw[World.cell?_setCells_out _ _ _ _ _ (fun _ _=>by simp only;omega)]
     show((w.alloc (.cells row 121)).drew.setCells w.heap.size (i*11) xs).cell? _=_
     rw[World.cell?_setCells_out _ _ _ _ _ (fun _ _=>by simp only;omega)]
     show(w.alloc (.cells row 121)).cell? _=_
     rw[World.cell?_alloc_at row 121 _ j rfl]
     exact hra j u hj
    ·rw[World.cell?_setCells_out _ _ _ _ _ (fun _ _=>by simp only;omega)]
     exact World.cell?_setCells_in w.heap.size xs (i*11) _ d1 j hj
    ·have:=World.cell?_setCells_in w.heap.size bs ((i+1)*11) _ d2 j hj
     rw[show(i+1)*11+j=i*11+11+j by omega]at this
     exact this
   ·
    obtain rfl:i=l.length:=Nat.le_antisymm hi hin
    have hbe:bs= []:=List.length_eq_zero_iff.1 (by rw[hbl,Nat.sub_self,Nat.zero_mul])
    subst hbe
    refine CallsIn.mono (callsIn_wide.2 (wT l.length c mx.blk mx.sh 1 1 ys xs w (some ⟨m.blk,o',none⟩) z ⟨i0,hi0,hz0⟩ (by omega) hnc hc hl' hal hxl (fun e=>by cases e) (fun a e j u hj=>by
     cases e
     have hj2:=(aD.1 hj).1
     obtain rfl:o'=m.sh:=by rcases hoo with h|h<;>omega
     rw[Addr.add_lit]
     exact av2 j u hj) xv2 hx1)) ?_
    rintro e w' ⟨rfl,rfl⟩
    rw[←hG]at hGe⊢
    refine fin _ _ ?_ (L9.refl _ _).drew (fun j u hj=> ?_) (fun j hj=> ?_) (fun j hj=>by cases hj)
    ·simp only[Array.size_append,List.size_toArray,List.length_append,hal,hxl',size_zeroCells,hzc]
     omega
    ·have hj2:=(aD.1 hj).1
     show(w.alloc (.cells _ 121)).cell? _=_
     rw[World.cell?_alloc_at _ 121 _ j rfl,Array.getElem?_append_left (by simp;omega)]
     simp only[List.getElem?_toArray]
     rw[List.getElem?_append_left hj2]
     exact hj
    ·show(w.alloc (.cells _ 121)).cell? _=_
     rw[World.cell?_alloc_at _ 121 _ _ rfl,Array.getElem?_append_left (by simp;omega)]
     simp only[List.getElem?_toArray]
     rw[List.getElem?_append_right (by omega),hal,Nat.add_sub_cancel_left,aC hj]
end
section
attribute [local irreducible] cl
theorem dG.rdS{α:Type}{n0 n:Nat}{f:α→List AV}{v:AV}{l:List α}(q:dG n0 n f h v l)(hf:∀x,(f x).length=n):rO n f h v l:=q.slB.rdS hf
def qW(l:List Item)(x:Item):Nat:=if mC (fun y:Item=>x.id<y.id) l<0 then l.length else(mC (fun y:Item=>x.id<y.id) l).toNat
def rR(l:List Item)(x:Item):List Item:=(dZ l x.id).take (qW (dZ l x.id) x)++x::(dZ l x.id).drop (qW (dZ l x.id) x)
theorem QO{α:Type}{P:α→Prop}{l:List α}:mC P l<l.length:=by
 by_cases h:0≤mC P l
 ·obtain⟨i,x,e,h1,_⟩:=tY h
  have:=(aD.1 h1).1
  omega
 ·omega
theorem S8(l:List Item)(x:Item):qW l x≤l.length:=by
 unfold qW
 split
 ·exact aE _
 ·have:=QO (P:=fun y:Item=>x.id<y.id) (l:=l);omega
theorem c93{l:List Item}{x:Item}(hl:l.length<2^19)(hx:∀x∈l,vG x.mode)(hxx:vG x.mode)(k:K (sl eI (rR l x)) h):C 93 [sl eI l,.agg (eI x)] h K:=by
 refine bG (e93 ?_)
 unfold rR at k
 refine Zr ?_
 refine aH6 (by omega) hx (fun g v og ng hO=> ?_)
 obtain⟨L,hL⟩:∃L,L=dZ l x.id:=⟨_,rfl⟩
 have hLl:L.length≤l.length:=by rw[hL];exact List.length_filter_le _ _
 rw[←hL]at k hO
 have ng:h.aA+1≤g.aA:=by have:=ng;rw[aT]at this;exact this
 have gx:aP g h.aA=some (.cells (eI x)):=by rw[og _ (by rw[aT];omega)];exact Zr trivial
 have og:bW h.aA h g:=fun b hb=>by rw[og b (by rw[aT];omega),bF,if_neg (by omega)]
 have hO:dG (h.aA+1) 11 eI g v L:=by rw[aT]at hO;exact hO
 refine aDT (P:=fun y:Item=>x.id<y.id) (hO.rdS dV) (by omega) rfl (fun y hy K k1 k2=> ?_) ?_
 ·rw[kC]
  refine bG (aNA ?_)
  have gx':aP (nw g (.cells (eI y))) h.aA=some (.cells (eI x)):=by rw[bF,if_neg (by omega)];exact gx
  refine Z1 gx' ?_
  try rw[gx]
  try simp only[go_sem,reduceAdd,reduceMul,reduceSub,aa,reduceEqDiff,reduceLT]
  by_cases q:x.id<y.id
  ·exact⟨fun _=>fP (k1 q),fun n=>absurd q n⟩
  ·exact⟨fun n=>absurd n q,fun _=>fP (k2 q)⟩
 ·
  have fin:∀j:Nat,j=qW L x→RO (aJ g (.many 0 11) (.ptr h.aA 0)) fun v12=>
    C 192 [v12] g fun v13 h14=>
    RL (bK [(iv 0),(iv 0),.aB,.aB,.aB,(iv 0),(iv 0),(iv 0),(iv 0),(iv 0),(iv 0)] [(0,11,v13)]) fun l15=>cA l15 (
    C 191 [v,iv j,(.slice h14.aA 0 1 1 0)] (nw h14 (.cells l15)) fun v16 h17=>
    aQ v16=true∧cl h K v16 h17):=by
   rintro j rfl
   refine Z1 gx ?_
   refine aH5 hxx ?_
   refine Zr ?_
   rw[bU _ _ (by rw[dV];rfl)]
   simp only[go_sem,reduceAdd,reduceMul,reduceSub,aa,reduceEqDiff,reduceLT,rW]
   have hO2:=hO.mono (h':=nw g (.cells (eI x))) (by rw[aT];omega) (fun c hc=>by
    have:=hO.own hc
    rw[bF,if_neg (by omega)])
   refine aNZ hO2 (by rw[aT];omega) (S8 _ _) (by omega) (bQ _ _) (fun hc=>by have:=hO.own hc;omega) (fun g2 v2 f2 n2 o2=> ?_)
   refine⟨o2.seen,?_⟩
   unfold cl
   refine⟨fun b hb=> ?_,_,o2.fz' (by omega) dV (fun x _=>uI x),k⟩
   rw[f2 b (by rw[aT];omega) (hO2.old (by omega)),bF,if_neg (by omega)];exact og b hb
  rw[hO.len]
  refine Zr ?_
  refine⟨fun q=>fin L.length (by unfold qW;rw[if_pos q]),fun q=> ?_⟩
  have:=fin (mC (fun y:Item=>x.id<y.id) L).toNat (by unfold qW;rw[if_neg q])
  rw[Int.toNat_of_nonneg (by omega)]at this
  exact this
def eJ(next:Int):Int→List Item→Prop
 |_,[]=>True
 |last,x::l=>(last<x.id∧x.id<next∧0≤x.til∧sW x.batch∧¬nV x.batch)∧eJ next x.id l
def OL(l:List Item)(next:Int):Prop:=eJ next 0 l∧l.length≤64
theorem c53{l:List Item}{next:Int}(hl:l.length<2^40)(k1:OL l next→K (.bool true) h)(k2:¬OL l next→K (.bool false) h):C 53 [sl eI l,iv next] h K:=by
 refine bG (e53 ?_)
 refine Zr ?_
 refine cD (σ:=Nat×aL×Int) (fun p=> [iv p.1,iv l.length,sl eI l,iv p.2.2,iv next,sl eI l,.bool false]) (fun p=>p.2.1)
  (fun p=>p.1≤l.length∧bW h.aA h p.2.1∧h.aA≤p.2.1.aA∧(eJ next 0 l↔eJ next p.2.2 (l.drop p.1))) (fun p=>l.length-p.1) ?_ (0,h,0) ⟨aH _,bW.refl _ _,aE _,Iff.rfl⟩ (A:=aDA) (cur:=0)
 rintro⟨i,g,last⟩ ⟨hi,ho,hg,hF⟩
 simp only at hi ho hg hF
 refine aHT ?_
 refine Zr ?_
 refine⟨fun hl=> ?_,fun hl=> ?_⟩
 ·have hl:i<l.length:=by omega
  have e:=aC hl
  obtain⟨x,hx⟩:∃x,x=l[i]:=⟨_,rfl⟩
  rw[←hx]at e
  rw[List.drop_eq_getElem_cons hl,←hx]at hF
  rw[bV dV e]
  refine Zr ?_
  rw[bU _ _ (by rw[dV];rfl)]
  refine Zr ?_
  obtain⟨G,hG⟩:∃G,G=bI (nw g (.cells [iv 0,iv 0,.aB,.aB,.aB,iv 0,iv 0,iv 0,iv 0,iv 0,iv 0])) g.aA (.cells (eI x)):=⟨_,rfl⟩
  rw[←hG]
  have nG:G.aA=g.aA+1:=by rw[hG,fK]
  have oG:∀b,b<g.aA→aP G b=aP g b:=fun b hb=>by rw[hG,g8 _ _ _ hb]
  have sG:aP G g.aA=some (.cells (eI x)):=by rw[hG];exact aU _ _ _
  clear hG
  try simp only[go_sem,reduceAdd,reduceMul,reduceSub,aa,reduceEqDiff,reduceLT]
  have no:¬eJ next last (x::l.drop (i+1))→cl h K (.bool false) G:=fun q=>by
   refine bA (fun b hb=>(oG b (by omega)).trans (ho b hb)) rfl (k2 (fun p=>q (hF.1 p.1)))
  have un:eJ next last (x::l.drop (i+1))=((last<x.id∧x.id<next∧0≤x.til∧sW x.batch∧¬nV x.batch)∧eJ next x.id (l.drop (i+1))):=rfl
  rw[un]at no hF
  refine⟨fun q=>no (fun p=>by have:=p.1.1;omega),fun q1=>⟨fun q=>no (fun p=>by have:=p.1.2.1;omega),fun q2=>⟨fun q=>no (fun p=>by have:=p.1.2.2.1;omega),fun q3=> ?_⟩⟩⟩
  refine aAK (fun q4=> ?_) (fun q4=> ?_)
  ·refine Z1 sG ?_
   refine c96 (fun q5=> ?_) (fun q5=> ?_)
   ·refine Zr ?_
    exact no (fun p=>p.1.2.2.2.2 q5)
   ·refine Z1 sG ?_
    refine bT (by omega) (by omega) ⟨rfl,(i+1,G,x.id),⟨hl,fun b hb=>(oG b (by omega)).trans (ho b hb),by show h.aA≤G.aA;omega,?_⟩,(by omega),rfl,rfl⟩
    rw[hF]
    exact⟨fun p=>p.2,fun p=>⟨⟨by omega,by omega,by omega,q4,q5⟩,p⟩⟩
  ·refine Zr ?_
   exact no (fun p=>q4 p.1.2.2.2.1)
 ·have:i=l.length:=by omega
  subst this
  try simp only[go_sem,reduceAdd,reduceMul,reduceSub,aa,reduceEqDiff,reduceLT]
  rw[List.drop_length]at hF
  have hF:eJ next 0 l:=hF.2 trivial
  exact⟨fun q=>bA ho rfl (k1 ⟨hF,by omega⟩),fun q=>bA ho rfl (k2 (fun p=>q (by have:=p.2;omega)))⟩
end
section
attribute [local irreducible] cl
def d5(d:Nat)(n:dL)(c:pU):Prop:=
 eX n c.m∧(1≤c.aA∧c.aA≤1099511627776)∧(0≤c.now∧c.now≤1099511627776)∧OL c.items c.aA∧∀x∈c.items,(fW d n x.mode).1=0∧(iF d n x.mode).1=0
theorem c22{d:Nat}{n:dL}{c:pU}(hn:dR d n)(hm:jG c.m)(hl:c.items.length<2^20)(hx:∀x∈c.items,dO x.mode)(k1:d5 d n c→K (.bool true) h)(k2:¬d5 d n c→K (.bool false) h):C 22 [.agg (eN n),.agg (mY c)] h K:=by
 refine bG (e22 ?_)
 have no:∀g,bW h.aA h g→¬d5 d n c→cl h K (.bool false) g:=fun g o q=>bA o rfl (k2 q)
 refine Zr ?_
 refine c42 hn hm (fun q1=> ?_) (fun q1=> ?_)
 ·refine Zr ?_
  refine⟨fun q=>no _ Oq (fun p=>by have:=p.2.1.1;omega),fun q2=>⟨fun q=>no _ Oq (fun p=>by have:=p.2.1.2;omega),fun q3=>⟨fun q=>no _ Oq (fun p=>by have:=p.2.2.1.1;omega),fun q4=>⟨fun q=>no _ Oq (fun p=>by have:=p.2.2.1.2;omega),fun q5=> ?_⟩⟩⟩⟩
  refine c53 (by omega) (fun q6=> ?_) (fun q6=> ?_)
  ·refine Zr ?_
   refine c54 (P:=fun x:Item=>¬((fW d n x.mode).1=0∧(iF d n x.mode).1=0)) (.inl rfl) (by omega) rfl (fun x hxl K k1 k2=> ?_) (fun q=> ?_) (fun q=> ?_)
   ·rw[kC]
    have hmo:=hx x hxl
    have hv:=hmo.vars
    refine bG (e55 ?_)
    refine Zr ?_
    refine c56 (d:=d) hn (by omega) hmo.ins ?_
    refine Zr ?_
    refine c57 (d:=d) hn (by omega) hmo.outs ?_
    refine Zr ?_
    have f1:∀(G:aL) (b:Bool),K (.bool b) G→cl G K (.bool b) (nw G (.cells (eI x))):=fun G b k=>bA (bW.nw (bW.refl _ _) (aE _)) rfl k
    exact⟨fun p=>⟨fun q=>f1 _ _ (k2 (fun z=>z ⟨p,q⟩)),fun q=>f1 _ _ (k1 (fun z=>q z.2))⟩,fun p=>f1 _ _ (k1 (fun z=>p z.1))⟩
   ·refine Zr ?_
    obtain⟨x,hxl,hp⟩:=q
    exact no _ Oq (fun p=>hp (p.2.2.2.2 x hxl))
   ·refine Zr ?_
    refine fP (k1 ⟨q1,⟨by omega,by omega⟩,⟨by omega,by omega⟩,q6,fun x hxl=> ?_⟩)
    exact Classical.byContradiction fun hp=>q ⟨x,hxl,hp⟩
  ·refine Zr ?_
   exact no _ Oq (fun p=>q6 p.2.2.2.1)
 ·refine Zr ?_
  exact no _ Oq (fun p=>q1 p.1)
end
section
def okI(next:Int)(x:Item):Prop:=x.id<next∧0≤x.til∧sW x.batch∧¬nV x.batch
theorem fQ{next last:Int}{x:Item}{l:List Item}:eJ next last (x::l)↔last<x.id∧okI next x∧eJ next x.id l:=by
 show((last<x.id∧x.id<next∧0≤x.til∧sW x.batch∧¬nV x.batch)∧eJ next x.id l)↔_
 unfold okI
 constructor
 ·rintro⟨⟨a,b⟩,c⟩;exact⟨a,b,c⟩
 ·rintro⟨a,b,c⟩;exact⟨⟨a,b⟩,c⟩
theorem JM{next last last':Int}(h:last'≤last):∀{l:List Item},eJ next last l→eJ next last' l
 | [],_=>trivial
 |x::l,q=>by rw[fQ]at q⊢;exact⟨by omega,q.2⟩
theorem yL{next next' last:Int}(h:next≤next'):∀{l:List Item} {last:Int},eJ next last l→eJ next' last l
 | [],_,_=>trivial
 |x::l,last,q=>by rw[fQ]at q⊢;obtain⟨a,⟨b1,b2⟩,c⟩:=q;exact⟨a,⟨by omega,b2⟩,yL (last:=last) h c⟩
theorem xA{next:Int}:∀{l:List Item} {last:Int},eJ next last l→∀x∈l,last<x.id∧okI next x
 | [],_,_,x,h=>by cases h
 |y::l,last,q,x,h=>by
  rw[fQ]at q
  rcases List.mem_cons.1 h with h|h
  ·rw[h];exact⟨q.1,q.2.1⟩
  ·have:=xA q.2.2 x h;exact⟨by omega,this.2⟩
theorem zJ{next id:Int}:∀{l:List Item} {last:Int},eJ next last l→eJ next last (dZ l id)
 | [],_,h=>h
 |x::l,last,q=>by
  rw[fQ]at q
  unfold dZ
  rw[List.filter_cons]
  split
  ·rw[fQ];exact⟨q.1,q.2.1,zJ q.2.2⟩
  ·exact JM (Int.le_of_lt q.1) (zJ q.2.2)
theorem aAZ{next:Int}{x:Item}(ho:okI next x):∀{L:List Item} {last:Int} (i:Nat),eJ next last L→last<x.id→(∀(j:Nat) y,j<i→L[j]?=some y→y.id<x.id)→(∀y,L[i]?=some y→x.id<y.id)→eJ next last (L.take i++x::L.drop i)
 | [],last,i,_,h1,_,_=>by simp only[List.take_nil,List.drop_nil,List.nil_append];rw[fQ];exact⟨h1,ho,trivial⟩
 |y::L,last,0,q,h1,_,h3=>by
  show eJ next last (x::y::L)
  rw[fQ]at q⊢
  exact⟨h1,ho,by rw[fQ];exact⟨h3 y rfl,q.2⟩⟩
 |y::L,last,i+1,q,h1,h2,h3=>by
  show eJ next last (y::(L.take i++x::L.drop i))
  rw[fQ]at q⊢
  exact⟨q.1,q.2.1,aAZ ho i q.2.2 (h2 0 y (by omega) rfl) (fun j z hj e=>h2 (j+1) z (by omega) (by simpa using e)) (fun z e=>h3 z (by simpa using e))⟩
theorem TU{next last:Int}{l:List Item}{x:Item}(h:eJ next last l)(hx:last<x.id)(ho:okI next x):eJ next last (rR l x):=by
 unfold rR
 have hd:=zJ (id:=x.id) h
 have hne:∀y∈dZ l x.id,¬y.id=x.id:=fun y hy=>by
  have:=(List.mem_filter.1 hy).2
  simpa using this
 obtain⟨L,hL⟩:∃L,L=dZ l x.id:=⟨_,rfl⟩
 rw[←hL]at hd hne⊢
 refine aAZ ho _ hd hx (fun j y hj e=> ?_) (fun y e=> ?_)
 ·have h1:=hne y (aG e)
  have:¬x.id<y.id:=fun hlt=>by
   unfold qW at hj
   by_cases q:0≤mC (fun y:Item=>x.id<y.id) L
   ·rw[if_neg (by omega)]at hj
    obtain⟨i,z,e1,e2,e3,e4⟩:=tY q
    rw[e1]at hj
    exact e4 j y (by omega) e hlt
   ·exact q (kR.2 ⟨y,aG e,hlt⟩)
  omega
 ·unfold qW at e
  by_cases q:0≤mC (fun y:Item=>x.id<y.id) L
  ·rw[if_neg (by omega)]at e
   obtain⟨i,z,e1,e2,e3,e4⟩:=tY q
   rw[e1]at e
   have:i=((i:Nat):Int).toNat:=by omega
   rw[←this,e2]at e
   cases e;exact e3
  ·rw[if_pos (by omega),List.getElem?_eq_none (aE _)]at e
   cases e
theorem vD{l:List Item}{x y:Item}(h:y∈rR l x):y=x∨y∈l:=by
 unfold rR at h
 rcases List.mem_append.1 h with h|h
 ·exact .inr (List.mem_filter.1 (List.mem_of_mem_take h)).1
 ·rcases List.mem_cons.1 h with h|h
  ·exact .inl h
  ·exact .inr (List.mem_filter.1 (List.mem_of_mem_drop h)).1
theorem rV(l:List Item)(x:Item):(rR l x).length=(dZ l x.id).length+1:=by
 unfold rR
 simp;omega
end
section
attribute [local irreducible] cl
structure cK where
 net:dL
 c:pU
 call:Call
def eD(x:cK):List AV:= [sl eC x.net.colours,sl oV x.net.places,sl eT x.net.tasks,iv x.net.frm,iv x.net.to,sl fm x.c.m,sl eI x.c.items,iv x.c.aA,iv x.c.now,iv x.call.doN,iv x.call.id,iv x.call.mode.task,sl fi x.call.mode.vars,sl fi x.call.mode.ins,sl fi x.call.mode.outs,iv x.call.num]
@[go_sem]theorem aN9(x:cK):(eD x).length=16:=by cases x;rfl
@[go_sem]theorem aOa(x:cK):aZ (eD x)=true:=by cases x;rfl
@[go_sem]theorem aUt(x:cK):bR (eD x) 0=some (sl eC x.net.colours):=rfl
@[go_sem]theorem aUu(x:cK):bR (eD x) 1=some (sl oV x.net.places):=rfl
@[go_sem]theorem aUv(x:cK):bR (eD x) 2=some (sl eT x.net.tasks):=rfl
@[go_sem]theorem aUw(x:cK):bR (eD x) 3=some (iv x.net.frm):=rfl
@[go_sem]theorem aUx(x:cK):bR (eD x) 4=some (iv x.net.to):=rfl
@[go_sem]theorem aUy(x:cK):bR (eD x) 5=some (sl fm x.c.m):=rfl
@[go_sem]theorem aUz(x:cK):bR (eD x) 6=some (sl eI x.c.items):=rfl
@[go_sem]theorem aUA(x:cK):bR (eD x) 7=some (iv x.c.aA):=rfl
@[go_sem]theorem aUB(x:cK):bR (eD x) 8=some (iv x.c.now):=rfl
@[go_sem]theorem aUC(x:cK):bR (eD x) 9=some (iv x.call.doN):=rfl
@[go_sem]theorem aR8(x:cK):bR (eD x) 10=some (iv x.call.id):=rfl
@[go_sem]theorem aR9(x:cK):bR (eD x) 11=some (iv x.call.mode.task):=rfl
@[go_sem]theorem aSa(x:cK):bR (eD x) 12=some (sl fi x.call.mode.vars):=rfl
@[go_sem]theorem aSb(x:cK):bR (eD x) 13=some (sl fi x.call.mode.ins):=rfl
@[go_sem]theorem aSc(x:cK):bR (eD x) 14=some (sl fi x.call.mode.outs):=rfl
@[go_sem]theorem aSd(x:cK):bR (eD x) 15=some (iv x.call.num):=rfl
theorem gJ(x:cK):bP (eD x)=true:=aY (cN HX _) (aY (cN O5 _) (aY (cN T5 _) (aY (rfl) (aY (rfl) (aY (cN mZ _) (aY (cN uI _) (aY (rfl) (aY (rfl) (aY (rfl) (aY (rfl) (aY (rfl) (aY (cN (fun _=>rfl) _) (aY (cN (fun _=>rfl) _) (aY (cN (fun _=>rfl) _) (aY (rfl) (rfl))))))))))))))))
@[go_sem]theorem aSe(x:cK):bZ 5 (eD x)=some (eN x.net):=rfl
@[go_sem]theorem aSf(x:cK):bZ 5 (drop 0 (eD x))=some (eN x.net):=rfl
@[go_sem]theorem aSg(x:cK):bZ 4 (drop 5 (eD x))=some (mY x.c):=rfl
@[go_sem]theorem aSh(x:cK):bZ 7 (drop 9 (eD x))=some (yO x.call):=rfl
@[go_sem]theorem aOb(x:cK):bZ 4 (drop 11 (eD x))=some (iU x.call.mode):=rfl
def cK.mk_(x:cK)(m:Mark):cK:=⟨x.net,⟨m,x.c.items,x.c.aA,x.c.now⟩,x.call⟩
def cK.its(x:cK)(l:List Item):cK:=⟨x.net,⟨x.c.m,l,x.c.aA,x.c.now⟩,x.call⟩
def cK.nx(x:cK)(k:Int):cK:=⟨x.net,⟨x.c.m,x.c.items,k,x.c.now⟩,x.call⟩
def cK.nw(x:cK)(k:Int):cK:=⟨x.net,⟨x.c.m,x.c.items,x.c.aA,k⟩,x.call⟩
@[go_sem]theorem aSi(x:cK)(m:Mark):aV (eD x) 5 [sl fm m]=some (eD (x.mk_ m)):=by rfl
@[go_sem]theorem aSj(x:cK)(l:List Item):aV (eD x) 6 [sl eI l]=some (eD (x.its l)):=by rfl
@[go_sem]theorem aSk(x:cK)(k:Int):aV (eD x) 7 [iv k]=some (eD (x.nx k)):=by rfl
@[go_sem]theorem aSl(x:cK)(k:Int):aV (eD x) 8 [iv k]=some (eD (x.nw k)):=by rfl
@[go_sem]theorem aOc(b o:Nat):cU (.ptr b o)=some (.ptr b o):=rfl
def Y1:Item:=⟨0,⟨0,[],[],[]⟩,⟨0,0,0,0,0⟩,0⟩
open Classical in
def dP(x:cK):Item×Int:=
 match x.c.items[(mC (fun y:Item=>y.id=x.call.id) x.c.items).toNat]? with
 |some i=>if 0≤mC (fun y:Item=>y.id=x.call.id) x.c.items then(i,0)else(Y1,if 0<x.call.id∧x.call.id<x.c.aA then 12 else 3)
 |none=>(Y1,if 0<x.call.id∧x.call.id<x.c.aA then 12 else 3)
theorem aDX{t:bE AO}{m:Nat}:Fz t m (.agg [iv 0,iv 0,.aB,.aB,.aB,iv 0,iv 0,iv 0,iv 0,iv 0,iv 0]) (.agg (eI Y1)):=
 .agg (.cons (.same rfl) (.cons (.same rfl) (.cons .aB (.cons .aB (.cons .aB (.cons (.same rfl) (.cons (.same rfl) (.cons (.same rfl) (.cons (.same rfl) (.cons (.same rfl) (.cons (.same rfl) .nil)))))))))))
theorem c94{x:cK}{p:Nat}(hp:aP h p=some (.cells (eD x)))(hph:p<h.aA)(hl:x.c.items.length<2^40)
  (k:K (.tuple [.agg (eI (dP x).1),iv (dP x).2]) h):C 94 [.ptr p 0] h K:=by
 refine bG (e94 ?_)
 have e0:(p=h.aA)=False:=eq_false (by omega)
 refine Z2 hp e0 ?_
 refine aH7 hl ?_
 unfold dP at k
 have hle:=QO (P:=fun y:Item=>y.id=x.call.id) (l:=x.c.items)
 obtain⟨ix,hix⟩:∃ix,ix=mC (fun y:Item=>y.id=x.call.id) x.c.items:=⟨_,rfl⟩
 rw[←hix]at k hle⊢
 refine Z2 hp e0 ?_
 have f0:∀(e:Int) (g:aL),bW h.aA h g→K (.tuple [.agg (eI Y1),iv e]) h→cl h K (.tuple [.agg [iv 0,iv 0,.aB,.aB,.aB,iv 0,iv 0,iv 0,iv 0,iv 0,iv 0],iv e]) g:=fun e g o q=>by
  unfold cl
  exact⟨o,_,.tuple (.cons aDX (.cons (.same rfl) .nil)),q⟩
 have kn:¬0≤ix→K (.tuple [.agg (eI Y1),iv (if 0<x.call.id∧x.call.id<x.c.aA then 12 else 3)]) h:=fun q=>by
  split at k
  ·rw[if_neg q]at k;exact k
  ·exact k
 refine⟨fun q1=> ?_,fun q1=>⟨fun q2=>⟨fun q3=> ?_,fun q3=> ?_⟩,fun q2=> ?_⟩⟩
 ·have e:=aC (show ix.toNat<x.c.items.length by omega)
  rw[e]at k
  simp only at k
  rw[if_pos q1]at k
  rw[cS q1,bV dV e]
  refine Zr ?_
  rw[bU _ _ (by rw[dV];rfl)]
  refine Zr ?_
  exact bA Oq (eA (aY (zR (uI _)) rfl)) k
 ·have kn:=kn q1
  rw[if_pos ⟨q2,q3⟩]at kn
  exact f0 _ _ Oq kn
 ·have kn:=kn q1
  rw[if_neg (fun q=>q3 q.2)]at kn
  exact f0 _ _ Oq kn
 ·have kn:=kn q1
  rw[if_neg (fun q=>q2 q.1)]at kn
  exact f0 _ _ Oq kn
def iK(x:cK)(b:dS):dS×Int:=if x.call.doN=4 then oN b 0 else if x.call.doN=2 then oN b 1 else oN b 2
theorem c95{x:cK}{p:Nat}{b:dS}(hp:aP h p=some (.cells (eD x)))(hph:p<h.aA)(k:K (OM (iK x b)) h):C 95 [.ptr p 0,.agg (eB b)] h K:=by
 refine bG (e95 ?_)
 unfold iK at k
 have e0:(p=h.aA)=False:=eq_false (by omega)
 have e1:(p=h.aA+1)=False:=eq_false (by omega)
 refine Z3 hp e0 e1 ?_
 have go:∀f (w:Int),(∀{b:dS} {h:aL} {K:KH},K (OM (oN b w)) h→C f [.agg (eB b)] h K)→K (OM (oN b w)) h→C f [.agg (eB b)] (nw (nw h (.cells (eB b))) (.cells [iv 0,iv 0,iv 0,iv 0,iv 0])) fun v6 h7=>
   RO (aR 0 v6) fun v8=>
    RO (aR 1 v6) fun v9=>
     RP (aW h7 5 (aK v8) (.ptr (h.aA+1) 0)) fun v10 h11=>
      RO (fO 0 (.many 0 5) (aP h11 (h.aA+1))) fun v12=>aQ v9=true∧cl h K (.tuple [v12,v9]) h11:=fun f w hc k=>by
  refine hc ?_
  unfold OM at k⊢
  refine Zr ?_
  rw[bU _ _ (by rw[yF];rfl)]
  refine Zr ?_
  exact bA Oq (eA (aY (qX _) rfl)) k
 refine⟨fun q1=> ?_,fun q1=>⟨fun q2=> ?_,fun q2=> ?_⟩⟩
 ·rw[if_pos q1]at k
  exact go 193 0 aN2 k
 ·rw[if_neg q1,if_pos q2]at k
  exact go 194 1 aN3 k
 ·rw[if_neg q1,if_neg q2]at k
  exact go 195 2 aN4 k
theorem aIe{l:List Item}{id:Int}(hl:l.length<2^20)(hx:∀x∈l,vG x.mode)(k:K (sl eI (dZ l id)) h):C 189 [sl eI l,iv id] h K:=by
 refine bG (aH6 hl hx fun g v o n q=> ?_)
 unfold cl
 exact⟨o,_,q.fz' (aE _) dV (fun x _=>uI x),k⟩
def fU(how:Mark→Mode→Int×Mark)(x:cK)(i:Item):Int×cK:=
 if¬(how x.c.m i.mode).1=0 then((how x.c.m i.mode).1,x)else(0,(x.mk_ (how x.c.m i.mode).2).its (dZ x.c.items i.id))
theorem c98{how:Mark→Mode→Int×Mark}{x:cK}{p:Nat}{i:Item}{fv:AV}(hp:aP h p=some (.cells (eD x)))(hph:p<h.aA)(hl:x.c.items.length<2^20)(hx:∀i∈x.c.items,vG i.mode)
  (hh:∀(g:aL) (K:KH),K (.tuple [dC (how x.c.m i.mode).2,iv (how x.c.m i.mode).1]) g→CV fv [.agg (eN x.net),dC x.c.m,.agg (iU i.mode)] g K)
  (k:K (iv (fU how x i).1) (bI h p (.cells (eD (fU how x i).2)))):C 98 [.ptr p 0,.agg (eI i),fv] h K:=by
 refine wU hph (e98 ?_)
 unfold fU at k
 have e0:(p=h.aA)=False:=eq_false (by omega)
 refine Z2 hp e0 ?_
 refine hh _ _ ?_
 refine Z2 hp e0 ?_
 refine⟨fun q=> ?_,fun q=> ?_⟩
 ·rw[if_neg (fun n=>n q)]at k
  refine aIe hl hx ?_
  refine Z2 hp e0 ?_
  refine⟨fun b h1 h2=> ?_,_,_,_,.same rfl,aU _ _ _,oD.same (gJ _),k⟩
  rw[aX,if_neg h2,aX,if_neg h2,cM,cM,bF,if_neg (by omega)]
 ·rw[if_pos q]at k
  exact⟨fun b h1 h2=>by rw[cM,bF,if_neg (by omega)],_,_,_,.same rfl,by rw[cM,bF,if_neg (by omega)];exact hp,oD.same (gJ _),k⟩
end
section
attribute [local irreducible] cl uE
theorem kZ{h h':aL}{p:Nat}{v v2:AV}{l:List AV}(h1:∀b,b<h.aA→b≠p→aP h' b=aP h b)(h2:Fz h'.t h.aA v v2)(h3:aP h' p=some (.cells l))(h4:bP l=true)(k:K v2 (bI h p (.cells l))):uE h p K v h':=by
 unfold uE
 exact⟨h1,v2,l,l,h2,h3,oD.same h4,k⟩
def aDW:fN:=⟨0,0,[]⟩
theorem nY{t:bE AO}{m:Nat}:Fz t m (.agg [iv 0,iv 0,.aB]) (.agg (CF aDW)):= .agg (.cons (.same rfl) (.cons (.same rfl) (.cons .aB .nil)))
theorem OW{t:bE AO}{m:Nat}(id:Int):Fz t m (.agg [iv 0,iv id,.aB]) (.agg (CF ⟨0,id,[]⟩)):= .agg (.cons (.same rfl) (.cons (.same rfl) (.cons .aB .nil)))
theorem OX{m b:Nat}{id id2:Int}(hb:m≤b)(hg:aP h b=some (.cells [iv id2])):Fz h.t m (.agg [iv 0,iv id,.slice b 0 1 1 0]) (.agg (CF ⟨0,id,[id2]⟩)):=
 .agg (.cons (.same rfl) (.cons (.same rfl) (.cons (.slice (m:=1) (l2:= [iv id2]) hb hg (.cons (.same rfl) .nil)) .nil)))
def rN(e:Int)(x:cK):fN×Int×cK:=(aDW,e,x)
def XR(r:fN×Int×cK):AV:= .tuple [.agg (CF r.1),iv r.2.1]
def iT(d:Nat)(x:cK):fN×Int×cK:=
 if¬(dP x).2=0 then rN (dP x).2 x else(⟨0,(dP x).1.id,[(dP x).1.id]⟩,(fU (iL d x.net) x (dP x).1).1,(fU (iL d x.net) x (dP x).1).2)
structure uZ(d:Nat)(x:cK):Prop where
 net:dR d x.net
 m:jG x.c.m
 items:x.c.items.length<2^19
 mods:∀i∈x.c.items,dO i.mode
theorem MG{x:cK}(h:∀i∈x.c.items,dO i.mode):dO (dP x).1.mode:=by
 have z:dO Y1.mode:=⟨by simp[Y1],by simp[Y1],by simp[Y1]⟩
 unfold dP
 split
 ·rename_i i e
  split
  ·exact h i (aG e)
  ·exact z
 ·exact z
theorem c51{d p:Nat}{x:cK}(hp:aP h p=some (.cells (eD x)))(hph:p<h.aA)(hs:uZ d x)(k:K (XR (iT d x)) (bI h p (.cells (eD (iT d x).2.2)))):C 51 [.ptr p 0] h K:=by
 refine wU hph (e51 ?_)
 unfold iT at k
 have e0:(p=h.aA)=False:=eq_false (by omega)
 have e1:(p=h.aA+1)=False:=eq_false (by omega)
 have hil:=hs.items
 have hmo:=MG hs.mods
 refine c94 (x:=x) (by exact Z2 hp e0 trivial) (by rw[aT];omega) (by omega) ?_
 refine Zr ?_
 rw[bU _ _ (by rw[dV];rfl)]
 refine Zr ?_
 refine⟨fun q=> ?_,fun q=> ?_⟩
 ·rw[if_neg (fun n=>n q)]at k
  refine c98 (x:=x) (how:=iL d x.net) (by exact Z3 hp e0 e1 trivial) (by refine Zr ?_;omega) (by omega) (fun i hi=>(hs.mods i hi).sm) (fun g K k=> ?_) ?_
  ·rw[kC]
   exact aB2 hs.net hs.m hmo k
  have e0':(h.aA=p)=False:=eq_false (by omega)
  have e1':(h.aA+1=p)=False:=eq_false (by omega)
  refine Z4 e0 e1 e0' e1' ?_
  refine kZ Fq (.tuple (.cons (OX (by omega) (by exact Zr trivial)) (.cons (.same rfl) .nil))) ?_ (gJ _) k
  rw[aX,if_neg (by omega),gH,if_neg (by omega)];exact aU _ _ _
 ·rw[if_pos q]at k
  exact kZ Fq (.tuple (.cons nY (.cons (.same rfl) .nil))) (by refine Z3 hp e0 e1 ?_;rfl) (gJ _) k
end
section
attribute [local irreducible] cl uE
@[go_sem]theorem aR6(i:Item)(b:dS):aV (eI i) 5 (eB b)=some (eI ⟨i.id,i.mode,b,i.til⟩):=by rfl
@[go_sem]theorem aR7(id:Int):CF ⟨0,id,[]⟩= [iv 0,iv id,sl fi []]:=rfl
def aAQ(d:Nat)(x:cK)(i:Item):fN×Int×cK:=
 if¬nV i.batch then(⟨0,i.id,[]⟩,0,x.its (rR x.c.items i))else
 if F9 i.batch then(⟨0,i.id,[i.id]⟩,(fU (vF d x.net) x i).1,(fU (vF d x.net) x i).2)else(⟨0,i.id,[i.id]⟩,(fU (iL d x.net) x i).1,(fU (iL d x.net) x i).2)
def fH(d:Nat)(x:cK):fN×Int×cK:=
 if¬(dP x).2=0 then rN (dP x).2 x else
 if¬(iK x (dP x).1.batch).2=0 then rN (iK x (dP x).1.batch).2 x else aAQ d x ⟨(dP x).1.id,(dP x).1.mode,(iK x (dP x).1.batch).1,(dP x).1.til⟩
theorem c50{d p:Nat}{x:cK}(hp:aP h p=some (.cells (eD x)))(hph:p<h.aA)(hs:uZ d x)(k:K (XR (fH d x)) (bI h p (.cells (eD (fH d x).2.2)))):C 50 [.ptr p 0] h K:=by
 refine wU hph (e50 ?_)
 unfold fH at k
 have e0:(p=h.aA)=False:=eq_false (by omega)
 have e1:(p=h.aA+1)=False:=eq_false (by omega)
 have e2:(p=h.aA+2)=False:=eq_false (by omega)
 have e3:(p=h.aA+3)=False:=eq_false (by omega)
 have e0':(h.aA=p)=False:=eq_false (by omega)
 have e1':(h.aA+1=p)=False:=eq_false (by omega)
 have e2':(h.aA+2=p)=False:=eq_false (by omega)
 have e3':(h.aA+3=p)=False:=eq_false (by omega)
 have hil:=hs.items
 have hmo:=MG hs.mods
 refine c94 (x:=x) (by exact Z2 hp e0 trivial) (by rw[aT];omega) (by omega) ?_
 refine Zr ?_
 rw[bU _ _ (by rw[dV];rfl)]
 refine Zr ?_
 refine⟨fun q=> ?_,fun q=> ?_⟩
 ·rw[if_neg (fun n=>n q)]at k
  refine c95 (x:=x) (by exact Z3 hp e0 e1 trivial) (by refine Zr ?_;omega) ?_
  unfold OM
  refine Zr ?_
  refine⟨fun q2=> ?_,fun q2=> ?_⟩
  ·rw[if_neg (fun n=>n q2)]at k
   obtain⟨i,hi⟩:∃i:Item,i=⟨(dP x).1.id,(dP x).1.mode,(iK x (dP x).1.batch).1,(dP x).1.til⟩:=⟨_,rfl⟩
   have him:dO i.mode:=by rw[hi];exact hmo
   have hid:(dP x).1.id=i.id:=by rw[hi]
   have hib:(iK x (dP x).1.batch).1=i.batch:=by rw[hi]
   rw[←hi]at k⊢
   try rw[hid]
   try rw[hib]
   clear hi
   unfold aAQ at k
   refine c96 (fun q3=> ?_) (fun q3=> ?_)
   ·refine Zr ?_
    rw[if_neg (fun n=>n q3)]at k
    refine c97 (fun q4=> ?_) (fun q4=> ?_)
    ·rw[if_pos q4]at k
     refine Zr ?_
     refine c98 (x:=x) (how:=vF d x.net) (by simp only[go_sem,reduceAdd,reduceMul,reduceSub,aa,reduceEqDiff,reduceLT,hp,e0,e1,e2,e3]) (by refine Zr ?_;omega) (by omega) (fun i hi=>(hs.mods i hi).sm) (fun g K k=> ?_) ?_
     ·rw[kC]
      exact c99 hs.net hs.m him k
     simp only[go_sem,reduceAdd,reduceMul,reduceSub,aa,reduceEqDiff,reduceLT,e0,e1,e2,e3,e0',e1',e2',e3']
     refine kZ Fq (.tuple (.cons (OX (by omega) (by simp only[go_sem,reduceAdd,reduceMul,reduceSub,aa,reduceEqDiff,reduceLT,e0,e1,e2,e3,e0',e1',e2',e3'])) (.cons (.same rfl) .nil))) ?_ (gJ _) k
     rw[aX,if_neg (by omega)];exact aU _ _ _
    ·rw[if_neg q4]at k
     refine Zr ?_
     refine c98 (x:=x) (how:=iL d x.net) (by simp only[go_sem,reduceAdd,reduceMul,reduceSub,aa,reduceEqDiff,reduceLT,hp,e0,e1,e2,e3]) (by refine Zr ?_;omega) (by omega) (fun i hi=>(hs.mods i hi).sm) (fun g K k=> ?_) ?_
     ·rw[kC]
      exact aB2 hs.net hs.m him k
     simp only[go_sem,reduceAdd,reduceMul,reduceSub,aa,reduceEqDiff,reduceLT,e0,e1,e2,e3,e0',e1',e2',e3']
     refine kZ Fq (.tuple (.cons (OX (by omega) (by simp only[go_sem,reduceAdd,reduceMul,reduceSub,aa,reduceEqDiff,reduceLT,e0,e1,e2,e3,e0',e1',e2',e3'])) (.cons (.same rfl) .nil))) ?_ (gJ _) k
     rw[aX,if_neg (by omega)];exact aU _ _ _
   ·simp only[go_sem,reduceAdd,reduceMul,reduceSub,aa,reduceEqDiff,reduceLT,e0,e1,e2,e3,e0',e1',e2',e3',hp]
    rw[if_pos q3]at k
    refine c93 hil (fun i hi=>(hs.mods i hi).sm) him.sm ?_
    simp only[go_sem,reduceAdd,reduceMul,reduceSub,aa,reduceEqDiff,reduceLT,e0,e1,e2,e3,e0',e1',e2',e3',hp]
    refine kZ Fq (.tuple (.cons (OW _) (.cons (.same rfl) .nil))) ?_ (gJ _) k
    rw[aX,if_neg (by omega)];exact aU _ _ _
  ·rw[if_pos q2]at k
   exact kZ Fq (.tuple (.cons nY (.cons (.same rfl) .nil))) (by refine Z3 hp e0 e1 ?_;rfl) (gJ _) k
 ·rw[if_pos q]at k
  refine⟨fun n=>absurd n q,fun _=>kZ Fq (.tuple (.cons nY (.cons (.same rfl) .nil))) (by refine Z3 hp e0 e1 ?_;rfl) (gJ _) k⟩
end
section
attribute [local irreducible] cl uE
@[go_sem]theorem aN7(t:Task):bZ 3 (drop 11 (eT t))=some [iv t.m0,iv t.m1,iv t.m2]:=rfl
@[go_sem]theorem aIc(x:cK)(m:Mark):(x.mk_ m).c.items=x.c.items:=rfl
@[go_sem]theorem aJP(x:cK)(m:Mark):(x.mk_ m).c.aA=x.c.aA:=rfl
@[go_sem]theorem aId(x:cK)(l:List Item):(x.its l).c.aA=x.c.aA:=rfl
@[go_sem]theorem aR5(nx:Int)(mo:Mode)(b:dS):jY [(5,5,.agg (eB b))] (uA (iv nx) (aV [iv 0,.aB,.aB,.aB,iv 0,iv 0,iv 0,iv 0,iv 0,iv 0] 0 (iU mo)))=some (eI ⟨nx,mo,b,0⟩):=by cases b;cases mo;rfl
@[go_sem]theorem aN8(i:Item)(k:Int):aV (eI i) 10 [iv k]=some (eI ⟨i.id,i.mode,i.batch,k⟩):=by rfl
def rL(x:cK)(t:Task):Item:=⟨x.c.aA,x.call.mode,(jO t.m0 t.m1 t.m2 x.call.num).1,if 0<t.after then wrap64 (x.c.now+t.after)else 0⟩
def i3(d:Nat)(x:cK):fN×Int×cK:=
 if¬eQ d x.net x.c.m x.call.mode=0 then rN (eQ d x.net x.c.m x.call.mode) x else
 match x.net.tasks[x.call.mode.task.toNat]? with
 |none=>rN 3 x
 |some t=>
  if¬(jO t.m0 t.m1 t.m2 x.call.num).2=0 then rN (jO t.m0 t.m1 t.m2 x.call.num).2 x else
  if 64≤(x.c.items.length:Int)then rN 2 x else
  if x.c.aA=1099511627776 then rN 1 x else
  if¬(mX d x.net x.c.m x.call.mode).1=0 then rN (mX d x.net x.c.m x.call.mode).1 (x.mk_ (mX d x.net x.c.m x.call.mode).2)else
  (⟨0,x.c.aA,[]⟩,0,((x.mk_ (mX d x.net x.c.m x.call.mode).2).its (rR x.c.items (rL x t))).nx (x.c.aA+1))
theorem c49{d p:Nat}{x:cK}(hp:aP h p=some (.cells (eD x)))(hph:p<h.aA)(hs:uZ d x)(hj:k7 x.net)(ho:dO x.call.mode)(hnx:x.c.aA≤1099511627776)(hnx1:1≤x.c.aA)
  (k:K (XR (i3 d x)) (bI h p (.cells (eD (i3 d x).2.2)))):C 49 [.ptr p 0] h K:=by
 refine wU hph (e49 ?_)
 unfold i3 at k
 have e0:(p=h.aA)=False:=eq_false (by omega)
 have e1:(p=h.aA+1)=False:=eq_false (by omega)
 have e2:(p=h.aA+2)=False:=eq_false (by omega)
 have e0':(h.aA=p)=False:=eq_false (by omega)
 have e1':(h.aA+1=p)=False:=eq_false (by omega)
 have hil:=hs.items
 simp only[go_sem,reduceAdd,reduceMul,reduceSub,aa,reduceEqDiff,reduceLT,hp,e0,e1,e2,e0',e1']
 rw[bU _ _ (by rw[gA];rfl)]
 simp only[go_sem,reduceAdd,reduceMul,reduceSub,aa,reduceEqDiff,reduceLT,hp,e0,e1,e2,e0',e1']
 refine c89 (d:=d) hs.net hj hs.m ho.sm ho.ins ho.outs ?_
 refine Zr ?_
 refine⟨fun q=> ?_,fun q=> ?_⟩
 ·rw[if_neg (fun n=>n q)]at k
  simp only[go_sem,reduceAdd,reduceMul,reduceSub,aa,reduceEqDiff,reduceLT,hp,e0,e1,e2,e0',e1']
  refine c48 (d:=d) hs.net hj hs.m ho ?_
  rw[if_pos q]
  simp only[go_sem,reduceAdd,reduceMul,reduceSub,aa,reduceEqDiff,reduceLT,hp,e0,e1,e2,e0',e1']
  refine⟨fun _=> ?_,fun n=>absurd trivial n⟩
  have henv:(hY x.net x.call.mode.task x.call.mode.vars).1=0:=Classical.byContradiction fun q2=>by
   unfold eQ at q
   rw[if_pos q2]at q
   exact q2 q
  obtain⟨h0,h1,t,ht⟩:=n9 henv
  rw[ht]at k
  simp only at k
  have ek:∀k,(p=h.aA+k)=False:=fun k=>eq_false (by omega)
  have ek':∀k,(h.aA+k=p)=False:=fun k=>eq_false (by omega)
  rw[cS h0,bV eS ht]
  simp only[go_sem,reduceAdd,reduceMul,reduceSub,aa,reduceEqDiff,reduceLT,hp,e0,ek,e0',ek']
  rw[bU _ _ (by rw[eS];rfl)]
  simp only[go_sem,reduceAdd,reduceMul,reduceSub,aa,reduceEqDiff,reduceLT,hp,e0,ek,e0',ek']
  refine c91 ?_
  unfold OM
  simp only[go_sem,reduceAdd,reduceMul,reduceSub,aa,reduceEqDiff,reduceLT,hp,e0,ek,e0',ek']
  rw[bU _ _ (by rw[yF];rfl)]
  simp only[go_sem,reduceAdd,reduceMul,reduceSub,aa,reduceEqDiff,reduceLT,hp,e0,ek,e0',ek']
  refine⟨fun q1=> ?_,fun q1=> ?_⟩
  ·rw[if_neg (fun n=>n q1)]at k
   refine⟨fun q2=> ?_,fun q2=> ?_⟩
   ·rw[if_pos q2]at k
    exact kZ Fq (.tuple (.cons nY (.cons (.same rfl) .nil))) (by refine Z3 hp e0 ek ?_;rfl) (gJ _) k
   ·rw[if_neg q2]at k
    refine⟨fun q3=> ?_,fun q3=> ?_⟩
    ·rw[if_pos q3]at k
     exact kZ Fq (.tuple (.cons nY (.cons (.same rfl) .nil))) (by refine Z3 hp e0 ek ?_;rfl) (gJ _) k
    ·rw[if_neg q3]at k
     rw[bU _ _ (by rw[dV];rfl)]
     simp only[go_sem,reduceAdd,reduceMul,reduceSub,aa,reduceEqDiff,reduceLT,hp,e0,ek,e0',ek',g9]
     refine⟨fun q4=> ?_,fun q4=> ?_⟩
     ·have hit:rL x t=⟨x.c.aA,x.call.mode,(jO t.m0 t.m1 t.m2 x.call.num).1,wrap64 (x.c.now+t.after)⟩:=by unfold rL;rw[if_pos q4]
      rw[hit]at k
      refine c92 (d:=d) hs.net hj hs.m ho ?_
      simp only[go_sem,reduceAdd,reduceMul,reduceSub,aa,reduceEqDiff,reduceLT,hp,e0,ek,e0',ek']
      refine⟨fun q5=> ?_,fun q5=> ?_⟩
      ·rw[if_neg (fun n=>n q5)]at k
       refine c93 hil (fun i hi=>(hs.mods i hi).sm) ho.sm ?_
       simp only[go_sem,reduceAdd,reduceMul,reduceSub,aa,reduceEqDiff,reduceLT,hp,e0,ek,e0',ek']
       refine bT (by omega) (by omega) ?_
       simp only[go_sem,reduceAdd,reduceMul,reduceSub,aa,reduceEqDiff,reduceLT,hp,e0,ek,e0',ek']
       refine kZ Fq (.tuple (.cons (OW _) (.cons (.same rfl) .nil))) ?_ (gJ _) k
       rw[aX,if_neg (by omega)];exact aU _ _ _
      ·rw[if_pos q5]at k
       refine kZ Fq (.tuple (.cons nY (.cons (.same rfl) .nil))) ?_ (gJ _) k
       rw[aX,if_neg (by omega)];exact aU _ _ _
     ·have hit:rL x t=⟨x.c.aA,x.call.mode,(jO t.m0 t.m1 t.m2 x.call.num).1,0⟩:=by unfold rL;rw[if_neg q4]
      rw[hit]at k
      refine c92 (d:=d) hs.net hj hs.m ho ?_
      simp only[go_sem,reduceAdd,reduceMul,reduceSub,aa,reduceEqDiff,reduceLT,hp,e0,ek,e0',ek']
      refine⟨fun q5=> ?_,fun q5=> ?_⟩
      ·rw[if_neg (fun n=>n q5)]at k
       refine c93 hil (fun i hi=>(hs.mods i hi).sm) ho.sm ?_
       simp only[go_sem,reduceAdd,reduceMul,reduceSub,aa,reduceEqDiff,reduceLT,hp,e0,ek,e0',ek']
       refine bT (by omega) (by omega) ?_
       simp only[go_sem,reduceAdd,reduceMul,reduceSub,aa,reduceEqDiff,reduceLT,hp,e0,ek,e0',ek']
       refine kZ Fq (.tuple (.cons (OW _) (.cons (.same rfl) .nil))) ?_ (gJ _) k
       rw[aX,if_neg (by omega)];exact aU _ _ _
      ·rw[if_pos q5]at k
       refine kZ Fq (.tuple (.cons nY (.cons (.same rfl) .nil))) ?_ (gJ _) k
       rw[aX,if_neg (by omega)];exact aU _ _ _
  ·rw[if_pos q1]at k
   exact kZ Fq (.tuple (.cons nY (.cons (.same rfl) .nil))) (by refine Z3 hp e0 ek ?_;rfl) (gJ _) k
 ·rw[if_pos q]at k
  exact kZ Fq (.tuple (.cons nY (.cons (.same rfl) .nil))) (by refine Z3 hp e0 e1 ?_;rfl) (gJ _) k
end
end
end Ev
