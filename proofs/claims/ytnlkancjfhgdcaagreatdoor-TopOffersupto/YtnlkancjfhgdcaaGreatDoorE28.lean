/- Proved here: the evaluator over abstract heaps and its soundness against the model. Conditions: none beyond the hypotheses that each theorem states. -/
import Derived.Test.YtnlkancjfhgdcaaGreatDoorE09
set_option linter.all false
set_option maxRecDepth 100000
open Go
namespace Ev
section
open Go.Proofs
noncomputable section
variable{α β κ υ:Type}
def sl(f:α→List AV)(l:List α):AV:= .rslice (l.flatMap f) l.length l.length false
def s1(f:α→AV)(l:List α):AV:=sl (fun x=> [f x]) l
abbrev ints(l:List Int):AV:=sl (fun x=> [iv x]) l
abbrev strs(l:List (List Nat)):AV:=sl (fun s=> [AV.str s]) l
@[go_sem]theorem aJy(f:α→List AV)(l:List α)(h:aL):bO .sl [sl f l] h= .ok (iv l.length) h:=rfl
@[go_sem]theorem aJz(f:α→List AV)(l:List α):aQ (sl f l)=true:=rfl
@[go_sem]theorem aCh(f:α→List AV)(l:List α):aK (sl f l)= [sl f l]:=rfl
@[go_sem]theorem aGc(f:α→List AV)(l:List α):cellA (sl f l)=true:=rfl
@[go_sem]theorem aE6(k:IntKind)(n:Int):cellA (.int k n)=true:=rfl
@[go_sem]theorem aCi(b:Bool):cellA (.bool b)=true:=rfl
@[go_sem]theorem aE7(b:List Nat):cellA (.str b)=true:=rfl
@[go_sem]theorem aCj:cellA .aB=true:=rfl
@[go_sem]theorem aE8(b o:Nat):cellA (.ptr b o)=true:=rfl
@[go_sem]theorem aCk(f:Fn)(a b:List AV):cellA (.func f a b)=true:=rfl
@[go_sem]theorem aE9(b:Nat):cellA (.map b)=true:=rfl
@[go_sem]theorem aA3(a b c d e:Nat):cellA (.slice a b c d e)=true:=rfl
@[go_sem]theorem GV:aZ []=true:=rfl
@[go_sem]theorem pA(a:AV)(l:List AV):(aZ (a::l)=true)=(cellA a=true∧aZ l=true):=by
 show((bif cellA a then aZ l else false)=true)=_
 cases cellA a<;>simp
theorem J3(l m:List AV):(aZ (l++m)=true)=(aZ l=true∧aZ m=true):=by
 induction l with
 |nil=>simp[GV]
 |cons a l ih=>rw[List.cons_append,pA,pA,ih];simp[and_assoc]
theorem k9{f:α→List AV}{l:List α}(h:∀x∈l,aZ (f x)=true):aZ (l.flatMap f)=true:=by
 induction l with
 |nil=>rfl
 |cons x l ih=>rw[List.flatMap_cons,J3];exact⟨h x (by simp),ih fun y hy=>h y (by simp[hy])⟩
theorem dA{f:α→List AV}{n:Nat}(hf:∀x,(f x).length=n)(l:List α):(l.flatMap f).length=n*l.length:=by
 induction l with
 |nil=>simp
 |cons x l ih=>simp[List.flatMap_cons,ih,hf,Nat.mul_add,Nat.add_comm]
theorem mK{f:α→List AV}{n:Nat}(hf:∀x,(f x).length=n):∀(i:Nat) (l:List α),(l.flatMap f).drop (i*n)=(l.drop i).flatMap f
 |0,l=>by simp
 |i+1,[]=>by simp
 |i+1,x::l=>by
  rw[List.flatMap_cons,List.drop_append,hf,List.drop_of_length_le (by rw[hf,Nat.succ_mul];omega),Nat.succ_mul,Nat.add_sub_cancel,mK hf i l]
  rfl
theorem pY{f:α→List AV}{n:Nat}(hf:∀x,(f x).length=n):∀(i:Nat) (l:List α),(l.flatMap f).take (i*n)=(l.take i).flatMap f
 |0,l=>by simp
 |i+1,[]=>by simp
 |i+1,x::l=>by
  rw[List.flatMap_cons,List.take_append,hf,List.take_of_length_le (by rw[hf,Nat.succ_mul];omega),Nat.succ_mul,Nat.add_sub_cancel,pY hf i l]
  rfl
theorem fR{l:List AV}{n:Nat}(h:n≤l.length):bZ n l=some (l.take n):=by
 induction n generalizing l with
 |zero=>simp[bZ]
 |succ n ih=>
  cases l with
  |nil=>simp at h
  |cons a l=>simp only[List.length_cons]at h;simp[bZ,ih (show n≤l.length by omega)]
theorem bV{f:α→List AV}{n:Nat}(hf:∀x,(f x).length=n){l:List α}{i:Nat}{x:α}(h:l[i]?=some x):cR none n (sl f l) (some i)=some (.rptr (f x++(l.drop (i+1)).flatMap f)):=by
 have hi:i<l.length:=(aD.1 h).1
 show DS i l.length (.rptr (drop (Nat.mul i n) (l.flatMap f)))=_
 unfold DS
 rw[show Nat.blt i l.length=true from blt_eq.2 hi,dX]
 show some (AV.rptr ((l.flatMap f).drop (i*n)))=_
 rw[mK hf,List.drop_eq_getElem_cons hi,List.flatMap_cons]
 have:l[i]=x:=(aD.1 h).2
 rw[this]
@[go_sem]theorem aFa(h:aL)(a:AV)(m:List AV):aJ h (.one 0) (.rptr (a::m))=some a:=rfl
@[go_sem]theorem aTi(a:AV)(l:List AV):bR (a::l) 0=some a:=rfl
@[go_sem]theorem aTj(a:AV)(l:List AV)(n:Nat):bR (a::l) (n+1)=bR l n:=rfl
@[go_sem]theorem J4(l:List AV):drop 0 l=l:=by cases l<;>rfl
@[go_sem]theorem aRp(a:AV)(l:List AV)(n:Nat):drop (n+1) (a::l)=drop n l:=rfl
@[go_sem]theorem aJA(l:List AV)(b o:Nat):kW l b (.one o)=bR l (b+o):=rfl
@[go_sem]theorem aGd(l:List AV)(b o n:Nat):kW l b (.many o n)=K7 (bZ n (drop (b+o) l)):=rfl
@[go_sem]theorem aLS(l:List AV):K7 (some l)=some (.agg l):=rfl
@[go_sem]theorem aRq(l:List AV):bZ 0 l=some []:=rfl
def uA(a:AV):Option (List AV)→Option (List AV)
 |some l=>some (a::l)
 |none=>none
@[go_sem]theorem aRr(a:AV)(l:List AV)(n:Nat):bZ (n+1) (a::l)=uA a (bZ n l):=by cases h:bZ n l<;>simp[bZ,uA,h]
@[go_sem]theorem aJB(a:AV)(l:List AV):uA a (some l)=some (a::l):=rfl
@[go_sem]theorem aGe(a:AV)(l m:List AV):(a::l)++m=a::(l++m):=rfl
@[go_sem]theorem aJC(m:List AV):([]:List AV)++m=m:=rfl
@[go_sem]theorem ZN(h:aL)(cut:fV)(b off:Nat):aJ h cut (.ptr b off)=fO off cut (aP h b):=rfl
@[go_sem]theorem aJD(h:aL)(cut:fV)(b off:Nat):cE h cut (.ptr b off)=fO off cut (aP h b):=rfl
@[go_sem]theorem aGf(off:Nat)(cut:fV)(l:List AV):fO off cut (some (.cells l))=kW l off cut:=rfl
@[go_sem]theorem aGg(l:List AV):aV l 0 []=some l:=by cases l<;>rfl
@[go_sem]theorem aGh(a x:AV)(l new:List AV):aV (a::l) 0 (x::new)=uA x (aV l 0 new):=rfl
@[go_sem]theorem aLT(a:AV)(l new:List AV)(n:Nat):aV (a::l) (n+1) new=uA a (aV l n new):=by
 cases new<;>rfl
def stS(h:aL)(b:Nat):Option (List AV)→R AV
 |some l=> .ok bS (bI h b (.cells l))
 |none=> .bad
@[go_sem]theorem aRs(h:aL)(b:Nat)(l:List AV):stS h b (some l)= .ok bS (bI h b (.cells l)):=rfl
theorem ZO{h:aL}{n b off:Nat}{vs l:List AV}(hb:aP h b=some (.cells l))(hn:vs.length=n)(hv:aZ vs=true):aW h n vs (.ptr b off)=stS h b (aV l off vs):=by
 show(bif rE n vs then yX bS (bif aZ vs then kM h b off vs (aP h b)else none)else .bad)=_
 rw[show rE n vs=true from beq_eq.2 hn,hv,hb]
 show yX bS (uR h b (aV l off vs))=_
 cases aV l off vs<;>rfl
def gG(fk:κ→AV)(fv:υ→AV):Nat→List (κ×υ)→List kU
 |_,[]=> []
 |n,(k,v)::l=>(fk k,fv v,n)::gG fk fv (n+1) l
theorem J5(fk:κ→AV)(fv:υ→AV)(k:κ)(v:υ):∀(l:List (κ×υ)) (n:Nat),gG fk fv n (l++ [(k,v)])=gG fk fv n l++ [(fk k,fv v,n+l.length)]
 | [],n=>by simp[gG]
 |(k',v')::l,n=>by simp[gG,J5 fk fv k v l (n+1)];omega
def fL [DecidableEq κ](l:List (κ×υ))(k:κ):Option υ:=match l with
 | []=>none
 |(k',v)::l=>if k=k' then some v else fL l k
def fI [DecidableEq κ](k:κ)(v:υ):List (κ×υ)→List (κ×υ)
 | []=> [(k,v)]
 |(k',v')::l=>if k=k' then(k,v)::l else(k',v')::fI k v l
def CS [DecidableEq κ](q:BK)(fk:κ→AV):Prop:=∀a b,oR q (fk a) (fk b)=some (decide (a=b))
theorem gB:CS .int iv:=fun a b=>by
 show(bif Nat.beq (jL .i64) (jL .i64)then some (NZ a b)else none)=_
 rw[beq_eq.2 rfl,lY];rfl
theorem GW:CS .str AV.str:=fun a b=>by
 show some (nL a b)=_
 rw[kJ]
theorem pZ [DecidableEq κ]{q:BK}{fk:κ→AV}{fv:υ→AV}(hq:CS q fk)(k:κ):∀(l:List (κ×υ)) (n i:Nat),fL l k=none→findKey q (fk k) (gG fk fv n l) i=some none
 | [],_,_,_=>rfl
 |(k',v)::l,n,i,h=>by
  have hn:¬k=k':=fun e=>by simp[fL,e]at h
  have h:fL l k=none:=by simpa[fL,hn]using h
  show(match oR q (fk k) (fk k')with|some true=>_|some false=>_|none=>_)=_
  rw[hq,decide_eq_false hn]
  exact pZ hq k l (n+1) (i+1) h
theorem qA [DecidableEq κ]{q:BK}{fk:κ→AV}{fv:υ→AV}(hq:CS q fk)(k:κ)(v:υ):∀(l:List (κ×υ)) (n i:Nat),fL l k=some v→∃j,findKey q (fk k) (gG fk fv n l) i=some (some (i+j,fv v,n+j))∧∀(v2:υ),setI (fk k,fv v2,n+j) (gG fk fv n l) j=gG fk fv n (fI k v2 l)
 | [],_,_,h=>by cases h
 |(k',v')::l,n,i,h=>by
  by_cases hk:k=k'
  ·subst hk
   have h:v'=v:=by simpa[fL]using h
   subst h
   refine⟨0,?_,fun v2=> ?_⟩
   ·show(match oR q (fk k) (fk k)with|some true=>_|some false=>_|none=>_)=_
    rw[hq,decide_eq_true rfl];rfl
   ·simp[fI,gG,setI]
  ·have h:fL l k=some v:=by simpa[fL,hk]using h
   obtain⟨j,h1,h2⟩:=qA hq k v l (n+1) (i+1) h
   refine⟨j+1,?_,fun v2=> ?_⟩
   ·show(match oR q (fk k) (fk k')with|some true=>_|some false=>_|none=>_)=_
    rw[hq,decide_eq_false hk]
    show findKey q (fk k) (gG fk fv (n+1) l) (i+1)=_
    rw[h1,show i+1+j=i+(j+1) by omega,show n+1+j=n+(j+1) by omega]
   ·have:=h2 v2
    simp only[gG,setI,fI,hk,if_false]
    rw[show n+(j+1)=n+1+j by omega,this]
theorem pB [DecidableEq κ]{q:BK}{fk:κ→AV}{fv:υ→AV}(hq:CS q fk){k:κ}{l:List (κ×υ)}{n:Nat}(z:AV)(ok:Bool)(h:fL l k=none):fT q z ok (fk k) (some (gG fk fv n l))=some (sK ok z false):=by
 show DT z ok _=_
 rw[pZ hq k l n 0 h];rfl
theorem mQ [DecidableEq κ]{q:BK}{fk:κ→AV}{fv:υ→AV}(hq:CS q fk){k:κ}{v:υ}{l:List (κ×υ)}{n:Nat}(z:AV)(ok:Bool)(h:fL l k=some v):fT q z ok (fk k) (some (gG fk fv n l))=some (sK ok (fv v) true):=by
 show DT z ok _=_
 obtain⟨j,h1,_⟩:=qA (fv:=fv) hq k v l n 0 h
 rw[h1];rfl
theorem vL [DecidableEq κ]{k:κ}{v:υ}:∀{l:List (κ×υ)},fL l k=none→fI k v l=l++ [(k,v)]
 | [],_=>rfl
 |(k',v')::l,h=>by
  have hn:¬k=k':=fun e=>by simp[fL,e]at h
  have h:fL l k=none:=by simpa[fL,hn]using h
  simp[fI,hn,vL h]
theorem J6 [DecidableEq κ]{k:κ}{v v':υ}:∀{l:List (κ×υ)},fL l k=some v'→(fI k v l).length=l.length
 | [],h=>by cases h
 |(k',v'')::l,h=>by
  by_cases hk:k=k'
  ·simp[fI,hk]
  ·have h:fL l k=some v':=by simpa[fL,hk]using h
   simp[fI,hk,J6 h]
def zA(fk:κ→AV)(fv:υ→AV)(l:List (κ×υ)):AO:= .map (gG fk fv 0 l) l.length
theorem zT [DecidableEq κ]{q:BK}{fk:κ→AV}{fv:υ→AV}(hq:CS q fk){k:κ}{v:υ}{l:List (κ×υ)}{h:aL}{b:Nat}(hb:aP h b=some (zA fk fv l)):hU h q (fk k) (fv v) (.map b)= .ok bS (bI h b (zA fk fv (fI k v l))):=by
 show aAs h q b (fk k) (fv v) (wC (aP h b))=_
 rw[hb]
 show VI h b l.length (gG fk fv 0 l) (fk k) (fv v) (findKey q (fk k) (gG fk fv 0 l) 0)=_
 cases hg:fL l k with
 |none=>
  rw[pZ hq k l 0 0 hg]
  show R.ok bS (bI h b (.map (gG fk fv 0 l++ [(fk k,fv v,l.length)]) (l.length+1)))=_
  rw[vL hg]
  unfold zA
  rw[J5]
  simp
 |some v'=>
  obtain⟨j,h1,h2⟩:=qA (fv:=fv) hq k v' l 0 0 hg
  rw[h1]
  show R.ok bS (bI h b (.map (setI (fk k,fv v,0+j) (gG fk fv 0 l) (0+j)) l.length))=_
  unfold zA
  rw[J6 hg,←h2 v]
  simp
theorem gU{fk:κ→AV}{fv:υ→AV}{l:List (κ×υ)}{h:aL}{b:Nat}(hb:aP h b=some (zA fk fv l)):dK h (.map b)=some (gG fk fv 0 l):=by
 show wE (wC (aP h b))=_
 rw[hb];rfl
end
end
section
open Go.Proofs
noncomputable section
theorem V4:(List.range Tryz.prog.funcs.size).all (fun f=>match Tryz.prog.funcs[f]? with|some fn=> !(fn.name== "internal/bytealg.IndexByteString")||Nat.beq f 434|none=>true)=true:=by kernel_rfl
theorem V5:Tryz.prog.funcs[434]?=some Tryz.f434:=Tryz.func434
theorem y4{c:Nat}:∀{l:List Nat} {k:Nat},(∀x∈l,x≠c)→nO l c k= -1
 | [],_,_=>rfl
 |b::l,k,h=>by
  have hb:Nat.beq b c=false:=by cases e:Nat.beq b c with|false=>rfl|true=>exact absurd (beq_eq.1 e) (h b (by simp))
  simp only[nO,hb,cond_false]
  exact y4 fun x hx=>h x (by simp[hx])
theorem F3{c:Nat}:∀{l:List Nat} {k j:Nat},l[j]?=some c→(∀i x,i<j→l[i]?=some x→x≠c)→nO l c k=((k+j:Nat):Int)
 | [],_,_,h,_=>by simp at h
 |b::l,k,0,h,_=>by
  simp at h
  subst h
  simp only[nO,show Nat.beq b b=true from beq_eq.2 rfl,cond_true]
  rfl
 |b::l,k,j+1,h,hi=>by
  have hb:Nat.beq b c=false:=by cases e:Nat.beq b c with|false=>rfl|true=>exact absurd (beq_eq.1 e) (hi 0 b (by omega) rfl)
  simp only[nO,hb,cond_false]
  rw[F3 (l:=l) (k:=k+1) (j:=j) (by simpa using h) (fun i x hij hx=>hi (i+1) x (by omega) (by simpa using hx))]
  congr 1;omega
theorem zG(s:ByteArray){c:Nat}(hc:c<256):firstIdx s c.toUInt8=nO (dY s) c 0:=by
 have hcn:c.toUInt8.toNat=c:=by simp[Nat.toUInt8,Nat.mod_eq_of_lt hc]
 have at_:∀i,i<s.size→(dY s)[i]?=some (s[i]!).toNat:=by
  intro i hi
  unfold dY
  have h2:i<s.data.size:=hi
  rw[List.getElem?_map,Array.getElem?_toList,Array.getElem?_eq_getElem h2]
  simp[getElem!_pos,hi]
  first|rfl|skip
 have len:(dY s).length=s.size:=by unfold dY;simp;first|rfl|skip
 unfold firstIdx
 cases h:(List.range s.size).find? fun i=>s[i]! ==c.toUInt8 with
 |none=>
  rw[List.find?_eq_none]at h
  refine(y4 fun x hx=> ?_).symm
  obtain⟨i,hi,rfl⟩:=List.mem_iff_getElem.1 hx
  have hi':i<s.size:=by omega
  have:=h i (List.mem_range.2 hi')
  have e:=at_ i hi'
  rw[aC hi]at e
  rw[Option.some.inj e]
  intro hh
  apply this
  simp only[beq_iff_eq]
  exact UInt8.toNat_inj.1 (by rw[hh,hcn])
 |some j=>
  rw[List.find?_range_eq_some]at h
  obtain⟨h1,h2,h3⟩:=h
  have h2:j<s.size:=by simpa using h2
  have e:=at_ j h2
  have h1:s[j]! =c.toUInt8:=by simpa using h1
  rw[h1,hcn]at e
  rw[F3 e fun i x hij hx=> ?_]
  ·simp
  ·have ei:=at_ i (by omega)
   rw[hx]at ei
   have:=h3 i hij
   rw[Option.some.inj ei]
   intro hh
   have hne:¬s[i]! =c.toUInt8:=by simpa using this
   exact hne (UInt8.toNat_inj.1 (by rw[hh,hcn]))
theorem aHl:∀f fn vs w v,Tryz.prog.funcs[f]?=some fn→fn.body=none→fn.name= "internal/bytealg.IndexByteString" →∀s c,c<256→vs= #[.string s,.int .u8 (.ofNat c)]→v= .int .i64 (nO (dY s) c 0)→(callFunc f vs).run Tryz.prog w= .ok (.value v) w:=by
 intro f fn vs w v hf hb hn s c hc hvs hv
 have hlt:f<Tryz.prog.funcs.size:=(Array.getElem?_eq_some_iff.1 hf).1
 have hk:=List.all_eq_true.1 V4 f (List.mem_range.2 hlt)
 rw[hf]at hk
 simp only[hn,beq_self_eq_true,Bool.not_true,Bool.false_or,beq_eq]at hk
 subst hk
 rw[V5]at hf
 cases hf
 subst hvs hv
 rw[run_callFunc_extern (f:=434) (fn:=Tryz.f434) (e:=Extern.BytealgIndexByte.indexByte) V5 (by kernel_rfl) (by kernel_rfl) (by kernel_rfl) (by kernel_rfl)]
 have:=run_indexByte_string (P:=Tryz.prog) s (.ofNat c) w
 rw[this]
 have e:(Int.ofNat c).toNat.toUInt8=c.toUInt8:=rfl
 rw[e,zG s hc]
 rfl
theorem D3{f:Nat}{args:List AV}{h:aL}{K:KH}(q:C f args h K):gW Tryz.prog E f args h K:=by
 have:=W.says (P:=Tryz.prog) OD aL9 mixed aMa aMb aHl (fun _ _ _ _ h=>h) (show W T M X (.fn f args h) (V K)from q)
 exact this
end
end
section
open Go.Proofs
noncomputable section
variable{α:Type}
theorem g9(q:pN)(a b:Int)(K:AV→Prop):RO (aO .add q (iv a) (iv b)) K=K (iv (wrap64 (a+b))):=rfl
theorem CP(q:pN)(a b:Int)(K:AV→Prop):RO (aO .sub q (iv a) (iv b)) K=K (iv (wrap64 (a-b))):=rfl
theorem CQ(q:pN)(a b:Int)(K:AV→Prop):RO (aO .mul q (iv a) (iv b)) K=K (iv (wrap64 (a*b))):=rfl
@[go_sem]theorem aLR(q:pN)(a b:Int)(K:AV→Prop):RO (aO .sub q (.int .u64 a) (.int .u64 b)) K=K (.int .u64 (eZ .u64 (a-b))):=rfl
@[go_sem]theorem aJv(k j:IntKind)(n:Int):qM k (.int j n)=some (.int k (eZ k n)):=rfl
@[go_sem]theorem aRl(k:IntKind)(a b:Int):iP min2 [.int k a,.int k b]=some (.int k (min a b)):=by
 show(bif Nat.beq (jL k) (jL k)then some (AV.int k (bif PP b a then b else a))else none)=_
 rw[beq_eq.2 rfl,lZ]
 by_cases h:b<a
 ·rw[decide_eq_true h,Int.min_eq_right (by omega)];rfl
 ·rw[decide_eq_false h,Int.min_eq_left (by omega)];rfl
theorem NB(k:IntKind)(a b:Int):max2 (.int k a) (.int k b)=some (.int k (max a b)):=by
 show(bif Nat.beq (jL k) (jL k)then some (AV.int k (bif PP a b then b else a))else none)=_
 rw[beq_eq.2 rfl,lZ]
 by_cases h:a<b
 ·rw[decide_eq_true h,Int.max_eq_right (by omega)];rfl
 ·rw[decide_eq_false h,Int.max_eq_left (by omega)];rfl
@[go_sem]theorem aRm(k:IntKind)(a b:Int):iP max2 [.int k a,.int k b]=some (.int k (max a b)):=NB k a b
@[go_sem]theorem aRn(k:IntKind)(a b c:Int):iP max2 [.int k a,.int k b,.int k c]=some (.int k (max (max a b) c)):=by
 show DQ max2 [.int k c] (max2 (.int k a) (.int k b))=_
 rw[NB]
 exact NB k _ c
@[go_sem]theorem aTh(a:aL→R AV)(h:aL)(K:AV→Prop):cP a 0 [h] K=RP (a h) (fun v _=>K v):=by
 show RP (a h) (fun v _=>rdS a v (K v) 0 [])=_
 rfl
@[go_sem]theorem aRo(h:aL)(v:AV):cF h (some v)= .ok v h:=rfl
@[go_sem]theorem aE2(c:List AV):bK c []=some c:=rfl
theorem CR(c:List AV)(off size:Nat)(v:AV)(rest:List (Nat×Nat×AV))(h1:(aK v).length=size)(h2:aZ (aK v)=true):
  bK c ((off,size,v)::rest)=match aV c off (aK v)with|some c=>bK c rest|none=>none:=by
 show(match(bif rE size (aK v)&&aZ (aK v)then aV c off (aK v)else none)with|some c=>_|none=>_)=_
 rw[show rE size (aK v)=true from beq_eq.2 h1,h2]
 rfl
theorem lW(c:List AV)(off:Nat)(v:AV)(rest:List (Nat×Nat×AV))(h1:aK v= [v])(h2:cellA v=true):
  bK c ((off,1,v)::rest)=match aV c off [v]with|some c=>bK c rest|none=>none:=by
 rw[CR _ _ _ _ _ (by rw[h1];rfl) (by rw[h1,pA];exact⟨h2,rfl⟩),h1]
def jY(rest:List (Nat×Nat×AV)):Option (List AV)→Option (List AV)
 |some c=>bK c rest
 |none=>none
@[go_sem]theorem aJw(rest:List (Nat×Nat×AV))(c:List AV):jY rest (some c)=bK c rest:=rfl
@[go_sem]theorem aF8(c:List AV)(off:Nat)(k:IntKind)(n:Int)(rest:List (Nat×Nat×AV)):bK c ((off,1,.int k n)::rest)=jY rest (aV c off [.int k n]):=lW c off _ rest rfl rfl
@[go_sem]theorem aF9(c:List AV)(off:Nat)(s:List Nat)(rest:List (Nat×Nat×AV)):bK c ((off,1,.str s)::rest)=jY rest (aV c off [.str s]):=lW c off _ rest rfl rfl
@[go_sem]theorem aE3(c:List AV)(off:Nat)(b:Bool)(rest:List (Nat×Nat×AV)):bK c ((off,1,.bool b)::rest)=jY rest (aV c off [.bool b]):=lW c off _ rest rfl rfl
@[go_sem]theorem aE4(c:List AV)(off:Nat)(rest:List (Nat×Nat×AV)):bK c ((off,1,.aB)::rest)=jY rest (aV c off [.aB]):=lW c off _ rest rfl rfl
@[go_sem]theorem aJx(c:List AV)(off:Nat)(f:α→List AV)(l:List α)(rest:List (Nat×Nat×AV)):bK c ((off,1,sl f l)::rest)=jY rest (aV c off [sl f l]):=lW c off _ rest rfl rfl
@[go_sem]theorem aCg(c:List AV)(off:Nat)(a b c2 d e:Nat)(rest:List (Nat×Nat×AV)):bK c ((off,1,.slice a b c2 d e)::rest)=jY rest (aV c off [.slice a b c2 d e]):=lW c off _ rest rfl rfl
@[go_sem]theorem aGa(c:List AV)(off:Nat)(a b:Nat)(rest:List (Nat×Nat×AV)):bK c ((off,1,.ptr a b)::rest)=jY rest (aV c off [.ptr a b]):=lW c off _ rest rfl rfl
@[go_sem]theorem aGb(c:List AV)(off:Nat)(a:Nat)(rest:List (Nat×Nat×AV)):bK c ((off,1,.map a)::rest)=jY rest (aV c off [.map a]):=lW c off _ rest rfl rfl
@[go_sem]theorem aE5(c:List AV)(off:Nat)(fn:Fn)(a b:List AV)(rest:List (Nat×Nat×AV)):bK c ((off,1,.func fn a b)::rest)=jY rest (aV c off [.func fn a b]):=lW c off _ rest rfl rfl
def GU(h:aL)(v:AV)(l:List Int):Prop:=v=ints l∨(v= .aB∧l= [])∨∃b off cap kind cs,v= .slice b off l.length cap kind∧aP h b=some (.cells cs)∧(cs.drop off).take l.length=l.map iv
theorem GU.len{h:aL}{v:AV}{l:List Int}(q:GU h v l)(h':aL):bO .sl [v] h'= .ok (iv l.length) h':=by
 rcases q with rfl|⟨rfl,rfl⟩|⟨b,off,cap,kind,cs,rfl,_⟩<;>rfl
theorem GU.ix{h:aL}{v:AV}{l:List Int}(q:GU h v l){i:Nat}{x:Int}(e:l[i]?=some x):∃p,cR none 1 v (some i)=some p∧aJ h (.one 0) p=some (iv x):=by
 rcases q with rfl|⟨rfl,rfl⟩|⟨b,off,cap,kind,cs,rfl,h1,h2⟩
 ·exact⟨_,bV (f:=fun x=> [iv x]) (n:=1) (fun _=>rfl) e,rfl⟩
 ·cases e
 ·have hi:i<l.length:=(aD.1 e).1
  refine⟨.ptr b (off+i*1),?_,?_⟩
  ·show DS i l.length _=_
   unfold DS
   rw[show Nat.blt i l.length=true from blt_eq.2 hi];rfl
  ·show fO (off+i*1) (.one 0) (aP h b)=_
   rw[h1]
   show bR cs (off+i*1+0)=_
   rw[kL,Nat.mul_one,Nat.add_zero]
   have:((cs.drop off).take l.length)[i]?=some (iv x):=by rw[h2];simp[e]
   rw[List.getElem?_take]at this
   simp only[hi,if_true,List.getElem?_drop]at this
   exact this
theorem GU.mono{h h':aL}{v:AV}{l:List Int}(q:GU h v l)(hb:∀b o,aP h b=some o→aP h' b=some o):GU h' v l:=by
 rcases q with e|e|⟨b,off,cap,kind,cs,h1,h2,h3⟩
 ·exact .inl e
 ·exact .inr (.inl e)
 ·exact .inr (.inr ⟨b,off,cap,kind,cs,h1,hb b _ h2,h3⟩)
theorem GU.ints(h:aL)(l:List Int):GU h (ints l) l:= .inl rfl
inductive dG(n0 n:Nat)(f:α→List AV)(h:aL):AV→List α→Prop
 |aB:dG n0 n f h .aB []
 |row {b:Nat} {l:List α}:n0≤b→b<h.aA→aP h b=some (.cells (l.flatMap f))→dG n0 n f h (.slice b 0 l.length l.length (n+1)) l
def gO:AV→Nat→Prop
 | .slice b ..,c=>c=b
 |_,_=>False
theorem dG.len{n0 n:Nat}{f:α→List AV}{h:aL}{v:AV}{l:List α}(q:dG n0 n f h v l)(h':aL):bO .sl [v] h'= .ok (iv l.length) h':=by cases q<;>rfl
theorem dG.seen{n0 n:Nat}{f:α→List AV}{h:aL}{v:AV}{l:List α}(q:dG n0 n f h v l):aQ v=true:=by cases q<;>rfl
theorem dG.mono{n0 n:Nat}{f:α→List AV}{h h':aL}{v:AV}{l:List α}(q:dG n0 n f h v l)(hn:h.aA≤h'.aA)(hb:∀b,gO v b→aP h' b=aP h b):dG n0 n f h' v l:=by
 cases q with
 |aB=>exact .aB
 |row h1 h2 h3=>exact .row h1 (by omega) (by rw[hb _ rfl];exact h3)
theorem dG.old{n0 n:Nat}{f:α→List AV}{h:aL}{v:AV}{l:List α}(q:dG n0 n f h v l){c:Nat}(hc:c<n0):¬gO v c:=by
 cases q with
 |aB=>exact fun x=>x
 |row h1 h2 h3=>exact fun(e:c=_)=>by omega
theorem dG.fz{n0 n:Nat}{f:α→List AV}{h:aL}{v:AV}{l:List α}(q:dG n0 n f h v l)(hf:∀x,(f x).length=n)(hi:∀x∈l,bP (f x)=true):Fz h.t n0 v (sl f l):=by
 have app:∀(a b:List AV),bP a=true→bP b=true→bP (a++b)=true:=by
  intro a;induction a with
  |nil=>intro b _ hb;exact hb
  |cons x a ih=>intro b ha hb;simp only[bP,aI]at ha;simp only[List.cons_append,bP,aI];exact⟨ha.1,ih b ha.2 hb⟩
 have fzl:∀(a:List AV),bP a=true→oD h.t n0 a a:=by
  intro a;induction a with
  |nil=>intro _;exact .nil
  |cons x a ih=>intro ha;simp only[bP,aI]at ha;exact .cons (.same ha.1) (ih ha.2)
 have all:∀(l:List α),(∀x∈l,bP (f x)=true)→bP (l.flatMap f)=true:=by
  intro l;induction l with
  |nil=>intro _;rfl
  |cons x l ih=>intro hl;rw[List.flatMap_cons];exact app _ _ (hl x (by simp)) (ih fun y hy=>hl y (by simp[hy]))
 cases q with
 |aB=>exact .aB
 |row h1 h2 h3=>exact .slice (m:=(l.flatMap f).length) h1 h3 (by rw[List.drop_zero,List.take_length];exact fzl _ (all l hi))
theorem dG.app{n0 n:Nat}{f:α→List AV}{h:aL}{v x:AV}{l xs:List α}(q:dG n0 n f h v l)(hf:∀x,(f x).length=n)(hn0:n0≤h.aA)
  (hc:∀y∈xs,aZ (f y)=true) (hne:xs≠[]) (hl:lenOf x=some xs.length) (he:elems h n xs.length x=some (xs.flatMap f)) (hs:l.length+xs.length<16777216):
  ∃v' h',cY n [v,x] h= .ok v' h'∧dG n0 n f h' v' (l++xs)∧h'.aA=h.aA+1∧(∀c,c<h.aA→¬gO v c→aP h' c=aP h c)∧gO v' h.aA∧(∀c,gO v' c→c=h.aA):=by
 have hxs:0<xs.length:=by cases xs with|nil=>exact absurd rfl hne|cons=>simp
 have hcc:=k9 hc
 cases q with
 |aB=>
  refine⟨.slice h.aA 0 xs.length xs.length (n+1),nw h (.cells (xs.flatMap f)),?_,?_,rfl,?_,rfl,fun c e=>e⟩
  ·show lN h n .aB x (lenOf x)=_
   rw[hl]
   show oM h n xs.length .aB (elems h n xs.length x)=_
   rw[he]
   show(bif aZ (xs.flatMap f)then qJ h n xs.length (xs.flatMap f) .aB else .bad)=_
   rw[hcc]
   show(bif Nat.beq xs.length 0 then R.ok AV.aB h else kX h xs.length (xs.flatMap f) (sl0 n xs.length))=_
   rw[show Nat.beq xs.length 0=false from by cases hb:Nat.beq xs.length 0 with|false=>rfl|true=>rw[beq_eq.1 hb]at hxs;omega]
   show(bif Nat.blt xs.length 16777216 then eY h (.cells (xs.flatMap f)) (sl0 n xs.length)else .bad)=_
   rw[show Nat.blt xs.length 16777216=true from blt_eq.2 (by omega)]
   exact fJ _ _ _
  ·exact .row (l:=xs) hn0 (by rw[aT];omega) (by rw[bQ])
  ·intro c hc _;rw[bF,if_neg (by omega)]
 | @row b _ h1 h2 h3=>
  refine⟨.slice h.aA 0 (l++xs).length (l++xs).length (n+1),nw (jK h b) (.cells ((l++xs).flatMap f)),?_,?_,?_,?_,rfl,fun c e=>e⟩
  ·show lN h n (.slice b 0 l.length l.length (n+1)) x (lenOf x)=_
   rw[hl]
   show oM h n xs.length _ (elems h n xs.length x)=_
   rw[he]
   show(bif aZ (xs.flatMap f)then qJ h n xs.length (xs.flatMap f) _ else .bad)=_
   rw[hcc]
   show DP h n b 0 l.length l.length (n+1) xs.length (xs.flatMap f) (cellsIn 0 (Nat.mul l.length n) (aP h b))=_
   rw[h3]
   have:cellsIn 0 (Nat.mul l.length n) (some (.cells (l.flatMap f)))=some (l.flatMap f):=by
    show bZ (Nat.mul l.length n) (drop 0 (l.flatMap f))=_
    rw[J4,fR (by rw[dA hf];show l.length*n≤_;rw[Nat.mul_comm];omega)]
    rw[List.take_of_length_le (by rw[dA hf];show _≤l.length*n;rw[Nat.mul_comm];omega)]
   rw[this]
   show DO h n b 0 l.length l.length (n+1) xs.length (l.flatMap f) (xs.flatMap f)=_
   show(bif Nat.beq xs.length 0 then R.ok (AV.slice b 0 l.length l.length (n+1)) h else bif Nat.beq (n+1) (n+1)then kX (jK h b) (Nat.add l.length xs.length) (l.flatMap f++xs.flatMap f) (sl0 n (Nat.add l.length xs.length))else .bad)=_
   rw[show Nat.beq xs.length 0=false from by cases hb:Nat.beq xs.length 0 with|false=>rfl|true=>rw[beq_eq.1 hb]at hxs;omega,beq_eq.2 rfl]
   show(bif Nat.blt (l.length+xs.length) 16777216 then eY (jK h b) _ _ else .bad)=_
   rw[show Nat.blt (l.length+xs.length) 16777216=true from blt_eq.2 hs,←List.flatMap_append]
   show eY (jK h b) _ (sl0 n (l.length+xs.length))=_
   rw[fJ,←List.length_append,jZ]
   rfl
  ·refine .row (l:=l++xs) hn0 (by rw[aT,jZ];omega) (by rw[bF,if_pos (by rw[jZ])])
  ·rw[aT,jZ]
  ·intro c hc hb
   rw[bF,jZ,if_neg (by omega),i7,if_neg (show¬c=b from hb)]
end
end
section
open Go.Proofs
noncomputable section
mutual
theorem Fz.idl{t:bE AO}{v v2:AV}:Fz t 0 v v2→idless v2=true
 | .same h=>h
 | .ptr h=>absurd h (Nat.not_lt_zero _)
 | .map h=>absurd h (Nat.not_lt_zero _)
 | .old h=>absurd h (Nat.not_lt_zero _)
 | .slice _ _ h=>oD.idl h
 | .aB=>rfl
 | .agg h=>oD.idl h
 | .tuple h=>oD.idl h
theorem oD.idl{t:bE AO}{l l2:List AV}:oD t 0 l l2→bP l2=true
 | .nil=>rfl
 | .cons h1 h2=>by simp only[bP,aI];exact⟨Fz.idl h1,oD.idl h2⟩
end
def FZ(ρ:Ren):Ren:=⟨fun _=>none,ρ.F⟩
theorem HQ{ρ:Ren}{k:Nat}:¬dQ (FZ ρ) ⟨.leaf,0⟩ k:=fun⟨b,o,m,h,_⟩=>by cases h
theorem dI.none{E:bE TypeInfo}{ρ:Ren}{h:aL}{w:World}(s:dI E ρ h w):dI E (FZ ρ) ⟨.leaf,0⟩ w where
 obj _ _ h:=by cases h
 inj _ _ _ _ _ _ h:=by cases h
 fresh _ _:=rfl
 ren _ _:=rfl
 low _ _ h:=by cases h
 cold _ _ _ h:=by cases h
 old:=s.old
theorem gW.frame{P:Program}{E:bE TypeInfo}{f:Nat}{args:List AV}{h:aL}{K0 K:KH}(hi:bP args=true)(q:gW P E f args ⟨.leaf,0⟩ K0)(hK:∀v h',K0 v h'→∃v2,Fz h'.t 0 v v2∧K v2 h):gW P E f args h K:=by
 intro r n ρ w vs s g hv
 have hv0:dH (FZ ρ) w args vs.toList:=dH.idless (ρ1:=ρ) (ρ2:=FZ ρ) (fun _ h=>h) args vs.toList hi hv
 have fin:∀v v' h' ρ' w',K0 v h'→gQ (FZ ρ) ⟨.leaf,0⟩ w ρ' h' w'→dI E ρ' h' w'→RV ρ' w' v v'→∃v2,K v2 h∧∃ρ2,gQ ρ h w ρ2 h w'∧dI E ρ2 h w'∧RV ρ2 w' v2 v':=by
  intro v v' h' ρ' w' k st s1 rv
  obtain⟨v2,z,k2⟩:=hK v h' k
  have rv2:=Fz.sound s1 z rv
  have keep:∀j,j<w.heap.size→w'.heap[j]?=w.heap[j]?:=fun j hj=>st.keep j hj HQ
  have newF:∀j,(ρ'.cool 0 h'.t).F j→ρ.F j∨w.heap.size≤j:=by
   rintro j (hj|⟨b,o,m,_,hb,hm,rfl⟩)
   ·rcases st.frn j hj with h|h|h
    ·exact .inl h
    ·exact absurd h HQ
    ·exact .inr h
   ·rcases st.live _ ⟨b,o,m,hb,hm,rfl⟩with h|h
    ·exact absurd h HQ
    ·exact .inr h
  have K':n6 ρ w ⟨ρ.f,(ρ'.cool 0 h'.t).F⟩ w':=⟨fun _ _ e=>e,fun j hj o=>fB (keep j (s.old j hj)),fun j hj=> .inl (st.frz j hj)⟩
  refine⟨v2,k2,⟨ρ.f,(ρ'.cool 0 h'.t).F⟩,?_,?_,RV.idless (ρ1:=ρ'.cool 0 h'.t) (ρ2:=⟨ρ.f,(ρ'.cool 0 h'.t).F⟩) (fun _ h=>h) _ _ (Fz.idl z) rv2⟩
  ·exact{
    ext:=fun _ _ e=>e
    size:=st.size
    keep:=fun j hj _=>keep j hj
    live:=fun j ⟨b,o,m,e1,e2,e3⟩=> .inl ⟨b,o,m,e1,e2,e3⟩
    aA:=aE _
    out:=fun _ _=>rfl
    os:=st.os
    tape:=st.tape
    output:=st.output
    loops:=st.loops
    keepF:=fun j hj=>keep j (s.old j hj)
    frz:=fun j hj=> .inl (st.frz j hj)
    frn:=fun j hj=>(newF j hj).imp id .inr}
  ·exact{
    obj:=fun b o hb=>by
     obtain⟨m,e1,e2⟩:=s.obj b o hb
     exact⟨m,e1,OR.mono K' (keep _ (s.low b m e1)) e2⟩
    inj:=fun b b' o o' m m'=>s.inj b b' o o' m m'
    fresh:=s.fresh
    ren:=s.ren
    low:=fun b m e=>Nat.lt_of_lt_of_le (s.low b m e) st.size
    cold:=fun b o m hb hm hF=>by
     rcases newF _ hF with h|h
     ·exact s.cold b o m hb hm h
     ·have:=s.low b m hm;omega
    old:=fun j hj=>by
     rcases hj with hj|⟨b,o,m,_,_,hm,rfl⟩
     ·exact s1.old j hj
     ·exact s1.low b m hm}
 rcases q r n (FZ ρ) w vs s.none g hv0 with⟨h1,h2⟩|⟨v,v',h',ρ',h1,h2,h3,h4,h5,h6⟩
 ·refine .inl ⟨h1,CallsIn.mono h2 ?_⟩
  intro e w' he
  cases e with
  |returned v'=>
   obtain⟨v,h',k,ρ',st,s1,rv⟩:=he
   obtain⟨v2,k2,ρ2,a1,a2,a3⟩:=fin v v' h' ρ' w' k st s1 rv
   exact⟨v2,h,k2,ρ2,a1,a2,a3⟩
  |panicked c=>exact he.elim
  |outgrown=>exact he.elim
 ·obtain⟨v2,k2,ρ2,a1,a2,a3⟩:=fin v v' h' ρ' w h2 h3 h4 h5
  exact .inr ⟨v2,v',h,ρ2,h1,k2,a1,a2,a3,h6⟩
theorem qT{f:Nat}{args:List AV}{h:aL}{K:KH}(q:gW Tryz.prog E f args h K)(hk:∃v h',K v h'):C f args h K:=by
 have:W T M X (.fn f args h) (V K):=W.known q hk
 exact this
def qU(f:AV→Option AV):List AV→Option (List AV)
 | []=>some []
 |v::l=>match f v with
  |some v2=>(match qU f l with|some l2=>some (v2::l2)|none=>none)
  |none=>none
def frz(t:bE AO):Nat→AV→Option AV
 |0,_=>none
 |k+1,v=>match v with
  | .aB=>some (.rslice [] 0 0 false)
  | .slice b off len _ _=>(match t.get b with
   |some (.cells l)=>(match qU (frz t k) (drop off l)with|some l2=>some (.rslice l2 len len false)|none=>none)
   |_=>none)
  | .agg l=>(match qU (frz t k) l with|some l2=>some (.agg l2)|none=>none)
  | .tuple l=>(match qU (frz t k) l with|some l2=>some (.tuple l2)|none=>none)
  |v=>bif idless v then some v else none
theorem AB{t:bE AO}{f:AV→Option AV}(hf:∀v v2,f v=some v2→Fz t 0 v v2):∀{l l2:List AV},qU f l=some l2→oD t 0 l l2
 | [],_,h=>by cases h;exact .nil
 |v::l,l2,h=>by
  simp only[qU]at h
  cases hv:f v with
  |none=>rw[hv]at h;cases h
  |some v2=>
   rw[hv]at h
   cases hl:qU f l with
   |none=>rw[hl]at h;cases h
   |some l3=>rw[hl]at h;cases h;exact .cons (hf v v2 hv) (AB hf hl)
theorem V3{t:bE AO}:∀(k:Nat) (v v2:AV),frz t k v=some v2→Fz t 0 v v2
 |0,_,_,h=>by cases h
 |k+1,v,v2,h=>by
  have ih:=V3 (t:=t) k
  have oth:(bif idless v then some v else none)=some v2→Fz t 0 v v2:=fun h=>by
   cases hi:idless v with
   |true=>rw[hi]at h;cases h;exact .same hi
   |false=>rw[hi]at h;cases h
  cases v<;>simp only[frz]at h<;>first
   |exact oth h
   |(cases h;exact .aB)
   |(cases hm:qU (frz t k) _ with
     |none=>rw[hm]at h;cases h
     |some l2=>rw[hm]at h;cases h;first|exact .agg (AB ih hm)|exact .tuple (AB ih hm))
   |skip
  rename_i b off len cap kind
  cases hb:t.get b with
  |none=>rw[hb]at h;cases h
  |some o=>
   rw[hb]at h
   cases o with
   |cells l=>
    simp only at h
    cases hm:qU (frz t k) (drop off l)with
    |none=>rw[hm]at h;cases h
    |some l2=>
     rw[hm]at h;cases h
     rw[dX]at hm
     exact .slice (m:=(l.drop off).length) (aH _) hb (by rw[List.take_length];exact AB ih hm)
   |_=>cases h
def Y0(k:Nat)(f:Nat)(args:List AV):Option AV:=match gZ T (ev T M k) f args ⟨.leaf,0⟩with
 | .ok v h=>frz h.t 1000 v
 | .bad=>none
theorem LV{k f:Nat}{args:List AV}{v:AV}{h:aL}{K:KH}(hi:bP args=true)(e:Y0 k f args=some v)(hk:K v h):C f args h K:=by
 unfold Y0 at e
 cases hc:gZ T (ev T M k) f args ⟨.leaf,0⟩with
 |bad=>rw[hc]at e;cases e
 |ok v0 h0=>
  rw[hc]at e
  have w:W T M X (.fn f args ⟨.leaf,0⟩) (V fun v h=>v=v0∧h=h0):=W.mono (ZV hc) X.mono fun x hx=>by subst hx;exact⟨rfl,rfl⟩
  refine qT (gW.frame hi (D3 w) ?_) ⟨v,h,hk⟩
  rintro v' h' ⟨rfl,rfl⟩
  exact⟨v,V3 1000 _ _ e,hk⟩
end
end
end Ev
